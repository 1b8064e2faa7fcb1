/- Joined texts of this claim's proof: WrG, WrH, LwA. -/
import Derived.Test.YtgfmiladfeoldaaGreatDoorPl43
import Derived.Maps.OwnOps
import Derived.Test.YtgfmiladfeoldaaGreatDoorPl44
import Derived.Test.YtgfmiladfeoldaaGreatDoorPl42
set_option linter.unusedSimpArgs false
set_option linter.unusedVariables false
namespace Go.Proofs.YtgfmiladfeoldaaGreatDoor
open Go.RowKit NatP LexP Go.Maps
theorem law_im : Keyed Tryz.prog 3 := int_keyed Tryz.underlying3
theorem wpList_insert_own {H : Type} {P : Program} (w : World) {ops : Array Oper} {rest : List Oper} {o : Oper} {a : Act} {Q : Exit → Act → World → Prop}
  (hg : o.guard = none) (m x v : Operand) (t : TypeId) (hop : o.op = Op.insert t m x v)
  (k e : TypeId) (K : Keyed P k) (ht : P.underlying t = some (.map k e)) (R : Value → Option (DataW H × List MemPlace)) (b n : Nat) (D : DataW H)
  (hm : a.eval m = .map (some b)) (hown : w.ownsMap P k R b n D) (hn : n < maxLen) (key val : Value) (kl : Lit) (hx : a.eval x = key) (hv : a.eval v = val) (hkey : keyOf P k key = some kl)
  (d : DataW H) (ps : List MemPlace) (hval : R val = some (d, ps))
  (hK : ∀ w', w'.ownsMap P k R b (n + 1) (D.put kl d) → w.grownBy w' (some b) → wpList P ops Q rest (a.put o.dst undef) w') :
  wpList P ops Q (o :: rest) a w := by
 refine wpList_plain hg fun K' hK' => ?_
 obtain ⟨w', hrun, r1, r2⟩ := hown.update K ht hn hkey hval
 unfold Oper.wp
 simp [execOp, hop, hm, hx, hv, hrun, Result.andThen]
 exact hK' _ _ (hK w' r1 r2)
theorem zero_u8 (w : World) : (zeroValue 5).run Tryz.prog w = .ok (.int .u8 0) w := by kernel_rfl
theorem below_grown {w0 w w' : World} {b : Nat} (h : Below w0.heap.size w0 w) (g : w.grownBy w' (some b)) (hb : w0.heap.size ≤ b) : Below w0.heap.size w0 w' :=
 ⟨g.os.trans h.os, g.tape.trans h.tape, g.output.trans h.output, Nat.le_trans h.size g.size, fun k hk => (g.block k (Nat.lt_of_lt_of_le hk h.size) (fun e => by cases e; omega)).trans (h.block k hk)⟩
set_option maxRecDepth 100000 in
set_option maxHeartbeats 4000000 in
theorem node_add (a b : SynP.Ex) (IA : NodeOk a) (IB : NodeOk b) : NodeOk (.add a b) := by
 intro l R p tv bv out o m w h ht hs hl ho hp
 have hsz : (SynP.Ex.add a b).size = a.size + b.size + 1 := rfl
 obtain ⟨hs2, hst⟩ := SynP.SegN.app (a := a.flat p ++ b.flat (p + a.size)) (b := [⟨6, [], [p + a.size - 1, p + a.size + b.size - 1]⟩]) hs
 obtain ⟨hsa, hsb⟩ := SynP.SegN.app hs2
 rw [SynP.flatLen] at hsb
 have hx : l[p + a.size + b.size]? = some ⟨((6 : Nat) : Int), [], [((p + a.size - 1 : Nat) : Int), ((p + a.size + b.size - 1 : Nat) : Int)]⟩ := by
  have := hst.one
  rw [List.length_append, SynP.flatLen, SynP.flatLen, ← Nat.add_assoc] at this
  exact this
 have hap := SynP.size_pos' a
 have hbp := SynP.size_pos' b
 have HSA := Lib.hid hsa
 have HSB := Lib.hid hsb
 have hpl : (SynP.Ex.add a b).pr = SynP.par (SynP.loose 6 0 a.op) a.pr ++ [32, 43, 32] ++ SynP.par (SynP.loose 6 1 b.op) b.pr := rfl
 rw [hpl] at hl
 simp only [List.length_append, List.length_cons, List.length_nil] at hl
 have hdl : (SynP.Ex.add a b).dp = max (SynP.parD (SynP.loose 6 0 a.op) a.dp) (SynP.parD (SynP.loose 6 1 b.op) b.dp) := rfl
 rw [show p + (SynP.Ex.add a b).size - 1 = p + a.size + b.size by rw [hsz]; omega, hpl, hdl]
 rw [hsz] at ho hp
 obtain ⟨k0, hk0⟩ : ∃ k0, k0 = p + a.size - 1 := ⟨_, rfl⟩
 rw [← hk0] at hx
 obtain ⟨k1, hk1⟩ : ∃ k1, k1 = p + a.size + b.size - 1 := ⟨_, rfl⟩
 rw [← hk1] at hx
 obtain ⟨K, hK⟩ : ∃ K, K = p + a.size + b.size := ⟨_, rfl⟩
 rw [← hK] at hx ⊢
 have HK0 := Lib.hid hk0
 have HK1 := Lib.hid hk1
 have hmm := @run_makeMap Tryz.prog
 have HSZ : Hid (∀ A B : Obj, ((w.alloc A).alloc B).heap.size = w.heap.size + 2) := fun A B => by simp
 clear hK hs hs2 hst hsa hsb hpl hdl hsz hk0 hk1
 obtain ⟨tg, ln, tcap, ko, kn, kcap, rfl, hKl, hkn, hkc, c0, c1, c2, c3, hb, hN⟩ := nst_start h ht hx
 have HKN := Lib.hid hkn
 have HB := Lib.hid hb
 have HN := Lib.hid hN
 obtain ⟨OUT, hOUT⟩ : ∃ OUT, OUT = out ++ (SynP.par (SynP.loose 6 0 a.op) a.pr ++ [32, 43, 32] ++ SynP.par (SynP.loose 6 1 b.op) b.pr) := ⟨_, rfl⟩
 have HOUT := Lib.hid hOUT
 obtain ⟨M, hM⟩ : ∃ M, M = max m (o + (max (SynP.parD (SynP.loose 6 0 a.op) a.dp) (SynP.parD (SynP.loose 6 1 b.op) b.dp))) := ⟨_, rfl⟩
 have HM := Lib.hid hM
 have hle := h.le
 have hmf : ∀ (fn : Fn) (first cap : Array Value) (w : World), (Instr.makeFunc fn first cap).run Tryz.prog w = .ok (.func fn first cap) w := fun _ _ _ _ => rfl
 rw [← hOUT, ← hM]
 clear hb hN h ht hx hOUT hM hkn
 have hown0 : (((w.alloc (.cells #[.pointer (some ⟨R, 0, none⟩)] 86)).alloc (.cells #[.int .i64 6, .string ⟨#[]⟩, .slice ko kn kcap] 43)).alloc (.map #[] 0)).ownsMap Tryz.prog 3 (plainElem (H := Unit) Tryz.prog 5) (w.heap.size + 1 + 1) 0 (.map []) := by
  have := World.ownsMap_made ((w.alloc (.cells #[.pointer (some ⟨R, 0, none⟩)] 86)).alloc (.cells #[.int .i64 6, .string ⟨#[]⟩, .slice ko kn kcap] 43)) Tryz.prog 3 (plainElem (H := Unit) Tryz.prog 5)
  rw [show ((w.alloc (.cells #[.pointer (some ⟨R, 0, none⟩)] 86)).alloc (.cells #[.int .i64 6, .string ⟨#[]⟩, .slice ko kn kcap] 43)).heap.size = w.heap.size + 1 + 1 by simp] at this
  exact this
 go_enter Tryz.func51, Tryz.ntmps51
 go_wp2_with (refine wpList_insert_own (H := Unit) _ rfl _ _ _ 136 rfl 3 5 law_im Tryz.underlying136 _ (w.heap.size + 1 + 1) 0 _ rfl hown0 (by unfold maxLen; omega) _ _ _ rfl rfl (keyOf_int_mk Tryz.underlying3 rfl) _ [] (plainElem_int Tryz.underlying5 rfl) ?_)
 intro w3 hown3 hgrow3
 obtain ⟨w2, hw2⟩ : ∃ w2, w2 = (w.alloc (.cells #[.pointer (some ⟨R, 0, none⟩)] 86)).alloc (.cells #[.int .i64 6, .string ⟨#[]⟩, .slice ko kn kcap] 43) := ⟨_, rfl⟩
 have hw2' : w2 = (w.alloc (.cells #[.pointer (some ⟨R, 0, none⟩)] 86)).alloc (.cells #[.int .i64 ((6 : Nat) : Int), .string ⟨([] : Bytes).toArray⟩, .slice ko kn kcap] 43) := hw2
 have HWS : Hid (w2.heap.size = w.heap.size + 2) := by show _ = _; rw [hw2]; exact HSZ.out _ _
 rw [← hw2'] at HB HN
 rw [← hw2] at hgrow3
 clear hw2 hw2' c0 c1 c2 c3 hown0
 obtain ⟨G, hG⟩ : ∃ G, G = w.heap.size := ⟨_, rfl⟩
 rw [← hG] at HN hown3 hgrow3 ⊢
 obtain ⟨g0, g1, g2, g3⟩ := HN.out.cells
 have HGE := Lib.hid hG
 clear hG
 have HG2 : Hid (G + 2 = w2.heap.size) := by show _ = _; have h1 := HWS.out; have h2 := HGE.out; omega
 have hb3 : Below w2.heap.size w2 w3 := below_grown (below_alloc w2 _) hgrow3 (by have := HG2.out; omega)
 have HB3 := Lib.hid hb3
 clear hb3 hgrow3
 go_wp2_with (refine wpList_insert_own (H := Unit) _ rfl _ _ _ 136 rfl 3 5 law_im Tryz.underlying136 _ (G + 1 + 1) 1 _ rfl hown3 (by unfold maxLen; omega) _ _ _ rfl rfl (keyOf_int_mk Tryz.underlying3 rfl) _ [] (plainElem_int Tryz.underlying5 rfl) ?_)
 intro w4 hown4 hgrow4
 have HB4 := Lib.hid (below_grown HB3.out hgrow4 (by have := HG2.out; omega))
 clear hgrow4 hown3
 go_wp2_with (refine wpList_insert_own (H := Unit) _ rfl _ _ _ 136 rfl 3 5 law_im Tryz.underlying136 _ (G + 1 + 1) 2 _ rfl hown4 (by unfold maxLen; omega) _ _ _ rfl rfl (keyOf_int_mk Tryz.underlying3 rfl) _ [] (plainElem_int Tryz.underlying5 rfl) ?_)
 intro w5 hown5 hgrow5
 have HB5 := Lib.hid (below_grown HB4.out hgrow5 (by have := HG2.out; omega))
 clear hgrow5 hown4 g0 g1 g2 g3
 have HN5 := Lib.hid (HN.out.below HB5.out)
 obtain ⟨g0, g1, g2, g3⟩ := HN5.out.cells
 go_wp2_with (at_lookup; refine wpList_lookup_own_int (H := Unit) _ rfl _ _ 136 rfl 3 5 .u8 law_im Tryz.underlying136 Tryz.underlying5 (zero_u8 _) (G + 1 + 1) 3 _ rfl hown5 _ _ rfl (keyOf_int_mk Tryz.underlying3 rfl) ?_)
 intro c hat _
 have hc : c = 43 := by
  have e1 : DataW.atKey ((((DataW.map (H := Unit) []).put (.int .i64 6) (.lit (.int .u8 43))).put (.int .i64 7) (.lit (.int .u8 45))).put (.int .i64 8) (.lit (.int .u8 42))) (.int .i64 6) (.lit (.int .u8 0)) = .lit (.int .u8 43) := rfl
  have e2 := e1.symm.trans hat
  injection e2 with e3
  injection e3 with _ e4
  exact e4.symm
 subst hc
 clear hat hown5
 go_wp2_with fail
 refine (part_of 6 0 a IA l R p _ _ _ _ _ _ HN5.out.ws HN5.out.nl HSA.out (by omega) (by omega) (by omega) _ _ _ HN5.out.kl (by rw [HK0.out]; rfl)).mono ?_
 rintro y w6 ⟨rfl, bv6, a1, a2, a3⟩
 have HN6 := Lib.hid (HN5.out.step a1 a2 a3)
 clear a1 a2 a3 g0 g1 g2 g3
 obtain ⟨g0, g1, g2, g3⟩ := HN6.out.cells
 go_wp2_with fail
 refine (bld_str R _ _ _ _ _ [32, 43, 32] _ HN6.out.ws (by rw [List.length_append]; omega) (by decide)).mono ?_
 rintro y w7 ⟨rfl, bv7, a1, a2, a3⟩
 have HN7 := Lib.hid (HN6.out.step a1 a2 a3)
 clear a1 a2 a3 g0 g1 g2 g3
 obtain ⟨g0, g1, g2, g3⟩ := HN7.out.cells
 go_wp2_with fail
 refine (part_of 6 1 b IB l R (p + a.size) _ _ _ _ _ _ HN7.out.ws HN7.out.nl HSB.out (by simp only [List.length_append, List.length_cons, List.length_nil]; omega) (by omega) (by omega) _ _ _ HN7.out.kl (by rw [HK1.out]; rfl)).mono ?_
 rintro y w8 ⟨rfl, bv8, a1, a2, a3⟩
 have HN8 := Lib.hid (HN7.out.step a1 a2 a3)
 clear a1 a2 a3 g0 g1 g2 g3
 obtain ⟨g0, g1, g2, g3⟩ := HN8.out.cells
 go_wp2_with fail
 first | go_end0 | refine bodyPost_ret (results_none rfl _ _ _) rfl ?_
 have hf := HN8.out.fin HB.out
 rw [show out ++ SynP.par (SynP.loose 6 0 a.op) a.pr ++ [32, 43, 32] ++ SynP.par (SynP.loose 6 1 b.op) b.pr = OUT by rw [HOUT.out]; simp only [List.append_assoc], show max (max m (o + SynP.parD (SynP.loose 6 0 a.op) a.dp)) (o + SynP.parD (SynP.loose 6 1 b.op) b.dp) = M by rw [HM.out]; omega] at hf
 exact hf
set_option maxRecDepth 100000 in
set_option maxHeartbeats 4000000 in
theorem node_sub (a b : SynP.Ex) (IA : NodeOk a) (IB : NodeOk b) : NodeOk (.sub a b) := by
 intro l R p tv bv out o m w h ht hs hl ho hp
 have hsz : (SynP.Ex.sub a b).size = a.size + b.size + 1 := rfl
 obtain ⟨hs2, hst⟩ := SynP.SegN.app (a := a.flat p ++ b.flat (p + a.size)) (b := [⟨7, [], [p + a.size - 1, p + a.size + b.size - 1]⟩]) hs
 obtain ⟨hsa, hsb⟩ := SynP.SegN.app hs2
 rw [SynP.flatLen] at hsb
 have hx : l[p + a.size + b.size]? = some ⟨((7 : Nat) : Int), [], [((p + a.size - 1 : Nat) : Int), ((p + a.size + b.size - 1 : Nat) : Int)]⟩ := by
  have := hst.one
  rw [List.length_append, SynP.flatLen, SynP.flatLen, ← Nat.add_assoc] at this
  exact this
 have hap := SynP.size_pos' a
 have hbp := SynP.size_pos' b
 have HSA := Lib.hid hsa
 have HSB := Lib.hid hsb
 have hpl : (SynP.Ex.sub a b).pr = SynP.par (SynP.loose 7 0 a.op) a.pr ++ [32, 45, 32] ++ SynP.par (SynP.loose 7 1 b.op) b.pr := rfl
 rw [hpl] at hl
 simp only [List.length_append, List.length_cons, List.length_nil] at hl
 have hdl : (SynP.Ex.sub a b).dp = max (SynP.parD (SynP.loose 7 0 a.op) a.dp) (SynP.parD (SynP.loose 7 1 b.op) b.dp) := rfl
 rw [show p + (SynP.Ex.sub a b).size - 1 = p + a.size + b.size by rw [hsz]; omega, hpl, hdl]
 rw [hsz] at ho hp
 obtain ⟨k0, hk0⟩ : ∃ k0, k0 = p + a.size - 1 := ⟨_, rfl⟩
 rw [← hk0] at hx
 obtain ⟨k1, hk1⟩ : ∃ k1, k1 = p + a.size + b.size - 1 := ⟨_, rfl⟩
 rw [← hk1] at hx
 obtain ⟨K, hK⟩ : ∃ K, K = p + a.size + b.size := ⟨_, rfl⟩
 rw [← hK] at hx ⊢
 have HK0 := Lib.hid hk0
 have HK1 := Lib.hid hk1
 have hmm := @run_makeMap Tryz.prog
 have HSZ : Hid (∀ A B : Obj, ((w.alloc A).alloc B).heap.size = w.heap.size + 2) := fun A B => by simp
 clear hK hs hs2 hst hsa hsb hpl hdl hsz hk0 hk1
 obtain ⟨tg, ln, tcap, ko, kn, kcap, rfl, hKl, hkn, hkc, c0, c1, c2, c3, hb, hN⟩ := nst_start h ht hx
 have HKN := Lib.hid hkn
 have HB := Lib.hid hb
 have HN := Lib.hid hN
 obtain ⟨OUT, hOUT⟩ : ∃ OUT, OUT = out ++ (SynP.par (SynP.loose 7 0 a.op) a.pr ++ [32, 45, 32] ++ SynP.par (SynP.loose 7 1 b.op) b.pr) := ⟨_, rfl⟩
 have HOUT := Lib.hid hOUT
 obtain ⟨M, hM⟩ : ∃ M, M = max m (o + (max (SynP.parD (SynP.loose 7 0 a.op) a.dp) (SynP.parD (SynP.loose 7 1 b.op) b.dp))) := ⟨_, rfl⟩
 have HM := Lib.hid hM
 have hle := h.le
 have hmf : ∀ (fn : Fn) (first cap : Array Value) (w : World), (Instr.makeFunc fn first cap).run Tryz.prog w = .ok (.func fn first cap) w := fun _ _ _ _ => rfl
 rw [← hOUT, ← hM]
 clear hb hN h ht hx hOUT hM hkn
 have hown0 : (((w.alloc (.cells #[.pointer (some ⟨R, 0, none⟩)] 86)).alloc (.cells #[.int .i64 7, .string ⟨#[]⟩, .slice ko kn kcap] 43)).alloc (.map #[] 0)).ownsMap Tryz.prog 3 (plainElem (H := Unit) Tryz.prog 5) (w.heap.size + 1 + 1) 0 (.map []) := by
  have := World.ownsMap_made ((w.alloc (.cells #[.pointer (some ⟨R, 0, none⟩)] 86)).alloc (.cells #[.int .i64 7, .string ⟨#[]⟩, .slice ko kn kcap] 43)) Tryz.prog 3 (plainElem (H := Unit) Tryz.prog 5)
  rw [show ((w.alloc (.cells #[.pointer (some ⟨R, 0, none⟩)] 86)).alloc (.cells #[.int .i64 7, .string ⟨#[]⟩, .slice ko kn kcap] 43)).heap.size = w.heap.size + 1 + 1 by simp] at this
  exact this
 go_enter Tryz.func51, Tryz.ntmps51
 go_wp2_with (refine wpList_insert_own (H := Unit) _ rfl _ _ _ 136 rfl 3 5 law_im Tryz.underlying136 _ (w.heap.size + 1 + 1) 0 _ rfl hown0 (by unfold maxLen; omega) _ _ _ rfl rfl (keyOf_int_mk Tryz.underlying3 rfl) _ [] (plainElem_int Tryz.underlying5 rfl) ?_)
 intro w3 hown3 hgrow3
 obtain ⟨w2, hw2⟩ : ∃ w2, w2 = (w.alloc (.cells #[.pointer (some ⟨R, 0, none⟩)] 86)).alloc (.cells #[.int .i64 7, .string ⟨#[]⟩, .slice ko kn kcap] 43) := ⟨_, rfl⟩
 have hw2' : w2 = (w.alloc (.cells #[.pointer (some ⟨R, 0, none⟩)] 86)).alloc (.cells #[.int .i64 ((7 : Nat) : Int), .string ⟨([] : Bytes).toArray⟩, .slice ko kn kcap] 43) := hw2
 have HWS : Hid (w2.heap.size = w.heap.size + 2) := by show _ = _; rw [hw2]; exact HSZ.out _ _
 rw [← hw2'] at HB HN
 rw [← hw2] at hgrow3
 clear hw2 hw2' c0 c1 c2 c3 hown0
 obtain ⟨G, hG⟩ : ∃ G, G = w.heap.size := ⟨_, rfl⟩
 rw [← hG] at HN hown3 hgrow3 ⊢
 obtain ⟨g0, g1, g2, g3⟩ := HN.out.cells
 have HGE := Lib.hid hG
 clear hG
 have HG2 : Hid (G + 2 = w2.heap.size) := by show _ = _; have h1 := HWS.out; have h2 := HGE.out; omega
 have hb3 : Below w2.heap.size w2 w3 := below_grown (below_alloc w2 _) hgrow3 (by have := HG2.out; omega)
 have HB3 := Lib.hid hb3
 clear hb3 hgrow3
 go_wp2_with (refine wpList_insert_own (H := Unit) _ rfl _ _ _ 136 rfl 3 5 law_im Tryz.underlying136 _ (G + 1 + 1) 1 _ rfl hown3 (by unfold maxLen; omega) _ _ _ rfl rfl (keyOf_int_mk Tryz.underlying3 rfl) _ [] (plainElem_int Tryz.underlying5 rfl) ?_)
 intro w4 hown4 hgrow4
 have HB4 := Lib.hid (below_grown HB3.out hgrow4 (by have := HG2.out; omega))
 clear hgrow4 hown3
 go_wp2_with (refine wpList_insert_own (H := Unit) _ rfl _ _ _ 136 rfl 3 5 law_im Tryz.underlying136 _ (G + 1 + 1) 2 _ rfl hown4 (by unfold maxLen; omega) _ _ _ rfl rfl (keyOf_int_mk Tryz.underlying3 rfl) _ [] (plainElem_int Tryz.underlying5 rfl) ?_)
 intro w5 hown5 hgrow5
 have HB5 := Lib.hid (below_grown HB4.out hgrow5 (by have := HG2.out; omega))
 clear hgrow5 hown4 g0 g1 g2 g3
 have HN5 := Lib.hid (HN.out.below HB5.out)
 obtain ⟨g0, g1, g2, g3⟩ := HN5.out.cells
 go_wp2_with (at_lookup; refine wpList_lookup_own_int (H := Unit) _ rfl _ _ 136 rfl 3 5 .u8 law_im Tryz.underlying136 Tryz.underlying5 (zero_u8 _) (G + 1 + 1) 3 _ rfl hown5 _ _ rfl (keyOf_int_mk Tryz.underlying3 rfl) ?_)
 intro c hat _
 have hc : c = 45 := by
  have e1 : DataW.atKey ((((DataW.map (H := Unit) []).put (.int .i64 6) (.lit (.int .u8 43))).put (.int .i64 7) (.lit (.int .u8 45))).put (.int .i64 8) (.lit (.int .u8 42))) (.int .i64 7) (.lit (.int .u8 0)) = .lit (.int .u8 45) := rfl
  have e2 := e1.symm.trans hat
  injection e2 with e3
  injection e3 with _ e4
  exact e4.symm
 subst hc
 clear hat hown5
 go_wp2_with fail
 refine (part_of 7 0 a IA l R p _ _ _ _ _ _ HN5.out.ws HN5.out.nl HSA.out (by omega) (by omega) (by omega) _ _ _ HN5.out.kl (by rw [HK0.out]; rfl)).mono ?_
 rintro y w6 ⟨rfl, bv6, a1, a2, a3⟩
 have HN6 := Lib.hid (HN5.out.step a1 a2 a3)
 clear a1 a2 a3 g0 g1 g2 g3
 obtain ⟨g0, g1, g2, g3⟩ := HN6.out.cells
 go_wp2_with fail
 refine (bld_str R _ _ _ _ _ [32, 45, 32] _ HN6.out.ws (by rw [List.length_append]; omega) (by decide)).mono ?_
 rintro y w7 ⟨rfl, bv7, a1, a2, a3⟩
 have HN7 := Lib.hid (HN6.out.step a1 a2 a3)
 clear a1 a2 a3 g0 g1 g2 g3
 obtain ⟨g0, g1, g2, g3⟩ := HN7.out.cells
 go_wp2_with fail
 refine (part_of 7 1 b IB l R (p + a.size) _ _ _ _ _ _ HN7.out.ws HN7.out.nl HSB.out (by simp only [List.length_append, List.length_cons, List.length_nil]; omega) (by omega) (by omega) _ _ _ HN7.out.kl (by rw [HK1.out]; rfl)).mono ?_
 rintro y w8 ⟨rfl, bv8, a1, a2, a3⟩
 have HN8 := Lib.hid (HN7.out.step a1 a2 a3)
 clear a1 a2 a3 g0 g1 g2 g3
 obtain ⟨g0, g1, g2, g3⟩ := HN8.out.cells
 go_wp2_with fail
 first | go_end0 | refine bodyPost_ret (results_none rfl _ _ _) rfl ?_
 have hf := HN8.out.fin HB.out
 rw [show out ++ SynP.par (SynP.loose 7 0 a.op) a.pr ++ [32, 45, 32] ++ SynP.par (SynP.loose 7 1 b.op) b.pr = OUT by rw [HOUT.out]; simp only [List.append_assoc], show max (max m (o + SynP.parD (SynP.loose 7 0 a.op) a.dp)) (o + SynP.parD (SynP.loose 7 1 b.op) b.dp) = M by rw [HM.out]; omega] at hf
 exact hf
set_option maxRecDepth 100000 in
set_option maxHeartbeats 4000000 in
theorem node_mul (a b : SynP.Ex) (IA : NodeOk a) (IB : NodeOk b) : NodeOk (.mul a b) := by
 intro l R p tv bv out o m w h ht hs hl ho hp
 have hsz : (SynP.Ex.mul a b).size = a.size + b.size + 1 := rfl
 obtain ⟨hs2, hst⟩ := SynP.SegN.app (a := a.flat p ++ b.flat (p + a.size)) (b := [⟨8, [], [p + a.size - 1, p + a.size + b.size - 1]⟩]) hs
 obtain ⟨hsa, hsb⟩ := SynP.SegN.app hs2
 rw [SynP.flatLen] at hsb
 have hx : l[p + a.size + b.size]? = some ⟨((8 : Nat) : Int), [], [((p + a.size - 1 : Nat) : Int), ((p + a.size + b.size - 1 : Nat) : Int)]⟩ := by
  have := hst.one
  rw [List.length_append, SynP.flatLen, SynP.flatLen, ← Nat.add_assoc] at this
  exact this
 have hap := SynP.size_pos' a
 have hbp := SynP.size_pos' b
 have HSA := Lib.hid hsa
 have HSB := Lib.hid hsb
 have hpl : (SynP.Ex.mul a b).pr = SynP.par (SynP.loose 8 0 a.op) a.pr ++ [42] ++ SynP.par (SynP.loose 8 1 b.op) b.pr := rfl
 rw [hpl] at hl
 simp only [List.length_append, List.length_cons, List.length_nil] at hl
 have hdl : (SynP.Ex.mul a b).dp = max (SynP.parD (SynP.loose 8 0 a.op) a.dp) (SynP.parD (SynP.loose 8 1 b.op) b.dp) := rfl
 rw [show p + (SynP.Ex.mul a b).size - 1 = p + a.size + b.size by rw [hsz]; omega, hpl, hdl]
 rw [hsz] at ho hp
 obtain ⟨k0, hk0⟩ : ∃ k0, k0 = p + a.size - 1 := ⟨_, rfl⟩
 rw [← hk0] at hx
 obtain ⟨k1, hk1⟩ : ∃ k1, k1 = p + a.size + b.size - 1 := ⟨_, rfl⟩
 rw [← hk1] at hx
 obtain ⟨K, hK⟩ : ∃ K, K = p + a.size + b.size := ⟨_, rfl⟩
 rw [← hK] at hx ⊢
 have HK0 := Lib.hid hk0
 have HK1 := Lib.hid hk1
 have hmm := @run_makeMap Tryz.prog
 have HSZ : Hid (∀ A B : Obj, ((w.alloc A).alloc B).heap.size = w.heap.size + 2) := fun A B => by simp
 clear hK hs hs2 hst hsa hsb hpl hdl hsz hk0 hk1
 obtain ⟨tg, ln, tcap, ko, kn, kcap, rfl, hKl, hkn, hkc, c0, c1, c2, c3, hb, hN⟩ := nst_start h ht hx
 have HKN := Lib.hid hkn
 have HB := Lib.hid hb
 have HN := Lib.hid hN
 obtain ⟨OUT, hOUT⟩ : ∃ OUT, OUT = out ++ (SynP.par (SynP.loose 8 0 a.op) a.pr ++ [42] ++ SynP.par (SynP.loose 8 1 b.op) b.pr) := ⟨_, rfl⟩
 have HOUT := Lib.hid hOUT
 obtain ⟨M, hM⟩ : ∃ M, M = max m (o + (max (SynP.parD (SynP.loose 8 0 a.op) a.dp) (SynP.parD (SynP.loose 8 1 b.op) b.dp))) := ⟨_, rfl⟩
 have HM := Lib.hid hM
 have hle := h.le
 have hmf : ∀ (fn : Fn) (first cap : Array Value) (w : World), (Instr.makeFunc fn first cap).run Tryz.prog w = .ok (.func fn first cap) w := fun _ _ _ _ => rfl
 rw [← hOUT, ← hM]
 clear hb hN h ht hx hOUT hM hkn
 have hown0 : (((w.alloc (.cells #[.pointer (some ⟨R, 0, none⟩)] 86)).alloc (.cells #[.int .i64 8, .string ⟨#[]⟩, .slice ko kn kcap] 43)).alloc (.map #[] 0)).ownsMap Tryz.prog 3 (plainElem (H := Unit) Tryz.prog 5) (w.heap.size + 1 + 1) 0 (.map []) := by
  have := World.ownsMap_made ((w.alloc (.cells #[.pointer (some ⟨R, 0, none⟩)] 86)).alloc (.cells #[.int .i64 8, .string ⟨#[]⟩, .slice ko kn kcap] 43)) Tryz.prog 3 (plainElem (H := Unit) Tryz.prog 5)
  rw [show ((w.alloc (.cells #[.pointer (some ⟨R, 0, none⟩)] 86)).alloc (.cells #[.int .i64 8, .string ⟨#[]⟩, .slice ko kn kcap] 43)).heap.size = w.heap.size + 1 + 1 by simp] at this
  exact this
 go_enter Tryz.func51, Tryz.ntmps51
 go_wp2_with (refine wpList_insert_own (H := Unit) _ rfl _ _ _ 136 rfl 3 5 law_im Tryz.underlying136 _ (w.heap.size + 1 + 1) 0 _ rfl hown0 (by unfold maxLen; omega) _ _ _ rfl rfl (keyOf_int_mk Tryz.underlying3 rfl) _ [] (plainElem_int Tryz.underlying5 rfl) ?_)
 intro w3 hown3 hgrow3
 obtain ⟨w2, hw2⟩ : ∃ w2, w2 = (w.alloc (.cells #[.pointer (some ⟨R, 0, none⟩)] 86)).alloc (.cells #[.int .i64 8, .string ⟨#[]⟩, .slice ko kn kcap] 43) := ⟨_, rfl⟩
 have hw2' : w2 = (w.alloc (.cells #[.pointer (some ⟨R, 0, none⟩)] 86)).alloc (.cells #[.int .i64 ((8 : Nat) : Int), .string ⟨([] : Bytes).toArray⟩, .slice ko kn kcap] 43) := hw2
 have HWS : Hid (w2.heap.size = w.heap.size + 2) := by show _ = _; rw [hw2]; exact HSZ.out _ _
 rw [← hw2'] at HB HN
 rw [← hw2] at hgrow3
 clear hw2 hw2' c0 c1 c2 c3 hown0
 obtain ⟨G, hG⟩ : ∃ G, G = w.heap.size := ⟨_, rfl⟩
 rw [← hG] at HN hown3 hgrow3 ⊢
 obtain ⟨g0, g1, g2, g3⟩ := HN.out.cells
 have HGE := Lib.hid hG
 clear hG
 have HG2 : Hid (G + 2 = w2.heap.size) := by show _ = _; have h1 := HWS.out; have h2 := HGE.out; omega
 have hb3 : Below w2.heap.size w2 w3 := below_grown (below_alloc w2 _) hgrow3 (by have := HG2.out; omega)
 have HB3 := Lib.hid hb3
 clear hb3 hgrow3
 go_wp2_with (refine wpList_insert_own (H := Unit) _ rfl _ _ _ 136 rfl 3 5 law_im Tryz.underlying136 _ (G + 1 + 1) 1 _ rfl hown3 (by unfold maxLen; omega) _ _ _ rfl rfl (keyOf_int_mk Tryz.underlying3 rfl) _ [] (plainElem_int Tryz.underlying5 rfl) ?_)
 intro w4 hown4 hgrow4
 have HB4 := Lib.hid (below_grown HB3.out hgrow4 (by have := HG2.out; omega))
 clear hgrow4 hown3
 go_wp2_with (refine wpList_insert_own (H := Unit) _ rfl _ _ _ 136 rfl 3 5 law_im Tryz.underlying136 _ (G + 1 + 1) 2 _ rfl hown4 (by unfold maxLen; omega) _ _ _ rfl rfl (keyOf_int_mk Tryz.underlying3 rfl) _ [] (plainElem_int Tryz.underlying5 rfl) ?_)
 intro w5 hown5 hgrow5
 have HB5 := Lib.hid (below_grown HB4.out hgrow5 (by have := HG2.out; omega))
 clear hgrow5 hown4 g0 g1 g2 g3
 have HN5 := Lib.hid (HN.out.below HB5.out)
 obtain ⟨g0, g1, g2, g3⟩ := HN5.out.cells
 go_wp2_with (at_lookup; refine wpList_lookup_own_int (H := Unit) _ rfl _ _ 136 rfl 3 5 .u8 law_im Tryz.underlying136 Tryz.underlying5 (zero_u8 _) (G + 1 + 1) 3 _ rfl hown5 _ _ rfl (keyOf_int_mk Tryz.underlying3 rfl) ?_)
 intro c hat _
 have hc : c = 42 := by
  have e1 : DataW.atKey ((((DataW.map (H := Unit) []).put (.int .i64 6) (.lit (.int .u8 43))).put (.int .i64 7) (.lit (.int .u8 45))).put (.int .i64 8) (.lit (.int .u8 42))) (.int .i64 8) (.lit (.int .u8 0)) = .lit (.int .u8 42) := rfl
  have e2 := e1.symm.trans hat
  injection e2 with e3
  injection e3 with _ e4
  exact e4.symm
 subst hc
 clear hat hown5
 go_wp2_with fail
 refine (part_of 8 0 a IA l R p _ _ _ _ _ _ HN5.out.ws HN5.out.nl HSA.out (by omega) (by omega) (by omega) _ _ _ HN5.out.kl (by rw [HK0.out]; rfl)).mono ?_
 rintro y w6 ⟨rfl, bv6, a1, a2, a3⟩
 have HN6 := Lib.hid (HN5.out.step a1 a2 a3)
 clear a1 a2 a3 g0 g1 g2 g3
 obtain ⟨g0, g1, g2, g3⟩ := HN6.out.cells
 go_wp2_with fail
 refine (bld_byte R _ _ _ _ _ 42 _ HN6.out.ws (by rw [List.length_append]; omega)).mono ?_
 rintro y w7 ⟨rfl, bv7, a1, a2, a3⟩
 have HN7 := Lib.hid (HN6.out.step a1 a2 a3)
 clear a1 a2 a3 g0 g1 g2 g3
 obtain ⟨g0, g1, g2, g3⟩ := HN7.out.cells
 go_wp2_with fail
 refine (part_of 8 1 b IB l R (p + a.size) _ _ _ _ _ _ HN7.out.ws HN7.out.nl HSB.out (by simp only [List.length_append, List.length_cons, List.length_nil]; omega) (by omega) (by omega) _ _ _ HN7.out.kl (by rw [HK1.out]; rfl)).mono ?_
 rintro y w8 ⟨rfl, bv8, a1, a2, a3⟩
 have HN8 := Lib.hid (HN7.out.step a1 a2 a3)
 clear a1 a2 a3 g0 g1 g2 g3
 obtain ⟨g0, g1, g2, g3⟩ := HN8.out.cells
 go_wp2_with fail
 first | go_end0 | refine bodyPost_ret (results_none rfl _ _ _) rfl ?_
 have hf := HN8.out.fin HB.out
 rw [show out ++ SynP.par (SynP.loose 8 0 a.op) a.pr ++ [42] ++ SynP.par (SynP.loose 8 1 b.op) b.pr = OUT by rw [HOUT.out]; simp only [List.append_assoc], show max (max m (o + SynP.parD (SynP.loose 8 0 a.op) a.dp)) (o + SynP.parD (SynP.loose 8 1 b.op) b.dp) = M by rw [HM.out]; omega] at hf
 exact hf
end Go.Proofs.YtgfmiladfeoldaaGreatDoor
namespace Go.Proofs.YtgfmiladfeoldaaGreatDoor
open Go.RowKit NatP LexP
mutual
theorem node_all : (e : SynP.Ex) → NodeOk e
 | .num n => node_num n
 | .name x => node_name x
 | .mat m => node_mat m
 | .cpx l => node_cpx l
 | .neg a => node_neg a (node_all a)
 | .turn a => node_turn a (node_all a)
 | .add a b => node_add a b (node_all a) (node_all b)
 | .sub a b => node_sub a b (node_all a) (node_all b)
 | .mul a b => node_mul a b (node_all a) (node_all b)
 | .pow a n => node_pow a n (node_all a)
 | .call x l => node_call x l (nodes_all l)
theorem nodes_all : (l : SynP.Exs) → ∀ e ∈ SynP.exL l, NodeOk e
 | .nil => fun e h => by cases h
 | .cons a l => fun e h => by
  rcases List.mem_cons.1 h with h | h
  ·rw [h]; exact node_all a
  ·exact nodes_all l e h
end
theorem ln_all : (n : SynP.Ln) → LnOk n
 | .nothing => ln_nothing
 | .lets x e => ln_lets x e (node_all e)
 | .cmd x .nil => ln_cmd_nil x (nodes_all _)
 | .cmd x (.cons a l) => ln_cmd_cons x a l (nodes_all _)
theorem Tryz.cellsByte : Tryz.prog.cellsOf 5 = 1 := by kernel_rfl
set_option maxRecDepth 100000 in
set_option maxHeartbeats 2000000 in
theorem bld_string (R : Nat) (tv bv : Value) (out : Bytes) (o m : Nat) (w : World) (h : WrS w R tv bv out o m) :
  Calls Tryz.prog 52 #[.pointer (some ⟨R, 1, none⟩)] w fun e w' => e = .returned (.string ⟨out.toArray⟩) ∧ Below R w w' := by
 obtain ⟨av, -, hbk⟩ := h.blk
 have hown := h.own
 have hRl := h.lt
 by_cases h0 : out = []
 ·subst h0
  have hUS : ∀ (W : World) (q : Option Addr), (Builtin.unsafeString_ #[145, 3] 9 #[.pointer q, .int .i64 0]).run Tryz.prog W = .ok (.string .empty) W := fun W q => Lib.run_unsafeString_none W _ _ _ q
  rcases hown.2 with ⟨rfl, -⟩ | ⟨g, cap, cur, rfl, hbg, hg, hnc, hcm, hcs, htake⟩
  ·have c1 : w.drew.cell? ⟨R, 2, none⟩ = some (.slice none 0 0) := by
    have : w.drew.heap[R]? = some (.cells #[tv, av, .slice none 0 0, .int .i64 (o : Nat), .int .i64 (m : Nat)] 92 (0, 0)) := hbk
    rw [cell_of_row _ _ _ _ _ _ this]; rfl
   have hSD : (Builtin.unsafeSliceData_ #[88] 145 #[.slice none 0 0]).run Tryz.prog w.drew = .ok (.pointer none) w.drew := rfl
   clear h hbk hown
   go_enter Tryz.func52, Tryz.ntmps52
   go_wp2_with fail
   go_region
   all_goals (go_wp2_with fail; go_ret; exact ⟨rfl, Below.drew (Below.refl _ _)⟩)
  ·have e0 : ([] : Bytes).length = 0 := rfl
   rw [e0] at hbk hnc
   by_cases hc0 : cap = 0
   ·subst hc0
    have c1 : w.drew.cell? ⟨R, 2, none⟩ = some (.slice (some ⟨g, 0, none⟩) 0 0) := by
     have : w.drew.heap[R]? = some (.cells #[tv, av, .slice (some ⟨g, 0, none⟩) 0 0, .int .i64 (o : Nat), .int .i64 (m : Nat)] 92 (0, 0)) := hbk
     rw [cell_of_row _ _ _ _ _ _ this]; rfl
    have hSD : (Builtin.unsafeSliceData_ #[88] 145 #[.slice (some ⟨g, 0, none⟩) 0 0]).run Tryz.prog w.drew = .ok (.pointer (some ⟨w.drew.heap.size, 0, none⟩)) (w.drew.alloc (.view ⟨g, 0, none⟩ 5)) :=
     Lib.run_unsafeSliceData_zero w.drew _ _ 5 Tryz.underlying145 ⟨g, 0, none⟩ 0 (5, cur.size) (by have hg' : w.drew.heap[g]? = some (.cells cur 5 (0, 0)) := hg; simp [World.shape?, hg'])
    have c2 : (w.drew.alloc (.view ⟨g, 0, none⟩ 5)).cell? ⟨R, 2, none⟩ = some (.slice (some ⟨g, 0, none⟩) 0 0) := by
     have : (w.drew.alloc (.view ⟨g, 0, none⟩ 5)).heap[R]? = _ := (Lib.alloc_old w.drew _ R hRl).trans hbk
     rw [cell_of_row _ _ _ _ _ _ this]; rfl
    have c3 : (w.alloc (.view ⟨g, 0, none⟩ 5)).drew.cell? ⟨R, 2, none⟩ = some (.slice (some ⟨g, 0, none⟩) 0 0) := c2
    have c0 : w.cell? ⟨R, 2, none⟩ = some (.slice (some ⟨g, 0, none⟩) 0 0) := c1
    clear h hbk hown hg
    go_enter Tryz.func52, Tryz.ntmps52
    go_wp2_with fail
    go_region
    all_goals (go_wp2_with fail; go_ret; exact ⟨rfl, (Below.drew (Below.refl _ w)).alloc (Nat.le_of_lt hRl) _⟩)
   ·have c1 : w.drew.cell? ⟨R, 2, none⟩ = some (.slice (some ⟨g, 0, none⟩) 0 cap) := by
     have : w.drew.heap[R]? = some (.cells #[tv, av, .slice (some ⟨g, 0, none⟩) 0 cap, .int .i64 (o : Nat), .int .i64 (m : Nat)] 92 (0, 0)) := hbk
     rw [cell_of_row _ _ _ _ _ _ this]; rfl
    have hSD : (Builtin.unsafeSliceData_ #[88] 145 #[.slice (some ⟨g, 0, none⟩) 0 cap]).run Tryz.prog w.drew = .ok (.pointer (some ⟨g, 0, none⟩)) w.drew :=
     Lib.run_unsafeSliceData_row _ _ _ _ _ _ hc0
    clear h hbk hown hc0
    go_enter Tryz.func52, Tryz.ntmps52
    go_wp2_with fail
    go_region
    all_goals (go_wp2_with fail; go_ret; exact ⟨rfl, Below.drew (Below.refl _ _)⟩)
 ·have hl0 : out.length ≠ 0 := by simpa using h0
  obtain ⟨g, cap, cur, rfl, hbg, hg, hnc, hcm, hcs, htake⟩ : ∃ g cap cur, bv = .slice (some ⟨g, 0, none⟩) out.length cap ∧ R + 1 ≤ g ∧ w.heap[g]? = some (.cells cur 5 (0, 0)) ∧ out.length ≤ cap ∧ cap ≤ maxLen ∧ cur.size = cap * 1 ∧ cur.toList.take (out.length * 1) = u8s out := by
   rcases hown.2 with ⟨_, hz⟩ | ⟨g, cap, cur, hv, r⟩
   ·exact absurd hz hl0
   ·exact ⟨g, cap, cur, hv, r⟩
  have c1 : w.drew.cell? ⟨R, 2, none⟩ = some (.slice (some ⟨g, 0, none⟩) out.length cap) := by
   have : w.drew.heap[R]? = some (.cells #[tv, av, .slice (some ⟨g, 0, none⟩) out.length cap, .int .i64 (o : Nat), .int .i64 (m : Nat)] 92 (0, 0)) := hbk
   rw [cell_of_row _ _ _ _ _ _ this]; rfl
  have hSD : (Builtin.unsafeSliceData_ #[88] 145 #[.slice (some ⟨g, 0, none⟩) out.length cap]).run Tryz.prog w.drew = .ok (.pointer (some ⟨g, 0, none⟩)) w.drew :=
   Lib.run_unsafeSliceData_row _ _ _ _ _ _ (by omega)
  have hUS : (Builtin.unsafeString_ #[145, 3] 9 #[.pointer (some ⟨g, 0, none⟩), .int .i64 out.length]).run Tryz.prog w.drew = .ok (.string ⟨out.toArray⟩) (w.drew.freeze ⟨g, 0, none⟩ out.length) := by
   refine Lib.run_unsafeString_row w.drew 145 3 9 5 Tryz.underlying145 Tryz.cellsByte g cur.size (by have hg' : w.drew.heap[g]? = some (.cells cur 5 (0, 0)) := hg; simp [World.shape?, hg']) out h0 (by omega) (by unfold maxLen at hcm; omega) ?_
   intro j x hx
   have := hown.cells (g := g) rfl j (.int .u8 x.toNat) (by simp [u8s, hx])
   exact this
  obtain ⟨n, hn⟩ : ∃ n, n = out.length := ⟨_, rfl⟩
  rw [← hn] at c1 hSD hUS hnc
  clear h hbk hown hn hl0 htake
  go_enter Tryz.func52, Tryz.ntmps52
  go_wp2_with fail
  go_region
  all_goals (go_wp2_with fail; go_ret; exact ⟨rfl, Lib.below_freeze (Below.drew (Below.refl _ w)) (p := ⟨g, 0, none⟩) (by show R ≤ g; omega) _⟩)
end Go.Proofs.YtgfmiladfeoldaaGreatDoor
namespace Go.Proofs.YtgfmiladfeoldaaGreatDoor
open Go.RowKit NatP LexP
theorem ndCells_at : ∀ (a : List Nv) (k : Nat) (t : Nv), a[k]? = some t →
  (ndCells a)[k * 3]? = some (.int .i64 (t.1.op : Nat)) ∧ (ndCells a)[k * 3 + 1]? = some (.string ⟨t.1.text.toArray⟩) ∧ (ndCells a)[k * 3 + 2]? = some t.2 := by
 intro a
 induction a with
 | nil => intro k t h; simp at h
 | cons d cs ih =>
  intro k t h
  cases k with
  | zero => simp at h; subst h; simp [ndCells]
  | succ k =>
   simp only [List.getElem?_cons_succ] at h
   obtain ⟨h1, h2, h3⟩ := ih k t h
   have e0 : (k + 1) * 3 = k * 3 + 1 + 1 + 1 := by omega
   have e1 : (k + 1) * 3 + 1 = k * 3 + 1 + 1 + 1 + 1 := by omega
   have e2 : (k + 1) * 3 + 2 = k * 3 + 2 + 1 + 1 + 1 := by omega
   have ec : ndCells (d :: cs) = .int .i64 (d.1.op : Nat) :: .string ⟨d.1.text.toArray⟩ :: d.2 :: ndCells cs := by simp [ndCells]
   rw [e1, e2, e0, ec]
   simp only [List.getElem?_cons_succ]
   exact ⟨h1, h2, h3⟩
theorem KR.kl {w : World} {R : Nat} {og : Option Nat} {v : Value} {ks : List Nat} (h : KR w R og v ks) : KL w w.heap.size v (ks.map fun k : Nat => (k : Int)) := by
 obtain ⟨ao, cap, rfl, h1, h2, h3, h4⟩ := h
 refine ⟨ao, cap, by rw [List.length_map], by simpa using h1, h2, fun h0 => ?_⟩
 rw [List.length_map] at h0
 obtain ⟨g, rfl, h5⟩ := h4 h0
 refine ⟨g, rfl, (h3 g rfl).2.1, fun j k hj => ?_⟩
 rw [List.getElem?_map] at hj
 cases ha : ks[j]? with
 | none => rw [ha] at hj; cases hj
 | some a => rw [ha] at hj; cases hj; exact h5 j a ha
theorem Tr.ndl {w : World} {B : Nat} {nv : Value} {ns : List Nv} (h : Tr w B nv ns) : NdL w w.heap.size nv (SynP.nL (ns.map Prod.fst)) := by
 obtain ⟨ao, cap, rfl, a1, a2, a3⟩ := ownsRow_shape h.own
 have hl : (SynP.nL (ns.map Prod.fst)).length = ns.length := by simp [SynP.nL]
 refine ⟨ao, cap, by rw [hl], by rw [hl]; exact a1, a2, fun h0 => ?_⟩
 rw [hl] at h0
 obtain ⟨g, rfl, -, b2, b3⟩ := a3 h0
 refine ⟨g, rfl, b2, fun j x hj => ?_⟩
 simp only [SynP.nL, List.map_map, List.getElem?_map] at hj
 cases hp : ns[j]? with
 | none => rw [hp] at hj; cases hj
 | some p =>
  rw [hp] at hj
  cases hj
  have hjl := (List.getElem?_eq_some_iff.1 hp).1
  obtain ⟨c1, c2, c3⟩ := ndCells_at ns j p hp
  exact ⟨by rw [b3 _ (by omega)]; exact c1, by rw [b3 _ (by omega)]; exact c2, p.2, by rw [b3 _ (by omega)]; exact c3, (h.kids p (List.mem_of_getElem? hp)).kl⟩
theorem KL.up {w w' : World} {B : Nat} {v : Value} {ks : List Int} (h : KL w B v ks) (hb : Below B w w') {B' : Nat} (hB : B ≤ B') : KL w' B' v ks := by
 obtain ⟨ao, cap, rfl, h1, h2, h3⟩ := h.below hb
 refine ⟨ao, cap, rfl, h1, h2, fun h0 => ?_⟩
 obtain ⟨g, rfl, h5, h6⟩ := h3 h0
 exact ⟨g, rfl, Nat.lt_of_lt_of_le h5 hB, h6⟩
theorem NdL.up {w w' : World} {B : Nat} {v : Value} {l : List SynP.NI} (h : NdL w B v l) (hb : Below B w w') {B' : Nat} (hB : B ≤ B') : NdL w' B' v l := by
 obtain ⟨ao, cap, rfl, h1, h2, h3⟩ := h.below hb
 refine ⟨ao, cap, rfl, h1, h2, fun h0 => ?_⟩
 obtain ⟨g, rfl, h5, h6⟩ := h3 h0
 refine ⟨g, rfl, Nat.lt_of_lt_of_le h5 hB, fun j x hj => ?_⟩
 obtain ⟨a, b, kv, c, d⟩ := h6 j x hj
 exact ⟨a, b, kv, c, d.up (Below.refl _ _) hB⟩
theorem NdL.nil (w : World) (B : Nat) : NdL w B (.slice none 0 0) [] := ⟨none, 0, rfl, Nat.le_refl _, Nat.zero_le _, fun h => absurd h (by decide)⟩
end Go.Proofs.YtgfmiladfeoldaaGreatDoor
