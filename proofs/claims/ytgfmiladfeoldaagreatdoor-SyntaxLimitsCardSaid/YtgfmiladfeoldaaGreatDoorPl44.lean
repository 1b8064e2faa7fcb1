/- Joined texts of this claim's proof: WrF. -/
import Derived.Test.YtgfmiladfeoldaaGreatDoorPl43
set_option linter.unusedSimpArgs false
set_option linter.unusedVariables false
namespace Go.Proofs.YtgfmiladfeoldaaGreatDoor
open Go.RowKit NatP LexP
set_option maxRecDepth 100000 in
set_option maxHeartbeats 4000000 in
theorem node_text1 (l : List SynP.NI) (R K : Nat) (tv bv : Value) (out : Bytes) (o m : Nat) (w : World) (h : WrS w R tv bv out o m) (ht : NdL w R tv l) (text : Bytes) (ks : List Int) (hx : l[K]? = some ⟨((1 : Nat) : Int), text, ks⟩) (hl : out.length + text.length ≤ 1099511627776) :
  Calls Tryz.prog 51 #[.pointer (some ⟨R, 0, none⟩), .int .i64 (K : Nat)] w (WrP R tv bv (out ++ text) o m (.tuple #[]) w) := by
 obtain ⟨tg, ln, tcap, ko, kn, kcap, rfl, hKl, hkn, hkc, c0, c1, c2, c3, hb, hN⟩ := nst_start h ht hx
 have HKN := Lib.hid hkn
 have HB := Lib.hid hb
 have HN := Lib.hid hN
 obtain ⟨OUT, hOUT⟩ : ∃ OUT, OUT = out ++ text := ⟨_, rfl⟩
 have HOUT := Lib.hid hOUT
 obtain ⟨M, hM⟩ : ∃ M, M = m := ⟨_, rfl⟩
 have HM := Lib.hid hM
 have hle := h.le
 have hmf : ∀ (fn : Fn) (first cap : Array Value) (w : World), (Instr.makeFunc fn first cap).run Tryz.prog w = .ok (.func fn first cap) w := fun _ _ _ _ => rfl
 rw [← hOUT]
 clear hb hN h ht hx hOUT hM hkn
 go_enter Tryz.func51, Tryz.ntmps51
 go_wp2_with fail
 obtain ⟨w2, hw2⟩ : ∃ w2, w2 = (w.alloc (.cells #[.pointer (some ⟨R, 0, none⟩)] 86)).alloc (.cells #[.int .i64 1, .string ⟨text.toArray⟩, .slice ko kn kcap] 43) := ⟨_, rfl⟩
 have hw2' : w2 = (w.alloc (.cells #[.pointer (some ⟨R, 0, none⟩)] 86)).alloc (.cells #[.int .i64 ((1 : Nat) : Int), .string ⟨(text : Bytes).toArray⟩, .slice ko kn kcap] 43) := hw2
 rw [← hw2'] at HB HN
 rw [← hw2]
 clear hw2 hw2' c0 c1 c2 c3
 obtain ⟨G, hG⟩ : ∃ G, G = w.heap.size := ⟨_, rfl⟩
 rw [← hG] at HN ⊢
 obtain ⟨g0, g1, g2, g3⟩ := HN.out.cells
 have HGE := Lib.hid hG
 clear hG
 go_region_held3 (fun w' => w'.cell? ⟨G, 0, none⟩ = some (.pointer (some ⟨R, 0, none⟩)) ∧ w'.cell? ⟨G + 1, 1, none⟩ = some (.string ⟨(text : Bytes).toArray⟩))
  (first
   | go_keep
   | exact ⟨((HN.out.below (below_drewN _ _)).step a1 a2 a3).cells.1, ((HN.out.below (below_drewN _ _)).step a1 a2 a3).cells.2.2.1⟩)
  ((go_at_call 105; refine (bld_str R _ _ _ _ _ (text) _ (HN.out.ws.below (below_drewN _ _)) (by omega) (by omega)).mono ?_; rintro y w5 ⟨rfl, bv5, a1, a2, a3⟩))
 have HN5 := Lib.hid ((HN.out.below (below_drewN _ _)).step a1 a2 a3)
 clear a1 a2 a3 g0 g1 g2 g3
 obtain ⟨g0, g1, g2, g3⟩ := HN5.out.cells
 go_wp2_with fail
 first | go_end0 | refine bodyPost_ret (results_none rfl _ _ _) rfl ?_
 have hf := HN5.out.fin HB.out
 rw [show out ++ text = OUT by exact HOUT.out.symm] at hf
 exact hf
set_option maxRecDepth 100000 in
set_option maxHeartbeats 4000000 in
theorem node_text2 (l : List SynP.NI) (R K : Nat) (tv bv : Value) (out : Bytes) (o m : Nat) (w : World) (h : WrS w R tv bv out o m) (ht : NdL w R tv l) (text : Bytes) (ks : List Int) (hx : l[K]? = some ⟨((2 : Nat) : Int), text, ks⟩) (hl : out.length + text.length ≤ 1099511627776) :
  Calls Tryz.prog 51 #[.pointer (some ⟨R, 0, none⟩), .int .i64 (K : Nat)] w (WrP R tv bv (out ++ text) o m (.tuple #[]) w) := by
 obtain ⟨tg, ln, tcap, ko, kn, kcap, rfl, hKl, hkn, hkc, c0, c1, c2, c3, hb, hN⟩ := nst_start h ht hx
 have HKN := Lib.hid hkn
 have HB := Lib.hid hb
 have HN := Lib.hid hN
 obtain ⟨OUT, hOUT⟩ : ∃ OUT, OUT = out ++ text := ⟨_, rfl⟩
 have HOUT := Lib.hid hOUT
 obtain ⟨M, hM⟩ : ∃ M, M = m := ⟨_, rfl⟩
 have HM := Lib.hid hM
 have hle := h.le
 have hmf : ∀ (fn : Fn) (first cap : Array Value) (w : World), (Instr.makeFunc fn first cap).run Tryz.prog w = .ok (.func fn first cap) w := fun _ _ _ _ => rfl
 rw [← hOUT]
 clear hb hN h ht hx hOUT hM hkn
 go_enter Tryz.func51, Tryz.ntmps51
 go_wp2_with fail
 obtain ⟨w2, hw2⟩ : ∃ w2, w2 = (w.alloc (.cells #[.pointer (some ⟨R, 0, none⟩)] 86)).alloc (.cells #[.int .i64 2, .string ⟨text.toArray⟩, .slice ko kn kcap] 43) := ⟨_, rfl⟩
 have hw2' : w2 = (w.alloc (.cells #[.pointer (some ⟨R, 0, none⟩)] 86)).alloc (.cells #[.int .i64 ((2 : Nat) : Int), .string ⟨(text : Bytes).toArray⟩, .slice ko kn kcap] 43) := hw2
 rw [← hw2'] at HB HN
 rw [← hw2]
 clear hw2 hw2' c0 c1 c2 c3
 obtain ⟨G, hG⟩ : ∃ G, G = w.heap.size := ⟨_, rfl⟩
 rw [← hG] at HN ⊢
 obtain ⟨g0, g1, g2, g3⟩ := HN.out.cells
 have HGE := Lib.hid hG
 clear hG
 go_region_held3 (fun w' => w'.cell? ⟨G, 0, none⟩ = some (.pointer (some ⟨R, 0, none⟩)) ∧ w'.cell? ⟨G + 1, 1, none⟩ = some (.string ⟨(text : Bytes).toArray⟩))
  (first
   | go_keep
   | exact ⟨((HN.out.below (below_drewN _ _)).step a1 a2 a3).cells.1, ((HN.out.below (below_drewN _ _)).step a1 a2 a3).cells.2.2.1⟩)
  ((go_at_call 105; refine (bld_str R _ _ _ _ _ (text) _ (HN.out.ws.below (below_drewN _ _)) (by omega) (by omega)).mono ?_; rintro y w5 ⟨rfl, bv5, a1, a2, a3⟩))
 have HN5 := Lib.hid ((HN.out.below (below_drewN _ _)).step a1 a2 a3)
 clear a1 a2 a3 g0 g1 g2 g3
 obtain ⟨g0, g1, g2, g3⟩ := HN5.out.cells
 go_wp2_with fail
 first | go_end0 | refine bodyPost_ret (results_none rfl _ _ _) rfl ?_
 have hf := HN5.out.fin HB.out
 rw [show out ++ text = OUT by exact HOUT.out.symm] at hf
 exact hf
set_option maxRecDepth 100000 in
set_option maxHeartbeats 4000000 in
theorem node_text3 (l : List SynP.NI) (R K : Nat) (tv bv : Value) (out : Bytes) (o m : Nat) (w : World) (h : WrS w R tv bv out o m) (ht : NdL w R tv l) (text : Bytes) (ks : List Int) (hx : l[K]? = some ⟨((3 : Nat) : Int), text, ks⟩) (hl : out.length + text.length ≤ 1099511627776) :
  Calls Tryz.prog 51 #[.pointer (some ⟨R, 0, none⟩), .int .i64 (K : Nat)] w (WrP R tv bv (out ++ text) o m (.tuple #[]) w) := by
 obtain ⟨tg, ln, tcap, ko, kn, kcap, rfl, hKl, hkn, hkc, c0, c1, c2, c3, hb, hN⟩ := nst_start h ht hx
 have HKN := Lib.hid hkn
 have HB := Lib.hid hb
 have HN := Lib.hid hN
 obtain ⟨OUT, hOUT⟩ : ∃ OUT, OUT = out ++ text := ⟨_, rfl⟩
 have HOUT := Lib.hid hOUT
 obtain ⟨M, hM⟩ : ∃ M, M = m := ⟨_, rfl⟩
 have HM := Lib.hid hM
 have hle := h.le
 have hmf : ∀ (fn : Fn) (first cap : Array Value) (w : World), (Instr.makeFunc fn first cap).run Tryz.prog w = .ok (.func fn first cap) w := fun _ _ _ _ => rfl
 rw [← hOUT]
 clear hb hN h ht hx hOUT hM hkn
 go_enter Tryz.func51, Tryz.ntmps51
 go_wp2_with fail
 obtain ⟨w2, hw2⟩ : ∃ w2, w2 = (w.alloc (.cells #[.pointer (some ⟨R, 0, none⟩)] 86)).alloc (.cells #[.int .i64 3, .string ⟨text.toArray⟩, .slice ko kn kcap] 43) := ⟨_, rfl⟩
 have hw2' : w2 = (w.alloc (.cells #[.pointer (some ⟨R, 0, none⟩)] 86)).alloc (.cells #[.int .i64 ((3 : Nat) : Int), .string ⟨(text : Bytes).toArray⟩, .slice ko kn kcap] 43) := hw2
 rw [← hw2'] at HB HN
 rw [← hw2]
 clear hw2 hw2' c0 c1 c2 c3
 obtain ⟨G, hG⟩ : ∃ G, G = w.heap.size := ⟨_, rfl⟩
 rw [← hG] at HN ⊢
 obtain ⟨g0, g1, g2, g3⟩ := HN.out.cells
 have HGE := Lib.hid hG
 clear hG
 go_region_held3 (fun w' => w'.cell? ⟨G, 0, none⟩ = some (.pointer (some ⟨R, 0, none⟩)) ∧ w'.cell? ⟨G + 1, 1, none⟩ = some (.string ⟨(text : Bytes).toArray⟩))
  (first
   | go_keep
   | exact ⟨((HN.out.below (below_drewN _ _)).step a1 a2 a3).cells.1, ((HN.out.below (below_drewN _ _)).step a1 a2 a3).cells.2.2.1⟩)
  ((go_at_call 105; refine (bld_str R _ _ _ _ _ (text) _ (HN.out.ws.below (below_drewN _ _)) (by omega) (by omega)).mono ?_; rintro y w5 ⟨rfl, bv5, a1, a2, a3⟩))
 have HN5 := Lib.hid ((HN.out.below (below_drewN _ _)).step a1 a2 a3)
 clear a1 a2 a3 g0 g1 g2 g3
 obtain ⟨g0, g1, g2, g3⟩ := HN5.out.cells
 go_wp2_with fail
 first | go_end0 | refine bodyPost_ret (results_none rfl _ _ _) rfl ?_
 have hf := HN5.out.fin HB.out
 rw [show out ++ text = OUT by exact HOUT.out.symm] at hf
 exact hf
set_option maxRecDepth 100000 in
set_option maxHeartbeats 4000000 in
theorem node_text13 (l : List SynP.NI) (R K : Nat) (tv bv : Value) (out : Bytes) (o m : Nat) (w : World) (h : WrS w R tv bv out o m) (ht : NdL w R tv l) (text : Bytes) (ks : List Int) (hx : l[K]? = some ⟨((13 : Nat) : Int), text, ks⟩) (hl : out.length + text.length ≤ 1099511627776) :
  Calls Tryz.prog 51 #[.pointer (some ⟨R, 0, none⟩), .int .i64 (K : Nat)] w (WrP R tv bv (out ++ text) o m (.tuple #[]) w) := by
 obtain ⟨tg, ln, tcap, ko, kn, kcap, rfl, hKl, hkn, hkc, c0, c1, c2, c3, hb, hN⟩ := nst_start h ht hx
 have HKN := Lib.hid hkn
 have HB := Lib.hid hb
 have HN := Lib.hid hN
 obtain ⟨OUT, hOUT⟩ : ∃ OUT, OUT = out ++ text := ⟨_, rfl⟩
 have HOUT := Lib.hid hOUT
 obtain ⟨M, hM⟩ : ∃ M, M = m := ⟨_, rfl⟩
 have HM := Lib.hid hM
 have hle := h.le
 have hmf : ∀ (fn : Fn) (first cap : Array Value) (w : World), (Instr.makeFunc fn first cap).run Tryz.prog w = .ok (.func fn first cap) w := fun _ _ _ _ => rfl
 rw [← hOUT]
 clear hb hN h ht hx hOUT hM hkn
 go_enter Tryz.func51, Tryz.ntmps51
 go_wp2_with fail
 obtain ⟨w2, hw2⟩ : ∃ w2, w2 = (w.alloc (.cells #[.pointer (some ⟨R, 0, none⟩)] 86)).alloc (.cells #[.int .i64 13, .string ⟨text.toArray⟩, .slice ko kn kcap] 43) := ⟨_, rfl⟩
 have hw2' : w2 = (w.alloc (.cells #[.pointer (some ⟨R, 0, none⟩)] 86)).alloc (.cells #[.int .i64 ((13 : Nat) : Int), .string ⟨(text : Bytes).toArray⟩, .slice ko kn kcap] 43) := hw2
 rw [← hw2'] at HB HN
 rw [← hw2]
 clear hw2 hw2' c0 c1 c2 c3
 obtain ⟨G, hG⟩ : ∃ G, G = w.heap.size := ⟨_, rfl⟩
 rw [← hG] at HN ⊢
 obtain ⟨g0, g1, g2, g3⟩ := HN.out.cells
 have HGE := Lib.hid hG
 clear hG
 go_region_held3 (fun w' => w'.cell? ⟨G, 0, none⟩ = some (.pointer (some ⟨R, 0, none⟩)) ∧ w'.cell? ⟨G + 1, 1, none⟩ = some (.string ⟨(text : Bytes).toArray⟩))
  (first
   | go_keep
   | exact ⟨((HN.out.below (below_drewN _ _)).step a1 a2 a3).cells.1, ((HN.out.below (below_drewN _ _)).step a1 a2 a3).cells.2.2.1⟩)
  ((go_at_call 105; refine (bld_str R _ _ _ _ _ (text) _ (HN.out.ws.below (below_drewN _ _)) (by omega) (by omega)).mono ?_; rintro y w5 ⟨rfl, bv5, a1, a2, a3⟩))
 have HN5 := Lib.hid ((HN.out.below (below_drewN _ _)).step a1 a2 a3)
 clear a1 a2 a3 g0 g1 g2 g3
 obtain ⟨g0, g1, g2, g3⟩ := HN5.out.cells
 go_wp2_with fail
 first | go_end0 | refine bodyPost_ret (results_none rfl _ _ _) rfl ?_
 have hf := HN5.out.fin HB.out
 rw [show out ++ text = OUT by exact HOUT.out.symm] at hf
 exact hf
set_option maxRecDepth 100000 in
set_option maxHeartbeats 4000000 in
theorem node_text14 (l : List SynP.NI) (R K : Nat) (tv bv : Value) (out : Bytes) (o m : Nat) (w : World) (h : WrS w R tv bv out o m) (ht : NdL w R tv l) (text : Bytes) (ks : List Int) (hx : l[K]? = some ⟨((14 : Nat) : Int), text, ks⟩) (hl : out.length + text.length ≤ 1099511627776) :
  Calls Tryz.prog 51 #[.pointer (some ⟨R, 0, none⟩), .int .i64 (K : Nat)] w (WrP R tv bv (out ++ text) o m (.tuple #[]) w) := by
 obtain ⟨tg, ln, tcap, ko, kn, kcap, rfl, hKl, hkn, hkc, c0, c1, c2, c3, hb, hN⟩ := nst_start h ht hx
 have HKN := Lib.hid hkn
 have HB := Lib.hid hb
 have HN := Lib.hid hN
 obtain ⟨OUT, hOUT⟩ : ∃ OUT, OUT = out ++ text := ⟨_, rfl⟩
 have HOUT := Lib.hid hOUT
 obtain ⟨M, hM⟩ : ∃ M, M = m := ⟨_, rfl⟩
 have HM := Lib.hid hM
 have hle := h.le
 have hmf : ∀ (fn : Fn) (first cap : Array Value) (w : World), (Instr.makeFunc fn first cap).run Tryz.prog w = .ok (.func fn first cap) w := fun _ _ _ _ => rfl
 rw [← hOUT]
 clear hb hN h ht hx hOUT hM hkn
 go_enter Tryz.func51, Tryz.ntmps51
 go_wp2_with fail
 obtain ⟨w2, hw2⟩ : ∃ w2, w2 = (w.alloc (.cells #[.pointer (some ⟨R, 0, none⟩)] 86)).alloc (.cells #[.int .i64 14, .string ⟨text.toArray⟩, .slice ko kn kcap] 43) := ⟨_, rfl⟩
 have hw2' : w2 = (w.alloc (.cells #[.pointer (some ⟨R, 0, none⟩)] 86)).alloc (.cells #[.int .i64 ((14 : Nat) : Int), .string ⟨(text : Bytes).toArray⟩, .slice ko kn kcap] 43) := hw2
 rw [← hw2'] at HB HN
 rw [← hw2]
 clear hw2 hw2' c0 c1 c2 c3
 obtain ⟨G, hG⟩ : ∃ G, G = w.heap.size := ⟨_, rfl⟩
 rw [← hG] at HN ⊢
 obtain ⟨g0, g1, g2, g3⟩ := HN.out.cells
 have HGE := Lib.hid hG
 clear hG
 go_region_held3 (fun w' => w'.cell? ⟨G, 0, none⟩ = some (.pointer (some ⟨R, 0, none⟩)) ∧ w'.cell? ⟨G + 1, 1, none⟩ = some (.string ⟨(text : Bytes).toArray⟩))
  (first
   | go_keep
   | exact ⟨((HN.out.below (below_drewN _ _)).step a1 a2 a3).cells.1, ((HN.out.below (below_drewN _ _)).step a1 a2 a3).cells.2.2.1⟩)
  ((go_at_call 105; refine (bld_str R _ _ _ _ _ (text) _ (HN.out.ws.below (below_drewN _ _)) (by omega) (by omega)).mono ?_; rintro y w5 ⟨rfl, bv5, a1, a2, a3⟩))
 have HN5 := Lib.hid ((HN.out.below (below_drewN _ _)).step a1 a2 a3)
 clear a1 a2 a3 g0 g1 g2 g3
 obtain ⟨g0, g1, g2, g3⟩ := HN5.out.cells
 go_wp2_with fail
 first | go_end0 | refine bodyPost_ret (results_none rfl _ _ _) rfl ?_
 have hf := HN5.out.fin HB.out
 rw [show out ++ text = OUT by exact HOUT.out.symm] at hf
 exact hf
theorem leaf_ok {e : SynP.Ex} {op : Nat} {t : Bytes} (hf : ∀ p, e.flat p = [⟨op, t, []⟩]) (hp : e.pr = t) (hs : e.size = 1) (hd : e.dp = 0)
  (H : ∀ (l : List SynP.NI) (R K : Nat) (tv bv : Value) (out : Bytes) (o m : Nat) (w : World), WrS w R tv bv out o m → NdL w R tv l → ∀ (text : Bytes) (ks : List Int), l[K]? = some ⟨((op : Nat) : Int), text, ks⟩ → out.length + text.length ≤ 1099511627776 →
   Calls Tryz.prog 51 #[.pointer (some ⟨R, 0, none⟩), .int .i64 (K : Nat)] w (WrP R tv bv (out ++ text) o m (.tuple #[]) w)) : NodeOk e := by
 intro l R p tv bv out o m w h ht hsg hl ho hpp
 rw [hf] at hsg
 have hx := hsg.one
 have h1 := H l R p tv bv out o m w h ht t [] hx (by rw [hp] at hl; omega)
 rw [hs, hp, hd]
 rw [show max m (o + 0) = m by have := h.le; omega]
 exact h1
theorem node_num (n : Nat) : NodeOk (.num n) := leaf_ok (op := 1) (t := SynP.decT n) (fun _ => rfl) rfl rfl rfl node_text1
theorem node_name (x : Bytes) : NodeOk (.name x) := leaf_ok (op := 2) (t := x) (fun _ => rfl) rfl rfl rfl node_text2
theorem node_mat (m : SynP.MatV) : NodeOk (.mat m) := leaf_ok (op := 3) (t := SynP.matT m) (fun _ => rfl) rfl rfl rfl node_text3
theorem node_cpx (l : List (List Nat)) : NodeOk (.cpx l) := leaf_ok (op := 13) (t := SynP.cpxT l) (fun _ => rfl) rfl rfl rfl node_text13
set_option maxRecDepth 100000 in
set_option maxHeartbeats 4000000 in
theorem node_neg (a : SynP.Ex) (IH : NodeOk a) : NodeOk (.neg a) := by
 intro l R p tv bv out o m w h ht hs hl ho hp
 have hsz : (SynP.Ex.neg a).size = a.size + 1 := rfl
 obtain ⟨hsa, hst⟩ := SynP.SegN.app (a := a.flat p) (b := [⟨4, [], [p + a.size - 1]⟩]) hs
 have hx : l[p + a.size]? = some ⟨((4 : Nat) : Int), [], [((p + a.size - 1 : Nat) : Int)]⟩ := by
  have := hst.one
  rw [SynP.flatLen] at this
  exact this
 have hap := SynP.size_pos' a
 have HSA := Lib.hid hsa
 have hpl : (SynP.Ex.neg a).pr = [45] ++ SynP.par (SynP.loose 4 0 a.op) a.pr := rfl
 rw [hpl] at hl
 simp only [List.length_append, List.length_cons, List.length_nil] at hl
 have hdl : (SynP.Ex.neg a).dp = SynP.parD (SynP.loose 4 0 a.op) a.dp := rfl
 rw [show p + (SynP.Ex.neg a).size - 1 = p + a.size by rw [hsz]; omega, hpl, hdl]
 rw [hsz] at ho hp
 obtain ⟨K, hK⟩ : ∃ K, K = p + a.size := ⟨_, rfl⟩
 rw [← hK] at hx ⊢
 have HK := Lib.hid hK
 clear hK hs hst hsa hpl hdl hsz
 obtain ⟨tg, ln, tcap, ko, kn, kcap, rfl, hKl, hkn, hkc, c0, c1, c2, c3, hb, hN⟩ := nst_start h ht hx
 have HKN := Lib.hid hkn
 have HB := Lib.hid hb
 have HN := Lib.hid hN
 obtain ⟨OUT, hOUT⟩ : ∃ OUT, OUT = out ++ ([45] ++ SynP.par (SynP.loose 4 0 a.op) a.pr) := ⟨_, rfl⟩
 have HOUT := Lib.hid hOUT
 obtain ⟨M, hM⟩ : ∃ M, M = max m (o + SynP.parD (SynP.loose 4 0 a.op) a.dp) := ⟨_, rfl⟩
 have HM := Lib.hid hM
 have hle := h.le
 have hmf : ∀ (fn : Fn) (first cap : Array Value) (w : World), (Instr.makeFunc fn first cap).run Tryz.prog w = .ok (.func fn first cap) w := fun _ _ _ _ => rfl
 rw [← hOUT, ← hM]
 clear hb hN h ht hx hOUT hM hkn
 go_enter Tryz.func51, Tryz.ntmps51
 go_wp2_with fail
 obtain ⟨w2, hw2⟩ : ∃ w2, w2 = (w.alloc (.cells #[.pointer (some ⟨R, 0, none⟩)] 86)).alloc (.cells #[.int .i64 4, .string ⟨#[]⟩, .slice ko kn kcap] 43) := ⟨_, rfl⟩
 have hw2' : w2 = (w.alloc (.cells #[.pointer (some ⟨R, 0, none⟩)] 86)).alloc (.cells #[.int .i64 ((4 : Nat) : Int), .string ⟨([] : Bytes).toArray⟩, .slice ko kn kcap] 43) := hw2
 rw [← hw2'] at HB HN
 rw [← hw2]
 clear hw2 hw2' c0 c1 c2 c3
 obtain ⟨G, hG⟩ : ∃ G, G = w.heap.size := ⟨_, rfl⟩
 rw [← hG] at HN ⊢
 obtain ⟨g0, g1, g2, g3⟩ := HN.out.cells
 have HGE := Lib.hid hG
 clear hG
 refine (bld_byte R _ bv out o m 45 _ HN.out.ws (by omega)).mono ?_
 rintro y w3 ⟨rfl, bv3, a1, a2, a3⟩
 have HN3 := Lib.hid (HN.out.step a1 a2 a3)
 clear a1 a2 a3 g0 g1 g2 g3
 obtain ⟨g0, g1, g2, g3⟩ := HN3.out.cells
 go_wp2_with fail
 refine (part_of 4 0 a IH l R p _ _ _ _ _ _ HN3.out.ws HN3.out.nl HSA.out (by simp only [List.length_append, List.length_cons, List.length_nil]; omega) (by omega) (by omega) _ _ _ HN3.out.kl (by rw [HK.out]; rfl)).mono ?_
 rintro y w4 ⟨rfl, bv4, a1, a2, a3⟩
 have HN4 := Lib.hid (HN3.out.step a1 a2 a3)
 clear a1 a2 a3 g0 g1 g2 g3
 obtain ⟨g0, g1, g2, g3⟩ := HN4.out.cells
 go_wp2_with fail
 first | go_end0 | refine bodyPost_ret (results_none rfl _ _ _) rfl ?_
 have hf := HN4.out.fin HB.out
 rw [show out ++ [45] ++ SynP.par (SynP.loose 4 0 a.op) a.pr = OUT by rw [HOUT.out, List.append_assoc], show max m (o + SynP.parD (SynP.loose 4 0 a.op) a.dp) = M by exact HM.out.symm] at hf
 exact hf
set_option maxRecDepth 100000 in
set_option maxHeartbeats 4000000 in
theorem node_turn (a : SynP.Ex) (IH : NodeOk a) : NodeOk (.turn a) := by
 intro l R p tv bv out o m w h ht hs hl ho hp
 have hsz : (SynP.Ex.turn a).size = a.size + 1 := rfl
 obtain ⟨hsa, hst⟩ := SynP.SegN.app (a := a.flat p) (b := [⟨5, [], [p + a.size - 1]⟩]) hs
 have hx : l[p + a.size]? = some ⟨((5 : Nat) : Int), [], [((p + a.size - 1 : Nat) : Int)]⟩ := by
  have := hst.one
  rw [SynP.flatLen] at this
  exact this
 have hap := SynP.size_pos' a
 have HSA := Lib.hid hsa
 have hpl : (SynP.Ex.turn a).pr = SynP.par (SynP.loose 5 0 a.op) a.pr ++ [39] := rfl
 rw [hpl] at hl
 simp only [List.length_append, List.length_cons, List.length_nil] at hl
 have hdl : (SynP.Ex.turn a).dp = SynP.parD (SynP.loose 5 0 a.op) a.dp := rfl
 rw [show p + (SynP.Ex.turn a).size - 1 = p + a.size by rw [hsz]; omega, hpl, hdl]
 rw [hsz] at ho hp
 obtain ⟨K, hK⟩ : ∃ K, K = p + a.size := ⟨_, rfl⟩
 rw [← hK] at hx ⊢
 have HK := Lib.hid hK
 clear hK hs hst hsa hpl hdl hsz
 obtain ⟨tg, ln, tcap, ko, kn, kcap, rfl, hKl, hkn, hkc, c0, c1, c2, c3, hb, hN⟩ := nst_start h ht hx
 have HKN := Lib.hid hkn
 have HB := Lib.hid hb
 have HN := Lib.hid hN
 obtain ⟨OUT, hOUT⟩ : ∃ OUT, OUT = out ++ (SynP.par (SynP.loose 5 0 a.op) a.pr ++ [39]) := ⟨_, rfl⟩
 have HOUT := Lib.hid hOUT
 obtain ⟨M, hM⟩ : ∃ M, M = max m (o + SynP.parD (SynP.loose 5 0 a.op) a.dp) := ⟨_, rfl⟩
 have HM := Lib.hid hM
 have hle := h.le
 have hmf : ∀ (fn : Fn) (first cap : Array Value) (w : World), (Instr.makeFunc fn first cap).run Tryz.prog w = .ok (.func fn first cap) w := fun _ _ _ _ => rfl
 rw [← hOUT, ← hM]
 clear hb hN h ht hx hOUT hM hkn
 go_enter Tryz.func51, Tryz.ntmps51
 go_wp2_with fail
 obtain ⟨w2, hw2⟩ : ∃ w2, w2 = (w.alloc (.cells #[.pointer (some ⟨R, 0, none⟩)] 86)).alloc (.cells #[.int .i64 5, .string ⟨#[]⟩, .slice ko kn kcap] 43) := ⟨_, rfl⟩
 have hw2' : w2 = (w.alloc (.cells #[.pointer (some ⟨R, 0, none⟩)] 86)).alloc (.cells #[.int .i64 ((5 : Nat) : Int), .string ⟨([] : Bytes).toArray⟩, .slice ko kn kcap] 43) := hw2
 rw [← hw2'] at HB HN
 rw [← hw2]
 clear hw2 hw2' c0 c1 c2 c3
 obtain ⟨G, hG⟩ : ∃ G, G = w.heap.size := ⟨_, rfl⟩
 rw [← hG] at HN ⊢
 obtain ⟨g0, g1, g2, g3⟩ := HN.out.cells
 have HGE := Lib.hid hG
 clear hG
 refine (part_of 5 0 a IH l R p _ _ _ _ _ _ HN.out.ws HN.out.nl HSA.out (by omega) (by omega) (by omega) _ _ _ HN.out.kl (by rw [HK.out]; rfl)).mono ?_
 rintro y w3 ⟨rfl, bv3, a1, a2, a3⟩
 have HN3 := Lib.hid (HN.out.step a1 a2 a3)
 clear a1 a2 a3 g0 g1 g2 g3
 obtain ⟨g0, g1, g2, g3⟩ := HN3.out.cells
 go_wp2_with fail
 refine (bld_byte R _ _ _ _ _ 39 _ HN3.out.ws (by simp only [List.length_append, List.length_cons, List.length_nil]; omega)).mono ?_
 rintro y w4 ⟨rfl, bv4, a1, a2, a3⟩
 have HN4 := Lib.hid (HN3.out.step a1 a2 a3)
 clear a1 a2 a3 g0 g1 g2 g3
 obtain ⟨g0, g1, g2, g3⟩ := HN4.out.cells
 go_wp2_with fail
 first | go_end0 | refine bodyPost_ret (results_none rfl _ _ _) rfl ?_
 have hf := HN4.out.fin HB.out
 rw [show out ++ SynP.par (SynP.loose 5 0 a.op) a.pr ++ [39] = OUT by rw [HOUT.out, List.append_assoc], show max m (o + SynP.parD (SynP.loose 5 0 a.op) a.dp) = M by exact HM.out.symm] at hf
 exact hf
set_option maxRecDepth 100000 in
set_option maxHeartbeats 4000000 in
theorem node_pow (a : SynP.Ex) (n : Nat) (IH : NodeOk a) : NodeOk (.pow a n) := by
 intro l R p tv bv out o m w h ht hs hl ho hp
 have hsz : (SynP.Ex.pow a n).size = a.size + 1 := rfl
 obtain ⟨hsa, hst⟩ := SynP.SegN.app (a := a.flat p) (b := [⟨9, SynP.decT n, [p + a.size - 1]⟩]) hs
 have hx : l[p + a.size]? = some ⟨((9 : Nat) : Int), SynP.decT n, [((p + a.size - 1 : Nat) : Int)]⟩ := by
  have := hst.one
  rw [SynP.flatLen] at this
  exact this
 have hap := SynP.size_pos' a
 have HSA := Lib.hid hsa
 have hpl : (SynP.Ex.pow a n).pr = SynP.par (SynP.loose 9 0 a.op) a.pr ++ ([94] ++ SynP.decT n) := rfl
 rw [hpl] at hl
 simp only [List.length_append, List.length_cons, List.length_nil] at hl
 have hdl : (SynP.Ex.pow a n).dp = SynP.parD (SynP.loose 9 0 a.op) a.dp := rfl
 rw [show p + (SynP.Ex.pow a n).size - 1 = p + a.size by rw [hsz]; omega, hpl, hdl]
 rw [hsz] at ho hp
 obtain ⟨K, hK⟩ : ∃ K, K = p + a.size := ⟨_, rfl⟩
 rw [← hK] at hx ⊢
 have HK := Lib.hid hK
 clear hK hs hst hsa hpl hdl hsz
 obtain ⟨tg, ln, tcap, ko, kn, kcap, rfl, hKl, hkn, hkc, c0, c1, c2, c3, hb, hN⟩ := nst_start h ht hx
 have HKN := Lib.hid hkn
 have HB := Lib.hid hb
 have HN := Lib.hid hN
 obtain ⟨OUT, hOUT⟩ : ∃ OUT, OUT = out ++ (SynP.par (SynP.loose 9 0 a.op) a.pr ++ ([94] ++ SynP.decT n)) := ⟨_, rfl⟩
 have HOUT := Lib.hid hOUT
 obtain ⟨M, hM⟩ : ∃ M, M = max m (o + SynP.parD (SynP.loose 9 0 a.op) a.dp) := ⟨_, rfl⟩
 have HM := Lib.hid hM
 have hle := h.le
 have hmf : ∀ (fn : Fn) (first cap : Array Value) (w : World), (Instr.makeFunc fn first cap).run Tryz.prog w = .ok (.func fn first cap) w := fun _ _ _ _ => rfl
 rw [← hOUT, ← hM]
 clear hb hN h ht hx hOUT hM hkn
 go_enter Tryz.func51, Tryz.ntmps51
 go_wp2_with fail
 obtain ⟨w2, hw2⟩ : ∃ w2, w2 = (w.alloc (.cells #[.pointer (some ⟨R, 0, none⟩)] 86)).alloc (.cells #[.int .i64 9, .string ⟨(SynP.decT n).toArray⟩, .slice ko kn kcap] 43) := ⟨_, rfl⟩
 have hw2' : w2 = (w.alloc (.cells #[.pointer (some ⟨R, 0, none⟩)] 86)).alloc (.cells #[.int .i64 ((9 : Nat) : Int), .string ⟨(SynP.decT n : Bytes).toArray⟩, .slice ko kn kcap] 43) := hw2
 rw [← hw2'] at HB HN
 rw [← hw2]
 clear hw2 hw2' c0 c1 c2 c3
 obtain ⟨G, hG⟩ : ∃ G, G = w.heap.size := ⟨_, rfl⟩
 rw [← hG] at HN ⊢
 obtain ⟨g0, g1, g2, g3⟩ := HN.out.cells
 have HGE := Lib.hid hG
 clear hG
 have hdt : ¬ 9223372036854775807 < 1 + (SynP.decT n).length := by omega
 refine (part_of 9 0 a IH l R p _ _ _ _ _ _ HN.out.ws HN.out.nl HSA.out (by omega) (by omega) (by omega) _ _ _ HN.out.kl (by rw [HK.out]; rfl)).mono ?_
 rintro y w3 ⟨rfl, bv3, a1, a2, a3⟩
 have HN3 := Lib.hid (HN.out.step a1 a2 a3)
 clear a1 a2 a3 g0 g1 g2 g3
 obtain ⟨g0, g1, g2, g3⟩ := HN3.out.cells
 go_wp2_with fail
 go_region_held3 (fun w' => w'.cell? ⟨G, 0, none⟩ = some (.pointer (some ⟨R, 0, none⟩)) ∧ w'.cell? ⟨G + 1, 1, none⟩ = some (.string ⟨(SynP.decT n : Bytes).toArray⟩))
  (first
   | go_keep
   | exact ⟨((HN3.out.below (below_drewN _ _)).step a1 a2 a3).cells.1, ((HN3.out.below (below_drewN _ _)).step a1 a2 a3).cells.2.2.1⟩)
  ((go_at_call 105; refine (bld_str R _ _ _ _ _ ([94] ++ SynP.decT n) _ (HN3.out.ws.below (below_drewN _ _)) (by simp only [List.length_append, List.length_cons, List.length_nil]; omega) (by simp only [List.length_append, List.length_cons, List.length_nil]; omega)).mono ?_; rintro y w4 ⟨rfl, bv4, a1, a2, a3⟩))
 have HN4 := Lib.hid ((HN3.out.below (below_drewN _ _)).step a1 a2 a3)
 clear a1 a2 a3 g0 g1 g2 g3
 obtain ⟨g0, g1, g2, g3⟩ := HN4.out.cells
 go_wp2_with fail
 first | go_end0 | refine bodyPost_ret (results_none rfl _ _ _) rfl ?_
 have hf := HN4.out.fin HB.out
 rw [show out ++ SynP.par (SynP.loose 9 0 a.op) a.pr ++ ([94] ++ SynP.decT n) = OUT by rw [HOUT.out, List.append_assoc], show max m (o + SynP.parD (SynP.loose 9 0 a.op) a.dp) = M by exact HM.out.symm] at hf
 exact hf
set_option maxRecDepth 100000 in
theorem node1_of (ks : SynP.Exs) (IH : ∀ e ∈ SynP.exL ks, NodeOk e) (l : List SynP.NI) (R p G : Nat) (tv bv : Value) (out : Bytes) (o m : Nat) (w w0 : World) (og : Option Nat) (text : Bytes) (kv : Value) (h : NSt w0 og w R G tv bv out o m l 10 text kv (intsOf (ks.roots p))) (hs : SynP.SegN l p (ks.flat p)) (hl : out.length + ks.pr.length ≤ 274877906944) (ho : o + 2 * ks.size + 1 ≤ 100000) (hp : p + ks.size ≤ 100000) :
  Calls Tryz.prog 107 #[.pointer (some ⟨G, 0, none⟩), .pointer (some ⟨G + 1, 0, none⟩)] w (WrP R tv bv (out ++ ks.pr) o (max m (o + ks.dp)) (.tuple #[]) w) := by
 have HC := Lib.hid (all_of ks IH l R p tv bv out o m w h.ws h.nl hs hl ho hp 10 (.inl rfl) ⟨text.toArray⟩ kv h.kl)
 obtain ⟨OUT, hOUT⟩ : ∃ OUT, OUT = out ++ ks.pr := ⟨_, rfl⟩
 obtain ⟨M, hM⟩ : ∃ M, M = max m (o + ks.dp) := ⟨_, rfl⟩
 rw [← hOUT, ← hM] at HC ⊢
 obtain ⟨g0, g1, g2, g3⟩ := h.cells
 obtain ⟨ko, kcap, rfl, -, -, -⟩ := h.kl
 obtain ⟨kn, hkn⟩ : ∃ kn, kn = (intsOf (ks.roots p)).length := ⟨_, rfl⟩
 rw [← hkn] at HC g3
 clear h hs hl ho hp hOUT hM hkn
 go_enter Tryz.func107, Tryz.ntmps107
 go_wp2_with fail
 refine HC.out.mono ?_
 rintro e w1 ⟨rfl, H⟩
 have HH := Lib.hid H
 clear H
 go_wp2_with fail
 first | go_end0 | refine bodyPost_ret (results_none rfl _ _ _) rfl ?_
 exact ⟨rfl, HH.out⟩
set_option maxRecDepth 100000 in
set_option maxHeartbeats 4000000 in
theorem node_call (x : Bytes) (ks : SynP.Exs) (IH : ∀ e ∈ SynP.exL ks, NodeOk e) : NodeOk (.call x ks) := by
 intro l R p tv bv out o m w h ht hs hl ho hp
 have hsz : (SynP.Ex.call x ks).size = ks.size + 1 := rfl
 obtain ⟨hsa, hst⟩ := SynP.SegN.app (a := ks.flat p) (b := [⟨10, x, ks.roots p⟩]) hs
 have hx : l[p + ks.size]? = some ⟨((10 : Nat) : Int), x, intsOf (ks.roots p)⟩ := by
  have := hst.one
  rw [SynP.flatsLen] at this
  exact this
 have HSA := Lib.hid hsa
 have hpl : (SynP.Ex.call x ks).pr = x ++ ([40] ++ ks.pr ++ [41]) := rfl
 rw [hpl] at hl
 simp only [List.length_append, List.length_cons, List.length_nil] at hl
 have hdl : (SynP.Ex.call x ks).dp = ks.dp + 1 := rfl
 have hdp := SynP.dps_le ks
 rw [show p + (SynP.Ex.call x ks).size - 1 = p + ks.size by rw [hsz]; omega, hpl, hdl]
 rw [hsz] at ho hp
 obtain ⟨K, hK⟩ : ∃ K, K = p + ks.size := ⟨_, rfl⟩
 rw [← hK] at hx ⊢
 have HK := Lib.hid hK
 clear hK hs hst hsa hpl hdl hsz
 obtain ⟨tg, ln, tcap, ko, kn, kcap, rfl, hKl, hkn, hkc, c0, c1, c2, c3, hb, hN⟩ := nst_start h ht hx
 have HKN := Lib.hid hkn
 have HB := Lib.hid hb
 have HN := Lib.hid hN
 obtain ⟨OUT, hOUT⟩ : ∃ OUT, OUT = out ++ (x ++ ([40] ++ ks.pr ++ [41])) := ⟨_, rfl⟩
 have HOUT := Lib.hid hOUT
 obtain ⟨M, hM⟩ : ∃ M, M = max m (o + (ks.dp + 1)) := ⟨_, rfl⟩
 have HM := Lib.hid hM
 have hle := h.le
 have hmf : ∀ (fn : Fn) (first cap : Array Value) (w : World), (Instr.makeFunc fn first cap).run Tryz.prog w = .ok (.func fn first cap) w := fun _ _ _ _ => rfl
 rw [← hOUT, ← hM]
 clear hb hN h ht hx hOUT hM hkn
 go_enter Tryz.func51, Tryz.ntmps51
 go_wp2_with fail
 obtain ⟨w2, hw2⟩ : ∃ w2, w2 = (w.alloc (.cells #[.pointer (some ⟨R, 0, none⟩)] 86)).alloc (.cells #[.int .i64 10, .string ⟨x.toArray⟩, .slice ko kn kcap] 43) := ⟨_, rfl⟩
 have hw2' : w2 = (w.alloc (.cells #[.pointer (some ⟨R, 0, none⟩)] 86)).alloc (.cells #[.int .i64 ((10 : Nat) : Int), .string ⟨(x : Bytes).toArray⟩, .slice ko kn kcap] 43) := hw2
 rw [← hw2'] at HB HN
 rw [← hw2]
 clear hw2 hw2' c0 c1 c2 c3
 obtain ⟨G, hG⟩ : ∃ G, G = w.heap.size := ⟨_, rfl⟩
 rw [← hG] at HN ⊢
 obtain ⟨g0, g1, g2, g3⟩ := HN.out.cells
 have HGE := Lib.hid hG
 clear hG
 go_region_held3 (fun w' => w'.cell? ⟨G, 0, none⟩ = some (.pointer (some ⟨R, 0, none⟩)) ∧ w'.cell? ⟨G + 1, 1, none⟩ = some (.string ⟨(x : Bytes).toArray⟩))
  (first
   | go_keep
   | exact ⟨((HN.out.below (below_drewN _ _)).step a1 a2 a3).cells.1, ((HN.out.below (below_drewN _ _)).step a1 a2 a3).cells.2.2.1⟩)
  ((go_at_call 105; refine (bld_str R _ _ _ _ _ (x) _ (HN.out.ws.below (below_drewN _ _)) (by omega) (by omega)).mono ?_; rintro y w3 ⟨rfl, bv3, a1, a2, a3⟩))
 have HN3 := Lib.hid ((HN.out.below (below_drewN _ _)).step a1 a2 a3)
 clear a1 a2 a3 g0 g1 g2 g3
 obtain ⟨g0, g1, g2, g3⟩ := HN3.out.cells
 have HC := Lib.hid (brack_node R _ bv3 (out ++ x) o m w3 HN3.out.ws (by rw [List.length_append]; omega) (by omega) (.pointer (some ⟨G, 0, none⟩)) (.pointer (some ⟨G + 1, 0, none⟩)) ks.pr (by omega) ks.dp (by omega) (fun bv2 w5 b1 b2 b3 => by
  have HN5 := HN3.out.step b1 b2 b3
  exact node1_of ks IH l R p G _ bv2 (out ++ x ++ [40]) (o + 1) (max m (o + 1)) w5 _ _ x _ HN5 HSA.out (by rw [List.length_append, List.length_append, List.length_singleton]; omega) (by omega) (by omega)))
 go_wp2_with fail
 refine (HC.out).mono ?_
 rintro y w4 ⟨rfl, bv4, a1, a2, a3⟩
 have HN4 := Lib.hid (HN3.out.step a1 a2 a3)
 clear a1 a2 a3 g0 g1 g2 g3
 obtain ⟨g0, g1, g2, g3⟩ := HN4.out.cells
 go_wp2_with fail
 first | go_end0 | refine bodyPost_ret (results_none rfl _ _ _) rfl ?_
 have hf := HN4.out.fin HB.out
 rw [show out ++ x ++ ([40] ++ ks.pr ++ [41]) = OUT by rw [HOUT.out, List.append_assoc], show max m (o + (ks.dp + 1)) = M by exact HM.out.symm] at hf
 exact hf
def LnOk (n : SynP.Ln) : Prop := ∀ (l : List SynP.NI) (R : Nat) (tv bv : Value) (out : Bytes) (o m : Nat) (w : World), WrS w R tv bv out o m → NdL w R tv l → SynP.SegN l 0 n.flat → out.length + n.pr.length ≤ 274877906944 → o + 2 * n.size ≤ 100000 →
 Calls Tryz.prog 51 #[.pointer (some ⟨R, 0, none⟩), .int .i64 ((n.size - 1 : Nat) : Int)] w (WrP R tv bv (out ++ n.pr) o (max m (o + n.dp)) (.tuple #[]) w)
theorem ln_nothing : LnOk .nothing := by
 intro l R tv bv out o m w h ht hs hl ho
 have hx := SynP.SegN.one (n := ⟨14, [], []⟩) hs
 have h1 := node_text14 l R 0 tv bv out o m w h ht [] [] hx (by simp only [List.length_nil]; omega)
 have e1 : max m (o + 0) = m := by have := h.le; omega
 show Calls _ _ _ _ (WrP R tv bv (out ++ []) o (max m (o + 0)) _ w)
 rw [e1]
 exact h1
set_option maxRecDepth 100000 in
set_option maxHeartbeats 4000000 in
theorem ln_lets (x : Bytes) (e : SynP.Ex) (IH : NodeOk e) : LnOk (.lets x e) := by
 intro l R tv bv out o m w h ht hs hl ho
 have hsz : (SynP.Ln.lets x e).size = e.size + 1 := rfl
 obtain ⟨hsa, hst⟩ := SynP.SegN.app (a := e.flat 0) (b := [⟨11, x, [e.size - 1]⟩]) hs
 have hx : l[0 + e.size]? = some ⟨((11 : Nat) : Int), x, [((e.size - 1 : Nat) : Int)]⟩ := by
  have := hst.one
  rw [SynP.flatLen] at this
  exact this
 have hap := SynP.size_pos' e
 have HSA := Lib.hid hsa
 have hpl : (SynP.Ln.lets x e).pr = ([108, 101, 116, 32] ++ x ++ [32, 61, 32]) ++ e.pr := rfl
 rw [hpl] at hl
 simp only [List.length_append, List.length_cons, List.length_nil] at hl
 have hdl : (SynP.Ln.lets x e).dp = e.dp := rfl
 rw [show (SynP.Ln.lets x e).size - 1 = 0 + e.size by rw [hsz]; omega, hpl, hdl]
 rw [hsz] at ho
 obtain ⟨K, hK⟩ : ∃ K, K = 0 + e.size := ⟨_, rfl⟩
 rw [← hK] at hx ⊢
 have HK := Lib.hid hK
 clear hK hs hst hsa hpl hdl hsz
 obtain ⟨tg, ln, tcap, ko, kn, kcap, rfl, hKl, hkn, hkc, c0, c1, c2, c3, hb, hN⟩ := nst_start h ht hx
 have HKN := Lib.hid hkn
 have HB := Lib.hid hb
 have HN := Lib.hid hN
 obtain ⟨OUT, hOUT⟩ : ∃ OUT, OUT = out ++ (([108, 101, 116, 32] ++ x ++ [32, 61, 32]) ++ e.pr) := ⟨_, rfl⟩
 have HOUT := Lib.hid hOUT
 obtain ⟨M, hM⟩ : ∃ M, M = max m (o + e.dp) := ⟨_, rfl⟩
 have HM := Lib.hid hM
 have hle := h.le
 have hmf : ∀ (fn : Fn) (first cap : Array Value) (w : World), (Instr.makeFunc fn first cap).run Tryz.prog w = .ok (.func fn first cap) w := fun _ _ _ _ => rfl
 rw [← hOUT, ← hM]
 clear hb hN h ht hx hOUT hM hkn
 go_enter Tryz.func51, Tryz.ntmps51
 go_wp2_with fail
 obtain ⟨w2, hw2⟩ : ∃ w2, w2 = (w.alloc (.cells #[.pointer (some ⟨R, 0, none⟩)] 86)).alloc (.cells #[.int .i64 11, .string ⟨x.toArray⟩, .slice ko kn kcap] 43) := ⟨_, rfl⟩
 have hw2' : w2 = (w.alloc (.cells #[.pointer (some ⟨R, 0, none⟩)] 86)).alloc (.cells #[.int .i64 ((11 : Nat) : Int), .string ⟨(x : Bytes).toArray⟩, .slice ko kn kcap] 43) := hw2
 rw [← hw2'] at HB HN
 rw [← hw2]
 clear hw2 hw2' c0 c1 c2 c3
 obtain ⟨G, hG⟩ : ∃ G, G = w.heap.size := ⟨_, rfl⟩
 rw [← hG] at HN ⊢
 obtain ⟨g0, g1, g2, g3⟩ := HN.out.cells
 have HGE := Lib.hid hG
 clear hG
 have hxl : ¬ 9223372036854775807 < 4 + x.length := by omega
 have hxl2 : ¬ 9223372036854775807 < 4 + x.length + 3 := by omega
 go_region_held3 (fun w' => w'.cell? ⟨G, 0, none⟩ = some (.pointer (some ⟨R, 0, none⟩)) ∧ w'.cell? ⟨G + 1, 1, none⟩ = some (.string ⟨(x : Bytes).toArray⟩))
  (first
   | go_keep
   | exact ⟨((HN.out.below (below_drewN _ _)).step a1 a2 a3).cells.1, ((HN.out.below (below_drewN _ _)).step a1 a2 a3).cells.2.2.1⟩)
  ((go_at_call 105; refine (bld_str R _ _ _ _ _ ([108, 101, 116, 32] ++ x ++ [32, 61, 32]) _ (HN.out.ws.below (below_drewN _ _)) (by omega) (by simp only [List.length_append, List.length_cons, List.length_nil]; omega)).mono ?_; rintro y w3 ⟨rfl, bv3, a1, a2, a3⟩))
 have HN3 := Lib.hid ((HN.out.below (below_drewN _ _)).step a1 a2 a3)
 clear a1 a2 a3 g0 g1 g2 g3
 obtain ⟨g0, g1, g2, g3⟩ := HN3.out.cells
 have HC := Lib.hid (part_of 11 0 e IH l R 0 _ _ _ _ _ _ HN3.out.ws HN3.out.nl HSA.out (by show _ + e.pr.length ≤ _; simp only [List.length_append, List.length_cons, List.length_nil]; omega) (by omega) (by omega) ⟨x.toArray⟩ _ _ HN3.out.kl (by rw [Nat.zero_add]; rfl))
 go_wp2_with fail
 refine (HC.out).mono ?_
 rintro y w4 ⟨rfl, bv4, a1, a2, a3⟩
 have HN4 := Lib.hid (HN3.out.step a1 a2 a3)
 clear a1 a2 a3 g0 g1 g2 g3
 obtain ⟨g0, g1, g2, g3⟩ := HN4.out.cells
 go_wp2_with fail
 first | go_end0 | refine bodyPost_ret (results_none rfl _ _ _) rfl ?_
 have hf := HN4.out.fin HB.out
 rw [show out ++ ([108, 101, 116, 32] ++ x ++ [32, 61, 32]) ++ SynP.par (SynP.loose 11 0 e.op) e.pr = OUT by rw [HOUT.out, List.append_assoc]; rfl, show max m (o + SynP.parD (SynP.loose 11 0 e.op) e.dp) = M by rw [HM.out]; rfl] at hf
 exact hf
set_option maxRecDepth 100000 in
set_option maxHeartbeats 4000000 in
theorem ln_cmd_nil (x : Bytes) (IH : ∀ e ∈ SynP.exL .nil, NodeOk e) : LnOk (.cmd x .nil) := by
 intro l R tv bv out o m w h ht hs hl ho
 obtain ⟨ks, hks⟩ : ∃ ks, ks = SynP.Exs.nil := ⟨_, rfl⟩
 have hsz : (SynP.Ln.cmd x .nil).size = ks.size + 1 := by rw [hks]; rfl
 obtain ⟨hsa, hst⟩ := SynP.SegN.app (a := (SynP.Exs.nil).flat 0) (b := [⟨12, x, (SynP.Exs.nil).roots 0⟩]) hs
 rw [← hks] at hsa hst IH
 have hx : l[0 + ks.size]? = some ⟨((12 : Nat) : Int), x, intsOf (ks.roots 0)⟩ := by
  have := hst.one
  rw [SynP.flatsLen] at this
  exact this
 have HSA := Lib.hid hsa
 have hpl : (SynP.Ln.cmd x .nil).pr = x ++ [] := by rw []; exact (List.append_nil _).symm
 rw [hpl] at hl
 simp only [List.length_append, List.length_cons, List.length_nil] at hl
 have hdl : (SynP.Ln.cmd x .nil).dp = ks.dp := by rw [hks]; rfl
 rw [show (SynP.Ln.cmd x .nil).size - 1 = 0 + ks.size by rw [hsz]; omega, hpl, hdl]
 rw [hsz] at ho
 have hrl : (intsOf (ks.roots 0)).length = (SynP.exL ks).length := by rw [intsOf, List.length_map, SynP.exL_roots]
 have hkl : (SynP.exL ks).length = 0 := by rw [hks]; rfl
 have hprl : ks.pr.length = 0 := by rw [hks]; rfl
 obtain ⟨K, hK⟩ : ∃ K, K = 0 + ks.size := ⟨_, rfl⟩
 rw [← hK] at hx ⊢
 have HK := Lib.hid hK
 have HKS := Lib.hid hks
 clear hK hs hst hsa hpl hdl hsz hks
 obtain ⟨tg, ln, tcap, ko, kn, kcap, rfl, hKl, hkn, hkc, c0, c1, c2, c3, hb, hN⟩ := nst_start h ht hx
 have HKN := Lib.hid hkn
 have HB := Lib.hid hb
 have HN := Lib.hid hN
 obtain ⟨OUT, hOUT⟩ : ∃ OUT, OUT = out ++ (x ++ []) := ⟨_, rfl⟩
 have HOUT := Lib.hid hOUT
 obtain ⟨M, hM⟩ : ∃ M, M = max m (o + ks.dp) := ⟨_, rfl⟩
 have HM := Lib.hid hM
 have hle := h.le
 have hmf : ∀ (fn : Fn) (first cap : Array Value) (w : World), (Instr.makeFunc fn first cap).run Tryz.prog w = .ok (.func fn first cap) w := fun _ _ _ _ => rfl
 rw [← hOUT, ← hM]
 clear hb hN h ht hx hOUT hM hkn
 go_enter Tryz.func51, Tryz.ntmps51
 go_wp2_with fail
 obtain ⟨w2, hw2⟩ : ∃ w2, w2 = (w.alloc (.cells #[.pointer (some ⟨R, 0, none⟩)] 86)).alloc (.cells #[.int .i64 12, .string ⟨x.toArray⟩, .slice ko kn kcap] 43) := ⟨_, rfl⟩
 have hw2' : w2 = (w.alloc (.cells #[.pointer (some ⟨R, 0, none⟩)] 86)).alloc (.cells #[.int .i64 ((12 : Nat) : Int), .string ⟨(x : Bytes).toArray⟩, .slice ko kn kcap] 43) := hw2
 rw [← hw2'] at HB HN
 rw [← hw2]
 clear hw2 hw2' c0 c1 c2 c3
 obtain ⟨G, hG⟩ : ∃ G, G = w.heap.size := ⟨_, rfl⟩
 rw [← hG] at HN ⊢
 obtain ⟨g0, g1, g2, g3⟩ := HN.out.cells
 have HGE := Lib.hid hG
 clear hG
 have hkn2 : kn = (SynP.exL ks).length := by rw [HKN.out, hrl]
 have hk0 : kn = 0 := by omega
 clear hkn2 hrl hkl
 subst hk0
 go_region_held3 (fun w' => w'.cell? ⟨G, 0, none⟩ = some (.pointer (some ⟨R, 0, none⟩)) ∧ w'.cell? ⟨G + 1, 1, none⟩ = some (.string ⟨(x : Bytes).toArray⟩))
  (first
   | go_keep
   | exact ⟨((HN.out.below (below_drewN _ _)).step a1 a2 a3).cells.1, ((HN.out.below (below_drewN _ _)).step a1 a2 a3).cells.2.2.1⟩)
  ((go_at_call 105; refine (bld_str R _ _ _ _ _ (x) _ (HN.out.ws.below (below_drewN _ _)) (by omega) (by omega)).mono ?_; rintro y w3 ⟨rfl, bv3, a1, a2, a3⟩))
 have HN3 := Lib.hid ((HN.out.below (below_drewN _ _)).step a1 a2 a3)
 clear a1 a2 a3 g0 g1 g2 g3
 obtain ⟨g0, g1, g2, g3⟩ := HN3.out.cells
 go_wp2_with fail
 have HC := Lib.hid (all_of ks IH l R 0 _ _ _ _ _ _ HN3.out.ws HN3.out.nl HSA.out (by simp only [List.length_append, List.length_cons, List.length_nil]; omega) (by omega) (by omega) 12 (.inr rfl) ⟨x.toArray⟩ _ HN3.out.kl)
 refine (HC.out).mono ?_
 rintro y w4 ⟨rfl, bv4, a1, a2, a3⟩
 have HN4 := Lib.hid (HN3.out.step a1 a2 a3)
 clear a1 a2 a3 g0 g1 g2 g3
 obtain ⟨g0, g1, g2, g3⟩ := HN4.out.cells
 go_wp2_with fail
 first | go_end0 | refine bodyPost_ret (results_none rfl _ _ _) rfl ?_
 have hf := HN4.out.fin HB.out
 rw [show out ++ x ++ ks.pr = OUT by rw [HOUT.out, HKS.out]; show out ++ x ++ [] = _; rw [List.append_assoc], show max m (o + ks.dp) = M by exact HM.out.symm] at hf
 exact hf
set_option maxRecDepth 100000 in
set_option maxHeartbeats 4000000 in
theorem ln_cmd_cons (x : Bytes) (a : SynP.Ex) (kt : SynP.Exs) (IH : ∀ e ∈ SynP.exL (.cons a kt), NodeOk e) : LnOk (.cmd x (.cons a kt)) := by
 intro l R tv bv out o m w h ht hs hl ho
 obtain ⟨ks, hks⟩ : ∃ ks, ks = SynP.Exs.cons a kt := ⟨_, rfl⟩
 have hsz : (SynP.Ln.cmd x (.cons a kt)).size = ks.size + 1 := by rw [hks]; rfl
 obtain ⟨hsa, hst⟩ := SynP.SegN.app (a := (SynP.Exs.cons a kt).flat 0) (b := [⟨12, x, (SynP.Exs.cons a kt).roots 0⟩]) hs
 rw [← hks] at hsa hst IH
 have hx : l[0 + ks.size]? = some ⟨((12 : Nat) : Int), x, intsOf (ks.roots 0)⟩ := by
  have := hst.one
  rw [SynP.flatsLen] at this
  exact this
 have HSA := Lib.hid hsa
 have hpl : (SynP.Ln.cmd x (.cons a kt)).pr = (x ++ [32]) ++ ks.pr := by rw [hks]; show x ++ [32] ++ _ = _; rfl
 rw [hpl] at hl
 simp only [List.length_append, List.length_cons, List.length_nil] at hl
 have hdl : (SynP.Ln.cmd x (.cons a kt)).dp = ks.dp := by rw [hks]; rfl
 rw [show (SynP.Ln.cmd x (.cons a kt)).size - 1 = 0 + ks.size by rw [hsz]; omega, hpl, hdl]
 rw [hsz] at ho
 have hrl : (intsOf (ks.roots 0)).length = (SynP.exL ks).length := by rw [intsOf, List.length_map, SynP.exL_roots]
 have hkl : 0 < (SynP.exL ks).length := by rw [hks]; exact Nat.succ_pos _
 have hprl : ks.pr.length ≤ ks.pr.length := by exact Nat.le_refl _
 obtain ⟨K, hK⟩ : ∃ K, K = 0 + ks.size := ⟨_, rfl⟩
 rw [← hK] at hx ⊢
 have HK := Lib.hid hK
 have HKS := Lib.hid hks
 clear hK hs hst hsa hpl hdl hsz hks
 obtain ⟨tg, ln, tcap, ko, kn, kcap, rfl, hKl, hkn, hkc, c0, c1, c2, c3, hb, hN⟩ := nst_start h ht hx
 have HKN := Lib.hid hkn
 have HB := Lib.hid hb
 have HN := Lib.hid hN
 obtain ⟨OUT, hOUT⟩ : ∃ OUT, OUT = out ++ ((x ++ [32]) ++ ks.pr) := ⟨_, rfl⟩
 have HOUT := Lib.hid hOUT
 obtain ⟨M, hM⟩ : ∃ M, M = max m (o + ks.dp) := ⟨_, rfl⟩
 have HM := Lib.hid hM
 have hle := h.le
 have hmf : ∀ (fn : Fn) (first cap : Array Value) (w : World), (Instr.makeFunc fn first cap).run Tryz.prog w = .ok (.func fn first cap) w := fun _ _ _ _ => rfl
 rw [← hOUT, ← hM]
 clear hb hN h ht hx hOUT hM hkn
 go_enter Tryz.func51, Tryz.ntmps51
 go_wp2_with fail
 obtain ⟨w2, hw2⟩ : ∃ w2, w2 = (w.alloc (.cells #[.pointer (some ⟨R, 0, none⟩)] 86)).alloc (.cells #[.int .i64 12, .string ⟨x.toArray⟩, .slice ko kn kcap] 43) := ⟨_, rfl⟩
 have hw2' : w2 = (w.alloc (.cells #[.pointer (some ⟨R, 0, none⟩)] 86)).alloc (.cells #[.int .i64 ((12 : Nat) : Int), .string ⟨(x : Bytes).toArray⟩, .slice ko kn kcap] 43) := hw2
 rw [← hw2'] at HB HN
 rw [← hw2]
 clear hw2 hw2' c0 c1 c2 c3
 obtain ⟨G, hG⟩ : ∃ G, G = w.heap.size := ⟨_, rfl⟩
 rw [← hG] at HN ⊢
 obtain ⟨g0, g1, g2, g3⟩ := HN.out.cells
 have HGE := Lib.hid hG
 clear hG
 have hkn2 : kn = (SynP.exL ks).length := by rw [HKN.out, hrl]
 have hk0 : 0 < kn := by omega
 clear hkn2 hrl hkl
 go_region_held3 (fun w' => w'.cell? ⟨G, 0, none⟩ = some (.pointer (some ⟨R, 0, none⟩)) ∧ w'.cell? ⟨G + 1, 1, none⟩ = some (.string ⟨(x : Bytes).toArray⟩))
  (first
   | go_keep
   | exact ⟨((HN.out.below (below_drewN _ _)).step a1 a2 a3).cells.1, ((HN.out.below (below_drewN _ _)).step a1 a2 a3).cells.2.2.1⟩)
  ((go_at_call 105; refine (bld_str R _ _ _ _ _ (x) _ (HN.out.ws.below (below_drewN _ _)) (by omega) (by omega)).mono ?_; rintro y w3 ⟨rfl, bv3, a1, a2, a3⟩))
 have HN3 := Lib.hid ((HN.out.below (below_drewN _ _)).step a1 a2 a3)
 clear a1 a2 a3 g0 g1 g2 g3
 obtain ⟨g0, g1, g2, g3⟩ := HN3.out.cells
 go_wp2_with fail
 refine (bld_byte R _ _ _ _ _ 32 _ HN3.out.ws (by simp only [List.length_append, List.length_cons, List.length_nil]; omega)).mono ?_
 rintro y w6 ⟨rfl, bv6, a1, a2, a3⟩
 have HN6 := Lib.hid (HN3.out.step a1 a2 a3)
 clear a1 a2 a3 g0 g1 g2 g3
 obtain ⟨g0, g1, g2, g3⟩ := HN6.out.cells
 have HC := Lib.hid (all_of ks IH l R 0 _ _ _ _ _ _ HN6.out.ws HN6.out.nl HSA.out (by simp only [List.length_append, List.length_cons, List.length_nil]; omega) (by omega) (by omega) 12 (.inr rfl) ⟨x.toArray⟩ _ HN6.out.kl)
 go_wp2_with fail
 refine (HC.out).mono ?_
 rintro y w4 ⟨rfl, bv4, a1, a2, a3⟩
 have HN4 := Lib.hid (HN6.out.step a1 a2 a3)
 clear a1 a2 a3 g0 g1 g2 g3
 obtain ⟨g0, g1, g2, g3⟩ := HN4.out.cells
 go_wp2_with fail
 first | go_end0 | refine bodyPost_ret (results_none rfl _ _ _) rfl ?_
 have hf := HN4.out.fin HB.out
 rw [show out ++ x ++ [32] ++ ks.pr = OUT by rw [HOUT.out]; simp only [List.append_assoc], show max m (o + ks.dp) = M by exact HM.out.symm] at hf
 exact hf
end Go.Proofs.YtgfmiladfeoldaaGreatDoor
