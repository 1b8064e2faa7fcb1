/- Joined texts of this claim's proof: WkA, KpA, Pa2, LwA, LwC, KpC, MatC, FraA. -/
import Derived.Test.YtgfmiladfeoldaaGreatDoorPk5
import Derived.Test.YtgfmiladfeoldaaGreatDoorPk6
import Derived.Test.YtgfmiladfeoldaaGreatDoorPk16
import Derived.Test.YtgfmiladfeoldaaGreatDoorPk17
import Derived.Test.YtgfmiladfeoldaaGreatDoorPk14
import Derived.Test.YtgfmiladfeoldaaGreatDoorPk11
import Derived.Deep.AppendLies
import Derived.Test.YtgfmiladfeoldaaGreatDoorPk13
set_option linter.unusedSimpArgs false
set_option linter.unusedVariables false
namespace Go.Proofs.YtgfmiladfeoldaaGreatDoor
open Go.RowKit NatP
def RdW (w : World) (v : Value) (xs : List Nat) : Prop := True ∧ ∃ ao cap, v = .slice ao xs.length cap ∧ xs.length ≤ cap ∧ cap ≤ maxLen ∧ ok xs ∧ ∀ i x, xs[i]? = some x → ∃ g o, ao = some ⟨g, o, none⟩ ∧ w.cell? ⟨g, o + i, none⟩ = some (.int .u64 (x : Nat))
theorem Rd.weak {w : World} {v : Value} {xs : List Nat} (h : Rd w v xs) : RdW w v xs := ⟨trivial, h.2⟩
theorem RdW.below {w w' : World} {v : Value} {xs : List Nat} (h : RdW w v xs) (hb : Below w.heap.size w w') : RdW w' v xs := by
 obtain ⟨-, ao, cap, rfl, h1, h2, h3, h4⟩ := h
 refine ⟨trivial, ao, cap, rfl, h1, h2, h3, fun i x hx => ?_⟩
 obtain ⟨g, o, rfl, hc⟩ := h4 i x hx
 exact ⟨g, o, rfl, (hb.cell (p := ⟨g, o + i, none⟩) (World.block_lt_of_cell? w _ hc)).trans hc⟩
theorem RdW.ok {w : World} {v : Value} {xs : List Nat} (h : RdW w v xs) : NatP.ok xs := by obtain ⟨_, _, _, _, _, _, h3, _⟩ := h; exact h3
end Go.Proofs.YtgfmiladfeoldaaGreatDoor
namespace Go.Proofs.YtgfmiladfeoldaaGreatDoor
open Go.RowKit NatP
def markL (n : Nat) : List Nat := (List.range 80).map fun j => 6510516211317473280 + (n + j)
def roomL (xs : List Nat) : List Nat := xs ++ markL xs.length
theorem roomL_len (xs : List Nat) : (roomL xs).length = xs.length + 80 := by simp [roomL, markL]
theorem roomL_lo {xs : List Nat} {i : Nat} (h : i < xs.length) : (roomL xs)[i]? = xs[i]? := by
 unfold roomL; rw [List.getElem?_append_left h]
theorem roomL_hi {xs : List Nat} {i : Nat} (h : xs.length ≤ i) (h2 : i < xs.length + 80) : (roomL xs)[i]? = some (6510516211317473280 + i) := by
 unfold roomL markL
 rw [List.getElem?_append_right h, List.getElem?_map, List.getElem?_range (by omega)]
 simp only [Option.map_some]; congr 2; omega
theorem roomL_ok {xs : List Nat} (h : ok xs) (hl : xs.length ≤ 1099511627776) : ok (roomL xs) := by
 intro x hx
 rcases List.mem_append.1 hx with hx | hx
 ·exact h x hx
 ·obtain ⟨j, hj, rfl⟩ := List.mem_map.1 hx
  have := List.mem_range.1 hj
  unfold BB; omega
theorem roomL_take (xs : List Nat) : (roomL xs).take xs.length = xs := by simp [roomL]
theorem fill_set {L : List Nat} {k x n : Nat} (hk : L[k]? = some x) (hL : L.length = n) : (L.take k ++ List.replicate (n - k) 0).set k x = L.take (k + 1) ++ List.replicate (n - (k + 1)) 0 := by
 have hkl : k < L.length := (List.getElem?_eq_some_iff.1 hk).1
 obtain ⟨m, hm⟩ : ∃ m, n - k = m + 1 := ⟨n - k - 1, by omega⟩
 have hm2 : n - (k + 1) = m := by omega
 have h0 : k - (L.take k).length = 0 := by rw [List.length_take]; omega
 rw [hm, hm2, List.set_append, if_neg (by rw [List.length_take]; omega), h0, List.replicate_succ, List.set_cons_zero, List.take_add_one, hk, List.append_assoc]
 rfl
theorem fill_at {L : List Nat} {k n : Nat} (hL : L.length = n) (hk : k < n) : (L.take k ++ List.replicate (n - k) 0)[k]? = some 0 := by
 rw [List.getElem?_append_right (by rw [List.length_take]; omega), List.getElem?_replicate, if_pos (by rw [List.length_take]; omega)]
def RoomPost (xs : List Nat) (w : World) (e : Ending) (w' : World) : Prop := e = .returned (.slice (some ⟨w.heap.size, 0, none⟩) (xs.length + 80) (xs.length + 80)) ∧ Blk w' w.heap.size (roomL xs) ∧ Below w.heap.size w w'
def RoomRel (xs : List Nat) (n g : Nat) (w1 : World) (iv : Value) (wr : World) : Prop := ∃ k : Nat, iv = .int .i64 (k : Nat) ∧ k ≤ n ∧ Blk wr g ((roomL xs).take k ++ List.replicate (n - k) 0) ∧ w1.grownBy wr (some g)
set_option maxRecDepth 100000 in
set_option maxHeartbeats 2000000 in
theorem roomy_any (v : Value) (xs : List Nat) (w : World) (hv : RdW w v xs) (hl : xs.length ≤ 1073741824) :
  Calls Tryz.prog 28 #[v] w (RoomPost xs w) := by
 have HV := Lib.hid hv
 obtain ⟨ao, cap, rfl, hnc, hcm, hok, -⟩ := hv.2
 have HOK := Lib.hid hok
 obtain ⟨n, hn⟩ : ∃ n, n = xs.length + 80 := ⟨_, rfl⟩
 have HMK := make_words n (by omega)
 rw [show ((n : Nat) : Int) = (xs.length : Int) + 80 by omega] at HMK
 obtain ⟨g, hg⟩ : ∃ g, g = w.heap.size := ⟨_, rfl⟩
 obtain ⟨w1, hw1⟩ : ∃ w1, w1 = w.alloc (.cells (madeCells #[.int .u64 0] n) 101) := ⟨_, rfl⟩
 have HBL := below_alloc w (.cells (madeCells #[.int .u64 0] n) 101)
 rw [← hw1] at HBL
 have HB1 : Hid (Blk w1 g (List.replicate n 0)) := by rw [hw1, hg]; exact Blk.made w n
 have HHBL := Lib.hid HBL
 have HG := Lib.hid hg
 have HW1 := Lib.hid hw1
 have HLN := Lib.hid (show (roomL xs).length = n by rw [roomL_len, hn])
 have HN := Lib.hid hn
 have hgs : g < w1.heap.size := (Array.getElem?_eq_some_iff.1 HB1.out.1).1
 have hnb : n ≤ 9223372036854775807 := by omega
 clear hv hok hcm HBL hg hw1 hn
 go_enter Tryz.func28, Tryz.ntmps28
 go_wp2_with fail
 rw [← HW1.out, ← HG.out]
 go_loopw [4] (fun iv wr => RoomRel xs n g w1 iv wr) (fun iv _ => n - (intOf iv).toNat)
 case atStart => exact ⟨0, rfl, Nat.zero_le _, by simpa using HB1.out, grown_refl _ _⟩
 case round =>
  obtain ⟨k, rfl, hk, hM, hgr⟩ := hrel
  have HM := Lib.hid hM
  have HGR := Lib.hid hgr
  have hzr := hgr.size
  clear hM hgr
  by_cases hlt : k < n
  ·have e4 := HM.out.cell (fill_at HLN.out hlt)
   have e3 := HM.out.frozen k
   have hi0 : (0 : Int) ≤ (k : Int) := Int.natCast_nonneg _
   have hi1 : (k : Int) < (n : Int) := by omega
   have fin : ∀ x, (roomL xs)[k]? = some x → RoomRel xs n g w1 (.int .i64 ((k : Int) + 1)) (wr.setCell ⟨g, k, none⟩ (.int .u64 (x : Nat))) := fun x hx => by
    have hxb := roomL_ok HOK.out (by omega) x (List.mem_of_getElem? hx)
    have HS := HM.out.set k hxb
    rw [fill_set hx HLN.out] at HS
    exact ⟨k + 1, by go_num, by omega, HS.1, grown_set HGR.out HS.2⟩
   by_cases hin : k < xs.length
   ·obtain ⟨x, hx⟩ : ∃ x, xs[k]? = some x := ⟨_, List.getElem?_eq_getElem hin⟩
    have HF := Lib.hid (fin x (by rw [roomL_lo hin]; exact hx))
    obtain ⟨ao', cap', e, -, -, -, hsh⟩ := (HV.out.below (HHBL.out.trans (by exact below_of_grown HGR.out HHBL.out.size (by rw [← HG.out]; exact Nat.le_refl _)))).2
    cases e
    obtain ⟨g2, o2, rfl, e2⟩ := hsh k x hx
    have hkx : (k : Int) < (xs.length : Int) := by omega
    clear hx fin hsh
    go_wp2_with fail
    have hfin := HF.out
    first | exact ⟨hfin, by simp [intOf] <;> omega⟩ | exact ⟨by (repeat apply Exists.intro); exact ⟨hfin, rfl⟩, by simp [intOf] <;> omega⟩
   ·have HF := Lib.hid (fin _ (roomL_hi (by omega) (by have := HN.out; omega)))
    have hkx : ¬ (k : Int) < (xs.length : Int) := by omega
    have W0 : IntKind.u64.wrap (k : Int) = (k : Int) := by rw [IntKind.wrap_u64]; omega
    have W1 : IntKind.u64.wrap (6510516211317473280 + (k : Int)) = ((6510516211317473280 + k : Nat) : Int) := by rw [IntKind.wrap_u64]; omega
    clear fin
    go_wp2_with fail
    have hfin := HF.out
    first | exact ⟨hfin, by simp [intOf] <;> omega⟩ | exact ⟨by (repeat apply Exists.intro); exact ⟨hfin, rfl⟩, by simp [intOf] <;> omega⟩
  ·have hke : k = n := by omega
   have HB : Hid (Blk wr g (roomL xs)) := by
    have := HM.out
    rw [hke, List.take_of_length_le (by rw [HLN.out]; exact Nat.le_refl _), Nat.sub_self, List.replicate_zero, List.append_nil] at this
    exact this
   clear hke
   go_wp2_with fail
   go_ret
   refine ⟨by rw [HN.out, ← HG.out]; rfl, by rw [← HG.out]; exact HB.out, ?_⟩
   exact HHBL.out.trans (below_of_grown HGR.out HHBL.out.size (by rw [← HG.out]; exact Nat.le_refl _))
set_option maxRecDepth 100000 in
set_option maxHeartbeats 2000000 in
theorem same_any1 (v u : Value) (xs : List Nat) (w : World) (hv : RdW w v xs) (hu : RdW w u xs) :
  Calls Tryz.prog 36 #[v, u] w fun e w' => e = .returned (.bool true) ∧ Below w.heap.size w w' := by
 have HV := Lib.hid hv
 have HU := Lib.hid hu
 obtain ⟨ao, cap, rfl, -, hcm, -, -⟩ := hv.2
 obtain ⟨bo, cap2, rfl, -, -, -, -⟩ := hu.2
 obtain ⟨n, hn⟩ : ∃ n, n = xs.length := ⟨_, rfl⟩
 have hnb : n ≤ 9223372036854775807 := by obtain ⟨_, _, e, h1, h2, -⟩ := hv.2; cases e; unfold maxLen at h2; omega
 have HN := Lib.hid hn
 rw [← hn]
 clear hv hu hcm hn
 go_enter Tryz.func36, Tryz.ntmps36
 go_wp2_with fail
 go_loopw [5] (fun iv wr => ∃ k : Nat, iv = .int .i64 (k : Nat) ∧ k ≤ n ∧ Below w.heap.size w wr) (fun iv _ => n - (intOf iv).toNat)
 case atStart => exact ⟨0, rfl, Nat.zero_le _, Below.refl _ _⟩
 case round =>
  obtain ⟨k, rfl, hk, hb⟩ := hrel
  have HB := Lib.hid hb
  clear hb
  by_cases hlt : k < n
  ·obtain ⟨x, hx⟩ : ∃ x, xs[k]? = some x := ⟨_, List.getElem?_eq_getElem (by rw [← HN.out]; exact hlt)⟩
   obtain ⟨ao', cap', e, -, -, -, hsh⟩ := (HV.out.below HB.out).2
   rw [← HN.out] at e; cases e
   obtain ⟨g, o, rfl, e1⟩ := hsh k x hx
   obtain ⟨bo', cap2', e', -, -, -, hsh2⟩ := (HU.out.below HB.out).2
   rw [← HN.out] at e'; cases e'
   obtain ⟨g2, o2, rfl, e2⟩ := hsh2 k x hx
   have hi0 : (0 : Int) ≤ (k : Int) := Int.natCast_nonneg _
   have hi1 : (k : Int) < (n : Int) := by omega
   have hxx : ((x : Int) != (x : Int)) = false := by simp
   have HDR := Lib.hid HB.out.drew
   clear hx hsh hsh2
   go_wp2_with fail
   go_region
   go_wp2_with fail
   have hfin : Below w.heap.size w wr.drew := HDR.out
   first | exact ⟨⟨k + 1, by go_num, by omega, hfin⟩, by simp [intOf] <;> omega⟩ | exact ⟨by (repeat apply Exists.intro); exact ⟨⟨k + 1, by go_num, by omega, hfin⟩, rfl⟩, by simp [intOf] <;> omega⟩
  ·go_wp2_with fail
   go_ret
   exact ⟨rfl, HB.out⟩
end Go.Proofs.YtgfmiladfeoldaaGreatDoor
namespace Go.Proofs.YtgfmiladfeoldaaGreatDoor
open Go.RowKit NatP LexP
theorem ln_size (n : SynP.Ln) : n.flat.length = n.size := by
 cases n with
 | nothing => rfl
 | lets x e => simp [SynP.Ln.flat, SynP.Ln.size, flat_len]
 | cmd x l => simp [SynP.Ln.flat, SynP.Ln.size, flats_len]
end Go.Proofs.YtgfmiladfeoldaaGreatDoor
namespace Go.Proofs.YtgfmiladfeoldaaGreatDoor
open Go.RowKit NatP LexP
theorem ndCells_at : ∀ (a : List Nv) (k : Nat) (t : Nv), a[k]? = some t →
  (ndCells a)[k * 3]? = some (.int .i64 (t.1.op : Nat)) ∧ (ndCells a)[k * 3 + 1]? = some (.string ⟨t.1.text.toArray⟩) ∧ (ndCells a)[k * 3 + 2]? = some t.2 := by
 intro a
 induction a with
 | nil => intro k t h; simp at h
 | cons d cs ih =>
  intro k t h
  cases k with
  | zero => simp at h; subst h; simp [ndCells]
  | succ k =>
   simp only [List.getElem?_cons_succ] at h
   obtain ⟨h1, h2, h3⟩ := ih k t h
   have e0 : (k + 1) * 3 = k * 3 + 1 + 1 + 1 := by omega
   have e1 : (k + 1) * 3 + 1 = k * 3 + 1 + 1 + 1 + 1 := by omega
   have e2 : (k + 1) * 3 + 2 = k * 3 + 2 + 1 + 1 + 1 := by omega
   have ec : ndCells (d :: cs) = .int .i64 (d.1.op : Nat) :: .string ⟨d.1.text.toArray⟩ :: d.2 :: ndCells cs := by simp [ndCells]
   rw [e1, e2, e0, ec]
   simp only [List.getElem?_cons_succ]
   exact ⟨h1, h2, h3⟩
theorem KR.kl {w : World} {R : Nat} {og : Option Nat} {v : Value} {ks : List Nat} (h : KR w R og v ks) : KL w w.heap.size v (ks.map fun k : Nat => (k : Int)) := by
 obtain ⟨ao, cap, rfl, h1, h2, h3, h4⟩ := h
 refine ⟨ao, cap, by rw [List.length_map], by simpa using h1, h2, fun h0 => ?_⟩
 rw [List.length_map] at h0
 obtain ⟨g, rfl, h5⟩ := h4 h0
 refine ⟨g, rfl, (h3 g rfl).2.1, fun j k hj => ?_⟩
 rw [List.getElem?_map] at hj
 cases ha : ks[j]? with
 | none => rw [ha] at hj; cases hj
 | some a => rw [ha] at hj; cases hj; exact h5 j a ha
theorem Tr.ndl {w : World} {B : Nat} {nv : Value} {ns : List Nv} (h : Tr w B nv ns) : NdL w w.heap.size nv (SynP.nL (ns.map Prod.fst)) := by
 obtain ⟨ao, cap, rfl, a1, a2, a3⟩ := ownsRow_shape h.own
 have hl : (SynP.nL (ns.map Prod.fst)).length = ns.length := by simp [SynP.nL]
 refine ⟨ao, cap, by rw [hl], by rw [hl]; exact a1, a2, fun h0 => ?_⟩
 rw [hl] at h0
 obtain ⟨g, rfl, -, b2, b3⟩ := a3 h0
 refine ⟨g, rfl, b2, fun j x hj => ?_⟩
 simp only [SynP.nL, List.map_map, List.getElem?_map] at hj
 cases hp : ns[j]? with
 | none => rw [hp] at hj; cases hj
 | some p =>
  rw [hp] at hj
  cases hj
  have hjl := (List.getElem?_eq_some_iff.1 hp).1
  obtain ⟨c1, c2, c3⟩ := ndCells_at ns j p hp
  exact ⟨by rw [b3 _ (by omega)]; exact c1, by rw [b3 _ (by omega)]; exact c2, p.2, by rw [b3 _ (by omega)]; exact c3, (h.kids p (List.mem_of_getElem? hp)).kl⟩
theorem KL.up {w w' : World} {B : Nat} {v : Value} {ks : List Int} (h : KL w B v ks) (hb : Below B w w') {B' : Nat} (hB : B ≤ B') : KL w' B' v ks := by
 obtain ⟨ao, cap, rfl, h1, h2, h3⟩ := h.below hb
 refine ⟨ao, cap, rfl, h1, h2, fun h0 => ?_⟩
 obtain ⟨g, rfl, h5, h6⟩ := h3 h0
 exact ⟨g, rfl, Nat.lt_of_lt_of_le h5 hB, h6⟩
theorem NdL.up {w w' : World} {B : Nat} {v : Value} {l : List SynP.NI} (h : NdL w B v l) (hb : Below B w w') {B' : Nat} (hB : B ≤ B') : NdL w' B' v l := by
 obtain ⟨ao, cap, rfl, h1, h2, h3⟩ := h.below hb
 refine ⟨ao, cap, rfl, h1, h2, fun h0 => ?_⟩
 obtain ⟨g, rfl, h5, h6⟩ := h3 h0
 refine ⟨g, rfl, Nat.lt_of_lt_of_le h5 hB, fun j x hj => ?_⟩
 obtain ⟨a, b, kv, c, d⟩ := h6 j x hj
 exact ⟨a, b, kv, c, d.up (Below.refl _ _) hB⟩
theorem NdL.nil (w : World) (B : Nat) : NdL w B (.slice none 0 0) [] := ⟨none, 0, rfl, Nat.le_refl _, Nat.zero_le _, fun h => absurd h (by decide)⟩
end Go.Proofs.YtgfmiladfeoldaaGreatDoor
namespace Go.Proofs.YtgfmiladfeoldaaGreatDoor
open Go.RowKit NatP LexP
def KA (w : World) (v : Value) (ks : List Int) : Prop := ∃ ao cap, v = .slice ao ks.length cap ∧ ks.length ≤ cap ∧ cap ≤ maxLen ∧
  ∀ j k, ks[j]? = some k → ∃ g o, ao = some ⟨g, o, none⟩ ∧ g < w.heap.size ∧ w.cell? ⟨g, o + j, none⟩ = some (.int .i64 k)
def NdA (w : World) (v : Value) (l : List SynP.NI) : Prop := ∃ ao cap, v = .slice ao l.length cap ∧ l.length ≤ cap ∧ cap ≤ maxLen ∧
  ∀ j x, l[j]? = some x → ∃ g o, ao = some ⟨g, o, none⟩ ∧ g < w.heap.size ∧ w.cell? ⟨g, o + j * 3, none⟩ = some (.int .i64 x.op) ∧ w.cell? ⟨g, o + j * 3 + 1, none⟩ = some (.string ⟨x.text.toArray⟩) ∧ ∃ kv, w.cell? ⟨g, o + j * 3 + 2, none⟩ = some kv ∧ KA w kv x.kids
theorem KL.ka {w : World} {B : Nat} {v : Value} {ks : List Int} (h : KL w B v ks) (hB : B ≤ w.heap.size) : KA w v ks := by
 obtain ⟨ao, cap, rfl, h1, h2, h3⟩ := h
 refine ⟨ao, cap, rfl, h1, h2, fun j x hj => ?_⟩
 obtain ⟨g, rfl, h5, h6⟩ := h3 (by have := (List.getElem?_eq_some_iff.1 hj).1; omega)
 exact ⟨g, 0, rfl, Nat.lt_of_lt_of_le h5 hB, by rw [Nat.zero_add]; exact h6 j x hj⟩
theorem KA.below {w w' : World} {v : Value} {ks : List Int} (h : KA w v ks) (hb : Below w.heap.size w w') : KA w' v ks := by
 obtain ⟨ao, cap, rfl, h1, h2, h3⟩ := h
 refine ⟨ao, cap, rfl, h1, h2, fun j x hj => ?_⟩
 obtain ⟨g, o, rfl, h5, h6⟩ := h3 j x hj
 exact ⟨g, o, rfl, Nat.lt_of_lt_of_le h5 hb.size, (hb.cell (p := ⟨g, o + j, none⟩) h5).trans h6⟩
theorem NdA.below {w w' : World} {v : Value} {l : List SynP.NI} (h : NdA w v l) (hb : Below w.heap.size w w') : NdA w' v l := by
 obtain ⟨ao, cap, rfl, h1, h2, h3⟩ := h
 refine ⟨ao, cap, rfl, h1, h2, fun j x hj => ?_⟩
 obtain ⟨g, o, rfl, h5, a, b, kv, c, d⟩ := h3 j x hj
 exact ⟨g, o, rfl, Nat.lt_of_lt_of_le h5 hb.size, (hb.cell (p := ⟨g, o + j * 3, none⟩) h5).trans a, (hb.cell (p := ⟨g, o + j * 3 + 1, none⟩) h5).trans b, kv, (hb.cell (p := ⟨g, o + j * 3 + 2, none⟩) h5).trans c, d.below hb⟩
theorem NdA.nil (w : World) : NdA w (.slice none 0 0) [] := ⟨none, 0, rfl, Nat.le_refl _, Nat.zero_le _, fun j x h => by cases h⟩
def CtO (l : List SynP.NI) (w : World) (iv : Value) (wr : World) : Prop :=
 ∃ (i : Nat) (cur : Array Value), i ≤ l.length ∧ iv = .int .i64 (i : Nat) ∧ wr.heap[w.heap.size]? = some (.cells cur 43 (0, 0)) ∧ cur.size = l.length * 3 ∧
  (∀ j x, j < i → l[j]? = some x → cur[j * 3]? = some (.int .i64 x.op) ∧ cur[j * 3 + 1]? = some (.string ⟨x.text.toArray⟩) ∧ ∃ kv, cur[j * 3 + 2]? = some kv ∧ wr.ownsRow (w.heap.size + 1) 3 1 kv x.kids.length (x.kids.map fun k => Value.int .i64 k)) ∧ Below w.heap.size w wr
theorem KL.of_row {w : World} {b : Nat} {v : Value} {ks : List Int} (h : w.ownsRow b 3 1 v ks.length (ks.map fun k => Value.int .i64 k)) : KL w w.heap.size v ks := by
 obtain ⟨ao, cap, rfl, h1, h2, h3⟩ := ownsRow_shape h
 refine ⟨ao, cap, rfl, h1, h2, fun h0 => ?_⟩
 obtain ⟨g, rfl, -, h5, h6⟩ := h3 h0
 refine ⟨g, rfl, h5, fun j k hj => ?_⟩
 rw [h6 j (by have := (List.getElem?_eq_some_iff.1 hj).1; omega), List.getElem?_map, hj]
 rfl
theorem CtO.done {l : List SynP.NI} {w wr : World} (h : CtO l w (.int .i64 (l.length : Nat)) wr) (hm : l.length ≤ maxLen) : NdL wr wr.heap.size (.slice (some ⟨w.heap.size, 0, none⟩) l.length l.length) l := by
 obtain ⟨i, cur, h1, h2, h3, h4, h5, h6⟩ := h
 simp only [Value.int.injEq, true_and, Int.ofNat_inj] at h2
 subst h2
 refine ⟨_, _, rfl, Nat.le_refl _, hm, fun h0 => ⟨_, rfl, (Array.getElem?_eq_some_iff.1 h3).1, fun j x hj => ?_⟩⟩
 obtain ⟨a, b, kv, c, d⟩ := h5 j x (List.getElem?_eq_some_iff.1 hj).1 hj
 refine ⟨by rw [cell_of_row _ _ _ _ _ _ h3]; exact a, by rw [cell_of_row _ _ _ _ _ _ h3]; exact b, kv, by rw [cell_of_row _ _ _ _ _ _ h3]; exact c, KL.of_row d⟩
theorem app_none (w : World) (ty : TypeId) (H : Nat) (ko : Option Addr) (kcap : Nat) :
  (Builtin.append_ #[41, 41] ty #[.slice (some ⟨H, 0, none⟩) 0 0, .slice ko 0 kcap]).run Tryz.prog w = .ok (.slice (some ⟨H, 0, none⟩) 0 0) w := by
 obtain ⟨i0, hi, hz0, hz1, hz2⟩ := info_parts Tryz.infoInt
 cases ko <;> simp [Builtin.append_, run_underlying Tryz.underlying41, sizeOf, typeInfo, hi, Builtin.lenOf, Builtin.firstCells, storeCells, loadCells, loadCellsFrom]
theorem add_ad (g o k : Nat) : (⟨g, o, none⟩ : Addr).add k = ⟨g, o + k, none⟩ := by simp [Addr.add]
theorem ownsRow_keep {w w' : World} {b : Nat} {e : TypeId} {z : Nat} {v : Value} {n : Nat} {xs : List Value} (h : w.ownsRow b e z v n xs) (hk : ∀ g, v.ownBlock = some g → b ≤ g → g < w.heap.size → w'.heap[g]? = w.heap[g]?) : w'.ownsRow b e z v n xs := by
 refine ⟨h.1, ?_⟩
 rcases h.2 with hn | ⟨g, cap, cur, rfl, hb, hgg, rest⟩
 ·exact .inl hn
 ·exact .inr ⟨g, cap, cur, rfl, hb, (hk g rfl hb (Array.getElem?_eq_some_iff.1 hgg).1).trans hgg, rest⟩
theorem CtO.step {l : List SynP.NI} {w wr w2 : World} {i : Nat} {cur : Array Value} {op : Int} {text : Bytes} {kids : List Int} {T : ByteArray} {kv : Value} (hi : i < l.length) (hx : l[i]? = some ⟨op, text, kids⟩) (hT : T = ⟨text.toArray⟩)
  (hG : wr.heap[w.heap.size]? = some (.cells cur 43 (0, 0))) (hcs : cur.size = l.length * 3)
  (hok : ∀ j x, j < i → l[j]? = some x → cur[j * 3]? = some (.int .i64 x.op) ∧ cur[j * 3 + 1]? = some (.string ⟨x.text.toArray⟩) ∧ ∃ kv, cur[j * 3 + 2]? = some kv ∧ wr.ownsRow (w.heap.size + 1) 3 1 kv x.kids.length (x.kids.map fun k => Value.int .i64 k))
  (hb : Below w.heap.size w wr) (hg : Below wr.heap.size wr w2) (hown : w2.ownsRow (w.heap.size + 1) 3 1 kv kids.length (kids.map fun k => Value.int .i64 k)) :
  CtO l w (.int .i64 ((i + 1 : Nat) : Int)) (((w2.setCell ⟨w.heap.size, i * 3, none⟩ (.int .i64 op)).setCell ⟨w.heap.size, i * 3 + 1, none⟩ (.string T)).setCell ⟨w.heap.size, i * 3 + 2, none⟩ kv) := by
 have hgl := (Array.getElem?_eq_some_iff.1 hG).1
 have hG2 : w2.heap[w.heap.size]? = some (.cells cur 43 (0, 0)) := (hg.block _ hgl).trans hG
 have s0 := heap_setCell_same w2 w.heap.size (i * 3) _ 43 (.int .i64 op) hG2
 have s1 := heap_setCell_same _ w.heap.size (i * 3 + 1) _ 43 (.string T) s0
 have s2 := heap_setCell_same _ w.heap.size (i * 3 + 2) _ 43 kv s1
 have hoth : ∀ g, g ≠ w.heap.size → (((w2.setCell ⟨w.heap.size, i * 3, none⟩ (.int .i64 op)).setCell ⟨w.heap.size, i * 3 + 1, none⟩ (.string T)).setCell ⟨w.heap.size, i * 3 + 2, none⟩ kv).heap[g]? = w2.heap[g]? := fun g hne =>
  (heap_setCell_other _ ⟨w.heap.size, i * 3 + 2, none⟩ g _ hne).trans ((heap_setCell_other _ ⟨w.heap.size, i * 3 + 1, none⟩ g _ hne).trans (heap_setCell_other _ ⟨w.heap.size, i * 3, none⟩ g _ hne))
 refine ⟨i + 1, _, by omega, rfl, s2, by simp [hcs], fun j x hj hjx => ?_, ?_⟩
 ·by_cases hji : j = i
  ·subst hji
   rw [hx] at hjx
   cases hjx
   refine ⟨?_, ?_, kv, ?_, ?_⟩
   ·simp [Array.getElem?_setIfInBounds]; omega
   ·simp [Array.getElem?_setIfInBounds, hT]; omega
   ·simp [Array.getElem?_setIfInBounds]; omega
   ·exact ownsRow_keep hown (fun g _ h1 _ => hoth g (by omega))
  ·obtain ⟨a, b, kv', c, d⟩ := hok j x (by omega) hjx
   refine ⟨?_, ?_, kv', ?_, ?_⟩
   ·rw [← a]; simp [Array.getElem?_setIfInBounds]; rw [if_neg (by omega), if_neg (by omega), if_neg (by omega)]
   ·rw [← b]; simp [Array.getElem?_setIfInBounds]; rw [if_neg (by omega), if_neg (by omega), if_neg (by omega)]
   ·rw [← c]; simp [Array.getElem?_setIfInBounds]; rw [if_neg (by omega), if_neg (by omega), if_neg (by omega)]
   ·exact ownsRow_keep d (fun g _ h1 h2 => (hoth g (by omega)).trans (hg.block g h2))
 ·exact (((hb.trans (hg.mono hb.size)).setCell (p := ⟨w.heap.size, i * 3, none⟩) (Nat.le_refl _) _).setCell (p := ⟨w.heap.size, i * 3 + 1, none⟩) (Nat.le_refl _) _).setCell (p := ⟨w.heap.size, i * 3 + 2, none⟩) (Nat.le_refl _) _
end Go.Proofs.YtgfmiladfeoldaaGreatDoor
namespace Go.Proofs.YtgfmiladfeoldaaGreatDoor
open Go.RowKit NatP LexP
theorem fro_keep2 {w w' : World} {B : Nat} {p : Addr} (h : Below B w w') (hp : p.block < B) (hf : w.frozen? p = false) : w'.frozen? p = false := by
 unfold World.frozen? at hf ⊢
 rw [h.block p.block hp]; exact hf
theorem app_none_ws (w : World) (ty : TypeId) (H : Nat) (ko : Option Addr) (kcap : Nat) :
  (Builtin.append_ #[59, 59] ty #[.slice (some ⟨H, 0, none⟩) 0 0, .slice ko 0 kcap]).run Tryz.prog w = .ok (.slice (some ⟨H, 0, none⟩) 0 0) w := by
 obtain ⟨i0, hi, hz0, hz1, hz2⟩ := info_parts Tryz.infoW
 cases ko <;> simp [Builtin.append_, run_underlying Tryz.underlying59, sizeOf, typeInfo, hi, Builtin.lenOf, Builtin.firstCells, storeCells, loadCells, loadCellsFrom]
theorem Fr.of_row {w : World} {B n : Nat} {v : Value} {xs : List Nat} (h : w.ownsRow B 101 1 v n (ws xs)) (hn : n = xs.length) (hok : ok xs) : Fr B w v xs := by
 subst hn
 obtain ⟨ao, cap, rfl, h1, h2, h3⟩ := ownsRow_shape h
 refine ⟨⟨fun k hk => (h.lt k hk).2, ao, cap, rfl, h1, h2, hok, fun i x hx => ?_⟩, fun k hk => h.lt k hk⟩
 have hil := (List.getElem?_eq_some_iff.1 hx).1
 obtain ⟨g, rfl, -, -, a3⟩ := h3 (by omega)
 refine ⟨g, 0, rfl, ?_⟩
 rw [Nat.zero_add, a3 i (by omega)]
 simp [ws, hx]
theorem step_copy_ws {w : World} {ops : Array Oper} {o : Oper} {a : Act} {K : Act → World → Prop} {Q : Exit → Act → World → Prop} {E : Prop} (hgd : o.guard = none) (s x : Operand)
  (ho : o.op = .call { callee := .builtin .append, args := #[s, x], argTypes := #[59, 59] }) (H : Nat) (hs : a.eval s = .slice (some ⟨H, 0, none⟩) 0 0) (hH : w.heap[H]? = some (.cells #[] 101 (0, 0)))
  (v : Value) (xs : List Nat) (hx : a.eval x = v) (hr : RdW w v xs) (hl : xs.length ≤ 1073741824)
  (h : ∀ w' uo ucap, Hid (Fr H w' (.slice uo xs.length ucap) xs) → Hid (Below H w w') → K (a.put o.dst (.slice uo xs.length ucap)) w') : if Region.wanted o (yielded ops a.tmps) = true then Oper.wp Tryz.prog o a w K Q else E := by
 have hHl := (Array.getElem?_eq_some_iff.1 hH).1
 obtain ⟨ao, cap, rfl, hc1, hc2, hok, hsh⟩ := hr.2
 by_cases h0 : xs = []
 ·subst h0
  have hw : Region.wanted o (yielded ops a.tmps) = true := by simp [Region.wanted, hgd]
  rw [if_pos hw]
  unfold Oper.wp execOp
  simp only [ho, resolve, invoke, builtin, Sem.run_bind, Sem.run_pure, Result.andThen_ok, List.map_toArray, List.map_cons, List.map_nil, hs, hx, List.length_nil, app_none_ws]
  exact h w (some ⟨H, 0, none⟩) 0 ⟨Rd.none' hHl (by unfold maxLen; omega), fun k hk => by cases hk; exact ⟨Nat.le_refl _, hHl⟩⟩ (Below.refl _ _)
 ·have hl0 : 0 < xs.length := List.length_pos_iff.2 h0
  obtain ⟨x0, hx0⟩ : ∃ x0, xs[0]? = some x0 := ⟨_, List.getElem?_eq_getElem hl0⟩
  obtain ⟨g, o', rfl, -⟩ := hsh 0 x0 hx0
  obtain ⟨i0, hi, hz0, hz1, hz2⟩ := info_parts Tryz.infoW
  refine step_append_lies w hgd s x 59 ho H 101 i0 (.int .u64 0) 1 8 Tryz.underlying59 hi hz0 hz1 hz2 rfl (by omega) (.slice (some ⟨H, 0, none⟩) 0 0) 0 [] hs
   ⟨rfl, .inr ⟨H, 0, #[], rfl, Nat.le_refl _, hH, Nat.le_refl _, by unfold maxLen; omega, rfl, rfl⟩⟩ ⟨g, o', none⟩ xs.length cap (ws xs) hx (by simp [ws]) (fun j u hj => ?_) (fun u hu => ?_) hl0 (by unfold maxLen; omega) (by omega) (Nat.le_of_lt hHl) w.heap.size rfl ?_
  ·simp only [ws, List.getElem?_map, Option.map_eq_some_iff] at hj
   obtain ⟨y, hy, rfl⟩ := hj
   obtain ⟨g', o'', e, hc⟩ := hsh j y hy
   cases e
   rw [add_ad]; exact hc
  ·simp only [ws, List.mem_map] at hu
   obtain ⟨y, -, rfl⟩ := hu; rfl
  ·intro gg cap' w' hown hgrow hat hlt
   rw [Nat.zero_add, List.nil_append] at hown
   rw [Nat.zero_add]
   exact h w' _ _ (Fr.of_row hown rfl hok) (Below.grown (Below.refl _ _) hgrow (Nat.le_of_lt hHl) (fun q hq => by cases hq; exact Nat.le_refl _))
def CopyPost (b : Bool) (xs : List Nat) (w : World) (e : Ending) (w' : World) : Prop := ∃ uo ucap, e = .returned (.agg #[.bool b, .slice uo xs.length ucap]) ∧ Fr w.heap.size w' (.slice uo xs.length ucap) xs ∧ Below w.heap.size w w'
set_option maxRecDepth 100000 in
set_option maxHeartbeats 2000000 in
theorem copyint_any (b : Bool) (v : Value) (xs : List Nat) (w : World) (hv : RdW w v xs) (hl : xs.length ≤ 1073741824) :
  Calls Tryz.prog 63 #[.agg #[.bool b, v]] w (CopyPost b xs w) := by
 have HV := Lib.hid hv
 obtain ⟨ao, cap, rfl, -, -, -, -⟩ := hv.2
 have HL := Lib.hid hl
 clear hv hl
 go_enter Tryz.func63, Tryz.ntmps63
 go_wp2_with fail
 obtain ⟨g, hg⟩ : ∃ g, g = w.heap.size := ⟨_, rfl⟩
 obtain ⟨w0, hw0⟩ : ∃ w0, w0 = (w.alloc (.cells #[.bool b, .slice ao xs.length cap] 62)).alloc (.cells #[.bool false, .slice none 0 0] 62) := ⟨_, rfl⟩
 have HB0 : Hid (Below w.heap.size w w0) := by
  rw [hw0]
  exact (below_alloc w (.cells #[.bool b, .slice ao xs.length cap] 62)).trans ((below_alloc _ _).mono (below_alloc w (.cells #[.bool b, .slice ao xs.length cap] 62)).size)
 have hb0 : w0.heap[g]? = some (.cells #[.bool b, .slice ao xs.length cap] 62 (0, 0)) := by
  rw [hw0, hg]; exact (below_alloc (w.alloc (.cells #[.bool b, .slice ao xs.length cap] 62)) _).block w.heap.size (by simp) |>.trans (heap_alloc_new w _)
 have hb1 : w0.heap[g + 1]? = some (.cells #[.bool false, .slice none 0 0] 62 (0, 0)) := by
  rw [hw0, hg]
  have := heap_alloc_new (w.alloc (.cells #[.bool b, .slice ao xs.length cap] 62)) (.cells #[.bool false, .slice none 0 0] 62)
  rw [World.size_alloc] at this; exact this
 obtain ⟨g1, hg1⟩ : ∃ g1, g1 = g + 1 := ⟨_, rfl⟩
 rw [← hw0, ← hg, ← hg1]
 rw [← hg1] at hb1
 have hsz : g1 < w0.heap.size := (Array.getElem?_eq_some_iff.1 hb1).1
 obtain ⟨H, hH⟩ : ∃ H, H = w0.heap.size := ⟨_, rfl⟩
 have hgH : g < H := by omega
 have hg1H : g1 < H := by omega
 have c0 : w0.cell? ⟨g, 0, none⟩ = some (.bool b) := (cell_of_row w0 _ _ _ _ _ hb0).trans rfl
 have c1 : w0.cell? ⟨g, 1, none⟩ = some (.slice ao xs.length cap) := (cell_of_row w0 _ _ _ _ _ hb0).trans rfl
 have r0 : w0.cell? ⟨g1, 0, none⟩ = some (.bool false) := (cell_of_row w0 _ _ _ _ _ hb1).trans rfl
 have r1 : w0.cell? ⟨g1, 1, none⟩ = some (.slice none 0 0) := (cell_of_row w0 _ _ _ _ _ hb1).trans rfl
 have f0 : w0.frozen? ⟨g1, 0, none⟩ = false := frozen_of_row w0 _ 0 _ _ hb1
 have f1 : w0.frozen? ⟨g1, 1, none⟩ = false := frozen_of_row w0 _ 1 _ _ hb1
 obtain ⟨wA, hwA⟩ : ∃ wA, wA = (w0.alloc (.cells #[] 101)).drew := ⟨_, rfl⟩
 have ba : Below w0.heap.size w0 wA := by rw [hwA]; exact (below_alloc w0 (.cells #[] 101)).drew
 have HVA := Lib.hid ((HV.out.below HB0.out).below ba)
 have HHC : Hid (wA.heap[H]? = some (.cells #[] 101 (0, 0))) := by show _ = _; rw [hwA, hH]; exact heap_alloc_new w0 _
 have A0 := Lib.hid (cell_keep ba c0)
 have A1 := Lib.hid (cell_keep ba c1)
 have AR0 := Lib.hid (cell_keep ba r0)
 have AR1 := Lib.hid (cell_keep ba r1)
 have AF0 := Lib.hid (fro_keep ba r0 f0)
 have AF1 := Lib.hid (fro_keep ba r1 f1)
 have Y0 : Hid ((w0.cell? ⟨g1, 0, none⟩).isSome = true) := by show _ = _; rw [r0]; rfl
 have Y1 : Hid ((w0.cell? ⟨g1, 1, none⟩).isSome = true) := by show _ = _; rw [r1]; rfl
 have HBA := Lib.hid (HB0.out.trans (ba.mono HB0.out.size))
 have HB1 := Lib.hid hb1
 have HWA := Lib.hid hwA
 have HHH := Lib.hid hH
 have hne : g ≠ g1 := by omega
 have HG1 : Hid (w.heap.size ≤ g1) := by show _ ≤ _; omega
 have HBAW := Lib.hid ba
 obtain ⟨U, hU⟩ := someU
 have HU := Lib.hid hU
 clear r0 r1 hU hw0 hg hg1 hb0 hb1 hH hwA ba
 go_region_held3 (fun w' => w'.cell? ⟨g, 0, none⟩ = some (.bool b) ∧ w'.cell? ⟨g, 1, none⟩ = some (.slice ao xs.length cap) ∧ w'.frozen? ⟨g1, 0, none⟩ = false ∧ w'.frozen? ⟨g1, 1, none⟩ = false ∧ w'.cell? ⟨g1, 0, none⟩ = some (U g1 0 w') ∧ w'.cell? ⟨g1, 1, none⟩ = some (U g1 1 w'))
  (first
   | (refine ⟨?_, ?_, ?_, ?_, HU.out _ _ _ (by exact Y0.out), HU.out _ _ _ (by exact Y1.out)⟩ <;> go_keep)
   | exact ⟨(set2_ne hne hne).trans ((b2.out.cell (p := ⟨g, 0, none⟩) hgH).trans A0.out), (set2_ne hne hne).trans ((b2.out.cell (p := ⟨g, 1, none⟩) hgH).trans A1.out), set2_fro.trans (fro_keep2 b2.out hg1H AF0.out), set2_fro.trans (fro_keep2 b2.out hg1H AF1.out), HU.out _ _ _ (isSome_set' (isSome_set' (by rw [b2.out.cell (p := ⟨g1, 0, none⟩) hg1H, AR0.out]; rfl))), HU.out _ _ _ (isSome_set' (isSome_set' (by rw [b2.out.cell (p := ⟨g1, 1, none⟩) hg1H, AR1.out]; rfl)))⟩
   | exact ⟨(b2.out.cell (p := ⟨g, 0, none⟩) hgH).trans A0.out, (b2.out.cell (p := ⟨g, 1, none⟩) hgH).trans A1.out, fro_keep2 b2.out hg1H AF0.out, fro_keep2 b2.out hg1H AF1.out, HU.out _ _ _ (by rw [b2.out.cell (p := ⟨g1, 0, none⟩) hg1H, AR0.out]; rfl), HU.out _ _ _ (by rw [b2.out.cell (p := ⟨g1, 1, none⟩) hg1H, AR1.out]; rfl)⟩
   | (rw [← HWA.out]; exact ⟨A0.out, A1.out, AF0.out, AF1.out, HU.out _ _ _ (by rw [AR0.out]; rfl), HU.out _ _ _ (by rw [AR1.out]; rfl)⟩))
  ((rw [← HWA.out]; refine step_copy_ws (by rfl) _ _ (by rfl) H (by rw [HHH.out]; rfl) (by exact HHC.out) (.slice ao xs.length cap) xs (by rfl) (by exact HVA.out) HL.out ?_; intro w2 uo ucap q1 b2))
 have hrr := (b2.out.block g1 hg1H).trans ((HBAW.out.block g1 hsz).trans HB1.out)
 have HRR := Lib.hid hrr
 have hle : w.heap.size ≤ H := by rw [HHH.out]; exact HB0.out.size
 have HB2 := Lib.hid (b2.out.mono hle)
 clear hrr
 go_wp2_with fail
 have s1 := heap_setCell_same w2 g1 0 _ 62 (.bool b) HRR.out
 have s2 := heap_setCell_same _ g1 1 _ 62 (.slice uo xs.length ucap) s1
 refine bodyPost_ret (results_cell_row rfl _ _ g1 62 _ _ _ rfl s2 Tryz.underlying62 rfl (by kernel_rfl)) rfl ?_
 exact ⟨uo, ucap, rfl, (fr_set2 q1.out hg1H).mono (by have := HG1.out; omega), below_set2 (HBA.out.trans HB2.out) HG1.out⟩
end Go.Proofs.YtgfmiladfeoldaaGreatDoor
namespace Go.Proofs.YtgfmiladfeoldaaGreatDoor
open Go.RowKit NatP LexP
def SoundM (r c : Int) (n : Nat) : Prop := (0 ≤ r ∧ r ≤ 64) ∧ (0 ≤ c ∧ c ≤ 64) ∧ (n : Int) = r * c
theorem SoundM.nat {r c : Int} {n : Nat} (h : SoundM r c n) : ∃ a b : Nat, r = (a : Int) ∧ c = (b : Int) ∧ a ≤ 64 ∧ b ≤ 64 ∧ n = a * b := by
 obtain ⟨⟨h1, h2⟩, ⟨h3, h4⟩, h5⟩ := h
 refine ⟨r.toNat, c.toNat, by omega, by omega, by omega, by omega, ?_⟩
 have e1 : r = (r.toNat : Int) := by omega
 have e2 : c = (c.toNat : Int) := by omega
 rw [e1, e2, ← Int.natCast_mul] at h5
 exact Int.ofNat.inj h5
instance (r c : Int) (n : Nat) : Decidable (SoundM r c n) := by unfold SoundM; infer_instance
def sideB (n : Int) : Bool := decide (0 ≤ n ∧ n ≤ 64)
set_option maxRecDepth 100000 in
theorem mside_any (n : Int) (w : World) :
  Calls Tryz.prog 119 #[.int .i64 n] w fun e w' => e = .returned (.bool (sideB n)) ∧ w = w' := by
 by_cases h1 : 0 ≤ n
 ·have h2 : sideB n = decide (n ≤ 64) := by simp [sideB, h1]
  have H2 := Lib.hid h2
  clear h2
  go_enter Tryz.func119, Tryz.ntmps119
  go_wp2_with fail
  go_ret
  exact ⟨by rw [H2.out]; rfl, rfl⟩
 ·have h2 : sideB n = false := by simp [sideB]; omega
  have H2 := Lib.hid h2
  clear h2
  go_enter Tryz.func119, Tryz.ntmps119
  go_wp2_with fail
  go_ret
  exact ⟨by rw [H2.out]; rfl, rfl⟩
set_option maxRecDepth 100000 in
set_option maxHeartbeats 1000000 in
theorem mcheck_bad (r c : Int) (n cap : Nat) (ao : Option Addr) (w : World) (hn : n ≤ 1073741824) (h : ¬ SoundM r c n) :
  Calls Tryz.prog 64 #[.agg #[.int .i64 r, .int .i64 c, .slice ao n cap]] w fun e w' => e = .returned (.int .i64 1) ∧ Below w.heap.size w w' := by
 have HA := Lib.hid (below_alloc w (.cells #[.int .i64 r, .int .i64 c, .slice ao n cap] 47))
 by_cases h1 : 0 ≤ r ∧ r ≤ 64
 ·have D1 := Lib.hid (show sideB r = true by simp [sideB]; exact h1)
  by_cases h2 : 0 ≤ c ∧ c ≤ 64
  ·have D2 := Lib.hid (show sideB c = true by simp [sideB]; exact h2)
   have hp : ¬ (n : Int) = r * c := fun e => h ⟨h1, h2, e⟩
   have hpb : 0 ≤ r * c ∧ r * c ≤ 4096 := by
    obtain ⟨h3, h4⟩ := h1
    obtain ⟨h5, h6⟩ := h2
    exact ⟨Int.mul_nonneg h3 h5, Int.le_trans (Int.mul_le_mul h4 h6 h5 (by omega)) (by omega)⟩
   obtain ⟨p, hpp⟩ : ∃ p, p = r * c := ⟨_, rfl⟩
   have hpe : r * c = p := hpp.symm
   rw [← hpp] at hp hpb
   obtain ⟨hp1, hp2⟩ := hpb
   have hne : ((n : Int) != p) = true := by simp; exact hp
   clear h h1 h2 hp hpp
   go_enter Tryz.func64, Tryz.ntmps64
   go_wp2_with fail
   refine (mside_any r _).mono ?_
   rintro e w1 ⟨rfl, rfl⟩
   rw [D1.out]
   go_wp2_with fail
   refine (mside_any c _).mono ?_
   rintro e w1 ⟨rfl, rfl⟩
   rw [D2.out]
   go_wp2_with fail
   go_ret
   exact ⟨rfl, HA.out⟩
  ·have D2 := Lib.hid (show sideB c = false by simp [sideB]; omega)
   clear h h1 h2
   go_enter Tryz.func64, Tryz.ntmps64
   go_wp2_with fail
   refine (mside_any r _).mono ?_
   rintro e w1 ⟨rfl, rfl⟩
   rw [D1.out]
   go_wp2_with fail
   refine (mside_any c _).mono ?_
   rintro e w1 ⟨rfl, rfl⟩
   rw [D2.out]
   go_wp2_with fail
   go_ret
   exact ⟨rfl, HA.out⟩
 ·have D1 := Lib.hid (show sideB r = false by simp [sideB]; omega)
  clear h h1
  go_enter Tryz.func64, Tryz.ntmps64
  go_wp2_with fail
  refine (mside_any r _).mono ?_
  rintro e w1 ⟨rfl, rfl⟩
  rw [D1.out]
  go_wp2_with fail
  go_ret
  exact ⟨rfl, HA.out⟩
def MatTxPost (r c : Int) (l : List (Bool × Nat)) (w : World) (e : Ending) (w' : World) : Prop :=
 (if SoundM r c l.length then e = .returned (.tuple #[.string ⟨(gridT r.toNat c.toNat (intsT l)).toArray⟩, .int .i64 0]) else e = .returned (.tuple #[.string ⟨#[]⟩, .int .i64 1])) ∧ Below w.heap.size w w'
set_option maxRecDepth 100000 in
set_option maxHeartbeats 1000000 in
theorem mat_text_any (r c : Int) (l : List (Bool × Nat)) (v : Value) (w : World) (hs : SG w) (hv : IRd w v l) (hn : l.length ≤ 1073741824) :
  Calls Tryz.prog 30 #[.agg #[.int .i64 r, .int .i64 c, v]] w (MatTxPost r c l w) := by
 by_cases h : SoundM r c l.length
 ·obtain ⟨a, b, rfl, rfl, ha, hb, hab⟩ := h.nat
  refine (mat_text a b l v w hs hv ha hb hab).mono ?_
  rintro e w1 ⟨he, hb1⟩
  refine ⟨?_, hb1⟩
  rw [if_pos h]; exact he
 ·obtain ⟨ao, cap, rfl, h1, h2, h3⟩ := hv
  obtain ⟨n, hnn⟩ : ∃ n, n = l.length := ⟨_, rfl⟩
  rw [← hnn] at h hn ⊢
  have HA := Lib.hid (below_alloc w (.cells #[.int .i64 r, .int .i64 c, .slice ao n cap] 47))
  have H := Lib.hid h
  have HNN := Lib.hid hnn
  clear hs h1 h2 h3 hnn h
  go_enter Tryz.func30, Tryz.ntmps30
  go_wp2_with fail
  refine (mcheck_bad r c n cap ao _ hn H.out).mono ?_
  rintro e w1 ⟨rfl, hb1⟩
  have HB1 := Lib.hid (HA.out.trans (hb1.mono HA.out.size))
  clear hb1
  go_wp2_with fail
  go_ret2
  refine ⟨?_, HB1.out⟩
  rw [← HNN.out, if_neg H.out]; rfl
end Go.Proofs.YtgfmiladfeoldaaGreatDoor
namespace Go.Proofs.YtgfmiladfeoldaaGreatDoor
open Go.RowKit NatP LexP
theorem three_boxes (w : World) (c0 c1 c2 : Array Value) (t t2 : TypeId) : ∃ w0, w0 = ((w.alloc (.cells c0 t)).alloc (.cells c1 t)).alloc (.cells c2 t2) ∧ Hid (Below w.heap.size w w0) ∧ w0.heap[w.heap.size]? = some (.cells c0 t (0, 0)) ∧ w0.heap[w.heap.size + 1]? = some (.cells c1 t (0, 0)) ∧ w0.heap[w.heap.size + 1 + 1]? = some (.cells c2 t2 (0, 0)) ∧ w.heap.size + 1 + 1 < w0.heap.size := by
 have a1 := below_alloc w (.cells c0 t)
 have a2 := below_alloc (w.alloc (.cells c0 t)) (.cells c1 t)
 have a3 := below_alloc ((w.alloc (.cells c0 t)).alloc (.cells c1 t)) (.cells c2 t2)
 have h1 := heap_alloc_new (w.alloc (.cells c0 t)) (.cells c1 t)
 have h2 := heap_alloc_new ((w.alloc (.cells c0 t)).alloc (.cells c1 t)) (.cells c2 t2)
 rw [World.size_alloc] at h1
 rw [World.size_alloc, World.size_alloc] at h2
 refine ⟨_, rfl, a1.trans ((a2.trans (a3.mono (by simp))).mono (by simp)), ?_, ?_, h2, by simp⟩
 ·exact (a3.block w.heap.size (by simp <;> omega)).trans ((a2.block w.heap.size (by simp)).trans (heap_alloc_new w _))
 ·exact (a3.block (w.heap.size + 1) (by simp)).trans h1
set_option maxRecDepth 100000 in
set_option maxHeartbeats 1000000 in
theorem bez_gcd (na nb : Bool) (v u : Value) (xs ys : List Nat) (m : Nat) (w : World) (hv : Rd w v xs) (hu : Rd w u ys) (hl : xs.length ≤ m) (hl2 : ys.length ≤ m) (hm : m ≤ 274877906944) :
  Calls Tryz.prog 173 #[.agg #[.bool na, v], .agg #[.bool nb, u]] w (ZPost false (Nat.gcd (val xs) (val ys)) m w) := by
 have HV := Lib.hid hv
 have HU := Lib.hid hu
 obtain ⟨ao, cap, rfl, -, -, -, -⟩ := hv.2
 obtain ⟨bo, cap2, rfl, -, -, -, -⟩ := hu.2
 clear hv hu
 obtain ⟨w0, hw0, HB0, b0, b1, b2, hsz⟩ := three_boxes w #[.bool na, .slice ao xs.length cap] #[.bool nb, .slice bo ys.length cap2] #[.bool false, .slice none 0 0] 62 62
 have HVA := Lib.hid (HV.out.below HB0.out)
 have HUA := Lib.hid (HU.out.below HB0.out)
 have HW0 := Lib.hid hw0
 have B2 := Lib.hid b2
 have HSZ := Lib.hid hsz
 clear hw0 b0 b1 b2 hsz
 go_enter Tryz.func173, Tryz.ntmps173
 go_wp2_with fail
 rw [← HW0.out]
 obtain ⟨g, hg⟩ : ∃ g, g = w.heap.size := ⟨_, rfl⟩
 rw [← hg] at B2 HSZ ⊢
 have HG := Lib.hid hg
 clear hg
 refine (nat_gcd _ _ xs ys m _ HVA.out HUA.out hl hl2 hm).mono ?_
 rintro e w1 ⟨q, qs, rfl, q1, q2, q3, q4, hb⟩
 obtain ⟨qo, qcap, rfl, -, -, -, -⟩ := q1.1.2
 have Q1 := Lib.hid q1
 have Q2 := Lib.hid q2
 have HB := Lib.hid hb
 clear q1 q2 hb
 have j2 := (HB.out.block (g + 1 + 1) HSZ.out).trans B2.out
 have r0 : w1.cell? ⟨g + 1 + 1, 0, none⟩ = some (.bool false) := (cell_of_row w1 _ _ _ _ _ j2).trans rfl
 have r1 : w1.cell? ⟨g + 1 + 1, 1, none⟩ = some (.slice none 0 0) := (cell_of_row w1 _ _ _ _ _ j2).trans rfl
 have f0 : w1.frozen? ⟨g + 1 + 1, 0, none⟩ = false := frozen_of_row w1 _ 0 _ _ j2
 have f1 : w1.frozen? ⟨g + 1 + 1, 1, none⟩ = false := frozen_of_row w1 _ 1 _ _ j2
 have J2 := Lib.hid j2
 clear j2
 go_wp2_with fail
 have s1 := heap_setCell_same w1 (g + 1 + 1) 0 _ 62 (.bool false) J2.out
 have s2 := heap_setCell_same _ (g + 1 + 1) 1 _ 62 (.slice qo qs.length qcap) s1
 refine bodyPost_ret (results_cell_row rfl _ _ (g + 1 + 1) 62 _ _ _ rfl s2 Tryz.underlying62 rfl (by kernel_rfl)) rfl ?_
 exact ⟨_, qs, rfl, (fr_set2 Q1.out HSZ.out).mono (by have := HSZ.out; have := HG.out; omega), Q2.out, q3, q4, below_set2 (HB0.out.trans (HB.out.mono HB0.out.size)) (by have := HG.out; omega)⟩
end Go.Proofs.YtgfmiladfeoldaaGreatDoor
