/- Walks of the documents' reading of numbers: onto, value, trim. -/
import Derived.Test.YtebidhdoiojaeaaShelf
import Derived.Test.YtebidhdoiojaeaaNumP
import Derived.Test.YtebidhdoiojaeaaLexMem
import Derived.Handy
namespace Go.Proofs.Ytebidhdoiojaeaa
open Go.RowKit LexP NumP

def dgCells (l : List Nat) : List Value := l.map fun d => .int .i64 (d : Nat)
theorem dgCells_append (a b : List Nat) : dgCells (a ++ b) = dgCells a ++ dgCells b := by simp [dgCells]
theorem dgCells_length (a : List Nat) : (dgCells a).length = a.length := by simp [dgCells]

theorem Try.infoInt : (Try.prog.info? 3).map (fun i => (i.zero, i.size, i.bytes)) = some (some (.int .i64 0), 1, 8) := by kernel_rfl

/-- Digits in memory that is the caller's own from block B on. -/
def OwnD (B : Nat) (w : World) (v : Value) (ds : List Nat) : Prop := w.ownsRow B 3 1 v ds.length (dgCells ds)

/-- The head of a slice of one's own. -/
theorem ownsRow_prefix {w : World} {B : Nat} {e : TypeId} {size : Nat} {ao : Option Addr} {n cap k : Nat} {xs : List Value} (h : w.ownsRow B e size (.slice ao n cap) n xs) (hk : k ≤ n) :
    w.ownsRow B e size (.slice ao k cap) k (xs.take (k * size)) := by
  have hle : k * size ≤ n * size := Nat.mul_le_mul_right _ hk
  refine ⟨by rw [List.length_take, h.1]; omega, ?_⟩
  rcases h.2 with ⟨hv, rfl⟩ | ⟨g, cap', cur, hv, hg, hh, hn, hc, hcs, ht⟩
  · cases hv
    obtain rfl : k = 0 := by omega
    exact .inl ⟨rfl, rfl⟩
  · cases hv
    refine .inr ⟨g, cap, cur, rfl, hg, hh, by omega, hc, hcs, ?_⟩
    rw [← ht, List.take_take, Nat.min_eq_left hle]

theorem OwnD.head {B : Nat} {w : World} {ao : Option Addr} {cap k : Nat} {ds : List Nat} (h : OwnD B w (.slice ao ds.length cap) ds) (hk : k ≤ ds.length) : OwnD B w (.slice ao k cap) (ds.take k) := by
  have h1 := ownsRow_prefix h hk
  unfold OwnD
  have e : dgCells (ds.take k) = (dgCells ds).take (k * 1) := by simp [dgCells]
  rw [List.length_take, Nat.min_eq_left hk, e]; exact h1

theorem stripZ_pos {l : List Nat} {d : Nat} (h : l.getLast? = some d) (hd : d ≠ 0) : stripZ l = l := by
  obtain ⟨q, rfl⟩ := List.getLast?_eq_some_iff.1 h
  exact stripZ_snoc_pos q d hd

def OntoPost (B : Nat) (l : List Nat) (w : World) (e : Ending) (w' : World) : Prop := ∃ v, e = .returned v ∧ OwnD B w' v l ∧ Below B w w'

def OnRel (B : Nat) (ds : List Nat) (b v : Nat) (dv : Value) (w : World) (sv si : Value) (wr : World) : Prop :=
  ∃ k vk dn, k ≤ ds.length ∧ si = .int .i64 (k : Nat) ∧ sv = .int .i64 (vk : Nat) ∧ vk < 65536 ∧ dn.length = k ∧ ontoL ds b v = dn ++ ontoL (ds.drop k) b vk ∧
    wr.ownsRow B 3 1 dv ds.length (dgCells (dn ++ ds.drop k)) ∧ Below B w wr

set_option maxRecDepth 100000 in
set_option maxHeartbeats 1000000 in
theorem onto_any (B : Nat) (ds : List Nat) (b v : Nat) (dv : Value) (w : World) (hown : OwnD B w dv ds) (hB : B ≤ w.heap.size) (hds : ∀ d ∈ ds, d < 65536) (hb : b ≤ 36) (hv : v < 65536) (hl : ds.length ≤ 2097152) :
    Calls Try.prog 63 #[dv, .int .i64 (b : Nat), .int .i64 (v : Nat)] w (OntoPost B (ontoL ds b v) w) := by
  obtain ⟨i0, hi, hz0, hz1, hz2⟩ := info_parts Try.infoInt
  have HD := Lib.hid hds
  have HO := Lib.hid hown
  obtain ⟨ao, cap, hdv, hnc, hcm, -⟩ := ownsRow_shape hown
  subst hdv
  clear hds hown hcm
  go_enter Try.func63, Try.ntmps63
  go_wp2_with fail
  go_loopw [2, 7] (fun sv si wr => OnRel B ds b v (.slice ao ds.length cap) w sv si wr) (fun _ si _ => ds.length - (intOf si).toNat)
  case atStart => exact ⟨0, v, [], Nat.zero_le _, rfl, rfl, hv, rfl, rfl, HO.out, Below.refl _ _⟩
  case round =>
    obtain ⟨k, vk, dn, hk, rfl, rfl, hvk, hdl, hon, hown, hbl⟩ := hrel
    have HON := Lib.hid hon
    have HDL := Lib.hid hdl
    have hzz := hbl.size
    clear hon hdl
    by_cases hlt : k < ds.length
    · obtain ⟨d, hd⟩ : ∃ d, ds[k]? = some d := ⟨_, List.getElem?_eq_getElem hlt⟩
      obtain ⟨ao2, cap2, hdv2, -, -, hsh⟩ := ownsRow_shape hown
      obtain ⟨g, hao, hbg, hgs, hcell⟩ := hsh (by omega)
      cases hdv2
      subst hao
      have hd2 := HD.out d (List.mem_of_getElem? hd)
      have hdrop : ds.drop k = d :: ds.drop (k + 1) := by
        rw [List.drop_eq_getElem_cons hlt]
        have := List.getElem?_eq_getElem hlt
        rw [hd] at this
        rw [Option.some.inj this]
      have e1 : wr.cell? ⟨g, k, none⟩ = some (.int .i64 (d : Nat)) := by
        rw [hcell k (by omega), hdrop, dgCells_append, List.getElem?_append_right (by rw [dgCells_length]; have := HDL.out; omega)]
        have : k - (dgCells dn).length = 0 := by rw [dgCells_length]; have := HDL.out; omega
        rw [this]; rfl
      have e2 : wr.frozen? ⟨g, k, none⟩ = false := hown.frozenAt k
      have hm0 : (0 : Int) ≤ (d : Int) * (b : Int) := by rw [← Int.natCast_mul]; omega
      have hm1 : (d : Int) * (b : Int) ≤ 2359260 := by
        have h1 : d * b ≤ 65535 * 36 := Nat.mul_le_mul (by omega) hb
        rw [← Int.natCast_mul]; omega
      have hst := hown.stored k (.int .i64 (((d * b + vk) % 65536 : Nat)))
      have hset : (dgCells (dn ++ ds.drop k)).set k (.int .i64 (((d * b + vk) % 65536 : Nat))) = dgCells ((dn ++ [(d * b + vk) % 65536]) ++ ds.drop (k + 1)) := by
        rw [hdrop, dgCells_append, List.set_append_right _ _ (by rw [dgCells_length]; have := HDL.out; omega)]
        have : k - (dgCells dn).length = 0 := by rw [dgCells_length]; have := HDL.out; omega
        rw [this, dgCells_append, dgCells_append, List.append_assoc]
        rfl
      rw [hset] at hst
      have HST := Lib.hid hst
      have HDR := Lib.hid hdrop
      clear hcell hsh hst hset hdrop hd
      have hq0 : (0 : Int) ≤ ((d : Int) * (b : Int) + (vk : Int)) / 65536 := by omega
      have hq1 : ((d * b + vk) / 65536 : Nat) < 65536 := by
        have h1 : d * b ≤ 65535 * 36 := Nat.mul_le_mul (by omega) hb
        omega
      have HON2 : Hid (ontoL ds b v = (dn ++ [(d * b + vk) % 65536]) ++ ontoL (ds.drop (k + 1)) b ((d * b + vk) / 65536)) := by
        show _ = _
        rw [HON.out, HDR.out]; simp [ontoL]
      have ev : Hid (Value.int .i64 (((d : Int) * (b : Int) + (vk : Int)) / 65536) = .int .i64 (((d * b + vk) / 65536 : Nat) : Int)) := by
        show _ = _
        congr 1
      have em : Hid (Value.int .i64 (((d : Int) * (b : Int) + (vk : Int)) % 65536) = .int .i64 (((d * b + vk) % 65536 : Nat) : Int)) := by
        show _ = _
        congr 1
      go_wp2_with fail
      rw [em.out]
      refine ⟨⟨k + 1, (d * b + vk) / 65536, dn ++ [(d * b + vk) % 65536], by omega, by go_num, ev.out, hq1, by rw [List.length_append, HDL.out]; rfl, HON2.out, HST.out.1, hbl.setCell hbg _⟩, by simp [intOf] <;> omega⟩
    · have hkn : k = ds.length := by omega
      have hend : Hid (ontoL ds b v = dn ++ if 0 < vk then [vk] else []) := by
        show _ = _
        rw [HON.out, List.drop_of_length_le (by omega)]; rfl
      have hown2 : wr.ownsRow B 3 1 (.slice ao ds.length cap) ds.length (dgCells dn) := by
        rw [List.drop_of_length_le (by omega), List.append_nil] at hown; exact hown
      have hlen : Hid (dn.length = ds.length) := by show _ = _; rw [HDL.out]; exact hkn
      by_cases hv0 : 0 < vk
      · have HE : Hid (ontoL ds b v = dn ++ [vk]) := by show _ = _; rw [hend.out, if_pos hv0]
        clear hend hown hkn
        go_wp2_with (at_builtin; refine wpList_append_own _ rfl _ _ 24 rfl B 3 i0 (.int .i64 0) 1 8 Try.underlying24 hi hz0 hz1 hz2 rfl (by decide) _ _ _ rfl (hown2.alloc _) ⟨wr.heap.size, 0, none⟩ 1 1 [.int .i64 vk] rfl rfl ?c1 ?c2 ?c3 ?c4 ?c5 ?_)
        case c1 => exact cells_new _ _ _ _ rfl
        case c2 => intro u hu; simp at hu; subst hu; rfl
        case c3 => unfold maxLen; omega
        case c4 => omega
        case c5 => simp; omega
        intro v3 w3 hown3 hgrow3 _
        have HO3 : Hid (OwnD B w3 v3 (ontoL ds b v)) := by
          show World.ownsRow _ _ _ _ _ _ _
          rw [HE.out, dgCells_append, List.length_append, hlen.out]; exact hown3
        have HB3 : Hid (Below B w w3) := Below.grown (hbl.alloc (by omega) _) hgrow3 (by simp; omega) (fun q hq => (hown2.lt q hq).1)
        clear hown3 hgrow3
        go_wp2_with fail
        go_ret
        exact ⟨_, rfl, HO3.out, HB3.out⟩
      · have HE : Hid (ontoL ds b v = dn) := by show _ = _; rw [hend.out, if_neg hv0, List.append_nil]
        clear hend hown hkn
        go_wp2_with fail
        go_ret
        refine ⟨_, rfl, ?_, hbl⟩
        show World.ownsRow _ _ _ _ _ _ _
        rw [HE.out, hlen.out]; exact hown2

/-- trim answers the same memory, a shorter slice. -/
def TrimPost (B : Nat) (ds : List Nat) (w : World) (e : Ending) (w' : World) : Prop := ∃ v, e = .returned v ∧ OwnD B w v (stripZ ds) ∧ w = w'

set_option maxRecDepth 100000 in
set_option maxHeartbeats 1000000 in
theorem trim_any (B : Nat) (ds : List Nat) (dv : Value) (w : World) (hown : OwnD B w dv ds) :
    Calls Try.prog 69 #[dv] w (TrimPost B ds w) := by
  have HO := Lib.hid hown
  obtain ⟨ao, cap, hdv, hnc, hcm, -⟩ := ownsRow_shape hown
  subst hdv
  have hm : ds.length ≤ 9223372036854775807 := by unfold maxLen at hcm; omega
  clear hown hcm
  go_enter Try.func69, Try.ntmps69
  go_wp2_with fail
  go_loop [3] (fun n => ∃ k : Nat, k ≤ ds.length ∧ n = .int .i64 (k : Nat) ∧ stripZ (ds.take k) = stripZ ds) (fun n => (intOf n).toNat)
  case atStart => exact ⟨ds.length, Nat.le_refl _, rfl, by rw [List.take_length]⟩
  case round =>
    obtain ⟨k, hk, rfl, hst⟩ := hrel
    have HST := Lib.hid hst
    clear hst
    by_cases h0 : 0 < k
    · obtain ⟨ao2, cap2, hdv2, -, -, hsh⟩ := ownsRow_shape HO.out
      obtain ⟨g, hao, hbg, hgs, hcell⟩ := hsh (by omega)
      cases hdv2
      subst hao
      obtain ⟨d, hd⟩ : ∃ d, ds[k - 1]? = some d := ⟨_, List.getElem?_eq_getElem (by omega)⟩
      have e1 : w.cell? ⟨g, k - 1, none⟩ = some (.int .i64 (d : Nat)) := by rw [hcell (k - 1) (by omega)]; simp [dgCells, hd]
      have hi1 : (0 : Int) ≤ (k : Int) - 1 := by omega
      have hi2 : (((k : Int) - 1).toNat) = k - 1 := by omega
      have htk : Hid (ds.take k = ds.take (k - 1) ++ [d]) := by
        show _ = _
        have := List.take_add_one (l := ds) (i := k - 1)
        rw [show k - 1 + 1 = k from by omega, hd] at this
        exact this
      clear hsh hcell hd
      by_cases hdz : d = 0
      · have hz1 : ((d : Int) == 0) = true := by simp [hdz]
        have HDZ := Lib.hid hdz
        clear hdz
        go_wp2_with fail
        exact ⟨⟨k - 1, by omega, by show Value.int .i64 _ = _; congr 1; omega, by rw [← HST.out, htk.out, HDZ.out, stripZ_snoc_zero]⟩, by simp [intOf] <;> omega⟩
      · have hz1 : ((d : Int) == 0) = false := by simp [hdz]
        have HDZ := Lib.hid hdz
        clear hdz
        go_wp2_with fail
        go_ret
        have e : stripZ ds = ds.take k := by rw [← HST.out, htk.out, stripZ_snoc_pos _ _ HDZ.out]
        exact ⟨_, rfl, by rw [e]; exact OwnD.head HO.out hk, rfl⟩
    · obtain rfl : k = 0 := by omega
      go_wp2_with fail
      go_ret
      have e : stripZ ds = ds.take 0 := by rw [← HST.out]; rfl
      exact ⟨_, rfl, by rw [e]; exact OwnD.head HO.out hk, rfl⟩
end Go.Proofs.Ytebidhdoiojaeaa
