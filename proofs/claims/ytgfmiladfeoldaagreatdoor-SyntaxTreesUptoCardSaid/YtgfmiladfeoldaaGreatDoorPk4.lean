/- Joined texts of this claim's proof: LexW7. -/
import Derived.Test.YtgfmiladfeoldaaGreatDoorPk3
set_option linter.unusedSimpArgs false
set_option linter.unusedVariables false
namespace Go.Proofs.YtgfmiladfeoldaaGreatDoor
open Go.RowKit LexP
theorem dec_ascii {l : Bytes} {v n : Nat} (h : dec l = some (v, n)) (hv : v < 128) : n = 1 ∧ l.take n = [v.toUInt8] := by
 unfold dec at h
 split at h
 ·cases h
 ·rename_i b t
  split at h
  ·cases h
   refine ⟨rfl, ?_⟩
   simp
  split at h
  ·split at h
   ·split at h
    ·rename_i k; simp only [Bool.and_eq_true, decide_eq_true_eq] at k; simp at h; omega
    ·simp at h
   ·cases h
  split at h
  ·split at h
   ·split at h
    ·rename_i k; simp only [Bool.and_eq_true, decide_eq_true_eq] at k; simp at h; omega
    ·simp at h
   ·cases h
  split at h
  ·split at h
   ·split at h
    ·rename_i k; simp only [Bool.and_eq_true, decide_eq_true_eq] at k; simp at h; omega
    ·simp at h
   ·cases h
  ·cases h
theorem markOk_chars : ∀ l : Bytes, ∀ c ∈ chars l, MarkOk c := by
 apply chars_ind
 ·intro c hc; simp [chars_nil] at hc
 ·intro l hl ih c hc
  rw [chars_cons hl] at hc
  rcases List.mem_cons.1 hc with rfl | hc
  ·intro hk hlt
   unfold rn at hlt ⊢
   simp only at hlt ⊢
   cases hd : dec l with
   | none => simp [val, hd] at hlt
   | some p =>
    obtain ⟨v, n⟩ := p
    have hv : val l = some v := by simp [val, hd]
    have hw : wid l = n := by simp [wid, hd]
    rw [hv] at hlt ⊢
    rw [hw]
    exact (dec_ascii hd hlt).2
  ·exact ih c hc
theorem drop_cons {cs : List C} {i : Nat} {c : C} (h : cs[i]? = some c) : cs.drop i = c :: cs.drop (i + 1) := by
 have hlt : i < cs.length := (List.getElem?_eq_some_iff.1 h).1
 rw [List.drop_eq_getElem_cons hlt]
 have := List.getElem?_eq_getElem hlt
 rw [h] at this
 rw [Option.some.inj this]
theorem Toks_next {cs : List C} {i : Nat} {c : C} (h : cs[i]? = some c) (h1 : kd c ≠ 1) (h2 : kd c ≠ 2) :
  ((nextRes cs i c).2.2.2 ≠ 0 → Toks (i + 1) (cs.drop i) = .error (i + 1, (nextRes cs i c).2.2.2)) ∧
  ((nextRes cs i c).2.2.2 = 0 → i < (nextRes cs i c).2.2.1 ∧ (nextRes cs i c).2.2.1 ≤ cs.length ∧
   Toks (i + 1) (cs.drop i) = (Toks ((nextRes cs i c).2.2.1 + 1) (cs.drop (nextRes cs i c).2.2.1)).after [((nextRes cs i c).1, (nextRes cs i c).2.1, i + 1)]) := by
 have hlt : i < cs.length := (List.getElem?_eq_some_iff.1 h).1
 have hd := drop_cons h
 have hk := kd_le c
 have hl : ∀ p, i + runLen p (cs.drop i) ≤ cs.length := fun p => by have := runLen_le p (cs.drop i); rw [List.length_drop] at this; omega
 by_cases h0 : kd c = 0
 ·unfold nextRes; simp only [h0, if_true]
  exact ⟨fun _ => by rw [hd, Toks_bad _ h0], fun h => by simp at h⟩
 by_cases h3 : kd c = 3
 ·have e := Toks_num (c := c) (cs := cs.drop (i + 1)) (i + 1) h3
  rw [← hd] at e
  have hp : 1 ≤ runLen isNum (cs.drop i) := by rw [hd]; exact runLen_pos (by simp [isNum, h3])
  unfold nextRes; simp only [h3, Nat.reduceEqDiff, if_true, if_false]
  rw [e]
  split
  ·exact ⟨fun _ => rfl, fun h => by simp at h⟩
  ·refine ⟨fun h => by simp at h, fun _ => ⟨by simp only; omega, hl _, ?_⟩⟩
   simp only [List.drop_drop]
   rw [show i + 1 + runLen isNum (cs.drop i) = i + runLen isNum (cs.drop i) + 1 from by omega]
 by_cases h4 : kd c = 4
 ·have e := Toks_name (c := c) (cs := cs.drop (i + 1)) (i + 1) h4
  rw [← hd] at e
  have hp : 1 ≤ runLen isAl (cs.drop i) := by rw [hd]; exact runLen_pos (by simp [isAl, h4])
  unfold nextRes; simp only [h4, Nat.reduceEqDiff, if_true, if_false]
  rw [e]
  split
  ·exact ⟨fun _ => rfl, fun h => by simp at h⟩
  ·refine ⟨fun h => by simp at h, fun _ => ⟨by simp only; omega, hl _, ?_⟩⟩
   simp only [List.drop_drop]
   rw [show i + 1 + runLen isAl (cs.drop i) = i + runLen isAl (cs.drop i) + 1 from by omega]
 by_cases h5 : kd c = 5
 ·unfold nextRes; simp only [h5, Nat.reduceEqDiff, if_true, if_false]
  refine ⟨fun h => by simp at h, fun _ => ⟨by omega, by omega, ?_⟩⟩
  rw [hd, Toks_mark _ h5]
 ·have h6 : kd c = 6 := by omega
  unfold nextRes; simp only [h6, Nat.reduceEqDiff, if_false]
  exact ⟨fun _ => by rw [hd, Toks_other _ h6], fun h => by simp at h⟩
def TokPost (r : Res) (w : World) (e : Ending) (w' : World) : Prop :=
 ∃ v, e = .returned (.tuple #[v, .int .i64 (resCol r : Nat), .int .i64 (resErr r : Nat)]) ∧ w'.ownsRow w.heap.size 119 3 v (resTok r).length (tkCells (resTok r)) ∧ Below w.heap.size w w'
theorem Tryz.infoTok : (Tryz.prog.info? 119).map (fun i => (i.zero, i.size, i.bytes)) = some (some (.agg #[.int .i64 0, .string ⟨#[]⟩, .int .i64 0]), 3, 32) := by kernel_rfl
def TkRel (cs : List C) (w1 : World) (v i : Value) (wr : World) : Prop :=
 ∃ k acc, k ≤ cs.length ∧ i = .int .i64 (k : Nat) ∧ wr.ownsRow w1.heap.size 119 3 v acc.length (tkCells acc) ∧ Below w1.heap.size w1 wr ∧
  Toks 1 cs = (Toks (k + 1) (cs.drop k)).after acc ∧ acc.length ≤ k
theorem tokpost_err {r : Res} {w w' : World} {x y : Value} (c e : Nat) (hx : x = .int .i64 (c : Nat)) (hy : y = .int .i64 (e : Nat)) (h : r = .error (c, e)) (hb : Below w.heap.size w w') : TokPost r w (.returned (.tuple #[.slice none 0 0, x, y])) w' := by
 subst h hx hy; exact ⟨_, rfl, World.ownsRow_nil _ _ _ _, hb⟩
theorem tokpost_ok {r : Res} {w w' : World} {v : Value} {l : List Tok} (h : r = .ok l) (ho : w'.ownsRow w.heap.size 119 3 v l.length (tkCells l)) (hb : Below w.heap.size w w') : TokPost r w (.returned (.tuple #[v, .int .i64 0, .int .i64 0])) w' := by
 subst h; exact ⟨_, rfl, ho, hb⟩
theorem after_err {r : Res} {acc : List Tok} {e : Nat × Nat} (h : r = .error e) : r.after acc = .error e := by subst h; rfl
theorem after_ok {r : Res} {acc : List Tok} (h : r = .ok []) : r.after acc = .ok acc := by subst h; simp [Res.after]
set_option maxRecDepth 100000 in
set_option maxHeartbeats 1000000 in
theorem tokens_big (s : ByteArray) (w : World) (hs : s.size ≤ 67108864) (hx : Lx w) :
  Calls Tryz.prog 90 #[.string s] w (TokPost (Toks 1 (chars s.data.toList)) w) := by
 obtain ⟨i0, hi, hz0, hz1, hz2⟩ := info_parts Tryz.infoTok
 have HX := Lib.hid hx
 have HMK := Lib.hid (markOk_chars s.data.toList)
 have hn : (chars s.data.toList).length ≤ 67108864 := by have := chars_len s.data.toList; rw [← Lib.size_eq] at this; omega
 clear hx
 go_enter Tryz.func90, Tryz.ntmps90
 go_wp2_with fail
 refine (chars_any s _ hs).mono ?_
 rintro e w1 ⟨v, rfl, hown, hbel⟩
 have HR : Hid (RdCh w1 v (chars s.data.toList)) := ownsRow_mono hown (Nat.zero_le _)
 have HB := Lib.hid hbel
 have hsz := hbel.size
 clear hown hbel
 obtain ⟨ao, cap, hv, hnc, hcm, hsh⟩ := HR.out.shape
 have HSH := Lib.hid hsh
 clear hsh hcm
 subst hv
 go_wp2_with fail
 go_loopw [2, 6] (fun v i wr => TkRel (chars s.data.toList) w1 v i wr) (fun _ i _ => (chars s.data.toList).length - (intOf i).toNat)
 case atStart => exact ⟨0, [], Nat.zero_le _, rfl, World.ownsRow_nil _ _ _ _, Below.refl _ _, by simp [Res.after_nil], Nat.le_refl _⟩
 case round =>
  obtain ⟨k, acc, hk, rfl, hown, hb, htk, hal⟩ := hrel
  have HTK := Lib.hid htk
  have HB2 : Hid (Below w.heap.size w wr) := HB.out.trans (hb.mono HB.out.size)
  have hzz := hb.size
  clear htk
  by_cases hlt : k < (chars s.data.toList).length
  ·obtain ⟨c, hc⟩ : ∃ c, (chars s.data.toList)[k]? = some c := ⟨_, List.getElem?_eq_getElem hlt⟩
   obtain ⟨g, rfl, hgs, e1, e2, e3⟩ := HSH.out _ c hc
   rw [← hb.cell (p := ⟨g, _, none⟩) hgs] at e1 e2 e3
   have HC := Lib.hid hc
   have HD := Lib.hid (drop_cons hc)
   clear hc HSH
   by_cases hk1 : kd c = 1
   ·have HE : Hid (Toks (k + 1) ((chars s.data.toList).drop k) = Toks (k + 1 + 1) ((chars s.data.toList).drop (k + 1))) := by show _ = _; rw [HD.out, Toks_blank _ hk1]
    rw [hk1] at e1
    clear hk1
    go_wp2_with fail
    have hfin : TkRel (chars s.data.toList) w1 u2 (.int .i64 (k + 1)) wr := ⟨k + 1, acc, by omega, by go_num, hown, hb, by rw [HTK.out, HE.out], by omega⟩
    first | exact ⟨hfin, by simp [intOf]; omega⟩ | exact ⟨by (repeat apply Exists.intro); exact ⟨hfin, rfl⟩, by simp [intOf]; omega⟩
   by_cases hk2 : kd c = 2
   ·have HE := Lib.hid (Toks_hash (cs := (chars s.data.toList).drop (k + 1)) (k + 1) hk2)
    rw [← HD.out] at HE
    have hle := runLen_le notBad ((chars s.data.toList).drop k)
    rw [List.length_drop] at hle
    rw [hk2] at e1
    clear hk1 hk2
    go_wp2_with fail
    refine (run_any _ notBad takes_notBad _ (chars s.data.toList) k _ (HR.out.below hb) hk).mono ?_
    rintro e w2 ⟨rfl, hb2⟩
    by_cases hl2 : k + runLen notBad ((chars s.data.toList).drop k) < (chars s.data.toList).length
    ·go_wp2_with fail
     go_ret3
     exact tokpost_err (k + 1 + runLen notBad ((chars s.data.toList).drop k)) 12 (by show Value.int .i64 _ = _; congr 1; omega) rfl
      (HTK.out.trans (after_err (HE.out.trans (if_pos (by rw [List.length_drop]; omega))))) (HB2.out.trans (hb2.mono HB2.out.size))
    ·go_wp2_with fail
     have hfin : TkRel (chars s.data.toList) w1 u2 (.int .i64 (↑k + ↑(runLen notBad ((chars s.data.toList).drop k)))) w2 := by
      refine ⟨k + runLen notBad ((chars s.data.toList).drop k), acc, by omega, by go_num, ownsRow_below hown hb2 (Nat.le_refl _), hb.trans (hb2.mono hzz), ?_, by omega⟩
      have hdn : List.drop (k + runLen notBad ((chars s.data.toList).drop k)) (chars s.data.toList) = [] := List.drop_eq_nil_of_le (by omega)
      rw [hdn, Toks_nil, HTK.out, HE.out, if_neg (by rw [List.length_drop]; omega)]
     have hrun : 1 ≤ runLen notBad ((chars s.data.toList).drop k) := by omega
     first | exact ⟨hfin, by simp [intOf]; omega⟩ | exact ⟨by (repeat apply Exists.intro); exact ⟨hfin, rfl⟩, by simp [intOf]; omega⟩
   ·have HN := Toks_next HC.out hk1 hk2
    have HNE := Lib.hid HN.1
    have HNO := Lib.hid HN.2
    have HMC := HMK.out c (List.mem_of_getElem? HC.out)
    have n1 : ((kd c : Int) == 1) = false := by simp; omega
    have n2 : ((kd c : Int) == 2) = false := by simp; omega
    clear HN
    go_wp2_with fail
    refine (next_any s _ k c _ (HR.out.below hb) HC.out hs hk1 hk2 HMC (HX.out.below HB2.out)).mono ?_
    rintro e w2 ⟨rfl, hb2⟩
    generalize nextRes (chars s.data.toList) k c = nr at *
    obtain ⟨k3, t3, j3, e3⟩ := nr
    simp only at HNE HNO ⊢
    clear HMC hk1 hk2 n1 n2 e1 e2 HD HC
    by_cases he : e3 = 0
    ·subst he
     obtain ⟨hj1, hj2, hj3⟩ := HNO.out rfl
     have HJ := Lib.hid hj3
     have q0 := ownsRow_below hown hb2 (Nat.le_refl _)
     have hzw2 := hb2.size
     clear hj3 HNE HNO
     go_wp2_with (at_builtin; refine wpList_append_own _ rfl _ _ 83 rfl w1.heap.size 119 i0 (.agg #[.int .i64 0, .string ⟨#[]⟩, .int .i64 0]) 3 32 Tryz.underlying83 hi hz0 hz1 hz2 rfl (by decide) _ _ _ rfl ((q0.alloc _).alloc _) ⟨w2.heap.size + 1, 0, none⟩ 1 1 (tkCells [(k3, t3, k + 1)]) rfl rfl ?c1 ?c2 ?c3 ?c4 ?c5 ?_)
     case c1 => exact cells_new _ _ _ _ (by simp)
     case c2 => intro u hu; simp [tkCells] at hu; rcases hu with rfl | rfl | rfl <;> rfl
     case c3 => unfold maxLen; omega
     case c4 => omega
     case c5 => simp; omega
     intro v' w3 hown3 hgrow3 _
     have HO3 : Hid (w3.ownsRow w1.heap.size 119 3 v' (acc ++ [(k3, t3, k + 1)]).length (tkCells (acc ++ [(k3, t3, k + 1)]))) := by
      show World.ownsRow _ _ _ _ _ _ _
      rw [tkCells_append, List.length_append]; exact hown3
     have HB3 : Hid (Below w1.heap.size w1 w3) := Below.grown ((((hb.trans (hb2.mono hzz)).alloc (by omega) _).alloc (by simp; omega) _)) hgrow3 (by simp; omega) (fun k hk => (q0.lt k hk).1)
     clear hown3 hgrow3 q0 hown
     go_wp2_with fail
     have hfin : TkRel (chars s.data.toList) w1 v' (.int .i64 ↑j3) w3 := ⟨j3, acc ++ [(k3, t3, k + 1)], hj2, rfl, HO3.out, HB3.out, by rw [HTK.out, HJ.out, Res.after_after], by simp; omega⟩
     first | exact ⟨hfin, by simp [intOf]; omega⟩ | exact ⟨by (repeat apply Exists.intro); exact ⟨hfin, rfl⟩, by simp [intOf]; omega⟩
    ·have he2 : ((e3 : Int) != 0) = true := by simp; omega
     go_wp2_with fail
     go_ret3
     exact tokpost_err (k + 1) e3 (by show Value.int .i64 _ = _; congr 1) rfl (HTK.out.trans (after_err (HNE.out he))) ((HB2.out.trans (hb2.mono HB2.out.size)).alloc (by have := hb2.size; have := HB2.out.size; omega) _)
  ·go_wp2_with fail
   go_ret3
   refine tokpost_ok (HTK.out.trans (after_ok ?_)) (ownsRow_mono hown HB.out.size) HB2.out
   rw [List.drop_of_length_le (by omega), Toks_nil]
end Go.Proofs.YtgfmiladfeoldaaGreatDoor
