/- Joined texts of this claim's proof: LexW2, LexW3, LexW4, LexW5, LexW6, LexW7. -/
import Derived.Test.YtceggplnggkdnaaGreatDoorPk11
import Derived.BigQuiet
import Derived.Deep.QuietTactic
import Derived.Handy
import Derived.Test.YtceggplnggkdnaaGreatDoorPk3
set_option linter.unusedSimpArgs false
set_option linter.unusedVariables false
namespace Go.Proofs.YtceggplnggkdnaaGreatDoor
open Go.RowKit LexP
theorem Tryz.infoChar : (Tryz.prog.info? 232).map (fun i => (i.zero, i.size, i.bytes)) = some (some (.agg #[.int .i64 0, .int .i32 0, .int .i64 0]), 3, 24) := by kernel_rfl
def CharsPost (l : Bytes) (w : World) (e : Ending) (w' : World) : Prop :=
 ∃ v, e = .returned v ∧ w'.ownsRow w.heap.size 232 3 v (chars l).length (chCells 0 (chars l)) ∧ Below w.heap.size w w'
def ChRel (s : ByteArray) (w : World) (v : Value) (wr : World) : Prop :=
 ∃ pos dn, pos ≤ s.size ∧ wr.heap[w.heap.size]? = some (.stringIter s pos) ∧ Below w.heap.size w wr ∧
  chars s.data.toList = dn ++ chars (s.data.toList.drop pos) ∧ (bytesOf dn).length = pos ∧ wr.ownsRow (w.heap.size + 1) 232 3 v dn.length (chCells 0 dn)
theorem iter_heap_at (w : World) (s : ByteArray) : (w.iter s 0).heap[w.heap.size]? = some (.stringIter s 0) := World.iter_heap w s 0
set_option maxRecDepth 100000 in
set_option maxHeartbeats 1000000 in
theorem chars_any (s : ByteArray) (w : World) (hs : s.size ≤ 67108864) :
  Calls Tryz.prog 175 #[.string s] w (CharsPost s.data.toList w) := by
 obtain ⟨i0, hi, hz0, hz1, hz2⟩ := info_parts Tryz.infoChar
 go_enter Tryz.func175, Tryz.ntmps175
 go_wp2
 go_loopw [3] (fun v wr => ChRel s w v wr) (fun _ wr => s.size - wr.iterPos w.heap.size)
 case atStart =>
  exact ⟨0, [], Nat.zero_le _, iter_heap_at w s, (Below.refl _ _).alloc (Nat.le_refl _) _, by simp, rfl, World.ownsRow_nil _ _ _ _⟩
 case round =>
  obtain ⟨pos, dn, hpos, hit, hbel, hch, hlen, hown⟩ := hrel
  have hsz : w.heap.size < wr.heap.size := (Array.getElem?_eq_some_iff.1 hit).1
  by_cases hlt : pos < s.size
  ·have hn := fun ty => Lib.run_next_any_at (P := Tryz.prog) wr w.heap.size s pos ty hit hlt
   have hLe : s.data.toList.drop pos ≠ [] := by rw [Ne, List.drop_eq_nil_iff, ← Lib.size_eq]; omega
   have hcons := Lib.hid (chars_cons hLe)
   have hk1 := wid_pos (s.data.toList.drop pos)
   have hk2 : pos + wid (s.data.toList.drop pos) ≤ s.size := by have := wid_le hLe; rw [List.length_drop, ← Lib.size_eq] at this; omega
   have hdd : Hid (List.drop (wid (s.data.toList.drop pos)) (s.data.toList.drop pos) = s.data.toList.drop (pos + wid (s.data.toList.drop pos))) := by show _ = _; rw [List.drop_drop]
   have hbl : Hid ((bytesOf (dn ++ [(val (s.data.toList.drop pos), List.take (wid (s.data.toList.drop pos)) (s.data.toList.drop pos))])).length = pos + wid (s.data.toList.drop pos)) := by
    show _ = _
    simp only [bytesOf, List.flatMap_append, List.length_append] at hlen ⊢
    rw [hlen]
    have := wid_le hLe
    simp; simp at this; omega
   have hfp := Lib.hid (val_fffd (s.data.toList.drop pos))
   have hvl : ∀ v, val (s.data.toList.drop pos) = some v → v ≤ 0x10FFFF := fun v h => val_le h
   rw [decode_fst s pos hlt, decode_snd s pos hlt] at hn
   have HCH := Lib.hid hch
   have HLEN := Lib.hid hlen
   have hxd : Hid ((s.extract pos s.size).data.toList = s.data.toList.drop pos) := by
    show _ = _
    rw [Lib.extract_data, List.take_of_length_le (by rw [List.length_drop, ← Lib.size_eq]; exact Nat.le_refl _)]
   have hdn : dn.length ≤ 67108864 := by
    have h1 := chars_len s.data.toList
    rw [hch, List.length_append, ← Lib.size_eq] at h1; omega
   clear hch hlen hLe
   have fin : ∀ (c : C) (v' : Value) (w2 : World), c = (val (s.data.toList.drop pos), List.take (wid (s.data.toList.drop pos)) (s.data.toList.drop pos)) →
     w2.ownsRow (w.heap.size + 1) 232 3 v' (dn.length + 1) (chCells 0 dn ++ chCells pos [c]) → Below w.heap.size w w2 → w2.heap[w.heap.size]? = some (.stringIter s (pos + wid (s.data.toList.drop pos))) →
     ChRel s w v' w2 ∧ s.size - w2.iterPos w.heap.size < s.size - wr.iterPos w.heap.size := by
    intro c v' w2 hc ho hb hi2
    refine ⟨⟨pos + wid (s.data.toList.drop pos), dn ++ [c], hk2, hi2, hb, ?_, ?_, ?_⟩, ?_⟩
    ·rw [HCH.out, hcons.out, hc, hdd.out]; simp
    ·rw [hc]; exact hbl.out
    ·rw [chCells_append, HLEN.out, Nat.zero_add]; simpa using ho
    ·rw [iterPos_of hi2, iterPos_of hit]; omega
   have FIN := Lib.hid fin
   clear fin hdd hbl HCH HLEN hcons hk2
   generalize wid (s.data.toList.drop pos) = k at *
   have hW : ∃ wi : World, wi = wr.iterAt w.heap.size s (pos + k) := ⟨_, rfl⟩
   obtain ⟨wi, hwi⟩ := hW
   have q1 : wi.ownsRow (w.heap.size + 1) 232 3 u3 dn.length (chCells 0 dn) := by rw [hwi]; exact ownsRow_iterAt hown (Nat.lt_succ_self _) _ _
   have q2 : Below w.heap.size w wi := by rw [hwi]; exact Lib.below_iterAt hbel (Nat.le_refl _) _ _
   have q3 : wi.heap[w.heap.size]? = some (.stringIter s (pos + k)) := by rw [hwi]; exact Lib.iterAt_heap _ _ _ _ _ hit
   have q4 : w.heap.size < wi.heap.size := (Array.getElem?_eq_some_iff.1 q3).1
   rw [← hwi] at hn
   clear hwi
   have Q3 := Lib.hid q3
   clear q3
   cases hv : val (s.data.toList.drop pos) with
   | some r =>
    have hrle := hvl r hv
    rw [hv] at hn hfp FIN
    clear hvl hv
    simp only [Option.getD_some] at hn hfp
    by_cases hr : r = 0xFFFD
    ·subst hr
     have HP : Hid (Lib.hasPrefix (s.data.toList.drop pos) [239, 191, 189] = true) := hfp.out (by first | trivial | rfl)
     clear hfp
     go_wp2_with (first | (go_at_call 322; refine (kind_any 0xFFFD _ (by omega)).mono ?_; rintro e w' ⟨rfl, rfl⟩) | (go_at_call 323; refine (Tryz.strings_HasPrefix _ _ _).mono ?_; rintro e w' ⟨rfl, rfl⟩; simp only [hxd.out, HP.out]) | (at_builtin; refine wpList_append_own _ rfl _ _ 229 rfl (w.heap.size + 1) 232 i0 (.agg #[.int .i64 0, .int .i32 0, .int .i64 0]) 3 24 Tryz.underlying229 hi hz0 hz1 hz2 rfl (by decide) _ _ _ rfl ((q1.alloc _).alloc _) ⟨wi.heap.size + 1, 0, none⟩ 1 1 (chCells pos [(some 0xFFFD, List.take k (s.data.toList.drop pos))]) rfl rfl ?c1 ?c2 ?c3 ?c4 ?c5 ?_))
     case c1 => exact cells_new _ _ _ _ (by simp)
     case c2 => intro u hu; simp [chCells_one] at hu; rcases hu with rfl | rfl | rfl <;> rfl
     case c3 => unfold maxLen; omega
     case c4 => omega
     case c5 => simp; omega
     intro v' w2 hown2 hgrow2 _
     have hfin := FIN.out (some 0xFFFD, List.take k (s.data.toList.drop pos)) v' w2 rfl hown2
      (Below.grown (((q2.alloc (Nat.le_of_lt q4) _).alloc (by simp; omega) _)) hgrow2 (by simp; omega) (fun k hk => Nat.le_of_succ_le (q1.lt k hk).1))
      ((hgrow2.block w.heap.size (by simp; omega) (fun e => by have := (q1.lt _ e.symm).1; omega)).trans
         ((Below.heap_alloc _ _ _ (by simp; omega)).trans ((Below.heap_alloc _ _ _ q4).trans Q3.out)))
     clear hown2 hgrow2
     have HF := Lib.hid hfin
     clear hfin
     go_wp2
     exact HF.out
    ·have hr1 : ((r : Int) == 65533) = false := by simp; omega
     clear hfp hxd
     go_wp2_with (first | (go_at_call 322; refine (kind_any r _ hrle).mono ?_; rintro e w' ⟨rfl, rfl⟩) | (at_builtin; refine wpList_append_own _ rfl _ _ 229 rfl (w.heap.size + 1) 232 i0 (.agg #[.int .i64 0, .int .i32 0, .int .i64 0]) 3 24 Tryz.underlying229 hi hz0 hz1 hz2 rfl (by decide) _ _ _ rfl ((q1.alloc _).alloc _) ⟨wi.heap.size + 1, 0, none⟩ 1 1 (chCells pos [(some r, List.take k (s.data.toList.drop pos))]) rfl rfl ?c1 ?c2 ?c3 ?c4 ?c5 ?_))
     case c1 => exact cells_new _ _ _ _ (by simp)
     case c2 => intro u hu; simp [chCells_one] at hu; rcases hu with rfl | rfl | rfl <;> rfl
     case c3 => unfold maxLen; omega
     case c4 => omega
     case c5 => simp; omega
     intro v' w2 hown2 hgrow2 _
     have hfin := FIN.out (some r, List.take k (s.data.toList.drop pos)) v' w2 rfl hown2
      (Below.grown (((q2.alloc (Nat.le_of_lt q4) _).alloc (by simp; omega) _)) hgrow2 (by simp; omega) (fun k hk => Nat.le_of_succ_le (q1.lt k hk).1))
      ((hgrow2.block w.heap.size (by simp; omega) (fun e => by have := (q1.lt _ e.symm).1; omega)).trans
         ((Below.heap_alloc _ _ _ (by simp; omega)).trans ((Below.heap_alloc _ _ _ q4).trans Q3.out)))
     clear hown2 hgrow2
     have HF := Lib.hid hfin
     clear hfin
     go_wp2
     exact HF.out
   | none =>
    rw [hv] at hn hfp FIN
    clear hvl hv
    simp only [Option.getD_none] at hn hfp
    have HP : Hid (Lib.hasPrefix (s.data.toList.drop pos) [239, 191, 189] = false) := hfp.out (by first | trivial | rfl)
    clear hfp
    go_wp2_with (first | (go_at_call 322; refine (kind_any 0xFFFD _ (by omega)).mono ?_; rintro e w' ⟨rfl, rfl⟩) | (go_at_call 323; refine (Tryz.strings_HasPrefix _ _ _).mono ?_; rintro e w' ⟨rfl, rfl⟩; simp only [hxd.out, HP.out]) | (at_builtin; refine wpList_append_own _ rfl _ _ 229 rfl (w.heap.size + 1) 232 i0 (.agg #[.int .i64 0, .int .i32 0, .int .i64 0]) 3 24 Tryz.underlying229 hi hz0 hz1 hz2 rfl (by decide) _ _ _ rfl ((q1.alloc _).alloc _) ⟨wi.heap.size + 1, 0, none⟩ 1 1 (chCells pos [(none, List.take k (s.data.toList.drop pos))]) rfl rfl ?c1 ?c2 ?c3 ?c4 ?c5 ?_))
    case c1 => exact cells_new _ _ _ _ (by simp)
    case c2 => intro u hu; simp [chCells_one] at hu; rcases hu with rfl | rfl | rfl <;> rfl
    case c3 => unfold maxLen; omega
    case c4 => omega
    case c5 => simp; omega
    intro v' w2 hown2 hgrow2 _
    have hfin := FIN.out (none, List.take k (s.data.toList.drop pos)) v' w2 rfl hown2
     (Below.grown (((q2.alloc (Nat.le_of_lt q4) _).alloc (by simp; omega) _)) hgrow2 (by simp; omega) (fun k hk => Nat.le_of_succ_le (q1.lt k hk).1))
     ((hgrow2.block w.heap.size (by simp; omega) (fun e => by have := (q1.lt _ e.symm).1; omega)).trans
        ((Below.heap_alloc _ _ _ (by simp; omega)).trans ((Below.heap_alloc _ _ _ q4).trans Q3.out)))
    clear hown2 hgrow2
    have HF := Lib.hid hfin
    clear hfin
    go_wp2
    exact HF.out
  ·have hn := fun ty => Lib.run_next_end_at (P := Tryz.prog) wr w.heap.size s pos ty hit hlt
   go_wp2
   go_ret
   have : pos = s.size := by omega
   rw [List.drop_of_length_le (by rw [← Lib.size_eq]; omega), chars_nil, List.append_nil] at hch
   rw [← hch] at hown
   exact ⟨_, rfl, ownsRow_mono hown (by omega), hbel⟩
end Go.Proofs.YtceggplnggkdnaaGreatDoor
namespace Go.Proofs.YtceggplnggkdnaaGreatDoor
open Go.RowKit LexP
def colRes (l : Bytes) : Nat × Nat := if (chars l).all notBad then ((chars l).length, 0) else (0, 12)
def ColPost (l : Bytes) (w : World) (e : Ending) (w' : World) : Prop :=
 e = .returned (.tuple #[.int .i64 (colRes l).1, .int .i64 (colRes l).2]) ∧ Below w.heap.size w w'
set_option maxRecDepth 100000 in
set_option maxHeartbeats 1000000 in
theorem columns_big (s : ByteArray) (w : World) (hs : s.size ≤ 67108864) :
  Calls Tryz.prog 85 #[.string s] w (ColPost s.data.toList w) := by
 go_enter Tryz.func85, Tryz.ntmps85
 go_wp2_with fail
 refine (chars_any s _ hs).mono ?_
 rintro e w1 ⟨v, rfl, hown, hbel⟩
 have hN : (chars s.data.toList).length ≤ 67108864 := by have := chars_len s.data.toList; rw [← Lib.size_eq] at this; omega
 have HR : ∀ (a : Nat × Nat), a = colRes s.data.toList → ColPost s.data.toList w (.returned (.tuple #[.int .i64 (a.1 : Nat), .int .i64 (a.2 : Nat)])) w1 := fun a ha => ⟨by rw [ha], hbel⟩
 have HC : colRes s.data.toList = if (chars s.data.toList).all notBad then ((chars s.data.toList).length, 0) else (0, 12) := rfl
 generalize chars s.data.toList = cs at *
 have HR := Lib.hid HR
 have HC := Lib.hid HC
 obtain ⟨ao, cap, rfl, hnc, hcm, hsh⟩ := ownsRow_shape hown
 go_wp2_with fail
 have HSH := Lib.hid hsh
 have HB := Lib.hid hbel
 clear hown hsh hbel
 go_loopw [4, 10] (fun n i wr => ∃ k : Nat, k ≤ cs.length ∧ n = .int .i64 k ∧ i = .int .i64 k ∧ Below w1.heap.size w1 wr ∧ (cs.take k).all notBad = true) (fun _ i _ => cs.length - (intOf i).toNat)
 case atStart => exact ⟨0, Nat.zero_le _, rfl, rfl, Below.refl _ _, rfl⟩
 case round =>
  obtain ⟨k, hk, rfl, rfl, hbk, hall⟩ := hrel
  have HALL := Lib.hid hall
  clear hall
  by_cases hlt : k < cs.length
  ·obtain ⟨c, hc⟩ : ∃ c, cs[k]? = some c := ⟨cs[k], List.getElem?_eq_getElem hlt⟩
   obtain ⟨g, rfl, hbg, hgs, hcell⟩ := HSH.out (by omega)
   obtain ⟨c1, c2, c3⟩ := chCells_at cs 0 k c hc
   have e1 : wr.cell? ⟨g, k * 3, none⟩ = some (.int .i64 (kd c : Nat)) := by rw [hbk.cell (p := ⟨g, _, none⟩) hgs, hcell _ (by omega)]; exact c1
   have e2 : wr.cell? ⟨g, k * 3 + 1, none⟩ = some (.int .i32 (rn c : Nat)) := by rw [hbk.cell (p := ⟨g, _, none⟩) hgs, hcell _ (by omega)]; exact c2
   have e3 : wr.cell? ⟨g, k * 3 + 2, none⟩ = some (.int .i64 (0 + (bytesOf (cs.take k)).length : Nat)) := by rw [hbk.cell (p := ⟨g, _, none⟩) hgs, hcell _ (by omega)]; exact c3
   have hz := hbk.size
   clear c1 c2 c3 hcell HSH
   have HCK := Lib.hid hc
   clear hc
   by_cases hb : kd c = 0
   ·have hb1 : ((kd c : Int) == 0) = true := by simp [hb]
    have HBD := Lib.hid hb
    clear hb
    go_wp2
    go_ret2
    have : cs.all notBad = false := by
     rw [List.all_eq_false]
     exact ⟨c, List.mem_of_getElem? HCK.out, by simp [notBad, HBD.out]⟩
    obtain ⟨h1, h2⟩ := HR.out (0, 12) (by rw [HC.out, this]; rfl)
    exact ⟨h1, h2.trans ((hbk.mono HB.out.size).alloc (by have := HB.out.size; omega) _)⟩
   ·have hb1 : ((kd c : Int) == 0) = false := by simp [hb]
    go_wp2
    exact ⟨⟨k + 1, by omega, by go_num, by go_num, hbk.alloc hz _, by rw [List.take_add_one, HCK.out]; simp [HALL.out, notBad, hb]⟩, by simp [intOf]; omega⟩
  ·go_wp2
   go_ret2
   have hk' : k = cs.length := by omega
   have h1 := HALL.out
   rw [hk', List.take_length] at h1
   obtain ⟨h1, h2⟩ := HR.out (cs.length, 0) (by rw [HC.out, h1]; rfl)
   rw [hk']
   exact ⟨h1, h2.trans (hbk.mono HB.out.size)⟩
end Go.Proofs.YtceggplnggkdnaaGreatDoor
namespace Go.Proofs.YtceggplnggkdnaaGreatDoor
open Go.RowKit LexP
def Takes (F : Nat) (p : C → Bool) : Prop :=
 (∀ (args : Array Value) (w : World), (callFunc F args).run Tryz.prog w = .ok (.enter F args) w) ∧ ∀ (c : C) (q : Nat) (w : World), Calls Tryz.prog F #[.agg #[.int .i64 (kd c : Nat), .int .i32 (rn c : Nat), .int .i64 (q : Nat)]] w fun e w' => e = .returned (.bool (p c)) ∧ Below w.heap.size w w'
theorem takes_notBad : Takes 177 notBad := by
 refine ⟨fun args w => by kernel_rfl, ?_⟩
 intro c q w
 have h : notBad c = !((kd c : Int) == 0) := by unfold notBad; rw [Bool.eq_iff_iff]; simp
 rw [h]
 go_enter Tryz.func177, Tryz.ntmps177
 go_wp2
 go_ret
 exact ⟨by simp [bne], (Below.refl _ _).alloc (Nat.le_refl _) _⟩
theorem takes_isNum : Takes 324 isNum := by
 refine ⟨fun args w => by kernel_rfl, ?_⟩
 intro c q w
 cases h : ((kd c : Int) == 3) with
 | true =>
  have hr : isNum c = true := by unfold isNum; simp at h; simp; left; omega
  rw [hr]
  go_enter Tryz.func324, Tryz.ntmps324
  go_wp2
  go_ret
  exact ⟨rfl, (Below.refl _ _).alloc (Nat.le_refl _) _⟩
 | false =>
  have hr : isNum c = ((rn c : Int) == 95) := by unfold isNum; rw [Bool.eq_iff_iff]; simp at h ⊢; omega
  rw [hr]
  go_enter Tryz.func324, Tryz.ntmps324
  go_wp2
  go_ret
  exact ⟨rfl, (Below.refl _ _).alloc (Nat.le_refl _) _⟩
theorem takes_isAl : Takes 328 isAl := by
 refine ⟨fun args w => by kernel_rfl, ?_⟩
 intro c q w
 cases h : ((kd c : Int) == 3) with
 | true =>
  have hr : isAl c = true := by unfold isAl; simp at h; simp; left; omega
  rw [hr]
  go_enter Tryz.func328, Tryz.ntmps328
  go_wp2
  go_ret
  exact ⟨rfl, (Below.refl _ _).alloc (Nat.le_refl _) _⟩
 | false =>
  have hr : isAl c = ((kd c : Int) == 4) := by unfold isAl; rw [Bool.eq_iff_iff]; simp at h ⊢; omega
  rw [hr]
  go_enter Tryz.func328, Tryz.ntmps328
  go_wp2
  go_ret
  exact ⟨rfl, (Below.refl _ _).alloc (Nat.le_refl _) _⟩
def RdCh (w : World) (v : Value) (cs : List C) : Prop := w.ownsRow 0 232 3 v cs.length (chCells 0 cs)
theorem RdCh.below {w w' : World} {v : Value} {cs : List C} (h : RdCh w v cs) (hb : Below w.heap.size w w') : RdCh w' v cs := ownsRow_below h hb (Nat.le_refl _)
theorem RdCh.shape {w : World} {v : Value} {cs : List C} (h : RdCh w v cs) : ∃ ao cap, v = .slice ao cs.length cap ∧ cs.length ≤ cap ∧ cap ≤ maxLen ∧
  ∀ k c, cs[k]? = some c → ∃ g, ao = some ⟨g, 0, none⟩ ∧ g < w.heap.size ∧ w.cell? ⟨g, k * 3, none⟩ = some (.int .i64 (kd c : Nat)) ∧ w.cell? ⟨g, k * 3 + 1, none⟩ = some (.int .i32 (rn c : Nat)) ∧
   w.cell? ⟨g, k * 3 + 2, none⟩ = some (.int .i64 ((bytesOf (cs.take k)).length : Nat)) := by
 obtain ⟨ao, cap, rfl, hnc, hcm, hsh⟩ := ownsRow_shape h
 refine ⟨ao, cap, rfl, hnc, hcm, fun k c hc => ?_⟩
 have hlt : k < cs.length := (List.getElem?_eq_some_iff.1 hc).1
 obtain ⟨g, rfl, hbg, hgs, hcell⟩ := hsh (by omega)
 obtain ⟨c1, c2, c3⟩ := chCells_at cs 0 k c hc
 exact ⟨g, rfl, hgs, by rw [hcell _ (by omega)]; exact c1, by rw [hcell _ (by omega)]; exact c2, by rw [hcell _ (by omega), c3, Nat.zero_add]⟩
set_option maxRecDepth 100000 in
set_option maxHeartbeats 1000000 in
theorem run_any (F : Nat) (p : C → Bool) (hF : Takes F p) (v : Value) (cs : List C) (i : Nat) (w : World) (hr : RdCh w v cs) (hi : i ≤ cs.length) :
  Calls Tryz.prog 176 #[v, .int .i64 (i : Nat), .func (.func F) #[] #[]] w fun e w' => e = .returned (.int .i64 (i + runLen p (cs.drop i) : Nat)) ∧ Below w.heap.size w w' := by
 obtain ⟨ao, cap, rfl, hnc, hcm, hsh⟩ := hr.shape
 have HSH := Lib.hid hsh
 have HF := Lib.hid hF.2
 have hcf := hF.1
 have hm : cs.length ≤ 9223372036854775807 := by unfold maxLen at hcm; omega
 clear hsh hF hr hcm
 go_enter Tryz.func176, Tryz.ntmps176
 go_wp2_with fail
 go_loopw [1] (fun v wr => ∃ m : Nat, i + m ≤ cs.length ∧ v = .int .i64 (i + m : Nat) ∧ Below w.heap.size w wr ∧ ∀ c ∈ (cs.drop i).take m, p c = true) (fun v _ => cs.length - (intOf v).toNat)
 case atStart => exact ⟨0, by omega, rfl, Below.refl _ _, by simp⟩
 case round =>
  obtain ⟨m, hm2, rfl, hb, hall⟩ := hrel
  have HALL := Lib.hid hall
  clear hall
  by_cases hlt : i + m < cs.length
  ·obtain ⟨c, hc⟩ : ∃ c, cs[i + m]? = some c := ⟨cs[i + m], List.getElem?_eq_getElem hlt⟩
   obtain ⟨g, rfl, hgs, e1, e2, e3⟩ := HSH.out _ c hc
   rw [← hb.cell (p := ⟨g, _, none⟩) hgs] at e1 e2 e3
   have HC := Lib.hid hc
   have hz := hb.size
   clear hc HSH
   cases hp : p c with
   | true =>
    have HP := Lib.hid hp
    clear hp
    go_wp2_with (refine (HF.out c _ _).mono ?_; rintro e w' ⟨rfl, hb2⟩; rw [HP.out])
    refine ⟨⟨m + 1, by omega, by go_num, hb.trans (hb2.mono hz), ?_⟩, by simp [intOf]; omega⟩
    intro d hd
    rw [List.take_add_one, List.getElem?_drop, HC.out] at hd
    simp at hd
    rcases hd with hd | rfl
    ·exact HALL.out d hd
    ·exact HP.out
   | false =>
    have HP := Lib.hid hp
    clear hp
    go_wp2_with (refine (HF.out c _ _).mono ?_; rintro e w' ⟨rfl, hb2⟩; rw [HP.out])
    go_ret
    have hrl := runLen_eq p (cs.drop i) m (by simp; omega) HALL.out (fun d hd => by rw [List.getElem?_drop, HC.out] at hd; cases hd; exact HP.out)
    exact ⟨ret_i64 (by rw [hrl] <;> omega), hb.trans (hb2.mono hz)⟩
  ·go_wp2
   go_ret
   have hrl := runLen_eq p (cs.drop i) m (by simp; omega) HALL.out (fun d hd => by rw [List.getElem?_drop, List.getElem?_eq_none (by omega)] at hd; cases hd)
   exact ⟨ret_i64 (by rw [hrl] <;> omega), hb⟩
theorem ret_str {a b : ByteArray} (h : a = b) : Ending.returned (.string a) = .returned (.string b) := by rw [h]
set_option maxRecDepth 100000 in
set_option maxHeartbeats 1000000 in
theorem text_any (s : ByteArray) (v : Value) (i j : Nat) (w : World) (hr : RdCh w v (chars s.data.toList)) (hij : i < j) (hj : j ≤ (chars s.data.toList).length) (_hs : s.size ≤ 67108864) :
  Calls Tryz.prog 325 #[.string s, v, .int .i64 (i : Nat), .int .i64 (j : Nat)] w fun e w' => e = .returned (.string ⟨(bytesOf (((chars s.data.toList).drop i).take (j - i))).toArray⟩) ∧ ∃ n, w' = w.drewN n := by
 obtain ⟨ao, cap, rfl, hnc, hcm, hsh⟩ := hr.shape
 have hm : (chars s.data.toList).length ≤ 9223372036854775807 := by unfold maxLen at hcm; omega
 obtain ⟨c, hc⟩ : ∃ c, (chars s.data.toList)[i]? = some c := ⟨_, List.getElem?_eq_getElem (by omega)⟩
 obtain ⟨g, rfl, hgs, e1, e2, e3⟩ := hsh _ c hc
 have M := Lib.hid (bytes_mid s.data.toList i j (by omega))
 have T := Lib.hid (bytesOf_chars s.data.toList)
 have b1 := bytes_len (chars s.data.toList) i
 have b2 := bytes_len (chars s.data.toList) j
 rw [T.out, ← Lib.size_eq] at b1 b2
 have b3 : (bytesOf ((chars s.data.toList).take i)).length ≤ (bytesOf ((chars s.data.toList).take j)).length := by
  have := bytes_len ((chars s.data.toList).take j) i
  rw [List.take_take, Nat.min_eq_left (by omega)] at this; exact this
 clear hcm hr hc
 by_cases hlt : j < (chars s.data.toList).length
 ·obtain ⟨d, hd⟩ : ∃ d, (chars s.data.toList)[j]? = some d := ⟨_, List.getElem?_eq_getElem hlt⟩
  obtain ⟨g', hg', _, d1, d2, d3⟩ := hsh _ d hd
  cases hg'
  clear hsh hd T
  generalize (bytesOf ((chars s.data.toList).take i)).length = A at *
  generalize (bytesOf ((chars s.data.toList).take j)).length = B at *
  generalize bytesOf (((chars s.data.toList).drop i).take (j - i)) = Z at *
  generalize (chars s.data.toList).length = N at *
  go_enter Tryz.func325, Tryz.ntmps325
  go_wp2
  go_quiet (fail)
  go_wp2
  go_ret
  exact ⟨ret_str (by rw [Lib.extract_eq, M.out]), _, rfl⟩
 ·have hjn : j = (chars s.data.toList).length := by omega
  have M2 : Hid (s.extract (bytesOf ((chars s.data.toList).take i)).length s.size = ⟨(bytesOf (((chars s.data.toList).drop i).take (j - i))).toArray⟩) := by
   show _ = _
   have h1 := M.out
   rw [hjn, List.take_length, T.out, ← Lib.size_eq] at h1
   rw [Lib.extract_eq, hjn, ← h1]
  clear hsh M T hjn
  generalize (bytesOf ((chars s.data.toList).take i)).length = A at *
  generalize (bytesOf ((chars s.data.toList).take j)).length = B at *
  generalize bytesOf (((chars s.data.toList).drop i).take (j - i)) = Z at *
  generalize (chars s.data.toList).length = N at *
  go_enter Tryz.func325, Tryz.ntmps325
  go_wp2
  go_ret
  exact ⟨ret_str M2.out, 0, rfl⟩
end Go.Proofs.YtceggplnggkdnaaGreatDoor
namespace Go.Proofs.YtceggplnggkdnaaGreatDoor
open Go.RowKit LexP
def MarkOk (c : C) : Prop := kd c = 5 → rn c < 128 → c.2 = [(rn c).toUInt8]
theorem encode_small : ∀ r : Fin 128, Utf8.encode (r.val : Int) = ⟨#[r.val.toUInt8]⟩ := by decide +kernel
set_option maxRecDepth 100000 in
theorem sign_any (c : C) (w : World) (hk : kd c = 5) (hc : MarkOk c) :
  Calls Tryz.prog 329 #[.int .i32 (rn c : Nat)] w fun e w' => e = .returned (.string ⟨(signOf c).toArray⟩) ∧ w = w' := by
 have h5 : rn c = 0x2212 ∨ rn c = 0xd7 ∨ rn c < 128 := by
  unfold kd at hk; unfold rn
  cases hv : c.1 with
  | none => rw [hv] at hk; simp at hk
  | some v =>
   rw [hv] at hk
   simp only at hk ⊢
   unfold kindOf at hk
   repeat' split at hk
   all_goals omega
 by_cases h1 : rn c = 0x2212
 ·have hs : signOf c = [45] := by unfold signOf; rw [if_pos h1]
  rw [hs, h1]; clear hs h1 h5 hc hk
  go_enter Tryz.func329, Tryz.ntmps329
  go_wp2
  go_ret
  exact ⟨rfl, rfl⟩
 by_cases h2 : rn c = 0xd7
 ·have hs : signOf c = [42] := by unfold signOf; rw [if_neg h1, if_pos h2]
  rw [hs, h2]; clear hs h1 h2 h5 hc hk
  go_enter Tryz.func329, Tryz.ntmps329
  go_wp2
  go_ret
  exact ⟨rfl, rfl⟩
 have h3 : rn c < 128 := by omega
 have hs : signOf c = [(rn c).toUInt8] := by unfold signOf; rw [if_neg h1, if_neg h2, hc hk h3]
 have he := encode_small ⟨rn c, h3⟩
 simp only at he
 rw [hs]
 have n1 : ((rn c : Int) == 8722) = false := by simp; omega
 have n2 : ((rn c : Int) == 215) = false := by simp; omega
 have HE := Lib.hid he
 clear hs h1 h2 h5 hc hk he
 go_enter Tryz.func329, Tryz.ntmps329
 go_wp2
 go_ret
 exact ⟨by rw [HE.out]; rfl, rfl⟩
def nextRes (cs : List C) (i : Nat) (c : C) : Nat × Bytes × Nat × Nat :=
 if kd c = 0 then (0, [], i, 12)
 else if kd c = 3 then (1, bytesOf ((cs.drop i).take (runLen isNum (cs.drop i))), if badNum (bytesOf ((cs.drop i).take (runLen isNum (cs.drop i)))) then (i, 7) else (i + runLen isNum (cs.drop i), 0))
 else if kd c = 4 then (2, bytesOf ((cs.drop i).take (runLen isAl (cs.drop i))), if 32 < (bytesOf ((cs.drop i).take (runLen isAl (cs.drop i)))).length then (i, 17) else (i + runLen isAl (cs.drop i), 0))
 else if kd c = 5 then (3, signOf c, i + 1, 0)
 else (0, [], i, 13)
def NextPost (r : Nat × Bytes × Nat × Nat) (i : Nat) (w : World) (e : Ending) (w' : World) : Prop :=
 e = .returned (.tuple #[.agg #[.int .i64 (r.1 : Nat), .string ⟨r.2.1.toArray⟩, .int .i64 (i + 1 : Nat)], .int .i64 (r.2.2.1 : Nat), .int .i64 (r.2.2.2 : Nat)]) ∧ Below w.heap.size w w'
theorem next_post {r : Nat × Bytes × Nat × Nat} {i : Nat} {w w' : World} (a b c d e : Value) (ha : a = .int .i64 (r.1 : Nat)) (hb : b = .string ⟨r.2.1.toArray⟩) (hc : c = .int .i64 (i + 1 : Nat)) (hd : d = .int .i64 (r.2.2.1 : Nat))
  (he : e = .int .i64 (r.2.2.2 : Nat)) (hw : Below w.heap.size w w') : NextPost r i w (.returned (.tuple #[.agg #[a, b, c], d, e])) w' := by
 subst ha hb hc hd he; exact ⟨rfl, hw⟩
set_option maxRecDepth 100000 in
set_option maxHeartbeats 1000000 in
theorem next_plain (s : ByteArray) (v : Value) (cs : List C) (i : Nat) (c : C) (w : World) (hr : RdCh w v cs) (hc : cs[i]? = some c) (hn : cs.length ≤ 67108864) (hk : kd c = 0 ∨ kd c = 6 ∨ kd c = 5) (hmk : MarkOk c) :
  Calls Tryz.prog 178 #[.string s, v, .int .i64 (i : Nat)] w (NextPost (nextRes cs i c) i w) := by
 obtain ⟨ao, cap, rfl, hnc, hcm, hsh⟩ := hr.shape
 obtain ⟨g, rfl, hgs, e1, e2, e3⟩ := hsh _ c hc
 have hlt : i < cs.length := (List.getElem?_eq_some_iff.1 hc).1
 clear hsh hr hc hcm
 rcases hk with hk | hk | hk
 ·have hres : nextRes cs i c = (0, [], i, 12) := by unfold nextRes; rw [if_pos hk]
  rw [hres]; rw [hk] at e1; clear hres hk
  go_enter Tryz.func178, Tryz.ntmps178
  go_wp2
  refine bodyPost_ret (by simp [results, Tryz.results178, go_sem]; first | rfl | exact ⟨rfl, rfl⟩ | exact ⟨rfl, rfl, rfl⟩) rfl (next_post _ _ _ _ _ rfl rfl (by first | rfl | simp) rfl rfl ?_)
  go_grown
 ·have hres : nextRes cs i c = (0, [], i, 13) := by unfold nextRes; simp [hk]
  rw [hres]; rw [hk] at e1; clear hres hk
  go_enter Tryz.func178, Tryz.ntmps178
  go_wp2
  refine bodyPost_ret (by simp [results, Tryz.results178, go_sem]; first | rfl | exact ⟨rfl, rfl⟩ | exact ⟨rfl, rfl, rfl⟩) rfl (next_post _ _ _ _ _ rfl rfl (by first | rfl | simp) rfl rfl ?_)
  go_grown
 ·have hres : nextRes cs i c = (3, signOf c, i + 1, 0) := by unfold nextRes; simp [hk]
  have HK := Lib.hid hk
  rw [hres]; rw [hk] at e1; clear hres hk
  go_enter Tryz.func178, Tryz.ntmps178
  go_wp2_with (go_at_call 329; refine (sign_any c _ HK.out hmk).mono ?_; rintro e w' ⟨rfl, rfl⟩)
  refine bodyPost_ret (by simp [results, Tryz.results178, go_sem]; first | rfl | exact ⟨rfl, rfl⟩ | exact ⟨rfl, rfl, rfl⟩) rfl (next_post _ _ _ _ _ rfl rfl (by first | rfl | simp) (by first | rfl | simp) rfl ?_)
  go_grown
end Go.Proofs.YtceggplnggkdnaaGreatDoor
namespace Go.Proofs.YtceggplnggkdnaaGreatDoor
open Go.RowKit LexP
theorem bcell {W w1 : World} (hb : Below W.heap.size W w1) : (∀ b o, b < W.heap.size → w1.cell? ⟨b, o, none⟩ = W.cell? ⟨b, o, none⟩) ∧ (∀ b o, b < W.heap.size → w1.frozen? ⟨b, o, none⟩ = W.frozen? ⟨b, o, none⟩) :=
 ⟨fun b o h => hb.cell (p := ⟨b, o, none⟩) h, fun b o h => hb.frozen (p := ⟨b, o, none⟩) h⟩
theorem bytesOf_take_le (l : Bytes) (i n : Nat) : (bytesOf (((chars l).drop i).take n)).length ≤ l.length := by
 have h1 := bytes_len ((chars l).drop i) n
 have h2 : (bytesOf ((chars l).drop i)).length ≤ (bytesOf (chars l)).length := by
  have : bytesOf ((chars l).take i) ++ bytesOf ((chars l).drop i) = bytesOf (chars l) := by simp only [bytesOf]; rw [← List.flatMap_append, List.take_append_drop]
  rw [← this, List.length_append]; omega
 rw [bytesOf_chars] at h2; omega
def Lx (w : World) : Prop := ∃ m, w.cell? ⟨2, 0, none⟩ = some (.int .i64 m)
theorem Lx.lt {w : World} (h : Lx w) : 2 < w.heap.size := by obtain ⟨m, h⟩ := h; exact World.block_lt_of_cell? w _ h
theorem Lx.below {w w' : World} (h : Lx w) (hb : Below w.heap.size w w') : Lx w' := by
 have := h.lt
 obtain ⟨m, h⟩ := h
 exact ⟨m, by rw [hb.cell (p := ⟨_, _, _⟩) this]; exact h⟩
theorem contains_at (s sub : ByteArray) (w : World) (hs : s.size ≤ 67108864) (hx : Lx w) :
  Calls Tryz.prog 327 #[.string s, .string sub] w fun e w' => e = .returned (.bool (Lib.contains s.data.toList sub.data.toList)) ∧ w' = w := by
 obtain ⟨m, hm⟩ := hx
 exact Tryz.strings_Contains s sub m w (by omega) hm
set_option maxRecDepth 100000 in
set_option maxHeartbeats 1000000 in
theorem next_num (s : ByteArray) (v : Value) (i : Nat) (c : C) (w : World) (hr : RdCh w v (chars s.data.toList)) (hc : (chars s.data.toList)[i]? = some c) (hs : s.size ≤ 67108864) (hk : kd c = 3) (hx : Lx w) :
  Calls Tryz.prog 178 #[.string s, v, .int .i64 (i : Nat)] w (NextPost (nextRes (chars s.data.toList) i c) i w) := by
 have hn : (chars s.data.toList).length ≤ 67108864 := by have := chars_len s.data.toList; rw [← Lib.size_eq] at this; omega
 have hlt : i < (chars s.data.toList).length := (List.getElem?_eq_some_iff.1 hc).1
 have HR := Lib.hid hr
 have HX := Lib.hid hx
 have hp : 1 ≤ runLen isNum ((chars s.data.toList).drop i) := by
  rw [List.drop_eq_getElem_cons hlt]
  have := List.getElem?_eq_getElem hlt
  rw [hc] at this
  obtain rfl := Option.some.inj this
  exact runLen_pos (by simp [isNum, hk])
 have hq : i + runLen isNum ((chars s.data.toList).drop i) ≤ (chars s.data.toList).length := by
  have := runLen_le isNum ((chars s.data.toList).drop i); rw [List.length_drop] at this; omega
 obtain ⟨ao, cap, hv, hnc, hcm, hsh⟩ := hr.shape
 obtain ⟨g, hao, hgs, e1, e2, e3⟩ := hsh _ c hc
 subst hao
 have hT : (bytesOf (((chars s.data.toList).drop i).take (runLen isNum ((chars s.data.toList).drop i)))).length ≤ 67108864 := by have := bytesOf_take_le s.data.toList i (runLen isNum ((chars s.data.toList).drop i)); rw [← Lib.size_eq] at this; omega
 obtain ⟨res, hres⟩ : ∃ r, r = nextRes (chars s.data.toList) i c := ⟨_, rfl⟩
 rw [← hres]
 have hres2 : nextRes (chars s.data.toList) i c = (1, bytesOf (((chars s.data.toList).drop i).take (runLen isNum ((chars s.data.toList).drop i))), if badNum (bytesOf (((chars s.data.toList).drop i).take (runLen isNum ((chars s.data.toList).drop i)))) then (i, 7) else (i + runLen isNum ((chars s.data.toList).drop i), 0)) := by unfold nextRes; simp [hk]
 rw [hres2] at hres
 obtain ⟨m, hmm⟩ : ∃ m, runLen isNum ((chars s.data.toList).drop i) = m := ⟨_, rfl⟩
 rw [hmm] at hres hT hq hp
 obtain ⟨T, htt⟩ : ∃ T, bytesOf (((chars s.data.toList).drop i).take m) = T := ⟨_, rfl⟩
 rw [htt] at hres hT
 have HM := Lib.hid hmm
 have HT := Lib.hid htt
 have HRES := Lib.hid hres
 have hTs : (⟨T.toArray⟩ : ByteArray).size ≤ 67108864 := by rw [Lib.size_eq]; simpa using hT
 rw [hk] at e1
 subst hv
 clear hres hres2 hmm htt hk hc hsh hr hx hcm
 go_enter Tryz.func178, Tryz.ntmps178
 go_wp2_with fail
 refine (run_any _ isNum takes_isNum _ (chars s.data.toList) i _ (HR.out.below ?_) (by omega)).mono ?_
 ·go_grown
 rintro e w1 ⟨rfl, hb1⟩
 rw [HM.out]
 go_wp2_with fail
 refine (text_any s _ i (i + m) w1 ((HR.out.below ?_).below hb1) (by omega) hq hs).mono ?_
 ·go_grown
 rintro e w2 ⟨rfl, nn, hw2⟩
 rw [Nat.add_sub_cancel_left, HT.out]
 have hb2 := below_drewN hb1 nn
 rw [← hw2] at hb2
 clear hw2 hb1 HR e1 e2 e3 HM HT
 have hB : Below w.heap.size w w2 := Below.trans (by go_grown) (hb2.mono (by simp; omega))
 obtain ⟨hcc, hff⟩ := bcell hb2
 have hz := hb2.size
 simp only [World.size_alloc] at hz hcc hff
 have q0 : w2.cell? ⟨w.heap.size, 0, none⟩ = some (.int .i64 0) := (hcc _ _ (by omega)).trans (by simp [go_sem])
 have q1 : w2.cell? ⟨w.heap.size, 1, none⟩ = some (.string ⟨#[]⟩) := (hcc _ _ (by omega)).trans (by simp [go_sem])
 have q2 : w2.cell? ⟨w.heap.size, 2, none⟩ = some (.int .i64 0) := (hcc _ _ (by omega)).trans (by simp [go_sem])
 clear hb2
 cases h1 : Lib.hasSuffix T [95] with
 | true =>
  have H1 := Lib.hid h1
  have HB0 : Hid ((if badNum T = true then (i, 7) else (i + m, 0)) = (i, 7)) := by show _ = _; simp [badNum, h1]
  clear h1
  go_wp2_with (go_at_call 326; refine (Tryz.strings_HasSuffix _ _ _ (by omega)).mono ?_; rintro e w' ⟨rfl, rfl⟩; simp only [H1.out])
  have HB := HB0.out
  refine bodyPost_ret (v := .tuple #[.agg #[.int .i64 1, .string ⟨T.toArray⟩, .int .i64 (↑i + 1)], .int .i64 ↑i, .int .i64 7]) (by simp [results, Tryz.results178, go_sem, q0, q1, q2]) rfl (next_post _ _ _ _ _ (by rw [HRES.out] <;> rfl) (by rw [HRES.out]) (by first | rfl | simp) (by rw [HRES.out, HB] <;> first | rfl | simp) (by rw [HRES.out, HB] <;> first | rfl | simp) ?_)
  go_grown
 | false =>
  have H1 := Lib.hid h1
  cases h2 : Lib.contains T [95, 95] with
  | true =>
   have H2 := Lib.hid h2
   have HB0 : Hid ((if badNum T = true then (i, 7) else (i + m, 0)) = (i, 7)) := by show _ = _; simp [badNum, h2]
   clear h1 h2
   go_wp2_with (first | (go_at_call 326; refine (Tryz.strings_HasSuffix _ _ _ (by omega)).mono ?_; rintro e w' ⟨rfl, rfl⟩; simp only [H1.out]) | (go_at_call 327; refine (contains_at _ _ _ hTs (HX.out.below (by go_grown))).mono ?_; rintro e w' ⟨rfl, rfl⟩; simp only [H2.out]))
   have HB := HB0.out
   refine bodyPost_ret (v := .tuple #[.agg #[.int .i64 1, .string ⟨T.toArray⟩, .int .i64 (↑i + 1)], .int .i64 ↑i, .int .i64 7]) (by simp [results, Tryz.results178, go_sem, q0, q1, q2]) rfl (next_post _ _ _ _ _ (by rw [HRES.out] <;> rfl) (by rw [HRES.out]) (by first | rfl | simp) (by rw [HRES.out, HB] <;> first | rfl | simp) (by rw [HRES.out, HB] <;> first | rfl | simp) ?_)
   go_grown
  | false =>
   have H2 := Lib.hid h2
   have HB0 : Hid ((if badNum T = true then (i, 7) else (i + m, 0)) = (i + m, 0)) := by show _ = _; simp [badNum, h1, h2]
   clear h1 h2
   go_wp2_with (first | (go_at_call 326; refine (Tryz.strings_HasSuffix _ _ _ (by omega)).mono ?_; rintro e w' ⟨rfl, rfl⟩; simp only [H1.out]) | (go_at_call 327; refine (contains_at _ _ _ hTs (HX.out.below (by go_grown))).mono ?_; rintro e w' ⟨rfl, rfl⟩; simp only [H2.out]))
   have HB := HB0.out
   refine bodyPost_ret (v := .tuple #[.agg #[.int .i64 1, .string ⟨T.toArray⟩, .int .i64 (↑i + 1)], .int .i64 (↑i + ↑m), .int .i64 0]) (by simp [results, Tryz.results178, go_sem, q0, q1, q2]) rfl (next_post _ _ _ _ _ (by rw [HRES.out] <;> rfl) (by rw [HRES.out]) (by first | rfl | simp) (by rw [HRES.out, HB] <;> first | rfl | simp) (by rw [HRES.out, HB] <;> first | rfl | simp) ?_)
   go_grown
set_option maxRecDepth 100000 in
set_option maxHeartbeats 1000000 in
theorem next_name (s : ByteArray) (v : Value) (i : Nat) (c : C) (w : World) (hr : RdCh w v (chars s.data.toList)) (hc : (chars s.data.toList)[i]? = some c) (hs : s.size ≤ 67108864) (hk : kd c = 4) (hx : Lx w) :
  Calls Tryz.prog 178 #[.string s, v, .int .i64 (i : Nat)] w (NextPost (nextRes (chars s.data.toList) i c) i w) := by
 have hn : (chars s.data.toList).length ≤ 67108864 := by have := chars_len s.data.toList; rw [← Lib.size_eq] at this; omega
 have hlt : i < (chars s.data.toList).length := (List.getElem?_eq_some_iff.1 hc).1
 have HR := Lib.hid hr
 have HX := Lib.hid hx
 have hp : 1 ≤ runLen isAl ((chars s.data.toList).drop i) := by
  rw [List.drop_eq_getElem_cons hlt]
  have := List.getElem?_eq_getElem hlt
  rw [hc] at this
  obtain rfl := Option.some.inj this
  exact runLen_pos (by simp [isAl, hk])
 have hq : i + runLen isAl ((chars s.data.toList).drop i) ≤ (chars s.data.toList).length := by
  have := runLen_le isAl ((chars s.data.toList).drop i); rw [List.length_drop] at this; omega
 obtain ⟨ao, cap, hv, hnc, hcm, hsh⟩ := hr.shape
 obtain ⟨g, hao, hgs, e1, e2, e3⟩ := hsh _ c hc
 subst hao
 have hT : (bytesOf (((chars s.data.toList).drop i).take (runLen isAl ((chars s.data.toList).drop i)))).length ≤ 67108864 := by have := bytesOf_take_le s.data.toList i (runLen isAl ((chars s.data.toList).drop i)); rw [← Lib.size_eq] at this; omega
 obtain ⟨res, hres⟩ : ∃ r, r = nextRes (chars s.data.toList) i c := ⟨_, rfl⟩
 rw [← hres]
 have hres2 : nextRes (chars s.data.toList) i c = (2, bytesOf (((chars s.data.toList).drop i).take (runLen isAl ((chars s.data.toList).drop i))), if 32 < (bytesOf (((chars s.data.toList).drop i).take (runLen isAl ((chars s.data.toList).drop i)))).length then (i, 17) else (i + runLen isAl ((chars s.data.toList).drop i), 0)) := by unfold nextRes; simp [hk]
 rw [hres2] at hres
 obtain ⟨m, hmm⟩ : ∃ m, runLen isAl ((chars s.data.toList).drop i) = m := ⟨_, rfl⟩
 rw [hmm] at hres hT hq hp
 obtain ⟨T, htt⟩ : ∃ T, bytesOf (((chars s.data.toList).drop i).take m) = T := ⟨_, rfl⟩
 rw [htt] at hres hT
 have HM := Lib.hid hmm
 have HT := Lib.hid htt
 have HRES := Lib.hid hres
 have hTs : (⟨T.toArray⟩ : ByteArray).size ≤ 67108864 := by rw [Lib.size_eq]; simpa using hT
 rw [hk] at e1
 subst hv
 clear hres hres2 hmm htt hk hc hsh hr hx hcm
 go_enter Tryz.func178, Tryz.ntmps178
 go_wp2_with fail
 refine (run_any _ isAl takes_isAl _ (chars s.data.toList) i _ (HR.out.below ?_) (by omega)).mono ?_
 ·go_grown
 rintro e w1 ⟨rfl, hb1⟩
 rw [HM.out]
 go_wp2_with fail
 refine (text_any s _ i (i + m) w1 ((HR.out.below ?_).below hb1) (by omega) hq hs).mono ?_
 ·go_grown
 rintro e w2 ⟨rfl, nn, hw2⟩
 rw [Nat.add_sub_cancel_left, HT.out]
 have hb2 := below_drewN hb1 nn
 rw [← hw2] at hb2
 clear hw2 hb1 HR e1 e2 e3 HM HT
 have hB : Below w.heap.size w w2 := Below.trans (by go_grown) (hb2.mono (by simp; omega))
 obtain ⟨hcc, hff⟩ := bcell hb2
 have hz := hb2.size
 simp only [World.size_alloc] at hz hcc hff
 have q0 : w2.cell? ⟨w.heap.size, 0, none⟩ = some (.int .i64 0) := (hcc _ _ (by omega)).trans (by simp [go_sem])
 have q1 : w2.cell? ⟨w.heap.size, 1, none⟩ = some (.string ⟨#[]⟩) := (hcc _ _ (by omega)).trans (by simp [go_sem])
 have q2 : w2.cell? ⟨w.heap.size, 2, none⟩ = some (.int .i64 0) := (hcc _ _ (by omega)).trans (by simp [go_sem])
 clear hb2
 have hsz : (⟨T.toArray⟩ : ByteArray).size = T.length := by rw [Lib.size_eq]
 have HSZ := Lib.hid hsz
 clear hsz
 by_cases h1 : 32 < T.length
 ·have HB0 : Hid ((if 32 < T.length then (i, 17) else (i + m, 0)) = (i, 17)) := by show _ = _; rw [if_pos h1]
  have h3 : (32 : Int) < ((⟨T.toArray⟩ : ByteArray).size : Int) := by rw [HSZ.out]; omega
  go_wp2
  have HB := HB0.out
  refine bodyPost_ret (v := .tuple #[.agg #[.int .i64 2, .string ⟨T.toArray⟩, .int .i64 (↑i + 1)], .int .i64 ↑i, .int .i64 17]) (by simp [results, Tryz.results178, go_sem, q0, q1, q2]) rfl (next_post _ _ _ _ _ (by rw [HRES.out] <;> rfl) (by rw [HRES.out]) (by first | rfl | simp) (by rw [HRES.out, HB] <;> first | rfl | simp) (by rw [HRES.out, HB] <;> first | rfl | simp) ?_)
  go_grown
 ·have HB0 : Hid ((if 32 < T.length then (i, 17) else (i + m, 0)) = (i + m, 0)) := by show _ = _; rw [if_neg h1]
  have h3 : ¬ (32 : Int) < ((⟨T.toArray⟩ : ByteArray).size : Int) := by rw [HSZ.out]; omega
  go_wp2
  have HB := HB0.out
  refine bodyPost_ret (v := .tuple #[.agg #[.int .i64 2, .string ⟨T.toArray⟩, .int .i64 (↑i + 1)], .int .i64 (↑i + ↑m), .int .i64 0]) (by simp [results, Tryz.results178, go_sem, q0, q1, q2]) rfl (next_post _ _ _ _ _ (by rw [HRES.out] <;> rfl) (by rw [HRES.out]) (by first | rfl | simp) (by rw [HRES.out, HB] <;> first | rfl | simp) (by rw [HRES.out, HB] <;> first | rfl | simp) ?_)
  go_grown
theorem next_any (s : ByteArray) (v : Value) (i : Nat) (c : C) (w : World) (hr : RdCh w v (chars s.data.toList)) (hc : (chars s.data.toList)[i]? = some c) (hs : s.size ≤ 67108864) (h1 : kd c ≠ 1) (h2 : kd c ≠ 2) (hmk : MarkOk c) (hx : Lx w) :
  Calls Tryz.prog 178 #[.string s, v, .int .i64 (i : Nat)] w (NextPost (nextRes (chars s.data.toList) i c) i w) := by
 have hk := kd_le c
 have hn : (chars s.data.toList).length ≤ 67108864 := by have := chars_len s.data.toList; rw [← Lib.size_eq] at this; omega
 by_cases h3 : kd c = 3
 ·exact next_num s v i c w hr hc hs h3 hx
 by_cases h4 : kd c = 4
 ·exact next_name s v i c w hr hc hs h4 hx
 exact next_plain s v _ i c w hr hc hn (by omega) hmk
end Go.Proofs.YtceggplnggkdnaaGreatDoor
namespace Go.Proofs.YtceggplnggkdnaaGreatDoor
open Go.RowKit LexP
theorem dec_ascii {l : Bytes} {v n : Nat} (h : dec l = some (v, n)) (hv : v < 128) : n = 1 ∧ l.take n = [v.toUInt8] := by
 unfold dec at h
 split at h
 ·cases h
 ·rename_i b t
  split at h
  ·cases h
   refine ⟨rfl, ?_⟩
   simp
  split at h
  ·split at h
   ·split at h
    ·rename_i k; simp only [Bool.and_eq_true, decide_eq_true_eq] at k; simp at h; omega
    ·simp at h
   ·cases h
  split at h
  ·split at h
   ·split at h
    ·rename_i k; simp only [Bool.and_eq_true, decide_eq_true_eq] at k; simp at h; omega
    ·simp at h
   ·cases h
  split at h
  ·split at h
   ·split at h
    ·rename_i k; simp only [Bool.and_eq_true, decide_eq_true_eq] at k; simp at h; omega
    ·simp at h
   ·cases h
  ·cases h
theorem markOk_chars : ∀ l : Bytes, ∀ c ∈ chars l, MarkOk c := by
 apply chars_ind
 ·intro c hc; simp [chars_nil] at hc
 ·intro l hl ih c hc
  rw [chars_cons hl] at hc
  rcases List.mem_cons.1 hc with rfl | hc
  ·intro hk hlt
   unfold rn at hlt ⊢
   simp only at hlt ⊢
   cases hd : dec l with
   | none => simp [val, hd] at hlt
   | some p =>
    obtain ⟨v, n⟩ := p
    have hv : val l = some v := by simp [val, hd]
    have hw : wid l = n := by simp [wid, hd]
    rw [hv] at hlt ⊢
    rw [hw]
    exact (dec_ascii hd hlt).2
  ·exact ih c hc
theorem drop_cons {cs : List C} {i : Nat} {c : C} (h : cs[i]? = some c) : cs.drop i = c :: cs.drop (i + 1) := by
 have hlt : i < cs.length := (List.getElem?_eq_some_iff.1 h).1
 rw [List.drop_eq_getElem_cons hlt]
 have := List.getElem?_eq_getElem hlt
 rw [h] at this
 rw [Option.some.inj this]
theorem Toks_next {cs : List C} {i : Nat} {c : C} (h : cs[i]? = some c) (h1 : kd c ≠ 1) (h2 : kd c ≠ 2) :
  ((nextRes cs i c).2.2.2 ≠ 0 → Toks (i + 1) (cs.drop i) = .error (i + 1, (nextRes cs i c).2.2.2)) ∧
  ((nextRes cs i c).2.2.2 = 0 → i < (nextRes cs i c).2.2.1 ∧ (nextRes cs i c).2.2.1 ≤ cs.length ∧
     Toks (i + 1) (cs.drop i) = (Toks ((nextRes cs i c).2.2.1 + 1) (cs.drop (nextRes cs i c).2.2.1)).after [((nextRes cs i c).1, (nextRes cs i c).2.1, i + 1)]) := by
 have hlt : i < cs.length := (List.getElem?_eq_some_iff.1 h).1
 have hd := drop_cons h
 have hk := kd_le c
 have hl : ∀ p, i + runLen p (cs.drop i) ≤ cs.length := fun p => by have := runLen_le p (cs.drop i); rw [List.length_drop] at this; omega
 by_cases h0 : kd c = 0
 ·unfold nextRes; simp only [h0, if_true]
  exact ⟨fun _ => by rw [hd, Toks_bad _ h0], fun h => by simp at h⟩
 by_cases h3 : kd c = 3
 ·have e := Toks_num (c := c) (cs := cs.drop (i + 1)) (i + 1) h3
  rw [← hd] at e
  have hp : 1 ≤ runLen isNum (cs.drop i) := by rw [hd]; exact runLen_pos (by simp [isNum, h3])
  unfold nextRes; simp only [h3, Nat.reduceEqDiff, if_true, if_false]
  rw [e]
  split
  ·exact ⟨fun _ => rfl, fun h => by simp at h⟩
  ·refine ⟨fun h => by simp at h, fun _ => ⟨by simp only; omega, hl _, ?_⟩⟩
   simp only [List.drop_drop]
   rw [show i + 1 + runLen isNum (cs.drop i) = i + runLen isNum (cs.drop i) + 1 from by omega]
 by_cases h4 : kd c = 4
 ·have e := Toks_name (c := c) (cs := cs.drop (i + 1)) (i + 1) h4
  rw [← hd] at e
  have hp : 1 ≤ runLen isAl (cs.drop i) := by rw [hd]; exact runLen_pos (by simp [isAl, h4])
  unfold nextRes; simp only [h4, Nat.reduceEqDiff, if_true, if_false]
  rw [e]
  split
  ·exact ⟨fun _ => rfl, fun h => by simp at h⟩
  ·refine ⟨fun h => by simp at h, fun _ => ⟨by simp only; omega, hl _, ?_⟩⟩
   simp only [List.drop_drop]
   rw [show i + 1 + runLen isAl (cs.drop i) = i + runLen isAl (cs.drop i) + 1 from by omega]
 by_cases h5 : kd c = 5
 ·unfold nextRes; simp only [h5, Nat.reduceEqDiff, if_true, if_false]
  refine ⟨fun h => by simp at h, fun _ => ⟨by omega, by omega, ?_⟩⟩
  rw [hd, Toks_mark _ h5]
 ·have h6 : kd c = 6 := by omega
  unfold nextRes; simp only [h6, Nat.reduceEqDiff, if_false]
  exact ⟨fun _ => by rw [hd, Toks_other _ h6], fun h => by simp at h⟩
def TokPost (r : Res) (w : World) (e : Ending) (w' : World) : Prop :=
 ∃ v, e = .returned (.tuple #[v, .int .i64 (resCol r : Nat), .int .i64 (resErr r : Nat)]) ∧ w'.ownsRow w.heap.size 165 3 v (resTok r).length (tkCells (resTok r)) ∧ Below w.heap.size w w'
theorem Tryz.infoTok : (Tryz.prog.info? 165).map (fun i => (i.zero, i.size, i.bytes)) = some (some (.agg #[.int .i64 0, .string ⟨#[]⟩, .int .i64 0]), 3, 32) := by kernel_rfl
def TkRel (cs : List C) (w1 : World) (v i : Value) (wr : World) : Prop :=
 ∃ k acc, k ≤ cs.length ∧ i = .int .i64 (k : Nat) ∧ wr.ownsRow w1.heap.size 165 3 v acc.length (tkCells acc) ∧ Below w1.heap.size w1 wr ∧
  Toks 1 cs = (Toks (k + 1) (cs.drop k)).after acc ∧ acc.length ≤ k
theorem tokpost_err {r : Res} {w w' : World} {x y : Value} (c e : Nat) (hx : x = .int .i64 (c : Nat)) (hy : y = .int .i64 (e : Nat)) (h : r = .error (c, e)) (hb : Below w.heap.size w w') : TokPost r w (.returned (.tuple #[.slice none 0 0, x, y])) w' := by
 subst h hx hy; exact ⟨_, rfl, World.ownsRow_nil _ _ _ _, hb⟩
theorem tokpost_ok {r : Res} {w w' : World} {v : Value} {l : List Tok} (h : r = .ok l) (ho : w'.ownsRow w.heap.size 165 3 v l.length (tkCells l)) (hb : Below w.heap.size w w') : TokPost r w (.returned (.tuple #[v, .int .i64 0, .int .i64 0])) w' := by
 subst h; exact ⟨_, rfl, ho, hb⟩
theorem after_err {r : Res} {acc : List Tok} {e : Nat × Nat} (h : r = .error e) : r.after acc = .error e := by subst h; rfl
theorem after_ok {r : Res} {acc : List Tok} (h : r = .ok []) : r.after acc = .ok acc := by subst h; simp [Res.after]
set_option maxRecDepth 100000 in
set_option maxHeartbeats 1000000 in
theorem tokens_big (s : ByteArray) (w : World) (hs : s.size ≤ 67108864) (hx : Lx w) :
  Calls Tryz.prog 84 #[.string s] w (TokPost (Toks 1 (chars s.data.toList)) w) := by
 obtain ⟨i0, hi, hz0, hz1, hz2⟩ := info_parts Tryz.infoTok
 have HX := Lib.hid hx
 have HMK := Lib.hid (markOk_chars s.data.toList)
 have hn : (chars s.data.toList).length ≤ 67108864 := by have := chars_len s.data.toList; rw [← Lib.size_eq] at this; omega
 clear hx
 go_enter Tryz.func84, Tryz.ntmps84
 go_wp2_with fail
 refine (chars_any s _ hs).mono ?_
 rintro e w1 ⟨v, rfl, hown, hbel⟩
 have HR : Hid (RdCh w1 v (chars s.data.toList)) := ownsRow_mono hown (Nat.zero_le _)
 have HB := Lib.hid hbel
 have hsz := hbel.size
 clear hown hbel
 obtain ⟨ao, cap, hv, hnc, hcm, hsh⟩ := HR.out.shape
 have HSH := Lib.hid hsh
 clear hsh hcm
 subst hv
 go_wp2_with fail
 go_loopw [2, 6] (fun v i wr => TkRel (chars s.data.toList) w1 v i wr) (fun _ i _ => (chars s.data.toList).length - (intOf i).toNat)
 case atStart => exact ⟨0, [], Nat.zero_le _, rfl, World.ownsRow_nil _ _ _ _, Below.refl _ _, by simp [Res.after_nil], Nat.le_refl _⟩
 case round =>
  obtain ⟨k, acc, hk, rfl, hown, hb, htk, hal⟩ := hrel
  have HTK := Lib.hid htk
  have HB2 : Hid (Below w.heap.size w wr) := HB.out.trans (hb.mono HB.out.size)
  have hzz := hb.size
  clear htk
  by_cases hlt : k < (chars s.data.toList).length
  ·obtain ⟨c, hc⟩ : ∃ c, (chars s.data.toList)[k]? = some c := ⟨_, List.getElem?_eq_getElem hlt⟩
   obtain ⟨g, rfl, hgs, e1, e2, e3⟩ := HSH.out _ c hc
   rw [← hb.cell (p := ⟨g, _, none⟩) hgs] at e1 e2 e3
   have HC := Lib.hid hc
   have HD := Lib.hid (drop_cons hc)
   clear hc HSH
   by_cases hk1 : kd c = 1
   ·have HE : Hid (Toks (k + 1) ((chars s.data.toList).drop k) = Toks (k + 1 + 1) ((chars s.data.toList).drop (k + 1))) := by show _ = _; rw [HD.out, Toks_blank _ hk1]
    rw [hk1] at e1
    clear hk1
    go_wp2_with fail
    have hfin : TkRel (chars s.data.toList) w1 u2 (.int .i64 (k + 1)) wr := ⟨k + 1, acc, by omega, by go_num, hown, hb, by rw [HTK.out, HE.out], by omega⟩
    exact ⟨hfin, by simp [intOf]; omega⟩
   by_cases hk2 : kd c = 2
   ·have HE := Lib.hid (Toks_hash (cs := (chars s.data.toList).drop (k + 1)) (k + 1) hk2)
    rw [← HD.out] at HE
    have hle := runLen_le notBad ((chars s.data.toList).drop k)
    rw [List.length_drop] at hle
    rw [hk2] at e1
    clear hk1 hk2
    go_wp2_with fail
    refine (run_any _ notBad takes_notBad _ (chars s.data.toList) k _ (HR.out.below hb) hk).mono ?_
    rintro e w2 ⟨rfl, hb2⟩
    by_cases hl2 : k + runLen notBad ((chars s.data.toList).drop k) < (chars s.data.toList).length
    ·go_wp2_with fail
     go_ret3
     exact tokpost_err (k + 1 + runLen notBad ((chars s.data.toList).drop k)) 12 (by show Value.int .i64 _ = _; congr 1; omega) rfl
      (HTK.out.trans (after_err (HE.out.trans (if_pos (by rw [List.length_drop]; omega))))) (HB2.out.trans (hb2.mono HB2.out.size))
    ·go_wp2_with fail
     have hfin : TkRel (chars s.data.toList) w1 u2 (.int .i64 (↑k + ↑(runLen notBad ((chars s.data.toList).drop k)))) w2 := by
      refine ⟨k + runLen notBad ((chars s.data.toList).drop k), acc, by omega, by go_num, ownsRow_below hown hb2 (Nat.le_refl _), hb.trans (hb2.mono hzz), ?_, by omega⟩
      have hdn : List.drop (k + runLen notBad ((chars s.data.toList).drop k)) (chars s.data.toList) = [] := List.drop_eq_nil_of_le (by omega)
      rw [hdn, Toks_nil, HTK.out, HE.out, if_neg (by rw [List.length_drop]; omega)]
     have hrun : 1 ≤ runLen notBad ((chars s.data.toList).drop k) := by omega
     exact ⟨hfin, by simp [intOf]; omega⟩
   ·have HN := Toks_next HC.out hk1 hk2
    have HNE := Lib.hid HN.1
    have HNO := Lib.hid HN.2
    have HMC := HMK.out c (List.mem_of_getElem? HC.out)
    have n1 : ((kd c : Int) == 1) = false := by simp; omega
    have n2 : ((kd c : Int) == 2) = false := by simp; omega
    clear HN
    go_wp2_with fail
    refine (next_any s _ k c _ (HR.out.below hb) HC.out hs hk1 hk2 HMC (HX.out.below HB2.out)).mono ?_
    rintro e w2 ⟨rfl, hb2⟩
    generalize nextRes (chars s.data.toList) k c = nr at *
    obtain ⟨k3, t3, j3, e3⟩ := nr
    simp only at HNE HNO ⊢
    clear HMC hk1 hk2 n1 n2 e1 e2 HD HC
    by_cases he : e3 = 0
    ·subst he
     obtain ⟨hj1, hj2, hj3⟩ := HNO.out rfl
     have HJ := Lib.hid hj3
     have q0 := ownsRow_below hown hb2 (Nat.le_refl _)
     have hzw2 := hb2.size
     clear hj3 HNE HNO
     go_wp2_with (at_builtin; refine wpList_append_own _ rfl _ _ 107 rfl w1.heap.size 165 i0 (.agg #[.int .i64 0, .string ⟨#[]⟩, .int .i64 0]) 3 32 Tryz.underlying107 hi hz0 hz1 hz2 rfl (by decide) _ _ _ rfl ((q0.alloc _).alloc _) ⟨w2.heap.size + 1, 0, none⟩ 1 1 (tkCells [(k3, t3, k + 1)]) rfl rfl ?c1 ?c2 ?c3 ?c4 ?c5 ?_)
     case c1 => exact cells_new _ _ _ _ (by simp)
     case c2 => intro u hu; simp [tkCells] at hu; rcases hu with rfl | rfl | rfl <;> rfl
     case c3 => unfold maxLen; omega
     case c4 => omega
     case c5 => simp; omega
     intro v' w3 hown3 hgrow3 _
     have HO3 : Hid (w3.ownsRow w1.heap.size 165 3 v' (acc ++ [(k3, t3, k + 1)]).length (tkCells (acc ++ [(k3, t3, k + 1)]))) := by
      show World.ownsRow _ _ _ _ _ _ _
      rw [tkCells_append, List.length_append]; exact hown3
     have HB3 : Hid (Below w1.heap.size w1 w3) := Below.grown ((((hb.trans (hb2.mono hzz)).alloc (by omega) _).alloc (by simp; omega) _)) hgrow3 (by simp; omega) (fun k hk => (q0.lt k hk).1)
     clear hown3 hgrow3 q0 hown
     go_wp2_with fail
     have hfin : TkRel (chars s.data.toList) w1 v' (.int .i64 ↑j3) w3 := ⟨j3, acc ++ [(k3, t3, k + 1)], hj2, rfl, HO3.out, HB3.out, by rw [HTK.out, HJ.out, Res.after_after], by simp; omega⟩
     exact ⟨hfin, by simp [intOf]; omega⟩
    ·have he2 : ((e3 : Int) != 0) = true := by simp; omega
     go_wp2_with fail
     go_ret3
     exact tokpost_err (k + 1) e3 (by show Value.int .i64 _ = _; congr 1) rfl (HTK.out.trans (after_err (HNE.out he))) ((HB2.out.trans (hb2.mono HB2.out.size)).alloc (by have := hb2.size; have := HB2.out.size; omega) _)
  ·go_wp2_with fail
   go_ret3
   refine tokpost_ok (HTK.out.trans (after_ok ?_)) (ownsRow_mono hown HB.out.size) HB2.out
   rw [List.drop_of_length_le (by omega), Toks_nil]
end Go.Proofs.YtceggplnggkdnaaGreatDoor
