/- Walks of package lexer: chars, Columns. -/
import Derived.Test.YtebidhdoiojaeaaLexW1
import Derived.Test.YtebidhdoiojaeaaLexDec
namespace Go.Proofs.Ytebidhdoiojaeaa
open Go.RowKit LexP

theorem Try.infoChar : (Try.prog.info? 57).map (fun i => (i.zero, i.size, i.bytes)) = some (some (.agg #[.int .i64 0, .int .i32 0, .int .i64 0]), 3, 24) := by kernel_rfl

/-- What chars answers: the cells of the text's characters in memory of its own. -/
def CharsPost (l : Bytes) (w : World) (e : Ending) (w' : World) : Prop :=
  ∃ v, e = .returned v ∧ w'.ownsRow w.heap.size 57 3 v (chars l).length (chCells 0 (chars l)) ∧ Below w.heap.size w w'

def ChRel (s : ByteArray) (w : World) (v : Value) (wr : World) : Prop :=
  ∃ pos dn, pos ≤ s.size ∧ wr.heap[w.heap.size]? = some (.stringIter s pos) ∧ Below w.heap.size w wr ∧
    chars s.data.toList = dn ++ chars (s.data.toList.drop pos) ∧ (bytesOf dn).length = pos ∧ wr.ownsRow (w.heap.size + 1) 57 3 v dn.length (chCells 0 dn)

theorem iter_heap_at (w : World) (s : ByteArray) : (w.iter s 0).heap[w.heap.size]? = some (.stringIter s 0) := World.iter_heap w s 0

set_option maxRecDepth 100000 in
set_option maxHeartbeats 1000000 in
theorem chars_any (s : ByteArray) (w : World) (hs : s.size ≤ 4194304) :
    Calls Try.prog 27 #[.string s] w (CharsPost s.data.toList w) := by
  obtain ⟨i0, hi, hz0, hz1, hz2⟩ := info_parts Try.infoChar
  go_enter Try.func27, Try.ntmps27
  go_wp2
  go_loopw [3] (fun v wr => ChRel s w v wr) (fun _ wr => s.size - wr.iterPos w.heap.size)
  case atStart =>
    exact ⟨0, [], Nat.zero_le _, iter_heap_at w s, (Below.refl _ _).alloc (Nat.le_refl _) _, by simp, rfl, World.ownsRow_nil _ _ _ _⟩
  case round =>
    obtain ⟨pos, dn, hpos, hit, hbel, hch, hlen, hown⟩ := hrel
    have hsz : w.heap.size < wr.heap.size := (Array.getElem?_eq_some_iff.1 hit).1
    by_cases hlt : pos < s.size
    · have hn := fun ty => Lib.run_next_any_at (P := Try.prog) wr w.heap.size s pos ty hit hlt
      have hLe : s.data.toList.drop pos ≠ [] := by rw [Ne, List.drop_eq_nil_iff, ← Lib.size_eq]; omega
      have hcons := Lib.hid (chars_cons hLe)
      have hk1 := wid_pos (s.data.toList.drop pos)
      have hk2 : pos + wid (s.data.toList.drop pos) ≤ s.size := by have := wid_le hLe; rw [List.length_drop, ← Lib.size_eq] at this; omega
      have hdd : Hid (List.drop (wid (s.data.toList.drop pos)) (s.data.toList.drop pos) = s.data.toList.drop (pos + wid (s.data.toList.drop pos))) := by show _ = _; rw [List.drop_drop]
      have hbl : Hid ((bytesOf (dn ++ [(val (s.data.toList.drop pos), List.take (wid (s.data.toList.drop pos)) (s.data.toList.drop pos))])).length = pos + wid (s.data.toList.drop pos)) := by
        show _ = _
        simp only [bytesOf, List.flatMap_append, List.length_append] at hlen ⊢
        rw [hlen]
        have := wid_le hLe
        simp; simp at this; omega
      have hfp := Lib.hid (val_fffd (s.data.toList.drop pos))
      have hvl : ∀ v, val (s.data.toList.drop pos) = some v → v ≤ 0x10FFFF := fun v h => val_le h
      rw [decode_fst s pos hlt, decode_snd s pos hlt] at hn
      have HCH := Lib.hid hch
      have HLEN := Lib.hid hlen
      have hxd : Hid ((s.extract pos s.size).data.toList = s.data.toList.drop pos) := by
        show _ = _
        rw [Lib.extract_data, List.take_of_length_le (by rw [List.length_drop, ← Lib.size_eq]; exact Nat.le_refl _)]
      have hdn : dn.length ≤ 4194304 := by
        have h1 := chars_len s.data.toList
        rw [hch, List.length_append, ← Lib.size_eq] at h1; omega
      clear hch hlen hLe
      -- the bad byte, U+FFFD itself, all others
      have fin : ∀ (c : C) (v' : Value) (w2 : World), c = (val (s.data.toList.drop pos), List.take (wid (s.data.toList.drop pos)) (s.data.toList.drop pos)) →
          w2.ownsRow (w.heap.size + 1) 57 3 v' (dn.length + 1) (chCells 0 dn ++ chCells pos [c]) → Below w.heap.size w w2 → w2.heap[w.heap.size]? = some (.stringIter s (pos + wid (s.data.toList.drop pos))) →
          ChRel s w v' w2 ∧ s.size - w2.iterPos w.heap.size < s.size - wr.iterPos w.heap.size := by
        intro c v' w2 hc ho hb hi2
        refine ⟨⟨pos + wid (s.data.toList.drop pos), dn ++ [c], hk2, hi2, hb, ?_, ?_, ?_⟩, ?_⟩
        · rw [HCH.out, hcons.out, hc, hdd.out]; simp
        · rw [hc]; exact hbl.out
        · rw [chCells_append, HLEN.out, Nat.zero_add]; simpa using ho
        · rw [iterPos_of hi2, iterPos_of hit]; omega
      have FIN := Lib.hid fin
      clear fin hdd hbl HCH HLEN hcons hk2
      generalize wid (s.data.toList.drop pos) = k at *
      have hW : ∃ wi : World, wi = wr.iterAt w.heap.size s (pos + k) := ⟨_, rfl⟩
      obtain ⟨wi, hwi⟩ := hW
      have q1 : wi.ownsRow (w.heap.size + 1) 57 3 u3 dn.length (chCells 0 dn) := by rw [hwi]; exact ownsRow_iterAt hown (Nat.lt_succ_self _) _ _
      have q2 : Below w.heap.size w wi := by rw [hwi]; exact Lib.below_iterAt hbel (Nat.le_refl _) _ _
      have q3 : wi.heap[w.heap.size]? = some (.stringIter s (pos + k)) := by rw [hwi]; exact Lib.iterAt_heap _ _ _ _ _ hit
      have q4 : w.heap.size < wi.heap.size := (Array.getElem?_eq_some_iff.1 q3).1
      rw [← hwi] at hn
      clear hwi
      have Q3 := Lib.hid q3
      clear q3
      cases hv : val (s.data.toList.drop pos) with
      | some r =>
        have hrle := hvl r hv
        rw [hv] at hn hfp FIN
        clear hvl hv
        simp only [Option.getD_some] at hn hfp
        by_cases hr : r = 0xFFFD
        · subst hr
          have HP : Hid (Lib.hasPrefix (s.data.toList.drop pos) [239, 191, 189] = true) := hfp.out (by first | trivial | rfl)
          clear hfp
          go_wp2_with (first | (go_at_call 44; refine (kind_any 0xFFFD _ (by omega)).mono ?_; rintro e w' ⟨rfl, rfl⟩) | (go_at_call 45; refine (Try.strings_HasPrefix _ _ _).mono ?_; rintro e w' ⟨rfl, rfl⟩; simp only [hxd.out, HP.out]) | (at_builtin; refine wpList_append_own _ rfl _ _ 54 rfl (w.heap.size + 1) 57 i0 (.agg #[.int .i64 0, .int .i32 0, .int .i64 0]) 3 24 Try.underlying54 hi hz0 hz1 hz2 rfl (by decide) _ _ _ rfl ((q1.alloc _).alloc _) ⟨wi.heap.size + 1, 0, none⟩ 1 1 (chCells pos [(some 0xFFFD, List.take k (s.data.toList.drop pos))]) rfl rfl ?c1 ?c2 ?c3 ?c4 ?c5 ?_))
          case c1 => exact cells_new _ _ _ _ (by simp)
          case c2 => intro u hu; simp [chCells_one] at hu; rcases hu with rfl | rfl | rfl <;> rfl
          case c3 => unfold maxLen; omega
          case c4 => omega
          case c5 => simp; omega
          intro v' w2 hown2 hgrow2 _
          have hfin := FIN.out (some 0xFFFD, List.take k (s.data.toList.drop pos)) v' w2 rfl hown2
            (Below.grown (((q2.alloc (Nat.le_of_lt q4) _).alloc (by simp; omega) _)) hgrow2 (by simp; omega) (fun k hk => Nat.le_of_succ_le (q1.lt k hk).1))
            ((hgrow2.block w.heap.size (by simp; omega) (fun e => by have := (q1.lt _ e.symm).1; omega)).trans
              ((Below.heap_alloc _ _ _ (by simp; omega)).trans ((Below.heap_alloc _ _ _ q4).trans Q3.out)))
          clear hown2 hgrow2
          have HF := Lib.hid hfin
          clear hfin
          go_wp2
          first | exact HF.out | exact ⟨by (repeat apply Exists.intro); exact ⟨HF.out.1, rfl⟩, HF.out.2⟩
        · have hr1 : ((r : Int) == 65533) = false := by simp; omega
          clear hfp hxd
          go_wp2_with (first | (go_at_call 44; refine (kind_any r _ hrle).mono ?_; rintro e w' ⟨rfl, rfl⟩) | (at_builtin; refine wpList_append_own _ rfl _ _ 54 rfl (w.heap.size + 1) 57 i0 (.agg #[.int .i64 0, .int .i32 0, .int .i64 0]) 3 24 Try.underlying54 hi hz0 hz1 hz2 rfl (by decide) _ _ _ rfl ((q1.alloc _).alloc _) ⟨wi.heap.size + 1, 0, none⟩ 1 1 (chCells pos [(some r, List.take k (s.data.toList.drop pos))]) rfl rfl ?c1 ?c2 ?c3 ?c4 ?c5 ?_))
          
          case c1 => exact cells_new _ _ _ _ (by simp)
          case c2 => intro u hu; simp [chCells_one] at hu; rcases hu with rfl | rfl | rfl <;> rfl
          case c3 => unfold maxLen; omega
          case c4 => omega
          case c5 => simp; omega
          intro v' w2 hown2 hgrow2 _
          have hfin := FIN.out (some r, List.take k (s.data.toList.drop pos)) v' w2 rfl hown2
            (Below.grown (((q2.alloc (Nat.le_of_lt q4) _).alloc (by simp; omega) _)) hgrow2 (by simp; omega) (fun k hk => Nat.le_of_succ_le (q1.lt k hk).1))
            ((hgrow2.block w.heap.size (by simp; omega) (fun e => by have := (q1.lt _ e.symm).1; omega)).trans
              ((Below.heap_alloc _ _ _ (by simp; omega)).trans ((Below.heap_alloc _ _ _ q4).trans Q3.out)))
          clear hown2 hgrow2
          have HF := Lib.hid hfin
          clear hfin
          go_wp2
          first | exact HF.out | exact ⟨by (repeat apply Exists.intro); exact ⟨HF.out.1, rfl⟩, HF.out.2⟩
      | none =>
        rw [hv] at hn hfp FIN
        clear hvl hv
        simp only [Option.getD_none] at hn hfp
        have HP : Hid (Lib.hasPrefix (s.data.toList.drop pos) [239, 191, 189] = false) := hfp.out (by first | trivial | rfl)
        clear hfp
        go_wp2_with (first | (go_at_call 44; refine (kind_any 0xFFFD _ (by omega)).mono ?_; rintro e w' ⟨rfl, rfl⟩) | (go_at_call 45; refine (Try.strings_HasPrefix _ _ _).mono ?_; rintro e w' ⟨rfl, rfl⟩; simp only [hxd.out, HP.out]) | (at_builtin; refine wpList_append_own _ rfl _ _ 54 rfl (w.heap.size + 1) 57 i0 (.agg #[.int .i64 0, .int .i32 0, .int .i64 0]) 3 24 Try.underlying54 hi hz0 hz1 hz2 rfl (by decide) _ _ _ rfl ((q1.alloc _).alloc _) ⟨wi.heap.size + 1, 0, none⟩ 1 1 (chCells pos [(none, List.take k (s.data.toList.drop pos))]) rfl rfl ?c1 ?c2 ?c3 ?c4 ?c5 ?_))
        
        case c1 => exact cells_new _ _ _ _ (by simp)
        case c2 => intro u hu; simp [chCells_one] at hu; rcases hu with rfl | rfl | rfl <;> rfl
        case c3 => unfold maxLen; omega
        case c4 => omega
        case c5 => simp; omega
        intro v' w2 hown2 hgrow2 _
        have hfin := FIN.out (none, List.take k (s.data.toList.drop pos)) v' w2 rfl hown2
          (Below.grown (((q2.alloc (Nat.le_of_lt q4) _).alloc (by simp; omega) _)) hgrow2 (by simp; omega) (fun k hk => Nat.le_of_succ_le (q1.lt k hk).1))
          ((hgrow2.block w.heap.size (by simp; omega) (fun e => by have := (q1.lt _ e.symm).1; omega)).trans
            ((Below.heap_alloc _ _ _ (by simp; omega)).trans ((Below.heap_alloc _ _ _ q4).trans Q3.out)))
        clear hown2 hgrow2
        have HF := Lib.hid hfin
        clear hfin
        go_wp2
        first | exact HF.out | exact ⟨by (repeat apply Exists.intro); exact ⟨HF.out.1, rfl⟩, HF.out.2⟩
    · have hn := fun ty => Lib.run_next_end_at (P := Try.prog) wr w.heap.size s pos ty hit hlt
      go_wp2
      go_ret
      have : pos = s.size := by omega
      rw [List.drop_of_length_le (by rw [← Lib.size_eq]; omega), chars_nil, List.append_nil] at hch
      rw [← hch] at hown
      exact ⟨_, rfl, ownsRow_mono hown (by omega), hbel⟩
end Go.Proofs.Ytebidhdoiojaeaa
