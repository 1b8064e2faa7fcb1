/- Walks of package lexer: Columns, run, text, sign. -/
import Derived.Test.YtebidhdoiojaeaaLexW2
import Derived.BigQuiet
import Derived.Deep.QuietTactic
namespace Go.Proofs.Ytebidhdoiojaeaa
open Go.RowKit LexP

def colRes (l : Bytes) : Nat × Nat := if (chars l).all notBad then ((chars l).length, 0) else (0, 12)

def ColPost (l : Bytes) (w : World) (e : Ending) (w' : World) : Prop :=
  e = .returned (.tuple #[.int .i64 (colRes l).1, .int .i64 (colRes l).2]) ∧ Below w.heap.size w w'

set_option maxRecDepth 100000 in
set_option maxHeartbeats 1000000 in
theorem columns_big (s : ByteArray) (w : World) (hs : s.size ≤ 4194304) :
    Calls Try.prog 14 #[.string s] w (ColPost s.data.toList w) := by
  go_enter Try.func14, Try.ntmps14
  go_wp2_with fail
  refine (chars_any s _ hs).mono ?_
  rintro e w1 ⟨v, rfl, hown, hbel⟩
  have hN : (chars s.data.toList).length ≤ 4194304 := by have := chars_len s.data.toList; rw [← Lib.size_eq] at this; omega
  have HR : ∀ (a : Nat × Nat), a = colRes s.data.toList → ColPost s.data.toList w (.returned (.tuple #[.int .i64 (a.1 : Nat), .int .i64 (a.2 : Nat)])) w1 := fun a ha => ⟨by rw [ha], hbel⟩
  have HC : colRes s.data.toList = if (chars s.data.toList).all notBad then ((chars s.data.toList).length, 0) else (0, 12) := rfl
  generalize chars s.data.toList = cs at *
  have HR := Lib.hid HR
  have HC := Lib.hid HC
  obtain ⟨ao, cap, rfl, hnc, hcm, hsh⟩ := ownsRow_shape hown
  go_wp2_with fail
  have HSH := Lib.hid hsh
  have HB := Lib.hid hbel
  clear hown hsh hbel
  go_loopw [4, 10] (fun n i wr => ∃ k : Nat, k ≤ cs.length ∧ n = .int .i64 k ∧ i = .int .i64 k ∧ Below w1.heap.size w1 wr ∧ (cs.take k).all notBad = true) (fun _ i _ => cs.length - (intOf i).toNat)
  case atStart => exact ⟨0, Nat.zero_le _, rfl, rfl, Below.refl _ _, rfl⟩
  case round =>
    obtain ⟨k, hk, rfl, rfl, hbk, hall⟩ := hrel
    have HALL := Lib.hid hall
    clear hall
    by_cases hlt : k < cs.length
    · obtain ⟨c, hc⟩ : ∃ c, cs[k]? = some c := ⟨cs[k], List.getElem?_eq_getElem hlt⟩
      obtain ⟨g, rfl, hbg, hgs, hcell⟩ := HSH.out (by omega)
      obtain ⟨c1, c2, c3⟩ := chCells_at cs 0 k c hc
      have e1 : wr.cell? ⟨g, k * 3, none⟩ = some (.int .i64 (kd c : Nat)) := by rw [hbk.cell (p := ⟨g, _, none⟩) hgs, hcell _ (by omega)]; exact c1
      have e2 : wr.cell? ⟨g, k * 3 + 1, none⟩ = some (.int .i32 (rn c : Nat)) := by rw [hbk.cell (p := ⟨g, _, none⟩) hgs, hcell _ (by omega)]; exact c2
      have e3 : wr.cell? ⟨g, k * 3 + 2, none⟩ = some (.int .i64 (0 + (bytesOf (cs.take k)).length : Nat)) := by rw [hbk.cell (p := ⟨g, _, none⟩) hgs, hcell _ (by omega)]; exact c3
      have hz := hbk.size
      clear c1 c2 c3 hcell HSH
      have HCK := Lib.hid hc
      clear hc
      by_cases hb : kd c = 0
      · have hb1 : ((kd c : Int) == 0) = true := by simp [hb]
        have HBD := Lib.hid hb
        clear hb
        go_wp2
        go_ret2
        have : cs.all notBad = false := by
          rw [List.all_eq_false]
          exact ⟨c, List.mem_of_getElem? HCK.out, by simp [notBad, HBD.out]⟩
        obtain ⟨h1, h2⟩ := HR.out (0, 12) (by rw [HC.out, this]; rfl)
        exact ⟨h1, h2.trans ((hbk.mono HB.out.size).alloc (by have := HB.out.size; omega) _)⟩
      · have hb1 : ((kd c : Int) == 0) = false := by simp [hb]
        go_wp2
        exact ⟨⟨k + 1, by omega, by go_num, by go_num, hbk.alloc hz _, by rw [List.take_add_one, HCK.out]; simp [HALL.out, notBad, hb]⟩, by simp [intOf]; omega⟩
    · go_wp2
      go_ret2
      have hk' : k = cs.length := by omega
      have h1 := HALL.out
      rw [hk', List.take_length] at h1
      obtain ⟨h1, h2⟩ := HR.out (cs.length, 0) (by rw [HC.out, h1]; rfl)
      rw [hk']
      exact ⟨h1, h2.trans (hbk.mono HB.out.size)⟩
theorem columns_any (s : ByteArray) (w : World) (hs : s.size ≤ 1048576) :
    Calls Try.prog 14 #[.string s] w (ColPost s.data.toList w) := columns_big s w (by omega)

end Go.Proofs.Ytebidhdoiojaeaa
