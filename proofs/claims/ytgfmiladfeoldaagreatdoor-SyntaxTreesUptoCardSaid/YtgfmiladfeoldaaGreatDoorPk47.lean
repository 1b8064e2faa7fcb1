/- Joined texts of this claim's proof: WtI, LwB. -/
import Derived.Test.YtgfmiladfeoldaaGreatDoorPk43
import Derived.Test.YtgfmiladfeoldaaGreatDoorPk46
set_option linter.unusedSimpArgs false
set_option linter.unusedVariables false
namespace Go.Proofs.YtgfmiladfeoldaaGreatDoor
open Go.RowKit NatP LexP
def PrPost (n : SynP.Ln) (w : World) (e : Ending) (w' : World) : Prop :=
 (if 100 < n.dp then e = .returned (.tuple #[.string .empty, .int .i64 5]) else e = .returned (.tuple #[.string ⟨n.pr.toArray⟩, .int .i64 0])) ∧ Below w.heap.size w w'
theorem WrS.new (w : World) (tv : Value) : WrS (w.alloc (.cells #[tv, .pointer none, .slice none 0 0, .int .i64 0, .int .i64 0] 92)) w.heap.size tv (.slice none 0 0) [] 0 0 :=
 ⟨⟨.pointer none, .inl rfl, heap_alloc_new _ _⟩, ⟨rfl, .inl ⟨rfl, rfl⟩⟩, Nat.le_refl _⟩
set_option maxRecDepth 100000 in
set_option maxHeartbeats 2000000 in
theorem print_good (n : SynP.Ln) (v : Value) (w : World) (B : Nat) (hf : LnFit n) (hv : NdL w B v (SynP.nL n.flat)) (hB : B ≤ w.heap.size) (hx : Lx w) (hs : SG w) (hsz : 4 < w.heap.size) :
  Calls Tryz.prog 14 #[v] w (PrPost n w) := by
 have hlen : (SynP.nL n.flat).length = n.size := by rw [SynP.nL, List.length_map, ln_size]
 have hm4 := hf.size
 have hm0 : 0 < n.size := by cases n <;> simp [SynP.Ln.size]
 have HC := Lib.hid (grown_any v (SynP.nL n.flat) w B (by rw [hlen]; exact hm4) hf.txt hv hB hx hs hsz)
 have HG := Lib.hid (fit_grown hf.wf)
 have HV := Lib.hid hv
 have HF := Lib.hid hf
 have HL := Lib.hid hlen
 obtain ⟨ao, cap, rfl, -⟩ := hv
 rw [hlen] at HC HV ⊢
 rw [hlen] at HG
 obtain ⟨m, hmm⟩ : ∃ m, m = n.size := ⟨_, rfl⟩
 rw [← hmm] at hm4 hm0 HC HV HG HL ⊢
 have HMM := Lib.hid hmm
 have hm1 : ((m : Nat) : Int) - 1 = ((m - 1 : Nat) : Int) := by omega
 have HM1 := Lib.hid hm1
 clear hmm hf hx hs hlen hm1
 go_enter Tryz.func14, Tryz.ntmps14
 go_wp2_with fail
 refine HC.out.mono ?_
 rintro e w1 ⟨rfl, hb⟩
 rw [HG.out]
 have HB1 := Lib.hid hb
 have hz1 := hb.size
 clear hb
 go_wp2_with fail
 trace_state
 obtain ⟨w2, hw2⟩ : ∃ w2, w2 = w1.alloc (.cells #[.slice ao m cap, .pointer none, .slice none 0 0, .int .i64 0, .int .i64 0] 92) := ⟨_, rfl⟩
 have HW2 : Hid (WrS w2 w1.heap.size (.slice ao m cap) (.slice none 0 0) [] 0 0) := by show WrS _ _ _ _ _ _ _; rw [hw2]; exact WrS.new _ _
 have HBB : Hid (Below w1.heap.size w1 w2) := by show Below _ _ _; rw [hw2]; exact below_alloc _ _
 rw [← hw2, HM1.out]
 clear hw2
 obtain ⟨R, hR⟩ : ∃ R, R = w1.heap.size := ⟨_, rfl⟩
 rw [← hR] at HW2 HBB hz1 ⊢
 have HR := Lib.hid hR
 clear hR
 have HND : Hid (NdL w2 R (.slice ao m cap) (SynP.nL n.flat)) := (HV.out.up (HB1.out.mono hB) (by omega)).below HBB.out
 rw [HMM.out]
 refine (ln_all n (SynP.nL n.flat) R (.slice ao m cap) (.slice none 0 0) [] 0 0 w2 HW2.out HND.out (SynP.SegN.all _) (by have := HF.out.prl; simp; omega) (by have := HMM.out; omega)).mono ?_
 rintro e w3 ⟨rfl, bv, a1, a2, -⟩
 have HA1 := Lib.hid a1
 have HB3 : Hid (Below w.heap.size w w3) := by
  refine Wr.belowR (R := R) a2 ?_ hz1
  exact HB1.out.trans (HBB.out.mono hz1)
 obtain ⟨-, -, c4⟩ := a1.cells
 have hmx : max 0 (0 + n.dp) = n.dp := by omega
 rw [hmx] at c4
 clear a1 a2 hmx
 by_cases hd : 100 < n.dp
 ·have hd2 : decide ((100 : Int) < (n.dp : Nat)) = true := decide_eq_true (by omega)
  have HD := Lib.hid hd
  clear hd
  go_wp2_with fail
  go_ret2
  unfold PrPost
  rw [if_pos HD.out]
  exact ⟨rfl, HB3.out⟩
 ·have hd2 : decide ((100 : Int) < (n.dp : Nat)) = false := decide_eq_false (by omega)
  have HD := Lib.hid hd
  clear hd
  go_wp2_with fail
  refine (bld_string R (.slice ao m cap) bv _ _ _ w3 HA1.out).mono ?_
  rintro e w4 ⟨rfl, hb4⟩
  have HB4 := Lib.hid (HB3.out.trans (hb4.mono hz1))
  clear hb4
  go_wp2_with fail
  go_ret2
  unfold PrPost
  rw [if_neg HD.out]
  exact ⟨rfl, HB4.out⟩
set_option maxRecDepth 100000 in
set_option maxHeartbeats 2000000 in
theorem print_big (l : List SynP.NI) (ao : Option Addr) (cap : Nat) (w : World) (h : 4096 < l.length) (hc : l.length ≤ 9223372036854775807) :
  Calls Tryz.prog 14 #[.slice ao l.length cap] w fun e w' => e = .returned (.tuple #[.string .empty, .int .i64 5]) ∧ w = w' := by
 obtain ⟨m, hm⟩ : ∃ m, m = l.length := ⟨_, rfl⟩
 rw [← hm] at h hc ⊢
 clear hm
 go_enter Tryz.func14, Tryz.ntmps14
 go_wp2_with fail
 go_ret2
 exact ⟨rfl, rfl⟩
set_option maxRecDepth 100000 in
set_option maxHeartbeats 2000000 in
theorem print_bad (l : List SynP.NI) (v : Value) (w : World) (B : Nat) (h : l.length ≤ 4096) (hg : SynP.grownL SynP.WV l.length 0 [] l = false) (ht : ∀ x ∈ l, x.text.length ≤ 67108864) (hv : NdL w B v l) (hB : B ≤ w.heap.size) (hx : Lx w) (hs : SG w) (hsz : 4 < w.heap.size) :
  Calls Tryz.prog 14 #[v] w fun e w' => e = .returned (.tuple #[.string .empty, .int .i64 10]) ∧ Below w.heap.size w w' := by
 have HC := Lib.hid (grown_any v l w B h ht hv hB hx hs hsz)
 have HG := Lib.hid hg
 obtain ⟨ao, cap, rfl, -⟩ := hv
 obtain ⟨m, hm⟩ : ∃ m, m = l.length := ⟨_, rfl⟩
 rw [← hm] at h HC HG ⊢
 clear hm hg ht hx hs
 go_enter Tryz.func14, Tryz.ntmps14
 go_wp2_with fail
 refine HC.out.mono ?_
 rintro e w1 ⟨rfl, hb⟩
 rw [HG.out]
 have HB1 := Lib.hid hb
 clear hb
 go_wp2_with fail
 go_ret2
 exact ⟨rfl, HB1.out⟩
end Go.Proofs.YtgfmiladfeoldaaGreatDoor
namespace Go.Proofs.YtgfmiladfeoldaaGreatDoor
open Go.RowKit NatP LexP
set_option maxRecDepth 100000 in
set_option maxHeartbeats 1000000 in
theorem small_any (x : Int) (hx : -9223372036854775808 ≤ x ∧ x ≤ 9223372036854775807) (w : World) :
  Calls Tryz.prog 17 #[.int .i64 x, .int .i64 12] w fun e w' => (∃ k : Nat, k ≤ 12 ∧ e = .returned (.int .i64 (k : Nat))) ∧ w = w' := by
 have hb : -12 ≤ x.tmod 13 ∧ x.tmod 13 ≤ 12 := by
  have h1 := Int.tmod_lt_of_pos x (show (0 : Int) < 13 by decide)
  have h2 := Int.lt_tmod_of_pos x (show (0 : Int) < 13 by decide)
  omega
 by_cases h : x.tmod 13 < 0
 ·have hd : decide (x.tmod 13 < 0) = true := decide_eq_true h
  go_enter Tryz.func17, Tryz.ntmps17
  go_wp2_with fail
  go_ret
  exact ⟨⟨(-x.tmod 13).toNat, by omega, by rw [show (((-x.tmod 13).toNat : Nat) : Int) = -x.tmod 13 by omega]; rfl⟩, rfl⟩
 ·have hd : decide (x.tmod 13 < 0) = false := decide_eq_false h
  go_enter Tryz.func17, Tryz.ntmps17
  go_wp2_with fail
  go_ret
  exact ⟨⟨(x.tmod 13).toNat, by omega, by rw [show (((x.tmod 13).toNat : Nat) : Int) = x.tmod 13 by omega]; rfl⟩, rfl⟩
def BkRel (n : Nat) (w : World) (s i : Value) (wr : World) : Prop :=
 ∃ (k : Nat) (r : ByteArray), k ≤ n ∧ i = .int .i64 (k : Nat) ∧ s = .string r ∧ Hid (Pad r.data.toList k) ∧ r.size ≤ 2 * k ∧ wr = w
theorem bk_step {n : Nat} {w : World} {k : Nat} {r s : ByteArray} (hk : k < n) (hp : Hid (Pad r.data.toList k)) (hz : r.size ≤ 2 * k)
  (hs : s.data.toList = if k % 3 = 0 then [32] else if k % 3 = 1 then [9] else [194, 160]) : BkRel n w (.string (r ++ s)) (.int .i64 ((k : Int) + 1)) w := by
 refine ⟨k + 1, r ++ s, by omega, by go_num, rfl, ?_, ?_, rfl⟩
 ·show Pad _ _
  have := pad_mod hp.out
  rw [← hs] at this
  simpa using this
 ·have : s.size ≤ 2 := by rw [Lib.size_eq, hs]; (repeat' split) <;> decide
  rw [ByteArray.size_append]; omega
set_option maxRecDepth 100000 in
set_option maxHeartbeats 1000000 in
theorem pads_any (n : Nat) (hn : n ≤ 12) (w : World) :
  Calls Tryz.prog 18 #[.int .i64 (n : Nat)] w fun e w' => (∃ r : ByteArray, e = .returned (.string r) ∧ Hid (Pad r.data.toList n) ∧ r.size ≤ 24) ∧ w = w' := by
 go_enter Tryz.func18, Tryz.ntmps18
 go_wp2_with fail
 trace_state
 go_loopw [3, 4] (fun s i wr => BkRel n w s i wr) (fun _ i _ => n - (intOf i).toNat)
 case atStart => exact ⟨0, .empty, Nat.zero_le _, rfl, rfl, Pad.nil, Nat.zero_le _, rfl⟩
 case round =>
  obtain ⟨k, r, hk, rfl, rfl, hp, hz, rfl⟩ := hrel
  by_cases hlt : k < n
  ·have hm : k % 3 = 0 ∨ k % 3 = 1 ∨ k % 3 = 2 := by omega
   have hq : ∀ q : Nat, k % 3 = q → ((k : Nat) : Int).tmod 3 = (q : Nat) := fun q h => by rw [Int.tmod_eq_emod_of_nonneg (by omega)]; omega
   rcases hm with h | h | h
   ·have hrem : ((k : Nat) : Int).tmod 3 = 0 := hq 0 h
    have HH := Lib.hid h
    clear h hq
    go_wp2_with fail
    have hfin := bk_step (n := n) (w := wr) (s := ⟨#[32]⟩) hlt hp hz (by rw [if_pos HH.out])
    first | exact ⟨hfin, by simp [intOf]; omega⟩ | exact ⟨by (repeat apply Exists.intro); first | exact ⟨hfin, rfl⟩ | exact ⟨hfin, trivial⟩, by simp [intOf]; omega⟩
   ·have hrem : ((k : Nat) : Int).tmod 3 = 1 := hq 1 h
    have HH := Lib.hid h
    clear h hq
    go_wp2_with fail
    have hfin := bk_step (n := n) (w := wr) (s := ⟨#[9]⟩) hlt hp hz (by rw [if_neg (by have := HH.out; omega), if_pos HH.out])
    first | exact ⟨hfin, by simp [intOf]; omega⟩ | exact ⟨by (repeat apply Exists.intro); first | exact ⟨hfin, rfl⟩ | exact ⟨hfin, trivial⟩, by simp [intOf]; omega⟩
   ·have hrem : ((k : Nat) : Int).tmod 3 = 2 := hq 2 h
    have HH := Lib.hid h
    clear h hq
    go_wp2_with fail
    have hfin := bk_step (n := n) (w := wr) (s := ⟨#[194, 160]⟩) hlt hp hz (by rw [if_neg (by have := HH.out; omega), if_neg (by have := HH.out; omega)])
    first | exact ⟨hfin, by simp [intOf]; omega⟩ | exact ⟨by (repeat apply Exists.intro); first | exact ⟨hfin, rfl⟩ | exact ⟨hfin, trivial⟩, by simp [intOf]; omega⟩
  ·obtain rfl : k = n := by omega
   go_wp2_with fail
   go_ret
   exact ⟨⟨r, rfl, hp, by omega⟩, rfl⟩
end Go.Proofs.YtgfmiladfeoldaaGreatDoor
