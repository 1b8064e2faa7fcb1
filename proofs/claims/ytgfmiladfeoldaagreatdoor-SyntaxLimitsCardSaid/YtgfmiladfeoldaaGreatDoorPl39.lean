/- Joined texts of this claim's proof: SynX. -/
import Derived.Test.YtgfmiladfeoldaaGreatDoorPl30
import Derived.Test.YtgfmiladfeoldaaGreatDoorPl34
set_option linter.unusedSimpArgs false
set_option linter.unusedVariables false
namespace Go.Proofs.YtgfmiladfeoldaaGreatDoor
open LexP
mutual
def exWt : SynP.Ex → Nat
 | .num n => (SynP.decT n).length
 | .name x => x.length
 | .mat m => (SynP.matT m).length
 | .cpx l => (SynP.cpxT l).length
 | .neg a => exWt a
 | .turn a => exWt a
 | .add a b => exWt a + exWt b
 | .sub a b => exWt a + exWt b
 | .mul a b => exWt a + exWt b
 | .pow a n => exWt a + (SynP.decT n).length
 | .call x l => x.length + exsWt l
def exsWt : SynP.Exs → Nat
 | .nil => 0
 | .cons a l => exWt a + exsWt l
end
def lnWt : SynP.Ln → Nat
 | .nothing => 0
 | .lets x e => x.length + exWt e
 | .cmd x l => x.length + exsWt l
theorem par_len (b : Bool) (t : Bytes) : (SynP.par b t).length ≤ t.length + 2 := by
 unfold SynP.par
 split
 ·simp
 ·omega
mutual
theorem pr_len : ∀ e : SynP.Ex, e.pr.length + 2 ≤ exWt e + 10 * e.size
 | .num n => by simp only [SynP.Ex.pr, exWt, SynP.Ex.size]; omega
 | .name x => by simp only [SynP.Ex.pr, exWt, SynP.Ex.size]; omega
 | .mat m => by simp only [SynP.Ex.pr, exWt, SynP.Ex.size]; omega
 | .cpx l => by simp only [SynP.Ex.pr, exWt, SynP.Ex.size]; omega
 | .neg a => by
  have := pr_len a
  have := par_len (SynP.loose 4 0 a.op) a.pr
  simp only [SynP.Ex.pr, exWt, SynP.Ex.size, List.length_append, List.length_cons, List.length_nil]; omega
 | .turn a => by
  have := pr_len a
  have := par_len (SynP.loose 5 0 a.op) a.pr
  simp only [SynP.Ex.pr, exWt, SynP.Ex.size, List.length_append, List.length_cons, List.length_nil]; omega
 | .add a b => by
  have := pr_len a
  have := pr_len b
  have := par_len (SynP.loose 6 0 a.op) a.pr
  have := par_len (SynP.loose 6 1 b.op) b.pr
  simp only [SynP.Ex.pr, exWt, SynP.Ex.size, List.length_append, List.length_cons, List.length_nil]; omega
 | .sub a b => by
  have := pr_len a
  have := pr_len b
  have := par_len (SynP.loose 7 0 a.op) a.pr
  have := par_len (SynP.loose 7 1 b.op) b.pr
  simp only [SynP.Ex.pr, exWt, SynP.Ex.size, List.length_append, List.length_cons, List.length_nil]; omega
 | .mul a b => by
  have := pr_len a
  have := pr_len b
  have := par_len (SynP.loose 8 0 a.op) a.pr
  have := par_len (SynP.loose 8 1 b.op) b.pr
  simp only [SynP.Ex.pr, exWt, SynP.Ex.size, List.length_append, List.length_cons, List.length_nil]; omega
 | .pow a n => by
  have := pr_len a
  have := par_len (SynP.loose 9 0 a.op) a.pr
  simp only [SynP.Ex.pr, exWt, SynP.Ex.size, List.length_append, List.length_cons, List.length_nil]; omega
 | .call x l => by
  have := prs_len l
  simp only [SynP.Ex.pr, exWt, SynP.Ex.size, List.length_append, List.length_cons, List.length_nil]; omega
theorem prs_len : ∀ l : SynP.Exs, l.pr.length ≤ exsWt l + 10 * l.size
 | .nil => Nat.zero_le _
 | .cons a l => by
  have := pr_len a
  have := prt_len l
  simp only [SynP.Exs.pr, exsWt, SynP.Exs.size, List.length_append]; omega
theorem prt_len : ∀ l : SynP.Exs, l.prTail.length ≤ exsWt l + 10 * l.size
 | .nil => Nat.zero_le _
 | .cons a l => by
  have := pr_len a
  have := prt_len l
  simp only [SynP.Exs.prTail, exsWt, SynP.Exs.size, List.length_append, List.length_cons, List.length_nil]; omega
end
theorem ln_len : ∀ n : SynP.Ln, n.pr.length ≤ lnWt n + 10 * n.size
 | .nothing => Nat.zero_le _
 | .lets x e => by
  have := pr_len e
  simp only [SynP.Ln.pr, lnWt, SynP.Ln.size, List.length_append, List.length_cons, List.length_nil]; omega
 | .cmd x .nil => by simp only [SynP.Ln.pr, lnWt]; omega
 | .cmd x (.cons a l) => by
  have := prs_len (.cons a l)
  simp only [SynP.Ln.pr, lnWt, SynP.Ln.size, List.length_append, List.length_cons, List.length_nil] at *; omega
def txWt (l : List SynP.Node) : Nat := (l.map fun n => n.text.length).sum
theorem txWt_app (a b : List SynP.Node) : txWt (a ++ b) = txWt a + txWt b := by simp [txWt]
theorem txWt_one (n : SynP.Node) : txWt [n] = n.text.length := by simp [txWt]
mutual
theorem flat_wt : ∀ (e : SynP.Ex) (o : Nat), txWt (e.flat o) = exWt e
 | .num n, _ => by simp [SynP.Ex.flat, exWt, txWt]
 | .name x, _ => by simp [SynP.Ex.flat, exWt, txWt]
 | .mat m, _ => by simp [SynP.Ex.flat, exWt, txWt]
 | .cpx l, _ => by simp [SynP.Ex.flat, exWt, txWt]
 | .neg a, o => by simp [SynP.Ex.flat, exWt, txWt_app, txWt_one, flat_wt a]
 | .turn a, o => by simp [SynP.Ex.flat, exWt, txWt_app, txWt_one, flat_wt a]
 | .add a b, o => by simp [SynP.Ex.flat, exWt, txWt_app, txWt_one, flat_wt a, flat_wt b]
 | .sub a b, o => by simp [SynP.Ex.flat, exWt, txWt_app, txWt_one, flat_wt a, flat_wt b]
 | .mul a b, o => by simp [SynP.Ex.flat, exWt, txWt_app, txWt_one, flat_wt a, flat_wt b]
 | .pow a n, o => by simp [SynP.Ex.flat, exWt, txWt_app, txWt_one, flat_wt a]
 | .call x l, o => by simp [SynP.Ex.flat, exWt, txWt_app, txWt_one, flats_wt l]; omega
theorem flats_wt : ∀ (l : SynP.Exs) (o : Nat), txWt (l.flat o) = exsWt l
 | .nil, _ => rfl
 | .cons a l, o => by simp [SynP.Exs.flat, exsWt, txWt_app, flat_wt a, flats_wt l]
end
theorem ln_wt : ∀ n : SynP.Ln, txWt n.flat = lnWt n
 | .nothing => rfl
 | .lets x e => by simp [SynP.Ln.flat, lnWt, txWt_app, txWt_one, flat_wt]; omega
 | .cmd x l => by simp [SynP.Ln.flat, lnWt, txWt_app, txWt_one, flats_wt]; omega
theorem number_lb1 {fin : Nat} {s s' : SynP.St} {n : Nat} (h : SynP.number fin s = some (.ok (n, s'))) : Lb s' + 1 ≤ Lb s := by
 unfold SynP.number at h
 split at h
 ·rename_i hk
  have e := SynP.ret_ok h
  injection e with e1 e2
  subst e1 e2
  unfold Lb SynP.St.adv
  cases hts : s.ts with
  | nil => rw [hts] at hk; cases hk
  | cons t l =>
   show (l.map fun t => t.2.1.length + 1).sum + 1 ≤ ((t :: l).map fun t => t.2.1.length + 1).sum
   rw [List.map_cons, List.sum_cons]
   omega
 ·cases h
theorem name_lb {fin : Nat} {s s' : SynP.St} {x : Bytes} (h : SynP.name fin s = some (.ok (x, s'))) : x.length + Lb s' ≤ Lb s := by
 unfold SynP.name at h
 split at h
 ·have e := SynP.ret_ok h
  injection e with e1 e2
  subst e1 e2
  unfold Lb SynP.St.adv SynP.headText
  cases s.ts with
  | nil => exact Nat.le_refl _
  | cons t l =>
   show t.2.1.length + (l.map fun t => t.2.1.length + 1).sum ≤ ((t :: l).map fun t => t.2.1.length + 1).sum
   rw [List.map_cons, List.sum_cons]
   omega
 ·cases h
def sumE (l : List (Bool × Nat)) : Nat := (l.map fun x => (SynP.decT x.2).length).sum
theorem sumE_snoc (l : List (Bool × Nat)) (x : Bool × Nat) : sumE (l ++ [x]) = sumE l + (SynP.decT x.2).length := by simp [sumE]
theorem entryRow_lb (fin : Nat) : ∀ (f n : Nat) (acc : List (Bool × Nat)) (s : SynP.St) (r : (Nat × List (Bool × Nat)) × SynP.St), SynP.entryRow fin f n acc s = some (.ok r) → sumE r.1.2 + Lb r.2 ≤ sumE acc + Lb s
 | 0, _, _, _, _, h => by cases h
 | f + 1, n, acc, s, r, h => by
  unfold SynP.entryRow at h
  split at h
  ·obtain ⟨m, s', h1, h2⟩ := SynP.bind_ok h
   have h3 := entryRow_lb fin f _ _ _ _ h2
   have h4 := number_lb h1
   have h5 : Lb (if SynP.isMark [45] s.ts then s.adv else s) ≤ Lb s := by
    split
    ·exact adv_lb s
    ·exact Nat.le_refl _
   rw [sumE_snoc] at h3
   simp only at h3
   omega
  ·rw [SynP.ret_ok h]; exact Nat.le_refl _
theorem entries_lb (fin : Nat) : ∀ (f : Nat) (acc : List (Bool × Nat)) (lens : List Nat) (s : SynP.St) (r : (List (Bool × Nat) × List Nat) × SynP.St), SynP.entries fin f acc lens s = some (.ok r) → sumE r.1.1 + Lb r.2 ≤ sumE acc + Lb s
 | 0, _, _, _, _, h => by cases h
 | f + 1, acc, lens, s, r, h => by
  unfold SynP.entries at h
  obtain ⟨x, s1, h1, h2⟩ := SynP.bind_ok h
  have k1 := entryRow_lb fin f _ _ _ _ h1
  split at h2
  ·rw [SynP.ret_ok h2]
   have := adv_lb s1
   try simp only at *
   omega
  ·obtain ⟨u, s2, h3, h4⟩ := SynP.bind_ok h2
   have := want_lb h3
   have := entries_lb fin f _ _ _ _ h4
   try simp only at *
   omega
theorem sumE_zero (n : Nat) : sumE (List.replicate n (false, 0)) = n := by
 unfold sumE
 rw [List.map_replicate]
 have : (SynP.decT 0).length = 1 := rfl
 simp [this]
theorem matrix_lb {fin f : Nat} {s : SynP.St} {r : SynP.MatV × SynP.St} (h : SynP.matrix fin f s = some (.ok r)) : sumE r.1.at_ + Lb r.2 ≤ Lb s + 4096 ∧ Lb r.2 ≤ Lb s := by
 have hok := SynP.matrix_ok h
 unfold SynP.matrix at h
 obtain ⟨u, s1, h1, h2⟩ := SynP.bind_ok h
 have k1 := want_lb h1
 split at h2
 ·unfold SynP.matShape at h2
  obtain ⟨a, s2, h3, h4⟩ := SynP.bind_ok h2
  obtain ⟨u, s3, h5, h6⟩ := SynP.bind_ok h4
  obtain ⟨b, s4, h7, h8⟩ := SynP.bind_ok h6
  obtain ⟨u, s5, h9, h10⟩ := SynP.bind_ok h8
  have := number_lb h3
  have := want_lb h5
  have := number_lb h7
  have := want_lb h9
  split at h10
  ·exact (SynP.fault_ok h10).elim
  ·have e := SynP.ret_ok h10
   subst e
   have hab : a * b ≤ 64 * 64 := Nat.mul_le_mul hok.1 hok.2.1
   show sumE (List.replicate (a * b) (false, 0)) + Lb s5 ≤ _ ∧ Lb s5 ≤ _
   rw [sumE_zero]
   omega
 ·obtain ⟨a, s2, h3, h4⟩ := SynP.bind_ok h2
  have k2 := entries_lb fin f _ _ _ _ h3
  have k0 : sumE [] = 0 := rfl
  unfold SynP.matDone at h4
  split at h4
  ·exact (SynP.fault_ok h4).elim
  ·split at h4
   ·exact (SynP.fault_ok h4).elim
   ·have e := SynP.ret_ok h4
    subst e
    simp only at k2 ⊢
    omega
theorem rows_len : ∀ R : List (List Bytes), ((R.map (SynP.joinB [32])).map List.length).sum ≤ (R.flatten.map List.length).sum + R.flatten.length
 | [] => Nat.zero_le _
 | a :: R => by
  have h1 := rows_len R
  have h2 := joinB_sum [32] a
  have h4 : ([32] : Bytes).length = 1 := rfl
  rw [h4, Nat.mul_one] at h2
  simp only [List.map_cons, List.sum_cons, List.flatten_cons, List.map_append, List.sum_append, List.length_append]
  omega
theorem ints_len : ∀ l : List (Bool × Nat), ((l.map SynP.intT).map List.length).sum ≤ sumE l + l.length
 | [] => Nat.zero_le _
 | x :: l => by
  have h1 := ints_len l
  have h2 : (SynP.intT x).length ≤ (SynP.decT x.2).length + 1 := by
   unfold SynP.intT
   rw [List.length_append]
   split <;> simp <;> omega
  have e1 : sumE (x :: l) = (SynP.decT x.2).length + sumE l := by simp [sumE]
  rw [e1, List.map_cons, List.map_cons, List.sum_cons, List.length_cons]
  omega
theorem small_dec {n : Nat} (h : n ≤ 64) : (SynP.decT n).length ≤ 2 := by
 unfold SynP.decT
 split
 ·simp
 ·rw [List.length_map]
  exact NatP.dg_len_le (by omega)
theorem matT_len {m : SynP.MatV} (h : SynP.MatOk m) : (SynP.matT m).length ≤ sumE m.at_ + 8400 := by
 unfold SynP.matT
 obtain ⟨h1, h2, h3, -⟩ := h
 split
 ·have := small_dec h1
  have := small_dec h2
  simp only [List.length_append, List.length_cons, List.length_nil]
  omega
 ·have hl : (m.at_.map SynP.intT).length = m.rows * m.cols := by rw [List.length_map, h3]
  obtain ⟨k1, k2⟩ := SynP.rowsOf_len m.cols m.rows _ hl
  have k3 := rows_len (SynP.rowsOf m.cols m.rows (m.at_.map SynP.intT))
  rw [k2, hl] at k3
  have k4 := ints_len m.at_
  have k5 := joinB_sum [59, 32] ((SynP.rowsOf m.cols m.rows (m.at_.map SynP.intT)).map (SynP.joinB [32]))
  have k6 : (SynP.rowsOf m.cols m.rows (m.at_.map SynP.intT)).length = m.rows := by
   have := congrArg List.length k1
   rw [List.length_map, List.length_replicate] at this
   exact this
  have h4 : ([59, 32] : Bytes).length = 2 := rfl
  rw [List.length_map, k6, h4] at k5
  have hab : m.rows * m.cols ≤ 64 * 64 := Nat.mul_le_mul h1 h2
  simp only [List.length_append, List.length_cons, List.length_nil]
  omega
def cA (x : List Nat) : Nat := (x.map fun n => (SynP.decT n).length + 1).sum
def cL (l : List (List Nat)) : Nat := (l.map fun x => cA x + 2).sum
theorem cA_snoc (x : List Nat) (n : Nat) : cA (x ++ [n]) = cA x + ((SynP.decT n).length + 1) := by simp [cA]
theorem cL_snoc (l : List (List Nat)) (x : List Nat) : cL (l ++ [x]) = cL l + (cA x + 2) := by simp [cL]
theorem simplex_c (fin : Nat) : ∀ (f : Nat) (acc : List Nat) (s : SynP.St) (r : List Nat × SynP.St), SynP.simplex fin f acc s = some (.ok r) → cA r.1 + 4 * Lb r.2 ≤ cA acc + 4 * Lb s
 | 0, _, _, _, h => by cases h
 | f + 1, acc, s, r, h => by
  unfold SynP.simplex at h
  split at h
  ·obtain ⟨m, s', h1, h2⟩ := SynP.bind_ok h
   have h3 := simplex_c fin f _ _ _ h2
   have h4 := number_lb h1
   have h5 := number_lb1 h1
   rw [cA_snoc] at h3
   omega
  ·rw [SynP.ret_ok h]; exact Nat.le_refl _
theorem cpxLoop_c (fin : Nat) : ∀ (f : Nat) (acc : List (List Nat)) (s : SynP.St) (r : List (List Nat) × SynP.St), SynP.cpxLoop fin f acc s = some (.ok r) → cL r.1 + 4 * Lb r.2 ≤ cL acc + 4 * Lb s
 | 0, _, _, _, h => by cases h
 | f + 1, acc, s, r, h => by
  unfold SynP.cpxLoop at h
  obtain ⟨n, s1, h1, h2⟩ := SynP.bind_ok h
  obtain ⟨x, s2, h3, h4⟩ := SynP.bind_ok h2
  have k1 := number_lb h1
  have k2 := number_lb1 h1
  have k3 := simplex_c fin f _ _ _ h3
  have kn : cA [n] = (SynP.decT n).length + 1 := by simp [cA]
  rw [kn] at k3
  split at h4
  ·rw [SynP.ret_ok h4]
   have k5 := adv_lb s2
   try simp only [cL_snoc] at *
   omega
  ·obtain ⟨u, s3, h5, h6⟩ := SynP.bind_ok h4
   have k5 := want_lb h5
   have k6 := cpxLoop_c fin f _ _ _ h6
   rw [cL_snoc] at k6
   try simp only at *
   omega
theorem cA_eq : ∀ a : List Nat, cA a = sum1 a + a.length
 | [] => rfl
 | x :: a => by
  have h1 := cA_eq a
  have e1 : cA (x :: a) = (SynP.decT x).length + 1 + cA a := by simp [cA]
  have e2 : sum1 (x :: a) = (SynP.decT x).length + sum1 a := by simp [sum1]
  rw [e1, e2, List.length_cons]
  omega
theorem cpxT_len : ∀ l : List (List Nat), (SynP.cpxT l).length ≤ cL l + 2 := by
 intro l
 have h2 := joinB_sum [44, 32] (l.map simT)
 have h4 : ([44, 32] : Bytes).length = 2 := rfl
 rw [List.length_map, h4] at h2
 have h3 : ∀ l : List (List Nat), ((l.map simT).map List.length).sum + l.length * 2 ≤ cL l := by
  intro l
  induction l with
  | nil => exact Nat.le_refl _
  | cons a l ih =>
   have k := sim_len a
   have e1 : cL (a :: l) = cA a + 2 + cL l := by simp [cL]
   have e2 := cA_eq a
   rw [e1, List.map_cons, List.map_cons, List.sum_cons, List.length_cons]
   omega
 have h5 := h3 l
 show ([123] ++ SynP.joinB [44, 32] (l.map simT) ++ [125] : Bytes).length ≤ _
 simp only [List.length_append, List.length_cons, List.length_nil]
 omega
theorem complex_c {fin f : Nat} {s : SynP.St} {r : List (List Nat) × SynP.St} (h : SynP.complex fin f s = some (.ok r)) : (SynP.cpxT r.1).length + 4 * Lb r.2 ≤ 4 * Lb s + 2 := by
 have h0 := cpxT_len r.1
 unfold SynP.complex at h
 obtain ⟨u, s1, h1, h2⟩ := SynP.bind_ok h
 have k1 := want_lb h1
 have k0 : cL [] = 0 := rfl
 split at h2
 ·have e := SynP.ret_ok h2
  subst e
  have := adv_lb s1
  try simp only [k0] at *
  omega
 ·have := cpxLoop_c fin f _ _ _ h2
  omega
theorem openB_lb {fin : Nat} {s s' : SynP.St} {u : Unit} (h : SynP.openB fin s = some (.ok (u, s'))) : Lb s' ≤ Lb s := by
 unfold SynP.openB at h
 split at h
 ·exact (SynP.fault_ok h).elim
 ·have e := SynP.ret_ok h
  injection e with e1 e2
  subst e2
  exact adv_lb s
theorem closeB_lb {fin : Nat} {s s' : SynP.St} {u : Unit} (h : SynP.closeB fin s = some (.ok (u, s'))) : Lb s' ≤ Lb s := by
 unfold SynP.closeB at h
 obtain ⟨v, s1, h1, h2⟩ := SynP.bind_ok h
 have e := SynP.ret_ok h2
 injection e with e1 e2
 subst e2
 exact (want_lb h1 : Lb s1 ≤ Lb s)
theorem minuses_lb : ∀ (f n : Nat) (s : SynP.St) (r : Nat × SynP.St), SynP.minuses f n s = some (.ok r) → Lb r.2 ≤ Lb s
 | 0, _, _, _, h => by cases h
 | f + 1, n, s, r, h => by
  unfold SynP.minuses at h
  split at h
  ·exact Nat.le_trans (minuses_lb f _ _ _ h) (adv_lb s)
  ·rw [SynP.ret_ok h]; exact Nat.le_refl _
theorem negs_wt : ∀ (n : Nat) (k : SynP.Ex), exWt (SynP.negs n k) = exWt k ∧ k.size ≤ (SynP.negs n k).size
 | 0, k => ⟨rfl, Nat.le_refl _⟩
 | n + 1, k => by
  obtain ⟨h1, h2⟩ := negs_wt n (.neg k)
  have e : (SynP.Ex.neg k).size = k.size + 1 := rfl
  rw [e] at h2
  exact ⟨h1, by show k.size ≤ (SynP.negs n (.neg k)).size; omega⟩
theorem snoc_wt : ∀ (l : SynP.Exs) (e : SynP.Ex), exsWt (l.snoc e) = exsWt l + exWt e ∧ (l.snoc e).size = l.size + e.size
 | .nil, e => by simp [SynP.Exs.snoc, exsWt, SynP.Exs.size]
 | .cons a l, e => by
  obtain ⟨h1, h2⟩ := snoc_wt l e
  show exWt a + exsWt (l.snoc e) = exWt a + exsWt l + exWt e ∧ a.size + (l.snoc e).size = a.size + l.size + e.size
  omega
def Pays (k : Nat) (z : Nat) (s : SynP.St) (r : SynP.Ex × SynP.St) : Prop := exWt r.1 + 4 * Lb r.2 + 12500 * z ≤ k + 4 * Lb s + 12500 * r.1.size
def PaysL (k : Nat) (z : Nat) (s : SynP.St) (r : SynP.Exs × SynP.St) : Prop := exsWt r.1 + 4 * Lb r.2 + 12500 * z ≤ k + 4 * Lb s + 12500 * r.1.size
theorem turns_pay : ∀ (f : Nat) (k : SynP.Ex) (s : SynP.St) (r : SynP.Ex × SynP.St), SynP.turns f k s = some (.ok r) → Pays (exWt k) k.size s r
 | 0, _, _, _, h => by cases h
 | f + 1, k, s, r, h => by
  unfold SynP.turns at h
  split at h
  ·have h1 := turns_pay f _ _ _ h
   have h2 := adv_lb s
   have e : (SynP.Ex.turn k).size = k.size + 1 := rfl
   have e2 : exWt (SynP.Ex.turn k) = exWt k := by simp only [exWt]
   unfold Pays at *
   omega
  ·rw [SynP.ret_ok h]; exact Nat.le_refl _
structure AllPay (fin f : Nat) : Prop where
 ex : ∀ s r, SynP.expr fin f s = some (.ok r) → Pays 0 0 s r
 exl : ∀ k s r, SynP.exprLoop fin f k s = some (.ok r) → Pays (exWt k) k.size s r
 te : ∀ s r, SynP.term fin f s = some (.ok r) → Pays 0 0 s r
 tel : ∀ k s r, SynP.termLoop fin f k s = some (.ok r) → Pays (exWt k) k.size s r
 fa : ∀ s r, SynP.factor fin f s = some (.ok r) → Pays 0 0 s r
 po : ∀ s r, SynP.post fin f s = some (.ok r) → Pays 0 0 s r
 at_ : ∀ s r, SynP.atom fin f s = some (.ok r) → Pays 0 0 s r
 pa : ∀ s r, SynP.parts fin f s = some (.ok r) → PaysL 0 0 s r
 pal : ∀ k s r, SynP.partsLoop fin f k s = some (.ok r) → PaysL (exsWt k) k.size s r
theorem all_pay (fin : Nat) : ∀ f, AllPay fin f
 | 0 => by
  constructor
  ·intro s r h; rw [SynP.expr] at h; cases h
  ·intro k s r h; rw [SynP.exprLoop] at h; cases h
  ·intro s r h; rw [SynP.term] at h; cases h
  ·intro k s r h; rw [SynP.termLoop] at h; cases h
  ·intro s r h; rw [SynP.factor] at h; cases h
  ·intro s r h; rw [SynP.post] at h; cases h
  ·intro s r h; rw [SynP.atom] at h; cases h
  ·intro s r h; rw [SynP.parts] at h; cases h
  ·intro k s r h; rw [SynP.partsLoop] at h; cases h
 | f + 1 => by
  have ih := all_pay fin f
  constructor
  ·intro s r h
   rw [SynP.expr] at h
   obtain ⟨k, s1, h1, h2⟩ := SynP.bind_ok h
   have a1 := ih.te _ _ h1
   have a2 := ih.exl _ _ _ h2
   unfold Pays at *
   try simp only at *
   omega
  ·intro k s r h
   rw [SynP.exprLoop] at h
   split at h
   ·obtain ⟨t, s1, h1, h2⟩ := SynP.bind_ok h
    have a0 := adv_lb s
    have a1 := ih.te _ _ h1
    have a2 := ih.exl _ _ _ h2
    have e : (SynP.Ex.add k t).size = k.size + t.size + 1 := rfl
    have e2 : exWt (SynP.Ex.add k t) = exWt k + exWt t := by simp only [exWt]
    unfold Pays at *
    try simp only at *
    omega
   ·split at h
    ·obtain ⟨t, s1, h1, h2⟩ := SynP.bind_ok h
     have a0 := adv_lb s
     have a1 := ih.te _ _ h1
     have a2 := ih.exl _ _ _ h2
     have e : (SynP.Ex.sub k t).size = k.size + t.size + 1 := rfl
     have e2 : exWt (SynP.Ex.sub k t) = exWt k + exWt t := by simp only [exWt]
     unfold Pays at *
     try simp only at *
     omega
    ·rw [SynP.ret_ok h]; exact Nat.le_refl _
  ·intro s r h
   rw [SynP.term] at h
   obtain ⟨k, s1, h1, h2⟩ := SynP.bind_ok h
   have a1 := ih.fa _ _ h1
   have a2 := ih.tel _ _ _ h2
   unfold Pays at *
   try simp only at *
   omega
  ·intro k s r h
   rw [SynP.termLoop] at h
   split at h
   ·obtain ⟨t, s1, h1, h2⟩ := SynP.bind_ok h
    have a0 := adv_lb s
    have a1 := ih.fa _ _ h1
    have a2 := ih.tel _ _ _ h2
    have e : (SynP.Ex.mul k t).size = k.size + t.size + 1 := rfl
    have e2 : exWt (SynP.Ex.mul k t) = exWt k + exWt t := by simp only [exWt]
    unfold Pays at *
    try simp only at *
    omega
   ·rw [SynP.ret_ok h]; exact Nat.le_refl _
  ·intro s r h
   rw [SynP.factor] at h
   obtain ⟨n, s1, h1, h2⟩ := SynP.bind_ok h
   obtain ⟨k, s2, h3, h4⟩ := SynP.bind_ok h2
   have a0 := minuses_lb _ _ _ _ h1
   have a1 := ih.po _ _ h3
   split at h4
   ·obtain ⟨m, s3, h5, h6⟩ := SynP.bind_ok h4
    have a5 := number_lb h5
    have a6 := adv_lb s2
    rw [SynP.ret_ok h6]
    obtain ⟨b1, b2⟩ := negs_wt n (.pow k m)
    have e : (SynP.Ex.pow k m).size = k.size + 1 := rfl
    have e2 : exWt (SynP.Ex.pow k m) = exWt k + (SynP.decT m).length := by simp only [exWt]
    rw [e2] at b1
    rw [e] at b2
    unfold Pays at *
    try simp only at *
    omega
   ·rw [SynP.ret_ok h4]
    obtain ⟨b1, b2⟩ := negs_wt n k
    unfold Pays at *
    try simp only at *
    omega
  ·intro s r h
   rw [SynP.post] at h
   obtain ⟨k, s1, h1, h2⟩ := SynP.bind_ok h
   have a1 := ih.at_ _ _ h1
   have a2 := turns_pay _ _ _ _ h2
   unfold Pays at *
   try simp only at *
   omega
  ·intro s r h
   rw [SynP.atom] at h
   split at h
   ·obtain ⟨n, s1, h1, h2⟩ := SynP.bind_ok h
    rw [SynP.ret_ok h2]
    have := number_lb h1
    unfold Pays
    simp only [exWt, SynP.Ex.size]
    omega
   ·split at h
    ·obtain ⟨x, s1, h1, h2⟩ := SynP.bind_ok h
     obtain ⟨u, s2, h3, h4⟩ := SynP.bind_ok h2
     obtain ⟨ks, s3, h5, h6⟩ := SynP.bind_ok h4
     obtain ⟨u, s4, h7, h8⟩ := SynP.bind_ok h6
     rw [SynP.ret_ok h8]
     have a1 := name_lb h1
     have a2 := openB_lb h3
     have a3 := ih.pa _ _ h5
     have a4 := closeB_lb h7
     unfold PaysL at a3
     unfold Pays
     simp only [exWt, SynP.Ex.size] at *
     omega
    ·split at h
     ·obtain ⟨x, s1, h1, h2⟩ := SynP.bind_ok h
      rw [SynP.ret_ok h2]
      have := name_lb h1
      unfold Pays
      simp only [exWt, SynP.Ex.size]
      omega
     ·split at h
      ·obtain ⟨u, s2, h3, h4⟩ := SynP.bind_ok h
       obtain ⟨e, s3, h5, h6⟩ := SynP.bind_ok h4
       obtain ⟨u, s4, h7, h8⟩ := SynP.bind_ok h6
       rw [SynP.ret_ok h8]
       have a2 := openB_lb h3
       have a3 := ih.ex _ _ h5
       have a4 := closeB_lb h7
       unfold Pays at *
       try simp only at *
       omega
      ·split at h
       ·obtain ⟨m, s1, h1, h2⟩ := SynP.bind_ok h
        rw [SynP.ret_ok h2]
        have a1 := matrix_lb h1
        have a2 := matT_len (SynP.matrix_ok h1)
        unfold Pays
        simp only [exWt, SynP.Ex.size] at *
        omega
       ·split at h
        ·obtain ⟨m, s1, h1, h2⟩ := SynP.bind_ok h
         rw [SynP.ret_ok h2]
         have a1 := complex_c h1
         unfold Pays
         simp only [exWt, SynP.Ex.size] at *
         omega
        ·exact (SynP.fault_ok h).elim
  ·intro s r h
   rw [SynP.parts] at h
   obtain ⟨k, s1, h1, h2⟩ := SynP.bind_ok h
   have a1 := ih.ex _ _ h1
   have a2 := ih.pal _ _ _ h2
   unfold PaysL Pays at *
   simp only [exsWt, SynP.Exs.size] at *
   omega
  ·intro k s r h
   rw [SynP.partsLoop] at h
   split at h
   ·obtain ⟨t, s1, h1, h2⟩ := SynP.bind_ok h
    have a0 := adv_lb s
    have a1 := ih.ex _ _ h1
    have a2 := ih.pal _ _ _ h2
    obtain ⟨e1, e2⟩ := snoc_wt k t
    unfold PaysL Pays at *
    rw [e1, e2] at a2
    try simp only at *
    omega
   ·rw [SynP.ret_ok h]; exact Nat.le_refl _
theorem line_pay {fin f : Nat} {s : SynP.St} {r : SynP.Ln × SynP.St} (h : SynP.line fin f s = some (.ok r)) : lnWt r.1 ≤ 4 * Lb s + 12500 * r.1.size := by
 unfold SynP.line at h
 split at h
 ·rw [SynP.ret_ok h]; exact Nat.zero_le _
 ·split at h
  ·obtain ⟨x, s1, h1, h2⟩ := SynP.bind_ok h
   obtain ⟨u, s2, h3, h4⟩ := SynP.bind_ok h2
   obtain ⟨e, s3, h5, h6⟩ := SynP.bind_ok h4
   rw [SynP.done_ok h6]
   have a0 := adv_lb s
   have a1 := name_lb h1
   have a2 := want_lb h3
   have a3 := (all_pay fin f).ex _ _ h5
   unfold Pays at a3
   simp only [lnWt, SynP.Ln.size] at *
   omega
  ·obtain ⟨x, s1, h1, h2⟩ := SynP.bind_ok h
   have a1 := name_lb h1
   split at h2
   ·rw [SynP.done_ok h2]
    simp only [lnWt, exsWt] at *
    omega
   ·obtain ⟨ks, s3, h5, h6⟩ := SynP.bind_ok h2
    rw [SynP.done_ok h6]
    have a3 := (all_pay fin f).pa _ _ h5
    unfold PaysL at a3
    simp only [lnWt, SynP.Ln.size] at *
    omega
end Go.Proofs.YtgfmiladfeoldaaGreatDoor
