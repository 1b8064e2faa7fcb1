/- Joined texts of this claim's proof: SynE, SynN, SynS, SynW. -/
import Derived.Test.YtgfmiladfeoldaaGreatDoorPl28
import Derived.Test.YtgfmiladfeoldaaGreatDoorPl33
import Derived.Test.YtgfmiladfeoldaaGreatDoorPl26
import Derived.Test.YtgfmiladfeoldaaGreatDoorPl4
import Derived.Test.YtgfmiladfeoldaaGreatDoorPl17
import Derived.Test.YtgfmiladfeoldaaGreatDoorPl24
set_option linter.unusedSimpArgs false
set_option linter.unusedVariables false
namespace SynP
open LexP
def Sfx (s s' : St) : Prop := s'.opened = s.opened ∧ ∃ k, s'.ts = s.ts.drop k
theorem Sfx.refl (s : St) : Sfx s s := ⟨rfl, 0, rfl⟩
theorem Sfx.trans {a b c : St} (h : Sfx a b) (k : Sfx b c) : Sfx a c := ⟨k.1.trans h.1, by
 obtain ⟨i, hi⟩ := h.2
 obtain ⟨j, hj⟩ := k.2
 exact ⟨i + j, by rw [hj, hi, List.drop_drop]⟩⟩
theorem Sfx.adv (s : St) : Sfx s s.adv := ⟨rfl, 1, by show s.ts.tail = _; cases s.ts <;> rfl⟩
theorem want_sfx {fin : Nat} {x : Bytes} {s : St} {r : Unit × St} (h : want fin x s = some (.ok r)) : Sfx s r.2 := by
 unfold want at h
 split at h
 ·rw [ret_ok h]; exact Sfx.adv s
 ·unfold unfit at h; exact (fault_ok h).elim
theorem number_sfx {fin : Nat} {s : St} {r : Nat × St} (h : number fin s = some (.ok r)) : Sfx s r.2 := by
 unfold number at h
 split at h
 ·rw [ret_ok h]; exact Sfx.adv s
 ·unfold unfit at h; exact (fault_ok h).elim
theorem entryRow_sfx (fin : Nat) : ∀ (f n : Nat) (acc : List (Bool × Nat)) (s : St) (r : (Nat × List (Bool × Nat)) × St), entryRow fin f n acc s = some (.ok r) → Sfx s r.2
 | 0, _, _, _, _, h => by cases h
 | f + 1, n, acc, s, r, h => by
  unfold entryRow at h
  split at h
  ·obtain ⟨m, s', h1, h2⟩ := bind_ok h
   have k1 := number_sfx h1
   have k2 := entryRow_sfx fin f _ _ _ _ h2
   refine Sfx.trans ?_ (k1.trans k2)
   split
   ·exact Sfx.adv s
   ·exact Sfx.refl s
  ·rw [ret_ok h]; exact Sfx.refl s
theorem entries_sfx (fin : Nat) : ∀ (f : Nat) (acc : List (Bool × Nat)) (lens : List Nat) (s : St) (r : (List (Bool × Nat) × List Nat) × St), entries fin f acc lens s = some (.ok r) → Sfx s r.2
 | 0, _, _, _, _, h => by cases h
 | f + 1, acc, lens, s, r, h => by
  unfold entries at h
  obtain ⟨q, s1, h1, h2⟩ := bind_ok h
  have k1 := entryRow_sfx fin f _ _ _ _ h1
  split at h2
  ·rw [ret_ok h2]; exact k1.trans (Sfx.adv s1)
  ·obtain ⟨u, s2, h3, h4⟩ := bind_ok h2
   exact k1.trans ((want_sfx h3).trans (entries_sfx fin f _ _ _ _ h4))
theorem matrix_sfx {fin f : Nat} {s : St} {r : MatV × St} (h : matrix fin f s = some (.ok r)) : Sfx s r.2 := by
 unfold matrix at h
 obtain ⟨u, s1, h1, h2⟩ := bind_ok h
 refine (want_sfx h1).trans ?_
 split at h2
 ·unfold matShape at h2
  obtain ⟨a, s2, g1, h3⟩ := bind_ok h2
  obtain ⟨_, s3, g2, h4⟩ := bind_ok h3
  obtain ⟨c, s4, g3, h5⟩ := bind_ok h4
  obtain ⟨_, s5, g4, h6⟩ := bind_ok h5
  refine (number_sfx g1).trans ((want_sfx g2).trans ((number_sfx g3).trans ((want_sfx g4).trans ?_)))
  split at h6
  ·exact (fault_ok h6).elim
  ·rw [ret_ok h6]; exact Sfx.refl _
 ·obtain ⟨q, s2, h3, h4⟩ := bind_ok h2
  refine (entries_sfx fin f _ _ _ _ h3).trans ?_
  unfold matDone at h4
  split at h4
  ·exact (fault_ok h4).elim
  ·split at h4
   ·exact (fault_ok h4).elim
   ·rw [ret_ok h4]; exact Sfx.refl _
theorem simplex_sfx (fin : Nat) : ∀ (f : Nat) (acc : List Nat) (s : St) (r : List Nat × St), simplex fin f acc s = some (.ok r) → Sfx s r.2
 | 0, _, _, _, h => by cases h
 | f + 1, acc, s, r, h => by
  unfold simplex at h
  split at h
  ·obtain ⟨m, s', h1, h2⟩ := bind_ok h
   exact (number_sfx h1).trans (simplex_sfx fin f _ _ _ h2)
  ·rw [ret_ok h]; exact Sfx.refl s
theorem cpxLoop_sfx (fin : Nat) : ∀ (f : Nat) (acc : List (List Nat)) (s : St) (r : List (List Nat) × St), cpxLoop fin f acc s = some (.ok r) → Sfx s r.2
 | 0, _, _, _, h => by cases h
 | f + 1, acc, s, r, h => by
  unfold cpxLoop at h
  obtain ⟨n, s1, h1, h2⟩ := bind_ok h
  obtain ⟨x, s2, h3, h4⟩ := bind_ok h2
  refine (number_sfx h1).trans ((simplex_sfx fin f _ _ _ h3).trans ?_)
  split at h4
  ·rw [ret_ok h4]; exact Sfx.adv s2
  ·obtain ⟨u, s3, h5, h6⟩ := bind_ok h4
   exact (want_sfx h5).trans (cpxLoop_sfx fin f _ _ _ h6)
theorem complex_sfx {fin f : Nat} {s : St} {r : List (List Nat) × St} (h : complex fin f s = some (.ok r)) : Sfx s r.2 := by
 unfold complex at h
 obtain ⟨u, s1, h1, h2⟩ := bind_ok h
 refine (want_sfx h1).trans ?_
 split at h2
 ·rw [ret_ok h2]; exact Sfx.adv s1
 ·exact cpxLoop_sfx fin f _ _ _ h2
def Nm (s : St) : Prop := ∀ t ∈ s.ts, t.1 = 2 → NameOk t.2.1
theorem Nm.sfx {s s' : St} (h : Nm s) (k : Sfx s s') : Nm s' := by
 obtain ⟨-, i, hi⟩ := k
 intro t ht
 rw [hi] at ht
 exact h t (List.mem_of_mem_drop ht)
theorem name_ok {fin : Nat} {s : St} {r : Bytes × St} (h : name fin s = some (.ok r)) (hn : Nm s) : Sfx s r.2 ∧ NameOk r.1 ∧ isKind 2 s.ts = true ∧ r.1 = headText s.ts := by
 unfold name at h
 split at h
 ·rename_i hk
  rw [ret_ok h]
  refine ⟨Sfx.adv s, ?_, hk, rfl⟩
  obtain ⟨ts, o⟩ := s
  cases ts with
  | nil => cases hk
  | cons t l =>
   obtain ⟨k, x, c⟩ := t
   have e : k = 2 := by simpa [isKind] using hk
   exact hn (k, x, c) (by simp) e
 ·exact (fault_ok h).elim
theorem openB_ok {fin : Nat} {s : St} {r : Unit × St} (h : openB fin s = some (.ok r)) : r.2.opened = s.opened + 1 ∧ s.opened + 1 ≤ 100 ∧ ∃ k, r.2.ts = s.ts.drop k := by
 unfold openB at h
 split at h
 ·exact (fault_ok h).elim
 ·rw [ret_ok h]
  exact ⟨rfl, by omega, 1, by show s.ts.tail = _; cases s.ts <;> rfl⟩
theorem closeB_ok {fin : Nat} {s : St} {r : Unit × St} (h : closeB fin s = some (.ok r)) : r.2.opened = s.opened - 1 ∧ ∃ k, r.2.ts = s.ts.drop k := by
 unfold closeB at h
 obtain ⟨u, s1, h1, h2⟩ := bind_ok h
 have h3 := want_sfx h1
 rw [ret_ok h2]
 exact ⟨by show s1.opened - 1 = _; rw [h3.1], h3.2⟩
theorem minuses_sfx : ∀ (f n : Nat) (s : St) (r : Nat × St), minuses f n s = some (.ok r) → Sfx s r.2
 | 0, _, _, _, h => by cases h
 | f + 1, n, s, r, h => by
  unfold minuses at h
  split at h
  ·exact (Sfx.adv s).trans (minuses_sfx f _ _ _ h)
  ·rw [ret_ok h]; exact Sfx.refl s
theorem simplex_ne (fin : Nat) : ∀ (f : Nat) (acc : List Nat) (s : St) (r : List Nat × St), simplex fin f acc s = some (.ok r) → acc ≠ [] → r.1 ≠ []
 | 0, _, _, _, h, _ => by cases h
 | f + 1, acc, s, r, h, ha => by
  unfold simplex at h
  split at h
  ·obtain ⟨m, s', h1, h2⟩ := bind_ok h
   exact simplex_ne fin f _ _ _ h2 (by simp)
  ·rw [ret_ok h]; exact ha
theorem cpxLoop_ne (fin : Nat) : ∀ (f : Nat) (acc : List (List Nat)) (s : St) (r : List (List Nat) × St), cpxLoop fin f acc s = some (.ok r) → CpxOk acc → CpxOk r.1
 | 0, _, _, _, h, _ => by cases h
 | f + 1, acc, s, r, h, ha => by
  unfold cpxLoop at h
  obtain ⟨n, s1, h1, h2⟩ := bind_ok h
  obtain ⟨x, s2, h3, h4⟩ := bind_ok h2
  have hx := simplex_ne fin f _ _ _ h3 (by simp)
  have hn : CpxOk (acc ++ [x]) := by
   intro y hy
   rcases List.mem_append.1 hy with hy | hy
   ·exact ha y hy
   ·rw [List.mem_singleton.1 hy]; exact hx
  split at h4
  ·rw [ret_ok h4]; exact hn
  ·obtain ⟨u, s3, h5, h6⟩ := bind_ok h4
   exact cpxLoop_ne fin f _ _ _ h6 hn
theorem complex_ne {fin f : Nat} {s : St} {r : List (List Nat) × St} (h : complex fin f s = some (.ok r)) : CpxOk r.1 := by
 unfold complex at h
 obtain ⟨u, s1, h1, h2⟩ := bind_ok h
 split at h2
 ·rw [ret_ok h2]; intro y hy; cases hy
 ·exact cpxLoop_ne fin f _ _ _ h2 (by intro y hy; cases hy)
def Fit (c : Nat → Bool) (o : Nat) (e : Ex) : Prop := o + e.dp + 1 ≤ 100 ∨ (c e.op = true ∧ o + e.dp ≤ 100)
def cA (op : Nat) : Bool := atomB op
def cP (op : Nat) : Bool := atomB op || op == 5
def cF (op : Nat) : Bool := !isProd op
def cT (op : Nat) : Bool := !isSum op
def cE (_ : Nat) : Bool := true
theorem Fit.mono {c c' : Nat → Bool} {o : Nat} {e : Ex} (h : Fit c o e) (hc : ∀ op, c op = true → c' op = true) : Fit c' o e := h.imp id (fun h => ⟨hc _ h.1, h.2⟩)
theorem Fit.le {c : Nat → Bool} {o : Nat} {e : Ex} (h : Fit c o e) : o + e.dp ≤ 100 := by rcases h with h | h <;> omega
theorem parD_le {c : Nat → Bool} {o : Nat} {a : Ex} {b : Bool} (h : Fit c o a) (hb : c a.op = true → b = false) : o + parD b a.dp ≤ 100 := by
 rcases h with h | ⟨h1, h2⟩
 ·unfold parD; split <;> omega
 ·rw [hb h1]; exact h2
theorem cA_cP (op : Nat) (h : cA op = true) : cP op = true := by unfold cP; unfold cA at h; rw [h]; rfl
theorem cP_is {op : Nat} (h : cP op = true) : op = 1 ∨ op = 2 ∨ op = 3 ∨ op = 13 ∨ op = 10 ∨ op = 5 := by
 simp [cP, atomB] at h
 omega
theorem cP_cF (op : Nat) (h : cP op = true) : cF op = true := by
 rcases cP_is h with rfl | rfl | rfl | rfl | rfl | rfl <;> rfl
theorem cF_cT (op : Nat) (h : cF op = true) : cT op = true := by
 unfold cF isProd at h
 unfold cT
 cases hs : isSum op with
 | false => rfl
 | true => rw [hs] at h; cases h
theorem cP_loose5 {op : Nat} (h : cP op = true) : loose 5 0 op = false := by
 rcases cP_is h with rfl | rfl | rfl | rfl | rfl | rfl <;> rfl
theorem cP_loose9 {op : Nat} (h : cP op = true) : loose 9 0 op = false := by
 rcases cP_is h with rfl | rfl | rfl | rfl | rfl | rfl <;> rfl
theorem cF_is {op : Nat} (h : cF op = true) : isProd op = false := by
 unfold cF at h; cases hp : isProd op with
 | false => rfl
 | true => rw [hp] at h; cases h
theorem cT_is {op : Nat} (h : cT op = true) : isSum op = false := by
 unfold cT at h; cases hp : isSum op with
 | false => rfl
 | true => rw [hp] at h; cases h
theorem fit_turn {o : Nat} {a : Ex} (h : Fit cP o a) : Fit cP o (.turn a) := .inr ⟨rfl, parD_le h cP_loose5⟩
theorem fit_pow {o n : Nat} {a : Ex} (h : Fit cP o a) : Fit cF o (.pow a n) := .inr ⟨rfl, parD_le h cP_loose9⟩
theorem fit_neg {o : Nat} {a : Ex} (h : Fit cF o a) : Fit cF o (.neg a) := .inr ⟨rfl, parD_le h (fun h => by show loose 4 0 a.op = false; unfold loose; simp [cF_is h])⟩
theorem fit_negs {o : Nat} : ∀ (n : Nat) {a : Ex}, Fit cF o a → Fit cF o (negs n a)
 | 0, _, h => h
 | n + 1, _, h => fit_negs n (fit_neg h)
theorem wf_negs : ∀ (n : Nat) {a : Ex}, a.wf → (negs n a).wf
 | 0, _, h => h
 | n + 1, a, h => wf_negs n (a := .neg a) h
theorem max_fit {o a b : Nat} (h1 : o + a ≤ 100) (h2 : o + b ≤ 100) : o + max a b ≤ 100 := by omega
theorem fit_mul {o : Nat} {a b : Ex} (h1 : Fit cT o a) (h2 : Fit cF o b) : Fit cT o (.mul a b) :=
 .inr ⟨rfl, max_fit (parD_le h1 (fun h => by show loose 8 0 a.op = false; unfold loose; simp [cT_is h])) (parD_le h2 (fun h => by
  have h3 := cF_is h
  have h4 := cT_is (cF_cT _ h)
  show loose 8 1 b.op = false; unfold loose; simp [h3, h4]))⟩
theorem fit_add {o : Nat} {a b : Ex} (h1 : Fit cE o a) (h2 : Fit cT o b) : Fit cE o (.add a b) :=
 .inr ⟨rfl, max_fit (by show o + parD (loose 6 0 a.op) a.dp ≤ 100; rw [show loose 6 0 a.op = false from rfl]; exact h1.le) (parD_le h2 (fun h => by show loose 6 1 b.op = false; unfold loose; simp [cT_is h]))⟩
theorem fit_sub {o : Nat} {a b : Ex} (h1 : Fit cE o a) (h2 : Fit cT o b) : Fit cE o (.sub a b) :=
 .inr ⟨rfl, max_fit (by show o + parD (loose 7 0 a.op) a.dp ≤ 100; rw [show loose 7 0 a.op = false from rfl]; exact h1.le) (parD_le h2 (fun h => by show loose 7 1 b.op = false; unfold loose; simp [cT_is h]))⟩
theorem snoc_wf : ∀ (l : Exs) (e : Ex), l.wf → e.wf → (l.snoc e).wf
 | .nil, _, _, he => ⟨he, trivial⟩
 | .cons a l, e, h, he => ⟨h.1, snoc_wf l e h.2 he⟩
theorem snoc_dp : ∀ (l : Exs) (e : Ex), (l.snoc e).dp = max l.dp e.dp
 | .nil, e => by show max e.dp 0 = max 0 e.dp; omega
 | .cons a l, e => by show max a.dp (l.snoc e).dp = max (max a.dp l.dp) e.dp; rw [snoc_dp l e]; omega
theorem snoc_ne (l : Exs) (e : Ex) : l.snoc e ≠ .nil := by cases l <;> simp [Exs.snoc]
def Ans (c : Nat → Bool) (s : St) (r : Ex × St) : Prop := Sfx s r.2 ∧ r.1.wf ∧ Fit c s.opened r.1
theorem Ans.mono {c c' : Nat → Bool} {s : St} {r : Ex × St} (h : Ans c s r) (hc : ∀ op, c op = true → c' op = true) : Ans c' s r := ⟨h.1, h.2.1, h.2.2.mono hc⟩
theorem Ans.from {c : Nat → Bool} {s s1 : St} {r : Ex × St} (hs : Sfx s s1) (h : Ans c s1 r) : Ans c s r := ⟨hs.trans h.1, h.2.1, by rw [← hs.1]; exact h.2.2⟩
def AnsL (s : St) (r : Exs × St) : Prop := Sfx s r.2 ∧ r.1.wf ∧ s.opened + r.1.dp ≤ 100 ∧ r.1 ≠ .nil
theorem AnsL.from {s s1 : St} {r : Exs × St} (hs : Sfx s s1) (h : AnsL s1 r) : AnsL s r := ⟨hs.trans h.1, h.2.1, by rw [← hs.1]; exact h.2.2.1, h.2.2.2⟩
structure AllWf (fin f : Nat) : Prop where
 ex : ∀ s r, expr fin f s = some (.ok r) → Nm s → s.opened ≤ 100 → Ans cE s r
 exl : ∀ k s r, exprLoop fin f k s = some (.ok r) → Nm s → s.opened ≤ 100 → k.wf → Fit cE s.opened k → Ans cE s r
 te : ∀ s r, term fin f s = some (.ok r) → Nm s → s.opened ≤ 100 → Ans cT s r
 tel : ∀ k s r, termLoop fin f k s = some (.ok r) → Nm s → s.opened ≤ 100 → k.wf → Fit cT s.opened k → Ans cT s r
 fa : ∀ s r, factor fin f s = some (.ok r) → Nm s → s.opened ≤ 100 → Ans cF s r
 po : ∀ s r, post fin f s = some (.ok r) → Nm s → s.opened ≤ 100 → Ans cP s r
 at_ : ∀ s r, atom fin f s = some (.ok r) → Nm s → s.opened ≤ 100 → Ans cA s r
 pa : ∀ s r, parts fin f s = some (.ok r) → Nm s → s.opened ≤ 100 → AnsL s r
 pal : ∀ k s r, partsLoop fin f k s = some (.ok r) → Nm s → s.opened ≤ 100 → k.wf → s.opened + k.dp ≤ 100 → k ≠ .nil → AnsL s r
theorem turns_wf : ∀ (f : Nat) (k : Ex) (s : St) (r : Ex × St), turns f k s = some (.ok r) → k.wf → Fit cP s.opened k → Ans cP s r
 | 0, _, _, _, h, _, _ => by cases h
 | f + 1, k, s, r, h, hk, hf => by
  unfold turns at h
  split at h
  ·exact Ans.from (Sfx.adv s) (turns_wf f _ _ _ h hk (fit_turn hf))
  ·rw [ret_ok h]; exact ⟨Sfx.refl s, hk, hf⟩
theorem all_wf (fin : Nat) : ∀ f, AllWf fin f
 | 0 => by
  constructor
  ·intro s r h; rw [expr] at h; cases h
  ·intro k s r h; rw [exprLoop] at h; cases h
  ·intro s r h; rw [term] at h; cases h
  ·intro k s r h; rw [termLoop] at h; cases h
  ·intro s r h; rw [factor] at h; cases h
  ·intro s r h; rw [post] at h; cases h
  ·intro s r h; rw [atom] at h; cases h
  ·intro s r h; rw [parts] at h; cases h
  ·intro k s r h; rw [partsLoop] at h; cases h
 | f + 1 => by
  have ih := all_wf fin f
  constructor
  ·intro s r h hn ho
   rw [expr] at h
   obtain ⟨k, s1, h1, h2⟩ := bind_ok h
   obtain ⟨a1, a2, a3⟩ := ih.te _ _ h1 hn ho
   exact Ans.from a1 (ih.exl _ _ _ h2 (hn.sfx a1) (by rw [a1.1]; exact ho) a2 (by rw [a1.1]; exact a3.mono (fun _ _ => rfl)))
  ·intro k s r h hn ho hk hf
   rw [exprLoop] at h
   split at h
   ·obtain ⟨t, s1, h1, h2⟩ := bind_ok h
    have a0 := Sfx.adv s
    obtain ⟨a1, a2, a3⟩ := ih.te _ _ h1 (hn.sfx a0) ho
    have a4 := a0.trans a1
    exact Ans.from a4 (ih.exl _ _ _ h2 (hn.sfx a4) (by rw [a4.1]; exact ho) ⟨hk, a2⟩ (by rw [a4.1]; exact fit_add hf a3))
   ·split at h
    ·obtain ⟨t, s1, h1, h2⟩ := bind_ok h
     have a0 := Sfx.adv s
     obtain ⟨a1, a2, a3⟩ := ih.te _ _ h1 (hn.sfx a0) ho
     have a4 := a0.trans a1
     exact Ans.from a4 (ih.exl _ _ _ h2 (hn.sfx a4) (by rw [a4.1]; exact ho) ⟨hk, a2⟩ (by rw [a4.1]; exact fit_sub hf a3))
    ·rw [ret_ok h]; exact ⟨Sfx.refl s, hk, hf⟩
  ·intro s r h hn ho
   rw [term] at h
   obtain ⟨k, s1, h1, h2⟩ := bind_ok h
   obtain ⟨a1, a2, a3⟩ := ih.fa _ _ h1 hn ho
   exact Ans.from a1 (ih.tel _ _ _ h2 (hn.sfx a1) (by rw [a1.1]; exact ho) a2 (by rw [a1.1]; exact a3.mono cF_cT))
  ·intro k s r h hn ho hk hf
   rw [termLoop] at h
   split at h
   ·obtain ⟨t, s1, h1, h2⟩ := bind_ok h
    have a0 := Sfx.adv s
    obtain ⟨a1, a2, a3⟩ := ih.fa _ _ h1 (hn.sfx a0) ho
    have a4 := a0.trans a1
    exact Ans.from a4 (ih.tel _ _ _ h2 (hn.sfx a4) (by rw [a4.1]; exact ho) ⟨hk, a2⟩ (by rw [a4.1]; exact fit_mul hf a3))
   ·rw [ret_ok h]; exact ⟨Sfx.refl s, hk, hf⟩
  ·intro s r h hn ho
   rw [factor] at h
   obtain ⟨n, s1, h1, h2⟩ := bind_ok h
   obtain ⟨k, s2, h3, h4⟩ := bind_ok h2
   have a0 := minuses_sfx _ _ _ _ h1
   obtain ⟨a1, a2, a3⟩ := ih.po _ _ h3 (hn.sfx a0) (by rw [a0.1]; exact ho)
   have a4 := a0.trans a1
   rw [a0.1] at a3
   split at h4
   ·obtain ⟨m, s3, h5, h6⟩ := bind_ok h4
    have a5 := number_sfx h5
    rw [ret_ok h6]
    exact ⟨a4.trans ((Sfx.adv s2).trans a5), wf_negs n (a := .pow k m) a2, fit_negs n (fit_pow a3)⟩
   ·rw [ret_ok h4]
    exact ⟨a4, wf_negs n a2, fit_negs n (a3.mono cP_cF)⟩
  ·intro s r h hn ho
   rw [post] at h
   obtain ⟨k, s1, h1, h2⟩ := bind_ok h
   obtain ⟨a1, a2, a3⟩ := ih.at_ _ _ h1 hn ho
   exact Ans.from a1 (turns_wf _ _ _ _ h2 a2 (by rw [a1.1]; exact a3.mono cA_cP))
  ·intro s r h hn ho
   rw [atom] at h
   split at h
   ·obtain ⟨n, s1, h1, h2⟩ := bind_ok h
    rw [ret_ok h2]
    exact ⟨number_sfx h1, trivial, .inr ⟨rfl, ho⟩⟩
   ·split at h
    ·obtain ⟨x, s1, h1, h2⟩ := bind_ok h
     obtain ⟨u, s2, h3, h4⟩ := bind_ok h2
     obtain ⟨ks, s3, h5, h6⟩ := bind_ok h4
     obtain ⟨u, s4, h7, h8⟩ := bind_ok h6
     rw [ret_ok h8]
     obtain ⟨a1, a2, -, -⟩ := name_ok h1 hn
     obtain ⟨b1, b2, kb, b3⟩ := openB_ok h3
     simp only at a1 a2 b1 b2 b3
     obtain ⟨ka, a3⟩ := a1.2
     have n2 : Nm s2 := by
      intro t ht
      rw [b3, a3] at ht
      exact hn t (List.mem_of_mem_drop (List.mem_of_mem_drop ht))
     obtain ⟨c1, c2, c3, c4⟩ := ih.pa _ _ h5 n2 (by omega)
     obtain ⟨d1, kd', d2⟩ := closeB_ok h7
     obtain ⟨kc, c5⟩ := c1.2
     have e1 := a1.1
     have e2 := c1.1
     simp only at e1 e2 c2 c3 c4 c5 d1 d2
     refine ⟨⟨by show s4.opened = s.opened; omega, ka + (kb + (kc + kd')), by show s4.ts = _; rw [d2, c5, b3, a3, List.drop_drop, List.drop_drop, List.drop_drop]⟩, ⟨a2, c4, c2⟩, .inr ⟨rfl, ?_⟩⟩
     show s.opened + (ks.dp + 1) ≤ 100
     omega
    ·split at h
     ·obtain ⟨x, s1, h1, h2⟩ := bind_ok h
      rw [ret_ok h2]
      obtain ⟨a1, a2, -, -⟩ := name_ok h1 hn
      exact ⟨a1, a2, .inr ⟨rfl, ho⟩⟩
     ·split at h
      ·obtain ⟨u, s2, h3, h4⟩ := bind_ok h
       obtain ⟨e, s3, h5, h6⟩ := bind_ok h4
       obtain ⟨u, s4, h7, h8⟩ := bind_ok h6
       rw [ret_ok h8]
       obtain ⟨b1, b2, kb, b3⟩ := openB_ok h3
       simp only at b1 b2 b3
       have n2 : Nm s2 := by
        intro t ht
        rw [b3] at ht
        exact hn t (List.mem_of_mem_drop ht)
       obtain ⟨c1, c2, c3⟩ := ih.ex _ _ h5 n2 (by omega)
       obtain ⟨d1, kd', d2⟩ := closeB_ok h7
       obtain ⟨kc, c5⟩ := c1.2
       have e2 := c1.1
       have c6 := c3.le
       simp only at e2 c2 c5 c6 d1 d2
       refine ⟨⟨by show s4.opened = s.opened; omega, kb + (kc + kd'), by show s4.ts = _; rw [d2, c5, b3, List.drop_drop, List.drop_drop]⟩, c2, .inl ?_⟩
       show s.opened + e.dp + 1 ≤ 100
       omega
      ·split at h
       ·obtain ⟨m, s1, h1, h2⟩ := bind_ok h
        rw [ret_ok h2]
        exact ⟨matrix_sfx h1, matrix_ok h1, .inr ⟨rfl, ho⟩⟩
       ·split at h
        ·obtain ⟨m, s1, h1, h2⟩ := bind_ok h
         rw [ret_ok h2]
         exact ⟨complex_sfx h1, complex_ne h1, .inr ⟨rfl, ho⟩⟩
        ·exact (fault_ok h).elim
  ·intro s r h hn ho
   rw [parts] at h
   obtain ⟨k, s1, h1, h2⟩ := bind_ok h
   obtain ⟨a1, a2, a3⟩ := ih.ex _ _ h1 hn ho
   have a4 := a3.le
   simp only at a4
   exact AnsL.from a1 (ih.pal _ _ _ h2 (hn.sfx a1) (by rw [a1.1]; exact ho) ⟨a2, trivial⟩ (by rw [a1.1]; show s.opened + max k.dp 0 ≤ 100; omega) (by simp))
  ·intro k s r h hn ho hk hd hne
   rw [partsLoop] at h
   split at h
   ·obtain ⟨t, s1, h1, h2⟩ := bind_ok h
    have a0 := Sfx.adv s
    obtain ⟨a1, a2, a3⟩ := ih.ex _ _ h1 (hn.sfx a0) ho
    have a4 := a0.trans a1
    have a5 := a3.le
    have a6 : s.adv.opened = s.opened := rfl
    rw [a6] at a5
    simp only at a5
    exact AnsL.from a4 (ih.pal _ _ _ h2 (hn.sfx a4) (by rw [a4.1]; exact ho) (snoc_wf k t hk a2) (by rw [a4.1, snoc_dp]; exact max_fit hd a5) (snoc_ne k t))
   ·rw [ret_ok h]; exact ⟨Sfx.refl s, hk, hd, hne⟩
theorem done_ok {α : Type} {fin : Nat} {a : α} {s : St} {r : α × St} (h : done fin a s = some (.ok r)) : r = (a, s) := by
 unfold done at h
 split at h
 ·exact ret_ok h
 ·exact (fault_ok h).elim
theorem line_wf {fin f : Nat} {ts : List Tok} {r : Ln × St} (h : line fin f ⟨ts, 0⟩ = some (.ok r)) (hn : Nm ⟨ts, 0⟩) : r.1.wf ∧ r.1.dp ≤ 100 := by
 unfold line at h
 split at h
 ·rw [ret_ok h]; exact ⟨trivial, Nat.zero_le _⟩
 ·split at h
  ·obtain ⟨x, s1, h1, h2⟩ := bind_ok h
   obtain ⟨u, s2, h3, h4⟩ := bind_ok h2
   obtain ⟨e, s3, h5, h6⟩ := bind_ok h4
   have a0 := Sfx.adv ⟨ts, 0⟩
   obtain ⟨a1, a2, -, -⟩ := name_ok h1 (hn.sfx a0)
   have a3 := (a0.trans a1).trans (want_sfx h3)
   have e0 : s2.opened = 0 := a3.1
   obtain ⟨b1, b2, b3⟩ := (all_wf fin f).ex _ _ h5 (hn.sfx a3) (by omega)
   have b4 := b3.le
   rw [done_ok h6]
   exact ⟨⟨a2, b2⟩, by show e.dp ≤ 100; simp only at b4; omega⟩
  ·rename_i hnl
   obtain ⟨x, s1, h1, h2⟩ := bind_ok h
   obtain ⟨a1, a2, a3, a4⟩ := name_ok h1 hn
   have hx : x ≠ letB := by
    intro e
    refine hnl ?_
    have a4' : x = headText ts := a4
    have a3' : isKind 2 ts = true := a3
    rw [a3', ← a4', e]
    simp
   have e0 : s1.opened = 0 := a1.1
   split at h2
   ·rw [done_ok h2]
    exact ⟨⟨a2, hx, trivial⟩, Nat.zero_le _⟩
   ·obtain ⟨l, s2, h3, h4⟩ := bind_ok h2
    obtain ⟨b1, b2, b3, -⟩ := (all_wf fin f).pa _ _ h3 (hn.sfx a1) (by omega)
    rw [done_ok h4]
    exact ⟨⟨a2, hx, b2⟩, by show l.dp ≤ 100; simp only at b3; omega⟩
theorem toks_names : ∀ (n : Nat) (L : Bytes) (col : Nat) (ts : List Tok), (chars L).length ≤ n → Toks col (chars L) = .ok ts → ∀ t ∈ ts, t.1 = 2 → NameOk t.2.1 := by
 intro n
 induction n with
 | zero =>
  intro L col ts hl h
  rw [List.eq_nil_of_length_eq_zero (Nat.le_zero.1 hl), Toks_nil] at h
  cases h
  intro t ht; cases ht
 | succ n ih =>
  intro L col ts hl h
  have hdrop : ∀ k, chars (L.drop ((bytesOf ((chars L).take k)).length)) = (chars L).drop k := fun k => (chars_drop k L).symm
  have step : ∀ (k col : Nat) (m : List Tok), 1 ≤ k → Toks col ((chars L).drop k) = .ok m → ∀ t ∈ m, t.1 = 2 → NameOk t.2.1 := by
   intro k col m hk hm
   rw [← hdrop k] at hm
   refine ih _ _ _ ?_ hm
   rw [hdrop k, List.length_drop]; omega
  cases hc : chars L with
  | nil =>
   rw [hc, Toks_nil] at h
   cases h
   intro t ht; cases ht
  | cons c cs =>
   rw [hc] at h step
   have hk := kd_le c
   by_cases k0 : kd c = 0
   ·rw [Toks_bad _ k0] at h; cases h
   by_cases k1 : kd c = 1
   ·rw [Toks_blank _ k1] at h
    exact step 1 _ _ (Nat.le_refl _) h
   by_cases k2 : kd c = 2
   ·rw [Toks_hash _ k2] at h
    split at h
    ·cases h
    ·cases h
     intro t ht; cases ht
   by_cases k3 : kd c = 3
   ·rw [Toks_num _ k3] at h
    split at h
    ·cases h
    ·obtain ⟨m, hm, rfl⟩ := after_mem h
     have := step _ _ _ (runLen_pos (p := isNum) (c := c) (cs := cs) (by simp [isNum, k3])) hm
     intro t ht h2
     rcases List.mem_cons.1 ht with rfl | ht
     ·cases h2
     ·exact this t ht h2
   by_cases k4 : kd c = 4
   ·rw [Toks_name _ k4] at h
    split at h
    ·cases h
    ·rename_i h32
     obtain ⟨m, hm, rfl⟩ := after_mem h
     have hp := runLen_pos (p := isAl) (c := c) (cs := cs) (by simp [isAl, k4])
     have := step _ _ _ hp hm
     intro t ht h2
     rcases List.mem_cons.1 ht with rfl | ht
     ·have hall := takeWhile_all (p := isAl) (c :: cs)
      have hgood : ∀ d ∈ (chars L).take (runLen isAl (c :: cs)), notBad d = true := by
       rw [hc]
       intro d hd
       have := hall d hd
       simp only [isAl, Bool.or_eq_true, beq_iff_eq] at this
       simp only [notBad, bne_iff_ne]; omega
      have e := chars_take _ L hgood
      rw [hc] at e
      have hle := runLen_le isAl (c :: cs)
      obtain ⟨j, hj⟩ : ∃ j, runLen isAl (c :: cs) = j + 1 := ⟨runLen isAl (c :: cs) - 1, by omega⟩
      refine ⟨1, ?_⟩
      show Toks 1 (chars (bytesOf ((c :: cs).take (runLen isAl (c :: cs))))) = _
      rw [e]
      have et : (c :: cs).take (runLen isAl (c :: cs)) = c :: cs.take j := by rw [hj]; rfl
      have hrun : runLen isAl (c :: cs.take j) = (c :: cs.take j).length := run_full (fun d hd => hall d (by rw [et]; exact hd))
      rw [et] at h32 ⊢
      rw [Toks_name _ k4, hrun, List.take_length, List.drop_length, if_neg h32, Toks_nil]
      rfl
     ·exact this t ht h2
   by_cases k5 : kd c = 5
   ·rw [Toks_mark _ k5] at h
    obtain ⟨m, hm, rfl⟩ := after_mem h
    have := step 1 _ _ (Nat.le_refl _) hm
    intro t ht h2
    rcases List.mem_cons.1 ht with rfl | ht
    ·cases h2
    ·exact this t ht h2
   ·rw [Toks_other _ (by omega)] at h; cases h
theorem toks_text : ∀ (n : Nat) (cs : List C) (col : Nat) (ts : List Tok), cs.length ≤ n → Toks col cs = .ok ts → ∀ t ∈ ts, t.1 = 1 → t.2.1.length ≤ (bytesOf cs).length := by
 intro n
 induction n with
 | zero =>
  intro cs col ts hl h
  rw [List.eq_nil_of_length_eq_zero (Nat.le_zero.1 hl), Toks_nil] at h
  cases h
  intro t ht; cases ht
 | succ n ih =>
  intro cs col ts hl h
  cases cs with
  | nil =>
   rw [Toks_nil] at h
   cases h
   intro t ht; cases ht
  | cons c cs =>
   have step : ∀ (k col : Nat) (m : List Tok), 1 ≤ k → Toks col ((c :: cs).drop k) = .ok m → ∀ t ∈ m, t.1 = 1 → t.2.1.length ≤ (bytesOf (c :: cs)).length := by
    intro k col m hk hm t ht h1
    have e := congrArg List.length (bytes_split k (c :: cs))
    rw [List.length_append] at e
    have := ih _ _ _ (by rw [List.length_drop]; omega) hm t ht h1
    omega
   have hk := kd_le c
   by_cases k0 : kd c = 0
   ·rw [Toks_bad _ k0] at h; cases h
   by_cases k1 : kd c = 1
   ·rw [Toks_blank _ k1] at h
    exact step 1 _ _ (Nat.le_refl _) h
   by_cases k2 : kd c = 2
   ·rw [Toks_hash _ k2] at h
    split at h
    ·cases h
    ·cases h
     intro t ht; cases ht
   by_cases k3 : kd c = 3
   ·rw [Toks_num _ k3] at h
    split at h
    ·cases h
    ·obtain ⟨m, hm, rfl⟩ := after_mem h
     have := step _ _ _ (runLen_pos (p := isNum) (c := c) (cs := cs) (by simp [isNum, k3])) hm
     intro t ht h1
     rcases List.mem_cons.1 ht with rfl | ht
     ·exact bytes_len _ _
     ·exact this t ht h1
   by_cases k4 : kd c = 4
   ·rw [Toks_name _ k4] at h
    split at h
    ·cases h
    ·obtain ⟨m, hm, rfl⟩ := after_mem h
     have := step _ _ _ (runLen_pos (p := isAl) (c := c) (cs := cs) (by simp [isAl, k4])) hm
     intro t ht h1
     rcases List.mem_cons.1 ht with rfl | ht
     ·cases h1
     ·exact this t ht h1
   by_cases k5 : kd c = 5
   ·rw [Toks_mark _ k5] at h
    obtain ⟨m, hm, rfl⟩ := after_mem h
    have := step 1 _ _ (Nat.le_refl _) hm
    intro t ht h1
    rcases List.mem_cons.1 ht with rfl | ht
    ·cases h1
    ·exact this t ht h1
   ·rw [Toks_other _ (by omega)] at h; cases h
end SynP
namespace Go.Proofs.YtgfmiladfeoldaaGreatDoor
open LexP NumP
theorem digit_byte : ∀ l : Bytes, ∀ c ∈ chars l, isNum c = true → ∃ b, c.2 = [b] ∧ (isDig b = true ∨ b = 95) ∧ (kd c = 3 → isDig b = true) := by
 apply chars_ind
 ·intro c hc; simp [chars_nil] at hc
 ·intro l hl ih c hc
  rw [chars_cons hl] at hc
  rcases List.mem_cons.1 hc with rfl | hc
  ·intro hn
   cases hd : dec l with
   | none =>
    have hv : val l = none := by simp [val, hd]
    rw [hv] at hn; simp [isNum, kd, rn] at hn
   | some p =>
    obtain ⟨v, n⟩ := p
    have hv : val l = some v := by simp [val, hd]
    have hw : wid l = n := by simp [wid, hd]
    rw [hv] at hn
    rw [hw, hv]
    have hn' : (kindOf v == 3 || v == 95) = true := hn
    have h3 : kindOf v = 3 → 48 ≤ v ∧ v ≤ 57 := by
     unfold kindOf
     repeat' split
     all_goals omega
    have hv2 : (48 ≤ v ∧ v ≤ 57) ∨ v = 95 := by
     simp only [Bool.or_eq_true, beq_iff_eq] at hn'
     rcases hn' with h | h
     ·exact .inl (h3 h)
     ·exact .inr h
    obtain ⟨rfl, ht⟩ := dec_ascii hd (by omega)
    have htn : v.toUInt8.toNat = v := by simp; omega
    refine ⟨v.toUInt8, ht, ?_, ?_⟩
    ·rcases hv2 with h | rfl
     ·left; simp only [isDig, htn, Bool.and_eq_true, decide_eq_true_eq]; exact h
     ·right; rfl
    ·intro hk
     have := h3 hk
     simp only [isDig, htn, Bool.and_eq_true, decide_eq_true_eq]; exact this
  ·exact ih c hc
theorem numrun_text {S : Bytes} {cs : List C} (h : ∀ c ∈ cs, c ∈ chars S) : numRun (bytesOf (cs.take (runLen isNum cs))) := by
 intro b hb
 simp only [bytesOf, List.mem_flatMap] at hb
 obtain ⟨c, hc, hbc⟩ := hb
 have h1 := takeWhile_all _ c hc
 obtain ⟨x, hx, h2, _⟩ := digit_byte S c (h c (List.mem_of_mem_take hc)) h1
 rw [hx] at hbc
 simp only [List.mem_singleton] at hbc
 subst hbc; exact h2
def NumTok (t : Tok) : Prop := t.1 = 1 → numRun t.2.1 ∧ 0 < t.2.1.length ∧ anyBad t.2.1 = false
theorem toks_nums (S : Bytes) : ∀ (n : Nat) (cs : List C) (col : Nat) (ts : List Tok), cs.length ≤ n → (∀ c ∈ cs, c ∈ chars S) → Toks col cs = .ok ts → ∀ t ∈ ts, NumTok t := by
 intro n
 induction n with
 | zero =>
  intro cs col ts hl _ h
  rw [List.eq_nil_of_length_eq_zero (Nat.le_zero.1 hl), Toks_nil] at h
  cases h
  intro t ht; cases ht
 | succ n ih =>
  intro cs col ts hl hS h
  cases cs with
  | nil =>
   rw [Toks_nil] at h
   cases h
   intro t ht; cases ht
  | cons c cs =>
   have step : ∀ (k col : Nat) (m : List Tok), 1 ≤ k → Toks col ((c :: cs).drop k) = .ok m → ∀ t ∈ m, NumTok t := by
    intro k col m hk hm
    exact ih _ _ _ (by rw [List.length_drop]; omega) (fun d hd => hS d (List.mem_of_mem_drop hd)) hm
   have hk := kd_le c
   by_cases k0 : kd c = 0
   ·rw [Toks_bad _ k0] at h; cases h
   by_cases k1 : kd c = 1
   ·rw [Toks_blank _ k1] at h
    exact step 1 _ _ (Nat.le_refl _) h
   by_cases k2 : kd c = 2
   ·rw [Toks_hash _ k2] at h
    split at h
    ·cases h
    ·cases h
     intro t ht; cases ht
   by_cases k3 : kd c = 3
   ·rw [Toks_num _ k3] at h
    split at h
    ·cases h
    ·rename_i hb
     obtain ⟨m, hm, rfl⟩ := SynP.after_mem h
     have hc : isNum c = true := by simp [isNum, k3]
     have hp := runLen_pos (p := isNum) (c := c) (cs := cs) hc
     have := step _ _ _ hp hm
     intro t ht
     rcases List.mem_cons.1 ht with rfl | ht
     ·intro _
      have hr := numrun_text (S := S) (cs := c :: cs) hS
      obtain ⟨x, hx, -, h2⟩ := digit_byte S c (hS c (by simp)) hc
      obtain ⟨j, hj⟩ : ∃ j, runLen isNum (c :: cs) = j + 1 := ⟨runLen isNum (c :: cs) - 1, by omega⟩
      have e : bytesOf ((c :: cs).take (runLen isNum (c :: cs))) = x :: bytesOf (cs.take j) := by rw [hj, List.take_succ_cons]; simp [bytesOf, hx]
      refine ⟨hr, by show 0 < (bytesOf _).length; rw [e]; simp, ?_⟩
      have hb2 : badNum (bytesOf ((c :: cs).take (runLen isNum (c :: cs)))) = false := by simpa using hb
      show anyBad (bytesOf _) = false
      rw [← badNum_anyBad, hb2]
      rw [e]
      intro h95
      have h95' : x = 95 := by simpa using h95
      have := h2 k3
      rw [h95'] at this
      exact absurd this (by decide)
     ·exact this t ht
   by_cases k4 : kd c = 4
   ·rw [Toks_name _ k4] at h
    split at h
    ·cases h
    ·obtain ⟨m, hm, rfl⟩ := SynP.after_mem h
     have := step _ _ _ (runLen_pos (p := isAl) (c := c) (cs := cs) (by simp [isAl, k4])) hm
     intro t ht
     rcases List.mem_cons.1 ht with rfl | ht
     ·intro h1; cases h1
     ·exact this t ht
   by_cases k5 : kd c = 5
   ·rw [Toks_mark _ k5] at h
    obtain ⟨m, hm, rfl⟩ := SynP.after_mem h
    have := step 1 _ _ (Nat.le_refl _) hm
    intro t ht
    rcases List.mem_cons.1 ht with rfl | ht
    ·intro h1; cases h1
    ·exact this t ht
   ·rw [Toks_other _ (by omega)] at h; cases h
theorem toks_nums_of {S : Bytes} {ts : List Tok} (h : Toks 1 (chars S) = .ok ts) : ∀ t ∈ ts, NumTok t := toks_nums S _ _ _ _ (Nat.le_refl _) (fun _ h => h) h
end Go.Proofs.YtgfmiladfeoldaaGreatDoor
namespace SynP
open LexP
section
variable {φ : Nat → Nat} {α β : Type}
end
end SynP
namespace SynP
open LexP
theorem after_ok {r : Res} {t : List Tok} {ts : List Tok} (h : r.after t = .ok ts) : ∃ m, r = .ok m ∧ ts = t ++ m := by
 cases r with
 | error e => cases h
 | ok m => exact ⟨m, rfl, by simpa [Res.after] using h.symm⟩
theorem notBad_kd {c : C} (h : kd c ≠ 0) : notBad c = true := by simp [notBad, h]
theorem Toks_clean : ∀ (A : List C) (col : Nat) (ts : List Tok), Toks col A = .ok ts → A.all notBad = true := by
 intro A col ts h
 refine (Toks_ind (P := fun _ A r => (∃ l, r = Except.ok l) → A.all notBad = true) ?_ ?_ ?_ ?_ ?_ A col) ⟨ts, h⟩
 ·intro _ _; rfl
 ·intro col c A hk ih hr
  rw [List.all_cons, ih hr, notBad_kd (by omega)]; rfl
 ·intro col c A hk hr
  obtain ⟨l, hl⟩ := hr
  split at hl
  ·cases hl
  ·rename_i hn
   have h1 := runLen_le notBad (c :: A)
   have h2 := takeWhile_all (p := notBad) (c :: A)
   rw [show runLen notBad (c :: A) = (c :: A).length from by omega, List.take_length] at h2
   exact List.all_eq_true.2 h2
 ·intro col c A e _ _ _ hr
  obtain ⟨l, hl⟩ := hr
  cases hl
 ·intro col c A n k t _ _ _ h1 h2 h3 ih hr
  obtain ⟨l, hl⟩ := hr
  obtain ⟨m, hm, -⟩ := after_ok hl
  have h4 := ih ⟨m, hm⟩
  rw [← List.take_append_drop n (c :: A), List.all_append, h4, List.all_eq_true.2 h3]; rfl
def parseV (l : Bytes) : Except (Nat × Nat) Ln :=
 match Toks 1 (chars l) with
 | .error e => .error e
 | .ok ts =>
  match line ((chars l).length + 1) (10 * ts.length + 9) ⟨ts, 0⟩ with
  | none => .error (0, 0)
  | some (.error e) => .error e
  | some (.ok (n, _)) => if 4096 < n.size then .error (1, 5) else .ok n
theorem parseV_tok {l : Bytes} {e : Nat × Nat} (h : Toks 1 (chars l) = .error e) : parseV l = .error e := by unfold parseV; rw [h]
theorem parseV_err {l : Bytes} {ts : List Tok} {e : Nat × Nat} (h : Toks 1 (chars l) = .ok ts) (k : line ((chars l).length + 1) (10 * ts.length + 9) ⟨ts, 0⟩ = some (.error e)) : parseV l = .error e := by
 unfold parseV; rw [h]; simp only [k]
theorem parseV_ok {l : Bytes} {ts : List Tok} {n : Ln} {s : St} (h : Toks 1 (chars l) = .ok ts) (k : line ((chars l).length + 1) (10 * ts.length + 9) ⟨ts, 0⟩ = some (.ok (n, s))) : parseV l = if 4096 < n.size then .error (1, 5) else .ok n := by
 unfold parseV; rw [h]; simp only [k]
end SynP
