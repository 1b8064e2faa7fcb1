/- Joined texts of this claim's proof: SynR3, SynB. -/
import Derived.Test.YtgfmiladfeoldaaGreatDoorPl25
set_option linter.unusedSimpArgs false
set_option linter.unusedVariables false
namespace SynP
open LexP
def nm (x : UInt8) (r : List Tok) : Prop := isMark [x] r = false
structure S2 (r : List Tok) : Prop where
 a : nm 40 r
 b : nm 39 r
 c : nm 94 r
structure S3 (r : List Tok) : Prop where
 s2 : S2 r
 d : nm 42 r
structure S4 (r : List Tok) : Prop where
 s3 : S3 r
 e : nm 43 r
 f : nm 45 r
theorem nm_cons {x y : UInt8} (h : (y == x) = false) (c : Nat) (ts : List Tok) : nm x ((3, [y], c) :: ts) := by
 unfold nm isMark
 simp at h ⊢; exact h
theorem nm_kind {k : Nat} (hk : k ≠ 3) (x : UInt8) (y : Bytes) (c : Nat) (ts : List Tok) : nm x ((k, y, c) :: ts) := by unfold nm; exact isMark_kind hk _ _ _ _
def atomB (o : Nat) : Bool := o == 1 || o == 2 || o == 3 || o == 13 || o == 10
def postB (o : Nat) : Bool := !(isProd o || o == 4 || o == 9)
def factN (fin n f : Nat) (s : St) : PR Ex :=
 (minuses f n s).bind fun n s => (post fin f s).bind fun k s =>
  if isMark [94] s.ts then (number fin s.adv).bind fun m s => ret (negs n (.pow k m)) s
  else ret (negs n k) s
structure PE (fin : Nat) (e : Ex) : Prop where
 at_ : atomB e.op = true → ∀ ts r o, e.wf → Is ts e.tk r → nm 40 r → o + e.dp ≤ 100 → Ev (fun f => atom fin f ⟨ts, o⟩) (.ok (e, ⟨r, o⟩))
 po : postB e.op = true → ∀ ts r o res, e.wf → Is ts e.tk r → nm 40 r → o + e.dp ≤ 100 → Ev (fun f => turns f e ⟨r, o⟩) res → Ev (fun f => post fin f ⟨ts, o⟩) res
 nomin : (postB e.op || e.op == 9) = true → ∀ ts r, Is ts e.tk r → nm 45 ts
 fa : isProd e.op = false → ∀ n ts r o, e.wf → Is ts e.tk r → S2 r → o + e.dp ≤ 100 → Ev (fun f => factN fin n f ⟨ts, o⟩) (.ok (negs n e, ⟨r, o⟩))
 te : isSum e.op = false → ∀ ts r o res, e.wf → Is ts e.tk r → S2 r → o + e.dp ≤ 100 → Ev (fun f => termLoop fin f e ⟨r, o⟩) res → Ev (fun f => term fin f ⟨ts, o⟩) res
 ex : ∀ ts r o res, e.wf → Is ts e.tk r → S3 r → o + e.dp ≤ 100 → Ev (fun f => exprLoop fin f e ⟨r, o⟩) res → Ev (fun f => expr fin f ⟨ts, o⟩) res
theorem turns_stop {k : Ex} {r : List Tok} {o : Nat} (h : nm 39 r) : Ev (fun f => turns f k ⟨r, o⟩) (.ok (k, ⟨r, o⟩)) :=
 ⟨1, by show turns 1 k ⟨r, o⟩ = _; rw [turns]; unfold nm at h; simp only [h]; simp [ret]⟩
theorem termLoop_stop (fin : Nat) {k : Ex} {r : List Tok} {o : Nat} (h : nm 42 r) : Ev (fun f => termLoop fin f k ⟨r, o⟩) (.ok (k, ⟨r, o⟩)) :=
 ⟨1, by show termLoop fin 1 k ⟨r, o⟩ = _; rw [termLoop]; unfold nm at h; simp only [h]; simp [ret]⟩
theorem exprLoop_stop (fin : Nat) {k : Ex} {r : List Tok} {o : Nat} (h : S4 r) : Ev (fun f => exprLoop fin f k ⟨r, o⟩) (.ok (k, ⟨r, o⟩)) :=
 ⟨1, by
  show exprLoop fin 1 k ⟨r, o⟩ = _
  have h1 := h.e
  have h2 := h.f
  unfold nm at h1 h2
  rw [exprLoop]; simp only [h1, h2]; simp [ret]⟩
theorem minuses_stop {n : Nat} {r : List Tok} {o : Nat} (h : nm 45 r) : Ev (fun f => minuses f n ⟨r, o⟩) (.ok (n, ⟨r, o⟩)) :=
 ⟨1, by show minuses 1 n ⟨r, o⟩ = _; rw [minuses]; unfold nm at h; simp only [h]; simp [ret]⟩
theorem post_of_atom {fin : Nat} {ts r : List Tok} {o : Nat} {e : Ex} {res : Except (Nat × Nat) (Ex × St)} (h : Ev (fun f => atom fin f ⟨ts, o⟩) (.ok (e, ⟨r, o⟩))) (ht : Ev (fun f => turns f e ⟨r, o⟩) res) : Ev (fun f => post fin f ⟨ts, o⟩) res := by
 refine Ev.succ ?_
 have := Ev.bind (h := fun f k s => turns f k s) (fun f => (all_mono fin f).at_ _) (fun a s f => turns_mono _ _ _) h ht
 obtain ⟨f, hf⟩ := this
 exact ⟨f, by simp only; rw [post]; exact hf⟩
theorem fact_of_post {fin n : Nat} {ts r : List Tok} {o : Nat} {e : Ex} (hm : nm 45 ts) (h : Ev (fun f => post fin f ⟨ts, o⟩) (.ok (e, ⟨r, o⟩))) (hr : nm 94 r) : Ev (fun f => factN fin n f ⟨ts, o⟩) (.ok (negs n e, ⟨r, o⟩)) := by
 refine Ev.bind (h := fun f n s => (post fin f s).bind fun k s => if isMark [94] s.ts then (number fin s.adv).bind fun m s => ret (negs n (.pow k m)) s else ret (negs n k) s)
  (fun f => minuses_mono _ _ _) (fun a s f => Le.bind ((all_mono fin f).po _) fun _ _ => Le.refl _) (minuses_stop hm) ?_
 refine Ev.bind (h := fun _ k s => if isMark [94] s.ts then (number fin s.adv).bind fun m s => ret (negs n (.pow k m)) s else ret (negs n k) s)
  (fun f => (all_mono fin f).po _) (fun a s => Stab.const _) h ?_
 refine Ev.const ?_
 unfold nm at hr
 simp only [hr]; simp [ret]
theorem term_of_fact {fin : Nat} {ts r : List Tok} {o : Nat} {e : Ex} {res : Except (Nat × Nat) (Ex × St)} (h : Ev (fun f => factN fin 0 f ⟨ts, o⟩) (.ok (e, ⟨r, o⟩))) (ht : Ev (fun f => termLoop fin f e ⟨r, o⟩) res) : Ev (fun f => term fin f ⟨ts, o⟩) res := by
 have hfac : Ev (fun f => factor fin f ⟨ts, o⟩) (.ok (e, ⟨r, o⟩)) := by
  obtain ⟨f, hf⟩ := h
  exact ⟨f + 1, by simp only; rw [factor]; exact hf⟩
 have := Ev.bind (h := fun f k s => termLoop fin f k s) (fun f => (all_mono fin f).fa _) (fun a s f => (all_mono fin f).tl _ _) hfac ht
 obtain ⟨f, hf⟩ := this
 exact ⟨f + 1, by simp only; rw [term]; exact hf⟩
theorem expr_of_term {fin : Nat} {ts r : List Tok} {o : Nat} {e : Ex} {res : Except (Nat × Nat) (Ex × St)} (h : Ev (fun f => term fin f ⟨ts, o⟩) (.ok (e, ⟨r, o⟩))) (ht : Ev (fun f => exprLoop fin f e ⟨r, o⟩) res) : Ev (fun f => expr fin f ⟨ts, o⟩) res := by
 have := Ev.bind (h := fun f k s => exprLoop fin f k s) (fun f => (all_mono fin f).t _) (fun a s f => (all_mono fin f).el _ _) h ht
 obtain ⟨f, hf⟩ := this
 exact ⟨f + 1, by simp only; rw [expr]; exact hf⟩
theorem PE.ofEx {fin : Nat} {e : Ex} (h1 : isSum e.op = true) (ex : ∀ ts r o res, e.wf → Is ts e.tk r → S3 r → o + e.dp ≤ 100 → Ev (fun f => exprLoop fin f e ⟨r, o⟩) res → Ev (fun f => expr fin f ⟨ts, o⟩) res) : PE fin e where
 at_ := fun h => by unfold isSum at h1; unfold atomB at h; simp at h1 h; omega
 po := fun h => by unfold postB isProd at h; rw [h1] at h; simp at h
 nomin := fun h => by unfold postB isProd at h; rw [h1] at h; unfold isSum at h1; simp at h1 h; omega
 fa := fun h => by unfold isProd at h; rw [h1] at h; simp at h
 te := fun h => by rw [h1] at h; cases h
 ex := ex
theorem PE.ofTe {fin : Nat} {e : Ex} (h1 : e.op = 8) (te : ∀ ts r o res, e.wf → Is ts e.tk r → S2 r → o + e.dp ≤ 100 → Ev (fun f => termLoop fin f e ⟨r, o⟩) res → Ev (fun f => term fin f ⟨ts, o⟩) res) : PE fin e where
 at_ := fun h => by rw [h1] at h; cases h
 po := fun h => by rw [h1] at h; cases h
 nomin := fun h => by rw [h1] at h; cases h
 fa := fun h => by rw [h1] at h; cases h
 te := fun _ => te
 ex := fun ts r o _ hw h hr hd hx => expr_of_term (te ts r o _ hw h hr.s2 hd (termLoop_stop fin hr.d)) hx
theorem PE.ofFa {fin : Nat} {e : Ex} (h1 : isProd e.op = false) (h2 : postB e.op = false) (h3 : atomB e.op = false) (nomin : e.op = 9 → ∀ ts r, Is ts e.tk r → nm 45 ts)
  (fa : ∀ n ts r o, e.wf → Is ts e.tk r → S2 r → o + e.dp ≤ 100 → Ev (fun f => factN fin n f ⟨ts, o⟩) (.ok (negs n e, ⟨r, o⟩))) : PE fin e where
 at_ := fun h => by rw [h3] at h; cases h
 po := fun h => by rw [h2] at h; cases h
 nomin := fun h => nomin (by rw [h2] at h; simpa using h)
 fa := fun _ => fa
 te := fun _ ts r o _ hw h hr hd hx => term_of_fact (fa 0 ts r o hw h hr hd) hx
 ex := fun ts r o _ hw h hr hd hx => expr_of_term (term_of_fact (fa 0 ts r o hw h hr.s2 hd) (termLoop_stop fin hr.d)) hx
theorem PE.ofPo {fin : Nat} {e : Ex} (h2 : postB e.op = true) (nomin : ∀ ts r, Is ts e.tk r → nm 45 ts)
    (at_ : atomB e.op = true → ∀ ts r o, e.wf → Is ts e.tk r → nm 40 r → o + e.dp ≤ 100 → Ev (fun f => atom fin f ⟨ts, o⟩) (.ok (e, ⟨r, o⟩)))
    (po : ∀ ts r o res, e.wf → Is ts e.tk r → nm 40 r → o + e.dp ≤ 100 → Ev (fun f => turns f e ⟨r, o⟩) res → Ev (fun f => post fin f ⟨ts, o⟩) res) : PE fin e :=
  have fa : ∀ n ts r o, e.wf → Is ts e.tk r → S2 r → o + e.dp ≤ 100 → Ev (fun f => factN fin n f ⟨ts, o⟩) (.ok (negs n e, ⟨r, o⟩)) := fun n ts r o hw h hr hd =>
    fact_of_post (nomin ts r h) (po ts r o _ hw h hr.a hd (turns_stop hr.b)) hr.c
  { at_ := at_
    po := fun _ => po
    nomin := fun _ => nomin
    fa := fun _ => fa
    te := fun _ ts r o _ hw h hr hd hx => term_of_fact (fa 0 ts r o hw h hr hd) hx
    ex := fun ts r o _ hw h hr hd hx => expr_of_term (term_of_fact (fa 0 ts r o hw h hr.s2 hd) (termLoop_stop fin hr.d)) hx }
theorem PE.ofAt {fin : Nat} {e : Ex} (h2 : postB e.op = true) (nomin : ∀ ts r, Is ts e.tk r → nm 45 ts)
  (at_ : ∀ ts r o, e.wf → Is ts e.tk r → nm 40 r → o + e.dp ≤ 100 → Ev (fun f => atom fin f ⟨ts, o⟩) (.ok (e, ⟨r, o⟩))) : PE fin e :=
 PE.ofPo h2 nomin (fun _ => at_) fun ts r o _ hw h hr hd ht => post_of_atom (at_ ts r o hw h hr hd) ht
theorem pe_br {fin : Nat} {e : Ex} (h : PE fin e) {ts r : List Tok} {o : Nat} (hw : e.wf) (hi : Is ts (mk 40 :: (e.tk ++ [mk 41])) r) (hd : o + (e.dp + 1) ≤ 100) : Ev (fun f => atom fin f ⟨ts, o⟩) (.ok (e, ⟨r, o⟩)) := by
 obtain ⟨c, t1, rfl, h1⟩ := hi.cons
 obtain ⟨m, h2, h3⟩ := h1.app
 obtain ⟨c2, t2, rfl, h4⟩ := h3.cons
 have e4 := Is.nil h4
 subst e4
 have s4 : S4 ((3, [41], c2) :: t2) := ⟨⟨⟨nm_cons rfl _ _, nm_cons rfl _ _, nm_cons rfl _ _⟩, nm_cons rfl _ _⟩, nm_cons rfl _ _, nm_cons rfl _ _⟩
 have h5 := h.ex t1 _ (o + 1) _ hw h2 s4.s3 (by omega) (exprLoop_stop fin s4)
 obtain ⟨f, hf⟩ := h5
 refine ⟨f + 1, ?_⟩
 simp only at hf
 show atom fin (f + 1) ⟨(3, [40], c) :: t1, o⟩ = _
 have n1 : ¬ (100 < o + 1) := by omega
 have e5 : openB fin ⟨(3, [40], c) :: t1, o⟩ = some (.ok ((), ⟨t1, o + 1⟩)) := by unfold openB; simp only; rw [if_neg n1]; rfl
 have e6 : closeB fin ⟨(3, [41], c2) :: t2, o + 1⟩ = some (.ok ((), ⟨t2, o⟩)) := by unfold closeB want; rw [if_pos (by simp [isMark])]; rfl
 rw [atom]
 simp only [isKind, isMark, beq_self_eq_true, Bool.and_self, if_true, Nat.reduceBEq, Bool.false_and, Bool.false_eq_true, if_false, List.tail_cons]
 rw [e5]
 simp only [PR.bind, hf, e6, ret]
theorem parPost {fin : Nat} {a : Ex} (h : PE fin a) {b : Bool} (hb : b = !postB a.op) {ts r : List Tok} {o : Nat} {res : Except (Nat × Nat) (Ex × St)} (hw : a.wf) (hi : Is ts (parK b a.tk) r) (hr : nm 40 r) (hd : o + parD b a.dp ≤ 100)
  (ht : Ev (fun f => turns f a ⟨r, o⟩) res) : Ev (fun f => post fin f ⟨ts, o⟩) res := by
 cases b with
 | true => exact post_of_atom (pe_br h hw hi hd) ht
 | false => exact h.po (by rw [← Bool.not_eq_false']; exact hb.symm) ts r o res hw hi hr hd ht
theorem par_nomin {fin : Nat} {a : Ex} (h : PE fin a) {b : Bool} (hb : b = !postB a.op) {ts r : List Tok} (hi : Is ts (parK b a.tk) r) : nm 45 ts := by
 cases b with
 | true =>
  obtain ⟨c, t1, rfl, _⟩ := Is.cons (x := mk 40) hi
  exact nm_cons rfl _ _
 | false => exact h.nomin (by rw [show postB a.op = true from by rw [← Bool.not_eq_false']; exact hb.symm]; rfl) ts r hi
theorem parFact {fin : Nat} {a : Ex} (h : PE fin a) {b : Bool} (hb : b = isProd a.op) {n : Nat} {ts r : List Tok} {o : Nat} (hw : a.wf) (hi : Is ts (parK b a.tk) r) (hr : S2 r) (hd : o + parD b a.dp ≤ 100) :
  Ev (fun f => factN fin n f ⟨ts, o⟩) (.ok (negs n a, ⟨r, o⟩)) := by
 cases b with
 | true =>
  refine fact_of_post ?_ (post_of_atom (pe_br h hw hi hd) (turns_stop hr.b)) hr.c
  obtain ⟨c, t1, rfl, _⟩ := Is.cons (x := mk 40) hi
  exact nm_cons rfl _ _
 | false => exact h.fa hb.symm n ts r o hw hi hr hd
theorem parTerm {fin : Nat} {a : Ex} (h : PE fin a) {b : Bool} (hb : b = isSum a.op) {ts r : List Tok} {o : Nat} {res : Except (Nat × Nat) (Ex × St)} (hw : a.wf) (hi : Is ts (parK b a.tk) r) (hr : S2 r) (hd : o + parD b a.dp ≤ 100)
  (ht : Ev (fun f => termLoop fin f a ⟨r, o⟩) res) : Ev (fun f => term fin f ⟨ts, o⟩) res := by
 cases b with
 | true =>
  refine term_of_fact (fact_of_post ?_ (post_of_atom (pe_br h hw hi hd) (turns_stop hr.b)) hr.c) ht
  obtain ⟨c, t1, rfl, _⟩ := Is.cons (x := mk 40) hi
  exact nm_cons rfl _ _
 | false => exact h.te hb.symm ts r o res hw hi hr hd ht
theorem pe_num (fin n : Nat) : PE fin (.num n) := by
 refine PE.ofAt rfl (fun ts r hi => ?_) fun ts r o _ hi _ _ => ?_
 ·obtain ⟨c, t1, rfl, _⟩ := Is.cons (x := numK n) (l := []) hi
  exact nm_kind (k := 1) (by decide) _ _ _ _
 ·have hi' : Is ts [numK n] r := hi
  refine ⟨1, ?_⟩
  show atom fin 1 ⟨ts, o⟩ = _
  rw [atom]
  have hk : isKind 1 ts = true := by obtain ⟨c, t, rfl, _⟩ := hi'.cons; rfl
  simp only [hk, if_true]
  rw [number_is fin hi', ret_bind]; rfl
theorem pe_name (fin : Nat) (x : Bytes) : PE fin (.name x) := by
 refine PE.ofAt rfl (fun ts r hi => ?_) fun ts r o _ hi hr _ => ?_
 ·obtain ⟨c, t1, rfl, _⟩ := Is.cons (x := (2, x)) (l := []) hi
  exact nm_kind (k := 2) (by decide) _ _ _ _
 ·obtain ⟨c, t, rfl, h1⟩ := Is.cons (x := (2, x)) (l := []) hi
  have e1 := Is.nil h1
  subst e1
  unfold nm at hr
  refine ⟨1, ?_⟩
  show atom fin 1 ⟨(2, x, c) :: t, o⟩ = _
  rw [atom]
  simp only [isKind, Nat.reduceBEq, Bool.false_eq_true, if_false, List.tail_cons, hr, Bool.and_false, if_true]
  unfold name
  rw [if_pos (by rfl), ret_bind]; rfl
theorem pe_mat (fin : Nat) (m : MatV) : PE fin (.mat m) := by
 have hh : ∀ ts r, Is ts (matK m) r → ∃ c t, ts = (3, [91], c) :: t := by
  intro ts r hi
  unfold matK at hi
  split at hi
  ·obtain ⟨c, t, rfl, _⟩ := hi.cons; exact ⟨c, t, rfl⟩
  ·obtain ⟨c, t, rfl, _⟩ := hi.cons; exact ⟨c, t, rfl⟩
 refine PE.ofAt rfl (fun ts r hi => ?_) fun ts r o hw hi _ _ => ?_
 ·obtain ⟨c, t, rfl⟩ := hh ts r hi
  exact nm_cons rfl _ _
 ·obtain ⟨f, hf⟩ := matrix_is fin (m := m) hw (o := o) hi
  obtain ⟨c, t, rfl⟩ := hh ts r hi
  refine ⟨f + 1, ?_⟩
  simp only at hf
  show atom fin (f + 1) ⟨(3, [91], c) :: t, o⟩ = _
  rw [atom]
  simp only [isKind, isMark, Nat.reduceBEq, Bool.false_and, Bool.false_eq_true, if_false, beq_self_eq_true, Bool.and_self, if_true, Bool.true_and]
  rw [if_neg (by decide), hf]; rfl
theorem pe_cpx (fin : Nat) (l : List (List Nat)) : PE fin (.cpx l) := by
 have hh : ∀ ts r, Is ts (cpxK l) r → ∃ c t, ts = (3, [123], c) :: t := by
  intro ts r hi
  unfold cpxK at hi
  obtain ⟨c, t, rfl, _⟩ := hi.cons; exact ⟨c, t, rfl⟩
 refine PE.ofAt rfl (fun ts r hi => ?_) fun ts r o hw hi _ _ => ?_
 ·obtain ⟨c, t, rfl⟩ := hh ts r hi
  exact nm_cons rfl _ _
 ·obtain ⟨f, hf⟩ := complex_is fin (l := l) hw (o := o) hi
  obtain ⟨c, t, rfl⟩ := hh ts r hi
  refine ⟨f + 1, ?_⟩
  simp only at hf
  show atom fin (f + 1) ⟨(3, [123], c) :: t, o⟩ = _
  rw [atom]
  simp only [isKind, isMark, Nat.reduceBEq, Bool.false_and, Bool.false_eq_true, if_false, beq_self_eq_true, Bool.and_self, if_true, Bool.true_and]
  rw [if_neg (by decide), if_neg (by decide), hf]; rfl
theorem pe_neg {fin : Nat} {a : Ex} (ha : PE fin a) : PE fin (.neg a) := by
 refine PE.ofFa rfl rfl rfl (fun h => by cases h) fun n ts r o hw hi hr hd => ?_
 obtain ⟨c, t, rfl, h1⟩ := Is.cons (x := mk 45) hi
 have h2 := parFact ha (b := loose 4 0 a.op) (by simp [loose]) (n := n + 1) (o := o) hw h1 hr hd
 obtain ⟨f, hf⟩ := h2
 have hs : factN fin n (f + 1) ⟨(3, [45], c) :: t, o⟩ = some (.ok (negs (n + 1) a, ⟨r, o⟩)) := by
  have hf2 : factN fin (n + 1) f ⟨t, o⟩ = some (.ok (negs (n + 1) a, ⟨r, o⟩)) := hf
  unfold factN at hf2 ⊢
  rw [minuses]
  simp only [isMark, beq_self_eq_true, Bool.and_self, if_true]
  have hb := (Le.bind (Le.refl (minuses f (n + 1) ⟨t, o⟩)) fun n s => Le.bind ((all_mono fin f).po s) fun k s => Le.refl (if isMark [94] s.ts then (number fin s.adv).bind fun m s => ret (negs n (.pow k m)) s else ret (negs n k) s)).some hf2
  exact hb
 exact ⟨f + 1, hs⟩
theorem loose_post (p : Nat) : loose 5 0 p = !postB p ∧ loose 9 0 p = !postB p := by
 constructor <;> simp [loose, postB, isProd, isSum, Bool.or_assoc]
theorem pe_turn {fin : Nat} {a : Ex} (ha : PE fin a) : PE fin (.turn a) := by
 refine PE.ofPo rfl (fun ts r hi => ?_) (fun h => by cases h) fun ts r o res hw hi hr hd ht => ?_
 ·obtain ⟨m, h1, _⟩ := Is.app (l1 := parK (loose 5 0 a.op) a.tk) (l2 := [mk 39]) hi
  exact par_nomin ha (loose_post _).1 h1
 ·obtain ⟨m, h1, h2⟩ := Is.app (l1 := parK (loose 5 0 a.op) a.tk) (l2 := [mk 39]) hi
  obtain ⟨c, t, rfl, h3⟩ := h2.cons
  have e3 := Is.nil h3
  subst e3
  refine parPost ha (loose_post _).1 hw h1 (nm_cons rfl _ _) hd ?_
  obtain ⟨f, hf⟩ := ht
  refine ⟨f + 1, ?_⟩
  show turns (f + 1) a ⟨(3, [39], c) :: t, o⟩ = _
  rw [turns]
  simp only [isMark, beq_self_eq_true, Bool.and_self, if_true]
  exact hf
theorem pe_pow {fin : Nat} {a : Ex} (n : Nat) (ha : PE fin a) : PE fin (.pow a n) := by
 refine PE.ofFa rfl rfl rfl (fun _ ts r hi => ?_) fun k ts r o hw hi hr hd => ?_
 ·obtain ⟨m, h1, _⟩ := Is.app (l1 := parK (loose 9 0 a.op) a.tk) (l2 := [mk 94, numK n]) hi
  exact par_nomin ha (loose_post _).2 h1
 ·obtain ⟨m, h1, h2⟩ := Is.app (l1 := parK (loose 9 0 a.op) a.tk) (l2 := [mk 94, numK n]) hi
  obtain ⟨c, t, rfl, h3⟩ := h2.cons
  have hm := par_nomin ha (loose_post _).2 h1
  have hp := parPost ha (loose_post _).2 (o := o) hw h1 (nm_cons rfl _ _) hd (turns_stop (nm_cons rfl _ _))
  refine Ev.bind (h := fun f n s => (post fin f s).bind fun k s => if isMark [94] s.ts then (number fin s.adv).bind fun m s => ret (negs n (.pow k m)) s else ret (negs n k) s)
   (fun f => minuses_mono _ _ _) (fun a s f => Le.bind ((all_mono fin f).po _) fun _ _ => Le.refl _) (minuses_stop hm) ?_
  refine Ev.bind (h := fun _ e s => if isMark [94] s.ts then (number fin s.adv).bind fun m s => ret (negs k (.pow e m)) s else ret (negs k e) s)
   (fun f => (all_mono fin f).po _) (fun a s => Stab.const _) hp ?_
  refine Ev.const ?_
  simp only [isMark, beq_self_eq_true, Bool.and_self, if_true]
  have : number fin (St.adv ⟨(3, [94], c) :: t, o⟩) = ret n ⟨r, o⟩ := number_is fin h3
  rw [this, ret_bind]; rfl
theorem pe_mul {fin : Nat} {a b : Ex} (ha : PE fin a) (hb : PE fin b) : PE fin (.mul a b) := by
 refine PE.ofTe rfl fun ts r o res hw hi hr hd ht => ?_
 obtain ⟨m, h1, h2⟩ := Is.app (l1 := parK (loose 8 0 a.op) a.tk) (l2 := mk 42 :: parK (loose 8 1 b.op) b.tk) hi
 obtain ⟨c, t, rfl, h3⟩ := h2.cons
 have hd' : o + max (parD (loose 8 0 a.op) a.dp) (parD (loose 8 1 b.op) b.dp) ≤ 100 := hd
 refine parTerm ha (b := loose 8 0 a.op) (by simp [loose]) hw.1 h1 ⟨nm_cons rfl _ _, nm_cons rfl _ _, nm_cons rfl _ _⟩ (by omega) ?_
 have hf := parFact hb (b := loose 8 1 b.op) (by simp [loose, isProd]) (n := 0) (o := o) hw.2 h3 hr (by omega)
 have hfac : Ev (fun f => factor fin f ⟨t, o⟩) (.ok (b, ⟨r, o⟩)) := by
  obtain ⟨f, hf⟩ := hf
  exact ⟨f + 1, by simp only; rw [factor]; exact hf⟩
 have := Ev.bind (h := fun f k s => termLoop fin f (.mul a k) s) (fun f => (all_mono fin f).fa _) (fun a s f => (all_mono fin f).tl _ _) hfac ht
 obtain ⟨f, hf⟩ := this
 refine ⟨f + 1, ?_⟩
 show termLoop fin (f + 1) a ⟨(3, [42], c) :: t, o⟩ = _
 rw [termLoop]
 simp only [isMark, beq_self_eq_true, Bool.and_self, if_true]
 exact hf
theorem pe_add {fin : Nat} {a b : Ex} (ha : PE fin a) (hb : PE fin b) : PE fin (.add a b) := by
 refine PE.ofEx rfl fun ts r o res hw hi hr hd ht => ?_
 obtain ⟨m, h1, h2⟩ := Is.app (l1 := parK (loose 6 0 a.op) a.tk) (l2 := mk 43 :: parK (loose 6 1 b.op) b.tk) hi
 obtain ⟨c, t, rfl, h3⟩ := h2.cons
 have hl : loose 6 0 a.op = false := by simp [loose]
 have hd' : o + max (parD (loose 6 0 a.op) a.dp) (parD (loose 6 1 b.op) b.dp) ≤ 100 := hd
 rw [hl] at h1 hd'
 simp only [parD, Bool.false_eq_true, if_false] at hd'
 refine ha.ex ts _ o _ hw.1 h1 ⟨⟨nm_cons rfl _ _, nm_cons rfl _ _, nm_cons rfl _ _⟩, nm_cons rfl _ _⟩ (by omega) ?_
 have hte := parTerm hb (b := loose 6 1 b.op) (by simp [loose]) (o := o) hw.2 h3 hr.s2 (by unfold parD; omega) (termLoop_stop fin hr.d)
 have := Ev.bind (h := fun f k s => exprLoop fin f (.add a k) s) (fun f => (all_mono fin f).t _) (fun a s f => (all_mono fin f).el _ _) hte ht
 obtain ⟨f, hf⟩ := this
 refine ⟨f + 1, ?_⟩
 show exprLoop fin (f + 1) a ⟨(3, [43], c) :: t, o⟩ = _
 rw [exprLoop]
 simp only [isMark, beq_self_eq_true, Bool.and_self, if_true]
 exact hf
theorem pe_sub {fin : Nat} {a b : Ex} (ha : PE fin a) (hb : PE fin b) : PE fin (.sub a b) := by
 refine PE.ofEx rfl fun ts r o res hw hi hr hd ht => ?_
 obtain ⟨m, h1, h2⟩ := Is.app (l1 := parK (loose 7 0 a.op) a.tk) (l2 := mk 45 :: parK (loose 7 1 b.op) b.tk) hi
 obtain ⟨c, t, rfl, h3⟩ := h2.cons
 have hl : loose 7 0 a.op = false := by simp [loose]
 have hd' : o + max (parD (loose 7 0 a.op) a.dp) (parD (loose 7 1 b.op) b.dp) ≤ 100 := hd
 rw [hl] at h1 hd'
 simp only [parD, Bool.false_eq_true, if_false] at hd'
 refine ha.ex ts _ o _ hw.1 h1 ⟨⟨nm_cons rfl _ _, nm_cons rfl _ _, nm_cons rfl _ _⟩, nm_cons rfl _ _⟩ (by omega) ?_
 have hte := parTerm hb (b := loose 7 1 b.op) (by simp [loose]) (o := o) hw.2 h3 hr.s2 (by unfold parD; omega) (termLoop_stop fin hr.d)
 have := Ev.bind (h := fun f k s => exprLoop fin f (.sub a k) s) (fun f => (all_mono fin f).t _) (fun a s f => (all_mono fin f).el _ _) hte ht
 obtain ⟨f, hf⟩ := this
 refine ⟨f + 1, ?_⟩
 show exprLoop fin (f + 1) a ⟨(3, [45], c) :: t, o⟩ = _
 have e1 : isMark [43] ((3, [45], c) :: t) = false := by simp [isMark]
 have e2 : isMark [45] ((3, [45], c) :: t) = true := by simp [isMark]
 rw [exprLoop]
 simp only [e1, e2, Bool.false_eq_true, if_false, if_true]
 exact hf
def Exs.app : Exs → Exs → Exs
 | .nil, m => m
 | .cons a l, m => .cons a (l.app m)
theorem Exs.snoc_app : ∀ (l : Exs) (a : Ex) (m : Exs), (l.snoc a).app m = l.app (.cons a m)
 | .nil, _, _ => rfl
 | .cons b l, a, m => by simp only [Exs.snoc, Exs.app, Exs.snoc_app l a m]
theorem Exs.app_nil : ∀ l : Exs, l.app .nil = l
 | .nil => rfl
 | .cons a l => by simp only [Exs.app, Exs.app_nil l]
def PES (fin : Nat) (l : Exs) : Prop := ∀ acc ts r o, l.wf → Is ts l.tkTail r → S4 r → nm 44 r → o + l.dp ≤ 100 → Ev (fun f => partsLoop fin f acc ⟨ts, o⟩) (.ok (acc.app l, ⟨r, o⟩))
theorem tail_s4 {l : Exs} {ts r : List Tok} (hi : Is ts l.tkTail r) (hr : S4 r) : S4 ts := by
 cases l with
 | nil => have := Is.nil hi; subst this; exact hr
 | cons a l =>
  obtain ⟨c, t, rfl, _⟩ := Is.cons (x := mk 44) hi
  exact ⟨⟨⟨nm_cons rfl _ _, nm_cons rfl _ _, nm_cons rfl _ _⟩, nm_cons rfl _ _⟩, nm_cons rfl _ _, nm_cons rfl _ _⟩
theorem pes_nil (fin : Nat) : PES fin .nil := by
 intro acc ts r o _ hi _ h44 _
 have e := Is.nil hi
 subst e
 refine ⟨1, ?_⟩
 show partsLoop fin 1 acc ⟨ts, o⟩ = _
 unfold nm at h44
 rw [partsLoop]; simp only [h44]; simp [ret, Exs.app_nil]
theorem pes_cons {fin : Nat} {a : Ex} {l : Exs} (ha : PE fin a) (hl : PES fin l) : PES fin (.cons a l) := by
 intro acc ts r o hw hi hr h44 hd
 obtain ⟨c, t, rfl, h1⟩ := Is.cons (x := mk 44) (l := a.tk ++ l.tkTail) hi
 obtain ⟨m, h2, h3⟩ := h1.app
 have hm := tail_s4 h3 hr
 have hd' : o + max a.dp l.dp ≤ 100 := hd
 have he := ha.ex t m o _ hw.1 h2 hm.s3 (by omega) (exprLoop_stop fin hm)
 have hp := hl (acc.snoc a) m r o hw.2 h3 hr h44 (by omega)
 rw [Exs.snoc_app] at hp
 have := Ev.bind (h := fun f k s => partsLoop fin f (acc.snoc k) s) (fun f => (all_mono fin f).e _) (fun a s f => (all_mono fin f).pl _ _) he hp
 obtain ⟨f, hf⟩ := this
 refine ⟨f + 1, ?_⟩
 show partsLoop fin (f + 1) acc ⟨(3, [44], c) :: t, o⟩ = _
 rw [partsLoop]
 simp only [isMark, beq_self_eq_true, Bool.and_self, if_true]
 exact hf
theorem parts_is {fin : Nat} {a : Ex} {l : Exs} (ha : PE fin a) (hl : PES fin l) {ts r : List Tok} {o : Nat} (hw : (Exs.cons a l).wf) (hi : Is ts (Exs.cons a l).tk r) (hr : S4 r) (h44 : nm 44 r) (hd : o + (Exs.cons a l).dp ≤ 100) :
  Ev (fun f => parts fin f ⟨ts, o⟩) (.ok (.cons a l, ⟨r, o⟩)) := by
 obtain ⟨m, h2, h3⟩ := Is.app (l1 := a.tk) (l2 := l.tkTail) hi
 have hm := tail_s4 h3 hr
 have hd' : o + max a.dp l.dp ≤ 100 := hd
 have he := ha.ex ts m o _ hw.1 h2 hm.s3 (by omega) (exprLoop_stop fin hm)
 have hp := hl (.cons a .nil) m r o hw.2 h3 hr h44 (by omega)
 have := Ev.bind (h := fun f k s => partsLoop fin f (.cons k .nil) s) (fun f => (all_mono fin f).e _) (fun a s f => (all_mono fin f).pl _ _) he hp
 obtain ⟨f, hf⟩ := this
 exact ⟨f + 1, by simp only; rw [parts]; exact hf⟩
theorem pe_call {fin : Nat} (x : Bytes) {l : Exs} (hl : ∀ a m, l = .cons a m → PE fin a ∧ PES fin m) : PE fin (.call x l) := by
 refine PE.ofAt rfl (fun ts r hi => ?_) fun ts r o hw hi hr hd => ?_
 ·obtain ⟨c, t1, rfl, _⟩ := Is.cons (x := (2, x)) hi
  exact nm_kind (k := 2) (by decide) _ _ _ _
 ·obtain ⟨c, t1, rfl, h1⟩ := Is.cons (x := (2, x)) hi
  obtain ⟨c2, t2, rfl, h2⟩ := Is.cons (x := mk 40) h1
  obtain ⟨m, h3, h4⟩ := h2.app
  obtain ⟨c3, t3, rfl, h5⟩ := h4.cons
  have e5 := Is.nil h5
  subst e5
  obtain ⟨_, hne, hwl⟩ : NameOk x ∧ l ≠ .nil ∧ l.wf := hw
  cases l with
  | nil => exact absurd rfl hne
  | cons a l =>
   obtain ⟨ha, hm⟩ := hl a l rfl
   have hd' : o + ((Exs.cons a l).dp + 1) ≤ 100 := hd
   have s4 : S4 ((3, [41], c3) :: t3) := ⟨⟨⟨nm_cons rfl _ _, nm_cons rfl _ _, nm_cons rfl _ _⟩, nm_cons rfl _ _⟩, nm_cons rfl _ _, nm_cons rfl _ _⟩
   obtain ⟨f, hf⟩ := parts_is ha hm (o := o + 1) hwl h3 s4 (nm_cons rfl _ _) (by omega)
   refine ⟨f + 1, ?_⟩
   simp only at hf
   show atom fin (f + 1) ⟨(2, x, c) :: (3, [40], c2) :: t2, o⟩ = _
   have n1 : ¬ (100 < o + 1) := by omega
   have e4 : name fin ⟨(2, x, c) :: (3, [40], c2) :: t2, o⟩ = some (.ok (x, ⟨(3, [40], c2) :: t2, o⟩)) := by unfold name; rw [if_pos (by rfl)]; rfl
   have e5 : openB fin ⟨(3, [40], c2) :: t2, o⟩ = some (.ok ((), ⟨t2, o + 1⟩)) := by unfold openB; simp only; rw [if_neg n1]; rfl
   have e6 : closeB fin ⟨(3, [41], c3) :: t3, o + 1⟩ = some (.ok ((), ⟨t3, o⟩)) := by unfold closeB want; rw [if_pos (by simp [isMark])]; rfl
   rw [atom]
   simp only [isKind, isMark, Nat.reduceBEq, Bool.false_eq_true, if_false, List.tail_cons, beq_self_eq_true, Bool.and_self, if_true]
   rw [e4]
   simp only [PR.bind]
   rw [e5]
   simp only [hf, e6, ret]
mutual
theorem pe_all (fin : Nat) : (e : Ex) → PE fin e
 | .num n => pe_num fin n
 | .name x => pe_name fin x
 | .mat m => pe_mat fin m
 | .cpx l => pe_cpx fin l
 | .neg a => pe_neg (pe_all fin a)
 | .turn a => pe_turn (pe_all fin a)
 | .add a b => pe_add (pe_all fin a) (pe_all fin b)
 | .sub a b => pe_sub (pe_all fin a) (pe_all fin b)
 | .mul a b => pe_mul (pe_all fin a) (pe_all fin b)
 | .pow a n => pe_pow n (pe_all fin a)
 | .call x .nil => pe_call x (fun _ _ h => by cases h)
 | .call x (.cons a l) => pe_call x (fun _ _ h => by cases h; exact ⟨pe_all fin a, pes_all fin l⟩)
theorem pes_all (fin : Nat) : (l : Exs) → PES fin l
 | .nil => pes_nil fin
 | .cons a l => pes_cons (pe_all fin a) (pes_all fin l)
end
theorem tk_ne : ∀ e : Ex, e.tk ≠ [] := by
 intro e
 cases e <;> simp [Ex.tk, matK, cpxK]
 split <;> simp
theorem s4_nil : S4 [] := ⟨⟨⟨rfl, rfl, rfl⟩, rfl⟩, rfl, rfl⟩
theorem line_is (fin : Nat) {n : Ln} (hw : n.wf) (hd : n.dp ≤ 100) {ts : List Tok} (hi : Is ts n.tk []) : Ev (fun f => line fin f ⟨ts, 0⟩) (.ok (n, ⟨[], 0⟩)) := by
 cases n with
 | nothing =>
  have e := Is.nil hi
  subst e
  exact ⟨0, rfl⟩
 | lets x e =>
  obtain ⟨c, t, rfl, h1⟩ := Is.cons (x := (2, letB)) hi
  obtain ⟨c2, t2, rfl, h2⟩ := h1.cons
  obtain ⟨c3, t3, rfl, h3⟩ := h2.cons
  have he := (pe_all fin e).ex t3 [] 0 _ hw.2 h3 s4_nil.s3 (by rw [Nat.zero_add]; exact hd) (exprLoop_stop fin s4_nil)
  obtain ⟨f, hf⟩ := he
  refine ⟨f, ?_⟩
  simp only at hf
  show line fin f ⟨(2, letB, c) :: (2, x, c2) :: (3, [61], c3) :: t3, 0⟩ = _
  unfold line
  rw [if_neg (by simp), if_pos (by simp [isKind, headText])]
  have e4 : name fin (St.adv ⟨(2, letB, c) :: (2, x, c2) :: (3, [61], c3) :: t3, 0⟩) = some (.ok (x, ⟨(3, [61], c3) :: t3, 0⟩)) := by unfold name; rw [if_pos (by rfl)]; rfl
  have e5 : want fin [61] ⟨(3, [61], c3) :: t3, 0⟩ = some (.ok ((), ⟨t3, 0⟩)) := by unfold want; rw [if_pos (by simp [isMark])]; rfl
  rw [e4]
  simp only [PR.bind]
  rw [e5]
  simp only [hf]
  unfold done
  rw [if_pos rfl]; rfl
 | cmd x l =>
  obtain ⟨_, hx, hwl⟩ : NameOk x ∧ x ≠ letB ∧ l.wf := hw
  obtain ⟨c, t, rfl, h1⟩ := Is.cons (x := (2, x)) hi
  have hne : (isKind 2 ((2, x, c) :: t) && headText ((2, x, c) :: t) == letB) = false := by simp [isKind, headText, hx]
  have e4 : name fin ⟨(2, x, c) :: t, 0⟩ = some (.ok (x, ⟨t, 0⟩)) := by unfold name; rw [if_pos (by rfl)]; rfl
  cases l with
  | nil =>
   have e1 := Is.nil h1
   subst e1
   refine ⟨0, ?_⟩
   show line fin 0 ⟨[(2, x, c)], 0⟩ = _
   unfold line
   rw [if_neg (by simp)]
   simp only [hne, Bool.false_eq_true, if_false]
   rw [e4]
   simp only [PR.bind, if_true]
   unfold done
   rw [if_pos (by rfl)]; rfl
  | cons a l =>
   obtain ⟨f, hf⟩ := parts_is (pe_all fin a) (pes_all fin l) (o := 0) hwl h1 s4_nil rfl (by rw [Nat.zero_add]; exact hd)
   refine ⟨f, ?_⟩
   simp only at hf
   show line fin f ⟨(2, x, c) :: t, 0⟩ = _
   have ht : t ≠ [] := by
    intro e
    subst e
    obtain ⟨b, hb, hk⟩ := h1
    have hb0 : b = [] := by simpa using hb.symm
    subst hb0
    have h0 : (Exs.cons a l).tk = [] := hk.symm
    simp only [Exs.tk, List.append_eq_nil_iff] at h0
    exact tk_ne a h0.1
   unfold line
   rw [if_neg (by simp)]
   simp only [hne, Bool.false_eq_true, if_false]
   rw [e4]
   simp only [PR.bind]
   rw [if_neg ht, hf]
   simp only
   unfold done
   rw [if_pos (by rfl)]; rfl
end SynP
namespace SynP
open LexP
theorem bind_ok {α β : Type} {x : PR α} {f : α → St → PR β} {r : β × St} (h : x.bind f = some (.ok r)) : ∃ a s, x = some (.ok (a, s)) ∧ f a s = some (.ok r) := by
 rcases x with - | (e | ⟨a, s⟩)
 ·cases h
 ·cases h
 ·exact ⟨a, s, rfl, h⟩
def EntOk (x : Bool × Nat) : Prop := x.1 = true → 0 < x.2
theorem entryRow_sum (fin : Nat) : ∀ (f n : Nat) (acc : List (Bool × Nat)) (s : St) (r : (Nat × List (Bool × Nat)) × St), entryRow fin f n acc s = some (.ok r) → ∃ l, r.1.2 = acc ++ l ∧ r.1.1 = n + l.length ∧ (∀ x ∈ l, EntOk x)
 | 0, _, _, _, _, h => by cases h
 | f + 1, n, acc, s, r, h => by
  unfold entryRow at h
  split at h
  ·obtain ⟨m, s', h1, h2⟩ := bind_ok h
   obtain ⟨l, a1, a2, a3⟩ := entryRow_sum fin f _ _ _ _ h2
   refine ⟨(isMark [45] s.ts && decide (0 < m), m) :: l, by rw [a1, List.append_assoc]; rfl, by rw [a2, List.length_cons]; omega, fun x hx => ?_⟩
   rcases List.mem_cons.1 hx with rfl | hx
   ·intro hq; simp at hq; exact hq.2
   ·exact a3 x hx
  ·unfold ret at h
   cases h
   exact ⟨[], by simp, by simp, fun x hx => by cases hx⟩
theorem entries_sum (fin : Nat) : ∀ (f : Nat) (acc : List (Bool × Nat)) (lens : List Nat) (s : St) (r : (List (Bool × Nat) × List Nat) × St), entries fin f acc lens s = some (.ok r) → acc.length = lens.sum → (∀ x ∈ acc, EntOk x) → r.1.1.length = r.1.2.sum ∧ (∀ x ∈ r.1.1, EntOk x) ∧ 0 < r.1.2.length
 | 0, _, _, _, _, h => by cases h
 | f + 1, acc, lens, s, r, h => by
  intro hs ho
  unfold entries at h
  obtain ⟨q, s1, h1, h2⟩ := bind_ok h
  obtain ⟨l, a1, a2, a3⟩ := entryRow_sum fin f _ _ _ _ h1
  simp only at a1 a2
  have hs2 : q.2.length = (lens ++ [q.1]).sum := by rw [a1, a2, List.length_append, List.sum_append, hs]; simp
  have ho2 : ∀ x ∈ q.2, EntOk x := by
   intro x hx
   rw [a1] at hx
   rcases List.mem_append.1 hx with h | h
   ·exact ho x h
   ·exact a3 x h
  split at h2
  ·unfold ret at h2
   cases h2
   exact ⟨hs2, ho2, by simp⟩
  ·obtain ⟨u, s2, h3, h4⟩ := bind_ok h2
   exact entries_sum fin f _ _ _ _ h4 hs2 ho2
theorem sum_same : ∀ (l : List Nat) (k : Nat), (∀ x ∈ l, x = k) → l.sum = l.length * k
 | [], _, _ => by simp
 | a :: l, k, h => by
  rw [List.sum_cons, List.length_cons, sum_same l k (fun x hx => h x (List.mem_cons_of_mem _ hx)), h a (by simp), Nat.succ_mul]; omega
theorem matrix_ok {fin f : Nat} {s : St} {r : MatV × St} (h : matrix fin f s = some (.ok r)) : MatOk r.1 := by
 unfold matrix at h
 obtain ⟨u, s1, h1, h2⟩ := bind_ok h
 split at h2
 ·unfold matShape at h2
  obtain ⟨a, s2, -, h3⟩ := bind_ok h2
  obtain ⟨-, s3, -, h4⟩ := bind_ok h3
  obtain ⟨c, s4, -, h5⟩ := bind_ok h4
  obtain ⟨-, s5, -, h6⟩ := bind_ok h5
  split at h6
  ·cases h6
  ·rename_i hn
   unfold ret at h6
   cases h6
   have hq : ∀ n, ¬ 64 < side n → n ≤ 64 := by
    intro n hn
    unfold side at hn
    split at hn <;> omega
   simp at hn
   refine ⟨hq a (by omega), hq c (by omega), by simp, fun x hx => ?_⟩
   have := List.eq_of_mem_replicate hx
   subst this
   intro h; cases h
 ·obtain ⟨q, s2, h3, h4⟩ := bind_ok h2
  obtain ⟨e1, e2, e3⟩ := entries_sum fin f _ _ _ _ h3 rfl (fun x hx => by cases hx)
  unfold matDone at h4
  split at h4
  ·cases h4
  ·rename_i hany
   split at h4
   ·cases h4
   ·rename_i hn
    unfold ret at h4
    cases h4
    simp at hn hany
    refine ⟨hn.1, by show q.2.headD 0 ≤ 64; have := hn.2; cases hq : q.2 <;> simp [hq] at this ⊢ <;> exact this, ?_, e2⟩
    show q.1.length = q.2.length * q.2.headD 0
    rw [e1]
    refine sum_same _ _ (fun x hx => ?_)
    have := hany x hx
    simpa using this
end SynP
