/- Joined texts of this claim's proof: SynG, SynD, SynV. -/
import Derived.Test.YtgfmiladfeoldaaGreatDoorPk26
import Derived.Test.YtgfmiladfeoldaaGreatDoorPk33
import Derived.Test.YtgfmiladfeoldaaGreatDoorPk35
import Derived.Test.YtgfmiladfeoldaaGreatDoorPk34
set_option linter.unusedSimpArgs false
set_option linter.unusedVariables false
namespace SynP
open LexP
structure NI where
 op : Int
 text : Bytes
 kids : List Int
deriving DecidableEq
def Node.toI (n : Node) : NI := ⟨n.op, n.text, n.kids.map fun k : Nat => (k : Int)⟩
def cnt (op : Int) (k : Nat) : Bool :=
 if op = 1 ∨ op = 2 ∨ op = 3 ∨ op = 13 ∨ op = 14 then k == 0
 else if op = 4 ∨ op = 5 ∨ op = 9 ∨ op = 11 then k == 1
 else if op = 6 ∨ op = 7 ∨ op = 8 then k == 2
 else if op = 10 then decide (1 ≤ k)
 else decide (op = 12)
def wholeI (op : Int) : Bool := op == 11 || op == 12 || op == 14
def kidsOf (free : List Nat) (k : Nat) : List Int := (free.drop (free.length - k)).map fun k : Nat => (k : Int)
def stepOk (W : Int → Bytes → Bool) (n i : Nat) (free : List Nat) (x : NI) : Bool :=
 !(wholeI x.op != (i + 1 == n) || !cnt x.op x.kids.length || decide (free.length < x.kids.length) || !W x.op x.text)
def grownL (W : Int → Bytes → Bool) (n : Nat) : Nat → List Nat → List NI → Bool
 | _, free, [] => free.length == 1
 | i, free, x :: l =>
  if stepOk W n i free x then
   if x.kids = kidsOf free x.kids.length then grownL W n (i + 1) (free.take (free.length - x.kids.length) ++ [i]) l else false
  else false
structure WOk (W : Int → Bytes → Bool) : Prop where
 num : ∀ t, W 1 t = true ↔ ∃ n, t = decT n
 pow : ∀ t, W 9 t = true ↔ ∃ n, t = decT n
 name : ∀ t, W 2 t = true ↔ NameOk t
 call : ∀ t, W 10 t = true ↔ NameOk t
 lets : ∀ t, W 11 t = true ↔ NameOk t
 cmd : ∀ t, W 12 t = true ↔ NameOk t ∧ t ≠ letB
 mat : ∀ t, W 3 t = true ↔ ∃ m, MatOk m ∧ t = matT m
 cpx : ∀ t, W 13 t = true ↔ ∃ l, CpxOk l ∧ t = cpxT l
 none : ∀ (op : Int) t, op = 4 ∨ op = 5 ∨ op = 6 ∨ op = 7 ∨ op = 8 ∨ op = 14 → (W op t = true ↔ t = [])
def flatL : List Ex → Nat → List Node
 | [], _ => []
 | a :: l, o => a.flat o ++ flatL l (o + a.size)
def rootsL : List Ex → Nat → List Nat
 | [], _ => []
 | a :: l, o => (o + a.size - 1) :: rootsL l (o + a.size)
def sizeL : List Ex → Nat
 | [] => 0
 | a :: l => a.size + sizeL l
def ofL : List Ex → Exs
 | [] => .nil
 | a :: l => .cons a (ofL l)
theorem ofL_flat : ∀ (l : List Ex) (o : Nat), (ofL l).flat o = flatL l o
 | [], _ => rfl
 | a :: l, o => by show a.flat o ++ (ofL l).flat _ = _; rw [ofL_flat l]; rfl
theorem ofL_roots : ∀ (l : List Ex) (o : Nat), (ofL l).roots o = rootsL l o
 | [], _ => rfl
 | a :: l, o => by show _ :: (ofL l).roots _ = _; rw [ofL_roots l]; rfl
theorem ofL_size : ∀ (l : List Ex), (ofL l).size = sizeL l
 | [] => rfl
 | a :: l => by show _ + (ofL l).size = _; rw [ofL_size l]; rfl
theorem ofL_wf : ∀ (l : List Ex), (∀ e ∈ l, e.wf) → (ofL l).wf
 | [], _ => trivial
 | a :: l, h => ⟨h a (by simp), ofL_wf l (fun e he => h e (List.mem_cons_of_mem _ he))⟩
theorem flatL_app : ∀ (a b : List Ex) (o : Nat), flatL (a ++ b) o = flatL a o ++ flatL b (o + sizeL a)
 | [], _, _ => rfl
 | x :: a, b, o => by
  show x.flat o ++ flatL (a ++ b) _ = x.flat o ++ flatL a _ ++ _
  rw [flatL_app a b, List.append_assoc, Nat.add_assoc]; rfl
theorem rootsL_app : ∀ (a b : List Ex) (o : Nat), rootsL (a ++ b) o = rootsL a o ++ rootsL b (o + sizeL a)
 | [], _, _ => rfl
 | x :: a, b, o => by
  show _ :: rootsL (a ++ b) _ = _ :: rootsL a _ ++ _
  rw [rootsL_app a b, Nat.add_assoc]; rfl
theorem sizeL_app : ∀ (a b : List Ex), sizeL (a ++ b) = sizeL a + sizeL b
 | [], _ => by simp [sizeL]
 | x :: a, b => by show x.size + sizeL (a ++ b) = x.size + sizeL a + _; rw [sizeL_app a b, Nat.add_assoc]
theorem rootsL_len : ∀ (a : List Ex) (o : Nat), (rootsL a o).length = a.length
 | [], _ => rfl
 | x :: a, o => by show (rootsL a _).length + 1 = a.length + 1; rw [rootsL_len a]
def nL (l : List Node) : List NI := l.map Node.toI
theorem nL_app (a b : List Node) : nL (a ++ b) = nL a ++ nL b := by simp [nL]
theorem build {W : Int → Bytes → Bool} (hW : WOk W) {x : NI} {es : List Ex} {o : Nat} (hc : cnt x.op es.length = true) (hw : wholeI x.op = false) (hk : x.kids = (rootsL es o).map fun k : Nat => (k : Int)) (ht : W x.op x.text = true) (he : ∀ e ∈ es, e.wf) :
  ∃ e : Ex, e.wf ∧ nL (e.flat o) = nL (flatL es o) ++ [x] ∧ e.size = sizeL es + 1 := by
 obtain ⟨op, text, kids⟩ := x
 simp only at hc hw hk ht
 subst hk
 unfold cnt at hc
 split at hc
 ·rename_i h
  have e0 : es = [] := List.eq_nil_of_length_eq_zero (by simpa using hc)
  subst e0
  rcases h with rfl | rfl | rfl | rfl | rfl
  ·obtain ⟨n, rfl⟩ := (hW.num _).1 ht
   exact ⟨.num n, trivial, rfl, rfl⟩
  ·exact ⟨.name text, (hW.name _).1 ht, rfl, rfl⟩
  ·obtain ⟨m, hm, rfl⟩ := (hW.mat _).1 ht
   exact ⟨.mat m, hm, rfl, rfl⟩
  ·obtain ⟨m, hm, rfl⟩ := (hW.cpx _).1 ht
   exact ⟨.cpx m, hm, rfl, rfl⟩
  ·cases hw
 ·split at hc
  ·rename_i h
   obtain ⟨a, rfl⟩ : ∃ a, es = [a] := by
    rcases es with - | ⟨a, - | ⟨b, l⟩⟩
    ·cases hc
    ·exact ⟨a, rfl⟩
    ·simp at hc
   have ha := he a (by simp)
   rcases h with rfl | rfl | rfl | rfl
   ·have := (hW.none _ text (by simp)).1 ht
    subst this
    exact ⟨.neg a, ha, by simp [Ex.flat, nL, flatL, rootsL, Node.toI], by simp [Ex.size, sizeL]⟩
   ·have := (hW.none _ text (by simp)).1 ht
    subst this
    exact ⟨.turn a, ha, by simp [Ex.flat, nL, flatL, rootsL, Node.toI], by simp [Ex.size, sizeL]⟩
   ·obtain ⟨n, rfl⟩ := (hW.pow _).1 ht
    exact ⟨.pow a n, ha, by simp [Ex.flat, nL, flatL, rootsL, Node.toI], by simp [Ex.size, sizeL]⟩
   ·cases hw
  ·split at hc
   ·rename_i h
    obtain ⟨a, b, rfl⟩ : ∃ a b, es = [a, b] := by
     rcases es with - | ⟨a, - | ⟨b, - | ⟨c, l⟩⟩⟩
     ·cases hc
     ·cases hc
     ·exact ⟨a, b, rfl⟩
     ·simp at hc
    have ha := he a (by simp)
    have hb := he b (by simp)
    have := (hW.none op text (by omega)).1 ht
    subst this
    rcases h with rfl | rfl | rfl
    ·exact ⟨.add a b, ⟨ha, hb⟩, by simp [Ex.flat, nL, flatL, rootsL, Node.toI], by simp [Ex.size, sizeL, Nat.add_assoc]⟩
    ·exact ⟨.sub a b, ⟨ha, hb⟩, by simp [Ex.flat, nL, flatL, rootsL, Node.toI], by simp [Ex.size, sizeL, Nat.add_assoc]⟩
    ·exact ⟨.mul a b, ⟨ha, hb⟩, by simp [Ex.flat, nL, flatL, rootsL, Node.toI], by simp [Ex.size, sizeL, Nat.add_assoc]⟩
   ·split at hc
    ·rename_i h
     subst h
     have hne : ofL es ≠ .nil := by
      cases es with
      | nil => simp at hc
      | cons a l => simp [ofL]
     refine ⟨.call text (ofL es), ⟨(hW.call _).1 ht, hne, ofL_wf es he⟩, ?_, ?_⟩
     ·show nL ((ofL es).flat o ++ [⟨10, text, (ofL es).roots o⟩]) = _
      rw [ofL_flat, ofL_roots, nL_app]; rfl
     ·show (ofL es).size + 1 = _
      rw [ofL_size]
    ·have : op = 12 := by simpa using hc
     subst this
     cases hw
theorem drop_split {α : Type} (l : List α) {k : Nat} (h : k ≤ l.length) : ∃ a b, l = a ++ b ∧ b.length = k ∧ a.length = l.length - k := ⟨l.take (l.length - k), l.drop (l.length - k), (List.take_append_drop _ _).symm, by rw [List.length_drop]; omega, by rw [List.length_take]; omega⟩
theorem kids_split {a b : List Ex} {k : Nat} (hb : b.length = k) : kidsOf (rootsL (a ++ b) 0) k = (rootsL b (sizeL a)).map (fun k : Nat => (k : Int)) ∧ (rootsL (a ++ b) 0).take ((rootsL (a ++ b) 0).length - k) = rootsL a 0 := by
 have h1 : (rootsL (a ++ b) 0).length - k = (rootsL a 0).length := by rw [rootsL_len, rootsL_len, List.length_append]; omega
 unfold kidsOf
 rw [h1, rootsL_app, List.drop_left, List.take_left, Nat.zero_add]
 exact ⟨rfl, rfl⟩
theorem grown_line {W : Int → Bytes → Bool} (hW : WOk W) (n : Nat) : ∀ (l : List NI) (es : List Ex), (∀ e ∈ es, e.wf) → sizeL es + l.length = n → grownL W n (sizeL es) (rootsL es 0) l = true → l ≠ [] →
  ∃ ln : Ln, ln.wf ∧ nL ln.flat = nL (flatL es 0) ++ l := by
 intro l
 induction l with
 | nil => intro es _ _ _ h; exact absurd rfl h
 | cons x l ih =>
  intro es he hn hg _
  rw [grownL] at hg
  split at hg
  ·rename_i hs
   split at hg
   ·rename_i hk
    unfold stepOk at hs
    simp only [Bool.not_eq_true', Bool.or_eq_false_iff, bne_eq_false_iff_eq, Bool.not_eq_false', decide_eq_false_iff_not] at hs
    obtain ⟨⟨⟨h1, h2⟩, h3⟩, h4⟩ := hs
    rw [rootsL_len] at h3
    obtain ⟨a, b, rfl, hb, ha⟩ := drop_split es (k := x.kids.length) (by omega)
    obtain ⟨k1, k2⟩ := kids_split (a := a) hb
    rw [k1] at hk
    rw [k2] at hg
    have hea : ∀ e ∈ a, e.wf := fun e h => he e (List.mem_append_left _ h)
    have heb : ∀ e ∈ b, e.wf := fun e h => he e (List.mem_append_right _ h)
    rw [List.length_cons] at hn
    cases l with
    | nil =>
     have hlast : wholeI x.op = true := by rw [h1]; simp at hn ⊢; exact hn
     rw [grownL] at hg
     have ha0 : a = [] := by
      have : (rootsL a 0).length = 0 := by simpa using hg
      rw [rootsL_len] at this
      exact List.eq_nil_of_length_eq_zero this
     subst ha0
     obtain ⟨op, text, kids⟩ := x
     simp only at h2 h4 hk hlast hb
     rw [← hb] at h2
     have hk' : kids = (rootsL b 0).map fun k : Nat => (k : Int) := hk
     subst hk'
     have hop : op = 11 ∨ op = 12 ∨ op = 14 := by simpa [wholeI, or_assoc] using hlast
     rcases hop with rfl | rfl | rfl
     ·obtain ⟨e, rfl⟩ : ∃ e, b = [e] := by
       rcases b with - | ⟨e, - | ⟨f, b⟩⟩
       ·cases h2
       ·exact ⟨e, rfl⟩
       ·simp [cnt] at h2
      refine ⟨.lets text e, ⟨(hW.lets _).1 h4, heb e (by simp)⟩, ?_⟩
      simp [Ln.flat, nL, flatL, rootsL, Node.toI]
     ·have hc := (hW.cmd _).1 h4
      refine ⟨.cmd text (ofL b), ⟨hc.1, hc.2, ofL_wf b heb⟩, ?_⟩
      show nL ((ofL b).flat 0 ++ [⟨12, text, (ofL b).roots 0⟩]) = _
      rw [ofL_flat, ofL_roots, nL_app]; rfl
     ·have hb0 : b = [] := List.eq_nil_of_length_eq_zero (by simpa [cnt] using h2)
      subst hb0
      have := (hW.none _ text (by simp)).1 h4
      subst this
      exact ⟨.nothing, trivial, rfl⟩
    | cons y l =>
     have hnl : wholeI x.op = false := by
      rw [h1]
      simp only [List.length_cons] at hn
      simp; omega
     rw [← hb] at h2
     obtain ⟨e, e1, e2, e3⟩ := build hW h2 hnl hk h4 heb
     have hsz : sizeL (a ++ [e]) = sizeL (a ++ b) + 1 := by
      rw [sizeL_app, sizeL_app]
      show sizeL a + (e.size + 0) = _
      omega
     have hr : rootsL (a ++ [e]) 0 = rootsL a 0 ++ [sizeL (a ++ b)] := by
      rw [rootsL_app, sizeL_app]
      show rootsL a 0 ++ [0 + sizeL a + e.size - 1] = _
      rw [e3]
      congr 2
      omega
     obtain ⟨ln, w1, w2⟩ := ih (a ++ [e]) (fun f hf => by
      rcases List.mem_append.1 hf with hf | hf
      ·exact hea f hf
      ·rw [List.mem_singleton.1 hf]; exact e1) (by rw [hsz]; omega) (by rw [hsz, hr]; exact hg) (by simp)
     refine ⟨ln, w1, w2.trans ?_⟩
     rw [flatL_app, flatL_app, nL_app, nL_app]
     have : flatL [e] (0 + sizeL a) = e.flat (sizeL a) := by show e.flat (0 + sizeL a) ++ [] = _; rw [List.append_nil, Nat.zero_add]
     rw [this, e2, Nat.zero_add]
     simp [List.append_assoc]
   ·cases hg
  ·cases hg
theorem step_go {W : Int → Bytes → Bool} {n i : Nat} {free fr : List Nat} {x : NI} {ks : List Nat} {l : List NI} (hf : free = fr ++ ks) (hk : x.kids = ks.map fun k : Nat => (k : Int)) (hc : cnt x.op ks.length = true) (ht : W x.op x.text = true) (hw : wholeI x.op = (i + 1 == n)) :
  grownL W n i free (x :: l) = grownL W n (i + 1) (fr ++ [i]) l := by
 subst hf
 have hkl : x.kids.length = ks.length := by rw [hk, List.length_map]
 rw [grownL, if_pos, if_pos]
 ·have : (fr ++ ks).length - x.kids.length = fr.length := by rw [hkl, List.length_append]; omega
  rw [this, List.take_left]
 ·unfold kidsOf
  have : (fr ++ ks).length - x.kids.length = fr.length := by rw [hkl, List.length_append]; omega
  rw [this, List.drop_left]; exact hk
 ·unfold stepOk
  rw [hkl, hc, ht, hw]
  have : ¬ ((fr ++ ks).length < ks.length) := by rw [List.length_append]; omega
  simp [this]
theorem size_pos' : ∀ e : Ex, 0 < e.size := by
 intro e; cases e <;> simp [Ex.size]
mutual
theorem ex_grown {W : Int → Bytes → Bool} (hW : WOk W) (n : Nat) : ∀ (e : Ex) (o : Nat) (free : List Nat) (l : List NI), e.wf → o + e.size < n → grownL W n o free (nL (e.flat o) ++ l) = grownL W n (o + e.size) (free ++ [o + e.size - 1]) l
 | .num m, o, free, l, _, hn => by
  have hn' : o + 1 < n := hn
  exact step_go (ks := []) (by simp) rfl rfl ((hW.num _).2 ⟨m, rfl⟩) (by show false = _; simp; omega)
 | .name x, o, free, l, h, hn => by
  have hn' : o + 1 < n := hn
  exact step_go (ks := []) (by simp) rfl rfl ((hW.name _).2 h) (by show false = _; simp; omega)
 | .mat m, o, free, l, h, hn => by
  have hn' : o + 1 < n := hn
  exact step_go (ks := []) (by simp) rfl rfl ((hW.mat _).2 ⟨m, h, rfl⟩) (by show false = _; simp; omega)
 | .cpx c, o, free, l, h, hn => by
  have hn' : o + 1 < n := hn
  exact step_go (ks := []) (by simp) rfl rfl ((hW.cpx _).2 ⟨c, h, rfl⟩) (by show false = _; simp; omega)
 | .neg a, o, free, l, h, hn => by
  have hn' : o + (a.size + 1) < n := hn
  have hp := size_pos' a
  show grownL W n o free (nL (a.flat o ++ [⟨4, [], [o + a.size - 1]⟩]) ++ l) = _
  rw [nL_app, List.append_assoc, ex_grown hW n a o free _ h (by omega)]
  have := step_go (W := W) (n := n) (i := o + a.size) (free := free ++ [o + a.size - 1]) (fr := free) (x := Node.toI ⟨4, [], [o + a.size - 1]⟩) (ks := [o + a.size - 1]) (l := l) rfl rfl rfl ((hW.none 4 _ (by simp)).2 rfl) (by show false = _; simp; omega)
  exact this
 | .turn a, o, free, l, h, hn => by
  have hn' : o + (a.size + 1) < n := hn
  have hp := size_pos' a
  show grownL W n o free (nL (a.flat o ++ [⟨5, [], [o + a.size - 1]⟩]) ++ l) = _
  rw [nL_app, List.append_assoc, ex_grown hW n a o free _ h (by omega)]
  have := step_go (W := W) (n := n) (i := o + a.size) (free := free ++ [o + a.size - 1]) (fr := free) (x := Node.toI ⟨5, [], [o + a.size - 1]⟩) (ks := [o + a.size - 1]) (l := l) rfl rfl rfl ((hW.none 5 _ (by simp)).2 rfl) (by show false = _; simp; omega)
  exact this
 | .pow a m, o, free, l, h, hn => by
  have hn' : o + (a.size + 1) < n := hn
  have hp := size_pos' a
  show grownL W n o free (nL (a.flat o ++ [⟨9, decT m, [o + a.size - 1]⟩]) ++ l) = _
  rw [nL_app, List.append_assoc, ex_grown hW n a o free _ h (by omega)]
  have := step_go (W := W) (n := n) (i := o + a.size) (free := free ++ [o + a.size - 1]) (fr := free) (x := Node.toI ⟨9, decT m, [o + a.size - 1]⟩) (ks := [o + a.size - 1]) (l := l) rfl rfl rfl ((hW.pow _).2 ⟨m, rfl⟩) (by show false = _; simp; omega)
  exact this
 | .add a b, o, free, l, h, hn => by
  have hn' : o + (a.size + b.size + 1) < n := hn
  have hp := size_pos' a
  have hq := size_pos' b
  show grownL W n o free (nL (a.flat o ++ b.flat (o + a.size) ++ [⟨6, [], [o + a.size - 1, o + a.size + b.size - 1]⟩]) ++ l) = _
  rw [nL_app, nL_app, List.append_assoc, List.append_assoc, ex_grown hW n a o free _ h.1 (by omega), ex_grown hW n b _ _ _ h.2 (by omega)]
  have := step_go (W := W) (n := n) (i := o + a.size + b.size) (free := free ++ [o + a.size - 1] ++ [o + a.size + b.size - 1]) (fr := free) (x := Node.toI ⟨6, [], [o + a.size - 1, o + a.size + b.size - 1]⟩) (ks := [o + a.size - 1, o + a.size + b.size - 1]) (l := l) (by simp) rfl rfl ((hW.none 6 _ (by simp)).2 rfl) (by show false = _; simp; omega)
  refine this.trans ?_
  have e : o + (Ex.add a b).size = o + a.size + b.size + 1 := by show o + (a.size + b.size + 1) = _; omega
  rw [e]; rfl
 | .sub a b, o, free, l, h, hn => by
  have hn' : o + (a.size + b.size + 1) < n := hn
  have hp := size_pos' a
  have hq := size_pos' b
  show grownL W n o free (nL (a.flat o ++ b.flat (o + a.size) ++ [⟨7, [], [o + a.size - 1, o + a.size + b.size - 1]⟩]) ++ l) = _
  rw [nL_app, nL_app, List.append_assoc, List.append_assoc, ex_grown hW n a o free _ h.1 (by omega), ex_grown hW n b _ _ _ h.2 (by omega)]
  have := step_go (W := W) (n := n) (i := o + a.size + b.size) (free := free ++ [o + a.size - 1] ++ [o + a.size + b.size - 1]) (fr := free) (x := Node.toI ⟨7, [], [o + a.size - 1, o + a.size + b.size - 1]⟩) (ks := [o + a.size - 1, o + a.size + b.size - 1]) (l := l) (by simp) rfl rfl ((hW.none 7 _ (by simp)).2 rfl) (by show false = _; simp; omega)
  refine this.trans ?_
  have e : o + (Ex.sub a b).size = o + a.size + b.size + 1 := by show o + (a.size + b.size + 1) = _; omega
  rw [e]; rfl
 | .mul a b, o, free, l, h, hn => by
  have hn' : o + (a.size + b.size + 1) < n := hn
  have hp := size_pos' a
  have hq := size_pos' b
  show grownL W n o free (nL (a.flat o ++ b.flat (o + a.size) ++ [⟨8, [], [o + a.size - 1, o + a.size + b.size - 1]⟩]) ++ l) = _
  rw [nL_app, nL_app, List.append_assoc, List.append_assoc, ex_grown hW n a o free _ h.1 (by omega), ex_grown hW n b _ _ _ h.2 (by omega)]
  have := step_go (W := W) (n := n) (i := o + a.size + b.size) (free := free ++ [o + a.size - 1] ++ [o + a.size + b.size - 1]) (fr := free) (x := Node.toI ⟨8, [], [o + a.size - 1, o + a.size + b.size - 1]⟩) (ks := [o + a.size - 1, o + a.size + b.size - 1]) (l := l) (by simp) rfl rfl ((hW.none 8 _ (by simp)).2 rfl) (by show false = _; simp; omega)
  refine this.trans ?_
  have e : o + (Ex.mul a b).size = o + a.size + b.size + 1 := by show o + (a.size + b.size + 1) = _; omega
  rw [e]; rfl
 | .call x ks, o, free, l, h, hn => by
  have hn' : o + (ks.size + 1) < n := hn
  show grownL W n o free (nL (ks.flat o ++ [⟨10, x, ks.roots o⟩]) ++ l) = _
  rw [nL_app, List.append_assoc, exs_grown hW n ks o free _ h.2.2 (by omega)]
  have hlen : cnt 10 (ks.roots o).length = true := by
   cases ks with
   | nil => exact absurd rfl h.2.1
   | cons a k => simp [cnt, Exs.roots]
  have := step_go (W := W) (n := n) (i := o + ks.size) (free := free ++ ks.roots o) (fr := free) (x := Node.toI ⟨10, x, ks.roots o⟩) (ks := ks.roots o) (l := l) rfl rfl hlen ((hW.call _).2 h.1) (by show false = _; simp; omega)
  exact this
theorem exs_grown {W : Int → Bytes → Bool} (hW : WOk W) (n : Nat) : ∀ (ks : Exs) (o : Nat) (free : List Nat) (l : List NI), ks.wf → o + ks.size < n → grownL W n o free (nL (ks.flat o) ++ l) = grownL W n (o + ks.size) (free ++ ks.roots o) l
 | .nil, o, free, l, _, _ => by
  show grownL W n o free ([] ++ l) = grownL W n (o + 0) (free ++ []) l
  rw [List.append_nil]; rfl
 | .cons a ks, o, free, l, h, hn => by
  have hn' : o + (a.size + ks.size) < n := hn
  show grownL W n o free (nL (a.flat o ++ ks.flat (o + a.size)) ++ l) = grownL W n (o + (a.size + ks.size)) (free ++ (o + a.size - 1) :: ks.roots (o + a.size)) l
  rw [nL_app, List.append_assoc, ex_grown hW n a o free _ h.1 (by omega), exs_grown hW n ks _ _ _ h.2 (by omega)]
  rw [List.append_assoc, Nat.add_assoc]; rfl
end
theorem line_grown {W : Int → Bytes → Bool} (hW : WOk W) (ln : Ln) (h : ln.wf) : grownL W ln.size 0 [] (nL ln.flat) = true := by
 cases ln with
 | nothing =>
  show grownL W 1 0 [] (Node.toI ⟨14, [], []⟩ :: []) = true
  have := step_go (W := W) (n := 1) (i := 0) (free := []) (fr := []) (x := Node.toI ⟨14, [], []⟩) (ks := []) (l := []) rfl rfl rfl ((hW.none 14 _ (by simp)).2 rfl) rfl
  exact this.trans rfl
 | lets x e =>
  have hp := size_pos' e
  show grownL W (e.size + 1) 0 [] (nL (e.flat 0 ++ [⟨11, x, [e.size - 1]⟩])) = true
  rw [nL_app, ex_grown hW _ e 0 [] _ h.2 (by omega)]
  have := step_go (W := W) (n := e.size + 1) (i := 0 + e.size) (free := [] ++ [0 + e.size - 1]) (fr := []) (x := Node.toI ⟨11, x, [e.size - 1]⟩) (ks := [e.size - 1]) (l := []) (by simp) rfl rfl ((hW.lets _).2 h.1) (by show true = _; simp)
  exact this.trans rfl
 | cmd x ks =>
  show grownL W (ks.size + 1) 0 [] (nL (ks.flat 0 ++ [⟨12, x, ks.roots 0⟩])) = true
  rw [nL_app, exs_grown hW _ ks 0 [] _ h.2.2 (by omega)]
  have := step_go (W := W) (n := ks.size + 1) (i := 0 + ks.size) (free := [] ++ ks.roots 0) (fr := []) (x := Node.toI ⟨12, x, ks.roots 0⟩) (ks := ks.roots 0) (l := []) rfl rfl rfl ((hW.cmd _).2 ⟨h.1, h.2.1⟩) (by show true = _; simp)
  exact this.trans rfl
end SynP
namespace SynP
open LexP
theorem join_lx {α : Type} {sep : Bytes} {sk : List KT} (hs : LxA sep sk) (hd : Sd sep) (f : α → Bytes) (g : α → List KT) : ∀ l : List α, (∀ x ∈ l, LxD (f x) (g x)) → LxD (joinB sep (l.map f)) (joinK sk (l.map g))
 | [], _ => LxA.nil.d
 | [a], h => h a (by simp)
 | a :: b :: l, h => by
  have h1 := join_lx hs hd f g (b :: l) (fun x hx => h x (List.mem_cons_of_mem _ hx))
  have h2 := ((h a (by simp)).appA hs hd).appD h1
  exact h2
theorem joinK_nil : ∀ l : List (List KT), joinK [] l = l.flatten
 | [] => rfl
 | [a] => by simp [joinK]
 | a :: b :: l => by
  show a ++ [] ++ joinK [] (b :: l) = _
  rw [joinK_nil (b :: l)]; simp
theorem rowsOf_map {α β : Type} (f : α → β) (c : Nat) : ∀ (r : Nat) (l : List α), rowsOf c r (l.map f) = (rowsOf c r l).map (List.map f)
 | 0, _ => rfl
 | r + 1, l => by
  show (l.map f).take c :: rowsOf c r ((l.map f).drop c) = (l.take c).map f :: (rowsOf c r (l.drop c)).map (List.map f)
  rw [← rowsOf_map f c r, List.map_take, List.map_drop]
theorem sd (x : UInt8) (t : Bytes) (h : delim x = true) : Sd (x :: t) := ⟨x, t, rfl, h⟩
theorem intT_lx (x : Bool × Nat) : LxD (intT x) (intK x) := by
 unfold intT intK
 cases x.1 with
 | true => exact (lx_mark (x := 45) (by decide)).appD (lx_num x.2)
 | false => exact lx_num x.2
theorem row_lx (l : List (Bool × Nat)) : LxD (joinB [32] (l.map intT)) (l.flatMap intK) := by
 have := join_lx lx_blank (sd 32 [] (by decide)) intT intK l (fun x _ => intT_lx x)
 rw [joinK_nil] at this
 rwa [List.flatMap]
theorem mat_lx (m : MatV) : LxA (matT m) (matK m) := by
 unfold matT matK
 have hb := lx_mark (x := 91) (by decide)
 have he := lx_mark (x := 93) (by decide)
 split
 ·have h1 := (((hb.appD (lx_num m.rows)).appA (lx_mark (x := 58) (by decide)) (sd 58 [] (by decide))).appD (lx_num m.cols)).appA he (sd 93 [] (by decide))
  exact h1
 ·rw [rowsOf_map, List.map_map]
  have h1 := join_lx (sep := [59, 32]) ((lx_mark (x := 59) (by decide)).app lx_blank) (sd 59 [32] (by decide)) (joinB [32] ∘ List.map intT) (fun l => l.flatMap intK) (rowsOf m.cols m.rows m.at_) (fun l _ => row_lx l)
  have h2 := (hb.appD h1).appA he (sd 93 [] (by decide))
  exact h2
theorem cpx_lx (l : List (List Nat)) : LxA (cpxT l) (cpxK l) := by
 unfold cpxT cpxK
 have h0 : ∀ s : List Nat, LxD (joinB [32] (s.map decT)) (s.map numK) := by
  intro s
  have := join_lx lx_blank (sd 32 [] (by decide)) decT (fun n => [numK n]) s (fun x _ => lx_num x)
  rw [joinK_nil] at this
  have e : ∀ l : List Nat, (l.map fun n => [numK n]).flatten = l.map numK := by
   intro l
   induction l with
   | nil => rfl
   | cons a l ih => simp [ih]
  rwa [e] at this
 have h1 := join_lx (sep := [44, 32]) ((lx_mark (x := 44) (by decide)).app lx_blank) (sd 44 [32] (by decide)) (fun s : List Nat => joinB [32] (s.map decT)) (fun s => s.map numK) l (fun s _ => h0 s)
 exact ((lx_mark (x := 123) (by decide)).appD h1).appA (lx_mark (x := 125) (by decide)) (sd 125 [] (by decide))
theorem par_lx {b : Bool} {t : Bytes} {l : List KT} (h : LxD t l) : LxD (par b t) (parK b l) := by
 cases b with
 | false => exact h
 | true => exact (((lx_mark (x := 40) (by decide)).appD h).appA (lx_mark (x := 41) (by decide)) (sd 41 [] (by decide))).d
theorem sum_lx (x : UInt8) (hx : x.toNat < 128 ∧ kindOf x.toNat = 5) : LxA [32, x, 32] [mk x] := (lx_blank.app (lx_mark hx)).app lx_blank
mutual
theorem ex_lx : ∀ e : Ex, e.wf → LxD e.pr e.tk
 | .num n, _ => lx_num n
 | .name x, h => lx_name h
 | .mat m, _ => (mat_lx m).d
 | .cpx l, _ => (cpx_lx l).d
 | .neg a, h => (lx_mark (x := 45) (by decide)).appD (par_lx (ex_lx a h))
 | .turn a, h => ((par_lx (ex_lx a h)).appA (lx_mark (x := 39) (by decide)) (sd 39 [] (by decide))).d
 | .add a b, h => by
  have h1 := ((par_lx (b := loose 6 0 a.op) (ex_lx a h.1)).appA (sum_lx 43 (by decide)) (sd 32 [43, 32] (by decide))).appD (par_lx (b := loose 6 1 b.op) (ex_lx b h.2))
  rw [List.append_assoc (parK _ _)] at h1
  exact h1
 | .sub a b, h => by
  have h1 := ((par_lx (b := loose 7 0 a.op) (ex_lx a h.1)).appA (sum_lx 45 (by decide)) (sd 32 [45, 32] (by decide))).appD (par_lx (b := loose 7 1 b.op) (ex_lx b h.2))
  rw [List.append_assoc (parK _ _)] at h1
  exact h1
 | .mul a b, h => by
  have h1 := ((par_lx (b := loose 8 0 a.op) (ex_lx a h.1)).appA (lx_mark (x := 42) (by decide)) (sd 42 [] (by decide))).appD (par_lx (b := loose 8 1 b.op) (ex_lx b h.2))
  rw [List.append_assoc (parK _ _)] at h1
  exact h1
 | .pow a n, h => by
  have h1 := (par_lx (b := loose 9 0 a.op) (ex_lx a h)).appD ((lx_mark (x := 94) (by decide)).appD (lx_num n)) (sd 94 _ (by decide))
  exact h1
 | .call x l, h => by
  have h1 := (lx_name h.1).appA (((lx_mark (x := 40) (by decide)).appD (exs_lx l h.2.2)).appA (lx_mark (x := 41) (by decide)) (sd 41 [] (by decide))) (sd 40 _ (by decide))
  exact h1.d
theorem exs_lx : ∀ l : Exs, l.wf → LxD l.pr l.tk
 | .nil, _ => LxA.nil.d
 | .cons a l, h => by
  cases l with
  | nil =>
   show LxD (a.pr ++ []) (a.tk ++ [])
   rw [List.append_nil, List.append_nil]
   exact ex_lx a h.1
  | cons b l => exact (ex_lx a h.1).appD (tail_lx (.cons b l) h.2) (sd 44 _ (by decide))
theorem tail_lx : ∀ l : Exs, l.wf → LxD l.prTail l.tkTail
 | .nil, _ => LxA.nil.d
 | .cons a l, h => by
  have h0 : LxA [44, 32] [mk 44] := (lx_mark (x := 44) (by decide)).app lx_blank
  cases l with
  | nil =>
   show LxD ([44, 32] ++ a.pr ++ []) (mk 44 :: (a.tk ++ []))
   rw [List.append_nil, List.append_nil]
   exact h0.appD (ex_lx a h.1)
  | cons b l =>
   have h1 := (h0.appD (ex_lx a h.1)).appD (tail_lx (.cons b l) h.2) (sd 44 _ (by decide))
   exact h1
end
theorem letB_ok : NameOk letB := ⟨1, by rfl⟩
theorem line_lx : ∀ n : Ln, n.wf → LxD n.pr n.tk
 | .nothing, _ => LxA.nil.d
 | .lets x e, h => by
  have h1 := (((((lx_name letB_ok).appA lx_blank (sd 32 [] (by decide))).appD (lx_name h.1)).appA (sum_lx 61 (by decide)) (sd 32 [61, 32] (by decide))).appD (ex_lx e h.2))
  exact h1
 | .cmd x .nil, h => by
  have h1 := lx_name h.1
  show LxD x [(2, x)]
  exact h1
 | .cmd x (.cons a l), h => by
  have h1 := ((lx_name h.1).appA lx_blank (sd 32 [] (by decide))).appD (exs_lx (.cons a l) h.2.2)
  exact h1
theorem parse_pr {n : Ln} (hw : n.wf) (hd : n.dp ≤ 100) : parseV n.pr = if 4096 < n.size then .error (1, 5) else .ok n := by
 obtain ⟨k, ts, h1, h2⟩ := line_lx n hw 1 [] (.inl rfl)
 rw [List.append_nil, chars_nil, Toks_nil] at h1
 have hT : Toks 1 (chars n.pr) = .ok ts := by rw [h1]; simp [Res.after]
 have hi : Is ts n.tk [] := by rw [← h2]; exact Is.all ts
 obtain ⟨f, hf⟩ := line_is ((chars n.pr).length + 1) hw hd hi
 have hg := good_line ((chars n.pr).length + 1) ⟨ts, 0⟩
 rcases hL : line ((chars n.pr).length + 1) (10 * ts.length + 9) ⟨ts, 0⟩ with - | r
 ·simp only [hL] at hg
  exact hg.elim
 ·have e : r = .ok (n, ⟨[], 0⟩) := Ev.one (fun f => line_mono ((chars n.pr).length + 1) f ⟨ts, 0⟩) ⟨_, hL⟩ ⟨f, hf⟩
  subst e
  exact parseV_ok hT hL
end SynP
namespace SynP
open LexP
def readM (t : Bytes) : Except Nat MatV :=
 match Toks 1 (chars t) with
 | .error _ => .error 7
 | .ok ts =>
  match (matrix ((chars t).length + 1) (ts.length + 3) ⟨ts, 0⟩).bind fun m s => done ((chars t).length + 1) m s with
  | none => .error 0
  | some (.error (_, k)) => .error (if k = 2 ∨ k = 5 then k else 7)
  | some (.ok (m, _)) => .ok m
def readC (t : Bytes) : Option (List (List Nat)) :=
 match Toks 1 (chars t) with
 | .error _ => none
 | .ok ts =>
  match (complex ((chars t).length + 1) (ts.length + 2) ⟨ts, 0⟩).bind fun l s => done ((chars t).length + 1) l s with
  | some (.ok (l, _)) => some l
  | _ => none
theorem readM_ok {t : Bytes} {m : MatV} (h : readM t = .ok m) : MatOk m := by
 unfold readM at h
 split at h
 ·cases h
 ·split at h
  ·cases h
  ·cases h
  ·rename_i m' s' he
   cases h
   obtain ⟨a, s, h1, h2⟩ := bind_ok he
   have := done_ok h2
   cases this
   exact matrix_ok h1
theorem readC_ok {t : Bytes} {l : List (List Nat)} (h : readC t = some l) : CpxOk l := by
 unfold readC at h
 split at h
 ·cases h
 ·split at h
  ·rename_i l' s' he
   cases h
   obtain ⟨a, s, h1, h2⟩ := bind_ok he
   have := done_ok h2
   cases this
   exact complex_ne h1
  ·cases h
theorem lxA_toks {t : Bytes} {k : List KT} (h : LxA t k) : ∃ ts, Toks 1 (chars t) = .ok ts ∧ Is ts k [] := by
 obtain ⟨n, ts, h1, h2⟩ := h 1 []
 rw [List.append_nil, chars_nil, Toks_nil] at h1
 exact ⟨ts, by rw [h1]; simp [Res.after], by rw [← h2]; exact Is.all ts⟩
theorem readM_print {m : MatV} (hm : MatOk m) : readM (matT m) = .ok m := by
 obtain ⟨ts, hT, hi⟩ := lxA_toks (mat_lx m)
 obtain ⟨f, hf⟩ := matrix_is ((chars (matT m)).length + 1) (o := 0) hm hi
 have hg := good_matrix ((chars (matT m)).length + 1) (ts.length + 3) (s := ⟨ts, 0⟩) (Nat.le_refl _) (Nat.le_refl _)
 rcases hL : matrix ((chars (matT m)).length + 1) (ts.length + 3) ⟨ts, 0⟩ with - | r
 ·simp only [hL] at hg
  exact hg.elim
 ·have e : r = .ok (m, ⟨[], 0⟩) := Ev.one (fun f => matrix_mono ((chars (matT m)).length + 1) f ⟨ts, 0⟩) ⟨_, hL⟩ ⟨f, hf⟩
  subst e
  unfold readM
  rw [hT]
  simp only [hL]
  rfl
theorem readC_print {l : List (List Nat)} (hl : CpxOk l) : readC (cpxT l) = some l := by
 obtain ⟨ts, hT, hi⟩ := lxA_toks (cpx_lx l)
 obtain ⟨f, hf⟩ := complex_is ((chars (cpxT l)).length + 1) (o := 0) hl hi
 have hg := good_complex ((chars (cpxT l)).length + 1) (ts.length + 2) (s := ⟨ts, 0⟩) (Nat.le_refl _) (Nat.le_refl _)
 rcases hL : complex ((chars (cpxT l)).length + 1) (ts.length + 2) ⟨ts, 0⟩ with - | r
 ·simp only [hL] at hg
  exact hg.elim
 ·have e : r = .ok (l, ⟨[], 0⟩) := Ev.one (fun f => complex_mono ((chars (cpxT l)).length + 1) f ⟨ts, 0⟩) ⟨_, hL⟩ ⟨f, hf⟩
  subst e
  unfold readC
  rw [hT]
  simp only [hL]
  rfl
def numV (t : Bytes) : Bool := decide (t ≠ []) && t.all NumP.isDig && (decT (valOf t) == t)
def namV (t : Bytes) : Bool :=
 match Toks 1 (chars t) with
 | .ok [(k, x, _)] => k == 2 && x == t
 | _ => false
def matV (t : Bytes) : Bool :=
 match readM t with
 | .ok m => matT m == t
 | .error _ => false
def cpxV (t : Bytes) : Bool :=
 match readC t with
 | some l => cpxT l == t
 | none => false
def WV (op : Int) (t : Bytes) : Bool :=
 if op = 1 ∨ op = 9 then numV t
 else if op = 2 ∨ op = 10 ∨ op = 11 then namV t
 else if op = 12 then namV t && t != letB
 else if op = 3 then matV t
 else if op = 13 then cpxV t
 else t == []
theorem numV_iff (t : Bytes) : numV t = true ↔ ∃ n, t = decT n := by
 unfold numV
 constructor
 ·intro h
  simp only [Bool.and_eq_true, beq_iff_eq] at h
  exact ⟨_, h.2.symm⟩
 ·rintro ⟨n, rfl⟩
  rw [valOf_decT]
  simp only [Bool.and_eq_true, beq_iff_eq, decide_eq_true_eq, and_true]
  exact ⟨decT_ne n, List.all_eq_true.2 (decT_dig n)⟩
theorem namV_iff (t : Bytes) : namV t = true ↔ NameOk t := by
 unfold namV NameOk
 constructor
 ·intro h
  split at h
  ·rename_i k x c he
   simp only [Bool.and_eq_true, beq_iff_eq] at h
   obtain ⟨rfl, rfl⟩ := h
   exact ⟨c, he⟩
  ·cases h
 ·rintro ⟨c, h⟩
  rw [h]
  simp
theorem matV_iff (t : Bytes) : matV t = true ↔ ∃ m, MatOk m ∧ t = matT m := by
 unfold matV
 constructor
 ·intro h
  split at h
  ·rename_i m he
   exact ⟨m, readM_ok he, (beq_iff_eq.1 h).symm⟩
  ·cases h
 ·rintro ⟨m, hm, rfl⟩
  rw [readM_print hm]
  simp
theorem cpxV_iff (t : Bytes) : cpxV t = true ↔ ∃ l, CpxOk l ∧ t = cpxT l := by
 unfold cpxV
 constructor
 ·intro h
  split at h
  ·rename_i m he
   exact ⟨m, readC_ok he, (beq_iff_eq.1 h).symm⟩
  ·cases h
 ·rintro ⟨m, hm, rfl⟩
  rw [readC_print hm]
  simp
theorem wv_ok : WOk WV where
 num := numV_iff
 pow := numV_iff
 name := namV_iff
 call := namV_iff
 lets := namV_iff
 cmd := fun t => by
  show (namV t && t != letB) = true ↔ _
  rw [Bool.and_eq_true, namV_iff]
  simp
 mat := matV_iff
 cpx := cpxV_iff
 none := fun op t h => by
  rcases h with rfl | rfl | rfl | rfl | rfl | rfl <;> (show (t == []) = true ↔ _; simp)
end SynP
