/- Joined texts of this claim's proof: SynM, SynT, SynR, SynR2, SynR3, SynG, SynQ. -/
import Derived.Test.YtgfmiladfeoldaaGreatDoorPk11
set_option linter.unusedSimpArgs false
set_option linter.unusedVariables false
namespace SynP
open LexP
def Le {α : Type} (a b : PR α) : Prop := a = none ∨ a = b
theorem Le.refl {α : Type} (a : PR α) : Le a a := .inr rfl
theorem Le.none {α : Type} (b : PR α) : Le (none : PR α) b := .inl rfl
theorem Le.bind {α β : Type} {a a' : PR α} {f f' : α → St → PR β} (h : Le a a') (hf : ∀ x s, Le (f x s) (f' x s)) : Le (a.bind f) (a'.bind f') := by
 rcases h with rfl | rfl
 ·exact .inl rfl
 ·rcases a with _ | (e | ⟨x, s⟩)
  ·exact .inl rfl
  ·exact .inr rfl
  ·exact hf x s
theorem Le.some {α : Type} {a b : PR α} {r : Except (Nat × Nat) (α × St)} (h : Le a b) (ha : a = some r) : b = some r := by
 rcases h with h | h
 ·rw [h] at ha; cases ha
 ·rw [← h]; exact ha
def Stab {α : Type} (g : Nat → PR α) : Prop := ∀ f, Le (g f) (g (f + 1))
def Ev {α : Type} (g : Nat → PR α) (r : Except (Nat × Nat) (α × St)) : Prop := ∃ f, g f = some r
theorem Stab.le {α : Type} {g : Nat → PR α} (h : Stab g) {f f' : Nat} (hf : f ≤ f') {r : Except (Nat × Nat) (α × St)} (hr : g f = some r) : g f' = some r := by
 induction hf with
 | refl => exact hr
 | step _ ih => exact (h _).some ih
theorem Ev.one {α : Type} {g : Nat → PR α} (h : Stab g) {r r' : Except (Nat × Nat) (α × St)} (h1 : Ev g r) (h2 : Ev g r') : r = r' := by
 obtain ⟨f1, h1⟩ := h1
 obtain ⟨f2, h2⟩ := h2
 have a := h.le (Nat.le_max_left f1 f2) h1
 rw [h.le (Nat.le_max_right f1 f2) h2] at a
 exact (Option.some.inj a).symm
end SynP
namespace SynP
open LexP
def Good {α : Type} (n : Nat) : PR α → Prop
 | none => False
 | some (.error e) => 0 < e.2
 | some (.ok (_, s)) => s.ts.length ≤ n
theorem Good.bind {α β : Type} {x : PR α} {f : α → St → PR β} {n m : Nat} (h : Good n x) (hf : ∀ a s, s.ts.length ≤ n → Good m (f a s)) : Good m (x.bind f) := by
 rcases x with _ | (e | ⟨a, s⟩)
 ·exact h
 ·exact h
 ·exact hf a s h
theorem Good.mono {α : Type} {x : PR α} {n m : Nat} (h : Good n x) (hm : n ≤ m) : Good m x := by
 rcases x with _ | (e | ⟨a, s⟩)
 ·exact h
 ·exact h
 ·exact Nat.le_trans h hm
end SynP
namespace SynP
open LexP
abbrev KT := Nat × Bytes
def kt (ts : List Tok) : List KT := ts.map fun t => (t.1, t.2.1)
def Is (ts : List Tok) (l : List KT) (r : List Tok) : Prop := ∃ a, ts = a ++ r ∧ kt a = l
theorem Is.nil {ts r : List Tok} (h : Is ts [] r) : ts = r := by
 obtain ⟨a, rfl, h⟩ := h
 cases a with
 | nil => rfl
 | cons x a => simp [kt] at h
theorem Is.cons {ts r : List Tok} {x : KT} {l : List KT} (h : Is ts (x :: l) r) : ∃ c ts', ts = (x.1, x.2, c) :: ts' ∧ Is ts' l r := by
 obtain ⟨a, rfl, h⟩ := h
 cases a with
 | nil => simp [kt] at h
 | cons y a =>
  simp only [kt, List.map_cons, List.cons.injEq] at h
  refine ⟨y.2.2, a ++ r, ?_, a, rfl, h.2⟩
  rw [← h.1]; rfl
theorem Is.app {ts r : List Tok} {l1 l2 : List KT} (h : Is ts (l1 ++ l2) r) : ∃ m, Is ts l1 m ∧ Is m l2 r := by
 obtain ⟨a, rfl, h⟩ := h
 unfold kt at h
 obtain ⟨b, c, rfl, h1, h2⟩ := List.map_eq_append_iff.1 h
 exact ⟨c ++ r, ⟨b, by rw [List.append_assoc], h1⟩, c, rfl, h2⟩
theorem Is.refl (r : List Tok) : Is r [] r := ⟨[], rfl, rfl⟩
theorem Is.all (ts : List Tok) : Is ts (kt ts) [] := ⟨ts, by simp, rfl⟩
theorem Ev.succ {α : Type} {g : Nat → PR α} {r : Except (Nat × Nat) (α × St)} (h : Ev (fun f => g (f + 1)) r) : Ev g r := by
 obtain ⟨f, h⟩ := h; exact ⟨f + 1, h⟩
theorem Ev.bind {α β : Type} {g : Nat → PR α} {h : Nat → α → St → PR β} {a : α} {s : St} {r : Except (Nat × Nat) (β × St)} (sg : Stab g) (sh : ∀ a s, Stab fun f => h f a s)
  (h1 : Ev g (.ok (a, s))) (h2 : Ev (fun f => h f a s) r) : Ev (fun f => (g f).bind (h f)) r := by
 obtain ⟨f1, h1⟩ := h1
 obtain ⟨f2, h2⟩ := h2
 refine ⟨max f1 f2, ?_⟩
 simp only
 rw [sg.le (Nat.le_max_left f1 f2) h1]
 exact (sh a s).le (Nat.le_max_right f1 f2) h2
abbrev mk (x : UInt8) : KT := (3, [x])
def numK (n : Nat) : KT := (1, decT n)
def intK (x : Bool × Nat) : List KT := (if x.1 then [mk 45] else []) ++ [numK x.2]
def joinK (sep : List KT) : List (List KT) → List KT
 | [] => []
 | [a] => a
 | a :: l => a ++ sep ++ joinK sep l
def matK (m : MatV) : List KT :=
 if m.at_ = [] then [mk 91, numK m.rows, mk 58, numK m.cols, mk 93]
 else mk 91 :: (joinK [mk 59] ((rowsOf m.cols m.rows m.at_).map fun l => l.flatMap intK) ++ [mk 93])
def cpxK (l : List (List Nat)) : List KT := mk 123 :: (joinK [mk 44] (l.map fun s => s.map numK) ++ [mk 125])
def parK (b : Bool) (t : List KT) : List KT := if b then mk 40 :: (t ++ [mk 41]) else t
mutual
def Ex.tk : Ex → List KT
 | .num n => [numK n]
 | .name x => [(2, x)]
 | .mat m => matK m
 | .cpx l => cpxK l
 | .neg a => mk 45 :: parK (loose 4 0 a.op) a.tk
 | .turn a => parK (loose 5 0 a.op) a.tk ++ [mk 39]
 | .add a b => parK (loose 6 0 a.op) a.tk ++ mk 43 :: parK (loose 6 1 b.op) b.tk
 | .sub a b => parK (loose 7 0 a.op) a.tk ++ mk 45 :: parK (loose 7 1 b.op) b.tk
 | .mul a b => parK (loose 8 0 a.op) a.tk ++ mk 42 :: parK (loose 8 1 b.op) b.tk
 | .pow a n => parK (loose 9 0 a.op) a.tk ++ [mk 94, numK n]
 | .call x l => (2, x) :: mk 40 :: (l.tk ++ [mk 41])
def Exs.tk : Exs → List KT
 | .nil => []
 | .cons a l => a.tk ++ l.tkTail
def Exs.tkTail : Exs → List KT
 | .nil => []
 | .cons a l => mk 44 :: (a.tk ++ l.tkTail)
end
def Ln.tk : Ln → List KT
 | .nothing => []
 | .lets x e => (2, letB) :: (2, x) :: mk 61 :: e.tk
 | .cmd x l => (2, x) :: l.tk
def MatOk (m : MatV) : Prop := m.rows ≤ 64 ∧ m.cols ≤ 64 ∧ m.at_.length = m.rows * m.cols ∧ ∀ x ∈ m.at_, x.1 = true → 0 < x.2
def CpxOk (l : List (List Nat)) : Prop := ∀ s ∈ l, s ≠ []
def NameOk (x : Bytes) : Prop := ∃ c, Toks 1 (chars x) = .ok [(2, x, c)]
mutual
def Ex.wf : Ex → Prop
 | .num _ => True
 | .name x => NameOk x
 | .mat m => MatOk m
 | .cpx l => CpxOk l
 | .neg a => a.wf | .turn a => a.wf
 | .add a b => a.wf ∧ b.wf | .sub a b => a.wf ∧ b.wf | .mul a b => a.wf ∧ b.wf
 | .pow a _ => a.wf
 | .call x l => NameOk x ∧ l ≠ .nil ∧ l.wf
def Exs.wf : Exs → Prop
 | .nil => True
 | .cons a l => a.wf ∧ l.wf
end
def Ln.wf : Ln → Prop
 | .nothing => True
 | .lets x e => NameOk x ∧ e.wf
 | .cmd x l => NameOk x ∧ x ≠ letB ∧ l.wf
end SynP
namespace SynP
open LexP
end SynP
namespace SynP
open LexP
def nm (x : UInt8) (r : List Tok) : Prop := isMark [x] r = false
structure S2 (r : List Tok) : Prop where
 a : nm 40 r
 b : nm 39 r
 c : nm 94 r
structure S3 (r : List Tok) : Prop where
 s2 : S2 r
 d : nm 42 r
structure S4 (r : List Tok) : Prop where
 s3 : S3 r
 e : nm 43 r
 f : nm 45 r
def Exs.app : Exs → Exs → Exs
 | .nil, m => m
 | .cons a l, m => .cons a (l.app m)
end SynP
namespace SynP
open LexP
structure NI where
 op : Int
 text : Bytes
 kids : List Int
deriving DecidableEq
def Node.toI (n : Node) : NI := ⟨n.op, n.text, n.kids.map fun k : Nat => (k : Int)⟩
def cnt (op : Int) (k : Nat) : Bool :=
 if op = 1 ∨ op = 2 ∨ op = 3 ∨ op = 13 ∨ op = 14 then k == 0
 else if op = 4 ∨ op = 5 ∨ op = 9 ∨ op = 11 then k == 1
 else if op = 6 ∨ op = 7 ∨ op = 8 then k == 2
 else if op = 10 then decide (1 ≤ k)
 else decide (op = 12)
def wholeI (op : Int) : Bool := op == 11 || op == 12 || op == 14
def kidsOf (free : List Nat) (k : Nat) : List Int := (free.drop (free.length - k)).map fun k : Nat => (k : Int)
def stepOk (W : Int → Bytes → Bool) (n i : Nat) (free : List Nat) (x : NI) : Bool :=
 !(wholeI x.op != (i + 1 == n) || !cnt x.op x.kids.length || decide (free.length < x.kids.length) || !W x.op x.text)
def grownL (W : Int → Bytes → Bool) (n : Nat) : Nat → List Nat → List NI → Bool
 | _, free, [] => free.length == 1
 | i, free, x :: l =>
  if stepOk W n i free x then
   if x.kids = kidsOf free x.kids.length then grownL W n (i + 1) (free.take (free.length - x.kids.length) ++ [i]) l else false
  else false
def nL (l : List Node) : List NI := l.map Node.toI
theorem size_pos' : ∀ e : Ex, 0 < e.size := by
 intro e; cases e <;> simp [Ex.size]
end SynP
namespace SynP
open LexP
def SegN (l : List NI) (o : Nat) (ns : List Node) : Prop := ∀ j n, ns[j]? = some n → l[o + j]? = some n.toI
theorem SegN.app {l : List NI} {o : Nat} {a b : List Node} (h : SegN l o (a ++ b)) : SegN l o a ∧ SegN l (o + a.length) b :=
 ⟨fun j n hj => h j n (by rw [List.getElem?_append_left (List.getElem?_eq_some_iff.1 hj).1]; exact hj), fun j n hj => by
  have := h (a.length + j) n (by rw [List.getElem?_append_right (by omega)]; simpa using hj)
  rwa [← Nat.add_assoc] at this⟩
theorem SegN.one {l : List NI} {o : Nat} {n : Node} (h : SegN l o [n]) : l[o]? = some n.toI := by simpa using h 0 n rfl
theorem SegN.all (ns : List Node) : SegN (nL ns) 0 ns := fun j n hj => by simp [nL, hj]
def exL : Exs → List Ex
 | .nil => []
 | .cons a l => a :: exL l
def piece (i : Nat) (e : Ex) : Bytes := (if 0 < i then [44, 32] else []) ++ e.pr
def pieceAt (l : List Ex) (j : Nat) : Bytes :=
 match l[j]? with
 | some e => piece j e
 | none => []
def uptoP (l : List Ex) (i : Nat) : Bytes := (List.range i).flatMap (pieceAt l)
theorem uptoP_zero (l : List Ex) : uptoP l 0 = [] := rfl
theorem uptoP_succ {l : List Ex} {i : Nat} {e : Ex} (h : l[i]? = some e) : uptoP l (i + 1) = uptoP l i ++ piece i e := by
 unfold uptoP
 rw [List.range_succ, List.flatMap_append]
 simp [pieceAt, h]
theorem uptoP_tail : ∀ (ks : Exs) (p : List Ex), p ≠ [] → uptoP (p ++ exL ks) (p.length + (exL ks).length) = uptoP (p ++ exL ks) p.length ++ ks.prTail
 | .nil, p, _ => by simp [exL, Exs.prTail]
 | .cons a ks, p, hp => by
  have h1 := uptoP_tail ks (p ++ [a]) (by simp)
  have e1 : (p ++ [a]) ++ exL ks = p ++ exL (.cons a ks) := by simp [exL]
  have e2 : (p ++ [a]).length + (exL ks).length = p.length + (exL (.cons a ks)).length := by simp [exL]; omega
  rw [e1, e2] at h1
  rw [h1]
  have h2 : (p ++ exL (.cons a ks))[p.length]? = some a := by simp [exL]
  have h3 : (p ++ [a]).length = p.length + 1 := by simp
  rw [h3, uptoP_succ h2]
  have h4 : 0 < p.length := List.length_pos_iff.2 hp
  show _ = _ ++ ([44, 32] ++ a.pr ++ ks.prTail)
  unfold piece
  rw [if_pos h4]
  simp
theorem uptoP_all (ks : Exs) : uptoP (exL ks) (exL ks).length = ks.pr := by
 cases ks with
 | nil => rfl
 | cons a ks =>
  have h := uptoP_tail ks [a] (by simp)
  have e1 : [a] ++ exL ks = exL (.cons a ks) := rfl
  have e2 : ([a] : List Ex).length + (exL ks).length = (exL (.cons a ks)).length := by simp [exL]; omega
  rw [e1, e2] at h
  rw [h]
  show uptoP (exL (.cons a ks)) (0 + 1) ++ _ = _
  rw [uptoP_succ (e := a) rfl]
  rfl
def dpU (l : List Ex) (i : Nat) : Nat := ((l.take i).map Ex.dp).foldl max 0
theorem dpU_zero (l : List Ex) : dpU l 0 = 0 := by simp [dpU]
theorem dpU_succ {l : List Ex} {i : Nat} {e : Ex} (h : l[i]? = some e) : dpU l (i + 1) = max (dpU l i) e.dp := by
 unfold dpU
 rw [List.take_add_one, h]
 simp [List.foldl_append]
theorem foldl_max : ∀ (l : List Nat) (m : Nat), l.foldl max m = max m (l.foldl max 0)
 | [], m => by simp
 | a :: l, m => by
  show l.foldl max (max m a) = max m (l.foldl max (max 0 a))
  rw [foldl_max l (max m a), foldl_max l (max 0 a)]
  omega
theorem dpU_all : ∀ ks : Exs, dpU (exL ks) (exL ks).length = ks.dp
 | .nil => rfl
 | .cons a ks => by
  have h := dpU_all ks
  unfold dpU at h ⊢
  rw [List.take_length] at h ⊢
  show (exL ks |>.map Ex.dp).foldl max (max 0 a.dp) = max a.dp ks.dp
  rw [foldl_max, h]
  omega
theorem exL_roots : ∀ (ks : Exs) (o : Nat), (ks.roots o).length = (exL ks).length
 | .nil, _ => rfl
 | .cons a ks, o => by show (ks.roots _).length + 1 = (exL ks).length + 1; rw [exL_roots ks]
mutual
theorem flatLen : ∀ (e : Ex) (o : Nat), (e.flat o).length = e.size
 | .num _, _ | .name _, _ | .mat _, _ | .cpx _, _ => rfl
 | .neg a, o | .turn a, o | .pow a _, o => by simp [Ex.flat, Ex.size, flatLen a]
 | .add a b, o | .sub a b, o | .mul a b, o => by simp [Ex.flat, Ex.size, flatLen a, flatLen b]; omega
 | .call _ l, o => by simp [Ex.flat, Ex.size, flatsLen l]
theorem flatsLen : ∀ (l : Exs) (o : Nat), (l.flat o).length = l.size
 | .nil, _ => rfl
 | .cons a l, o => by simp [Exs.flat, Exs.size, flatLen a, flatsLen l]
end
theorem kid_at {l : List NI} : ∀ (ks : Exs) (o i : Nat) (e : Ex), (exL ks)[i]? = some e → ∃ p, (ks.roots o)[i]? = some (p + e.size - 1) ∧ (SegN l o (ks.flat o) → SegN l p (e.flat p)) ∧ p + e.size ≤ o + ks.size ∧ o ≤ p
 | .nil, _, _, _, h => by simp [exL] at h
 | .cons a ks, o, 0, e, h => by
  have e1 : a = e := by simpa [exL] using h
  subst e1
  refine ⟨o, rfl, fun hs => (SegN.app (b := ks.flat (o + a.size)) hs).1, ?_, Nat.le_refl _⟩
  show o + a.size ≤ o + (a.size + ks.size)
  omega
 | .cons a ks, o, i + 1, e, h => by
  obtain ⟨p, h1, h2, h3, h4⟩ := kid_at (l := l) ks (o + a.size) i e (by simpa [exL] using h)
  refine ⟨p, h1, fun hs => h2 ?_, ?_, by omega⟩
  ·have := (SegN.app (b := ks.flat (o + a.size)) hs).2
   rw [flatLen] at this
   exact this
  ·show p + e.size ≤ o + (a.size + ks.size)
   omega
mutual
theorem dp_le : ∀ e : Ex, e.dp ≤ e.size
 | .num _ | .name _ | .mat _ | .cpx _ => Nat.zero_le _
 | .neg a => by have := dp_le a; simp only [Ex.dp, Ex.size, parD]; split <;> omega
 | .turn a => by have := dp_le a; simp only [Ex.dp, Ex.size, parD]; split <;> omega
 | .pow a _ => by have := dp_le a; simp only [Ex.dp, Ex.size, parD]; split <;> omega
 | .add a b => by have := dp_le a; have := dp_le b; simp only [Ex.dp, Ex.size, parD]; split <;> split <;> omega
 | .sub a b => by have := dp_le a; have := dp_le b; simp only [Ex.dp, Ex.size, parD]; split <;> split <;> omega
 | .mul a b => by have := dp_le a; have := dp_le b; simp only [Ex.dp, Ex.size, parD]; split <;> split <;> omega
 | .call _ l => by have := dps_le l; simp only [Ex.dp, Ex.size]; omega
theorem dps_le : ∀ l : Exs, l.dp ≤ l.size
 | .nil => Nat.zero_le _
 | .cons a l => by have := dp_le a; have := dps_le l; simp only [Exs.dp, Exs.size]; omega
end
end SynP
