/- Joined texts of this claim's proof: SynP, SynM, SynT, SynR, SynR2, SynR3, SynG, SynB, SynO, LexPure2. -/
import Derived.Test.YtceggplnggkdnaaGreatDoorPk1
set_option linter.unusedSimpArgs false
set_option linter.unusedVariables false
namespace SynP
open LexP
structure Node where
 op : Nat
 text : Bytes
 kids : List Nat
deriving DecidableEq, Repr
structure MatV where
 rows : Nat
 cols : Nat
 at_ : List (Bool × Nat)
deriving DecidableEq, Repr
mutual
inductive Ex where
 | num (n : Nat) | name (x : Bytes) | mat (m : MatV) | cpx (l : List (List Nat))
 | neg (a : Ex) | turn (a : Ex) | add (a b : Ex) | sub (a b : Ex) | mul (a b : Ex) | pow (a : Ex) (n : Nat) | call (x : Bytes) (l : Exs)
inductive Exs where
 | nil | cons (a : Ex) (l : Exs)
end
inductive Ln where
 | nothing | lets (x : Bytes) (e : Ex) | cmd (x : Bytes) (l : Exs)
def Exs.snoc : Exs → Ex → Exs
 | .nil, e => .cons e .nil
 | .cons a l, e => .cons a (l.snoc e)
def Exs.len : Exs → Nat
 | .nil => 0
 | .cons _ l => l.len + 1
structure St where
 ts : List Tok
 opened : Nat
deriving DecidableEq, Repr
abbrev PR (α : Type) := Option (Except (Nat × Nat) (α × St))
def PR.bind {α β : Type} (x : PR α) (f : α → St → PR β) : PR β :=
 match x with
 | none => none
 | some (.error e) => some (.error e)
 | some (.ok (a, s)) => f a s
def ret {α : Type} (a : α) (s : St) : PR α := some (.ok (a, s))
def fault {α : Type} (c e : Nat) : PR α := some (.error (c, e))
def colOf (fin : Nat) (ts : List Tok) : Nat := match ts with | [] => fin | t :: _ => t.2.2
def isMark (x : Bytes) (ts : List Tok) : Bool := match ts with | (k, t, _) :: _ => k == 3 && t == x | [] => false
def isKind (k : Nat) (ts : List Tok) : Bool := match ts with | (j, _, _) :: _ => j == k | [] => false
def St.adv (s : St) : St := { s with ts := s.ts.tail }
def unfit {α : Type} (fin : Nat) (s : St) : PR α := fault (colOf fin s.ts) 14
def want (fin : Nat) (x : Bytes) (s : St) : PR Unit := if isMark x s.ts then ret () s.adv else unfit fin s
def valOf (t : Bytes) : Nat := NatP.decV (digs (t.filter NumP.isDig))
def headText (ts : List Tok) : Bytes := match ts with | (_, t, _) :: _ => t | [] => []
def number (fin : Nat) (s : St) : PR Nat := if isKind 1 s.ts then ret (valOf (headText s.ts)) s.adv else unfit fin s
def name (fin : Nat) (s : St) : PR Bytes := if isKind 2 s.ts then ret (headText s.ts) s.adv else unfit fin s
def decT (n : Nat) : Bytes := if n = 0 then [48] else (NatP.dg n).map fun d => UInt8.ofNat (48 + d)
def intT (x : Bool × Nat) : Bytes := (if x.1 then [45] else []) ++ decT x.2
def joinB (sep : Bytes) : List Bytes → Bytes
 | [] => []
 | [a] => a
 | a :: l => a ++ sep ++ joinB sep l
def rowsOf {α : Type} (cols : Nat) : Nat → List α → List (List α)
 | 0, _ => []
 | r + 1, l => l.take cols :: rowsOf cols r (l.drop cols)
def matT (m : MatV) : Bytes :=
 if m.at_ = [] then [91] ++ decT m.rows ++ [58] ++ decT m.cols ++ [93]
 else [91] ++ joinB [59, 32] ((rowsOf m.cols m.rows (m.at_.map intT)).map (joinB [32])) ++ [93]
def cpxT (l : List (List Nat)) : Bytes := [123] ++ joinB [44, 32] (l.map fun s => joinB [32] (s.map decT)) ++ [125]
def side (n : Nat) : Nat := if 64 < n then 65 else n
def entryRow (fin : Nat) : Nat → Nat → List (Bool × Nat) → St → PR (Nat × List (Bool × Nat))
 | 0, _, _, _ => none
 | f + 1, n, acc, s =>
  if n = 0 || isMark [45] s.ts || isKind 1 s.ts then
   (number fin (if isMark [45] s.ts then s.adv else s)).bind fun m s' => entryRow fin f (n + 1) (acc ++ [(isMark [45] s.ts && decide (0 < m), m)]) s'
  else ret (n, acc) s
def entries (fin : Nat) : Nat → List (Bool × Nat) → List Nat → St → PR (List (Bool × Nat) × List Nat)
 | 0, _, _, _ => none
 | f + 1, acc, lens, s =>
  (entryRow fin f 0 acc s).bind fun r s =>
   if isMark [93] s.ts then ret (r.2, lens ++ [r.1]) s.adv
   else (want fin [59] s).bind fun _ s => entries fin f r.2 (lens ++ [r.1]) s
def matShape (fin col : Nat) (s : St) : PR MatV :=
 (number fin s).bind fun r s => (want fin [58] s).bind fun _ s => (number fin s).bind fun c s => (want fin [93] s).bind fun _ s =>
  if 64 < side r || 64 < side c then fault col 5
  else ret ⟨r, c, List.replicate (r * c) (false, 0)⟩ s
def matDone (col : Nat) (a : List (Bool × Nat) × List Nat) (s : St) : PR MatV :=
 if a.2.any (· != a.2.headD 0) then fault col 2
 else if 64 < a.2.length || 64 < a.2.headD 0 then fault col 5
 else ret ⟨a.2.length, a.2.headD 0, a.1⟩ s
def matrix (fin f : Nat) (s0 : St) : PR MatV :=
 (want fin [91] s0).bind fun _ s =>
  if isKind 1 s.ts && isMark [58] s.ts.tail then matShape fin (colOf fin s0.ts) s
  else (entries fin f [] [] s).bind (matDone (colOf fin s0.ts))
def simplex (fin : Nat) : Nat → List Nat → St → PR (List Nat)
 | 0, _, _ => none
 | f + 1, acc, s => if isKind 1 s.ts then (number fin s).bind fun n s => simplex fin f (acc ++ [n]) s else ret acc s
def cpxLoop (fin : Nat) : Nat → List (List Nat) → St → PR (List (List Nat))
 | 0, _, _ => none
 | f + 1, acc, s =>
  (number fin s).bind fun n s => (simplex fin f [n] s).bind fun x s =>
   if isMark [125] s.ts then ret (acc ++ [x]) s.adv
   else (want fin [44] s).bind fun _ s => cpxLoop fin f (acc ++ [x]) s
def complex (fin f : Nat) (s : St) : PR (List (List Nat)) :=
 (want fin [123] s).bind fun _ s => if isMark [125] s.ts then ret [] s.adv else cpxLoop fin f [] s
def minuses : Nat → Nat → St → PR Nat
 | 0, _, _ => none
 | f + 1, n, s => if isMark [45] s.ts then minuses f (n + 1) s.adv else ret n s
def negs : Nat → Ex → Ex
 | 0, k => k
 | n + 1, k => negs n (.neg k)
def turns : Nat → Ex → St → PR Ex
 | 0, _, _ => none
 | f + 1, k, s => if isMark [39] s.ts then turns f (.turn k) s.adv else ret k s
def openB (fin : Nat) (s : St) : PR Unit :=
 if 100 < s.opened + 1 then fault (colOf fin s.ts) 5 else ret () { s.adv with opened := s.opened + 1 }
def closeB (fin : Nat) (s : St) : PR Unit := (want fin [41] s).bind fun _ s => ret () { s with opened := s.opened - 1 }
mutual
def expr (fin : Nat) : Nat → St → PR Ex
 | 0, _ => none
 | f + 1, s => (term fin f s).bind fun k s => exprLoop fin f k s
def exprLoop (fin : Nat) : Nat → Ex → St → PR Ex
 | 0, _, _ => none
 | f + 1, k, s =>
  if isMark [43] s.ts then (term fin f s.adv).bind fun t s => exprLoop fin f (.add k t) s
  else if isMark [45] s.ts then (term fin f s.adv).bind fun t s => exprLoop fin f (.sub k t) s
  else ret k s
def term (fin : Nat) : Nat → St → PR Ex
 | 0, _ => none
 | f + 1, s => (factor fin f s).bind fun k s => termLoop fin f k s
def termLoop (fin : Nat) : Nat → Ex → St → PR Ex
 | 0, _, _ => none
 | f + 1, k, s =>
  if isMark [42] s.ts then (factor fin f s.adv).bind fun t s => termLoop fin f (.mul k t) s
  else ret k s
def factor (fin : Nat) : Nat → St → PR Ex
 | 0, _ => none
 | f + 1, s =>
  (minuses f 0 s).bind fun n s => (post fin f s).bind fun k s =>
   if isMark [94] s.ts then (number fin s.adv).bind fun m s => ret (negs n (.pow k m)) s
   else ret (negs n k) s
def post (fin : Nat) : Nat → St → PR Ex
 | 0, _ => none
 | f + 1, s => (atom fin f s).bind fun k s => turns f k s
def atom (fin : Nat) : Nat → St → PR Ex
 | 0, _ => none
 | f + 1, s =>
  if isKind 1 s.ts then (number fin s).bind fun n s => ret (.num n) s
  else if isKind 2 s.ts && isMark [40] s.ts.tail then
   (name fin s).bind fun x s => (openB fin s).bind fun _ s => (parts fin f s).bind fun ks s => (closeB fin s).bind fun _ s => ret (.call x ks) s
  else if isKind 2 s.ts then (name fin s).bind fun x s => ret (.name x) s
  else if isMark [40] s.ts then (openB fin s).bind fun _ s => (expr fin f s).bind fun k s => (closeB fin s).bind fun _ s => ret k s
  else if isMark [91] s.ts then (matrix fin f s).bind fun m s => ret (.mat m) s
  else if isMark [123] s.ts then (complex fin f s).bind fun l s => ret (.cpx l) s
  else unfit fin s
def parts (fin : Nat) : Nat → St → PR Exs
 | 0, _ => none
 | f + 1, s => (expr fin f s).bind fun k s => partsLoop fin f (.cons k .nil) s
def partsLoop (fin : Nat) : Nat → Exs → St → PR Exs
 | 0, _, _ => none
 | f + 1, ks, s => if isMark [44] s.ts then (expr fin f s.adv).bind fun k s => partsLoop fin f (ks.snoc k) s else ret ks s
end
def done {α : Type} (fin : Nat) (a : α) (s : St) : PR α := if s.ts = [] then ret a s else unfit fin s
def letB : Bytes := [108, 101, 116]
def line (fin f : Nat) (s : St) : PR Ln :=
 if s.ts = [] then ret .nothing s
 else if isKind 2 s.ts && headText s.ts == letB then
  (name fin s.adv).bind fun x s => (want fin [61] s).bind fun _ s => (expr fin f s).bind fun e s => done fin (.lets x e) s
 else
  (name fin s).bind fun x s =>
   if s.ts = [] then done fin (.cmd x .nil) s
   else (parts fin f s).bind fun ks s => done fin (.cmd x ks) s
mutual
def Ex.size : Ex → Nat
 | .num _ => 1 | .name _ => 1 | .mat _ => 1 | .cpx _ => 1
 | .neg a => a.size + 1 | .turn a => a.size + 1
 | .add a b => a.size + b.size + 1 | .sub a b => a.size + b.size + 1 | .mul a b => a.size + b.size + 1
 | .pow a _ => a.size + 1
 | .call _ l => l.size + 1
def Exs.size : Exs → Nat
 | .nil => 0
 | .cons a l => a.size + l.size
end
def Exs.roots : Exs → Nat → List Nat
 | .nil, _ => []
 | .cons a l, o => (o + a.size - 1) :: l.roots (o + a.size)
mutual
def Ex.flat : Ex → Nat → List Node
 | .num n, _ => [⟨1, decT n, []⟩]
 | .name x, _ => [⟨2, x, []⟩]
 | .mat m, _ => [⟨3, matT m, []⟩]
 | .cpx l, _ => [⟨13, cpxT l, []⟩]
 | .neg a, o => a.flat o ++ [⟨4, [], [o + a.size - 1]⟩]
 | .turn a, o => a.flat o ++ [⟨5, [], [o + a.size - 1]⟩]
 | .add a b, o => a.flat o ++ b.flat (o + a.size) ++ [⟨6, [], [o + a.size - 1, o + a.size + b.size - 1]⟩]
 | .sub a b, o => a.flat o ++ b.flat (o + a.size) ++ [⟨7, [], [o + a.size - 1, o + a.size + b.size - 1]⟩]
 | .mul a b, o => a.flat o ++ b.flat (o + a.size) ++ [⟨8, [], [o + a.size - 1, o + a.size + b.size - 1]⟩]
 | .pow a n, o => a.flat o ++ [⟨9, decT n, [o + a.size - 1]⟩]
 | .call x l, o => l.flat o ++ [⟨10, x, l.roots o⟩]
def Exs.flat : Exs → Nat → List Node
 | .nil, _ => []
 | .cons a l, o => a.flat o ++ l.flat (o + a.size)
end
def Ln.size : Ln → Nat
 | .nothing => 1
 | .lets _ e => e.size + 1
 | .cmd _ l => l.size + 1
def Ln.flat : Ln → List Node
 | .nothing => [⟨14, [], []⟩]
 | .lets x e => e.flat 0 ++ [⟨11, x, [e.size - 1]⟩]
 | .cmd x l => l.flat 0 ++ [⟨12, x, l.roots 0⟩]
def Ex.op : Ex → Nat
 | .num _ => 1 | .name _ => 2 | .mat _ => 3 | .cpx _ => 13 | .neg _ => 4 | .turn _ => 5 | .add _ _ => 6 | .sub _ _ => 7 | .mul _ _ => 8 | .pow _ _ => 9 | .call _ _ => 10
def isSum (o : Nat) : Bool := o == 6 || o == 7
def isProd (o : Nat) : Bool := isSum o || o == 8
def loose (op place part : Nat) : Bool :=
 if op == 6 || op == 7 then place == 1 && isSum part
 else if op == 8 then isSum part || (place == 1 && isProd part)
 else if op == 4 then isProd part
 else if op == 9 || op == 5 then isProd part || part == 4 || part == 9
 else false
def par (b : Bool) (t : Bytes) : Bytes := if b then [40] ++ t ++ [41] else t
mutual
def Ex.pr : Ex → Bytes
 | .num n => decT n
 | .name x => x
 | .mat m => matT m
 | .cpx l => cpxT l
 | .neg a => [45] ++ par (loose 4 0 a.op) a.pr
 | .turn a => par (loose 5 0 a.op) a.pr ++ [39]
 | .add a b => par (loose 6 0 a.op) a.pr ++ [32, 43, 32] ++ par (loose 6 1 b.op) b.pr
 | .sub a b => par (loose 7 0 a.op) a.pr ++ [32, 45, 32] ++ par (loose 7 1 b.op) b.pr
 | .mul a b => par (loose 8 0 a.op) a.pr ++ [42] ++ par (loose 8 1 b.op) b.pr
 | .pow a n => par (loose 9 0 a.op) a.pr ++ ([94] ++ decT n)
 | .call x l => x ++ ([40] ++ l.pr ++ [41])
def Exs.pr : Exs → Bytes
 | .nil => []
 | .cons a l => a.pr ++ l.prTail
def Exs.prTail : Exs → Bytes
 | .nil => []
 | .cons a l => [44, 32] ++ a.pr ++ l.prTail
end
def Ln.pr : Ln → Bytes
 | .nothing => []
 | .lets x e => [108, 101, 116, 32] ++ x ++ [32, 61, 32] ++ e.pr
 | .cmd x .nil => x
 | .cmd x l => x ++ [32] ++ l.pr
def parD (b : Bool) (d : Nat) : Nat := if b then d + 1 else d
mutual
def Ex.dp : Ex → Nat
 | .num _ => 0 | .name _ => 0 | .mat _ => 0 | .cpx _ => 0
 | .neg a => parD (loose 4 0 a.op) a.dp
 | .turn a => parD (loose 5 0 a.op) a.dp
 | .add a b => max (parD (loose 6 0 a.op) a.dp) (parD (loose 6 1 b.op) b.dp)
 | .sub a b => max (parD (loose 7 0 a.op) a.dp) (parD (loose 7 1 b.op) b.dp)
 | .mul a b => max (parD (loose 8 0 a.op) a.dp) (parD (loose 8 1 b.op) b.dp)
 | .pow a _ => parD (loose 9 0 a.op) a.dp
 | .call _ l => l.dp + 1
def Exs.dp : Exs → Nat
 | .nil => 0
 | .cons a l => max a.dp l.dp
end
def Ln.dp : Ln → Nat
 | .nothing => 0
 | .lets _ e => e.dp
 | .cmd _ l => l.dp
end SynP
namespace SynP
open LexP
def Le {α : Type} (a b : PR α) : Prop := a = none ∨ a = b
theorem Le.refl {α : Type} (a : PR α) : Le a a := .inr rfl
theorem Le.none {α : Type} (b : PR α) : Le (none : PR α) b := .inl rfl
theorem Le.bind {α β : Type} {a a' : PR α} {f f' : α → St → PR β} (h : Le a a') (hf : ∀ x s, Le (f x s) (f' x s)) : Le (a.bind f) (a'.bind f') := by
 rcases h with rfl | rfl
 ·exact .inl rfl
 ·rcases a with _ | (e | ⟨x, s⟩)
  ·exact .inl rfl
  ·exact .inr rfl
  ·exact hf x s
theorem Le.ite {α : Type} {c : Bool} {a b a' b' : PR α} (h1 : Le a a') (h2 : Le b b') : Le (if c then a else b) (if c then a' else b') := by
 cases c
 ·exact h2
 ·exact h1
theorem Le.itep {α : Type} {c : Prop} [Decidable c] {a b a' b' : PR α} (h1 : Le a a') (h2 : Le b b') : Le (if c then a else b) (if c then a' else b') := by
 by_cases h : c
 ·rw [if_pos h, if_pos h]; exact h1
 ·rw [if_neg h, if_neg h]; exact h2
theorem Le.some {α : Type} {a b : PR α} {r : Except (Nat × Nat) (α × St)} (h : Le a b) (ha : a = some r) : b = some r := by
 rcases h with h | h
 ·rw [h] at ha; cases ha
 ·rw [← h]; exact ha
def Stab {α : Type} (g : Nat → PR α) : Prop := ∀ f, Le (g f) (g (f + 1))
def Ev {α : Type} (g : Nat → PR α) (r : Except (Nat × Nat) (α × St)) : Prop := ∃ f, g f = some r
theorem Stab.le {α : Type} {g : Nat → PR α} (h : Stab g) {f f' : Nat} (hf : f ≤ f') {r : Except (Nat × Nat) (α × St)} (hr : g f = some r) : g f' = some r := by
 induction hf with
 | refl => exact hr
 | step _ ih => exact (h _).some ih
theorem Ev.one {α : Type} {g : Nat → PR α} (h : Stab g) {r r' : Except (Nat × Nat) (α × St)} (h1 : Ev g r) (h2 : Ev g r') : r = r' := by
 obtain ⟨f1, h1⟩ := h1
 obtain ⟨f2, h2⟩ := h2
 have a := h.le (Nat.le_max_left f1 f2) h1
 rw [h.le (Nat.le_max_right f1 f2) h2] at a
 exact (Option.some.inj a).symm
end SynP
namespace SynP
open LexP
def Good {α : Type} (n : Nat) : PR α → Prop
 | none => False
 | some (.error e) => 0 < e.2
 | some (.ok (_, s)) => s.ts.length ≤ n
theorem Good.bind {α β : Type} {x : PR α} {f : α → St → PR β} {n m : Nat} (h : Good n x) (hf : ∀ a s, s.ts.length ≤ n → Good m (f a s)) : Good m (x.bind f) := by
 rcases x with _ | (e | ⟨a, s⟩)
 ·exact h
 ·exact h
 ·exact hf a s h
theorem Good.mono {α : Type} {x : PR α} {n m : Nat} (h : Good n x) (hm : n ≤ m) : Good m x := by
 rcases x with _ | (e | ⟨a, s⟩)
 ·exact h
 ·exact h
 ·exact Nat.le_trans h hm
theorem Good.ite {α : Type} {c : Bool} {a b : PR α} {n : Nat} (h1 : c = true → Good n a) (h2 : c = false → Good n b) : Good n (if c then a else b) := by
 cases c
 ·exact h2 rfl
 ·exact h1 rfl
theorem Good.itep {α : Type} {c : Prop} [Decidable c] {a b : PR α} {n : Nat} (h1 : c → Good n a) (h2 : ¬ c → Good n b) : Good n (if c then a else b) := by
 by_cases h : c
 ·rw [if_pos h]; exact h1 h
 ·rw [if_neg h]; exact h2 h
theorem good_unfit {α : Type} (fin n : Nat) (s : St) : Good n (unfit fin s : PR α) := (by decide : 0 < 14)
theorem good_fault {α : Type} (c : Nat) {e : Nat} (he : 0 < e) (n : Nat) : Good n (fault c e : PR α) := he
theorem good_ret {α : Type} (a : α) {n : Nat} {s : St} (h : s.ts.length ≤ n) : Good n (ret a s) := h
theorem adv_len {s : St} {n : Nat} (h : s.ts.length ≤ n) : s.adv.ts.length ≤ n - 1 := by
 show s.ts.tail.length ≤ _
 rw [List.length_tail]; omega
theorem mark_ne {x : Bytes} {ts : List Tok} (h : isMark x ts = true) : 0 < ts.length := by
 cases ts with
 | nil => cases h
 | cons => simp
theorem kind_ne {k : Nat} {ts : List Tok} (h : isKind k ts = true) : 0 < ts.length := by
 cases ts with
 | nil => cases h
 | cons => simp
theorem good_want (fin : Nat) (x : Bytes) {s : St} {n : Nat} (h : s.ts.length ≤ n) : Good (n - 1) (want fin x s) := by
 unfold want; exact Good.ite (fun _ => good_ret _ (adv_len h)) (fun _ => good_unfit _ _ _)
theorem good_number (fin : Nat) {s : St} {n : Nat} (h : s.ts.length ≤ n) : Good (n - 1) (number fin s) := by
 unfold number; exact Good.ite (fun _ => good_ret _ (adv_len h)) (fun _ => good_unfit _ _ _)
theorem good_name (fin : Nat) {s : St} {n : Nat} (h : s.ts.length ≤ n) : Good (n - 1) (name fin s) := by
 unfold name; exact Good.ite (fun _ => good_ret _ (adv_len h)) (fun _ => good_unfit _ _ _)
theorem good_entryRow (fin : Nat) : ∀ f n k acc s, s.ts.length ≤ n → n + 2 ≤ f → Good n (entryRow fin f k acc s) := by
 intro f
 induction f with
 | zero => intro n k acc s h hf; omega
 | succ f ih =>
  intro n k acc s h hf
  rw [entryRow]
  refine Good.ite (fun _ => ?_) (fun _ => good_ret _ h)
  have h2 : (if isMark [45] s.ts then s.adv else s).ts.length ≤ n := by
   split
   ·exact Nat.le_trans (adv_len h) (Nat.sub_le _ _)
   ·exact h
  by_cases hn : n = 0
  ·subst hn
   have h3 : (if isMark [45] s.ts then s.adv else s).ts = [] := List.eq_nil_of_length_eq_zero (by omega)
   have h4 : number fin (if isMark [45] s.ts then s.adv else s) = unfit fin (if isMark [45] s.ts then s.adv else s) := by unfold number; rw [h3]; rfl
   rw [h4]; exact (by decide : 0 < 14)
  ·exact (good_number fin h2).bind fun m s' h3 => (ih (n - 1) _ _ _ h3 (by omega)).mono (by omega)
theorem good_entries (fin : Nat) : ∀ f n acc lens s, s.ts.length ≤ n → n + 3 ≤ f → Good n (entries fin f acc lens s) := by
 intro f
 induction f with
 | zero => intro n acc lens s h hf; omega
 | succ f ih =>
  intro n acc lens s h hf
  rw [entries]
  refine (good_entryRow fin f n 0 acc s h (by omega)).bind fun r s h => Good.ite (fun _ => good_ret _ (Nat.le_trans (adv_len h) (Nat.sub_le _ _))) (fun _ => ?_)
  by_cases hn : n = 0
  ·subst hn
   have h3 : s.ts = [] := List.eq_nil_of_length_eq_zero (by omega)
   have h4 : want fin [59] s = unfit fin s := by unfold want; rw [h3]; rfl
   rw [h4]; exact (by decide : 0 < 14)
  ·exact (good_want fin _ h).bind fun _ s h => (ih (n - 1) _ _ _ h (by omega)).mono (by omega)
theorem good_matShape (fin col : Nat) {s : St} {n : Nat} (h : s.ts.length ≤ n) : Good n (matShape fin col s) := by
 unfold matShape
 refine (good_number fin h).bind fun _ s h => (good_want fin _ h).bind fun _ s h => (good_number fin h).bind fun _ s h => (good_want fin _ h).bind fun _ s h => ?_
 exact Good.ite (fun _ => good_fault _ (by decide) _) (fun _ => good_ret _ (by omega))
theorem good_matDone (col : Nat) (a : List (Bool × Nat) × List Nat) {s : St} {n : Nat} (h : s.ts.length ≤ n) : Good n (matDone col a s) := by
 unfold matDone
 exact Good.ite (fun _ => good_fault _ (by decide) _) (fun _ => Good.ite (fun _ => good_fault _ (by decide) _) (fun _ => good_ret _ h))
theorem good_matrix (fin f : Nat) {s : St} {n : Nat} (h : s.ts.length ≤ n) (hf : n + 3 ≤ f) : Good (n - 1) (matrix fin f s) := by
 unfold matrix
 refine (good_want fin _ h).bind fun _ s h => Good.ite (fun _ => good_matShape _ _ h) (fun _ => ?_)
 exact (good_entries fin f _ _ _ _ h (by omega)).bind fun _ _ h => good_matDone _ _ h
theorem good_simplex (fin : Nat) : ∀ f n acc s, s.ts.length ≤ n → n + 1 ≤ f → Good n (simplex fin f acc s) := by
 intro f
 induction f with
 | zero => intro n acc s h hf; omega
 | succ f ih =>
  intro n acc s h hf
  rw [simplex]
  refine Good.ite (fun hk => ?_) (fun _ => good_ret _ h)
  have := kind_ne hk
  exact (good_number fin h).bind fun _ s h => (ih (n - 1) _ _ h (by omega)).mono (by omega)
theorem good_cpxLoop (fin : Nat) : ∀ f n acc s, s.ts.length ≤ n → n + 2 ≤ f → Good n (cpxLoop fin f acc s) := by
 intro f
 induction f with
 | zero => intro n acc s h hf; omega
 | succ f ih =>
  intro n acc s h hf
  rw [cpxLoop]
  refine (good_number fin h).bind fun _ s h => (good_simplex fin f (n - 1) _ _ h (by omega)).bind fun _ s h => Good.ite (fun _ => good_ret _ (Nat.le_trans (adv_len h) (by omega))) (fun _ => ?_)
  by_cases hn : n - 1 = 0
  ·have h3 : s.ts = [] := List.eq_nil_of_length_eq_zero (by omega)
   have h4 : want fin [44] s = unfit fin s := by unfold want; rw [h3]; rfl
   rw [h4]; exact (by decide : 0 < 14)
  ·exact (good_want fin _ h).bind fun _ s h => (ih (n - 1 - 1) _ _ h (by omega)).mono (by omega)
theorem good_complex (fin f : Nat) {s : St} {n : Nat} (h : s.ts.length ≤ n) (hf : n + 2 ≤ f) : Good (n - 1) (complex fin f s) := by
 unfold complex
 refine (good_want fin _ h).bind fun _ s h => Good.ite (fun _ => good_ret _ (Nat.le_trans (adv_len h) (by omega))) (fun _ => ?_)
 exact good_cpxLoop fin f _ _ _ h (by omega)
theorem good_minuses : ∀ f n k s, s.ts.length ≤ n → n + 1 ≤ f → Good n (minuses f k s) := by
 intro f
 induction f with
 | zero => intro n k s h hf; omega
 | succ f ih =>
  intro n k s h hf
  rw [minuses]
  refine Good.ite (fun hk => ?_) (fun _ => good_ret _ h)
  have := mark_ne hk
  exact (ih (n - 1) _ _ (adv_len h) (by omega)).mono (by omega)
theorem good_turns : ∀ f n k s, s.ts.length ≤ n → n + 1 ≤ f → Good n (turns f k s) := by
 intro f
 induction f with
 | zero => intro n k s h hf; omega
 | succ f ih =>
  intro n k s h hf
  rw [turns]
  refine Good.ite (fun hk => ?_) (fun _ => good_ret _ h)
  have := mark_ne hk
  exact (ih (n - 1) _ _ (adv_len h) (by omega)).mono (by omega)
theorem good_openB (fin : Nat) {s : St} {n : Nat} (h : s.ts.length ≤ n) : Good (n - 1) (openB fin s) := by
 unfold openB; exact Good.itep (fun _ => good_fault _ (by decide) _) (fun _ => good_ret _ (adv_len h))
theorem good_closeB (fin : Nat) {s : St} {n : Nat} (h : s.ts.length ≤ n) : Good (n - 1) (closeB fin s) := by
 unfold closeB; exact (good_want fin _ h).bind fun _ s h => good_ret _ h
structure AllGood (fin n : Nat) : Prop where
 at_ : ∀ f s, s.ts.length ≤ n → 10 * n + 4 ≤ f → Good (n - 1) (atom fin f s)
 po : ∀ f s, s.ts.length ≤ n → 10 * n + 5 ≤ f → Good (n - 1) (post fin f s)
 fa : ∀ f s, s.ts.length ≤ n → 10 * n + 6 ≤ f → Good (n - 1) (factor fin f s)
 tl : ∀ f k s, s.ts.length ≤ n → 10 * n + 4 ≤ f → Good n (termLoop fin f k s)
 t : ∀ f s, s.ts.length ≤ n → 10 * n + 7 ≤ f → Good (n - 1) (term fin f s)
 el : ∀ f k s, s.ts.length ≤ n → 10 * n + 4 ≤ f → Good n (exprLoop fin f k s)
 e : ∀ f s, s.ts.length ≤ n → 10 * n + 8 ≤ f → Good (n - 1) (expr fin f s)
 pl : ∀ f k s, s.ts.length ≤ n → 10 * n + 4 ≤ f → Good n (partsLoop fin f k s)
 pa : ∀ f s, s.ts.length ≤ n → 10 * n + 9 ≤ f → Good (n - 1) (parts fin f s)
theorem fuel_succ {f n k : Nat} (h : 10 * n + k ≤ f) (hk : 0 < k) : ∃ g, f = g + 1 ∧ 10 * n + k ≤ g + 1 := ⟨f - 1, by omega, by omega⟩
theorem all_good (fin : Nat) : ∀ n, AllGood fin n := by
 intro n
 induction n using Nat.strongRecOn with
 | ind n ih =>
  have at_ : ∀ f s, s.ts.length ≤ n → 10 * n + 4 ≤ f → Good (n - 1) (atom fin f s) := by
   intro f s h hf
   obtain ⟨f, rfl, hf⟩ := fuel_succ hf (by omega)
   rw [atom]
   refine Good.ite (fun _ => (good_number fin h).bind fun _ s h => good_ret _ h) fun _ => Good.ite (fun hk => ?_) fun _ => Good.ite (fun _ => (good_name fin h).bind fun _ s h => good_ret _ h) fun _ => Good.ite (fun hk => ?_) fun _ => Good.ite (fun _ => ?_) fun _ => Good.ite (fun _ => ?_) fun _ => good_unfit _ _ _
   ·have := kind_ne (Bool.and_eq_true_iff.1 hk).1
    refine (good_name fin h).bind fun _ s h => (good_openB fin h).bind fun _ s h => ((ih (n - 1) (by omega)).pa f s (by omega) (by omega)).bind fun _ s h => (good_closeB fin h).bind fun _ s h => good_ret _ (by omega)
   ·have := mark_ne hk
    refine (good_openB fin h).bind fun _ s h => ((ih (n - 1) (by omega)).e f s h (by omega)).bind fun _ s h => (good_closeB fin h).bind fun _ s h => good_ret _ (by omega)
   ·exact (good_matrix fin f h (by omega)).bind fun _ s h => good_ret _ h
   ·exact (good_complex fin f h (by omega)).bind fun _ s h => good_ret _ h
  have po : ∀ f s, s.ts.length ≤ n → 10 * n + 5 ≤ f → Good (n - 1) (post fin f s) := by
   intro f s h hf
   obtain ⟨f, rfl, hf⟩ := fuel_succ hf (by omega)
   rw [post]
   exact (at_ f s h (by omega)).bind fun _ s h => good_turns f _ _ _ h (by omega)
  have fa : ∀ f s, s.ts.length ≤ n → 10 * n + 6 ≤ f → Good (n - 1) (factor fin f s) := by
   intro f s h hf
   obtain ⟨f, rfl, hf⟩ := fuel_succ hf (by omega)
   rw [factor]
   exact (good_minuses f _ _ _ h (by omega)).bind fun _ s h => (po f s h (by omega)).bind fun _ s h => Good.ite (fun _ => (good_number fin (adv_len h)).bind fun _ s h => good_ret _ (by omega)) (fun _ => good_ret _ h)
  have tl : ∀ f k s, s.ts.length ≤ n → 10 * n + 4 ≤ f → Good n (termLoop fin f k s) := by
   intro f k s h hf
   obtain ⟨f, rfl, hf⟩ := fuel_succ hf (by omega)
   rw [termLoop]
   refine Good.ite (fun hk => ?_) (fun _ => good_ret _ h)
   have := mark_ne hk
   exact ((ih (n - 1) (by omega)).fa f s.adv (adv_len h) (by omega)).bind fun _ s h => ((ih (n - 1) (by omega)).tl f _ s (by omega) (by omega)).mono (by omega)
  have t : ∀ f s, s.ts.length ≤ n → 10 * n + 7 ≤ f → Good (n - 1) (term fin f s) := by
   intro f s h hf
   obtain ⟨f, rfl, hf⟩ := fuel_succ hf (by omega)
   rw [term]
   refine (fa f s h (by omega)).bind fun _ s h => ?_
   by_cases hn : n = 0
   ·subst hn; exact tl f _ s h (by omega)
   ·exact (ih (n - 1) (by omega)).tl f _ s h (by omega)
  have el : ∀ f k s, s.ts.length ≤ n → 10 * n + 4 ≤ f → Good n (exprLoop fin f k s) := by
   intro f k s h hf
   obtain ⟨f, rfl, hf⟩ := fuel_succ hf (by omega)
   rw [exprLoop]
   refine Good.ite (fun hk => ?_) (fun _ => Good.ite (fun hk => ?_) (fun _ => good_ret _ h))
   all_goals
    have := mark_ne hk
    exact ((ih (n - 1) (by omega)).t f s.adv (adv_len h) (by omega)).bind fun _ s h => ((ih (n - 1) (by omega)).el f _ s (by omega) (by omega)).mono (by omega)
  have e : ∀ f s, s.ts.length ≤ n → 10 * n + 8 ≤ f → Good (n - 1) (expr fin f s) := by
   intro f s h hf
   obtain ⟨f, rfl, hf⟩ := fuel_succ hf (by omega)
   rw [expr]
   refine (t f s h (by omega)).bind fun _ s h => ?_
   by_cases hn : n = 0
   ·subst hn; exact el f _ s h (by omega)
   ·exact (ih (n - 1) (by omega)).el f _ s h (by omega)
  have pl : ∀ f k s, s.ts.length ≤ n → 10 * n + 4 ≤ f → Good n (partsLoop fin f k s) := by
   intro f k s h hf
   obtain ⟨f, rfl, hf⟩ := fuel_succ hf (by omega)
   rw [partsLoop]
   refine Good.ite (fun hk => ?_) (fun _ => good_ret _ h)
   have := mark_ne hk
   exact ((ih (n - 1) (by omega)).e f s.adv (adv_len h) (by omega)).bind fun _ s h => ((ih (n - 1) (by omega)).pl f _ s (by omega) (by omega)).mono (by omega)
  have pa : ∀ f s, s.ts.length ≤ n → 10 * n + 9 ≤ f → Good (n - 1) (parts fin f s) := by
   intro f s h hf
   obtain ⟨f, rfl, hf⟩ := fuel_succ hf (by omega)
   rw [parts]
   refine (e f s h (by omega)).bind fun _ s h => ?_
   by_cases hn : n = 0
   ·subst hn; exact pl f _ s h (by omega)
   ·exact (ih (n - 1) (by omega)).pl f _ s h (by omega)
  exact ⟨at_, po, fa, tl, t, el, e, pl, pa⟩
theorem good_line (fin : Nat) (s : St) : Good s.ts.length (line fin (10 * s.ts.length + 9) s) := by
 unfold line
 refine Good.itep (fun _ => good_ret _ (Nat.le_refl _)) (fun _ => Good.ite (fun _ => ?_) (fun _ => ?_))
 ·refine (good_name fin (adv_len (Nat.le_refl _))).bind fun _ s1 h => (good_want fin _ h).bind fun _ s1 h => ((all_good fin s.ts.length).e _ s1 (by omega) (by omega)).bind fun _ s1 h => ?_
  unfold done; exact Good.itep (fun _ => good_ret _ (by omega)) (fun _ => good_unfit _ _ _)
 ·refine (good_name fin (Nat.le_refl _)).bind fun _ s1 h => Good.itep (fun _ => ?_) (fun _ => ((all_good fin s.ts.length).pa _ s1 (by omega) (by omega)).bind fun _ s1 h => ?_)
  ·unfold done; exact Good.itep (fun _ => good_ret _ (by omega)) (fun _ => good_unfit _ _ _)
  ·unfold done; exact Good.itep (fun _ => good_ret _ (by omega)) (fun _ => good_unfit _ _ _)
end SynP
namespace SynP
open LexP
abbrev KT := Nat × Bytes
def kt (ts : List Tok) : List KT := ts.map fun t => (t.1, t.2.1)
def Is (ts : List Tok) (l : List KT) (r : List Tok) : Prop := ∃ a, ts = a ++ r ∧ kt a = l
theorem Is.nil {ts r : List Tok} (h : Is ts [] r) : ts = r := by
 obtain ⟨a, rfl, h⟩ := h
 cases a with
 | nil => rfl
 | cons x a => simp [kt] at h
theorem Is.cons {ts r : List Tok} {x : KT} {l : List KT} (h : Is ts (x :: l) r) : ∃ c ts', ts = (x.1, x.2, c) :: ts' ∧ Is ts' l r := by
 obtain ⟨a, rfl, h⟩ := h
 cases a with
 | nil => simp [kt] at h
 | cons y a =>
  simp only [kt, List.map_cons, List.cons.injEq] at h
  refine ⟨y.2.2, a ++ r, ?_, a, rfl, h.2⟩
  rw [← h.1]; rfl
theorem Is.refl (r : List Tok) : Is r [] r := ⟨[], rfl, rfl⟩
theorem Is.all (ts : List Tok) : Is ts (kt ts) [] := ⟨ts, by simp, rfl⟩
theorem Ev.succ {α : Type} {g : Nat → PR α} {r : Except (Nat × Nat) (α × St)} (h : Ev (fun f => g (f + 1)) r) : Ev g r := by
 obtain ⟨f, h⟩ := h; exact ⟨f + 1, h⟩
theorem Ev.bind {α β : Type} {g : Nat → PR α} {h : Nat → α → St → PR β} {a : α} {s : St} {r : Except (Nat × Nat) (β × St)} (sg : Stab g) (sh : ∀ a s, Stab fun f => h f a s)
  (h1 : Ev g (.ok (a, s))) (h2 : Ev (fun f => h f a s) r) : Ev (fun f => (g f).bind (h f)) r := by
 obtain ⟨f1, h1⟩ := h1
 obtain ⟨f2, h2⟩ := h2
 refine ⟨max f1 f2, ?_⟩
 simp only
 rw [sg.le (Nat.le_max_left f1 f2) h1]
 exact (sh a s).le (Nat.le_max_right f1 f2) h2
abbrev mk (x : UInt8) : KT := (3, [x])
def numK (n : Nat) : KT := (1, decT n)
def intK (x : Bool × Nat) : List KT := (if x.1 then [mk 45] else []) ++ [numK x.2]
def joinK (sep : List KT) : List (List KT) → List KT
 | [] => []
 | [a] => a
 | a :: l => a ++ sep ++ joinK sep l
def matK (m : MatV) : List KT :=
 if m.at_ = [] then [mk 91, numK m.rows, mk 58, numK m.cols, mk 93]
 else mk 91 :: (joinK [mk 59] ((rowsOf m.cols m.rows m.at_).map fun l => l.flatMap intK) ++ [mk 93])
def cpxK (l : List (List Nat)) : List KT := mk 123 :: (joinK [mk 44] (l.map fun s => s.map numK) ++ [mk 125])
def parK (b : Bool) (t : List KT) : List KT := if b then mk 40 :: (t ++ [mk 41]) else t
mutual
def Ex.tk : Ex → List KT
 | .num n => [numK n]
 | .name x => [(2, x)]
 | .mat m => matK m
 | .cpx l => cpxK l
 | .neg a => mk 45 :: parK (loose 4 0 a.op) a.tk
 | .turn a => parK (loose 5 0 a.op) a.tk ++ [mk 39]
 | .add a b => parK (loose 6 0 a.op) a.tk ++ mk 43 :: parK (loose 6 1 b.op) b.tk
 | .sub a b => parK (loose 7 0 a.op) a.tk ++ mk 45 :: parK (loose 7 1 b.op) b.tk
 | .mul a b => parK (loose 8 0 a.op) a.tk ++ mk 42 :: parK (loose 8 1 b.op) b.tk
 | .pow a n => parK (loose 9 0 a.op) a.tk ++ [mk 94, numK n]
 | .call x l => (2, x) :: mk 40 :: (l.tk ++ [mk 41])
def Exs.tk : Exs → List KT
 | .nil => []
 | .cons a l => a.tk ++ l.tkTail
def Exs.tkTail : Exs → List KT
 | .nil => []
 | .cons a l => mk 44 :: (a.tk ++ l.tkTail)
end
def Ln.tk : Ln → List KT
 | .nothing => []
 | .lets x e => (2, letB) :: (2, x) :: mk 61 :: e.tk
 | .cmd x l => (2, x) :: l.tk
def MatOk (m : MatV) : Prop := m.rows ≤ 64 ∧ m.cols ≤ 64 ∧ m.at_.length = m.rows * m.cols ∧ ∀ x ∈ m.at_, x.1 = true → 0 < x.2
def CpxOk (l : List (List Nat)) : Prop := ∀ s ∈ l, s ≠ []
def NameOk (x : Bytes) : Prop := ∃ c, Toks 1 (chars x) = .ok [(2, x, c)]
mutual
def Ex.wf : Ex → Prop
 | .num _ => True
 | .name x => NameOk x
 | .mat m => MatOk m
 | .cpx l => CpxOk l
 | .neg a => a.wf | .turn a => a.wf
 | .add a b => a.wf ∧ b.wf | .sub a b => a.wf ∧ b.wf | .mul a b => a.wf ∧ b.wf
 | .pow a _ => a.wf
 | .call x l => NameOk x ∧ l ≠ .nil ∧ l.wf
def Exs.wf : Exs → Prop
 | .nil => True
 | .cons a l => a.wf ∧ l.wf
end
def Ln.wf : Ln → Prop
 | .nothing => True
 | .lets x e => NameOk x ∧ e.wf
 | .cmd x l => NameOk x ∧ x ≠ letB ∧ l.wf
end SynP
namespace SynP
open LexP
theorem Is.tail {ts r : List Tok} {k : KT} {l : List KT} (h : Is ts (k :: l) r) : Is ts.tail l r := by
 obtain ⟨c, ts', rfl, h'⟩ := h.cons; exact h'
theorem rowsOf_len {α : Type} (cols : Nat) : ∀ (r : Nat) (l : List α), l.length = r * cols → (rowsOf cols r l).map List.length = List.replicate r cols ∧ (rowsOf cols r l).flatten = l := by
 intro r
 induction r with
 | zero => intro l h; rw [Nat.zero_mul] at h; exact ⟨rfl, (List.eq_nil_of_length_eq_zero h).symm⟩
 | succ r ih =>
  intro l h
  rw [Nat.add_mul, Nat.one_mul] at h
  obtain ⟨h1, h2⟩ := ih (l.drop cols) (by rw [List.length_drop]; omega)
  refine ⟨?_, ?_⟩
  ·simp only [rowsOf, List.map_cons, List.replicate_succ, h1]
   rw [List.length_take, Nat.min_eq_left (by omega)]
  ·simp only [rowsOf, List.flatten_cons, h2, List.take_append_drop]
theorem rowsOf_mem {α : Type} (cols : Nat) : ∀ (r : Nat) (l : List α), ∀ y ∈ rowsOf cols r l, ∀ x ∈ y, x ∈ l := by
 intro r
 induction r with
 | zero => intro l y h; cases h
 | succ r ih =>
  intro l y h x hx
  simp only [rowsOf, List.mem_cons] at h
  rcases h with rfl | h
  ·exact List.mem_of_mem_take hx
  ·exact List.mem_of_mem_drop (ih _ _ h x hx)
end SynP
namespace SynP
open LexP
def nm (x : UInt8) (r : List Tok) : Prop := isMark [x] r = false
structure S2 (r : List Tok) : Prop where
 a : nm 40 r
 b : nm 39 r
 c : nm 94 r
structure S3 (r : List Tok) : Prop where
 s2 : S2 r
 d : nm 42 r
structure S4 (r : List Tok) : Prop where
 s3 : S3 r
 e : nm 43 r
 f : nm 45 r
end SynP
namespace SynP
open LexP
structure NI where
 op : Int
 text : Bytes
 kids : List Int
deriving DecidableEq
def Node.toI (n : Node) : NI := ⟨n.op, n.text, n.kids.map fun k : Nat => (k : Int)⟩
def cnt (op : Int) (k : Nat) : Bool :=
 if op = 1 ∨ op = 2 ∨ op = 3 ∨ op = 13 ∨ op = 14 then k == 0
 else if op = 4 ∨ op = 5 ∨ op = 9 ∨ op = 11 then k == 1
 else if op = 6 ∨ op = 7 ∨ op = 8 then k == 2
 else if op = 10 then decide (1 ≤ k)
 else decide (op = 12)
def wholeI (op : Int) : Bool := op == 11 || op == 12 || op == 14
structure WOk (W : Int → Bytes → Bool) : Prop where
 num : ∀ t, W 1 t = true ↔ ∃ n, t = decT n
 pow : ∀ t, W 9 t = true ↔ ∃ n, t = decT n
 name : ∀ t, W 2 t = true ↔ NameOk t
 call : ∀ t, W 10 t = true ↔ NameOk t
 lets : ∀ t, W 11 t = true ↔ NameOk t
 cmd : ∀ t, W 12 t = true ↔ NameOk t ∧ t ≠ letB
 mat : ∀ t, W 3 t = true ↔ ∃ m, MatOk m ∧ t = matT m
 cpx : ∀ t, W 13 t = true ↔ ∃ l, CpxOk l ∧ t = cpxT l
 none : ∀ (op : Int) t, op = 4 ∨ op = 5 ∨ op = 6 ∨ op = 7 ∨ op = 8 ∨ op = 14 → (W op t = true ↔ t = [])
def flatL : List Ex → Nat → List Node
 | [], _ => []
 | a :: l, o => a.flat o ++ flatL l (o + a.size)
def rootsL : List Ex → Nat → List Nat
 | [], _ => []
 | a :: l, o => (o + a.size - 1) :: rootsL l (o + a.size)
def sizeL : List Ex → Nat
 | [] => 0
 | a :: l => a.size + sizeL l
def ofL : List Ex → Exs
 | [] => .nil
 | a :: l => .cons a (ofL l)
theorem ofL_flat : ∀ (l : List Ex) (o : Nat), (ofL l).flat o = flatL l o
 | [], _ => rfl
 | a :: l, o => by show a.flat o ++ (ofL l).flat _ = _; rw [ofL_flat l]; rfl
theorem ofL_roots : ∀ (l : List Ex) (o : Nat), (ofL l).roots o = rootsL l o
 | [], _ => rfl
 | a :: l, o => by show _ :: (ofL l).roots _ = _; rw [ofL_roots l]; rfl
theorem ofL_size : ∀ (l : List Ex), (ofL l).size = sizeL l
 | [] => rfl
 | a :: l => by show _ + (ofL l).size = _; rw [ofL_size l]; rfl
theorem ofL_wf : ∀ (l : List Ex), (∀ e ∈ l, e.wf) → (ofL l).wf
 | [], _ => trivial
 | a :: l, h => ⟨h a (by simp), ofL_wf l (fun e he => h e (List.mem_cons_of_mem _ he))⟩
def nL (l : List Node) : List NI := l.map Node.toI
theorem nL_app (a b : List Node) : nL (a ++ b) = nL a ++ nL b := by simp [nL]
theorem build {W : Int → Bytes → Bool} (hW : WOk W) {x : NI} {es : List Ex} {o : Nat} (hc : cnt x.op es.length = true) (hw : wholeI x.op = false) (hk : x.kids = (rootsL es o).map fun k : Nat => (k : Int)) (ht : W x.op x.text = true) (he : ∀ e ∈ es, e.wf) :
  ∃ e : Ex, e.wf ∧ nL (e.flat o) = nL (flatL es o) ++ [x] ∧ e.size = sizeL es + 1 := by
 obtain ⟨op, text, kids⟩ := x
 simp only at hc hw hk ht
 subst hk
 unfold cnt at hc
 split at hc
 ·rename_i h
  have e0 : es = [] := List.eq_nil_of_length_eq_zero (by simpa using hc)
  subst e0
  rcases h with rfl | rfl | rfl | rfl | rfl
  ·obtain ⟨n, rfl⟩ := (hW.num _).1 ht
   exact ⟨.num n, trivial, rfl, rfl⟩
  ·exact ⟨.name text, (hW.name _).1 ht, rfl, rfl⟩
  ·obtain ⟨m, hm, rfl⟩ := (hW.mat _).1 ht
   exact ⟨.mat m, hm, rfl, rfl⟩
  ·obtain ⟨m, hm, rfl⟩ := (hW.cpx _).1 ht
   exact ⟨.cpx m, hm, rfl, rfl⟩
  ·cases hw
 ·split at hc
  ·rename_i h
   obtain ⟨a, rfl⟩ : ∃ a, es = [a] := by
    rcases es with - | ⟨a, - | ⟨b, l⟩⟩
    ·cases hc
    ·exact ⟨a, rfl⟩
    ·simp at hc
   have ha := he a (by simp)
   rcases h with rfl | rfl | rfl | rfl
   ·have := (hW.none _ text (by simp)).1 ht
    subst this
    exact ⟨.neg a, ha, by simp [Ex.flat, nL, flatL, rootsL, Node.toI], by simp [Ex.size, sizeL]⟩
   ·have := (hW.none _ text (by simp)).1 ht
    subst this
    exact ⟨.turn a, ha, by simp [Ex.flat, nL, flatL, rootsL, Node.toI], by simp [Ex.size, sizeL]⟩
   ·obtain ⟨n, rfl⟩ := (hW.pow _).1 ht
    exact ⟨.pow a n, ha, by simp [Ex.flat, nL, flatL, rootsL, Node.toI], by simp [Ex.size, sizeL]⟩
   ·cases hw
  ·split at hc
   ·rename_i h
    obtain ⟨a, b, rfl⟩ : ∃ a b, es = [a, b] := by
     rcases es with - | ⟨a, - | ⟨b, - | ⟨c, l⟩⟩⟩
     ·cases hc
     ·cases hc
     ·exact ⟨a, b, rfl⟩
     ·simp at hc
    have ha := he a (by simp)
    have hb := he b (by simp)
    have := (hW.none op text (by omega)).1 ht
    subst this
    rcases h with rfl | rfl | rfl
    ·exact ⟨.add a b, ⟨ha, hb⟩, by simp [Ex.flat, nL, flatL, rootsL, Node.toI], by simp [Ex.size, sizeL, Nat.add_assoc]⟩
    ·exact ⟨.sub a b, ⟨ha, hb⟩, by simp [Ex.flat, nL, flatL, rootsL, Node.toI], by simp [Ex.size, sizeL, Nat.add_assoc]⟩
    ·exact ⟨.mul a b, ⟨ha, hb⟩, by simp [Ex.flat, nL, flatL, rootsL, Node.toI], by simp [Ex.size, sizeL, Nat.add_assoc]⟩
   ·split at hc
    ·rename_i h
     subst h
     have hne : ofL es ≠ .nil := by
      cases es with
      | nil => simp at hc
      | cons a l => simp [ofL]
     refine ⟨.call text (ofL es), ⟨(hW.call _).1 ht, hne, ofL_wf es he⟩, ?_, ?_⟩
     ·show nL ((ofL es).flat o ++ [⟨10, text, (ofL es).roots o⟩]) = _
      rw [ofL_flat, ofL_roots, nL_app]; rfl
     ·show (ofL es).size + 1 = _
      rw [ofL_size]
    ·have : op = 12 := by simpa using hc
     subst this
     cases hw
end SynP
namespace SynP
open LexP
theorem bind_ok {α β : Type} {x : PR α} {f : α → St → PR β} {r : β × St} (h : x.bind f = some (.ok r)) : ∃ a s, x = some (.ok (a, s)) ∧ f a s = some (.ok r) := by
 rcases x with - | (e | ⟨a, s⟩)
 ·cases h
 ·cases h
 ·exact ⟨a, s, rfl, h⟩
def EntOk (x : Bool × Nat) : Prop := x.1 = true → 0 < x.2
theorem entryRow_sum (fin : Nat) : ∀ (f n : Nat) (acc : List (Bool × Nat)) (s : St) (r : (Nat × List (Bool × Nat)) × St), entryRow fin f n acc s = some (.ok r) → ∃ l, r.1.2 = acc ++ l ∧ r.1.1 = n + l.length ∧ (∀ x ∈ l, EntOk x)
 | 0, _, _, _, _, h => by cases h
 | f + 1, n, acc, s, r, h => by
  unfold entryRow at h
  split at h
  ·obtain ⟨m, s', h1, h2⟩ := bind_ok h
   obtain ⟨l, a1, a2, a3⟩ := entryRow_sum fin f _ _ _ _ h2
   refine ⟨(isMark [45] s.ts && decide (0 < m), m) :: l, by rw [a1, List.append_assoc]; rfl, by rw [a2, List.length_cons]; omega, fun x hx => ?_⟩
   rcases List.mem_cons.1 hx with rfl | hx
   ·intro hq; simp at hq; exact hq.2
   ·exact a3 x hx
  ·unfold ret at h
   cases h
   exact ⟨[], by simp, by simp, fun x hx => by cases hx⟩
theorem entries_sum (fin : Nat) : ∀ (f : Nat) (acc : List (Bool × Nat)) (lens : List Nat) (s : St) (r : (List (Bool × Nat) × List Nat) × St), entries fin f acc lens s = some (.ok r) → acc.length = lens.sum → (∀ x ∈ acc, EntOk x) → r.1.1.length = r.1.2.sum ∧ (∀ x ∈ r.1.1, EntOk x) ∧ 0 < r.1.2.length
 | 0, _, _, _, _, h => by cases h
 | f + 1, acc, lens, s, r, h => by
  intro hs ho
  unfold entries at h
  obtain ⟨q, s1, h1, h2⟩ := bind_ok h
  obtain ⟨l, a1, a2, a3⟩ := entryRow_sum fin f _ _ _ _ h1
  simp only at a1 a2
  have hs2 : q.2.length = (lens ++ [q.1]).sum := by rw [a1, a2, List.length_append, List.sum_append, hs]; simp
  have ho2 : ∀ x ∈ q.2, EntOk x := by
   intro x hx
   rw [a1] at hx
   rcases List.mem_append.1 hx with h | h
   ·exact ho x h
   ·exact a3 x h
  split at h2
  ·unfold ret at h2
   cases h2
   exact ⟨hs2, ho2, by simp⟩
  ·obtain ⟨u, s2, h3, h4⟩ := bind_ok h2
   exact entries_sum fin f _ _ _ _ h4 hs2 ho2
theorem sum_same : ∀ (l : List Nat) (k : Nat), (∀ x ∈ l, x = k) → l.sum = l.length * k
 | [], _, _ => by simp
 | a :: l, k, h => by
  rw [List.sum_cons, List.length_cons, sum_same l k (fun x hx => h x (List.mem_cons_of_mem _ hx)), h a (by simp), Nat.succ_mul]; omega
theorem matrix_ok {fin f : Nat} {s : St} {r : MatV × St} (h : matrix fin f s = some (.ok r)) : MatOk r.1 := by
 unfold matrix at h
 obtain ⟨u, s1, h1, h2⟩ := bind_ok h
 split at h2
 ·unfold matShape at h2
  obtain ⟨a, s2, -, h3⟩ := bind_ok h2
  obtain ⟨-, s3, -, h4⟩ := bind_ok h3
  obtain ⟨c, s4, -, h5⟩ := bind_ok h4
  obtain ⟨-, s5, -, h6⟩ := bind_ok h5
  split at h6
  ·cases h6
  ·rename_i hn
   unfold ret at h6
   cases h6
   have hq : ∀ n, ¬ 64 < side n → n ≤ 64 := by
    intro n hn
    unfold side at hn
    split at hn <;> omega
   simp at hn
   refine ⟨hq a (by omega), hq c (by omega), by simp, fun x hx => ?_⟩
   have := List.eq_of_mem_replicate hx
   subst this
   intro h; cases h
 ·obtain ⟨q, s2, h3, h4⟩ := bind_ok h2
  obtain ⟨e1, e2, e3⟩ := entries_sum fin f _ _ _ _ h3 rfl (fun x hx => by cases hx)
  unfold matDone at h4
  split at h4
  ·cases h4
  ·rename_i hany
   split at h4
   ·cases h4
   ·rename_i hn
    unfold ret at h4
    cases h4
    simp at hn hany
    refine ⟨hn.1, by show q.2.headD 0 ≤ 64; have := hn.2; cases hq : q.2 <;> simp [hq] at this ⊢ <;> exact this, ?_, e2⟩
    show q.1.length = q.2.length * q.2.headD 0
    rw [e1]
    refine sum_same _ _ (fun x hx => ?_)
    have := hany x hx
    simpa using this
end SynP
namespace SynP
open LexP
def Keep (s s' : St) : Prop := s'.opened = s.opened ∧ s'.ts.length ≤ s.ts.length
theorem Keep.refl (s : St) : Keep s s := ⟨rfl, Nat.le_refl _⟩
theorem Keep.trans {a b c : St} (h : Keep a b) (k : Keep b c) : Keep a c := ⟨k.1.trans h.1, Nat.le_trans k.2 h.2⟩
theorem Keep.adv (s : St) : Keep s s.adv := ⟨rfl, by show s.ts.tail.length ≤ _; rw [List.length_tail]; omega⟩
theorem ret_ok {α : Type} {a : α} {s : St} {r : α × St} (h : ret a s = some (.ok r)) : r = (a, s) := by unfold ret at h; cases h; rfl
theorem fault_ok {α : Type} {c k : Nat} {r : α × St} (h : (fault c k : PR α) = some (.ok r)) : False := by unfold fault at h; cases h
theorem want_keep {fin : Nat} {x : Bytes} {s : St} {r : Unit × St} (h : want fin x s = some (.ok r)) : Keep s r.2 := by
 unfold want at h
 split at h
 ·rw [ret_ok h]; exact Keep.adv s
 ·unfold unfit at h; exact (fault_ok h).elim
theorem number_keep {fin : Nat} {s : St} {r : Nat × St} (h : number fin s = some (.ok r)) : Keep s r.2 := by
 unfold number at h
 split at h
 ·rw [ret_ok h]; exact Keep.adv s
 ·unfold unfit at h; exact (fault_ok h).elim
theorem entryRow_keep (fin : Nat) : ∀ (f n : Nat) (acc : List (Bool × Nat)) (s : St) (r : (Nat × List (Bool × Nat)) × St), entryRow fin f n acc s = some (.ok r) → Keep s r.2
 | 0, _, _, _, _, h => by cases h
 | f + 1, n, acc, s, r, h => by
  unfold entryRow at h
  split at h
  ·obtain ⟨m, s', h1, h2⟩ := bind_ok h
   have k1 := number_keep h1
   have k2 := entryRow_keep fin f _ _ _ _ h2
   refine Keep.trans ?_ (k1.trans k2)
   split
   ·exact Keep.adv s
   ·exact Keep.refl s
  ·rw [ret_ok h]; exact Keep.refl s
theorem entries_keep (fin : Nat) : ∀ (f : Nat) (acc : List (Bool × Nat)) (lens : List Nat) (s : St) (r : (List (Bool × Nat) × List Nat) × St), entries fin f acc lens s = some (.ok r) → Keep s r.2
 | 0, _, _, _, _, h => by cases h
 | f + 1, acc, lens, s, r, h => by
  unfold entries at h
  obtain ⟨q, s1, h1, h2⟩ := bind_ok h
  have k1 := entryRow_keep fin f _ _ _ _ h1
  split at h2
  ·rw [ret_ok h2]; exact k1.trans (Keep.adv s1)
  ·obtain ⟨u, s2, h3, h4⟩ := bind_ok h2
   exact k1.trans ((want_keep h3).trans (entries_keep fin f _ _ _ _ h4))
theorem matrix_keep {fin f : Nat} {s : St} {r : MatV × St} (h : matrix fin f s = some (.ok r)) : Keep s r.2 := by
 unfold matrix at h
 obtain ⟨u, s1, h1, h2⟩ := bind_ok h
 refine (want_keep h1).trans ?_
 split at h2
 ·unfold matShape at h2
  obtain ⟨a, s2, g1, h3⟩ := bind_ok h2
  obtain ⟨_, s3, g2, h4⟩ := bind_ok h3
  obtain ⟨c, s4, g3, h5⟩ := bind_ok h4
  obtain ⟨_, s5, g4, h6⟩ := bind_ok h5
  refine (number_keep g1).trans ((want_keep g2).trans ((number_keep g3).trans ((want_keep g4).trans ?_)))
  split at h6
  ·exact (fault_ok h6).elim
  ·rw [ret_ok h6]; exact Keep.refl _
 ·obtain ⟨q, s2, h3, h4⟩ := bind_ok h2
  refine (entries_keep fin f _ _ _ _ h3).trans ?_
  unfold matDone at h4
  split at h4
  ·exact (fault_ok h4).elim
  ·split at h4
   ·exact (fault_ok h4).elim
   ·rw [ret_ok h4]; exact Keep.refl _
theorem simplex_keep (fin : Nat) : ∀ (f : Nat) (acc : List Nat) (s : St) (r : List Nat × St), simplex fin f acc s = some (.ok r) → Keep s r.2
 | 0, _, _, _, h => by cases h
 | f + 1, acc, s, r, h => by
  unfold simplex at h
  split at h
  ·obtain ⟨m, s', h1, h2⟩ := bind_ok h
   exact (number_keep h1).trans (simplex_keep fin f _ _ _ h2)
  ·rw [ret_ok h]; exact Keep.refl s
theorem cpxLoop_keep (fin : Nat) : ∀ (f : Nat) (acc : List (List Nat)) (s : St) (r : List (List Nat) × St), cpxLoop fin f acc s = some (.ok r) → Keep s r.2
 | 0, _, _, _, h => by cases h
 | f + 1, acc, s, r, h => by
  unfold cpxLoop at h
  obtain ⟨n, s1, h1, h2⟩ := bind_ok h
  obtain ⟨x, s2, h3, h4⟩ := bind_ok h2
  refine (number_keep h1).trans ((simplex_keep fin f _ _ _ h3).trans ?_)
  split at h4
  ·rw [ret_ok h4]; exact Keep.adv s2
  ·obtain ⟨u, s3, h5, h6⟩ := bind_ok h4
   exact (want_keep h5).trans (cpxLoop_keep fin f _ _ _ h6)
theorem complex_keep {fin f : Nat} {s : St} {r : List (List Nat) × St} (h : complex fin f s = some (.ok r)) : Keep s r.2 := by
 unfold complex at h
 obtain ⟨u, s1, h1, h2⟩ := bind_ok h
 refine (want_keep h1).trans ?_
 split at h2
 ·rw [ret_ok h2]; exact Keep.adv s1
 ·exact cpxLoop_keep fin f _ _ _ h2
end SynP
namespace LexP
theorem isCont_ascii {g : UInt8} (hg : g.toNat < 0x80) : isCont g = false := by simp [isCont]; omega
theorem dec_ascii_behind {l : Bytes} (hl : l ≠ []) {g : UInt8} (hg : g.toNat < 0x80) (b : Bytes) : dec (l ++ g :: b) = dec l := by
 cases hd : dec l with
 | some p => obtain ⟨v, n⟩ := p; exact dec_append hd _
 | none =>
  have hc := isCont_ascii hg
  cases l with
  | nil => exact absurd rfl hl
  | cons x t =>
   simp only [List.cons_append]
   simp only [dec] at hd ⊢
   by_cases h0 : x.toNat < 0x80
   ·simp [h0] at hd
   rw [if_neg h0]
   by_cases h1 : x.toNat / 32 = 6
   ·rw [if_pos h1]
    simp only [h0, h1, if_true, if_false] at hd
    match t with
    | [] => simp [hc]
    | c :: t => simp only [List.cons_append] at hd ⊢; exact hd
   rw [if_neg h1]
   by_cases h2 : x.toNat / 16 = 14
   ·rw [if_pos h2]
    simp only [h0, h1, h2, if_true, if_false] at hd
    match t with
    | [] => cases b <;> simp [hc]
    | [c] => simp [hc]
    | c :: d :: t => simp only [List.cons_append] at hd ⊢; exact hd
   rw [if_neg h2]
   by_cases h3 : x.toNat / 8 = 30
   ·rw [if_pos h3]
    simp only [h0, h1, h2, h3, if_true, if_false] at hd
    match t with
    | [] => match b with
     | [] => simp
     | [x] => simp
     | x :: y :: r => simp [hc]
    | [c] => cases b <;> simp [hc]
    | [c, d] => simp [hc]
    | c :: d :: f :: t => simp only [List.cons_append] at hd ⊢; exact hd
   ·rw [if_neg h3]
theorem chars_append_ascii {g : UInt8} (hg : g.toNat < 0x80) (b : Bytes) : ∀ a : Bytes, chars (a ++ g :: b) = chars a ++ chars (g :: b) := by
 apply chars_ind
 ·simp [chars_nil]
 ·intro l hl ih
  have h1 := chars_cons hl
  have h2 := chars_cons (l := l ++ g :: b) (by simp)
  have hd := dec_ascii_behind hl hg b
  have hv : val (l ++ g :: b) = val l := by simp [val, hd]
  have hw : wid (l ++ g :: b) = wid l := by simp [wid, hd]
  have hk := wid_le hl
  rw [h2, h1, hv, hw, List.take_append_of_le_length hk, List.drop_append_of_le_length hk, ih]
  rfl
theorem chars_ascii {g : UInt8} (hg : g.toNat < 0x80) (b : Bytes) : chars (g :: b) = (some g.toNat, [g]) :: chars b := by
 have h : dec (g :: b) = some (g.toNat, 1) := by simp [dec, hg]
 rw [chars_some h]; rfl
theorem takeWhile_stop {p : C → Bool} {g : C} (hg : p g = false) (A B : List C) : (A ++ g :: B).takeWhile p = A.takeWhile p := by
 induction A with
 | nil => simp [hg]
 | cons a A ih => simp only [List.cons_append, List.takeWhile_cons]; split <;> simp [ih]
theorem runLen_stop {p : C → Bool} {g : C} (hg : p g = false) (A B : List C) : runLen p (A ++ g :: B) = runLen p A := by
 simp [runLen, takeWhile_stop hg]
def joined (B : Nat → Res) (n : Nat) : Res → Res
 | .ok l => (B n).after l
 | .error e => .error e
theorem joined_after (B : Nat → Res) (n : Nat) (r : Res) (l : List Tok) : joined B n (r.after l) = (joined B n r).after l := by
  cases r with
  | ok m => simp [joined, Res.after]
            cases B n <;> simp
  | error e => rfl
theorem Toks_join {g : C} (hg : kd g = 1) (hr : rn g ≠ 95) (B : List C) : ∀ (n : Nat) (A : List C) (col : Nat), A.length ≤ n → (∀ c ∈ A, kd c ≠ 2) →
  Toks col (A ++ g :: B) = joined (fun k => Toks k B) (col + A.length + 1) (Toks col A) := by
 have hnum : isNum g = false := by simp [isNum, hg, hr]
 have hal : isAl g = false := by simp [isAl, hg]
 intro n
 induction n with
 | zero =>
  intro A col hl _
  obtain rfl : A = [] := List.eq_nil_of_length_eq_zero (by omega)
  simp only [List.nil_append, Toks_nil, joined, List.length_nil, Nat.add_zero]
  rw [Toks_blank _ hg, Res.after_nil]
 | succ n ih =>
  intro A col hl h2
  cases A with
  | nil =>
   simp only [List.nil_append, Toks_nil, joined, List.length_nil, Nat.add_zero]
   rw [Toks_blank _ hg, Res.after_nil]
  | cons c A =>
   simp only [List.length_cons] at hl
   have h2c := h2 c (by simp)
   have h2A : ∀ c ∈ A, kd c ≠ 2 := fun d hd => h2 d (by simp [hd])
   have hk := kd_le c
   have key : ∀ (p : C → Bool) (hp : p g = false) (hpc : p c = true) (t : Tok),
     (Toks (col + runLen p (c :: A)) ((c :: A ++ g :: B).drop (runLen p (c :: A)))).after [t] =
     joined (fun k => Toks k B) (col + (c :: A).length + 1) ((Toks (col + runLen p (c :: A)) ((c :: A).drop (runLen p (c :: A)))).after [t]) := by
    intro p hp hpc t
    have h1 := runLen_pos (cs := A) hpc
    have h3 := runLen_le p (c :: A)
    rw [List.drop_append_of_le_length h3, ih _ _ (by simp only [List.length_drop, List.length_cons]; omega) (fun d hd => h2 d (List.mem_of_mem_drop hd)), joined_after]
    congr 2
    simp only [List.length_drop, List.length_cons] at h3 ⊢
    omega
   have take_eq : ∀ (p : C → Bool), (c :: A ++ g :: B).take (runLen p (c :: A)) = (c :: A).take (runLen p (c :: A)) := fun p => List.take_append_of_le_length (runLen_le p _)
   by_cases k0 : kd c = 0
   ·rw [List.cons_append, Toks_bad _ k0, Toks_bad _ k0]; rfl
   by_cases k1 : kd c = 1
   ·rw [List.cons_append, Toks_blank _ k1, Toks_blank _ k1, ih A _ (by omega) h2A]
    congr 1; simp only [List.length_cons]; omega
   by_cases k3 : kd c = 3
   ·rw [List.cons_append, Toks_num _ k3, Toks_num _ k3]
    rw [← List.cons_append, runLen_stop hnum, take_eq]
    split
    ·rfl
    ·exact key isNum hnum (by simp [isNum, k3]) _
   by_cases k4 : kd c = 4
   ·rw [List.cons_append, Toks_name _ k4, Toks_name _ k4]
    rw [← List.cons_append, runLen_stop hal, take_eq]
    split
    ·rfl
    ·exact key isAl hal (by simp [isAl, k4]) _
   by_cases k5 : kd c = 5
   ·rw [List.cons_append, Toks_mark _ k5, Toks_mark _ k5, ih A _ (by omega) h2A, joined_after]
    congr 2; simp only [List.length_cons]; omega
   ·have k6 : kd c = 6 := by omega
    rw [List.cons_append, Toks_other _ k6, Toks_other _ k6]; rfl
def shiftT (d : Nat) (l : List Tok) : List Tok := l.map fun t => (t.1, t.2.1, t.2.2 + d)
def shiftR (d : Nat) : Res → Res
 | .ok l => .ok (shiftT d l)
 | .error e => .error (e.1 + d, e.2)
theorem shiftR_after (d : Nat) (r : Res) (l : List Tok) : shiftR d (r.after l) = (shiftR d r).after (shiftT d l) := by
 cases r <;> simp [shiftR, Res.after, shiftT]
theorem Toks_shift (d : Nat) : ∀ (n : Nat) (A : List C) (col : Nat), A.length ≤ n → Toks (col + d) A = shiftR d (Toks col A) := by
 intro n
 induction n with
 | zero =>
  intro A col hl
  obtain rfl : A = [] := List.eq_nil_of_length_eq_zero (by omega)
  rfl
 | succ n ih =>
  intro A col hl
  cases A with
  | nil => rfl
  | cons c A =>
   simp only [List.length_cons] at hl
   have hk := kd_le c
   by_cases k0 : kd c = 0
   ·rw [Toks_bad _ k0, Toks_bad _ k0]; rfl
   by_cases k1 : kd c = 1
   ·rw [Toks_blank _ k1, Toks_blank _ k1, ← ih A _ (by omega)]
    congr 1; omega
   by_cases k2 : kd c = 2
   ·rw [Toks_hash _ k2, Toks_hash _ k2]
    split
    ·simp only [shiftR]; congr 2; omega
    ·rfl
   by_cases k3 : kd c = 3
   ·have h1 := runLen_pos (p := isNum) (c := c) (cs := A) (by simp [isNum, k3])
    rw [Toks_num _ k3, Toks_num _ k3]
    split
    ·rfl
    ·rw [shiftR_after, ← ih _ _ (by simp only [List.length_drop, List.length_cons]; omega)]
     congr 2; omega
   by_cases k4 : kd c = 4
   ·have h1 := runLen_pos (p := isAl) (c := c) (cs := A) (by simp [isAl, k4])
    rw [Toks_name _ k4, Toks_name _ k4]
    split
    ·rfl
    ·rw [shiftR_after, ← ih _ _ (by simp only [List.length_drop, List.length_cons]; omega)]
     congr 2; omega
   by_cases k5 : kd c = 5
   ·rw [Toks_mark _ k5, Toks_mark _ k5, shiftR_after, ← ih A _ (by omega)]
    congr 2; omega
   ·have k6 : kd c = 6 := by omega
    rw [Toks_other _ k6, Toks_other _ k6]; rfl
theorem hash_byte : ∀ (a : Bytes), a.any (· == 35) = false → ∀ c ∈ chars a, kd c ≠ 2 := by
 apply chars_ind
 ·intro _ c hc; simp [chars_nil] at hc
 ·intro l hl ih h c hc
  rw [chars_cons hl] at hc
  rcases List.mem_cons.1 hc with rfl | hc
  ·intro hk
   cases l with
   | nil => exact hl rfl
   | cons x t =>
    simp only [List.any_cons, Bool.or_eq_false_iff, beq_eq_false_iff_ne] at h
    unfold kd at hk
    cases hd : dec (x :: t) with
    | none => simp [val, hd] at hk
    | some p =>
     obtain ⟨v, n⟩ := p
     simp only [val, hd, Option.map_some] at hk
     have h35 : v = 35 := by
      unfold kindOf at hk
      repeat' split at hk
      all_goals omega
     subst h35
     simp only [dec] at hd
     split at hd
     ·simp at hd
      exact h.1 (UInt8.toNat_inj.1 (by simpa using hd.1))
     split at hd
     ·split at hd
      ·split at hd
       ·rename_i k; simp only [Bool.and_eq_true, decide_eq_true_eq] at k; simp at hd; omega
       ·simp at hd
      ·cases hd
     split at hd
     ·split at hd
      ·split at hd
       ·rename_i k; simp only [Bool.and_eq_true, decide_eq_true_eq] at k; simp at hd; omega
       ·simp at hd
      ·cases hd
     split at hd
     ·split at hd
      ·split at hd
       ·rename_i k; simp only [Bool.and_eq_true, decide_eq_true_eq] at k; simp at hd; omega
       ·simp at hd
      ·cases hd
     ·cases hd
  ·refine ih ?_ c hc
   rw [List.any_eq_false] at h ⊢
   exact fun x hx => h x (List.mem_of_mem_drop hx)
def leads (l : Bytes) : Nat := (l.filter fun c => c.toNat < 0x80 || 0xc0 ≤ c.toNat).length
end LexP
