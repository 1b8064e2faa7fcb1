/- Joined texts of this claim's proof: GrpP, SynP, ZintW, GcA, GcB, Zin2, Zin3. -/
import Derived.Test.YtgfmiladfeoldaaGreatDoorPk10
import Derived.Test.YtgfmiladfeoldaaGreatDoorPk3
import Derived.Test.YtgfmiladfeoldaaGreatDoorPk8
import Derived.Deep.LoopGhost
set_option linter.unusedSimpArgs false
set_option linter.unusedVariables false
namespace LexP
def okUpto (t : Bytes) (pos : Nat) : Prop := ∀ j, j < pos → t[j]? = some 95 → 0 < j ∧ t[j - 1]? ≠ some 95
def btw (t : Bytes) (pos : Nat) : Bool := decide (0 < pos) && (t[pos - 1]? != some 95)
theorem okUpto_zero (t : Bytes) : okUpto t 0 := fun j h => absurd h (Nat.not_lt_zero _)
theorem btw_succ (t : Bytes) (pos : Nat) : btw t (pos + 1) = (t[pos]? != some 95) := by simp [btw]
theorem okUpto_succ {t : Bytes} {pos : Nat} (h : okUpto t pos) (hb : t[pos]? = some 95 → btw t pos = true) : okUpto t (pos + 1) := by
 intro j hj h95
 rcases Nat.lt_succ_iff_lt_or_eq.1 hj with h1 | rfl
 ·exact h j h1 h95
 ·have := hb h95
  simp only [btw, Bool.and_eq_true, decide_eq_true_eq, bne_iff_ne] at this
  exact this
theorem rg_fail {t : Bytes} {pos : Nat} (h : t[pos]? = some 95) (hb : btw t pos = false) : anyBad t = true := by
 rw [anyBad_iff]
 refine ⟨pos, (List.getElem?_eq_some_iff.1 h).1, ?_⟩
 simp only [btw, Bool.and_eq_false_iff, decide_eq_false_iff_not, bne_eq_false_iff_eq] at hb
 simp only [usBad, h, beq_self_eq_true, Bool.true_and]
 rcases hb with hb | hb
 ·have : pos = 0 := by omega
  subst this; simp
 ·rw [hb]; simp
theorem rg_end_bad {t : Bytes} (h0 : t ≠ []) (hb : btw t t.length = false) : anyBad t = true := by
 rw [anyBad_iff]
 have hl : 0 < t.length := List.length_pos_iff.2 h0
 simp only [btw, Bool.and_eq_false_iff, decide_eq_false_iff_not, bne_eq_false_iff_eq] at hb
 rcases hb with hb | hb
 ·omega
 ·refine ⟨t.length - 1, by omega, ?_⟩
  have : decide (t.length ≤ t.length - 1 + 1) = true := decide_eq_true (by omega)
  simp only [usBad, hb, beq_self_eq_true, this, Bool.true_and, Bool.or_true, Bool.true_or]
theorem rg_end_ok {t : Bytes} (h : okUpto t t.length) (hb : btw t t.length = true) : anyBad t = false := by
 cases ha : anyBad t with
 | false => rfl
 | true =>
  exfalso
  obtain ⟨j, hj, hu⟩ := (anyBad_iff t).1 ha
  simp only [usBad, Bool.and_eq_true, Bool.or_eq_true, beq_iff_eq, decide_eq_true_eq] at hu
  obtain ⟨h95, hu⟩ := hu
  obtain ⟨h1, h2⟩ := h j hj h95
  simp only [btw, Bool.and_eq_true, decide_eq_true_eq, bne_iff_ne] at hb
  rcases hu with ((hu | hu) | hu) | hu
  ·omega
  ·have : t.length - 1 = j := by omega
   rw [this] at hb; exact hb.2 h95
  ·exact h2 hu
  ·have hlt : j + 1 < t.length := (List.getElem?_eq_some_iff.1 hu).1
   obtain ⟨_, h4⟩ := h (j + 1) hlt hu
   rw [Nat.add_sub_cancel] at h4
   exact h4 h95
theorem btw_of_ok {t : Bytes} (h0 : t ≠ []) (h : anyBad t = false) : btw t t.length = true := by
 cases hb : btw t t.length with
 | true => rfl
 | false => rw [rg_end_bad h0 hb] at h; cases h
theorem dec_low {b : UInt8} {r : Bytes} (h : b.toNat < 128) : val (b :: r) = some b.toNat ∧ wid (b :: r) = 1 := by
 have : dec (b :: r) = some (b.toNat, 1) := by
  show (if b.toNat < 0x80 then _ else _) = _
  rw [if_pos h]
 simp [val, wid, this]
def digs (l : Bytes) : List Nat := l.map fun c => c.toNat - 48
theorem digs_append (a b : Bytes) : digs (a ++ b) = digs a ++ digs b := by simp [digs]
end LexP
namespace SynP
open LexP
structure Node where
 op : Nat
 text : Bytes
 kids : List Nat
deriving DecidableEq, Repr
structure MatV where
 rows : Nat
 cols : Nat
 at_ : List (Bool × Nat)
deriving DecidableEq, Repr
mutual
inductive Ex where
 | num (n : Nat) | name (x : Bytes) | mat (m : MatV) | cpx (l : List (List Nat))
 | neg (a : Ex) | turn (a : Ex) | add (a b : Ex) | sub (a b : Ex) | mul (a b : Ex) | pow (a : Ex) (n : Nat) | call (x : Bytes) (l : Exs)
inductive Exs where
 | nil | cons (a : Ex) (l : Exs)
end
inductive Ln where
 | nothing | lets (x : Bytes) (e : Ex) | cmd (x : Bytes) (l : Exs)
def Exs.snoc : Exs → Ex → Exs
 | .nil, e => .cons e .nil
 | .cons a l, e => .cons a (l.snoc e)
def Exs.len : Exs → Nat
 | .nil => 0
 | .cons _ l => l.len + 1
structure St where
 ts : List Tok
 opened : Nat
deriving DecidableEq, Repr
abbrev PR (α : Type) := Option (Except (Nat × Nat) (α × St))
def PR.bind {α β : Type} (x : PR α) (f : α → St → PR β) : PR β :=
 match x with
 | none => none
 | some (.error e) => some (.error e)
 | some (.ok (a, s)) => f a s
def ret {α : Type} (a : α) (s : St) : PR α := some (.ok (a, s))
def fault {α : Type} (c e : Nat) : PR α := some (.error (c, e))
def colOf (fin : Nat) (ts : List Tok) : Nat := match ts with | [] => fin | t :: _ => t.2.2
def isMark (x : Bytes) (ts : List Tok) : Bool := match ts with | (k, t, _) :: _ => k == 3 && t == x | [] => false
def isKind (k : Nat) (ts : List Tok) : Bool := match ts with | (j, _, _) :: _ => j == k | [] => false
def St.adv (s : St) : St := { s with ts := s.ts.tail }
def unfit {α : Type} (fin : Nat) (s : St) : PR α := fault (colOf fin s.ts) 14
def want (fin : Nat) (x : Bytes) (s : St) : PR Unit := if isMark x s.ts then ret () s.adv else unfit fin s
def valOf (t : Bytes) : Nat := NatP.decV (digs (t.filter NumP.isDig))
def headText (ts : List Tok) : Bytes := match ts with | (_, t, _) :: _ => t | [] => []
def number (fin : Nat) (s : St) : PR Nat := if isKind 1 s.ts then ret (valOf (headText s.ts)) s.adv else unfit fin s
def name (fin : Nat) (s : St) : PR Bytes := if isKind 2 s.ts then ret (headText s.ts) s.adv else unfit fin s
def decT (n : Nat) : Bytes := if n = 0 then [48] else (NatP.dg n).map fun d => UInt8.ofNat (48 + d)
def intT (x : Bool × Nat) : Bytes := (if x.1 then [45] else []) ++ decT x.2
def joinB (sep : Bytes) : List Bytes → Bytes
 | [] => []
 | [a] => a
 | a :: l => a ++ sep ++ joinB sep l
def rowsOf {α : Type} (cols : Nat) : Nat → List α → List (List α)
 | 0, _ => []
 | r + 1, l => l.take cols :: rowsOf cols r (l.drop cols)
def matT (m : MatV) : Bytes :=
 if m.at_ = [] then [91] ++ decT m.rows ++ [58] ++ decT m.cols ++ [93]
 else [91] ++ joinB [59, 32] ((rowsOf m.cols m.rows (m.at_.map intT)).map (joinB [32])) ++ [93]
def cpxT (l : List (List Nat)) : Bytes := [123] ++ joinB [44, 32] (l.map fun s => joinB [32] (s.map decT)) ++ [125]
def side (n : Nat) : Nat := if 64 < n then 65 else n
def entryRow (fin : Nat) : Nat → Nat → List (Bool × Nat) → St → PR (Nat × List (Bool × Nat))
 | 0, _, _, _ => none
 | f + 1, n, acc, s =>
  if n = 0 || isMark [45] s.ts || isKind 1 s.ts then
   (number fin (if isMark [45] s.ts then s.adv else s)).bind fun m s' => entryRow fin f (n + 1) (acc ++ [(isMark [45] s.ts && decide (0 < m), m)]) s'
  else ret (n, acc) s
def entries (fin : Nat) : Nat → List (Bool × Nat) → List Nat → St → PR (List (Bool × Nat) × List Nat)
 | 0, _, _, _ => none
 | f + 1, acc, lens, s =>
  (entryRow fin f 0 acc s).bind fun r s =>
   if isMark [93] s.ts then ret (r.2, lens ++ [r.1]) s.adv
   else (want fin [59] s).bind fun _ s => entries fin f r.2 (lens ++ [r.1]) s
def matShape (fin col : Nat) (s : St) : PR MatV :=
 (number fin s).bind fun r s => (want fin [58] s).bind fun _ s => (number fin s).bind fun c s => (want fin [93] s).bind fun _ s =>
  if 64 < side r || 64 < side c then fault col 5
  else ret ⟨r, c, List.replicate (r * c) (false, 0)⟩ s
def matDone (col : Nat) (a : List (Bool × Nat) × List Nat) (s : St) : PR MatV :=
 if a.2.any (· != a.2.headD 0) then fault col 2
 else if 64 < a.2.length || 64 < a.2.headD 0 then fault col 5
 else ret ⟨a.2.length, a.2.headD 0, a.1⟩ s
def matrix (fin f : Nat) (s0 : St) : PR MatV :=
 (want fin [91] s0).bind fun _ s =>
  if isKind 1 s.ts && isMark [58] s.ts.tail then matShape fin (colOf fin s0.ts) s
  else (entries fin f [] [] s).bind (matDone (colOf fin s0.ts))
def simplex (fin : Nat) : Nat → List Nat → St → PR (List Nat)
 | 0, _, _ => none
 | f + 1, acc, s => if isKind 1 s.ts then (number fin s).bind fun n s => simplex fin f (acc ++ [n]) s else ret acc s
def cpxLoop (fin : Nat) : Nat → List (List Nat) → St → PR (List (List Nat))
 | 0, _, _ => none
 | f + 1, acc, s =>
  (number fin s).bind fun n s => (simplex fin f [n] s).bind fun x s =>
   if isMark [125] s.ts then ret (acc ++ [x]) s.adv
   else (want fin [44] s).bind fun _ s => cpxLoop fin f (acc ++ [x]) s
def complex (fin f : Nat) (s : St) : PR (List (List Nat)) :=
 (want fin [123] s).bind fun _ s => if isMark [125] s.ts then ret [] s.adv else cpxLoop fin f [] s
def minuses : Nat → Nat → St → PR Nat
 | 0, _, _ => none
 | f + 1, n, s => if isMark [45] s.ts then minuses f (n + 1) s.adv else ret n s
def negs : Nat → Ex → Ex
 | 0, k => k
 | n + 1, k => negs n (.neg k)
def turns : Nat → Ex → St → PR Ex
 | 0, _, _ => none
 | f + 1, k, s => if isMark [39] s.ts then turns f (.turn k) s.adv else ret k s
def openB (fin : Nat) (s : St) : PR Unit :=
 if 100 < s.opened + 1 then fault (colOf fin s.ts) 5 else ret () { s.adv with opened := s.opened + 1 }
def closeB (fin : Nat) (s : St) : PR Unit := (want fin [41] s).bind fun _ s => ret () { s with opened := s.opened - 1 }
mutual
def expr (fin : Nat) : Nat → St → PR Ex
 | 0, _ => none
 | f + 1, s => (term fin f s).bind fun k s => exprLoop fin f k s
def exprLoop (fin : Nat) : Nat → Ex → St → PR Ex
 | 0, _, _ => none
 | f + 1, k, s =>
  if isMark [43] s.ts then (term fin f s.adv).bind fun t s => exprLoop fin f (.add k t) s
  else if isMark [45] s.ts then (term fin f s.adv).bind fun t s => exprLoop fin f (.sub k t) s
  else ret k s
def term (fin : Nat) : Nat → St → PR Ex
 | 0, _ => none
 | f + 1, s => (factor fin f s).bind fun k s => termLoop fin f k s
def termLoop (fin : Nat) : Nat → Ex → St → PR Ex
 | 0, _, _ => none
 | f + 1, k, s =>
  if isMark [42] s.ts then (factor fin f s.adv).bind fun t s => termLoop fin f (.mul k t) s
  else ret k s
def factor (fin : Nat) : Nat → St → PR Ex
 | 0, _ => none
 | f + 1, s =>
  (minuses f 0 s).bind fun n s => (post fin f s).bind fun k s =>
   if isMark [94] s.ts then (number fin s.adv).bind fun m s => ret (negs n (.pow k m)) s
   else ret (negs n k) s
def post (fin : Nat) : Nat → St → PR Ex
 | 0, _ => none
 | f + 1, s => (atom fin f s).bind fun k s => turns f k s
def atom (fin : Nat) : Nat → St → PR Ex
 | 0, _ => none
 | f + 1, s =>
  if isKind 1 s.ts then (number fin s).bind fun n s => ret (.num n) s
  else if isKind 2 s.ts && isMark [40] s.ts.tail then
   (name fin s).bind fun x s => (openB fin s).bind fun _ s => (parts fin f s).bind fun ks s => (closeB fin s).bind fun _ s => ret (.call x ks) s
  else if isKind 2 s.ts then (name fin s).bind fun x s => ret (.name x) s
  else if isMark [40] s.ts then (openB fin s).bind fun _ s => (expr fin f s).bind fun k s => (closeB fin s).bind fun _ s => ret k s
  else if isMark [91] s.ts then (matrix fin f s).bind fun m s => ret (.mat m) s
  else if isMark [123] s.ts then (complex fin f s).bind fun l s => ret (.cpx l) s
  else unfit fin s
def parts (fin : Nat) : Nat → St → PR Exs
 | 0, _ => none
 | f + 1, s => (expr fin f s).bind fun k s => partsLoop fin f (.cons k .nil) s
def partsLoop (fin : Nat) : Nat → Exs → St → PR Exs
 | 0, _, _ => none
 | f + 1, ks, s => if isMark [44] s.ts then (expr fin f s.adv).bind fun k s => partsLoop fin f (ks.snoc k) s else ret ks s
end
def done {α : Type} (fin : Nat) (a : α) (s : St) : PR α := if s.ts = [] then ret a s else unfit fin s
def letB : Bytes := [108, 101, 116]
def line (fin f : Nat) (s : St) : PR Ln :=
 if s.ts = [] then ret .nothing s
 else if isKind 2 s.ts && headText s.ts == letB then
  (name fin s.adv).bind fun x s => (want fin [61] s).bind fun _ s => (expr fin f s).bind fun e s => done fin (.lets x e) s
 else
  (name fin s).bind fun x s =>
   if s.ts = [] then done fin (.cmd x .nil) s
   else (parts fin f s).bind fun ks s => done fin (.cmd x ks) s
mutual
def Ex.size : Ex → Nat
 | .num _ => 1 | .name _ => 1 | .mat _ => 1 | .cpx _ => 1
 | .neg a => a.size + 1 | .turn a => a.size + 1
 | .add a b => a.size + b.size + 1 | .sub a b => a.size + b.size + 1 | .mul a b => a.size + b.size + 1
 | .pow a _ => a.size + 1
 | .call _ l => l.size + 1
def Exs.size : Exs → Nat
 | .nil => 0
 | .cons a l => a.size + l.size
end
def Exs.roots : Exs → Nat → List Nat
 | .nil, _ => []
 | .cons a l, o => (o + a.size - 1) :: l.roots (o + a.size)
mutual
def Ex.flat : Ex → Nat → List Node
 | .num n, _ => [⟨1, decT n, []⟩]
 | .name x, _ => [⟨2, x, []⟩]
 | .mat m, _ => [⟨3, matT m, []⟩]
 | .cpx l, _ => [⟨13, cpxT l, []⟩]
 | .neg a, o => a.flat o ++ [⟨4, [], [o + a.size - 1]⟩]
 | .turn a, o => a.flat o ++ [⟨5, [], [o + a.size - 1]⟩]
 | .add a b, o => a.flat o ++ b.flat (o + a.size) ++ [⟨6, [], [o + a.size - 1, o + a.size + b.size - 1]⟩]
 | .sub a b, o => a.flat o ++ b.flat (o + a.size) ++ [⟨7, [], [o + a.size - 1, o + a.size + b.size - 1]⟩]
 | .mul a b, o => a.flat o ++ b.flat (o + a.size) ++ [⟨8, [], [o + a.size - 1, o + a.size + b.size - 1]⟩]
 | .pow a n, o => a.flat o ++ [⟨9, decT n, [o + a.size - 1]⟩]
 | .call x l, o => l.flat o ++ [⟨10, x, l.roots o⟩]
def Exs.flat : Exs → Nat → List Node
 | .nil, _ => []
 | .cons a l, o => a.flat o ++ l.flat (o + a.size)
end
def Ln.size : Ln → Nat
 | .nothing => 1
 | .lets _ e => e.size + 1
 | .cmd _ l => l.size + 1
def Ln.flat : Ln → List Node
 | .nothing => [⟨14, [], []⟩]
 | .lets x e => e.flat 0 ++ [⟨11, x, [e.size - 1]⟩]
 | .cmd x l => l.flat 0 ++ [⟨12, x, l.roots 0⟩]
def Ex.op : Ex → Nat
 | .num _ => 1 | .name _ => 2 | .mat _ => 3 | .cpx _ => 13 | .neg _ => 4 | .turn _ => 5 | .add _ _ => 6 | .sub _ _ => 7 | .mul _ _ => 8 | .pow _ _ => 9 | .call _ _ => 10
def isSum (o : Nat) : Bool := o == 6 || o == 7
def isProd (o : Nat) : Bool := isSum o || o == 8
def loose (op place part : Nat) : Bool :=
 if op == 6 || op == 7 then place == 1 && isSum part
 else if op == 8 then isSum part || (place == 1 && isProd part)
 else if op == 4 then isProd part
 else if op == 9 || op == 5 then isProd part || part == 4 || part == 9
 else false
def par (b : Bool) (t : Bytes) : Bytes := if b then [40] ++ t ++ [41] else t
mutual
def Ex.pr : Ex → Bytes
 | .num n => decT n
 | .name x => x
 | .mat m => matT m
 | .cpx l => cpxT l
 | .neg a => [45] ++ par (loose 4 0 a.op) a.pr
 | .turn a => par (loose 5 0 a.op) a.pr ++ [39]
 | .add a b => par (loose 6 0 a.op) a.pr ++ [32, 43, 32] ++ par (loose 6 1 b.op) b.pr
 | .sub a b => par (loose 7 0 a.op) a.pr ++ [32, 45, 32] ++ par (loose 7 1 b.op) b.pr
 | .mul a b => par (loose 8 0 a.op) a.pr ++ [42] ++ par (loose 8 1 b.op) b.pr
 | .pow a n => par (loose 9 0 a.op) a.pr ++ ([94] ++ decT n)
 | .call x l => x ++ ([40] ++ l.pr ++ [41])
def Exs.pr : Exs → Bytes
 | .nil => []
 | .cons a l => a.pr ++ l.prTail
def Exs.prTail : Exs → Bytes
 | .nil => []
 | .cons a l => [44, 32] ++ a.pr ++ l.prTail
end
def Ln.pr : Ln → Bytes
 | .nothing => []
 | .lets x e => [108, 101, 116, 32] ++ x ++ [32, 61, 32] ++ e.pr
 | .cmd x .nil => x
 | .cmd x l => x ++ [32] ++ l.pr
def parD (b : Bool) (d : Nat) : Nat := if b then d + 1 else d
mutual
def Ex.dp : Ex → Nat
 | .num _ => 0 | .name _ => 0 | .mat _ => 0 | .cpx _ => 0
 | .neg a => parD (loose 4 0 a.op) a.dp
 | .turn a => parD (loose 5 0 a.op) a.dp
 | .add a b => max (parD (loose 6 0 a.op) a.dp) (parD (loose 6 1 b.op) b.dp)
 | .sub a b => max (parD (loose 7 0 a.op) a.dp) (parD (loose 7 1 b.op) b.dp)
 | .mul a b => max (parD (loose 8 0 a.op) a.dp) (parD (loose 8 1 b.op) b.dp)
 | .pow a _ => parD (loose 9 0 a.op) a.dp
 | .call _ l => l.dp + 1
def Exs.dp : Exs → Nat
 | .nil => 0
 | .cons a l => max a.dp l.dp
end
def Ln.dp : Ln → Nat
 | .nothing => 0
 | .lets _ e => e.dp
 | .cmd _ l => l.dp
end SynP
namespace Go.Proofs.YtgfmiladfeoldaaGreatDoor
open Go.RowKit NatP LexP
def signI (neg : Bool) (n : Nat) : Int := if n = 0 then 0 else if neg then -1 else 1
set_option maxRecDepth 100000 in
theorem sign_zint (neg : Bool) (v : Value) (xs : List Nat) (w : World) (hv : Rd w v xs) (hl : xs.length ≤ 1099511627776) :
  Calls Tryz.prog 121 #[.agg #[.bool neg, v]] w fun e w' => e = .returned (.int .i64 (signI neg (val xs))) ∧ Below w.heap.size w w' := by
 have HV := Lib.hid hv
 obtain ⟨ao, cap, rfl, -, -, hok, -⟩ := hv.2
 have HA := Lib.hid (below_alloc w (.cells #[.bool neg, .slice ao xs.length cap] 62))
 have HVA := Lib.hid (HV.out.below HA.out)
 have hb0 := bitsN_zero xs hok
 obtain ⟨b, hb⟩ : ∃ b, b = bitsN xs := ⟨_, rfl⟩
 rw [← hb] at hb0
 have HB := Lib.hid hb
 clear hv hok hb
 by_cases h0 : b = 0
 ·have hz : ((b : Int) == 0) = true := by simp [h0]
  have HR : Hid (signI neg (val xs) = 0) := by
   show _ = _
   unfold signI; rw [if_pos (hb0.1 h0)]
  clear hb0 h0
  go_enter Tryz.func121, Tryz.ntmps121
  go_wp2_with fail
  refine (bitLen_any _ xs _ HVA.out hl).mono ?_
  rintro e w1 ⟨rfl, rfl⟩
  rw [← HB.out]
  go_wp2_with fail
  go_ret
  exact ⟨by rw [HR.out]; rfl, HA.out⟩
 ·have hz : ((b : Int) == 0) = false := by simp [h0]
  have hne : ¬ val xs = 0 := fun e => h0 (hb0.2 e)
  have HR : Hid (signI neg (val xs) = if neg then -1 else 1) := by
   show _ = _
   unfold signI; rw [if_neg hne]
  clear hb0 h0 hne
  cases neg with
  | true =>
   go_enter Tryz.func121, Tryz.ntmps121
   go_wp2_with fail
   refine (bitLen_any _ xs _ HVA.out hl).mono ?_
   rintro e w1 ⟨rfl, rfl⟩
   rw [← HB.out]
   go_wp2_with fail
   go_ret
   exact ⟨by rw [HR.out]; rfl, HA.out⟩
  | false =>
   go_enter Tryz.func121, Tryz.ntmps121
   go_wp2_with fail
   refine (bitLen_any _ xs _ HVA.out hl).mono ?_
   rintro e w1 ⟨rfl, rfl⟩
   rw [← HB.out]
   go_wp2_with fail
   go_ret
   exact ⟨by rw [HR.out]; rfl, HA.out⟩
theorem decTx_eq : decTx = SynP.decT := rfl
theorem ba_app (a b : Array UInt8) : (⟨a⟩ : ByteArray) ++ ⟨b⟩ = ⟨a ++ b⟩ := by
 apply ByteArray.ext
 simp
theorem decTx_len {xs : List Nat} (hl : xs.length ≤ 8589934592) (hok : ok xs) : (decTx (val xs)).length ≤ 274877906944 := by
 unfold decTx
 split
 ·simp
 ·have := dg_len_BB (val_lt hok)
  rw [List.length_map]; omega
def intTx (neg : Bool) (n : Nat) : Bytes := if neg = true ∧ n ≠ 0 then 45 :: decTx n else decTx n
def IntTxPost (neg : Bool) (n : Nat) (w : World) (e : Ending) (w' : World) : Prop := e = .returned (.string ⟨(intTx neg n).toArray⟩) ∧ Below w.heap.size w w'
set_option maxRecDepth 100000 in
theorem text_zint (neg : Bool) (v : Value) (xs : List Nat) (w : World) (hs : SG w) (hv : Rd w v xs) (hl : xs.length ≤ 8589934592) :
  Calls Tryz.prog 65 #[.agg #[.bool neg, v]] w (IntTxPost neg (val xs) w) := by
 have HV := Lib.hid hv
 have HSG := Lib.hid hs
 have hsz : 4 < w.heap.size := World.block_lt_of_cell? w _ (hs 0 (by omega))
 obtain ⟨ao, cap, rfl, -, -, hok, -⟩ := hv.2
 have HA := Lib.hid (below_alloc w (.cells #[.bool neg, .slice ao xs.length cap] 62))
 have HVA := Lib.hid (HV.out.below HA.out)
 have HSA := Lib.hid (HSG.out.below HA.out hsz)
 have hc0 : (w.alloc (.cells #[.bool neg, .slice ao xs.length cap] 62)).cell? ⟨w.heap.size, 0, none⟩ = some (.bool neg) := by rw [World.cell?_alloc_at _ _ _ _ rfl]; rfl
 have hc1 : (w.alloc (.cells #[.bool neg, .slice ao xs.length cap] 62)).cell? ⟨w.heap.size, 1, none⟩ = some (.slice ao xs.length cap) := by rw [World.cell?_alloc_at _ _ _ _ rfl]; rfl
 have HC0 := Lib.hid hc0
 have HC1 := Lib.hid hc1
 have hok2 := hok
 clear hv hok hs hc0 hc1
 by_cases h0 : neg = true ∧ val xs ≠ 0
 ·have hn : signI neg (val xs) = -1 := by unfold signI; rw [if_neg h0.2, if_pos h0.1]
  have HR : Hid (intTx neg (val xs) = 45 :: decTx (val xs)) := by show _ = _; unfold intTx; rw [if_pos h0]
  have HN := Lib.hid hn
  have hcat : ¬ 9223372036854775807 < 1 + (decTx (val xs)).length := by
   have := decTx_len hl hok2
   omega
  clear h0 hn hok2
  go_enter Tryz.func65, Tryz.ntmps65
  go_wp2_with fail
  refine (dec_any _ xs _ HSA.out HVA.out hl).mono ?_
  rintro e w1 ⟨rfl, hb1⟩
  have HB1 := Lib.hid hb1
  have d0 := (hb1.cell (p := ⟨w.heap.size, 0, none⟩) (by simp)).trans HC0.out
  have d1 := (hb1.cell (p := ⟨w.heap.size, 1, none⟩) (by simp)).trans HC1.out
  clear hb1
  go_wp2_with fail
  refine (sign_zint neg _ xs _ (HVA.out.below HB1.out) (by omega)).mono ?_
  rintro e w2 ⟨rfl, hb2⟩
  rw [HN.out]
  have HB2 := Lib.hid hb2
  clear hb2
  go_wp2_with fail
  go_ret
  refine ⟨?_, (HA.out.trans (HB1.out.mono (by simp))).trans (HB2.out.mono ((HA.out.trans (HB1.out.mono (by simp))).size))⟩
  rw [HR.out]
  show Ending.returned (.string ((⟨#[45]⟩ : ByteArray) ++ ⟨(decTx (val xs)).toArray⟩)) = _
  rw [ba_app]
  simp
 ·have hn : 0 ≤ signI neg (val xs) := by
   unfold signI
   split
   ·omega
   ·split
    ·rename_i h1 h2; exact absurd ⟨h2, h1⟩ h0
    ·omega
  have HR : Hid (intTx neg (val xs) = decTx (val xs)) := by show _ = _; unfold intTx; rw [if_neg h0]
  obtain ⟨k, hk⟩ : ∃ k, k = signI neg (val xs) := ⟨_, rfl⟩
  rw [← hk] at hn
  have HK := Lib.hid hk
  have hkb : decide (k < 0) = false := by simp; omega
  clear h0 hn hk
  go_enter Tryz.func65, Tryz.ntmps65
  go_wp2_with fail
  refine (dec_any _ xs _ HSA.out HVA.out hl).mono ?_
  rintro e w1 ⟨rfl, hb1⟩
  have HB1 := Lib.hid hb1
  have d0 := (hb1.cell (p := ⟨w.heap.size, 0, none⟩) (by simp)).trans HC0.out
  have d1 := (hb1.cell (p := ⟨w.heap.size, 1, none⟩) (by simp)).trans HC1.out
  clear hb1
  go_wp2_with fail
  refine (sign_zint neg _ xs _ (HVA.out.below HB1.out) (by omega)).mono ?_
  rintro e w2 ⟨rfl, hb2⟩
  rw [← HK.out]
  have HB2 := Lib.hid hb2
  clear hb2
  go_wp2_with fail
  go_ret
  refine ⟨?_, (HA.out.trans (HB1.out.mono (by simp))).trans (HB2.out.mono ((HA.out.trans (HB1.out.mono (by simp))).size))⟩
  rw [HR.out]; rfl
set_option maxRecDepth 100000 in
theorem of_zint (v : Value) (xs : List Nat) (w : World) (hv : Rd w v xs) :
  Calls Tryz.prog 170 #[.bool false, v] w fun e w' => e = .returned (.agg #[.bool false, v]) ∧ Below w.heap.size w w' := by
 have HV := Lib.hid hv
 obtain ⟨ao, cap, rfl, -, -, hok, -⟩ := hv.2
 clear hv hok
 go_enter Tryz.func170, Tryz.ntmps170
 go_wp2_with fail
 refine bodyPost_ret (results_cell_row rfl _ _ w.heap.size 62 _ _ _ rfl (heap_alloc_new w _) Tryz.underlying62 rfl (by kernel_rfl)) rfl ?_
 exact ⟨rfl, below_alloc _ _⟩
set_option maxRecDepth 100000 in
set_option maxHeartbeats 400000 in
theorem Of_zint (n : Nat) (w : World) (hn : n ≤ 64) :
  Calls Tryz.prog 122 #[.int .i64 (n : Nat)] w fun e w' => ∃ v xs, e = .returned (.agg #[.bool false, v]) ∧ Rd w' v xs ∧ val xs = n ∧ xs.length ≤ 1 ∧ Below w.heap.size w w' := by
 go_enter Tryz.func122, Tryz.ntmps122
 have h1 : ¬ ((n : Int) < 0) := by omega
 go_wp2_with fail
 have hblk : Blk ((w.alloc (.cells #[.bool false, .slice none 0 0] 62)).alloc (.cells #[.int .u64 (n : Nat)] 101)) (w.heap.size + 1) [n] := by
  refine ⟨?_, ?_⟩
  ·have := heap_alloc_new (w.alloc (.cells #[.bool false, .slice none 0 0] 62)) (.cells #[.int .u64 (n : Nat)] 101)
   simp only [World.size_alloc] at this
   exact this
  ·intro x hx; simp at hx; subst hx; unfold BB; omega
 have HA := Lib.hid (below_alloc w (.cells #[.bool false, .slice none 0 0] 62))
 have HA2 := Lib.hid (below_alloc (w.alloc (.cells #[.bool false, .slice none 0 0] 62)) (.cells #[.int .u64 (n : Nat)] 101))
 refine (least_blk _ [n] _ (hblk.whole (by simp)) (by simp)).mono ?_
 rintro e w1 ⟨rfl, hB, hb1⟩
 obtain ⟨g, hg⟩ : ∃ g, g = ((w.alloc (.cells #[.bool false, .slice none 0 0] 62)).alloc (.cells #[.int .u64 (n : Nat)] 101)).heap.size := ⟨_, rfl⟩
 rw [← hg] at hB ⊢
 have hgs : g = w.heap.size + 2 := by rw [hg]; simp
 have HGS := Lib.hid hgs
 have HB := Lib.hid hB
 have HB1 := Lib.hid hb1
 clear hB hb1 hblk hg hgs
 obtain ⟨ys, hys⟩ : ∃ ys, ys = strip [n] := ⟨_, rfl⟩
 have hyl : ys.length ≤ 1 := by rw [hys]; exact strip_le [n]
 rw [← hys] at HB ⊢
 have hyv : val ys = n := by rw [hys, val_strip]; simp [NatP.val]
 have HYV := Lib.hid hyv
 clear hys hyv
 go_wp2_with fail
 refine (of_zint _ ys _ (HB.out.whole (by omega))).mono ?_
 rintro e w2 ⟨rfl, hb2⟩
 have HB2 := Lib.hid hb2
 clear hb2
 have d0 : w2.heap[w.heap.size]? = some (.cells #[.bool false, .slice none 0 0] 62 (0, 0)) := by
  have q1 := HA2.out.block w.heap.size (by simp)
  have q2 := HB1.out.block w.heap.size (by simp; omega)
  have q3 := HB2.out.block w.heap.size (by have := HB.out.lt; have := HGS.out; omega)
  rw [q3, q2, q1]; exact heap_alloc_new w _
 have e0 : w2.cell? ⟨w.heap.size, 0, none⟩ = some (.bool false) := (cell_of_row w2 _ _ _ _ _ d0).trans rfl
 have e1 : w2.cell? ⟨w.heap.size, 1, none⟩ = some (.slice none 0 0) := (cell_of_row w2 _ _ _ _ _ d0).trans rfl
 have f0 : w2.frozen? ⟨w.heap.size, 0, none⟩ = false := frozen_of_row w2 _ 0 _ _ d0
 have f1 : w2.frozen? ⟨w.heap.size, 1, none⟩ = false := frozen_of_row w2 _ 1 _ _ d0
 have D0 := Lib.hid d0
 clear d0
 go_wp2_with fail
 have s1 := heap_setCell_same w2 w.heap.size 0 #[.bool false, .slice none 0 0] 62 (.bool false) D0.out
 have s2 := heap_setCell_same (w2.setCell ⟨w.heap.size, 0, none⟩ (.bool false)) w.heap.size 1 _ 62 (.slice (some ⟨g, 0, none⟩) ys.length ys.length) s1
 refine bodyPost_ret (results_cell_row rfl _ _ w.heap.size 62 _ _ _ rfl s2 Tryz.underlying62 rfl (by kernel_rfl)) rfl ?_
 have hw : Below w.heap.size w w2 := (HA.out.trans (HA2.out.mono (by simp))).trans ((HB1.out.mono (by simp; omega)).trans (HB2.out.mono (by have := HB.out.lt; have := HGS.out; omega)))
 have hr : Wr w.heap.size none w2 ((w2.setCell ⟨w.heap.size, 0, none⟩ (.bool false)).setCell ⟨w.heap.size, 1, none⟩ (.slice (some ⟨g, 0, none⟩) ys.length ys.length)) := (Wr.of_set w2 0 _).trans (Mv.refl _ _) (Wr.of_set _ 1 _)
 refine ⟨_, ys, rfl, ((HB.out.whole (by omega)).below HB2.out).wr hr (fun k hk => by cases hk; have := HGS.out; exact ⟨by show g ≠ w.heap.size; omega, by simp⟩), HYV.out, hyl, hr.to_below hw hw.size (Nat.le_refl _) (fun k hk => by cases hk)⟩
end Go.Proofs.YtgfmiladfeoldaaGreatDoor
namespace Go.Proofs.YtgfmiladfeoldaaGreatDoor
open Go.RowKit NatP
theorem gcd_turn (a b : Nat) : Nat.gcd b (a % b) = Nat.gcd a b := by
 rw [Nat.gcd_comm a b, Nat.gcd_rec b a]; exact Nat.gcd_comm _ _
theorem nil_of_val {l : List Nat} (hs : strip l = l) (h : val l = 0) : l = [] := by
 cases hl : l.length with
 | zero => exact List.eq_nil_of_length_eq_zero hl
 | succ m =>
  have h1 := strip_ge (l := l) (m := m) (by rw [hs]; exact hl)
  rw [h] at h1
  exact absurd (Nat.pow_pos (n := m) BB_pos) (by omega)
set_option maxRecDepth 100000 in
theorem gcd_words (x y : Nat) (w : World) (hx : x < BB) (hy : y < BB) :
  Calls Tryz.prog 241 #[.int .u64 (x : Nat), .int .u64 (y : Nat)] w fun e w' => ∃ v, e = .returned v ∧ Fr w.heap.size w' v [Nat.gcd x y] ∧ Below w.heap.size w w' := by
 have HX := Lib.hid hx
 have HY := Lib.hid hy
 clear hx hy
 go_enter Tryz.func241, Tryz.ntmps241
 go_wp2_with fail
 go_loopw [0, 1] (fun xv yv wr => ∃ p q : Nat, xv = .int .u64 (p : Nat) ∧ yv = .int .u64 (q : Nat) ∧ p < BB ∧ q < BB ∧ Nat.gcd p q = Nat.gcd x y ∧ Below w.heap.size w wr) (fun _ yv _ => (intOf yv).toNat)
 case atStart => exact ⟨x, y, rfl, rfl, HX.out, HY.out, rfl, Below.refl _ _⟩
 case round =>
  obtain ⟨p, q, rfl, rfl, hp, hq, hg, hbl⟩ := hrel
  have HBL := Lib.hid hbl
  have hzr := hbl.size
  clear hbl
  have HP := Lib.hid hp
  have HQ := Lib.hid hq
  have HG := Lib.hid hg
  clear hp hq hg
  by_cases h0 : q = 0
  ·subst h0
   have HG2 : Hid (p = Nat.gcd x y) := by show _ = _; rw [← HG.out]; simp
   have hblk : Blk (wr.alloc (.cells #[.int .u64 (p : Nat)] 101)) wr.heap.size [p] := by
    refine ⟨heap_alloc_new wr _, ?_⟩
    intro z hz; simp at hz; subst hz; exact HP.out
   have HBK := Lib.hid hblk
   clear hblk
   go_wp2_with fail
   go_ret
   refine ⟨_, rfl, ⟨?_, fun k hk => ?_⟩, HBL.out.trans ((below_alloc _ _).mono hzr)⟩
   ·rw [← HG2.out]; exact HBK.out.whole (by simp)
   ·cases hk; exact ⟨hzr, by simp⟩
  ·have hq0 : ((q : Int) != 0) = true := by simp; omega
   have hq1 : ¬ ((q : Int) = 0) := by omega
   have hm : IntKind.u64.wrap ((p : Int).tmod (q : Int)) = ((p % q : Nat) : Int) := by
    have := Nat.mod_lt p (Nat.pos_of_ne_zero h0)
    have hqb := HQ.out
    have e : (p : Int).tmod (q : Int) = ((p % q : Nat) : Int) := rfl
    rw [e, IntKind.wrap_u64]; unfold BB at hqb; omega
   have hm2 : (p : Int).tmod (q : Int) = ((p % q : Nat) : Int) := rfl
   go_wp2_with fail
   have hlt : p % q < q := Nat.mod_lt p (Nat.pos_of_ne_zero h0)
   have HD := Lib.hid HBL.out.drew
   have HGT : Hid (Nat.gcd q (p % q) = Nat.gcd x y) := by show _ = _; rw [gcd_turn, HG.out]
   have HMB : Hid (p % q < BB) := Nat.lt_trans hlt HQ.out
   obtain ⟨m, hme⟩ : ∃ m, m = p % q := ⟨_, rfl⟩
   rw [← hme] at hm hm2 hlt HGT HMB
   clear hme
   go_region
   go_wp2_with fail
   have hfin : q < BB ∧ m < BB ∧ Nat.gcd q m = Nat.gcd x y ∧ Below w.heap.size w wr.drew := ⟨HQ.out, HMB.out, HGT.out, HD.out⟩
   first | exact ⟨⟨q, m, rfl, rfl, hfin⟩, by simp [intOf] <;> omega⟩ | exact ⟨by (repeat apply Exists.intro); exact ⟨⟨q, m, rfl, rfl, hfin⟩, rfl⟩, by simp [intOf] <;> omega⟩
end Go.Proofs.YtgfmiladfeoldaaGreatDoor
namespace Go.Proofs.YtgfmiladfeoldaaGreatDoor
open Go.RowKit NatP
def GcdPost (a b m : Nat) (w : World) (e : Ending) (w' : World) : Prop := ∃ v gs, e = .returned v ∧ Fr w.heap.size w' v gs ∧ val gs = Nat.gcd a b ∧ strip gs = gs ∧ gs.length ≤ m ∧ Below w.heap.size w w'
def GcdRel (a b m : Nat) (w : World) (k : Nat) (xv yv : Value) (wr : World) : Prop := ∃ xs ys, Fr w.heap.size wr xv xs ∧ Fr w.heap.size wr yv ys ∧ strip xs = xs ∧ strip ys = ys ∧ xs.length ≤ m ∧ ys.length ≤ m ∧ Nat.gcd (val xs) (val ys) = Nat.gcd a b ∧ val ys = k ∧ Below w.heap.size w wr
theorem fro_keep {w w' : World} {p : Addr} {v : Value} (h : Below w.heap.size w w') (hc : w.cell? p = some v) (hf : w.frozen? p = false) : w'.frozen? p = false := by
 have hl : p.block < w.heap.size := World.block_lt_of_cell? w p hc
 unfold World.frozen? at hf ⊢
 rw [h.block p.block hl]; exact hf
theorem cell_keep {w w' : World} {p : Addr} {v : Value} (h : Below w.heap.size w w') (hc : w.cell? p = some v) : w'.cell? p = some v :=
 (h.cell (World.block_lt_of_cell? w p hc)).trans hc
theorem one_word {l : List Nat} (h : l.length = 1) : ∃ x, l[0]? = some x ∧ val l = x := by
 match l, h with
 | [y], _ => exact ⟨y, rfl, by simp [val]⟩
theorem strip_one {x : Nat} (h : x ≠ 0) : strip [x] = [x] := strip_snoc_pos [] x h
set_option maxRecDepth 100000 in
set_option maxHeartbeats 2000000 in
theorem nat_gcd (v u : Value) (xs ys : List Nat) (m : Nat) (w : World) (hv : Rd w v xs) (hu : Rd w u ys) (hl : xs.length ≤ m) (hl2 : ys.length ≤ m) (hm : m ≤ 274877906944) :
  Calls Tryz.prog 219 #[v, u] w (GcdPost (val xs) (val ys) m w) := by
 have HV := Lib.hid hv
 have HU := Lib.hid hu
 obtain ⟨ao, cap, rfl, -, -, -, -⟩ := hv.2
 obtain ⟨bo, cap2, rfl, -, -, -, -⟩ := hu.2
 clear hv hu
 go_enter Tryz.func219, Tryz.ntmps219
 go_wp2_with fail
 refine (least_any _ xs _ HV.out (by omega)).mono ?_
 rintro e w1 ⟨xv, rfl, h1, hb1⟩
 have H1 := Lib.hid h1
 have HB1 := Lib.hid hb1
 have HU1 := Lib.hid (HU.out.below hb1)
 have hz1 := hb1.size
 clear h1 hb1
 go_wp2_with fail
 refine (least_any _ ys _ HU1.out (by omega)).mono ?_
 rintro e w2 ⟨yv, rfl, h2, hb2⟩
 have HB2 := Lib.hid (HB1.out.trans (hb2.mono hz1))
 have H12 := Lib.hid (H1.out.below hb2)
 have H2 := Lib.hid (h2.mono hz1)
 have HS1 := Lib.hid (Nat.le_trans (strip_le xs) hl)
 have HS2 := Lib.hid (Nat.le_trans (strip_le ys) hl2)
 clear h2 hb2
 go_wp2_with fail
 go_loopg [5, 6] (val ys) (fun k xv yv wr => GcdRel (val xs) (val ys) m w k xv yv wr)
 case atStart => exact ⟨strip xs, strip ys, H12.out, H2.out, strip_strip _, strip_strip _, HS1.out, HS2.out, by rw [val_strip, val_strip], val_strip ys, HB2.out⟩
 case round =>
  obtain ⟨xs', ys', hx, hy, sx, sy, lx, ly, hg, hk, hb⟩ := hrel
  obtain ⟨xo, xcap, rfl, -, -, okx, -⟩ := hx.1.2
  obtain ⟨yo, ycap, rfl, -, -, oky, -⟩ := hy.1.2
  have HX := Lib.hid hx
  have HY := Lib.hid hy
  have HG := Lib.hid hg
  have HK := Lib.hid hk
  have HB := Lib.hid hb
  have hz := hb.size
  have HSX := Lib.hid sx
  have HSY := Lib.hid sy
  clear hx hy hg hk hb sx sy
  obtain ⟨p, hp⟩ : ∃ p, p = xs'.length := ⟨_, rfl⟩
  obtain ⟨q, hq⟩ : ∃ q, q = ys'.length := ⟨_, rfl⟩
  have HP := Lib.hid hp
  have HQ := Lib.hid hq
  rw [← hp] at lx ⊢
  rw [← hq] at ly ⊢
  clear hp hq
  by_cases hq0 : q = 0
  ·subst hq0
   have hy0 : ys' = [] := List.eq_nil_of_length_eq_zero HQ.out.symm
   have HG2 : Hid (val xs' = Nat.gcd (val xs) (val ys)) := by
    show _ = _
    rw [← HG.out, hy0]; simp [val]
   clear hy0
   go_wp2_with fail
   go_ret
   exact ⟨_, xs', rfl, HP.out ▸ HX.out, HG2.out, HSX.out, HP.out ▸ lx, HB.out⟩
  ·have hqp : (0 : Int) < (q : Int) := by omega
   by_cases h11 : p = 1 ∧ q = 1
   ·obtain ⟨h1, h2⟩ := h11
    subst h1
    subst h2
    obtain ⟨x, hx, hxv⟩ := one_word HP.out.symm
    obtain ⟨y, hy, hyv⟩ := one_word HQ.out.symm
    obtain ⟨ao', cap', e, -, -, -, hsh⟩ := HX.out.1.2
    rw [← HP.out] at e; cases e
    obtain ⟨g, o, rfl, e1⟩ := hsh 0 x hx
    obtain ⟨bo', cap2', e', -, -, -, hsh2⟩ := HY.out.1.2
    rw [← HQ.out] at e'; cases e'
    obtain ⟨g2, o2, rfl, e2⟩ := hsh2 0 y hy
    have hxb := HX.out.1.ok x (List.mem_of_getElem? hx)
    have hyb := HY.out.1.ok y (List.mem_of_getElem? hy)
    have HXB := Lib.hid hxb
    have HYB := Lib.hid hyb
    have HGG : Hid (Nat.gcd x y = Nat.gcd (val xs) (val ys)) := by
     show _ = _
     rw [← HG.out, hxv, hyv]
    have HNZ : Hid (Nat.gcd x y ≠ 0) := fun e => by
     have h0 := (Nat.gcd_eq_zero_iff.1 e).2
     have := nil_of_val HSY.out (by rw [hyv]; exact h0)
     rw [this] at hy; cases hy
    clear hx hy hxv hyv hsh hsh2 hxb hyb
    go_wp2_with fail
    rw [Nat.add_zero] at e1 e2
    go_region_held3 (fun w' => w'.cell? ⟨g, o, none⟩ = some (.int .u64 (x : Nat)) ∧ w'.cell? ⟨g2, o2, none⟩ = some (.int .u64 (y : Nat)))
     (first | go_keep | exact ⟨cell_keep r2 e1, cell_keep r2 e2⟩)
     ((go_at_call 241; refine (gcd_words x y _ (by exact HXB.out) (by exact HYB.out)).mono ?_; rintro e w5 ⟨rv, rfl, r1, r2⟩))
    have R1 := Lib.hid r1
    have R2 := Lib.hid r2
    clear r1 r2
    go_wp2_with fail
    go_ret
    refine ⟨rv, [Nat.gcd (val xs) (val ys)], rfl, ?_, by simp [val], ?_, by simp; omega, HB.out.drew.trans (R2.out.mono hz)⟩
    ·rw [← HGG.out]; exact R1.out.mono hz
    ·rw [← HGG.out]; exact strip_one HNZ.out
   ·have HPOS : Hid (0 < val ys') := by
     refine Nat.pos_of_ne_zero fun e => hq0 ?_
     rw [HQ.out, nil_of_val HSY.out e]; rfl
    rcases (by omega : p ≠ 1 ∨ (p = 1 ∧ q ≠ 1)) with hc | ⟨hc, hc2⟩
    ·clear h11 hq0
     have hcond : ((p : Int) == 1) = false := by simp; omega
     go_wp2_with fail
     refine (divMod_any _ _ xs' ys' wr (by rw [HP.out]; exact HX.out.1) (by rw [HQ.out]; exact HY.out.1) (by rw [← HP.out]; omega) (by rw [← HQ.out]; omega) HPOS.out).mono ?_
     rintro e w5 ⟨qv, rv, qs, rs, rfl, -, -, -, -, r1, r2, r3, r4, hb5⟩
     obtain ⟨ro, rcap, rfl, -, -, -, -⟩ := r1.1.2
     have R1 := Lib.hid (r1.mono hz)
     have R2 := Lib.hid r2
     have R3 := Lib.hid r3
     have R4 := Lib.hid r4
     have HB5 := Lib.hid (HB.out.trans (hb5.mono hz))
     have HY5 := Lib.hid (HY.out.below hb5)
     clear r1 r2 r3 r4 hb5
     go_wp2_with fail
     go_roundg (val rs)
     case measure => rw [R2.out, ← HK.out]; exact Nat.mod_lt _ HPOS.out
     case rel => exact ⟨ys', rs, HQ.out ▸ HY5.out, R1.out, HSY.out, R4.out, by rw [← HQ.out]; exact ly, by have := R3.out; have := HQ.out; omega, by rw [R2.out, gcd_turn, HG.out], rfl, HB5.out⟩
    ·clear h11 hq0
     subst hc
     have hcond : ((q : Int) == 1) = false := by simp; omega
     go_wp2_with fail
     refine (divMod_any _ _ xs' ys' wr (by rw [HP.out]; exact HX.out.1) (by rw [HQ.out]; exact HY.out.1) (by rw [← HP.out]; omega) (by rw [← HQ.out]; omega) HPOS.out).mono ?_
     rintro e w5 ⟨qv, rv, qs, rs, rfl, -, -, -, -, r1, r2, r3, r4, hb5⟩
     obtain ⟨ro, rcap, rfl, -, -, -, -⟩ := r1.1.2
     have R1 := Lib.hid (r1.mono hz)
     have R2 := Lib.hid r2
     have R3 := Lib.hid r3
     have R4 := Lib.hid r4
     have HB5 := Lib.hid (HB.out.trans (hb5.mono hz))
     have HY5 := Lib.hid (HY.out.below hb5)
     clear r1 r2 r3 r4 hb5
     go_wp2_with fail
     go_roundg (val rs)
     case measure => rw [R2.out, ← HK.out]; exact Nat.mod_lt _ HPOS.out
     case rel => exact ⟨ys', rs, HQ.out ▸ HY5.out, R1.out, HSY.out, R4.out, by rw [← HQ.out]; exact ly, by have := R3.out; have := HQ.out; omega, by rw [R2.out, gcd_turn, HG.out], rfl, HB5.out⟩
end Go.Proofs.YtgfmiladfeoldaaGreatDoor
namespace Go.Proofs.YtgfmiladfeoldaaGreatDoor
open Go.RowKit NatP LexP
set_option maxRecDepth 100000 in
theorem of_zint2 (neg : Bool) (v : Value) (xs : List Nat) (w : World) (hv : Rd w v xs) :
  Calls Tryz.prog 170 #[.bool neg, v] w fun e w' => e = .returned (.agg #[.bool (neg && decide (0 < xs.length)), v]) ∧ Below w.heap.size w w' := by
 cases neg with
 | false => exact of_zint v xs w hv
 | true =>
  obtain ⟨ao, cap, rfl, -, hcm, -, -⟩ := hv.2
  clear hv
  have hb : xs.length ≤ 9223372036854775807 → decide ((0 : Int) < (xs.length : Int)) = decide (0 < xs.length) := fun _ => by
   rw [Bool.eq_iff_iff]; simp
  go_enter Tryz.func170, Tryz.ntmps170
  go_wp2_with fail
  refine bodyPost_ret (results_cell_row rfl _ _ w.heap.size 62 _ _ _ rfl (heap_alloc_new w _) Tryz.underlying62 rfl (by kernel_rfl)) rfl ?_
  exact ⟨by simp, below_alloc _ _⟩
def ZPost (b : Bool) (n m : Nat) (w : World) (e : Ending) (w' : World) : Prop := ∃ v xs, e = .returned (.agg #[.bool b, v]) ∧ Fr w.heap.size w' v xs ∧ val xs = n ∧ strip xs = xs ∧ xs.length ≤ m ∧ Below w.heap.size w w'
theorem len_pos_iff {xs : List Nat} (hs : strip xs = xs) : decide (0 < xs.length) = decide (val xs ≠ 0) := by
 rw [Bool.eq_iff_iff]
 simp only [decide_eq_true_eq]
 constructor
 ·intro h e
  rw [nil_of_val hs e] at h
  exact absurd h (Nat.lt_irrefl 0)
 ·intro h
  refine Nat.pos_of_ne_zero fun e => h ?_
  rw [List.eq_nil_of_length_eq_zero e]; rfl
theorem isSome_keep {w w' : World} {p : Addr} (h : Below w.heap.size w w') (hc : (w.cell? p).isSome = true) : (w'.cell? p).isSome = true := by
 obtain ⟨v, hv⟩ := Option.isSome_iff_exists.1 hc
 rw [cell_keep h hv]; rfl
theorem isSome_set' {w : World} {p q : Addr} {x : Value} (h : (w.cell? q).isSome = true) : ((w.setCell p x).cell? q).isSome = true := by
 obtain ⟨v, hv⟩ := Option.isSome_iff_exists.1 h
 by_cases e : q = p
 ·subst e; rw [World.cell?_setCell_same w _ _ hv]; rfl
 ·have := World.cell?_setCell_other w p q x (fun h => e h.symm)
  rw [this, hv]; rfl
theorem set2_ne {w : World} {p1 p2 q : Addr} {x y : Value} (h1 : q.block ≠ p1.block) (h2 : q.block ≠ p2.block) : ((w.setCell p1 x).setCell p2 y).cell? q = w.cell? q :=
 (World.cell?_setCell_other _ _ _ _ (fun e => h2 (by rw [← e]))).trans (World.cell?_setCell_other _ _ _ _ (fun e => h1 (by rw [← e])))
theorem set2_fro {w : World} {p1 p2 q : Addr} {x y : Value} : ((w.setCell p1 x).setCell p2 y).frozen? q = w.frozen? q :=
 (World.frozen?_setCell _ _ _ _).trans (World.frozen?_setCell _ _ _ _)
theorem fr_set2 {B g i j : Nat} {w : World} {x y v : Value} {xs : List Nat} (h : Fr B w v xs) (hB : g < B) : Fr B ((w.setCell ⟨g, i, none⟩ x).setCell ⟨g, j, none⟩ y) v xs := by
 have hr : Wr g none w ((w.setCell ⟨g, i, none⟩ x).setCell ⟨g, j, none⟩ y) := (Wr.of_set w i x).trans (Mv.refl _ _) (Wr.of_set _ j y)
 exact ⟨h.1.wr hr (fun k hk => ⟨by have := (h.2 k hk).1; omega, by simp⟩), fun k hk => ⟨(h.2 k hk).1, Nat.lt_of_lt_of_le (h.2 k hk).2 hr.size⟩⟩
theorem below_set2 {B g i j : Nat} {w w' : World} {x y : Value} (h : Below B w w') (hB : B ≤ g) : Below B w ((w'.setCell ⟨g, i, none⟩ x).setCell ⟨g, j, none⟩ y) :=
 (h.setCell (p := ⟨g, i, none⟩) hB _).setCell (p := ⟨g, j, none⟩) hB _
theorem someU : ∃ U : Nat → Nat → World → Value, ∀ b j w', (w'.cell? ⟨b, j, none⟩).isSome = true → w'.cell? ⟨b, j, none⟩ = some (U b j w') :=
 ⟨fun b j w' => (w'.cell? ⟨b, j, none⟩).getD undef, fun b j w' h => by obtain ⟨v, hv⟩ := Option.isSome_iff_exists.1 h; simp [hv]⟩
set_option maxRecDepth 100000 in
set_option maxHeartbeats 1000000 in
theorem neg_zint (neg : Bool) (v : Value) (xs : List Nat) (w : World) (hv : Rd w v xs) (hl : xs.length ≤ 274877906944) :
  Calls Tryz.prog 175 #[.agg #[.bool neg, v]] w (ZPost (!neg && decide (val xs ≠ 0)) (val xs) xs.length w) := by
 have HV := Lib.hid hv
 obtain ⟨ao, cap, rfl, -, -, -, -⟩ := hv.2
 clear hv
 go_enter Tryz.func175, Tryz.ntmps175
 go_wp2_with fail
 obtain ⟨g, hg⟩ : ∃ g, g = w.heap.size := ⟨_, rfl⟩
 obtain ⟨w0, hw0⟩ : ∃ w0, w0 = (w.alloc (.cells #[.bool neg, .slice ao xs.length cap] 62)).alloc (.cells #[.bool false, .slice none 0 0] 62) := ⟨_, rfl⟩
 have HB0 : Hid (Below w.heap.size w w0) := by
  rw [hw0]
  exact (below_alloc w (.cells #[.bool neg, .slice ao xs.length cap] 62)).trans ((below_alloc _ _).mono (below_alloc w (.cells #[.bool neg, .slice ao xs.length cap] 62)).size)
 have hb0 : w0.heap[g]? = some (.cells #[.bool neg, .slice ao xs.length cap] 62 (0, 0)) := by
  rw [hw0, hg]; exact (below_alloc (w.alloc (.cells #[.bool neg, .slice ao xs.length cap] 62)) _).block w.heap.size (by simp) |>.trans (heap_alloc_new w _)
 have hb1 : w0.heap[g + 1]? = some (.cells #[.bool false, .slice none 0 0] 62 (0, 0)) := by
  rw [hw0, hg]
  have := heap_alloc_new (w.alloc (.cells #[.bool neg, .slice ao xs.length cap] 62)) (.cells #[.bool false, .slice none 0 0] 62)
  rw [World.size_alloc] at this; exact this
 have c0 : w0.cell? ⟨g, 0, none⟩ = some (.bool neg) := (cell_of_row w0 _ _ _ _ _ hb0).trans rfl
 have c1 : w0.cell? ⟨g, 1, none⟩ = some (.slice ao xs.length cap) := (cell_of_row w0 _ _ _ _ _ hb0).trans rfl
 have r0 : w0.cell? ⟨g + 1, 0, none⟩ = some (.bool false) := (cell_of_row w0 _ _ _ _ _ hb1).trans rfl
 have r1 : w0.cell? ⟨g + 1, 1, none⟩ = some (.slice none 0 0) := (cell_of_row w0 _ _ _ _ _ hb1).trans rfl
 have f0 : w0.frozen? ⟨g + 1, 0, none⟩ = false := frozen_of_row w0 _ 0 _ _ hb1
 have f1 : w0.frozen? ⟨g + 1, 1, none⟩ = false := frozen_of_row w0 _ 1 _ _ hb1
 have HV0 := Lib.hid (HV.out.below HB0.out)
 have HR := Lib.hid hb1
 have HSZ : Hid (g + 1 < w0.heap.size) := (Array.getElem?_eq_some_iff.1 hb1).1
 have HG := Lib.hid hg
 rw [← hw0, ← hg]
 obtain ⟨g1, hg1⟩ : ∃ g1, g1 = g + 1 := ⟨_, rfl⟩
 rw [← hg1] at r0 r1 f0 f1 HR HSZ hb1 ⊢
 have hne : g ≠ g1 := by omega
 have HG1 : Hid (w.heap.size ≤ g1) := by show _ ≤ _; omega
 clear hw0 hb0 hb1 hg hg1
 have Y0 : Hid ((w0.cell? ⟨g1, 0, none⟩).isSome = true) := by show _ = _; rw [r0]; rfl
 have Y1 : Hid ((w0.cell? ⟨g1, 1, none⟩).isSome = true) := by show _ = _; rw [r1]; rfl
 have R0 := Lib.hid r0
 have R1 := Lib.hid r1
 clear r0 r1
 obtain ⟨U, hU⟩ := someU
 have HU := Lib.hid hU
 clear hU
 go_region_held3 (fun w' => w'.cell? ⟨g, 0, none⟩ = some (.bool neg) ∧ w'.cell? ⟨g, 1, none⟩ = some (.slice ao xs.length cap) ∧ w'.frozen? ⟨g1, 0, none⟩ = false ∧ w'.frozen? ⟨g1, 1, none⟩ = false ∧ w'.cell? ⟨g1, 0, none⟩ = some (U (g1) 0 w') ∧ w'.cell? ⟨g1, 1, none⟩ = some (U (g1) 1 w'))
  (first
   | (refine ⟨?_, ?_, ?_, ?_, HU.out _ _ _ (by exact Y0.out), HU.out _ _ _ (by exact Y1.out)⟩ <;> go_keep)
   | exact ⟨(set2_ne hne hne).trans (cell_keep b2 (cell_keep b1 c0)), (set2_ne hne hne).trans (cell_keep b2 (cell_keep b1 c1)), set2_fro.trans (fro_keep b2 (cell_keep b1 R0.out) (fro_keep b1 R0.out f0)), set2_fro.trans (fro_keep b2 (cell_keep b1 R1.out) (fro_keep b1 R1.out f1)), HU.out _ _ _ (isSome_set' (isSome_set' (isSome_keep b2 (isSome_keep b1 Y0.out)))), HU.out _ _ _ (isSome_set' (isSome_set' (isSome_keep b2 (isSome_keep b1 Y1.out))))⟩
   | exact ⟨cell_keep b2 (cell_keep b1 c0), cell_keep b2 (cell_keep b1 c1), fro_keep b2 (cell_keep b1 R0.out) (fro_keep b1 R0.out f0), fro_keep b2 (cell_keep b1 R1.out) (fro_keep b1 R1.out f1), HU.out _ _ _ (isSome_keep b2 (isSome_keep b1 Y0.out)), HU.out _ _ _ (isSome_keep b2 (isSome_keep b1 Y1.out))⟩
   | exact ⟨cell_keep b1 c0, cell_keep b1 c1, fro_keep b1 R0.out f0, fro_keep b1 R1.out f1, HU.out _ _ _ (isSome_keep b1 Y0.out), HU.out _ _ _ (isSome_keep b1 Y1.out)⟩)
  (first
   | (go_at_call 171; refine (least_any _ xs _ (by exact HV0.out) (by omega)).mono ?_; rintro e w1 ⟨u, rfl, h1, b1⟩; obtain ⟨uo, ucap, rfl, -, -, -, -⟩ := h1.1.2)
   | (go_at_call 170; refine (of_zint2 (!neg) _ (strip xs) _ (by exact h1.1)).mono ?_; rintro e w2 ⟨rfl, b2⟩))
 have HB2 : Hid (Below w.heap.size w w2) := HB0.out.drew.trans ((b1.trans (b2.mono b1.size)).mono HB0.out.size)
 have H2 := Lib.hid (h1.below b2)
 have HRR : Hid (w2.heap[g1]? = some (.cells #[.bool false, .slice none 0 0] 62 (0, 0))) := (b2.block g1 (Nat.lt_of_lt_of_le HSZ.out b1.size)).trans ((b1.block g1 HSZ.out).trans HR.out)
 clear h1 b1 b2
 go_wp2_with fail
 have s1 := heap_setCell_same w2 g1 0 #[.bool false, .slice none 0 0] 62 (.bool (!neg && decide (0 < (strip xs).length))) HRR.out
 have s2 := heap_setCell_same _ g1 1 _ 62 (.slice uo (strip xs).length ucap) s1
 refine bodyPost_ret (results_cell_row rfl _ _ g1 62 _ _ _ rfl s2 Tryz.underlying62 rfl (by kernel_rfl)) rfl ?_
 refine ⟨_, strip xs, ?_, (fr_set2 H2.out HSZ.out).mono (Nat.le_of_lt (Nat.lt_of_le_of_lt HG1.out HSZ.out)), val_strip xs, strip_strip xs, strip_le xs, below_set2 HB2.out HG1.out⟩
 rw [len_pos_iff (strip_strip xs), val_strip]
 rfl
end Go.Proofs.YtgfmiladfeoldaaGreatDoor
namespace Go.Proofs.YtgfmiladfeoldaaGreatDoor
open Go.RowKit NatP LexP
theorem results_ct_row {P : Program} {fn : Func} {p u : Tmp} {ty : TypeId} (h : fn.results = #[.cell p ty, .tmp u]) (tmps : Array Value) (w : World) (g : Nat) (t : TypeId) (cs : Array Value) (fr : Nat × Nat) (d : TypeDesc)
  (hp : tmps.getD p undef = .pointer (some ⟨g, 0, none⟩)) (hg : w.heap[g]? = some (.cells cs t fr))
  (hu : P.underlying ty = some d) (hd : (match d with | .struct _ | .array _ _ => true | _ => false) = true) (hi : (P.info? ty).map (·.size) = some cs.size) :
  (results fn tmps).run P w = .ok (.tuple #[.agg cs, tmps.getD u undef]) w := by
 have hp' : tmps[p]?.getD undef = .pointer (some ⟨g, 0, none⟩) := by simpa using hp
 simp [results, h, hp', asAddr, run_loadVar_row w g t ty cs fr d hg hu hd hi]
def ExPost (n m : Nat) (w : World) (e : Ending) (w' : World) : Prop := ∃ v xs, e = .returned (.tuple #[v, .int .i64 0]) ∧ Fr w.heap.size w' v xs ∧ val xs = n ∧ strip xs = xs ∧ xs.length ≤ m ∧ Below w.heap.size w w'
set_option maxRecDepth 100000 in
set_option maxHeartbeats 1000000 in
theorem nat_exact (v u : Value) (xs ys : List Nat) (w : World) (hv : Rd w v xs) (hu : Rd w u ys) (hl : xs.length ≤ 274877906944) (hl2 : ys.length ≤ 274877906944) (h0 : 0 < val ys) (hd : val ys ∣ val xs) :
  Calls Tryz.prog 220 #[v, u] w (ExPost (val xs / val ys) xs.length w) := by
 have HC := Lib.hid (divMod_any v u xs ys w hv hu hl hl2 h0)
 have HD := Lib.hid (Nat.mod_eq_zero_of_dvd hd)
 obtain ⟨ao, cap, rfl, -, -, -, -⟩ := hv.2
 obtain ⟨bo, cap2, rfl, -, -, -, -⟩ := hu.2
 clear hv hu h0 hd
 go_enter Tryz.func220, Tryz.ntmps220
 go_wp2_with fail
 refine HC.out.mono ?_
 rintro e w1 ⟨q, r, qs, rs, rfl, q1, q2, q3, q4, r1, r2, r3, r4, hb⟩
 have hr : rs = [] := nil_of_val r4 (by rw [r2]; exact HD.out)
 subst hr
 obtain ⟨ro, rcap, rfl, -, -, -, -⟩ := r1.1.2
 have Q1 := Lib.hid q1
 have Q2 := Lib.hid q2
 have HB := Lib.hid hb
 clear q1 q2 r1 r2 r3 r4 hb
 go_wp2_with fail
 go_ret2
 exact ⟨q, qs, rfl, Q1.out, Q2.out, q4, q3, HB.out⟩
set_option maxRecDepth 100000 in
set_option maxHeartbeats 1000000 in
theorem exact_zint (na nb : Bool) (v u : Value) (xs ys : List Nat) (w : World) (hv : Rd w v xs) (hu : Rd w u ys) (hl : xs.length ≤ 274877906944) (hl2 : ys.length ≤ 274877906944) (h0 : 0 < val ys) (hd : val ys ∣ val xs) :
  Calls Tryz.prog 174 #[.agg #[.bool na, v], .agg #[.bool nb, u]] w fun e w' => ∃ q qs, e = .returned (.tuple #[.agg #[.bool ((na != nb) && decide (val xs / val ys ≠ 0)), q], .int .i64 0]) ∧ Fr w.heap.size w' q qs ∧ val qs = val xs / val ys ∧ strip qs = qs ∧ qs.length ≤ xs.length ∧ Below w.heap.size w w' := by
 have HV := Lib.hid hv
 have HU := Lib.hid hu
 have H0 := Lib.hid h0
 have HD := Lib.hid hd
 obtain ⟨ao, cap, rfl, -, -, -, -⟩ := hv.2
 obtain ⟨bo, cap2, rfl, -, -, -, -⟩ := hu.2
 have HA := Lib.hid (below_alloc w (.cells #[.bool na, .slice ao xs.length cap] 62))
 have HA2 := Lib.hid (HA.out.trans ((below_alloc (w.alloc (.cells #[.bool na, .slice ao xs.length cap] 62)) (.cells #[.bool nb, .slice bo ys.length cap2] 62)).mono HA.out.size))
 have HA3 := Lib.hid (HA2.out.trans ((below_alloc ((w.alloc (.cells #[.bool na, .slice ao xs.length cap] 62)).alloc (.cells #[.bool nb, .slice bo ys.length cap2] 62)) (.cells #[.bool false, .slice none 0 0] 62)).mono HA2.out.size))
 have HVA := Lib.hid (HV.out.below HA3.out)
 have HUA := Lib.hid (HU.out.below HA3.out)
 clear hv hu h0 hd
 go_enter Tryz.func174, Tryz.ntmps174
 go_wp2_with fail
 obtain ⟨g, hg⟩ : ∃ g, g = w.heap.size := ⟨_, rfl⟩
 obtain ⟨w0, hw0⟩ : ∃ w0, w0 = ((w.alloc (.cells #[.bool na, .slice ao xs.length cap] 62)).alloc (.cells #[.bool nb, .slice bo ys.length cap2] 62)).alloc (.cells #[.bool false, .slice none 0 0] 62) := ⟨_, rfl⟩
 have hb0 : w0.heap[g]? = some (.cells #[.bool na, .slice ao xs.length cap] 62 (0, 0)) := by
  rw [hw0, hg]
  exact (below_alloc ((w.alloc (.cells #[.bool na, .slice ao xs.length cap] 62)).alloc _) _).block w.heap.size (by simp <;> omega) |>.trans ((below_alloc (w.alloc (.cells #[.bool na, .slice ao xs.length cap] 62)) _).block w.heap.size (by simp) |>.trans (heap_alloc_new w _))
 have hb1 : w0.heap[g + 1]? = some (.cells #[.bool nb, .slice bo ys.length cap2] 62 (0, 0)) := by
  rw [hw0, hg]
  have := heap_alloc_new (w.alloc (.cells #[.bool na, .slice ao xs.length cap] 62)) (.cells #[.bool nb, .slice bo ys.length cap2] 62)
  rw [World.size_alloc] at this
  exact (below_alloc ((w.alloc (.cells #[.bool na, .slice ao xs.length cap] 62)).alloc _) _).block (w.heap.size + 1) (by simp) |>.trans this
 have hb2 : w0.heap[g + 1 + 1]? = some (.cells #[.bool false, .slice none 0 0] 62 (0, 0)) := by
  rw [hw0, hg]
  have := heap_alloc_new ((w.alloc (.cells #[.bool na, .slice ao xs.length cap] 62)).alloc (.cells #[.bool nb, .slice bo ys.length cap2] 62)) (.cells #[.bool false, .slice none 0 0] 62)
  rw [World.size_alloc, World.size_alloc] at this; exact this
 rw [← hw0, ← hg]
 rw [← hw0] at HA3 HVA HUA
 have HSZ : Hid (g + 1 + 1 < w0.heap.size) := (Array.getElem?_eq_some_iff.1 hb2).1
 have HG : Hid (w.heap.size = g) := hg.symm
 have H00 := Lib.hid hb0
 have H01 := Lib.hid hb1
 have H02 := Lib.hid hb2
 clear hw0 hb0 hb1 hb2 hg
 refine (nat_exact _ _ xs ys _ HVA.out HUA.out hl hl2 H0.out HD.out).mono ?_
 rintro e w1 ⟨q, qs, rfl, q1, q2, q3, q4, hb⟩
 obtain ⟨qo, qcap, rfl, -, -, -, -⟩ := q1.1.2
 have Q1 := Lib.hid q1
 have Q2 := Lib.hid q2
 have Q3 := Lib.hid q3
 have Q4 := Lib.hid q4
 have HB := Lib.hid hb
 have hz := hb.size
 have i0 := (hb.block g (by have := HSZ.out; omega)).trans H00.out
 have i1 := (hb.block (g + 1) (by have := HSZ.out; omega)).trans H01.out
 have c0 : w1.cell? ⟨g, 0, none⟩ = some (.bool na) := (cell_of_row w1 _ _ _ _ _ i0).trans rfl
 have c1 : w1.cell? ⟨g + 1, 0, none⟩ = some (.bool nb) := (cell_of_row w1 _ _ _ _ _ i1).trans rfl
 clear q1 q2 q3 q4 hb i0 i1
 go_wp2_with fail
 refine (of_zint2 (na != nb) _ qs _ Q1.out.1).mono ?_
 rintro e w2 ⟨rfl, hb2⟩
 have HB2 := Lib.hid (HB.out.trans (hb2.mono hz))
 have Q12 := Lib.hid (Q1.out.below hb2)
 clear hb2
 have j2 := (HB2.out.block (g + 1 + 1) HSZ.out).trans H02.out
 have r0 : w2.cell? ⟨g + 1 + 1, 0, none⟩ = some (.bool false) := (cell_of_row w2 _ _ _ _ _ j2).trans rfl
 have r1 : w2.cell? ⟨g + 1 + 1, 1, none⟩ = some (.slice none 0 0) := (cell_of_row w2 _ _ _ _ _ j2).trans rfl
 have f0 : w2.frozen? ⟨g + 1 + 1, 0, none⟩ = false := frozen_of_row w2 _ 0 _ _ j2
 have f1 : w2.frozen? ⟨g + 1 + 1, 1, none⟩ = false := frozen_of_row w2 _ 1 _ _ j2
 have J2 := Lib.hid j2
 clear j2
 go_wp2_with fail
 have s1 := heap_setCell_same w2 (g + 1 + 1) 0 _ 62 (.bool ((na != nb) && decide (0 < qs.length))) J2.out
 have s2 := heap_setCell_same _ (g + 1 + 1) 1 _ 62 (.slice qo qs.length qcap) s1
 refine bodyPost_ret (results_ct_row rfl _ _ (g + 1 + 1) 62 _ _ _ rfl s2 Tryz.underlying62 rfl (by kernel_rfl)) rfl ?_
 refine ⟨_, qs, ?_, (fr_set2 Q12.out HSZ.out).mono (by have := HSZ.out; have := HG.out; omega), Q2.out, Q3.out, Q4.out, below_set2 (HA3.out.trans (HB2.out.mono HA3.out.size)) (by have := HG.out; omega)⟩
 rw [len_pos_iff Q3.out, Q2.out]
 rfl
end Go.Proofs.YtgfmiladfeoldaaGreatDoor
