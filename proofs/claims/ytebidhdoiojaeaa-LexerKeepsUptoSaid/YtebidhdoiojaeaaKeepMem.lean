/- Memory of lists that are written and grown: what is kept. -/
import Derived.Test.YtebidhdoiojaeaaLexL1
import Derived.Laws.AppendOwn
import Derived.Laws.OwnMore
import Derived.Deep.AppendLies
namespace Go.Proofs.Ytebidhdoiojaeaa
open Go.RowKit LexP

section
variable {P : Program} (w : World)
/-- append to a list of one's own: where the list moves, all that was there stays as it was. -/
theorem run_append_part (base : Nat) (t ty e : TypeId) (i : TypeInfo) (z : Value) (size bytes : Nat) (ht : P.underlying t = some (.slice e)) (hi : P.info? e = some i) (hz : i.zero = some z)
    (hsize : i.size = size) (hby : i.bytes = bytes) (hzs : z.cells.size = size) (hsz : 0 < size)
    (v : Value) (n : Nat) (xs : List Value) (hown : w.ownsRow base e size v n xs)
    (a : Addr) (m c : Nat) (news : List Value) (hl : news.length = m * size) (hnews : ∀ j u, news[j]? = some u → w.cell? (a.add j) = some u) (h1 : ∀ u ∈ news, u.oneCell' = true)
    (hm : 0 < m) (h63 : n + m ≤ maxLen) (hbytes : (n + m) * bytes ≤ 140737488355328) (hbase : base ≤ w.heap.size) :
    ∃ v' w', (Builtin.append_ #[t, t] ty #[v, .slice (some a) m c]).run P w = .ok v' w' ∧ w'.ownsRow base e size v' (n + m) (xs ++ news) ∧ w.grownBy w' v.ownBlock ∧
      (v'.ownBlock = v.ownBlock ∨ (v'.ownBlock = some w.heap.size ∧ w.grownBy w' none)) := by
  rcases hown.2 with ⟨rfl, rfl⟩ | ⟨g, cap, cur, rfl, hbg, hg, hnc, hcm, hcs, htake⟩
  · obtain ⟨v', w', h2, h3, h4, _, h6⟩ := run_append_own_at (P := P) w base t ty e i z size bytes ht hi hz hsize hby hzs hsz _ _ xs hown a m c news hl hnews h1 h63 hbytes hbase
    refine ⟨v', w', h2, h3, h4, ?_⟩
    rcases h6 with h6 | h6
    · exact .inl h6
    · exact .inr ⟨h6, h4⟩
  · by_cases hroom : n + m ≤ cap
    · obtain ⟨w', h2, h3, h4⟩ := run_append_fits (P := P) w base t ty e i size ht hi hsize g n cap xs hown a m c news hl hnews h1 hroom
      exact ⟨_, w', h2, h3, h4, .inl rfl⟩
    · subst hsize
      subst hby
      have hsmall : n + m ≤ 9223372036854775807 := by simp only [maxLen] at h63; omega
      have hlen : (xs ++ news).length = (n + m) * i.size := by rw [List.length_append, hown.1, hl, Nat.add_mul]
      have holds : ∀ j u, xs[j]? = some u → w.cell? ((⟨g, 0, none⟩ : Addr).add j) = some u := hown.cells (g := g) rfl
      have hr := run_append_grow (P := P) w t ty e i z ht hi hz ⟨g, 0, none⟩ n cap xs hown.1 holds a m c news hl hnews (by omega) (by omega) (growslice_fits (by omega) hbytes)
      have hge := grownCap_ge w (n + m) cap e
      have hcm' : grownCap w (n + m) cap e ≤ maxLen := grownCap_le_maxLen w (n + m) cap e h63
      have hk : ∀ row : Option Nat, w.grownBy (w.drew.alloc (.cells (xs.toArray ++ news.toArray ++ Builtin.zeroCells z.cells (grownCap w (n + m) cap e - (n + m))) e)) row := fun row => ⟨rfl, rfl, rfl, by simp, fun q hq _ => (by first | exact Go.heap_alloc_old w.drew _ hq | exact heap_alloc_old w.drew _ q hq)⟩
      refine ⟨_, _, hr, ⟨hlen, .inr ⟨w.heap.size, _, _, rfl, hbase, heap_alloc_new w.drew _, hge, hcm', ?_, ?_⟩⟩, hk _, .inr ⟨rfl, hk _⟩⟩
      · simp only [Array.size_append, List.size_toArray, size_zeroCells, hzs, hown.1, hl, ← Nat.add_mul]
        congr 1
        omega
      · simp only [Array.toList_append, List.append_assoc]
        rw [← List.append_assoc, ← hlen]
        exact List.take_left
end

/-- A list and what it grew to: its elements' cells 'c' read as f says. -/
structure Ls where
  e : TypeId
  sz : Nat
  c : Nat
  f : Nat → Value
  v : Value
  r0 : Nat
  g : Value
  n : Nat
  r : Nat

structure LS (B : Nat) (w : World) (l : Ls) : Prop where
  own : ∃ L, w.ownsRow B l.e l.sz l.g l.n L ∧ ∀ i, i < l.r → L[i * l.sz + l.c]? = some (l.f i)
  old : ∀ k, l.v.ownBlock = some k → B ≤ k ∧ k < w.heap.size ∧ ∀ i, i < l.r0 → w.cell? ⟨k, i * l.sz + l.c, none⟩ = some (l.f i)

def Ls.has (l : Ls) (k : Nat) : Prop := l.v.ownBlock = some k ∨ l.g.ownBlock = some k
def Ap (l m : Ls) : Prop := ∀ k, l.has k → ¬ m.has k
theorem Ap.symm {l m : Ls} (h : Ap l m) : Ap m l := fun k h1 h2 => h k h2 h1

theorem LS.lt {B : Nat} {w : World} {l : Ls} (h : LS B w l) {k : Nat} (hk : l.has k) : B ≤ k ∧ k < w.heap.size := by
  rcases hk with hk | hk
  · have := h.old k hk; exact ⟨this.1, this.2.1⟩
  · obtain ⟨L, hL, _⟩ := h.own
    exact hL.lt k hk

theorem LS.kept {B : Nat} {w w' : World} {l : Ls} {row : Option Nat} (h : LS B w l) (hg : w.grownBy w' row) (hr : ∀ k, row = some k → ¬ l.has k) : LS B w' l := by
  obtain ⟨L, hL, hf⟩ := h.own
  refine ⟨⟨L, hL.kept hg ?_, hf⟩, fun k hk => ?_⟩
  · cases hgb : l.g.ownBlock with
    | none => exact .inl rfl
    | some k =>
      right
      intro e
      exact hr k e.symm (.inr hgb)
  · obtain ⟨h1, h2, h3⟩ := h.old k hk
    refine ⟨h1, Nat.lt_of_lt_of_le h2 hg.size, fun i hi => hg.cell (h3 i hi) ?_⟩
    intro e
    exact hr k e.symm (.inl hk)

theorem LS.alloc {B : Nat} {w : World} {l : Ls} (h : LS B w l) (o : Obj) : LS B (w.alloc o) l := h.kept (World.grownBy_alloc w o none) (fun k hk => by cases hk)

theorem wpList_append_ls {P : Program} (w : World) {ops : Array Oper} {rest : List Oper} {o : Oper} {a : Act} {Q : Exit → Act → World → Prop} (hgd : o.guard = none) (s x : Operand) (t : TypeId)
    (ho : o.op = .call { callee := .builtin .append, args := #[s, x], argTypes := #[t, t] })
    (B : Nat) (l : Ls) (i : TypeInfo) (z : Value) (bytes : Nat) (ht : P.underlying t = some (.slice l.e)) (hi : P.info? l.e = some i) (hz : i.zero = some z)
    (hsize : i.size = l.sz) (hby : i.bytes = bytes) (hzs : z.cells.size = l.sz) (hsz : l.c < l.sz)
    (hs : a.eval s = l.g) (h : LS B w l) (hrn : l.r = l.n) (hr0 : l.r0 ≤ l.n)
    (ad : Addr) (c : Nat) (news : List Value) (hx : a.eval x = .slice (some ad) 1 c) (hl : news.length = l.sz) (hnews : ∀ j u, news[j]? = some u → w.cell? (ad.add j) = some u) (h1 : ∀ u ∈ news, u.oneCell' = true)
    (hnc : news[l.c]? = some (l.f l.n))
    (h63 : l.n + 1 ≤ maxLen) (hbytes : (l.n + 1) * bytes ≤ 140737488355328) (hbase : B ≤ w.heap.size)
    (hK : ∀ g' w', LS B w' { l with g := g', n := l.n + 1, r := l.n + 1 } → w.grownBy w' l.g.ownBlock → (∀ k, g'.ownBlock = some k → l.g.ownBlock = some k ∨ k = w.heap.size) → wpList P ops Q rest (a.put o.dst g') w') : wpList P ops Q (o :: rest) a w := by
  obtain ⟨L, hL, hf⟩ := h.own
  obtain ⟨v', w', hr, h2, h3, h4⟩ := run_append_part (P := P) w B t o.type l.e i z l.sz bytes ht hi hz hsize hby hzs (by omega) l.g l.n L hL ad 1 c news (by rw [hl, Nat.one_mul]) hnews h1 (by omega) h63 hbytes hbase
  refine wpList_plain hgd fun _ hK' => ?_
  unfold Oper.wp execOp
  simp only [ho, resolve, invoke, builtin, Sem.run_bind, Sem.run_pure, Result.andThen_ok, List.map_toArray, List.map_cons, List.map_nil, hs, hx, hr]
  have hLl : L.length = l.n * l.sz := hL.1
  have idx : ∀ i, i < l.n → i * l.sz + l.c < l.n * l.sz := fun i hi => by
    have := Nat.mul_le_mul_right l.sz (show i + 1 ≤ l.n from hi)
    rw [Nat.add_mul, Nat.one_mul] at this; omega
  have hread : ∀ i, i < l.n → (L ++ news)[i * l.sz + l.c]? = some (l.f i) := fun i hi => by
    rw [List.getElem?_append_left (by rw [hLl]; exact idx i hi)]
    exact hf i (by omega)
  refine hK' _ _ (hK v' w' ⟨⟨L ++ news, h2, fun i hi => ?_⟩, fun k hk => ?_⟩ h3 ?_)
  · simp only at hi
    rcases Nat.lt_succ_iff_lt_or_eq.1 hi with hi | rfl
    · exact hread i hi
    · simp only
      rw [List.getElem?_append_right (by rw [hLl]; omega), hLl, Nat.add_sub_cancel_left]
      exact hnc
  · simp only at hk ⊢
    obtain ⟨o1, o2, o3⟩ := h.old k hk
    refine ⟨o1, Nat.lt_of_lt_of_le o2 h3.size, fun i hi => ?_⟩
    rcases h4 with h4 | ⟨_, h4⟩
    · by_cases hkg : l.g.ownBlock = some k
      · have := h2.cells (g := k) (by rw [h4, hkg]) _ _ (hread i (by omega))
        have e : (⟨k, 0, none⟩ : Addr).add (i * l.sz + l.c) = ⟨k, i * l.sz + l.c, none⟩ := by unfold Addr.add; split <;> simp_all
        rw [e] at this; exact this
      · exact h3.cell (o3 i hi) (fun e => hkg e.symm)
    · exact h4.cell (o3 i hi) (fun e => by cases e)
  · intro k hk
    rcases h4 with h4 | ⟨h4, _⟩
    · exact .inl (by rw [← h4, hk])
    · rw [hk] at h4; exact .inr (Option.some.inj h4)

/-- Four lists that share no memory. -/
structure M4 (B : Nat) (w0 w : World) (a b x y : Ls) : Prop where
  bel : Below B w0 w
  base : B ≤ w0.heap.size
  ha : LS B w a
  hb : LS B w b
  hx : LS B w x
  hy : LS B w y
  ab : Ap a b
  ax : Ap a x
  ay : Ap a y
  bx : Ap b x
  by' : Ap b y
  xy : Ap x y

theorem M4.swapB {B : Nat} {w0 w : World} {a b x y : Ls} (h : M4 B w0 w a b x y) : M4 B w0 w b a x y := ⟨h.bel, h.base, h.hb, h.ha, h.hx, h.hy, h.ab.symm, h.bx, h.by', h.ax, h.ay, h.xy⟩
theorem M4.swapX {B : Nat} {w0 w : World} {a b x y : Ls} (h : M4 B w0 w a b x y) : M4 B w0 w x b a y := ⟨h.bel, h.base, h.hx, h.hb, h.ha, h.hy, h.bx.symm, h.ax.symm, h.xy, h.ab.symm, h.by', h.ay⟩
theorem M4.swapY {B : Nat} {w0 w : World} {a b x y : Ls} (h : M4 B w0 w a b x y) : M4 B w0 w y b x a := ⟨h.bel, h.base, h.hy, h.hb, h.hx, h.ha, h.by'.symm, h.xy.symm, h.ay.symm, h.bx, h.ab.symm, h.ax.symm⟩

theorem below_grownBy {B : Nat} {w0 w w' : World} {row : Option Nat} (h : Below B w0 w) (hg : w.grownBy w' row) (hB : B ≤ w.heap.size) (hr : ∀ k, row = some k → B ≤ k) : Below B w0 w' :=
  ⟨hg.os.trans h.os, hg.tape.trans h.tape, hg.output.trans h.output, Nat.le_trans h.size hg.size, fun k hk => (hg.block k (by omega) (fun e => by have := hr k e.symm; omega)).trans (h.block k hk)⟩

theorem M4.step {B : Nat} {w0 w w' : World} {a a' b x y : Ls} {row : Option Nat} (h : M4 B w0 w a b x y) (hg : w.grownBy w' row) (hrow : ∀ k, row = some k → a.has k) (ha' : LS B w' a') (hhas : ∀ k, a'.has k → a.has k ∨ w.heap.size ≤ k) : M4 B w0 w' a' b x y := by
  have hBw : B ≤ w.heap.size := Nat.le_trans h.base h.bel.size
  have ap : ∀ m : Ls, LS B w m → Ap a m → Ap a' m := fun m hm hap k h1 h2 => by
    rcases hhas k h1 with h3 | h3
    · exact hap k h3 h2
    · have := hm.lt h2; omega
  exact ⟨below_grownBy h.bel hg hBw (fun k hk => (h.ha.lt (hrow k hk)).1), h.base, ha', h.hb.kept hg (fun k hk => h.ab k (hrow k hk)), h.hx.kept hg (fun k hk => h.ax k (hrow k hk)), h.hy.kept hg (fun k hk => h.ay k (hrow k hk)),
    ap b h.hb h.ab, ap x h.hx h.ax, ap y h.hy h.ay, h.bx, h.by', h.xy⟩

theorem M4.alloc {B : Nat} {w0 w : World} {a b x y : Ls} (h : M4 B w0 w a b x y) (o : Obj) : M4 B w0 (w.alloc o) a b x y :=
  h.step (World.grownBy_alloc w o none) (fun k hk => by cases hk) (h.ha.alloc o) (fun k hk => .inl hk)

theorem M4.drewN {B : Nat} {w0 w : World} {a b x y : Ls} (h : M4 B w0 w a b x y) (n : Nat) : M4 B w0 (w.drewN n) a b x y :=
  have hg : w.grownBy (w.drewN n) none := ⟨rfl, rfl, rfl, Nat.le_refl _, fun _ _ _ => rfl⟩
  h.step hg (fun k hk => by cases hk) (h.ha.kept hg (fun k hk => by cases hk)) (fun k hk => .inl hk)

/-- While a list is written: the element in the place i. -/
theorem LS.write {B : Nat} {w : World} {l : Ls} (h : LS B w l) (hv : l.v = l.g) (hr : l.r0 = l.r) (hc : l.c < l.sz) {g : Nat} (hg : l.g.ownBlock = some g) (hi : l.r < l.n) :
    ∃ u, w.cell? ⟨g, l.r * l.sz + l.c, none⟩ = some u ∧ w.frozen? ⟨g, l.r * l.sz + l.c, none⟩ = false ∧ LS B (w.setCell ⟨g, l.r * l.sz + l.c, none⟩ (l.f l.r)) { l with r := l.r + 1, r0 := l.r + 1 } ∧ w.grownBy (w.setCell ⟨g, l.r * l.sz + l.c, none⟩ (l.f l.r)) (some g) := by
  obtain ⟨L, hL, hf⟩ := h.own
  obtain ⟨g', cap, hgv, hB, hlt⟩ := hL.form (by omega)
  have hgg : g' = g := by rw [hgv] at hg; simpa [Value.ownBlock] using hg
  subst hgg
  have hidx : ∀ i, i < l.n → i * l.sz + l.c < l.n * l.sz := fun i hi => by
    have := Nat.mul_le_mul_right l.sz (show i + 1 ≤ l.n from hi)
    rw [Nat.add_mul, Nat.one_mul] at this; omega
  have hL2 : w.ownsRow B l.e l.sz (.slice (some ⟨g', 0, none⟩) l.n cap) l.n L := by rw [← hgv]; exact hL
  have hcell := hL2.cellAt _ (hidx l.r hi)
  have hlen : l.r * l.sz + l.c < L.length := by rw [hL.1]; exact hidx l.r hi
  rw [List.getElem?_eq_getElem hlen] at hcell
  obtain ⟨s1, s2⟩ := hL2.stored (l.r * l.sz + l.c) (l.f l.r)
  have hread : ∀ i, i < l.r + 1 → (L.set (l.r * l.sz + l.c) (l.f l.r))[i * l.sz + l.c]? = some (l.f i) := fun i hi2 => by
    rcases Nat.lt_succ_iff_lt_or_eq.1 hi2 with h2 | rfl
    · have hne : l.r * l.sz + l.c ≠ i * l.sz + l.c := by
        have := Nat.mul_le_mul_right l.sz (show i + 1 ≤ l.r from h2)
        rw [Nat.add_mul, Nat.one_mul] at this; omega
      rw [List.getElem?_set_ne hne]
      exact hf i h2
    · rw [List.getElem?_set_self hlen]
  refine ⟨_, hcell, hL2.frozenAt _, ⟨⟨_, by rw [hgv]; exact s1, hread⟩, fun k hk => ?_⟩, s2⟩
  simp only at hk ⊢
  have hkg : k = g' := by rw [hv, hg] at hk; exact (Option.some.inj hk).symm
  subst hkg
  refine ⟨hB, Nat.lt_of_lt_of_le hlt s2.size, fun i hi2 => ?_⟩
  rw [s1.cellAt _ (hidx i (by omega))]
  exact hread i hi2

theorem M4.write {B : Nat} {w0 w : World} {a b x y : Ls} (h : M4 B w0 w a b x y) (hv : a.v = a.g) (hr : a.r0 = a.r) (hc : a.c < a.sz) {g : Nat} (hg : a.g.ownBlock = some g) (hi : a.r < a.n) :
    ∃ u, w.cell? ⟨g, a.r * a.sz + a.c, none⟩ = some u ∧ w.frozen? ⟨g, a.r * a.sz + a.c, none⟩ = false ∧ M4 B w0 (w.setCell ⟨g, a.r * a.sz + a.c, none⟩ (a.f a.r)) { a with r := a.r + 1, r0 := a.r + 1 } b x y := by
  obtain ⟨u, h1, h2, h3, h4⟩ := h.ha.write hv hr hc hg hi
  exact ⟨u, h1, h2, h.step h4 (fun k hk => by cases hk; exact .inr hg) h3 (fun k hk => .inl hk)⟩

/-- What the reading of a list asks. -/
theorem LS.shape {B : Nat} {w : World} {l : Ls} (h : LS B w l) : ∃ ao cap, l.g = .slice ao l.n cap ∧ l.n ≤ cap ∧ cap ≤ maxLen ∧ ∀ i, i < l.r → i < l.n → l.c < l.sz → ∃ g, ao = some ⟨g, 0, none⟩ ∧ w.cell? ⟨g, i * l.sz + l.c, none⟩ = some (l.f i) := by
  obtain ⟨L, hL, hf⟩ := h.own
  obtain ⟨ao, cap, hv, hnc, hcm, hsh⟩ := ownsRow_shape hL
  refine ⟨ao, cap, hv, hnc, hcm, fun i hi hin hc => ?_⟩
  have hidx : i * l.sz + l.c < l.n * l.sz := by
    have := Nat.mul_le_mul_right l.sz (show i + 1 ≤ l.n from hin)
    rw [Nat.add_mul, Nat.one_mul] at this; omega
  obtain ⟨g, hao, _, _, hcell⟩ := hsh (by omega)
  exact ⟨g, hao, by rw [hcell _ hidx]; exact hf i hi⟩
end Go.Proofs.Ytebidhdoiojaeaa
