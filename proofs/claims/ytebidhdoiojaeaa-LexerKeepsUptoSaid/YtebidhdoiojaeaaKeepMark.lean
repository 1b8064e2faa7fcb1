/- Walk of the law's helper mark: other texts and tokens written into four lists, and 80 more behind each; all is there. -/
import Derived.Test.YtebidhdoiojaeaaKeepMem
import Derived.Test.YtebidhdoiojaeaaLexLines
namespace Go.Proofs.Ytebidhdoiojaeaa
open Go.RowKit LexP

def lsA (v : Value) (r0 : Nat) (g : Value) (n r : Nat) : Ls := ⟨9, 1, 0, fun _ => .string ⟨#[97]⟩, v, r0, g, n, r⟩
def lsB (v : Value) (r0 : Nat) (g : Value) (n r : Nat) : Ls := ⟨9, 1, 0, fun _ => .string ⟨#[98]⟩, v, r0, g, n, r⟩
def lsX (v : Value) (r0 : Nat) (g : Value) (n r : Nat) : Ls := ⟨46, 3, 2, fun i => .int .i64 (100000 + (i : Int)), v, r0, g, n, r⟩
def lsY (v : Value) (r0 : Nat) (g : Value) (n r : Nat) : Ls := ⟨46, 3, 2, fun i => .int .i64 (200000 + (i : Int)), v, r0, g, n, r⟩

/-- The four lists: how far each is written, and what each grew to. -/
def MK (B : Nat) (w0 w : World) (va : Value) (ra : Nat) (ga : Value) (na sa : Nat) (vb : Value) (rb : Nat) (gb : Value) (nb sb : Nat) (vx : Value) (rx : Nat) (gx : Value) (nx sx : Nat) (vy : Value) (ry : Nat) (gy : Value) (ny sy : Nat) : Prop :=
  M4 B w0 w (lsA va ra ga na sa) (lsB vb rb gb nb sb) (lsX vx rx gx nx sx) (lsY vy ry gy ny sy)

section
variable {B : Nat} {w0 w : World} {va ga vb gb vx gx vy gy : Value} {ra na sa rb nb sb rx nx sx ry ny sy : Nat}
theorem MK.wA (h : MK B w0 w va ra va na ra vb rb gb nb sb vx rx gx nx sx vy ry gy ny sy) {g : Nat} (hg : va.ownBlock = some g) (hi : ra < na) :
    ∃ u, w.cell? ⟨g, ra, none⟩ = some u ∧ w.frozen? ⟨g, ra, none⟩ = false ∧ MK B w0 (w.setCell ⟨g, ra, none⟩ (.string ⟨#[97]⟩)) va (ra + 1) va na (ra + 1) vb rb gb nb sb vx rx gx nx sx vy ry gy ny sy := by
  obtain ⟨u, h1, h2, h3⟩ := M4.write h rfl rfl (by show 0 < 1; decide) (g := g) hg hi
  have e : (⟨g, (lsA va ra va na ra).r * (lsA va ra va na ra).sz + (lsA va ra va na ra).c, none⟩ : Addr) = ⟨g, ra, none⟩ := by simp [lsA]
  rw [e] at h1 h2 h3
  exact ⟨u, h1, h2, h3⟩
theorem MK.wB (h : MK B w0 w va ra ga na sa vb rb vb nb rb vx rx gx nx sx vy ry gy ny sy) {g : Nat} (hg : vb.ownBlock = some g) (hi : rb < nb) :
    ∃ u, w.cell? ⟨g, rb, none⟩ = some u ∧ w.frozen? ⟨g, rb, none⟩ = false ∧ MK B w0 (w.setCell ⟨g, rb, none⟩ (.string ⟨#[98]⟩)) va ra ga na sa vb (rb + 1) vb nb (rb + 1) vx rx gx nx sx vy ry gy ny sy := by
  obtain ⟨u, h1, h2, h3⟩ := M4.write (M4.swapB h) rfl rfl (by show 0 < 1; decide) (g := g) hg hi
  have e : (⟨g, (lsB vb rb vb nb rb).r * (lsB vb rb vb nb rb).sz + (lsB vb rb vb nb rb).c, none⟩ : Addr) = ⟨g, rb, none⟩ := by simp [lsB]
  rw [e] at h1 h2 h3
  exact ⟨u, h1, h2, M4.swapB h3⟩
theorem MK.wX (h : MK B w0 w va ra ga na sa vb rb gb nb sb vx rx vx nx rx vy ry gy ny sy) {g : Nat} (hg : vx.ownBlock = some g) (hi : rx < nx) :
    ∃ u, w.cell? ⟨g, rx * 3 + 2, none⟩ = some u ∧ w.frozen? ⟨g, rx * 3 + 2, none⟩ = false ∧ MK B w0 (w.setCell ⟨g, rx * 3 + 2, none⟩ (.int .i64 (100000 + (rx : Int)))) va ra ga na sa vb rb gb nb sb vx (rx + 1) vx nx (rx + 1) vy ry gy ny sy := by
  obtain ⟨u, h1, h2, h3⟩ := M4.write (M4.swapX h) rfl rfl (by show 2 < 3; decide) (g := g) hg hi
  exact ⟨u, h1, h2, M4.swapX h3⟩
theorem MK.wY (h : MK B w0 w va ra ga na sa vb rb gb nb sb vx rx gx nx sx vy ry vy ny ry) {g : Nat} (hg : vy.ownBlock = some g) (hi : ry < ny) :
    ∃ u, w.cell? ⟨g, ry * 3 + 2, none⟩ = some u ∧ w.frozen? ⟨g, ry * 3 + 2, none⟩ = false ∧ MK B w0 (w.setCell ⟨g, ry * 3 + 2, none⟩ (.int .i64 (200000 + (ry : Int)))) va ra ga na sa vb rb gb nb sb vx rx gx nx sx vy (ry + 1) vy ny (ry + 1) := by
  obtain ⟨u, h1, h2, h3⟩ := M4.write (M4.swapY h) rfl rfl (by show 2 < 3; decide) (g := g) hg hi
  exact ⟨u, h1, h2, M4.swapY h3⟩

/-- Behind an append to a list. -/
theorem MK.gA {w' : World} {g' : Value} (h : MK B w0 w va ra ga na sa vb rb gb nb sb vx rx gx nx sx vy ry gy ny sy) (h1 : LS B w' { lsA va ra ga na sa with g := g', n := na + 1, r := na + 1 }) (h2 : w.grownBy w' ga.ownBlock) (h3 : ∀ k, g'.ownBlock = some k → ga.ownBlock = some k ∨ k = w.heap.size) :
    MK B w0 w' va ra g' (na + 1) (na + 1) vb rb gb nb sb vx rx gx nx sx vy ry gy ny sy :=
  M4.step h h2 (fun k hk => .inr hk) h1 (fun k hk => by
    rcases hk with hk | hk
    · exact .inl (.inl hk)
    · rcases h3 k hk with h | h
      · exact .inl (.inr h)
      · exact .inr (by omega))
theorem MK.gB {w' : World} {g' : Value} (h : MK B w0 w va ra ga na sa vb rb gb nb sb vx rx gx nx sx vy ry gy ny sy) (h1 : LS B w' { lsB vb rb gb nb sb with g := g', n := nb + 1, r := nb + 1 }) (h2 : w.grownBy w' gb.ownBlock) (h3 : ∀ k, g'.ownBlock = some k → gb.ownBlock = some k ∨ k = w.heap.size) :
    MK B w0 w' va ra ga na sa vb rb g' (nb + 1) (nb + 1) vx rx gx nx sx vy ry gy ny sy :=
  M4.swapB (M4.step (M4.swapB h) h2 (fun k hk => .inr hk) h1 (fun k hk => by
    rcases hk with hk | hk
    · exact .inl (.inl hk)
    · rcases h3 k hk with h | h
      · exact .inl (.inr h)
      · exact .inr (by omega)))
theorem MK.gX {w' : World} {g' : Value} (h : MK B w0 w va ra ga na sa vb rb gb nb sb vx rx gx nx sx vy ry gy ny sy) (h1 : LS B w' { lsX vx rx gx nx sx with g := g', n := nx + 1, r := nx + 1 }) (h2 : w.grownBy w' gx.ownBlock) (h3 : ∀ k, g'.ownBlock = some k → gx.ownBlock = some k ∨ k = w.heap.size) :
    MK B w0 w' va ra ga na sa vb rb gb nb sb vx rx g' (nx + 1) (nx + 1) vy ry gy ny sy :=
  M4.swapX (M4.step (M4.swapX h) h2 (fun k hk => .inr hk) h1 (fun k hk => by
    rcases hk with hk | hk
    · exact .inl (.inl hk)
    · rcases h3 k hk with h | h
      · exact .inl (.inr h)
      · exact .inr (by omega)))
theorem MK.gY {w' : World} {g' : Value} (h : MK B w0 w va ra ga na sa vb rb gb nb sb vx rx gx nx sx vy ry gy ny sy) (h1 : LS B w' { lsY vy ry gy ny sy with g := g', n := ny + 1, r := ny + 1 }) (h2 : w.grownBy w' gy.ownBlock) (h3 : ∀ k, g'.ownBlock = some k → gy.ownBlock = some k ∨ k = w.heap.size) :
    MK B w0 w' va ra ga na sa vb rb gb nb sb vx rx gx nx sx vy ry g' (ny + 1) (ny + 1) :=
  M4.swapY (M4.step (M4.swapY h) h2 (fun k hk => .inr hk) h1 (fun k hk => by
    rcases hk with hk | hk
    · exact .inl (.inl hk)
    · rcases h3 k hk with h | h
      · exact .inl (.inr h)
      · exact .inr (by omega)))
end

/-- What may be read of a list and of what it grew to. -/
theorem LS.read1 {B : Nat} {w : World} {e : TypeId} {f : Nat → Value} {v g : Value} {r0 n : Nat} (h : LS B w ⟨e, 1, 0, f, v, r0, g, n, n⟩) (hn : 0 < n) : ∃ k cap, g = .slice (some ⟨k, 0, none⟩) n cap ∧ (∀ i, i < n → w.cell? ⟨k, i, none⟩ = some (f i)) ∧
    ∀ q, v.ownBlock = some q → ∀ i, i < r0 → w.cell? ⟨q, i, none⟩ = some (f i) := by
  obtain ⟨ao, cap, h1, _, _, h2⟩ := h.shape
  obtain ⟨k, rfl, _⟩ := h2 0 hn hn (by simp)
  refine ⟨k, cap, h1, fun i hi => ?_, fun q hq i hi => ?_⟩
  · obtain ⟨k', e, h3⟩ := h2 i hi hi (by simp)
    cases e
    simpa using h3
  · have := (h.old q hq).2.2 i hi
    simpa using this
theorem LS.read3 {B : Nat} {w : World} {e : TypeId} {f : Nat → Value} {v g : Value} {r0 n : Nat} (h : LS B w ⟨e, 3, 2, f, v, r0, g, n, n⟩) (hn : 0 < n) : ∃ k cap, g = .slice (some ⟨k, 0, none⟩) n cap ∧ (∀ i, i < n → w.cell? ⟨k, i * 3 + 2, none⟩ = some (f i)) ∧
    ∀ q, v.ownBlock = some q → ∀ i, i < r0 → w.cell? ⟨q, i * 3 + 2, none⟩ = some (f i) := by
  obtain ⟨ao, cap, h1, _, _, h2⟩ := h.shape
  obtain ⟨k, rfl, _⟩ := h2 0 hn hn (by simp)
  refine ⟨k, cap, h1, fun i hi => ?_, fun q hq i hi => ?_⟩
  · obtain ⟨k', e, h3⟩ := h2 i hi hi (by simp)
    cases e
    exact h3
  · exact (h.old q hq).2.2 i hi

def GRel (n : Nat) (M : Value → Nat → World → Prop) (gv i : Value) (wr : World) : Prop := ∃ (k : Nat) (ao : Option Addr) (cp : Nat), k ≤ 80 ∧ i = .int .i64 (k : Nat) ∧ gv = .slice ao (n + k) cp ∧ M gv (n + k) wr
theorem GRel.mk' {n k : Nat} {M : Value → Nat → World → Prop} {ao : Option Addr} {cp : Nat} {i : Value} {wr : World} (hk : k ≤ 80) (hi : i = .int .i64 (k : Nat)) (h : M (.slice ao (n + k) cp) (n + k) wr) : GRel n M (.slice ao (n + k) cp) i wr := ⟨k, ao, cp, hk, hi, rfl, h⟩

set_option maxRecDepth 200000 in
set_option maxHeartbeats 8000000 in
theorem mark_any (B : Nat) (aa ab ax ay : Option Addr) (na ca nb cb nx cx ny cy : Nat) (w : World) (hm : MK B w w (.slice aa na ca) 0 (.slice aa na ca) na 0 (.slice ab nb cb) 0 (.slice ab nb cb) nb 0 (.slice ax nx cx) 0 (.slice ax nx cx) nx 0 (.slice ay ny cy) 0 (.slice ay ny cy) ny 0)
    (pa : 0 < na → ∃ g, aa = some ⟨g, 0, none⟩) (pb : 0 < nb → ∃ g, ab = some ⟨g, 0, none⟩) (px : 0 < nx → ∃ g, ax = some ⟨g, 0, none⟩) (py : 0 < ny → ∃ g, ay = some ⟨g, 0, none⟩)
    (la : na ≤ 1048576) (lb : nb ≤ 1048576) (lx : nx ≤ 1048576) (ly : ny ≤ 1048576) :
    Calls Try.prog 22 #[.slice aa na ca, .slice ab nb cb, .slice ax nx cx, .slice ay ny cy] w fun e w' => e = .returned (.bool true) ∧ Below B w w' := by
  obtain ⟨i0, hi, hz0, hz1, hz2⟩ := info_parts Try.infoTok
  obtain ⟨j0, hj, hy0, hy1, hy2⟩ := info_parts Try.infoStr
  have HM := Lib.hid hm
  have PA := Lib.hid pa
  have PB := Lib.hid pb
  have PX := Lib.hid px
  have PY := Lib.hid py
  clear hm pa pb px py
  go_enter Try.func22, Try.ntmps22
  go_wp2_with fail
  go_loopw [9] (fun i wr => ∃ k : Nat, k ≤ na ∧ i = .int .i64 (k : Nat) ∧ MK B w wr (.slice aa na ca) k (.slice aa na ca) na k (.slice ab nb cb) 0 (.slice ab nb cb) nb 0 (.slice ax nx cx) 0 (.slice ax nx cx) nx 0 (.slice ay ny cy) 0 (.slice ay ny cy) ny 0) (fun i _ => na - (intOf i).toNat)
  case atStart => exact ⟨0, Nat.zero_le _, rfl, HM.out⟩
  case round =>
    obtain ⟨k, hk, rfl, hmk⟩ := hrel
    have HK0 := Lib.hid hmk
    clear hmk
    by_cases hlt : k < na
    · obtain ⟨g, rfl⟩ := PA.out (by omega)
      obtain ⟨u, e1, e2, e3⟩ := MK.wA HK0.out (g := g) rfl hlt
      have HN := Lib.hid e3
      clear e3
      go_wp2_with fail
      exact ⟨⟨k + 1, by omega, by go_num, HN.out⟩, by simp [intOf]; omega⟩
    obtain rfl : na = k := by omega
    clear hlt hk
    go_wp2_with fail
    go_loopw [10] (fun i wr => ∃ k : Nat, k ≤ nb ∧ i = .int .i64 (k : Nat) ∧ MK B w wr (.slice aa na ca) na (.slice aa na ca) na na (.slice ab nb cb) k (.slice ab nb cb) nb k (.slice ax nx cx) 0 (.slice ax nx cx) nx 0 (.slice ay ny cy) 0 (.slice ay ny cy) ny 0) (fun i _ => nb - (intOf i).toNat)
    case atStart => exact ⟨0, Nat.zero_le _, rfl, HK0.out⟩
    case round =>
      obtain ⟨k, hk, rfl, hmk⟩ := hrel
      have HK1 := Lib.hid hmk
      clear hmk
      by_cases hlt : k < nb
      · obtain ⟨g, rfl⟩ := PB.out (by omega)
        obtain ⟨u, e1, e2, e3⟩ := MK.wB HK1.out (g := g) rfl hlt
        have HN := Lib.hid e3
        clear e3
        go_wp2_with fail
        exact ⟨⟨k + 1, by omega, by go_num, HN.out⟩, by simp [intOf]; omega⟩
      obtain rfl : nb = k := by omega
      clear hlt hk
      go_wp2_with fail
      go_loopw [11] (fun i wr => ∃ k : Nat, k ≤ nx ∧ i = .int .i64 (k : Nat) ∧ MK B w wr (.slice aa na ca) na (.slice aa na ca) na na (.slice ab nb cb) nb (.slice ab nb cb) nb nb (.slice ax nx cx) k (.slice ax nx cx) nx k (.slice ay ny cy) 0 (.slice ay ny cy) ny 0) (fun i _ => nx - (intOf i).toNat)
      case atStart => exact ⟨0, Nat.zero_le _, rfl, HK1.out⟩
      case round =>
        obtain ⟨k, hk, rfl, hmk⟩ := hrel
        have HK2 := Lib.hid hmk
        clear hmk
        by_cases hlt : k < nx
        · obtain ⟨g, rfl⟩ := PX.out (by omega)
          obtain ⟨u, e1, e2, e3⟩ := MK.wX HK2.out (g := g) rfl hlt
          have HN := Lib.hid e3
          clear e3
          go_wp2_with fail
          exact ⟨⟨k + 1, by omega, by go_num, HN.out⟩, by simp [intOf]; omega⟩
        obtain rfl : nx = k := by omega
        clear hlt hk
        go_wp2_with fail
        go_loopw [12] (fun i wr => ∃ k : Nat, k ≤ ny ∧ i = .int .i64 (k : Nat) ∧ MK B w wr (.slice aa na ca) na (.slice aa na ca) na na (.slice ab nb cb) nb (.slice ab nb cb) nb nb (.slice ax nx cx) nx (.slice ax nx cx) nx nx (.slice ay ny cy) k (.slice ay ny cy) ny k) (fun i _ => ny - (intOf i).toNat)
        case atStart => exact ⟨0, Nat.zero_le _, rfl, HK2.out⟩
        case round =>
          obtain ⟨k, hk, rfl, hmk⟩ := hrel
          have HK3 := Lib.hid hmk
          clear hmk
          by_cases hlt : k < ny
          · obtain ⟨g, rfl⟩ := PY.out (by omega)
            obtain ⟨u, e1, e2, e3⟩ := MK.wY HK3.out (g := g) rfl hlt
            have HN := Lib.hid e3
            clear e3
            go_wp2_with fail
            exact ⟨⟨k + 1, by omega, by go_num, HN.out⟩, by simp [intOf]; omega⟩
          obtain rfl : ny = k := by omega
          clear hlt hk
          go_wp2_with fail
          go_loopw [13, 17] (fun gv i wr => GRel na (fun gg nn wr => MK B w wr (.slice aa na ca) na gg nn nn (.slice ab nb cb) nb (.slice ab nb cb) nb nb (.slice ax nx cx) nx (.slice ax nx cx) nx nx (.slice ay ny cy) ny (.slice ay ny cy) ny ny) gv i wr) (fun _ i _ => 80 - (intOf i).toNat)
          case atStart => exact ⟨0, _, _, Nat.zero_le _, rfl, rfl, HK3.out⟩
          case round =>
            obtain ⟨k, aoa, cpa, hk, rfl, rfl, hmk⟩ := hrel
            have HG0 := Lib.hid hmk
            clear hmk
            by_cases hlt : k < 80
            · go_wp2_with (at_builtin; go_loud (refine wpList_append_ls _ rfl _ _ 36 rfl B (lsA (.slice aa na ca) na (.slice aoa (na + k) cpa) (na + k) (na + k)) j0 (.string ⟨#[]⟩) 16 Try.underlying36 hj hy0 hy1 hy2 rfl (by show 0 < 1; decide) rfl ((M4.ha (HG0.out)).alloc _) rfl (by show na ≤ na + k; omega) ⟨wr.heap.size, 0, none⟩ 1 [.string ⟨#[97]⟩] rfl rfl (cells_new _ _ _ _ rfl) (by simp [Value.oneCell']) rfl (by show na + k + 1 ≤ maxLen; unfold maxLen; omega) (by show (na + k + 1) * 16 ≤ _; omega) (by have := HG0.out.base; have := HG0.out.bel.size; simp; omega) ?_))
              intro g' w3 hls hgr hbk
              have hmk := MK.gA (M4.alloc HG0.out _) hls hgr (by intro q hq; rcases hbk q hq with h | h; (· exact .inl h); (· exact .inr (h.trans (by simp))))
              obtain ⟨ao2, cp2, hg2, -, -, -⟩ := LS.shape hls
              simp only at hg2
              subst hg2
              have HN := Lib.hid hmk
              clear hmk hls hgr hbk
              go_wp2_with fail
              have hfin : GRel na (fun gg nn wr => MK B w wr (.slice aa na ca) na gg nn nn (.slice ab nb cb) nb (.slice ab nb cb) nb nb (.slice ax nx cx) nx (.slice ax nx cx) nx nx (.slice ay ny cy) ny (.slice ay ny cy) ny ny) (.slice ao2 (na + k + 1) cp2) (.int .i64 ((k : Int) + 1)) w3 := GRel.mk' (k := k + 1) (by omega) (by go_num) HN.out
              first | exact ⟨hfin, by simp [intOf]; omega⟩ | exact ⟨by (repeat apply Exists.intro); exact ⟨hfin, rfl⟩, by simp [intOf]; omega⟩
            obtain rfl : k = 80 := by omega
            clear hlt hk
            go_wp2_with fail
            go_loopw [14, 18] (fun gv i wr => GRel nb (fun gg nn wr => MK B w wr (.slice aa na ca) na (.slice aoa (na + 80) cpa) (na + 80) (na + 80) (.slice ab nb cb) nb gg nn nn (.slice ax nx cx) nx (.slice ax nx cx) nx nx (.slice ay ny cy) ny (.slice ay ny cy) ny ny) gv i wr) (fun _ i _ => 80 - (intOf i).toNat)
            case atStart => exact ⟨0, _, _, Nat.zero_le _, rfl, rfl, HG0.out⟩
            case round =>
              obtain ⟨k, aob, cpb, hk, rfl, rfl, hmk⟩ := hrel
              have HG1 := Lib.hid hmk
              clear hmk
              by_cases hlt : k < 80
              · go_wp2_with (at_builtin; go_loud (refine wpList_append_ls _ rfl _ _ 36 rfl B (lsB (.slice ab nb cb) nb (.slice aob (nb + k) cpb) (nb + k) (nb + k)) j0 (.string ⟨#[]⟩) 16 Try.underlying36 hj hy0 hy1 hy2 rfl (by show 0 < 1; decide) rfl ((M4.hb (HG1.out)).alloc _) rfl (by show nb ≤ nb + k; omega) ⟨wr.heap.size, 0, none⟩ 1 [.string ⟨#[98]⟩] rfl rfl (cells_new _ _ _ _ rfl) (by simp [Value.oneCell']) rfl (by show nb + k + 1 ≤ maxLen; unfold maxLen; omega) (by show (nb + k + 1) * 16 ≤ _; omega) (by have := HG1.out.base; have := HG1.out.bel.size; simp; omega) ?_))
                intro g' w3 hls hgr hbk
                have hmk := MK.gB (M4.alloc HG1.out _) hls hgr (by intro q hq; rcases hbk q hq with h | h; (· exact .inl h); (· exact .inr (h.trans (by simp))))
                obtain ⟨ao2, cp2, hg2, -, -, -⟩ := LS.shape hls
                simp only at hg2
                subst hg2
                have HN := Lib.hid hmk
                clear hmk hls hgr hbk
                go_wp2_with fail
                have hfin : GRel nb (fun gg nn wr => MK B w wr (.slice aa na ca) na (.slice aoa (na + 80) cpa) (na + 80) (na + 80) (.slice ab nb cb) nb gg nn nn (.slice ax nx cx) nx (.slice ax nx cx) nx nx (.slice ay ny cy) ny (.slice ay ny cy) ny ny) (.slice ao2 (nb + k + 1) cp2) (.int .i64 ((k : Int) + 1)) w3 := GRel.mk' (k := k + 1) (by omega) (by go_num) HN.out
                first | exact ⟨hfin, by simp [intOf]; omega⟩ | exact ⟨by (repeat apply Exists.intro); exact ⟨hfin, rfl⟩, by simp [intOf]; omega⟩
              obtain rfl : k = 80 := by omega
              clear hlt hk
              go_wp2_with fail
              go_loopw [15, 19] (fun gv i wr => GRel nx (fun gg nn wr => MK B w wr (.slice aa na ca) na (.slice aoa (na + 80) cpa) (na + 80) (na + 80) (.slice ab nb cb) nb (.slice aob (nb + 80) cpb) (nb + 80) (nb + 80) (.slice ax nx cx) nx gg nn nn (.slice ay ny cy) ny (.slice ay ny cy) ny ny) gv i wr) (fun _ i _ => 80 - (intOf i).toNat)
              case atStart => exact ⟨0, _, _, Nat.zero_le _, rfl, rfl, HG1.out⟩
              case round =>
                obtain ⟨k, aox, cpx, hk, rfl, rfl, hmk⟩ := hrel
                have HG2 := Lib.hid hmk
                clear hmk
                by_cases hlt : k < 80
                · go_wp2_with (at_builtin; go_loud (refine wpList_append_ls _ rfl _ _ 25 rfl B (lsX (.slice ax nx cx) nx (.slice aox (nx + k) cpx) (nx + k) (nx + k)) i0 (.agg #[.int .i64 0, .string ⟨#[]⟩, .int .i64 0]) 32 Try.underlying25 hi hz0 hz1 hz2 rfl (by show 2 < 3; decide) rfl ((M4.hx (HG2.out)).alloc _) rfl (by show nx ≤ nx + k; omega) ⟨wr.heap.size, 0, none⟩ 1 [.int .i64 0, .string ⟨#[]⟩, .int .i64 (100000 + ((nx : Int) + (k : Int)))] rfl rfl (cells_new _ _ _ _ rfl) (by simp [Value.oneCell']) (by show some (Value.int .i64 (100000 + ((nx : Int) + (k : Int)))) = some (.int .i64 (100000 + ((nx + k : Nat) : Int))); rw [Int.natCast_add]) (by show nx + k + 1 ≤ maxLen; unfold maxLen; omega) (by show (nx + k + 1) * 32 ≤ _; omega) (by have := HG2.out.base; have := HG2.out.bel.size; simp; omega) ?_))
                  intro g' w3 hls hgr hbk
                  have hmk := MK.gX (M4.alloc HG2.out _) hls hgr (by intro q hq; rcases hbk q hq with h | h; (· exact .inl h); (· exact .inr (h.trans (by simp))))
                  obtain ⟨ao2, cp2, hg2, -, -, -⟩ := LS.shape hls
                  simp only at hg2
                  subst hg2
                  have HN := Lib.hid hmk
                  clear hmk hls hgr hbk
                  go_wp2_with fail
                  have hfin : GRel nx (fun gg nn wr => MK B w wr (.slice aa na ca) na (.slice aoa (na + 80) cpa) (na + 80) (na + 80) (.slice ab nb cb) nb (.slice aob (nb + 80) cpb) (nb + 80) (nb + 80) (.slice ax nx cx) nx gg nn nn (.slice ay ny cy) ny (.slice ay ny cy) ny ny) (.slice ao2 (nx + k + 1) cp2) (.int .i64 ((k : Int) + 1)) w3 := GRel.mk' (k := k + 1) (by omega) (by go_num) HN.out
                  first | exact ⟨hfin, by simp [intOf]; omega⟩ | exact ⟨by (repeat apply Exists.intro); exact ⟨hfin, rfl⟩, by simp [intOf]; omega⟩
                obtain rfl : k = 80 := by omega
                clear hlt hk
                go_wp2_with fail
                go_loopw [16, 20] (fun gv i wr => GRel ny (fun gg nn wr => MK B w wr (.slice aa na ca) na (.slice aoa (na + 80) cpa) (na + 80) (na + 80) (.slice ab nb cb) nb (.slice aob (nb + 80) cpb) (nb + 80) (nb + 80) (.slice ax nx cx) nx (.slice aox (nx + 80) cpx) (nx + 80) (nx + 80) (.slice ay ny cy) ny gg nn nn) gv i wr) (fun _ i _ => 80 - (intOf i).toNat)
                case atStart => exact ⟨0, _, _, Nat.zero_le _, rfl, rfl, HG2.out⟩
                case round =>
                  obtain ⟨k, aoy, cpy, hk, rfl, rfl, hmk⟩ := hrel
                  have HG3 := Lib.hid hmk
                  clear hmk
                  by_cases hlt : k < 80
                  · go_wp2_with (at_builtin; go_loud (refine wpList_append_ls _ rfl _ _ 25 rfl B (lsY (.slice ay ny cy) ny (.slice aoy (ny + k) cpy) (ny + k) (ny + k)) i0 (.agg #[.int .i64 0, .string ⟨#[]⟩, .int .i64 0]) 32 Try.underlying25 hi hz0 hz1 hz2 rfl (by show 2 < 3; decide) rfl ((M4.hy (HG3.out)).alloc _) rfl (by show ny ≤ ny + k; omega) ⟨wr.heap.size, 0, none⟩ 1 [.int .i64 0, .string ⟨#[]⟩, .int .i64 (200000 + ((ny : Int) + (k : Int)))] rfl rfl (cells_new _ _ _ _ rfl) (by simp [Value.oneCell']) (by show some (Value.int .i64 (200000 + ((ny : Int) + (k : Int)))) = some (.int .i64 (200000 + ((ny + k : Nat) : Int))); rw [Int.natCast_add]) (by show ny + k + 1 ≤ maxLen; unfold maxLen; omega) (by show (ny + k + 1) * 32 ≤ _; omega) (by have := HG3.out.base; have := HG3.out.bel.size; simp; omega) ?_))
                    intro g' w3 hls hgr hbk
                    have hmk := MK.gY (M4.alloc HG3.out _) hls hgr (by intro q hq; rcases hbk q hq with h | h; (· exact .inl h); (· exact .inr (h.trans (by simp))))
                    obtain ⟨ao2, cp2, hg2, -, -, -⟩ := LS.shape hls
                    simp only at hg2
                    subst hg2
                    have HN := Lib.hid hmk
                    clear hmk hls hgr hbk
                    go_wp2_with fail
                    have hfin : GRel ny (fun gg nn wr => MK B w wr (.slice aa na ca) na (.slice aoa (na + 80) cpa) (na + 80) (na + 80) (.slice ab nb cb) nb (.slice aob (nb + 80) cpb) (nb + 80) (nb + 80) (.slice ax nx cx) nx (.slice aox (nx + 80) cpx) (nx + 80) (nx + 80) (.slice ay ny cy) ny gg nn nn) (.slice ao2 (ny + k + 1) cp2) (.int .i64 ((k : Int) + 1)) w3 := GRel.mk' (k := k + 1) (by omega) (by go_num) HN.out
                    first | exact ⟨hfin, by simp [intOf]; omega⟩ | exact ⟨by (repeat apply Exists.intro); exact ⟨hfin, rfl⟩, by simp [intOf]; omega⟩
                  obtain rfl : k = 80 := by omega
                  clear hlt hk
                  go_wp2_with fail
                  have HBEL : Hid (Below B w wr) := HG3.out.bel
                  obtain ⟨ka, qa, hea, hra, hoa⟩ := LS.read1 (M4.ha HG3.out) (by omega)
                  simp only [Value.slice.injEq, true_and] at hea
                  obtain ⟨rfl, rfl⟩ := hea
                  have RA := Lib.hid hra
                  have OA := Lib.hid hoa
                  clear hra hoa
                  obtain ⟨kb, qb, heb, hrb, hob⟩ := LS.read1 (M4.hb HG3.out) (by omega)
                  simp only [Value.slice.injEq, true_and] at heb
                  obtain ⟨rfl, rfl⟩ := heb
                  have RB := Lib.hid hrb
                  have OB := Lib.hid hob
                  clear hrb hob
                  obtain ⟨kx, qx, hex, hrx, hox⟩ := LS.read3 (M4.hx HG3.out) (by omega)
                  simp only [Value.slice.injEq, true_and] at hex
                  obtain ⟨rfl, rfl⟩ := hex
                  have RX := Lib.hid hrx
                  have OX := Lib.hid hox
                  clear hrx hox
                  obtain ⟨ky, qy, hey, hry, hoy⟩ := LS.read3 (M4.hy HG3.out) (by omega)
                  simp only [Value.slice.injEq, true_and] at hey
                  obtain ⟨rfl, rfl⟩ := hey
                  have RY := Lib.hid hry
                  have OY := Lib.hid hoy
                  clear hry hoy
                  go_loop [21] (fun i => ∃ k : Nat, k ≤ na + 80 ∧ i = .int .i64 (k : Nat)) (fun i => na + 80 - (intOf i).toNat)
                  case atStart => exact ⟨0, Nat.zero_le _, rfl⟩
                  case round =>
                    obtain ⟨k, hk, rfl⟩ := hrel
                    by_cases hlt : k < na + 80
                    · have e1 := RA.out k hlt
                      by_cases hin : k < na
                      · obtain ⟨g, rfl⟩ := PA.out (by omega)
                        have e2 := OA.out g rfl k hin
                        go_wp2_with fail
                        go_round
                        case rel => exact ⟨k + 1, by omega, by go_num⟩
                        case measure => simp [intOf]; omega
                      · go_wp2_with fail
                        go_round
                        case rel => exact ⟨k + 1, by omega, by go_num⟩
                        case measure => simp [intOf]; omega
                    obtain rfl : k = na + 80 := by omega
                    clear hlt hk
                    go_wp2_with fail
                    go_loop [22] (fun i => ∃ k : Nat, k ≤ nb + 80 ∧ i = .int .i64 (k : Nat)) (fun i => nb + 80 - (intOf i).toNat)
                    case atStart => exact ⟨0, Nat.zero_le _, rfl⟩
                    case round =>
                      obtain ⟨k, hk, rfl⟩ := hrel
                      by_cases hlt : k < nb + 80
                      · have e1 := RB.out k hlt
                        by_cases hin : k < nb
                        · obtain ⟨g, rfl⟩ := PB.out (by omega)
                          have e2 := OB.out g rfl k hin
                          go_wp2_with fail
                          go_round
                          case rel => exact ⟨k + 1, by omega, by go_num⟩
                          case measure => simp [intOf]; omega
                        · go_wp2_with fail
                          go_round
                          case rel => exact ⟨k + 1, by omega, by go_num⟩
                          case measure => simp [intOf]; omega
                      obtain rfl : k = nb + 80 := by omega
                      clear hlt hk
                      go_wp2_with fail
                      go_loop [23] (fun i => ∃ k : Nat, k ≤ nx + 80 ∧ i = .int .i64 (k : Nat)) (fun i => nx + 80 - (intOf i).toNat)
                      case atStart => exact ⟨0, Nat.zero_le _, rfl⟩
                      case round =>
                        obtain ⟨k, hk, rfl⟩ := hrel
                        by_cases hlt : k < nx + 80
                        · have e1 := RX.out k hlt
                          by_cases hin : k < nx
                          · obtain ⟨g, rfl⟩ := PX.out (by omega)
                            have e2 := OX.out g rfl k hin
                            go_wp2_with fail
                            go_round
                            case rel => exact ⟨k + 1, by omega, by go_num⟩
                            case measure => simp [intOf]; omega
                          · go_wp2_with fail
                            go_round
                            case rel => exact ⟨k + 1, by omega, by go_num⟩
                            case measure => simp [intOf]; omega
                        obtain rfl : k = nx + 80 := by omega
                        clear hlt hk
                        go_wp2_with fail
                        go_loop [24] (fun i => ∃ k : Nat, k ≤ ny + 80 ∧ i = .int .i64 (k : Nat)) (fun i => ny + 80 - (intOf i).toNat)
                        case atStart => exact ⟨0, Nat.zero_le _, rfl⟩
                        case round =>
                          obtain ⟨k, hk, rfl⟩ := hrel
                          by_cases hlt : k < ny + 80
                          · have e1 := RY.out k hlt
                            by_cases hin : k < ny
                            · obtain ⟨g, rfl⟩ := PY.out (by omega)
                              have e2 := OY.out g rfl k hin
                              go_wp2_with fail
                              go_round
                              case rel => exact ⟨k + 1, by omega, by go_num⟩
                              case measure => simp [intOf]; omega
                            · go_wp2_with fail
                              go_round
                              case rel => exact ⟨k + 1, by omega, by go_num⟩
                              case measure => simp [intOf]; omega
                          obtain rfl : k = ny + 80 := by omega
                          clear hlt hk
                          go_wp2_with fail
                          go_ret
                          exact ⟨rfl, HBEL.out⟩
end Go.Proofs.Ytebidhdoiojaeaa
