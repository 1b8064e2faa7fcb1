/- Walk of the law's helper shifted. -/
import Derived.Test.YtebidhdoiojaeaaLexL1
import Derived.Test.YtebidhdoiojaeaaLexPure2
import Derived.Deep.RegionHeld3
import Derived.Deep.AppendLies
namespace Go.Proofs.Ytebidhdoiojaeaa
open Go.RowKit LexP

/-- The law on append to an own slice, at an operation that a guard lets. -/
theorem wpList_append_own_g {P : Program} (w : World) {ops : Array Oper} {rest : List Oper} {o : Oper} {a : Act} {Q : Exit → Act → World → Prop} (hw : Region.wanted o (yielded ops a.tmps) = true) (s x : Operand) (t : TypeId)
    (ho : o.op = .call { callee := .builtin .append, args := #[s, x], argTypes := #[t, t] })
    (base : Nat) (e : TypeId) (i : TypeInfo) (z : Value) (size bytes : Nat) (ht : P.underlying t = some (.slice e)) (hi : P.info? e = some i) (hz : i.zero = some z)
    (hsize : i.size = size) (hby : i.bytes = bytes) (hzs : z.cells.size = size) (hsz : 0 < size)
    (v : Value) (n : Nat) (xs : List Value) (hs : a.eval s = v) (hown : w.ownsRow base e size v n xs)
    (ad : Addr) (m c : Nat) (news : List Value) (hx : a.eval x = .slice (some ad) m c) (hl : news.length = m * size) (hnews : ∀ j u, news[j]? = some u → w.cell? (ad.add j) = some u) (h1 : ∀ u ∈ news, u.oneCell' = true)
    (h63 : n + m ≤ maxLen) (hbytes : (n + m) * bytes ≤ 140737488355328) (hbase : base ≤ w.heap.size)
    (h : ∀ v' w', w'.ownsRow base e size v' (n + m) (xs ++ news) → w.grownBy w' v.ownBlock → (v' = .slice none 0 0 ↔ v = .slice none 0 0 ∧ m = 0) → wpList P ops Q rest (a.put o.dst v') w') : wpList P ops Q (o :: rest) a w := by
  unfold wpList
  rw [if_pos hw]
  exact .inl (wp_append_own w s x t ho base e i z size bytes ht hi hz hsize hby hzs hsz v n xs hs hown ad m c news hx hl hnews h1 h63 hbytes hbase h)

/-- What shifted answers: the tokens with a number added to their columns, in memory of its own. -/
def ShPost (d : Nat) (l : List Tok) (w : World) (e : Ending) (w' : World) : Prop :=
  ∃ g cap, e = .returned (.slice (some ⟨g, 0, none⟩) l.length cap) ∧ w'.ownsRow w.heap.size 46 3 (.slice (some ⟨g, 0, none⟩) l.length cap) l.length (tkCells (shiftT d l)) ∧ Below w.heap.size w w'

theorem shiftT_take_succ (d : Nat) (l : List Tok) (k : Nat) (c : Tok) (h : l[k]? = some c) : shiftT d (l.take (k + 1)) = shiftT d (l.take k) ++ [(c.1, c.2.1, c.2.2 + d)] := by
  rw [List.take_add_one, h]; simp [shiftT]

set_option maxRecDepth 100000 in
set_option maxHeartbeats 1000000 in
theorem shifted_any (v : Value) (l : List Tok) (d : Nat) (w : World) (hv : RdTk w v l) (hl : l.length ≤ 1048576) (hd : d ≤ 2097152) (hcol : ∀ t ∈ l, t.2.2 ≤ 2097152) :
    Calls Try.prog 17 #[v, .int .i64 (d : Nat)] w (ShPost d l w) := by
  obtain ⟨i0, hi, hz0, hz1, hz2⟩ := info_parts Try.infoTok
  obtain ⟨ao, cap, rfl, hnc, hcm, hsh⟩ := hv.shape
  have H1 := Lib.hid hsh
  have HC := Lib.hid hcol
  clear hsh hcm hv hcol
  go_enter Try.func17, Try.ntmps17
  go_wp2_with (at_make; refine wpList_make_own _ rfl _ _ 25 rfl w.heap.size 46 i0 (.agg #[.int .i64 0, .string ⟨#[]⟩, .int .i64 0]) 3 Try.underlying25 hi hz0 hz1 _ _ _ l.length rfl rfl rfl ?b1 ?b2 ?b3 ?_)
  case b1 => rw [hz2]; omega
  case b2 => unfold maxLen; omega
  case b3 => exact Nat.le_refl _
  intro w1 hown1 hgrow1
  have hb1 : Below w.heap.size w w1 := Below.grown (Below.refl _ _) hgrow1 (Nat.le_refl _) (fun k hk => by cases hk)
  have HO := Lib.hid hown1
  clear hown1 hgrow1
  go_wp2_with fail
  go_loopw [5, 6] (fun v i wr => ∃ (k g2 cap2 : Nat), k ≤ l.length ∧ i = .int .i64 (k : Nat) ∧ v = .slice (some ⟨g2, 0, none⟩) k cap2 ∧ Below w.heap.size w wr ∧
    wr.ownsRow w.heap.size 46 3 (.slice (some ⟨g2, 0, none⟩) k cap2) k (tkCells (shiftT d (l.take k)))) (fun _ i _ => l.length - (intOf i).toNat)
  case atStart => exact ⟨0, _, _, Nat.zero_le _, rfl, rfl, hb1, HO.out⟩
  case round =>
    obtain ⟨k, g2, cap2, hk, rfl, rfl, hb, hown⟩ := hrel
    by_cases hlt : k < l.length
    · obtain ⟨c, hc⟩ : ∃ c, l[k]? = some c := ⟨_, List.getElem?_eq_getElem hlt⟩
      obtain ⟨g, rfl, hgs, e1, e2, e3⟩ := H1.out _ c hc
      rw [← hb.cell (p := ⟨g, _, none⟩) hgs] at e1 e2 e3
      have hcd := HC.out c (List.mem_of_getElem? hc)
      have HTS := Lib.hid (shiftT_take_succ d l k c hc)
      have hzz := hb.size
      have hg2 := (hown.lt g2 rfl).1
      have hne : (Value.slice (some ⟨g2, 0, none⟩) k cap2).ownBlock ≠ some g := by simp [Value.ownBlock]; omega
      have hi0' : (0 : Int) ≤ (k : Int) := Int.natCast_nonneg _
      have hi1 : (k : Int) < (l.length : Int) := by omega
      obtain ⟨c1, c2, c3⟩ := c
      simp only at e1 e2 e3 hcd
      have hi3 : (0 : Int) ≤ (c3 : Int) := Int.natCast_nonneg _
      have hi4 : (c3 : Int) + (d : Int) ≤ 4194304 := by omega
      have hi5 : (0 : Int) ≤ (c3 : Int) + (d : Int) := by omega
      have hwr : IntKind.i64.wrap ((c3 : Int) + (d : Int)) = (c3 : Int) + (d : Int) := IntWalk.i64_in _ (by omega)
      clear hc H1
      go_wp2_with fail
      go_region_held3 (fun w' => w'.cell? ⟨g, k * 3, none⟩ = some (.int .i64 (c1 : Nat)) ∧ w'.cell? ⟨g, k * 3 + 1, none⟩ = some (.string ⟨c2.toArray⟩) ∧ w'.cell? ⟨g, k * 3 + 2, none⟩ = some (.int .i64 (c3 : Nat)))
        (first
          | go_keep
          | (go_split_ands
             refine ⟨?_, ?_, ?_⟩
             · (rw [hgrow.cell_far _ (by simp; omega) (Ne.symm hne)]; assumption)
             · (rw [hgrow.cell_far _ (by simp; omega) (Ne.symm hne)]; assumption)
             · (rw [hgrow.cell_far _ (by simp; omega) (Ne.symm hne)]; assumption)))
        ((refine step_append_lies _ (by rfl) _ _ _ (by rfl) w.heap.size 46 i0 _ 3 32 Try.underlying25 hi hz0 hz1 hz2 rfl (by omega) (.slice (some ⟨g2, 0, none⟩) k cap2) k (tkCells (shiftT d (l.take k))) (by rfl) ((hown.alloc _).drew)
            ⟨wr.heap.size, 0, none⟩ 1 1 [.int .i64 c1, .string ⟨c2.toArray⟩, .int .i64 (c3 + d)] (by rfl) (by rfl) (World.news_of_block (cs := #[.int .i64 c1, .string ⟨c2.toArray⟩, .int .i64 (c3 + d)]) (t := 46) (fr := (0, 0)) (heap_alloc_new wr _)) (by simp [Value.oneCell'])
            (by omega) (by unfold maxLen; omega) (by omega) (by simp; omega) (wr.heap.size + 1) (by simp) ?_; intro gg cap w2 hown2 hgrow hat hlt2))
      clear hwr
      have HO2 := Lib.hid hown2
      have HB2 : Hid (Below w.heap.size w w2) := Below.grown ((hb.alloc hzz _).drew) hgrow (by simp; omega) (fun k hk => by simp [Value.ownBlock] at hk; omega)
      clear hown2 hgrow hat hown
      go_wp2_with fail
      refine ⟨⟨k + 1, gg, cap, by omega, by go_num, rfl, HB2.out, ?_⟩, by simp [intOf]; omega⟩
      rw [HTS.out, tkCells_append]
      have e : tkCells [(c1, c2, c3 + d)] = [.int .i64 c1, .string ⟨c2.toArray⟩, .int .i64 (c3 + d)] := by simp [tkCells]
      rw [e]
      exact HO2.out
    · go_wp2
      go_ret
      obtain rfl : k = l.length := by omega
      rw [List.take_length] at hown
      exact ⟨_, _, rfl, hown, hb⟩
end Go.Proofs.Ytebidhdoiojaeaa
