/- Joined texts of this claim's proof: CxI, CxT, KpF, KpG. -/
import Derived.Test.YtgfmiladfeoldaaGreatDoorPk14
import Derived.Test.YtgfmiladfeoldaaGreatDoorPk18
import Derived.Test.YtgfmiladfeoldaaGreatDoorPk11
import Derived.Test.YtgfmiladfeoldaaGreatDoorPk19
set_option linter.unusedSimpArgs false
set_option linter.unusedVariables false
namespace Go.Proofs.YtgfmiladfeoldaaGreatDoor
open Go.RowKit NatP LexP
def NF2 (B : Nat) (w : World) (v : Value) (n : Nat) : Prop := NRd w v n ∧ ∀ q, v.ownBlock = some q → B ≤ q ∧ q < w.heap.size
theorem NF2.wr {B R : Nat} {og : Option Nat} {w w' : World} {v : Value} {n : Nat} (h : NF2 B w v n) (hw : Wr R og w w') (hR : R < B) (ho : ∀ q, og = some q → q < B) : NF2 B w' v n := by
 obtain ⟨⟨xs, h1, h2, h3⟩, h4⟩ := h
 exact ⟨⟨xs, h1.wr hw (fun q hq => ⟨by have := h4 q hq; omega, fun e => by have := h4 q hq; have := ho q e; omega⟩), h2, h3⟩, fun q hq => ⟨(h4 q hq).1, Nat.lt_of_lt_of_le (h4 q hq).2 hw.size⟩⟩
theorem NF2.mono {B B' : Nat} {w : World} {v : Value} {n : Nat} (h : NF2 B w v n) (hb : B' ≤ B) : NF2 B' w v n := ⟨h.1, fun q hq => ⟨Nat.le_trans hb (h.2 q hq).1, (h.2 q hq).2⟩⟩
theorem NF2.grown {B : Nat} {og : Option Nat} {w w' : World} {v : Value} {n : Nat} (h : NF2 B w v n) (hg : w.grownBy w' og) (hne : ∀ q, v.ownBlock = some q → og ≠ some q) : NF2 B w' v n := by
 obtain ⟨⟨xs, h1, h2, h3⟩, h4⟩ := h
 exact ⟨⟨xs, h1.kept hg (fun k hk e => hne k e hk), h2, h3⟩, fun q hq => ⟨(h4 q hq).1, Nat.lt_of_lt_of_le (h4 q hq).2 hg.size⟩⟩
def Sy (w : World) (B : Nat) (og : Option Nat) (sv : Value) (s : List Nat) : Prop := ∃ ms : List Value, w.ownsRow B 59 1 sv ms.length ms ∧ ms.length = s.length ∧ (∀ q, sv.ownBlock = some q → og ≠ some q) ∧ ∀ (i : Nat) (m : Value) (n : Nat), ms[i]? = some m → s[i]? = some n → NF2 B w m n ∧ ∀ q, m.ownBlock = some q → sv.ownBlock ≠ some q ∧ og ≠ some q
theorem Sy.wr {w w' : World} {B R : Nat} {og : Option Nat} {sv : Value} {s : List Nat} (h : Sy w B og sv s) (hw : Wr R none w w') (hR : R < B) : Sy w' B og sv s := by
 obtain ⟨ms, h1, h2, h3, h4⟩ := h
 exact ⟨ms, ownsRow_wr h1 hw hR, h2, h3, fun i m n hm hn => ⟨(h4 i m n hm hn).1.wr hw hR (fun q hq => by cases hq), (h4 i m n hm hn).2⟩⟩
theorem Sy.mono {w : World} {B B' : Nat} {og : Option Nat} {sv : Value} {s : List Nat} (h : Sy w B og sv s) (hb : B' ≤ B) : Sy w B' og sv s := by
 obtain ⟨ms, h1, h2, h3, h4⟩ := h
 exact ⟨ms, ownsRow_mono h1 hb, h2, h3, fun i m n hm hn => ⟨(h4 i m n hm hn).1.mono hb, (h4 i m n hm hn).2⟩⟩
theorem Sy.turn {w w' : World} {B g : Nat} {og og' : Option Nat} {sv : Value} {s : List Nat} (h : Sy w B og sv s) (hg : w.grownBy w' og) (hat : og' = some g) (hat2 : og = some g ∨ g = w.heap.size) : Sy w' B og' sv s := by
 obtain ⟨ms, h1, h2, h3, h4⟩ := h
 have hnew : ∀ q, q < w.heap.size → og ≠ some q → og' ≠ some q := by
  intro q hq hne e
  rw [hat] at e
  cases e
  rcases hat2 with h | h
  ·exact hne h
  ·omega
 refine ⟨ms, h1.kept hg ?_, h2, fun q hq => hnew q (h1.lt q hq).2 (h3 q hq), fun i m n hm hn => ?_⟩
 ·cases hv : sv.ownBlock with
  | none => exact .inl rfl
  | some q => exact .inr (fun e => h3 q hv e.symm)
 ·obtain ⟨q1, q2⟩ := h4 i m n hm hn
  exact ⟨q1.grown hg (fun q hq => (q2 q hq).2), fun q hq => ⟨(q2 q hq).1, hnew q (q1.2 q hq).2 (q2 q hq).2⟩⟩
theorem Sy.push {w w' : World} {B g cap N : Nat} {og : Option Nat} {sv : Value} {ms : List Value} {s : List Nat}
  (h1 : w.ownsRow B 59 1 sv ms.length ms) (h2 : ms.length = s.length) (h3 : ∀ q, sv.ownBlock = some q → og ≠ some q) (h4 : ∀ (i : Nat) (m : Value) (n : Nat), ms[i]? = some m → s[i]? = some n → NF2 B w m n ∧ ∀ q, m.ownBlock = some q → sv.ownBlock ≠ some q ∧ og ≠ some q)
  {m : Value} {k : Nat} (hm : NF2 B w m k) (hd : ∀ q, m.ownBlock = some q → sv.ownBlock ≠ some q ∧ og ≠ some q) (hog : ∀ q, og = some q → q < w.heap.size)
  (hown : w'.ownsRow B 59 1 (.slice (some ⟨g, 0, none⟩) N cap) N (ms ++ [m])) (hN : N = ms.length + 1) (hg : w.grownBy w' sv.ownBlock) (hat : sv.ownBlock = some g ∨ g = w.heap.size) :
  Sy w' B og (.slice (some ⟨g, 0, none⟩) N cap) (s ++ [k]) := by
 subst hN
 have hnew : ∀ q, q < w.heap.size → sv.ownBlock ≠ some q → (Value.ownBlock (.slice (some ⟨g, 0, none⟩) (ms.length + 1) cap)) ≠ some q := by
  intro q hq hne e
  cases e
  rcases hat with h | h
  ·exact hne h
  ·change g < _ at hq; omega
 have hl : (ms ++ [m]).length = ms.length + 1 := by simp
 refine ⟨ms ++ [m], by rw [hl]; exact hown, by rw [hl, h2]; simp, ?_, ?_⟩
 ·intro q hq e
  cases hq
  rcases hat with h | h
  ·exact h3 _ h e
  ·have := hog _ e; change g < _ at this; omega
 ·intro i x n hx hn
  by_cases hlt : i < ms.length
  ·rw [List.getElem?_append_left hlt] at hx
   rw [List.getElem?_append_left (by rw [← h2]; exact hlt)] at hn
   obtain ⟨q1, q2⟩ := h4 i x n hx hn
   exact ⟨q1.grown hg (fun q hq => (q2 q hq).1), fun q hq => ⟨hnew q (q1.2 q hq).2 (q2 q hq).1, (q2 q hq).2⟩⟩
  ·have hi : i = ms.length := by
    have := (List.getElem?_eq_some_iff.1 hx).1
    rw [hl] at this; omega
   subst hi
   rw [List.getElem?_append_right (Nat.le_refl _)] at hx
   rw [h2, List.getElem?_append_right (Nat.le_refl _)] at hn
   simp at hx hn
   subst hx; subst hn
   exact ⟨hm.grown hg (fun q hq => (hd q hq).1), fun q hq => ⟨hnew q (hm.2 q hq).2 (hd q hq).1, (hd q hq).2⟩⟩
structure Cy (w : World) (B : Nat) (lv : Value) (svs : List Value) (acc : List (List Nat)) : Prop where
 own : w.ownsRow B 36 1 lv svs.length svs
 len : svs.length = acc.length
 el : ∀ (j : Nat) (sv : Value) (s : List Nat), svs[j]? = some sv → acc[j]? = some s → Sy w B lv.ownBlock sv s
theorem Cy.wr {w w' : World} {B R : Nat} {lv : Value} {svs : List Value} {acc : List (List Nat)} (h : Cy w B lv svs acc) (hw : Wr R none w w') (hR : R < B) : Cy w' B lv svs acc :=
 ⟨ownsRow_wr h.own hw hR, h.len, fun j sv s h1 h2 => (h.el j sv s h1 h2).wr hw hR⟩
theorem Cy.push {w w' : World} {B g cap N : Nat} {lv : Value} {svs : List Value} {acc : List (List Nat)} (h : Cy w B lv svs acc) {sv : Value} {s : List Nat} (hs : Sy w B lv.ownBlock sv s)
  (hown : w'.ownsRow B 36 1 (.slice (some ⟨g, 0, none⟩) N cap) N (svs ++ [sv])) (hN : N = svs.length + 1) (hg : w.grownBy w' lv.ownBlock) (hat : lv.ownBlock = some g ∨ g = w.heap.size) :
  Cy w' B (.slice (some ⟨g, 0, none⟩) N cap) (svs ++ [sv]) (acc ++ [s]) := by
 subst hN
 have hl : (svs ++ [sv]).length = svs.length + 1 := by simp
 refine ⟨by rw [hl]; exact hown, by rw [hl, h.len]; simp, ?_⟩
 intro j x t hx ht
 by_cases hlt : j < svs.length
 ·rw [List.getElem?_append_left hlt] at hx
  rw [List.getElem?_append_left (by rw [← h.len]; exact hlt)] at ht
  exact (h.el j x t hx ht).turn hg rfl hat
 ·have hi : j = svs.length := by
   have := (List.getElem?_eq_some_iff.1 hx).1
   rw [hl] at this; omega
  subst hi
  rw [List.getElem?_append_right (Nat.le_refl _)] at hx
  rw [h.len, List.getElem?_append_right (Nat.le_refl _)] at ht
  simp at hx ht
  subst hx; subst ht
  exact hs.turn hg rfl hat
theorem Cy.crd {w : World} {B : Nat} {lv : Value} {svs : List Value} {acc : List (List Nat)} (h : Cy w B lv svs acc) : CRd w lv acc := by
 refine Sl.of_own h.own h.len fun j sv hj => ?_
 have hja : j < acc.length := by rw [← h.len]; exact (List.getElem?_eq_some_iff.1 hj).1
 refine ⟨acc[j], List.getElem?_eq_getElem hja, ?_⟩
 obtain ⟨ms, h1, h2, -, h4⟩ := h.el j sv acc[j] hj (List.getElem?_eq_getElem hja)
 refine Sl.of_own h1 h2 fun i m hi => ?_
 have hia : i < acc[j].length := by rw [← h2]; exact (List.getElem?_eq_some_iff.1 hi).1
 exact ⟨acc[j][i], List.getElem?_eq_getElem hia, (h4 i m _ hi (List.getElem?_eq_getElem hia)).1.1⟩
end Go.Proofs.YtgfmiladfeoldaaGreatDoor
namespace Go.Proofs.YtgfmiladfeoldaaGreatDoor
open Go.RowKit NatP LexP
def FRd (w : World) (v : Value) (fs : List (List Int)) : Prop := Sl w v fs.length fun j u => ∃ ks, fs[j]? = some ks ∧ KA w u ks
theorem FRd.below {w w' : World} {v : Value} {fs : List (List Int)} (h : FRd w v fs) (hb : Below w.heap.size w w') : FRd w' v fs :=
 Sl.mono h hb fun _ _ ⟨n, a, b⟩ => ⟨n, a, b.below hb⟩
def natOf (ks : List Int) : List Nat := ks.map Int.toNat
def goodF (ks : List Int) : Prop := ks ≠ [] ∧ ∀ k ∈ ks, 0 ≤ k
instance (ks : List Int) : Decidable (goodF ks) := by unfold goodF; infer_instance
def cxOk (fs : List (List Int)) : Prop := ∀ ks ∈ fs, goodF ks
instance (fs : List (List Int)) : Decidable (cxOk fs) := by unfold cxOk; infer_instance
def CtPost (fs : List (List Int)) (w : World) (e : Ending) (w' : World) : Prop :=
 (if cxOk fs then e = .returned (.tuple #[.string ⟨(SynP.cpxT (fs.map natOf)).toArray⟩, .int .i64 0]) else e = .returned (.tuple #[.string ⟨#[]⟩, .int .i64 3])) ∧ Below w.heap.size w w'
theorem simT_len {s : List Nat} (hs : s.length ≤ 1048576) (hb : ∀ n ∈ s, n < BB) : (simT s).length ≤ 34603008 := by
 have h := joinB_len [32] 32 (s.map SynP.decT) (fun b hb' => by
  obtain ⟨n, hn, rfl⟩ := List.mem_map.1 hb'
  show (decTx n).length ≤ 32
  unfold decTx
  split
  ·simp
  ·have h1 : n < BB ^ 1 := by rw [Nat.pow_one]; exact hb n hn
   have := dg_len_BB h1
   rw [List.length_map]; omega)
 rw [List.length_map] at h
 have h2 : s.length * (32 + [32].length) ≤ 1048576 * 33 := Nat.mul_le_mul hs (by simp)
 unfold simT; omega
theorem cpx_len {l : List (List Nat)} (hl : l.length ≤ 1048576) (hs : ∀ s ∈ l, s.length ≤ 1048576 ∧ ∀ n ∈ s, n < BB) : (SynP.joinB [44, 32] (l.map simT)).length ≤ 70368744177664 := by
 have h := joinB_len [44, 32] 34603008 (l.map simT) (fun b hb' => by
  obtain ⟨s, hm, rfl⟩ := List.mem_map.1 hb'
  exact simT_len (hs s hm).1 (hs s hm).2)
 rw [List.length_map] at h
 have h2 : l.length * (34603008 + [44, 32].length) ≤ 1048576 * 34603010 := Nat.mul_le_mul hl (by simp)
 omega
theorem natOf_mem {ks : List Int} {n : Nat} (h : n ∈ natOf ks) : ∃ k ∈ ks, n = k.toNat := by
 obtain ⟨k, hk, rfl⟩ := List.mem_map.1 h; exact ⟨k, hk, rfl⟩
def CxOu (n : Nat) (fs : List (List Int)) (w : World) (lv iv : Value) (wr : World) : Prop := ∃ (i : Nat) (svs : List Value), iv = .int .i64 (i : Nat) ∧ i ≤ n ∧ Cy wr w.heap.size lv svs ((fs.map natOf).take i) ∧ Below w.heap.size w wr ∧ cxOk (fs.take i)
def CxIn (m : Nat) (ks : List Int) (og : Option Nat) (wo : World) (sv jv : Value) (wr : World) : Prop := ∃ j : Nat, jv = .int .i64 (j : Nat) ∧ j ≤ m ∧ Sy wr wo.heap.size og sv (natOf (ks.take j)) ∧ Below wo.heap.size wo wr ∧ ∀ k ∈ ks.take j, 0 ≤ k
set_option maxRecDepth 100000 in
set_option maxHeartbeats 2000000 in
theorem cpxtext_any (fs : List (List Int)) (v : Value) (w : World) (hs : SG w) (hv : FRd w v fs) (hn : fs.length ≤ 1048576) (hm : ∀ ks ∈ fs, ks.length ≤ 1048576 ∧ ∀ k ∈ ks, k ≤ 9223372036854775807) :
  Calls Tryz.prog 32 #[v] w (CtPost fs w) := by
 have HSG := Lib.hid hs
 have hsz : 4 < w.heap.size := World.block_lt_of_cell? w _ (hs 0 (by omega))
 obtain ⟨ao, cap, rfl, h1, h2, h3⟩ := hv
 obtain ⟨n, hnn⟩ : ∃ n, n = fs.length := ⟨_, rfl⟩
 rw [← hnn] at h1 hn h3 ⊢
 have HNN := Lib.hid hnn
 have H3 := Lib.hid h3
 have HM := Lib.hid hm
 have HSZ := Lib.hid hsz
 clear hs hnn h3 hm hsz
 obtain ⟨i0, hi, hz0, hz1, hz2⟩ := info_parts Tryz.infoWs
 obtain ⟨j0, hj, hk0, hk1, hk2⟩ := info_parts Tryz.infoWss
 go_enter Tryz.func32, Tryz.ntmps32
 go_wp2_with fail
 go_loopw [4, 12] (fun lv iv wr => CxOu n fs w lv iv wr) (fun _ iv _ => (n - intOf iv).toNat)
 case atStart => exact ⟨0, [], rfl, Nat.zero_le _, ⟨World.ownsRow_nil _ _ _ _, rfl, fun j sv s h => by simp at h⟩, Below.refl _ _, fun p hp => by simp at hp⟩
 case round =>
  obtain ⟨i, svs, rfl, hin, hcx, hbl, hok⟩ := hrel
  have HCX := Lib.hid hcx
  have HBL := Lib.hid hbl
  have HOK := Lib.hid hok
  have hz1' := hbl.size
  clear hcx hbl hok
  obtain ⟨wo, rfl⟩ : ∃ wo, wo = wr := ⟨_, rfl⟩
  by_cases hlt : i < n
  ·obtain ⟨g, o, rfl, hg, hcell⟩ := H3.out (by omega)
   obtain ⟨u, c0, ks, hsi, hka⟩ := hcell i hlt
   have d0 : wo.cell? ⟨g, o + i, none⟩ = some u := (HBL.out.cell (p := ⟨g, o + i, none⟩) hg).trans c0
   have HSI := Lib.hid hsi
   have hka2 := hka.below HBL.out
   obtain ⟨so, scap, rfl, s1, s2, s3⟩ := hka2
   obtain ⟨hsl, hsb⟩ := HM.out ks (List.mem_of_getElem? hsi)
   have HSB := Lib.hid hsb
   have HS3 := Lib.hid s3
   obtain ⟨m, hmm⟩ : ∃ m, m = ks.length := ⟨_, rfl⟩
   rw [← hmm] at s1 hsl d0
   have HMM := Lib.hid hmm
   clear c0 hsi hcell s3 hmm hka hsb
   go_wp2_with fail
   go_loopw [7, 18] (fun sv jv wx => CxIn m ks u4.ownBlock wo sv jv wx) (fun _ jv _ => (m - intOf jv).toNat)
   case atStart => exact ⟨0, rfl, Nat.zero_le _, ⟨[], World.ownsRow_nil _ _ _ _, rfl, (fun q hq => by cases hq), fun i m n h => by simp at h⟩, Below.refl _ _, fun p hp => by simp at hp⟩
   case round =>
    obtain ⟨j, rfl, hjm, hsx, hbl2, hok2⟩ := hrel
    have HSX := Lib.hid hsx
    have HBL2 := Lib.hid hbl2
    have HOK2 := Lib.hid hok2
    have hz2' := hbl2.size
    clear hsx hbl2 hok2
    by_cases hjt : j < m
    ·obtain ⟨k, hk⟩ : ∃ k, ks[j]? = some k := ⟨_, List.getElem?_eq_getElem (by rw [← HMM.out]; exact hjt)⟩
     obtain ⟨g2, o2, rfl, hg2, e0⟩ := HS3.out j k hk
     have f0 : wr.cell? ⟨g2, o2 + j, none⟩ = some (.int .i64 k) := (HBL2.out.cell (p := ⟨g2, o2 + j, none⟩) hg2).trans e0
     have HK := Lib.hid hk
     clear e0 hk
     by_cases hneg : k < 0
     ·have HBAD : Hid (¬ cxOk fs) := fun h => by
       have := (h ks (List.mem_of_getElem? HSI.out)).2 k (List.mem_of_getElem? HK.out)
       omega
      go_wp2_with fail
      go_ret2
      refine ⟨?_, HBL.out.trans (HBL2.out.mono hz1')⟩
      rw [if_neg HBAD.out]; rfl
     ·obtain ⟨kn, hkn⟩ : ∃ kn : Nat, k = (kn : Int) := ⟨k.toNat, by omega⟩
      subst hkn
      have hkb := HSB.out _ (List.mem_of_getElem? HK.out)
      have W0 : IntKind.u64.wrap (kn : Int) = (kn : Int) := by rw [IntKind.wrap_u64]; omega
      have hblk : Blk (wr.alloc (.cells #[.int .u64 (kn : Nat)] 101)) wr.heap.size [kn] := by
       refine ⟨heap_alloc_new wr _, ?_⟩
       intro z hz; simp at hz; subst hz; unfold BB; omega
      have HA := Lib.hid (below_alloc wr (.cells #[.int .u64 (kn : Nat)] 101))
      have HA2 := Lib.hid (below_alloc (wr.alloc (.cells #[.int .u64 (kn : Nat)] 101)) (.cells #[.slice (some ⟨wr.heap.size, 0, none⟩) 1 1] 59))
      obtain ⟨ms, m1, m2, m3, m4⟩ := (HSX.out.wr (R := 4) (Wr.of_below HA.out) (by have := HSZ.out; omega)).wr (R := 4) (Wr.of_below HA2.out) (by have := HSZ.out; omega)
      have hm8 : NF2 wo.heap.size ((wr.alloc (.cells #[.int .u64 (kn : Nat)] 101)).alloc (.cells #[.slice (some ⟨wr.heap.size, 0, none⟩) 1 1] 59)) (.slice (some ⟨wr.heap.size, 0, none⟩) 1 1) kn :=
       ⟨⟨[kn], (hblk.whole (by simp)).below HA2.out, by simp [NatP.val], by simp⟩, fun q hq => by cases hq; exact ⟨hz2', by simp; omega⟩⟩
      have hd8 : ∀ q, (Value.ownBlock (.slice (some ⟨wr.heap.size, 0, none⟩) 1 1)) = some q → u7.ownBlock ≠ some q ∧ u4.ownBlock ≠ some q := by
       intro q hq
       cases hq
       refine ⟨fun e => ?_, fun e => ?_⟩
       ·obtain ⟨ms', g1, -⟩ := HSX.out
        have := (g1.lt _ e).2
        change wr.heap.size < wr.heap.size at this; omega
       ·have := (HCX.out.own.lt _ e).2
        change wr.heap.size < wo.heap.size at this; omega
      obtain ⟨nx, hnx⟩ : ∃ nx, nx = ms.length := ⟨_, rfl⟩
      have HNX := Lib.hid hnx
      have hnxl : nx ≤ 1048576 := by rw [hnx, m2]; unfold natOf; rw [List.length_map, List.length_take]; omega
      have hOW : ((wr.alloc (.cells #[.int .u64 (kn : Nat)] 101)).alloc (.cells #[.slice (some ⟨wr.heap.size, 0, none⟩) 1 1] 59)).ownsRow wo.heap.size 59 1 u7 nx ms := by rw [hnx]; exact m1
      have HOW := Lib.hid hOW
      have M1 := Lib.hid m1
      have M2 := Lib.hid m2
      have M3 := Lib.hid m3
      have M4 := Lib.hid m4
      have HM8 := Lib.hid hm8
      have HD8 := Lib.hid hd8
      have HBA := Lib.hid (HBL2.out.trans ((HA.out.trans (HA2.out.mono HA.out.size)).mono hz2'))
      clear m1 m2 m3 m4 hm8 hd8 hnx hOW hblk
      go_wp2_with (at_builtin; refine wpList_append_lies _ rfl _ _ 36 rfl wo.heap.size 59 i0 (.slice none 0 0) 1 24 Tryz.underlying36 hi hz0 hz1 hz2 rfl (by omega) u7 nx ms rfl HOW.out ⟨wr.heap.size + 1, 0, none⟩ 1 1 [.slice (some ⟨wr.heap.size, 0, none⟩) 1 1] rfl rfl (LexP.cells_new _ _ _ _ (by simp)) (by simp [Value.oneCell']) (by omega) (by unfold maxLen; omega) (by omega) (by simp; omega) (wr.heap.size + 1 + 1) (by simp) ?_)
      intro gg cap9 w9 hown9 hgrow hat hlt9
      have q1 := Sy.push (og := u4.ownBlock) M1.out M2.out M3.out M4.out HM8.out HD8.out (fun q hq => by have := (HCX.out.own.lt q hq).2; simp; omega) hown9 (by rw [HNX.out]) hgrow (by simpa using hat)
      have htk : natOf (ks.take (j + 1)) = natOf (ks.take j) ++ [kn] := by
       rw [List.take_add_one, HK.out]; simp [natOf]
      rw [← htk] at q1
      have hb9 : Below wo.heap.size wo w9 := Below.grown HBA.out hgrow HBA.out.size (fun q hq => (M1.out.lt q hq).1)
      have hok9 : ∀ k ∈ ks.take (j + 1), 0 ≤ k := by
       intro k hk
       rw [List.take_add_one, HK.out] at hk
       rcases List.mem_append.1 hk with hk | hk
       ·exact HOK2.out k hk
       ·simp at hk; omega
      have HQ1 := Lib.hid q1
      have HQ2 := Lib.hid hb9
      have HQ3 := Lib.hid hok9
      clear hown9 hgrow hat hlt9 q1 htk hb9 hok9
      go_wp2_with fail
      have hfin : Sy w9 wo.heap.size u4.ownBlock (.slice (some ⟨gg, 0, none⟩) (nx + 1) cap9) (natOf (ks.take (j + 1))) ∧ Below wo.heap.size wo w9 ∧ ∀ k ∈ ks.take (j + 1), 0 ≤ k := ⟨HQ1.out, HQ2.out, HQ3.out⟩
      first | exact ⟨⟨j + 1, by go_num, by omega, hfin⟩, by simp [intOf] <;> omega⟩ | exact ⟨by (repeat apply Exists.intro); exact ⟨⟨j + 1, by go_num, by omega, hfin⟩, rfl⟩, by simp [intOf] <;> omega⟩
    ·have hje : j = m := by omega
     have htk : ks.take j = ks := List.take_of_length_le (by rw [hje]; exact Nat.le_of_eq HMM.out.symm)
     rw [htk] at HSX HOK2
     obtain ⟨sn, ssc, sl, hsl', hshape⟩ : ∃ sn ssc sl, sl = m ∧ u7 = .slice sn sl ssc := by
      obtain ⟨ms, g1, g2, -⟩ := HSX.out
      obtain ⟨so', sc', e, -⟩ := ownsRow_shape g1
      exact ⟨so', sc', _, by rw [g2]; unfold natOf; rw [List.length_map, HMM.out], e⟩
     subst hshape
     rw [hsl'] at HSX ⊢
     clear htk hje hsl'
     by_cases hm0 : m = 0
     ·have HBAD : Hid (¬ cxOk fs) := fun h => by
       have := (h ks (List.mem_of_getElem? HSI.out)).1
       exact this (List.eq_nil_of_length_eq_zero (by rw [← HMM.out]; exact hm0))
      subst hm0
      go_wp2_with fail
      go_ret2
      refine ⟨?_, HBL.out.trans (HBL2.out.mono hz1')⟩
      rw [if_neg HBAD.out]; rfl
     ·have hm1 : ((m : Int) == 0) = false := by simp; omega
      have HCX2 := Lib.hid (HCX.out.wr (R := 4) (Wr.of_below HBL2.out) HSZ.out)
      have HA7 := Lib.hid (below_alloc wr (.cells #[.slice sn m ssc] 36))
      have HC8 := Lib.hid (HCX2.out.wr (R := 4) (Wr.of_below HA7.out) HSZ.out)
      have HX8 := Lib.hid ((HSX.out.wr (R := 4) (Wr.of_below HA7.out) (by have := HSZ.out; omega)).mono hz1')
      obtain ⟨nx, hnx⟩ : ∃ nx, nx = svs.length := ⟨_, rfl⟩
      have HNX := Lib.hid hnx
      have hnxl : nx ≤ 1048576 := by rw [hnx, HC8.out.len, List.length_take]; omega
      have hOW : (wr.alloc (.cells #[.slice sn m ssc] 36)).ownsRow w.heap.size 36 1 u4 nx svs := by rw [hnx]; exact HC8.out.own
      have HOW := Lib.hid hOW
      have HBA := Lib.hid ((HBL.out.trans (HBL2.out.mono hz1')).trans (HA7.out.mono (HBL.out.trans (HBL2.out.mono hz1')).size))
      clear hnx hOW hm0
      go_wp2_with (at_builtin; refine wpList_append_lies _ rfl _ _ 97 rfl w.heap.size 36 j0 (.slice none 0 0) 1 24 Tryz.underlying97 hj hk0 hk1 hk2 rfl (by omega) u4 nx svs rfl HOW.out ⟨wr.heap.size, 0, none⟩ 1 1 [.slice sn m ssc] rfl rfl (LexP.cells_new _ _ _ _ rfl) (by simp [Value.oneCell']) (by omega) (by unfold maxLen; omega) (by omega) (by simp; omega) (wr.heap.size + 1) (by simp) ?_)
      intro gg cap9 w9 hown9 hgrow hat hlt9
      have q1 := HC8.out.push HX8.out hown9 (by rw [HNX.out]) hgrow (by simpa using hat)
      have htk : (fs.map natOf).take (i + 1) = (fs.map natOf).take i ++ [natOf ks] := by
       rw [List.take_add_one, List.getElem?_map, HSI.out]; rfl
      rw [← htk] at q1
      have hb9 : Below w.heap.size w w9 := Below.grown HBA.out hgrow HBA.out.size (fun q hq => (HC8.out.own.lt q hq).1)
      have hok9 : cxOk (fs.take (i + 1)) := by
       intro k hk
       rw [List.take_add_one, HSI.out] at hk
       rcases List.mem_append.1 hk with hk | hk
       ·exact HOK.out k hk
       ·simp at hk; subst hk
        exact ⟨fun e => by rw [e] at HMM; have := HMM.out; simp at this hm1; exact hm1 this, HOK2.out⟩
      have HQ1 := Lib.hid q1
      have HQ2 := Lib.hid hb9
      have HQ3 := Lib.hid hok9
      clear hown9 hgrow hat hlt9 q1 htk hb9 hok9
      go_wp2_with fail
      have hfin : Cy w9 w.heap.size (.slice (some ⟨gg, 0, none⟩) (nx + 1) cap9) (svs ++ [.slice sn m ssc]) ((fs.map natOf).take (i + 1)) ∧ Below w.heap.size w w9 ∧ cxOk (fs.take (i + 1)) := ⟨HQ1.out, HQ2.out, HQ3.out⟩
      first | exact ⟨⟨i + 1, _, by go_num, by omega, hfin⟩, by simp [intOf] <;> omega⟩ | exact ⟨by (repeat apply Exists.intro); exact ⟨⟨i + 1, _, by go_num, by omega, hfin⟩, rfl⟩, by simp [intOf] <;> omega⟩
  ·have hie : i = n := by omega
   have htk : (fs.map natOf).take i = fs.map natOf := List.take_of_length_le (by rw [hie, List.length_map]; exact Nat.le_of_eq HNN.out.symm)
   have htk2 : fs.take i = fs := List.take_of_length_le (by rw [hie]; exact Nat.le_of_eq HNN.out.symm)
   rw [htk] at HCX
   rw [htk2] at HOK
   have HSG2 := Lib.hid (HSG.out.below HBL.out HSZ.out)
   have HCR := Lib.hid HCX.out.crd
   clear htk htk2 hie
   go_wp2_with fail
   refine (cpx_text (fs.map natOf) _ _ HSG2.out HCR.out (by rw [List.length_map, ← HNN.out]; omega) (fun s hs => ?_) (cpx_len (by rw [List.length_map, ← HNN.out]; exact hn) (fun s hs => ?_))).mono ?_
   ·obtain ⟨ks, hks, rfl⟩ := List.mem_map.1 hs
    have := (HM.out ks hks).1
    unfold natOf; rw [List.length_map]; omega
   ·obtain ⟨ks, hks, rfl⟩ := List.mem_map.1 hs
    have h1 := (HM.out ks hks).1
    refine ⟨by unfold natOf; rw [List.length_map]; exact h1, fun x hx => ?_⟩
    obtain ⟨k, hk, rfl⟩ := natOf_mem hx
    have := (HM.out ks hks).2 k hk
    unfold BB; omega
   ·rintro e w5 ⟨rfl, hb5⟩
    have HB5 := Lib.hid (HBL.out.trans (hb5.mono hz1'))
    clear hb5
    go_wp2_with fail
    go_ret2
    refine ⟨?_, HB5.out⟩
    rw [if_pos HOK.out]; rfl
end Go.Proofs.YtgfmiladfeoldaaGreatDoor
namespace Go.Proofs.YtgfmiladfeoldaaGreatDoor
open Go.RowKit NatP LexP
def KF (B : Nat) (w : World) (v : Value) (ks : List Int) : Prop := KA w v ks ∧ ∀ k, v.ownBlock = some k → B ≤ k ∧ k < w.heap.size
theorem KA.wr {R : Nat} {w w' : World} {v : Value} {ks : List Int} (h : KA w v ks) (hw : Wr R none w w') (hR : v.ownBlock ≠ some R) : KA w' v ks := by
 obtain ⟨ao, cap, rfl, h1, h2, h3⟩ := h
 refine ⟨ao, cap, rfl, h1, h2, fun j k hj => ?_⟩
 obtain ⟨g, o, rfl, hg, hc⟩ := h3 j k hj
 exact ⟨g, o, rfl, Nat.lt_of_lt_of_le hg hw.size, (World.cell?_of_block (hw.block g hg (fun e => hR (by rw [← e]; rfl)) (by simp))).trans hc⟩
theorem KF.of_row {w : World} {B n : Nat} {v : Value} {ks : List Int} (h : w.ownsRow B 3 1 v n (ks.map fun k => Value.int .i64 k)) (hn : n = ks.length) : KF B w v ks := by
 subst hn
 obtain ⟨ao, cap, rfl, h1, h2, h3⟩ := ownsRow_shape h
 refine ⟨⟨ao, cap, rfl, h1, h2, fun i x hx => ?_⟩, fun k hk => h.lt k hk⟩
 have hil := (List.getElem?_eq_some_iff.1 hx).1
 obtain ⟨g, rfl, -, a2, a3⟩ := h3 (by omega)
 refine ⟨g, 0, rfl, a2, ?_⟩
 rw [Nat.zero_add, a3 i (by omega)]
 simp [hx]
theorem wpList_copy_ints {w : World} {ops : Array Oper} {rest : List Oper} {o : Oper} {a : Act} {Q : Exit → Act → World → Prop} (hgd : o.guard = none) (s x : Operand)
  (ho : o.op = .call { callee := .builtin .append, args := #[s, x], argTypes := #[41, 41] }) (H : Nat) (hs : a.eval s = .slice (some ⟨H, 0, none⟩) 0 0) (hH : w.heap[H]? = some (.cells #[] 3 (0, 0)))
  (v : Value) (ks : List Int) (hx : a.eval x = v) (hr : KA w v ks) (hl : ks.length ≤ 1073741824)
  (h : ∀ w' uo ucap, Hid (KF H w' (.slice uo ks.length ucap) ks) → Hid (Below H w w') → wpList Tryz.prog ops Q rest (a.put o.dst (.slice uo ks.length ucap)) w') : wpList Tryz.prog ops Q (o :: rest) a w := by
 have hHl := (Array.getElem?_eq_some_iff.1 hH).1
 obtain ⟨ao, cap, rfl, hc1, hc2, hsh⟩ := hr
 by_cases h0 : ks = []
 ·subst h0
  refine wpList_plain hgd fun K hK => ?_
  unfold Oper.wp execOp
  simp only [ho, resolve, invoke, builtin, Sem.run_bind, Sem.run_pure, Result.andThen_ok, List.map_toArray, List.map_cons, List.map_nil, hs, hx, List.length_nil, app_none]
  exact hK _ _ (h w (some ⟨H, 0, none⟩) 0 ⟨⟨_, _, rfl, Nat.le_refl _, by unfold maxLen; omega, fun j k hj => by simp at hj⟩, fun k hk => by cases hk; exact ⟨Nat.le_refl _, hHl⟩⟩ (Below.refl _ _))
 ·have hl0 : 0 < ks.length := List.length_pos_iff.2 h0
  obtain ⟨x0, hx0⟩ : ∃ x0, ks[0]? = some x0 := ⟨_, List.getElem?_eq_getElem hl0⟩
  obtain ⟨g, o', rfl, -, -⟩ := hsh 0 x0 hx0
  obtain ⟨i0, hi, hz0, hz1, hz2⟩ := info_parts Tryz.infoInt
  refine wpList_append_lies w hgd s x 41 ho H 3 i0 (.int .i64 0) 1 8 Tryz.underlying41 hi hz0 hz1 hz2 rfl (by omega) (.slice (some ⟨H, 0, none⟩) 0 0) 0 [] hs
   ⟨rfl, .inr ⟨H, 0, #[], rfl, Nat.le_refl _, hH, Nat.le_refl _, by unfold maxLen; omega, rfl, rfl⟩⟩ ⟨g, o', none⟩ ks.length cap (ks.map fun k => Value.int .i64 k) hx (by simp) (fun j u hj => ?_) (fun u hu => ?_) hl0 (by unfold maxLen; omega) (by omega) (Nat.le_of_lt hHl) w.heap.size rfl ?_
  ·simp only [List.getElem?_map, Option.map_eq_some_iff] at hj
   obtain ⟨y, hy, rfl⟩ := hj
   obtain ⟨g', o'', e, -, hc⟩ := hsh j y hy
   cases e
   rw [add_ad]; exact hc
  ·simp only [List.mem_map] at hu
   obtain ⟨y, -, rfl⟩ := hu; rfl
  ·intro gg cap' w' hown hgrow hat hlt
   rw [Nat.zero_add, List.nil_append] at hown
   rw [Nat.zero_add]
   exact h w' _ _ (KF.of_row hown rfl) (Below.grown (Below.refl _ _) hgrow (Nat.le_of_lt hHl) (fun q hq => by cases hq; exact Nat.le_refl _))
def LBk (w : World) (q n : Nat) (fs : List (List Int)) (i : Nat) : Prop := ∃ cur : Array Value, w.heap[q]? = some (.cells cur 41 (0, 0)) ∧ cur.size = n ∧ ∀ j ks, j < i → fs[j]? = some ks → ∃ u, cur[j]? = some u ∧ KA w u ks ∧ u.ownBlock ≠ some q
theorem LBk.lt {w : World} {q n i : Nat} {fs : List (List Int)} (h : LBk w q n fs i) : q < w.heap.size := by
 obtain ⟨cur, h1, -⟩ := h; exact (Array.getElem?_eq_some_iff.1 h1).1
theorem LBk.below {w w' : World} {q n i : Nat} {fs : List (List Int)} (h : LBk w q n fs i) (hb : Below w.heap.size w w') : LBk w' q n fs i := by
 obtain ⟨cur, h1, h2, h3⟩ := h
 refine ⟨cur, (hb.block q (Array.getElem?_eq_some_iff.1 h1).1).trans h1, h2, fun j p hj hp => ?_⟩
 obtain ⟨u, a1, a2, a3⟩ := h3 j p hj hp
 exact ⟨u, a1, a2.below hb, a3⟩
theorem LBk.set {w : World} {q n i : Nat} {fs : List (List Int)} (h : LBk w q n fs i) (hi : i < n) {ks : List Int} (hx : fs[i]? = some ks) {u : Value} (hu : KA w u ks) (hq : u.ownBlock ≠ some q) :
  LBk (w.setCell ⟨q, i, none⟩ u) q n fs (i + 1) := by
 obtain ⟨cur, h1, h2, h3⟩ := h
 have s0 := heap_setCell_same w q i _ 41 u h1
 have hwr : Wr q none w (w.setCell ⟨q, i, none⟩ u) := Wr.of_set w _ _
 refine ⟨_, s0, by simp [h2], fun j p hj hp => ?_⟩
 by_cases hji : j = i
 ·subst hji
  rw [hx] at hp; cases hp
  exact ⟨u, by simp [Array.getElem?_setIfInBounds]; omega, hu.wr hwr hq, hq⟩
 ·obtain ⟨u', a1, a2, a3⟩ := h3 j p (by omega) hp
  exact ⟨u', by rw [← a1, Array.getElem?_setIfInBounds, if_neg (fun e => hji e.symm)], a2.wr hwr a3, a3⟩
theorem LBk.frd {w : World} {q n : Nat} {fs : List (List Int)} (h : LBk w q n fs fs.length) (m : Nat) (hm : fs.length ≤ m) (hmx : m ≤ maxLen) : FRd w (.slice (some ⟨q, 0, none⟩) fs.length m) fs := by
 have hl := h.lt
 obtain ⟨cur, h1, h2, h3⟩ := h
 refine ⟨_, _, rfl, hm, hmx, fun h0 => ⟨q, 0, rfl, hl, fun j hj => ?_⟩⟩
 obtain ⟨u, a1, a2, -⟩ := h3 j _ hj (List.getElem?_eq_getElem hj)
 exact ⟨u, by rw [Nat.zero_add, cell_of_row _ _ _ _ _ _ h1]; exact a1, _, List.getElem?_eq_getElem hj, a2⟩
theorem Tryz.infoLs : (Tryz.prog.info? 41).map (fun i => (i.zero, i.size, i.bytes)) = some (some (.slice none 0 0), 1, 24) := by kernel_rfl
set_option maxRecDepth 100000 in
set_option maxHeartbeats 2000000 in
theorem copylists_any (fs : List (List Int)) (v : Value) (w : World) (hv : FRd w v fs) (hn : fs.length ≤ 1073741824) (hl : ∀ ks ∈ fs, ks.length ≤ 1073741824) :
  Calls Tryz.prog 33 #[v] w fun e w' => ∃ u, e = .returned u ∧ FRd w' u fs ∧ Below w.heap.size w w' := by
 have HV := Lib.hid hv
 obtain ⟨ao, cap, rfl, h1, h2, h3⟩ := hv
 obtain ⟨n, hnn⟩ : ∃ n, n = fs.length := ⟨_, rfl⟩
 rw [← hnn] at h1 hn h3 ⊢
 have HNN := Lib.hid hnn
 have HL := Lib.hid hl
 have H3 := Lib.hid h3
 have HMK := run_make_row' (P := Tryz.prog) 38 41 (.slice none 0 0) 24 Tryz.underlying38 Tryz.infoLs rfl .i64 .i64 n (by omega) (by omega)
 clear hl hnn h2 h3
 go_enter Tryz.func33, Tryz.ntmps33
 go_wp2_with fail
 have hst : LBk (w.alloc (.cells (madeCells #[.slice none 0 0] n) 41)) w.heap.size n fs 0 := ⟨_, heap_alloc_new w _, by simp [madeCells], fun j p hj _ => absurd hj (Nat.not_lt_zero _)⟩
 have HST := Lib.hid hst
 have HB1 := Lib.hid (below_alloc w (.cells (madeCells #[.slice none 0 0] n) 41))
 clear hst
 obtain ⟨q, hq⟩ : ∃ q, q = w.heap.size := ⟨_, rfl⟩
 rw [← hq] at HST ⊢
 have HQ := Lib.hid hq
 clear hq
 go_loopw [4] (fun iv wr => ∃ i : Nat, iv = .int .i64 (i : Nat) ∧ i ≤ n ∧ LBk wr q n fs i ∧ Below w.heap.size w wr) (fun iv _ => n - (intOf iv).toNat)
 case atStart => exact ⟨0, rfl, Nat.zero_le _, HST.out, HB1.out⟩
 clear HST HB1
 case round =>
  obtain ⟨i, rfl, hin, hst, hbl⟩ := hrel
  have HST := Lib.hid hst
  have HBL := Lib.hid hbl
  have hzr := hbl.size
  have hql := hst.lt
  clear hbl
  by_cases hlt : i < n
  ·obtain ⟨ga, o, rfl, hga, hc⟩ := H3.out (by omega)
   obtain ⟨u, e0, ks, hk, hka⟩ := hc i hlt
   replace e0 := (HBL.out.cell (p := ⟨ga, o + i, none⟩) hga).trans e0
   replace hka := hka.below HBL.out
   have hkl := HL.out ks (List.mem_of_getElem? hk)
   have hka' := hka
   obtain ⟨so, scap, rfl, -, -, -⟩ := hka'
   have HK := Lib.hid hk
   have HKA := Lib.hid (hka.below (below_alloc wr (.cells #[] 3)))
   have hi0 : (0 : Int) ≤ (i : Int) := Int.natCast_nonneg _
   have hi1 : (i : Int) < (n : Int) := by omega
   have k0 := cell_keep (below_alloc wr (.cells #[] 3)) e0
   have HBA := Lib.hid (below_alloc wr (.cells #[] 3))
   have HNA := Lib.hid (heap_alloc_new wr (.cells #[] 3))
   obtain ⟨cur, hq1, hq2, -⟩ := hst
   have HQ1 := Lib.hid hq1
   have HQ2 := Lib.hid hq2
   clear hc hk hka hq1 hq2
   go_wp2_with (at_builtin; refine wpList_copy_ints rfl _ _ rfl wr.heap.size rfl HNA.out (.slice so ks.length scap) ks rfl HKA.out hkl ?_)
   intro w2 uo ucap k1 b2
   have hb2 : Below wr.heap.size wr w2 := HBA.out.trans b2.out
   have hq3 := (hb2.block q hql).trans HQ1.out
   have f0 : w2.frozen? ⟨q, i, none⟩ = false := frozen_of_row _ _ _ _ _ hq3
   obtain ⟨y, hy⟩ : ∃ y, w2.cell? ⟨q, i, none⟩ = some y := ⟨_, by rw [cell_of_row _ _ _ _ _ _ hq3, Array.getElem?_eq_getElem (by rw [HQ2.out]; exact hlt)]⟩
   have h9 : LBk (w2.setCell ⟨q, i, none⟩ (.slice uo ks.length ucap)) q n fs (i + 1) := (HST.out.below hb2).set hlt HK.out k1.out.1 (fun e => by have := (k1.out.2 q e).1; omega)
   have H9 := Lib.hid h9
   have HB9 : Hid (Below w.heap.size w (w2.setCell ⟨q, i, none⟩ (.slice uo ks.length ucap))) := (HBL.out.trans (hb2.mono hzr)).setCell (p := ⟨q, i, none⟩) (by rw [HQ.out]; exact Nat.le_refl _) _
   clear h9 hb2 hq3 e0 k0
   go_wp2_with fail
   have hfin : LBk (w2.setCell ⟨q, i, none⟩ (.slice uo ks.length ucap)) q n fs (i + 1) ∧ Below w.heap.size w (w2.setCell ⟨q, i, none⟩ (.slice uo ks.length ucap)) := ⟨H9.out, HB9.out⟩
   first | exact ⟨⟨i + 1, by go_num, by omega, hfin⟩, by simp [intOf] <;> omega⟩ | exact ⟨by (repeat apply Exists.intro); exact ⟨⟨i + 1, by go_num, by omega, hfin⟩, rfl⟩, by simp [intOf] <;> omega⟩
  ·have hie : i = n := by omega
   rw [hie, HNN.out] at HST
   have hfr := HST.out.frd n (by rw [HNN.out]; exact Nat.le_refl _) (by unfold maxLen; omega)
   rw [← HNN.out] at hfr
   have HFR := Lib.hid hfr
   clear hst hie hfr
   go_wp2_with fail
   go_ret
   exact ⟨_, rfl, HFR.out, HBL.out⟩
end Go.Proofs.YtgfmiladfeoldaaGreatDoor
namespace Go.Proofs.YtgfmiladfeoldaaGreatDoor
open Go.RowKit NatP LexP
set_option maxRecDepth 100000 in
set_option maxHeartbeats 4000000 in
theorem sameints_any (l : List (Bool × List Nat)) (v u : Value) (w : World) (hv : IWw w v l) (hu : IWw w u l) (hn : l.length ≤ 1073741824) :
  Calls Tryz.prog 22 #[v, u] w fun e w' => e = .returned (.bool true) ∧ Below w.heap.size w w' := by
 obtain ⟨ao, cap, rfl, -, -, h3⟩ := hv
 obtain ⟨bo, cap2, rfl, -, -, g3⟩ := hu
 obtain ⟨n, hnn⟩ : ∃ n, n = l.length := ⟨_, rfl⟩
 rw [← hnn] at hn ⊢
 have HNN := Lib.hid hnn
 have H3 := Lib.hid h3
 have G3 := Lib.hid g3
 clear h3 g3 hnn
 go_enter Tryz.func22, Tryz.ntmps22
 go_wp2_with fail
 go_loopw [5] (fun iv wr => ∃ i : Nat, iv = .int .i64 (i : Nat) ∧ i ≤ n ∧ Below w.heap.size w wr) (fun iv _ => n - (intOf iv).toNat)
 case atStart => exact ⟨0, rfl, Nat.zero_le _, Below.refl _ _⟩
 case round =>
  obtain ⟨i, rfl, hin, hbl⟩ := hrel
  have HBL := Lib.hid hbl
  have hzr := hbl.size
  by_cases hlt : i < n
  ·obtain ⟨e, he⟩ : ∃ e, l[i]? = some e := ⟨_, List.getElem?_eq_getElem (by rw [← HNN.out]; exact hlt)⟩
   obtain ⟨b, xs⟩ := e
   obtain ⟨ga, o, rfl, hga, hc⟩ := H3.out (by rw [← HNN.out]; omega)
   obtain ⟨gb, o2, rfl, hgb, hc2⟩ := G3.out (by rw [← HNN.out]; omega)
   obtain ⟨m, e0, e1, hrd⟩ := hc i _ he
   obtain ⟨m2, d0, d1, hrd2⟩ := hc2 i _ he
   replace e0 := (hbl.cell (p := ⟨ga, o + i * 2, none⟩) hga).trans e0
   replace e1 := (hbl.cell (p := ⟨ga, o + i * 2 + 1, none⟩) hga).trans e1
   replace d0 := (hbl.cell (p := ⟨gb, o2 + i * 2, none⟩) hgb).trans d0
   replace d1 := (hbl.cell (p := ⟨gb, o2 + i * 2 + 1, none⟩) hgb).trans d1
   replace hrd := (hrd.below hbl).below (Below.refl wr.heap.size wr).drew
   replace hrd2 := (hrd2.below hbl).below (Below.refl wr.heap.size wr).drew
   obtain ⟨mo, mcap, rfl, -, -, -, -⟩ := hrd.2
   obtain ⟨mo2, mcap2, rfl, -, -, -, -⟩ := hrd2.2
   simp only at e0 e1 d0 d1 hrd hrd2
   have HRD := Lib.hid hrd
   have HRD2 := Lib.hid hrd2
   have hi0 : (0 : Int) ≤ (i : Int) := Int.natCast_nonneg _
   have hi1 : (i : Int) < (n : Int) := by omega
   have hbb : (b != b) = false := by cases b <;> rfl
   clear he hc hc2 hrd hrd2 hbl
   go_wp2_with fail
   go_region_held3 (fun w' => w'.cell? ⟨ga, o + i * 2, none⟩ = some (.bool b) ∧ w'.cell? ⟨ga, o + i * 2 + 1, none⟩ = some (.slice mo xs.length mcap) ∧ w'.cell? ⟨gb, o2 + i * 2, none⟩ = some (.bool b) ∧ w'.cell? ⟨gb, o2 + i * 2 + 1, none⟩ = some (.slice mo2 xs.length mcap2))
    (first
     | go_keep
     | exact ⟨cell_keep b2 e0, cell_keep b2 e1, cell_keep b2 d0, cell_keep b2 d1⟩)
    ((go_at_call 36; refine (same_any1 _ _ xs _ HRD.out HRD2.out).mono ?_; rintro e w2 ⟨rfl, b2⟩))
   have HB2 := Lib.hid (HBL.out.drew.trans (b2.mono hzr))
   clear b2 e0 e1 d0 d1
   go_wp2_with fail
   have hfin : Below w.heap.size w w2 := HB2.out
   first | exact ⟨⟨i + 1, by go_num, by omega, hfin⟩, by simp [intOf] <;> omega⟩ | exact ⟨by (repeat apply Exists.intro); exact ⟨⟨i + 1, by go_num, by omega, hfin⟩, rfl⟩, by simp [intOf] <;> omega⟩
  ·clear hbl
   go_wp2_with fail
   go_ret
   exact ⟨rfl, HBL.out⟩
set_option maxRecDepth 100000 in
set_option maxHeartbeats 4000000 in
theorem samelists_any (fs : List (List Int)) (v u : Value) (w : World) (hv : FRd w v fs) (hu : FRd w u fs) (hn : fs.length ≤ 1073741824) (hl : ∀ ks ∈ fs, ks.length ≤ 1073741824) :
  Calls Tryz.prog 23 #[v, u] w fun e w' => e = .returned (.bool true) ∧ Below w.heap.size w w' := by
 obtain ⟨ao, cap, rfl, -, -, h3⟩ := hv
 obtain ⟨bo, cap2, rfl, -, -, g3⟩ := hu
 obtain ⟨n, hnn⟩ : ∃ n, n = fs.length := ⟨_, rfl⟩
 rw [← hnn] at hn h3 g3 ⊢
 have HNN := Lib.hid hnn
 have HL := Lib.hid hl
 have H3 := Lib.hid h3
 have G3 := Lib.hid g3
 clear h3 g3 hnn hl
 go_enter Tryz.func23, Tryz.ntmps23
 go_wp2_with fail
 go_loopw [5] (fun iv wr => ∃ i : Nat, iv = .int .i64 (i : Nat) ∧ i ≤ n ∧ Below w.heap.size w wr) (fun iv _ => n - (intOf iv).toNat)
 case atStart => exact ⟨0, rfl, Nat.zero_le _, Below.refl _ _⟩
 case round =>
  obtain ⟨i, rfl, hin, hbl⟩ := hrel
  obtain ⟨wo, rfl⟩ : ∃ wo, wo = wr := ⟨_, rfl⟩
  have HBL := Lib.hid hbl
  have hzr := hbl.size
  by_cases hlt : i < n
  ·obtain ⟨ga, o, rfl, hga, hc⟩ := H3.out (by omega)
   obtain ⟨gb, o2, rfl, hgb, hc2⟩ := G3.out (by omega)
   obtain ⟨m, e0, ks, hk, hka⟩ := hc i hlt
   obtain ⟨m2, d0, ks2, hk2, hka2⟩ := hc2 i hlt
   rw [hk] at hk2; cases hk2
   have hkl := HL.out ks (List.mem_of_getElem? hk)
   replace e0 := (hbl.cell (p := ⟨ga, o + i, none⟩) hga).trans e0
   replace d0 := (hbl.cell (p := ⟨gb, o2 + i, none⟩) hgb).trans d0
   replace hka := hka.below hbl
   replace hka2 := hka2.below hbl
   obtain ⟨mo, mcap, rfl, -, -, hs3⟩ := hka
   obtain ⟨mo2, mcap2, rfl, -, -, hs4⟩ := hka2
   obtain ⟨kl, hkk⟩ : ∃ kl, kl = ks.length := ⟨_, rfl⟩
   rw [← hkk] at e0 d0 hkl
   have HKK := Lib.hid hkk
   have HS3 := Lib.hid hs3
   have HS4 := Lib.hid hs4
   have E0 := Lib.hid e0
   have D0 := Lib.hid d0
   have hi0 : (0 : Int) ≤ (i : Int) := Int.natCast_nonneg _
   have hi1 : (i : Int) < (n : Int) := by omega
   clear hc hc2 hk hkk hs3 hs4 hbl
   go_wp2_with fail
   go_region
   go_wp2_with fail
   clear e0 d0
   go_loopw [6] (fun jv wx => ∃ j : Nat, jv = .int .i64 (j : Nat) ∧ j ≤ kl ∧ Below wo.heap.size wo wx) (fun jv _ => kl - (intOf jv).toNat)
   case atStart => exact ⟨0, rfl, Nat.zero_le _, (Below.refl _ _).drew⟩
   case round =>
    obtain ⟨j, rfl, hjn, hbl2⟩ := hrel
    have HBL2 := Lib.hid hbl2
    have e0 := cell_keep hbl2 E0.out
    have d0 := cell_keep hbl2 D0.out
    by_cases hjt : j < kl
    ·obtain ⟨k, hk⟩ : ∃ k, ks[j]? = some k := ⟨_, List.getElem?_eq_getElem (by rw [← HKK.out]; exact hjt)⟩
     obtain ⟨gk, ok, rfl, hgk, c0⟩ := HS3.out j k hk
     obtain ⟨gk2, ok2, rfl, hgk2, c1⟩ := HS4.out j k hk
     replace c0 := cell_keep hbl2 c0
     replace c1 := cell_keep hbl2 c1
     have hj0 : (0 : Int) ≤ (j : Int) := Int.natCast_nonneg _
     have hj1 : (j : Int) < (kl : Int) := by omega
     have hkk : (k != k) = false := by simp
     clear hk hbl2
     go_wp2_with fail
     go_region
     go_wp2_with fail
     have hfin : Below wo.heap.size wo wr.drew := HBL2.out.drew
     first | exact ⟨⟨j + 1, by go_num, by omega, hfin⟩, by simp [intOf] <;> omega⟩ | exact ⟨by (repeat apply Exists.intro); exact ⟨⟨j + 1, by go_num, by omega, hfin⟩, rfl⟩, by simp [intOf] <;> omega⟩
    ·clear hbl2
     go_wp2_with fail
     have hfin : Below w.heap.size w wr := HBL.out.trans (HBL2.out.mono hzr)
     first | exact ⟨⟨i + 1, by go_num, by omega, hfin⟩, by simp [intOf] <;> omega⟩ | exact ⟨by (repeat apply Exists.intro); exact ⟨⟨i + 1, by go_num, by omega, hfin⟩, rfl⟩, by simp [intOf] <;> omega⟩
  ·clear hbl
   go_wp2_with fail
   go_ret
   exact ⟨rfl, HBL.out⟩
end Go.Proofs.YtgfmiladfeoldaaGreatDoor
