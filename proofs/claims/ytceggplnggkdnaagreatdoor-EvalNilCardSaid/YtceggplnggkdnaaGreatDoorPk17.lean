/- Joined texts of this claim's proof: RdI, RdJ, RdK, RdL, RdN, RdO. -/
import Derived.Test.YtceggplnggkdnaaGreatDoorPk14
import Derived.Test.YtceggplnggkdnaaGreatDoorPk16
import Derived.Test.YtceggplnggkdnaaGreatDoorPk2
set_option linter.unusedSimpArgs false
set_option linter.unusedVariables false
namespace Go.Proofs.YtceggplnggkdnaaGreatDoor
open Go.RowKit NatP LexP
theorem Tryz.infoWss : (Tryz.prog.info? 247).map (fun i => (i.zero, i.size, i.bytes)) = some (some (.slice none 0 0), 1, 24) := by kernel_rfl
def Sx (w : World) (B : Nat) (og : Option Nat) (sv : Value) (s : List Nat) : Prop := ∃ ms : List Value, w.ownsRow B 111 1 sv ms.length ms ∧ ms.length = s.length ∧ (∀ q, sv.ownBlock = some q → og ≠ some q) ∧ ∀ (i : Nat) (m : Value) (n : Nat), ms[i]? = some m → s[i]? = some n → NFr B w m n ∧ ∀ q, m.ownBlock = some q → sv.ownBlock ≠ some q ∧ og ≠ some q
theorem Sx.wr {w w' : World} {B R : Nat} {og : Option Nat} {sv : Value} {s : List Nat} (h : Sx w B og sv s) (hw : Wr R none w w') (hR : R < B) : Sx w' B og sv s := by
 obtain ⟨ms, h1, h2, h3, h4⟩ := h
 exact ⟨ms, ownsRow_wr h1 hw hR, h2, h3, fun i m n hm hn => ⟨(h4 i m n hm hn).1.wr hw hR (fun q hq => by cases hq), (h4 i m n hm hn).2⟩⟩
theorem Sx.mono {w : World} {B B' : Nat} {og : Option Nat} {sv : Value} {s : List Nat} (h : Sx w B og sv s) (hb : B' ≤ B) : Sx w B' og sv s := by
 obtain ⟨ms, h1, h2, h3, h4⟩ := h
 exact ⟨ms, ownsRow_mono h1 hb, h2, h3, fun i m n hm hn => ⟨(h4 i m n hm hn).1.mono hb, (h4 i m n hm hn).2⟩⟩
theorem Sx.turn {w w' : World} {B g : Nat} {og og' : Option Nat} {sv : Value} {s : List Nat} (h : Sx w B og sv s) (hg : w.grownBy w' og) (hat : og' = some g) (hat2 : og = some g ∨ g = w.heap.size) : Sx w' B og' sv s := by
 obtain ⟨ms, h1, h2, h3, h4⟩ := h
 have hnew : ∀ q, q < w.heap.size → og ≠ some q → og' ≠ some q := by
  intro q hq hne e
  rw [hat] at e
  cases e
  rcases hat2 with h | h
  ·exact hne h
  ·omega
 refine ⟨ms, h1.kept hg ?_, h2, fun q hq => hnew q (h1.lt q hq).2 (h3 q hq), fun i m n hm hn => ?_⟩
 ·cases hv : sv.ownBlock with
  | none => exact .inl rfl
  | some q => exact .inr (fun e => h3 q hv e.symm)
 ·obtain ⟨q1, q2⟩ := h4 i m n hm hn
  exact ⟨q1.grown hg (fun q hq => (q2 q hq).2), fun q hq => ⟨(q2 q hq).1, hnew q (q1.2.1 q hq).2 (q2 q hq).2⟩⟩
theorem Sx.push {w w' : World} {B g cap N : Nat} {og : Option Nat} {sv : Value} {ms : List Value} {s : List Nat}
  (h1 : w.ownsRow B 111 1 sv ms.length ms) (h2 : ms.length = s.length) (h3 : ∀ q, sv.ownBlock = some q → og ≠ some q) (h4 : ∀ (i : Nat) (m : Value) (n : Nat), ms[i]? = some m → s[i]? = some n → NFr B w m n ∧ ∀ q, m.ownBlock = some q → sv.ownBlock ≠ some q ∧ og ≠ some q)
  {m : Value} {k : Nat} (hm : NFr B w m k) (hd : ∀ q, m.ownBlock = some q → sv.ownBlock ≠ some q ∧ og ≠ some q) (hog : ∀ q, og = some q → q < w.heap.size)
  (hown : w'.ownsRow B 111 1 (.slice (some ⟨g, 0, none⟩) N cap) N (ms ++ [m])) (hN : N = ms.length + 1) (hg : w.grownBy w' sv.ownBlock) (hat : sv.ownBlock = some g ∨ g = w.heap.size) :
  Sx w' B og (.slice (some ⟨g, 0, none⟩) N cap) (s ++ [k]) := by
 subst hN
 have hnew : ∀ q, q < w.heap.size → sv.ownBlock ≠ some q → (Value.ownBlock (.slice (some ⟨g, 0, none⟩) (ms.length + 1) cap)) ≠ some q := by
  intro q hq hne e
  cases e
  rcases hat with h | h
  ·exact hne h
  ·change g < _ at hq; omega
 have hl : (ms ++ [m]).length = ms.length + 1 := by simp
 refine ⟨ms ++ [m], by rw [hl]; exact hown, by rw [hl, h2]; simp, ?_, ?_⟩
 ·intro q hq e
  cases hq
  rcases hat with h | h
  ·exact h3 _ h e
  ·have := hog _ e; change g < _ at this; omega
 ·intro i x n hx hn
  by_cases hlt : i < ms.length
  ·rw [List.getElem?_append_left hlt] at hx
   rw [List.getElem?_append_left (by rw [← h2]; exact hlt)] at hn
   obtain ⟨q1, q2⟩ := h4 i x n hx hn
   exact ⟨q1.grown hg (fun q hq => (q2 q hq).1), fun q hq => ⟨hnew q (q1.2.1 q hq).2 (q2 q hq).1, (q2 q hq).2⟩⟩
  ·have hi : i = ms.length := by
    have := (List.getElem?_eq_some_iff.1 hx).1
    rw [hl] at this; omega
   subst hi
   rw [List.getElem?_append_right (Nat.le_refl _)] at hx
   rw [h2, List.getElem?_append_right (Nat.le_refl _)] at hn
   simp at hx hn
   subst hx; subst hn
   exact ⟨hm.grown hg (fun q hq => (hd q hq).1), fun q hq => ⟨hnew q (hm.2.1 q hq).2 (hd q hq).1, (hd q hq).2⟩⟩
structure Cx (w : World) (B : Nat) (lv : Value) (svs : List Value) (acc : List (List Nat)) : Prop where
 own : w.ownsRow B 247 1 lv svs.length svs
 len : svs.length = acc.length
 el : ∀ (j : Nat) (sv : Value) (s : List Nat), svs[j]? = some sv → acc[j]? = some s → Sx w B lv.ownBlock sv s
theorem Cx.wr {w w' : World} {B R : Nat} {lv : Value} {svs : List Value} {acc : List (List Nat)} (h : Cx w B lv svs acc) (hw : Wr R none w w') (hR : R < B) : Cx w' B lv svs acc :=
 ⟨ownsRow_wr h.own hw hR, h.len, fun j sv s h1 h2 => (h.el j sv s h1 h2).wr hw hR⟩
theorem Cx.push {w w' : World} {B g cap N : Nat} {lv : Value} {svs : List Value} {acc : List (List Nat)} (h : Cx w B lv svs acc) {sv : Value} {s : List Nat} (hs : Sx w B lv.ownBlock sv s)
  (hown : w'.ownsRow B 247 1 (.slice (some ⟨g, 0, none⟩) N cap) N (svs ++ [sv])) (hN : N = svs.length + 1) (hg : w.grownBy w' lv.ownBlock) (hat : lv.ownBlock = some g ∨ g = w.heap.size) :
  Cx w' B (.slice (some ⟨g, 0, none⟩) N cap) (svs ++ [sv]) (acc ++ [s]) := by
 subst hN
 have hl : (svs ++ [sv]).length = svs.length + 1 := by simp
 refine ⟨by rw [hl]; exact hown, by rw [hl, h.len]; simp, ?_⟩
 intro j x t hx ht
 by_cases hlt : j < svs.length
 ·rw [List.getElem?_append_left hlt] at hx
  rw [List.getElem?_append_left (by rw [← h.len]; exact hlt)] at ht
  exact (h.el j x t hx ht).turn hg rfl hat
 ·have hi : j = svs.length := by
   have := (List.getElem?_eq_some_iff.1 hx).1
   rw [hl] at this; omega
  subst hi
  rw [List.getElem?_append_right (Nat.le_refl _)] at hx
  rw [h.len, List.getElem?_append_right (Nat.le_refl _)] at ht
  simp at hx ht
  subst hx; subst ht
  exact hs.turn hg rfl hat
theorem Sl.of_own {w : World} {B n : Nat} {e : TypeId} {v : Value} {xs : List Value} {P : Nat → Value → Prop} (h : w.ownsRow B e 1 v xs.length xs) (hn : xs.length = n) (hp : ∀ j u, xs[j]? = some u → P j u) : Sl w v n P := by
 obtain ⟨ao, cap, e, h1, h2, h3⟩ := ownsRow_shape h
 subst hn
 refine ⟨ao, cap, e, h1, h2, fun h0 => ?_⟩
 obtain ⟨g, rfl, a1, a2, a3⟩ := h3 h0
 refine ⟨g, 0, rfl, a2, fun j hj => ⟨xs[j], ?_, hp j _ (List.getElem?_eq_getElem hj)⟩⟩
 rw [Nat.zero_add, a3 j (by omega), List.getElem?_eq_getElem hj]
theorem Cx.crd {w : World} {B : Nat} {lv : Value} {svs : List Value} {acc : List (List Nat)} (h : Cx w B lv svs acc) : CRd w lv acc := by
 refine Sl.of_own h.own h.len fun j sv hj => ?_
 have hja : j < acc.length := by rw [← h.len]; exact (List.getElem?_eq_some_iff.1 hj).1
 refine ⟨acc[j], List.getElem?_eq_getElem hja, ?_⟩
 obtain ⟨ms, h1, h2, -, h4⟩ := h.el j sv acc[j] hj (List.getElem?_eq_getElem hja)
 refine Sl.of_own h1 h2 fun i m hi => ?_
 have hia : i < acc[j].length := by rw [← h2]; exact (List.getElem?_eq_some_iff.1 hi).1
 exact ⟨acc[j][i], List.getElem?_eq_getElem hia, (h4 i m _ hi (List.getElem?_eq_getElem hia)).1.1⟩
end Go.Proofs.YtceggplnggkdnaaGreatDoor
namespace Go.Proofs.YtceggplnggkdnaaGreatDoor
open Go.RowKit NatP LexP
def CxO (R : Nat) (tv : Value) (L : List Tok) (fin : Nat) (nv : Value) (ns : List Nv) (w : World) (N : Nat) (r : SynP.PR (List (List Nat))) (lv : Value) (wr : World) : Prop :=
 ∃ f acc svs a' s', SynP.cpxLoop fin f acc s' = r ∧ RS wr R tv L fin a' s' nv ns ∧ Wr R none w wr ∧ Cx wr w.heap.size lv svs acc ∧ s'.ts.length ≤ N ∧ acc.length + s'.ts.length ≤ 67108864
def CxI (R : Nat) (tv : Value) (L : List Tok) (fin : Nat) (nv : Value) (ns : List Nv) (w : World) (N : Nat) (og : Option Nat) (r : SynP.PR (List Nat)) (sv : Value) (wr : World) : Prop :=
 ∃ f x a' s', SynP.simplex fin f x s' = r ∧ RS wr R tv L fin a' s' nv ns ∧ Wr R none w wr ∧ Sx wr w.heap.size og sv x ∧ s'.ts.length + 1 ≤ N ∧ x.length + s'.ts.length ≤ 67108864
set_option maxRecDepth 100000 in
set_option maxHeartbeats 8000000 in
theorem rd_complex (R : Nat) (tv : Value) (L : List Tok) (fin a : Nat) (s : SynP.St) (nv : Value) (ns : List Nv) (w : World) (h : RS w R tv L fin a s nv ns) (f : Nat) (hf : SynP.complex fin f s ≠ none) :
  Calls Tryz.prog 339 #[.pointer (some ⟨R, 0, none⟩)] w (RB (SynP.complex fin f s) R tv L fin s nv ns (fun l v w' => ∃ svs, Cx w' w.heap.size v svs l) w) := by
 have H := Lib.hid h
 have hRl := h.lt
 obtain ⟨r, hr⟩ : ∃ r, r = SynP.complex fin f s := ⟨_, rfl⟩
 rw [← hr] at hf ⊢
 have HR0 : Hid (r = (SynP.want fin [123] s).bind fun _ s => if SynP.isMark [125] s.ts then SynP.ret [] s.adv else SynP.cpxLoop fin f [] s) := by
  show _ = _
  rw [hr]; rfl
 have HNE := Lib.hid hf
 have hts : s.ts.length ≤ 67108864 := by have := h.short; rw [← h.drop, List.length_drop]; omega
 obtain ⟨i0, hi, hz0, hz1, hz2⟩ := info_parts Tryz.infoWs
 obtain ⟨j0, hj, hk0, hk1, hk2⟩ := info_parts Tryz.infoWss
 clear h hr hf
 go_enter Tryz.func339, Tryz.ntmps339
 go_wp2_with fail
 refine (rd_want R tv L fin a s nv ns _ H.out [123]).mono ?_
 rintro e w2 hn
 rcases hN : SynP.want fin [123] s with - | (⟨fc, fk⟩ | ⟨u2', s2⟩)
 ·rw [hN] at hn; exact hn.elim
 ·rw [hN] at hn
  obtain ⟨rfl, n1⟩ := hn
  refine ⟨rfl, ?_⟩
  have hre : r = some (.error (fc, fk)) := by rw [HR0.out, hN]; rfl
  rw [hre]
  exact ⟨rfl, n1⟩
 rw [hN] at hn
 obtain ⟨v2, a2, rfl, n1, n2, n3, rfl⟩ := hn
 have hl2 := want_len hN
 have HR2 : Hid (r = if SynP.isMark [125] s2.ts then SynP.ret [] s2.adv else SynP.cpxLoop fin f [] s2) := by show _ = _; rw [HR0.out, hN]; rfl
 have HA := Lib.hid (below_alloc w2 (.cells #[] 247))
 have HS2 := Lib.hid (n1.below HA.out)
 have HW2 := Lib.hid (RS.step n2 (Wr.of_below HA.out))
 have hC2 : Cx (w2.alloc (.cells #[] 247)) w.heap.size (.slice (some ⟨w2.heap.size, 0, none⟩) 0 0) [] [] :=
  ⟨World.ownsRow_made w2 #[] 0 n2.size (Nat.zero_le _) rfl, rfl, fun j sv s h => by simp at h⟩
 have HC2 := Lib.hid hC2
 clear n1 n2 n3 hN hC2
 go_wp2_with fail
 refine (rd_take R tv L fin a2 s2 nv ns _ HS2.out [125]).mono ?_
 rintro e w3 ⟨rfl, t1, t2⟩
 have HW3 := Lib.hid (RS.step HW2.out t1)
 have HC3 := Lib.hid (HC2.out.wr t1 hRl)
 clear t1
 cases hm : SynP.isMark [125] s2.ts with
 | true =>
  rw [if_pos hm] at t2
  have HS3 := Lib.hid t2
  have HM := Lib.hid hm
  clear t2 hm
  go_wp2_with fail
  go_ret
  rw [HR2.out, if_pos HM.out]
  exact ⟨_, _, rfl, HS3.out, HW3.out, Nat.le_trans (tail_le s2) (by omega), _, HC3.out⟩
 | false =>
  rw [if_neg (by rw [hm]; decide)] at t2 HR2
  have HS3 := Lib.hid t2
  have HM := Lib.hid hm
  have HST : Hid (CxO R tv L fin nv ns w s.ts.length r (.slice (some ⟨w2.heap.size, 0, none⟩) 0 0) w3) := ⟨f, [], [], a2, s2, HR2.out.symm, t2, HW3.out, HC3.out, by omega, by simp; omega⟩
  clear t2 hm HR2
  go_wp2_with fail
  go_loopw [2, 3, 4] (fun _ lv _ wr => CxO R tv L fin nv ns w s.ts.length r lv wr) (fun _ _ _ wr => leftOf L R wr)
  case atStart => exact HST.out
  clear HST HS3 HW3 HC3 HS2 HW2 HC2
  case round =>
   obtain ⟨f, acc, svs, a4, s4, hen, hrs, hwr, hcx, hb1, hb2⟩ := hrel
   obtain ⟨wo, rfl⟩ : ∃ wo, wo = wr := ⟨_, rfl⟩
   cases f with
   | zero => exact absurd hen.symm HNE.out
   | succ f =>
    have HR4 : Hid (r = (SynP.number fin s4).bind fun n s => (SynP.simplex fin f [n] s).bind fun x s => if SynP.isMark [125] s.ts then SynP.ret (acc ++ [x]) s.adv else (SynP.want fin [44] s).bind fun _ s => SynP.cpxLoop fin f (acc ++ [x]) s) := hen.symm
    have HS4 := Lib.hid hrs
    have HW4 := Lib.hid hwr
    have HC4 := Lib.hid hcx
    have HL4 := Lib.hid hrs.left
    have hRo := hrs.lt
    clear hen hrs hwr hcx
    go_wp2_with fail
    refine (rd_number R tv L fin a4 s4 nv ns _ HS4.out).mono ?_
    rintro e w5 hn
    rcases hN : SynP.number fin s4 with - | (⟨fc, fk⟩ | ⟨m, s5⟩)
    ·rw [hN] at hn; exact hn.elim
    ·rw [hN] at hn
     obtain ⟨rfl, n1⟩ := hn
     refine ⟨rfl, ?_⟩
     have hre : r = some (.error (fc, fk)) := by rw [HR4.out, hN]; rfl
     rw [hre]
     exact ⟨rfl, RS.step HW4.out n1⟩
    rw [hN] at hn
    obtain ⟨v5, a5, rfl, n1, n2, n3, n4⟩ := hn
    have hl5 := number_len hN
    have HR5 : Hid (r = (SynP.simplex fin f [m] s5).bind fun x s => if SynP.isMark [125] s.ts then SynP.ret (acc ++ [x]) s.adv else (SynP.want fin [44] s).bind fun _ s => SynP.cpxLoop fin f (acc ++ [x]) s) := by show _ = _; rw [HR4.out, hN]; rfl
    obtain ⟨vo, vcap, vl, rfl⟩ : ∃ vo vcap vl, v5 = .slice vo vl vcap := by
     obtain ⟨⟨xs, hx, -⟩, -⟩ := n4
     obtain ⟨vo, vcap, e, -⟩ := hx.2
     exact ⟨vo, vcap, _, e⟩
    have HA5 := Lib.hid (below_alloc w5 (.cells #[.slice vo vl vcap] 111))
    have HS5 := Lib.hid (n1.below HA5.out)
    have HW5 := Lib.hid (RS.step n2 (Wr.of_below HA5.out))
    have hSx : Sx (w5.alloc (.cells #[.slice vo vl vcap] 111)) wo.heap.size u3.ownBlock (.slice (some ⟨w5.heap.size, 0, none⟩) 1 1) [m] := by
     refine ⟨[.slice vo vl vcap], ⟨rfl, .inr ⟨w5.heap.size, 1, _, rfl, n2.size, heap_alloc_new w5 _, Nat.le_refl _, by unfold maxLen; omega, rfl, rfl⟩⟩, rfl, ?_, ?_⟩
     ·intro q hq e
      cases hq
      have h7 := (HC4.out.own.lt _ e).2
      change w5.heap.size < wo.heap.size at h7
      have := n2.size
      omega
     ·intro i x n hx hn
      have hi : i = 0 := by have := (List.getElem?_eq_some_iff.1 hx).1; simp at this; exact this
      subst hi
      simp at hx hn
      subst hx; subst hn
      refine ⟨n4.wr (R := R) (og := none) (Wr.of_below HA5.out) hRo (fun q hq => by cases hq), fun q hq => ⟨fun e => ?_, fun e => ?_⟩⟩
      ·cases e
       have h7 := (n4.2.1 _ hq).2
       change w5.heap.size < w5.heap.size at h7
       omega
      ·have := (HC4.out.own.lt _ e).2
       have := (n4.2.1 q hq).1
       omega
    obtain ⟨r2, hr2⟩ : ∃ r2, r2 = SynP.simplex fin f [m] s5 := ⟨_, rfl⟩
    rw [← hr2] at HR5
    have HR2N : Hid (r2 ≠ none) := by
     intro e
     have := HR5.out
     rw [e] at this
     exact HNE.out this
    have HI : Hid (CxI R tv L fin nv ns wo s4.ts.length u3.ownBlock r2 (.slice (some ⟨w5.heap.size, 0, none⟩) 1 1) (w5.alloc (.cells #[.slice vo vl vcap] 111))) := ⟨f, [m], a5, s5, hr2.symm, HS5.out, HW5.out, hSx, by omega, by simp; omega⟩
    clear n1 n2 n3 n4 hN hSx hr2 HR4 HS5 HW5
    go_wp2_with fail
    go_loopw [4] (fun sv wr => CxI R tv L fin nv ns wo s4.ts.length u3.ownBlock r2 sv wr) (fun _ wr => leftOf L R wr)
    case atStart => exact HI.out
    clear HI
    case round =>
     obtain ⟨f2, x, a6, s6, hsi, hrs, hwr, hsx, hb3, hb4⟩ := hrel
     cases f2 with
     | zero => exact absurd hsi.symm HR2N.out
     | succ f2 =>
      have HS6 := Lib.hid hrs
      have HW6 := Lib.hid hwr
      have HX6 := Lib.hid hsx
      have HL6 := Lib.hid hrs.left
      have HSI := Lib.hid hsi
      have hck := comes_kind 1 [] s6.ts (by decide)
      clear hrs hwr hsx hsi
      cases hk : SynP.isKind 1 s6.ts with
      | true =>
       rw [hk] at hck
       have HCK := Lib.hid hck
       have HSJ : Hid (r2 = (SynP.number fin s6).bind fun n s => SynP.simplex fin f2 (x ++ [n]) s) := by
        have h1 := HSI.out
        unfold SynP.simplex at h1
        rw [if_pos hk] at h1
        exact h1.symm
       clear hck hk HSI
       go_wp2_with fail
       refine (rd_comes R tv L fin a6 s6 nv ns _ HS6.out 0 1 [] (by omega) (by omega)).mono ?_
       rintro e w7 ⟨rfl, b1⟩
       rw [HCK.out]
       have HS7 := Lib.hid (HS6.out.below b1)
       have HW7 := Lib.hid (RS.step HW6.out (Wr.of_below b1))
       have HX7 := Lib.hid (HX6.out.wr (R := R) (Wr.of_below b1) hRo)
       clear b1
       go_wp2_with fail
       refine (rd_number R tv L fin a6 s6 nv ns _ HS7.out).mono ?_
       rintro e w8 hn
       rcases hN : SynP.number fin s6 with - | (⟨fc, fk⟩ | ⟨m2, s8⟩)
       ·rw [hN] at hn; exact hn.elim
       ·rw [hN] at hn
        obtain ⟨rfl, n1⟩ := hn
        refine ⟨rfl, ?_⟩
        have hre : r = some (.error (fc, fk)) := by rw [HR5.out, HSJ.out, hN]; rfl
        rw [hre]
        exact ⟨rfl, RS.step HW4.out (RS.step HW7.out n1)⟩
       rw [hN] at hn
       obtain ⟨v8, a8, rfl, n1, n2, n3, n4⟩ := hn
       have hl8 := number_len hN
       have HSK : Hid (SynP.simplex fin f2 (x ++ [m2]) s8 = r2) := by show _ = _; rw [HSJ.out, hN]; rfl
       obtain ⟨yo, ycap, yl, rfl⟩ : ∃ vo vcap vl, v8 = .slice vo vl vcap := by
        obtain ⟨⟨xs, hx, -⟩, -⟩ := n4
        obtain ⟨vo, vcap, e, -⟩ := hx.2
        exact ⟨vo, vcap, _, e⟩
       have HA8 := Lib.hid (below_alloc w8 (.cells #[.slice yo yl ycap] 111))
       have HS8 := Lib.hid (n1.below HA8.out)
       have HW8 := Lib.hid (RS.step (RS.step HW7.out n2) (Wr.of_below HA8.out))
       obtain ⟨ms, h1, h2, h3, h4⟩ := (HX7.out.wr n2 hRo).wr (R := R) (Wr.of_below HA8.out) hRo
       have hsz7 := HW7.out.size
       have hsz8 := n2.size
       have hm8 : NFr wo.heap.size (w8.alloc (.cells #[.slice yo yl ycap] 111)) (.slice yo yl ycap) m2 := (n4.wr (R := R) (og := none) (Wr.of_below HA8.out) (by omega) (fun q hq => by cases hq)).mono hsz7
       have hd8 : ∀ q, (Value.ownBlock (.slice yo yl ycap)) = some q → u4.ownBlock ≠ some q ∧ u3.ownBlock ≠ some q := by
        intro q hq
        have h7 := (n4.2.1 q hq).1
        refine ⟨fun e => ?_, fun e => ?_⟩
        ·obtain ⟨ms', g1, -⟩ := HX7.out
         have := (g1.lt q e).2; omega
        ·have := (HC4.out.own.lt q e).2; omega
       obtain ⟨nx, hnx⟩ : ∃ nx, nx = ms.length := ⟨_, rfl⟩
       have HNX := Lib.hid hnx
       have hnxl : nx ≤ 67108864 := by rw [hnx, h2]; omega
       have H1 := Lib.hid h1
       have H2 := Lib.hid h2
       have H3 := Lib.hid h3
       have H4 := Lib.hid h4
       have HM8 := Lib.hid hm8
       have HD8 := Lib.hid hd8
       have hOW : (w8.alloc (.cells #[.slice yo yl ycap] 111)).ownsRow wo.heap.size 111 1 u4 nx ms := by rw [hnx]; exact h1
       have HOW := Lib.hid hOW
       clear n1 n2 n3 n4 hN h1 h2 h3 h4 hm8 hd8 hnx hOW
       go_wp2_with (at_builtin; refine wpList_append_lies _ rfl _ _ 247 rfl wo.heap.size 111 i0 (.slice none 0 0) 1 24 Tryz.underlying247 hi hz0 hz1 hz2 rfl (by omega) u4 nx ms rfl HOW.out ⟨w8.heap.size, 0, none⟩ 1 1 [.slice yo yl ycap] rfl rfl (LexP.cells_new _ _ _ _ rfl) (by simp [Value.oneCell']) (by omega) (by unfold maxLen; omega) (by omega) (by simp; omega) (w8.heap.size + 1) (by simp) ?_)
       intro gg cap w9 hown9 hgrow hat hlt9
       have q1 := Sx.push (og := u3.ownBlock) H1.out H2.out H3.out H4.out HM8.out HD8.out (fun q hq => by have := (HC4.out.own.lt q hq).2; simp; omega) hown9 (by rw [HNX.out]) hgrow (by simpa using hat)
       obtain ⟨q2, q3⟩ := HS4.out.loc HS8.out HW8.out hgrow (fun q hq => (H1.out.lt q hq).1)
       have HQ1 := Lib.hid q1
       have HQ2 := Lib.hid q2
       have HQ3 := Lib.hid q3
       have HLFT := Lib.hid q2.left
       clear hown9 hgrow hat hlt9 q1 q2 q3
       go_wp2_with fail
       have hfin : CxI R tv L fin nv ns wo s4.ts.length u3.ownBlock r2 (.slice (some ⟨gg, 0, none⟩) (nx + 1) cap) w9 := ⟨f2, x ++ [m2], a8, s8, HSK.out, HQ2.out, HQ3.out, HQ1.out, by omega, by rw [List.length_append, List.length_singleton]; omega⟩
       have hlf : leftOf L R w9 < leftOf L R wr := by rw [HLFT.out, HL6.out]; omega
       exact ⟨hfin, hlf⟩
      | false =>
       rw [hk] at hck
       have HCK := Lib.hid hck
       have HSJ : Hid (r = if SynP.isMark [125] s6.ts then SynP.ret (acc ++ [x]) s6.adv else (SynP.want fin [44] s6).bind fun _ s => SynP.cpxLoop fin f (acc ++ [x]) s) := by
        have h1 := HSI.out
        unfold SynP.simplex at h1
        rw [if_neg (by rw [hk]; decide)] at h1
        show _ = _
        rw [HR5.out, ← h1]; rfl
       clear hck hk HSI
       go_wp2_with fail
       refine (rd_comes R tv L fin a6 s6 nv ns _ HS6.out 0 1 [] (by omega) (by omega)).mono ?_
       rintro e w7 ⟨rfl, b1⟩
       rw [HCK.out]
       have HS7 := Lib.hid (HS6.out.below b1)
       have HW7 := Lib.hid (RS.step HW4.out (RS.step HW6.out (Wr.of_below b1)))
       have HX7 := Lib.hid (HX6.out.wr (R := R) (Wr.of_below b1) hRo)
       have HC7 := Lib.hid (HC4.out.wr (RS.step HW6.out (Wr.of_below b1)) hRl)
       clear b1
       obtain ⟨so, scap, sl, rfl⟩ : ∃ so scap sl, u4 = .slice so sl scap := by
        obtain ⟨ms, h1, -⟩ := HX7.out
        obtain ⟨so, scap, e, -⟩ := ownsRow_shape h1
        exact ⟨so, scap, _, e⟩
       have HA7 := Lib.hid (below_alloc w7 (.cells #[.slice so sl scap] 247))
       have HS8 := Lib.hid (HS7.out.below HA7.out)
       have HW8 := Lib.hid (RS.step HW7.out (Wr.of_below HA7.out))
       have HX8 := Lib.hid ((HX7.out.wr (R := R) (Wr.of_below HA7.out) hRo).mono HW4.out.size)
       have HC8 := Lib.hid (HC7.out.wr (R := R) (Wr.of_below HA7.out) hRl)
       obtain ⟨nx, hnx⟩ : ∃ nx, nx = svs.length := ⟨_, rfl⟩
       have HNX := Lib.hid hnx
       have hnxl : nx ≤ 67108864 := by rw [hnx, HC8.out.len]; omega
       have hOW : (w7.alloc (.cells #[.slice so sl scap] 247)).ownsRow w.heap.size 247 1 u3 nx svs := by rw [hnx]; exact HC8.out.own
       have HOW := Lib.hid hOW
       have hsz7 := HW7.out.size
       clear hnx hOW
       go_wp2_with (at_builtin; refine wpList_append_lies _ rfl _ _ 244 rfl w.heap.size 247 j0 (.slice none 0 0) 1 24 Tryz.underlying244 hj hk0 hk1 hk2 rfl (by omega) u3 nx svs rfl HOW.out ⟨w7.heap.size, 0, none⟩ 1 1 [.slice so sl scap] rfl rfl (LexP.cells_new _ _ _ _ rfl) (by simp [Value.oneCell']) (by omega) (by unfold maxLen; omega) (by omega) (by simp; omega) (w7.heap.size + 1) (by simp) ?_)
       intro gg cap w9 hown9 hgrow hat hlt9
       have q1 := HC8.out.push HX8.out hown9 (by rw [HNX.out]) hgrow (by simpa using hat)
       obtain ⟨q2, q3⟩ := H.out.loc HS8.out HW8.out hgrow (fun q hq => (HC8.out.own.lt q hq).1)
       have HQ1 := Lib.hid q1
       have HQ2 := Lib.hid q2
       have HQ3 := Lib.hid q3
       clear hown9 hgrow hat hlt9 q1 q2 q3
       go_wp2_with fail
       refine (rd_take R tv L fin a6 s6 nv ns _ HQ2.out [125]).mono ?_
       rintro e w10 ⟨rfl, t1, t2⟩
       have T1 := Lib.hid (RS.step HQ3.out t1)
       have TC := Lib.hid (HQ1.out.wr t1 hRl)
       clear t1
       cases h93 : SynP.isMark [125] s6.ts with
       | true =>
        rw [if_pos h93] at t2
        have T2 := Lib.hid t2
        have H93 := Lib.hid h93
        clear t2 h93
        go_wp2_with fail
        go_ret
        rw [HSJ.out, if_pos H93.out]
        exact ⟨_, _, rfl, T2.out, T1.out, Nat.le_trans (tail_le s6) (by omega), _, TC.out⟩
       | false =>
        rw [if_neg (by rw [h93]; decide)] at t2
        have T2 := Lib.hid t2
        have H93 := Lib.hid h93
        clear t2 h93
        go_wp2_with fail
        refine (rd_want R tv L fin a6 s6 nv ns _ T2.out [44]).mono ?_
        rintro e w11 hn
        rcases hN : SynP.want fin [44] s6 with - | (⟨fc, fk⟩ | ⟨m, s11⟩)
        ·rw [hN] at hn; exact hn.elim
        ·rw [hN] at hn
         obtain ⟨rfl, n1⟩ := hn
         refine ⟨rfl, ?_⟩
         have hre : r = some (.error (fc, fk)) := by rw [HSJ.out, if_neg (by rw [H93.out]; decide), hN]; rfl
         rw [hre]
         exact ⟨rfl, RS.step T1.out n1⟩
        ·rw [hN] at hn
         obtain ⟨v, a11, rfl, n1, n2, n3, rfl⟩ := hn
         have hwl := want_len hN
         have hre : SynP.cpxLoop fin f (acc ++ [x]) s11 = r := by rw [HSJ.out, if_neg (by rw [H93.out]; decide), hN]; rfl
         have HRF := Lib.hid hre
         have HL11 := Lib.hid n1.left
         have HN1 := Lib.hid n1
         have HN2 := Lib.hid (RS.step T1.out n2)
         have HC11 := Lib.hid (TC.out.wr n2 hRl)
         clear n1 n2 n3 hre hN
         go_wp2_with fail
         have hfin : CxO R tv L fin nv ns w s.ts.length r (.slice (some ⟨gg, 0, none⟩) (nx + 1) cap) w11 := ⟨f, acc ++ [x], _, a11, s11, HRF.out, HN1.out, HN2.out, HC11.out, by omega, by rw [List.length_append, List.length_singleton]; omega⟩
         have hlf : leftOf L R w11 < leftOf L R wo := by rw [HL11.out, HL4.out]; omega
         exact ⟨hfin, hlf⟩
end Go.Proofs.YtceggplnggkdnaaGreatDoor
namespace Go.Proofs.YtceggplnggkdnaaGreatDoor
open Go.RowKit NatP LexP
structure PSt (R : Nat) (tv : Value) (L : List Tok) (fin : Nat) (s0 : SynP.St) (nv : Value) (ns : List Nv) (w wr : World) (a' : Nat) (s' : SynP.St) (nv' : Value) (ns' : List Nv) : Prop where
 rs : RS wr R tv L fin a' s' nv' (ns ++ ns')
 wr : Wr R nv.ownBlock w wr
 mv : Mv w nv.ownBlock nv'.ownBlock
 few : (ns ++ ns').length + s'.ts.length ≤ ns.length + s0.ts.length
 opn : s'.opened = s0.opened
 fresh : ∀ p ∈ ns', ∀ q, p.2.ownBlock = some q → w.heap.size ≤ q
theorem PSt.refl {R : Nat} {tv : Value} {L : List Tok} {fin a : Nat} {s : SynP.St} {nv : Value} {ns : List Nv} {w : World} (h : RS w R tv L fin a s nv ns) : PSt R tv L fin s nv ns w w a s nv [] :=
 ⟨by rw [List.append_nil]; exact h, Wr.refl _ _ _, Mv.refl _ _, by rw [List.append_nil]; exact Nat.le_refl _, rfl, fun p hp => by cases hp⟩
theorem PSt.trans {R : Nat} {tv : Value} {L : List Tok} {fin : Nat} {s0 s1 s2 : SynP.St} {nv nv1 nv2 : Value} {ns ns1 ns2 : List Nv} {w w1 w2 : World} {a1 a2 : Nat} (h : PSt R tv L fin s0 nv ns w w1 a1 s1 nv1 ns1) (k : PSt R tv L fin s1 nv1 (ns ++ ns1) w1 w2 a2 s2 nv2 ns2) :
  PSt R tv L fin s0 nv ns w w2 a2 s2 nv2 (ns1 ++ ns2) :=
 ⟨by rw [← List.append_assoc]; exact k.rs, h.wr.trans h.mv k.wr, Mv.trans (R := R) (w' := w1) h.mv h.wr.size k.mv, by have := h.few; have := k.few; rw [← List.append_assoc]; omega, k.opn.trans h.opn, fun p hp q hq => by
  rcases List.mem_append.1 hp with hp | hp
  ·exact h.fresh p hp q hq
  ·exact Nat.le_trans h.wr.size (k.fresh p hp q hq)⟩
theorem PSt.step {R : Nat} {tv : Value} {L : List Tok} {fin : Nat} {s0 s1 s2 : SynP.St} {nv nv1 : Value} {ns ns1 : List Nv} {w w1 w2 : World} {a1 a2 : Nat} (h : PSt R tv L fin s0 nv ns w w1 a1 s1 nv1 ns1) (k : RS w2 R tv L fin a2 s2 nv1 (ns ++ ns1)) (hw : Wr R none w1 w2) (hl : s2.ts.length ≤ s1.ts.length) (ho : s2.opened = s1.opened) :
  PSt R tv L fin s0 nv ns w w2 a2 s2 nv1 ns1 :=
 ⟨k, h.wr.trans h.mv (hw.weak _), h.mv, by have := h.few; omega, ho.trans h.opn, h.fresh⟩
theorem PSt.putS {R : Nat} {tv : Value} {L : List Tok} {fin : Nat} {s0 s1 : SynP.St} {nv nv1 nv2 : Value} {ns ns1 : List Nv} {w w1 w2 : World} {a1 : Nat} {nd : SynP.Node} {kv : Value} (h : PSt R tv L fin s0 nv ns w w1 a1 s1 nv1 ns1)
  (k : RS w2 R tv L fin a1 s1 nv2 (ns ++ ns1 ++ [(nd, kv)])) (hw : Wr R nv1.ownBlock w1 w2) (hm : Mv w1 nv1.ownBlock nv2.ownBlock) (hf : (ns ++ ns1).length + 1 + s1.ts.length ≤ ns.length + s0.ts.length) (hv : ∀ q, kv.ownBlock = some q → w.heap.size ≤ q) :
  PSt R tv L fin s0 nv ns w w2 a1 s1 nv2 (ns1 ++ [(nd, kv)]) :=
 ⟨by rw [← List.append_assoc]; exact k, h.wr.trans h.mv hw, Mv.trans (R := R) (w' := w1) h.mv h.wr.size hm, by rw [← List.append_assoc, List.length_append, List.length_singleton]; omega, h.opn, fun p hp q hq => by
  rcases List.mem_append.1 hp with hp | hp
  ·exact h.fresh p hp q hq
  ·rw [List.mem_singleton.1 hp] at hq; exact hv q hq⟩
def RP {α : Type} (r : SynP.PR α) (R : Nat) (tv : Value) (L : List Tok) (fin : Nat) (s : SynP.St) (nv : Value) (ns : List Nv) (Q : α → Value → List Nv → Value → World → Prop) (w : World) (e : Ending) (w' : World) : Prop :=
 match r with
 | none => False
 | some (.error (c, k)) => e = FaultE c k ∧ Wr R nv.ownBlock w w'
 | some (.ok (x, s')) => ∃ v a' nv' ns', e = .returned v ∧ PSt R tv L fin s nv ns w w' a' s' nv' ns' ∧ Q x v ns' nv' w'
def ExQ (ns : List Nv) (e : SynP.Ex) (v : Value) (ns' : List Nv) (_ : Value) (_ : World) : Prop := v = .int .i64 ((ns.length + e.size - 1 : Nat) : Int) ∧ ns'.map Prod.fst = e.flat ns.length
mutual
theorem flat_len : ∀ (e : SynP.Ex) (o : Nat), (e.flat o).length = e.size
 | .num _, _ | .name _, _ | .mat _, _ | .cpx _, _ => rfl
 | .neg a, o | .turn a, o | .pow a _, o => by simp [SynP.Ex.flat, SynP.Ex.size, flat_len a]
 | .add a b, o | .sub a b, o | .mul a b, o => by simp [SynP.Ex.flat, SynP.Ex.size, flat_len a, flat_len b]; omega
 | .call _ l, o => by simp [SynP.Ex.flat, SynP.Ex.size, flats_len l]
theorem flats_len : ∀ (l : SynP.Exs) (o : Nat), (l.flat o).length = l.size
 | .nil, _ => rfl
 | .cons a l, o => by simp [SynP.Exs.flat, SynP.Exs.size, flat_len a, flats_len l]
end
theorem size_pos : ∀ e : SynP.Ex, 0 < e.size := by
 intro e; cases e <;> simp [SynP.Ex.size]
theorem ExQ.len {ns ns' : List Nv} {e : SynP.Ex} {v nv : Value} {w : World} (h : ExQ ns e v ns' nv w) : ns'.length = e.size := by
 have := congrArg List.length h.2
 rw [List.length_map, flat_len] at this; exact this
theorem KNew.fresh {w : World} {R : Nat} {tv : Value} {L : List Tok} {fin a : Nat} {s : SynP.St} {nv : Value} {ns : List Nv} (h : RS w R tv L fin a s nv ns) (ks : List Nat) :
  KNew (w.alloc (.cells (ks.map fun k => Value.int .i64 ((k : Nat) : Int)).toArray 3)) R nv ns (.slice (some ⟨w.heap.size, 0, none⟩) ks.length ks.length) ks ∨ 9223372036854775807 < ks.length := by
 by_cases hl : ks.length ≤ 9223372036854775807
 ·left
  have hb := heap_alloc_new w (.cells (ks.map fun k => Value.int .i64 ((k : Nat) : Int)).toArray 3)
  refine ⟨⟨_, _, rfl, Nat.le_refl _, by unfold maxLen; omega, ?_, fun _ => ⟨_, rfl, fun j k hj => ?_⟩⟩, fun p hp q hq e => ?_⟩
  ·intro q hq
   cases hq
   refine ⟨h.lt, by simp, fun e => ?_⟩
   have h7 := (h.own.lt _ e).2
   change w.heap.size < w.heap.size at h7
   omega
  ·rw [cell_of_row _ _ _ _ _ _ hb]; simp [hj]
  ·cases e
   obtain ⟨ao, cap, e1, -, -, h3, -⟩ := h.kids p hp
   have h7 := (h3 _ hq).2.1
   change w.heap.size < w.heap.size at h7
   omega
 ·right; omega
theorem KNew.nil {w : World} {R : Nat} {nv : Value} {ns : List Nv} : KNew w R nv ns (.slice none 0 0) [] :=
 ⟨⟨none, 0, rfl, Nat.le_refl _, Nat.zero_le _, fun q hq => by simp [Value.ownBlock] at hq, fun h => absurd h (Nat.lt_irrefl _)⟩, fun p _ q _ e => by simp [Value.ownBlock] at e⟩
end Go.Proofs.YtceggplnggkdnaaGreatDoor
namespace Go.Proofs.YtceggplnggkdnaaGreatDoor
open Go.RowKit NatP LexP
def ExOk (F : Nat) (P : SynP.St → SynP.PR SynP.Ex) (fin : Nat) : Prop := ∀ (R : Nat) (tv : Value) (L : List Tok) (a : Nat) (s : SynP.St) (nv : Value) (ns : List Nv) (w : World), RS w R tv L fin a s nv ns → P s ≠ none →
 Calls Tryz.prog F #[.pointer (some ⟨R, 0, none⟩)] w (RP (P s) R tv L fin s nv ns (ExQ ns) w)
theorem mark_len {x : Bytes} {s : SynP.St} (h : SynP.isMark x s.ts = true) : s.adv.ts.length + 1 = s.ts.length := by
 have h2 := List.length_pos_iff.2 (isMark_ne h)
 show s.ts.tail.length + 1 = _
 rw [List.length_tail]; omega
def TuO (R : Nat) (tv : Value) (L : List Tok) (fin : Nat) (s0 : SynP.St) (nv : Value) (ns : List Nv) (w : World) (r : SynP.PR SynP.Ex) (kv : Value) (wr : World) : Prop :=
 ∃ g k s' a' nv' ns', SynP.turns g k s' = r ∧ PSt R tv L fin s0 nv ns w wr a' s' nv' ns' ∧ ExQ ns k kv ns' nv' wr
set_option maxRecDepth 100000 in
set_option maxHeartbeats 4000000 in
theorem post_of (fin f : Nat) (IH : ExOk 518 (SynP.atom fin f) fin) : ExOk 450 (SynP.post fin (f + 1)) fin := by
 intro R tv L a s nv ns w h hf
 have H := Lib.hid h
 have HIH := Lib.hid IH
 obtain ⟨r, hr⟩ : ∃ r, r = SynP.post fin (f + 1) s := ⟨_, rfl⟩
 rw [← hr] at hf ⊢
 have HR0 : Hid (r = (SynP.atom fin f s).bind fun k s => SynP.turns f k s) := by show _ = _; rw [hr]; rfl
 have HNE := Lib.hid hf
 have hfew := h.few
 clear h hr hf IH
 go_enter Tryz.func450, Tryz.ntmps450
 go_wp2_with fail
 refine (HIH.out R tv L a s nv ns _ H.out (fun e => HNE.out (by rw [HR0.out, e]; rfl))).mono ?_
 rintro e w1 hn
 rcases hN : SynP.atom fin f s with - | (⟨fc, fk⟩ | ⟨k, s1⟩)
 ·rw [hN] at hn; exact hn.elim
 ·rw [hN] at hn
  obtain ⟨rfl, n1⟩ := hn
  refine ⟨rfl, ?_⟩
  have hre : r = some (.error (fc, fk)) := by rw [HR0.out, hN]; rfl
  rw [hre]
  exact ⟨rfl, n1⟩
 rw [hN] at hn
 obtain ⟨v1, a1, nv1, ns1, rfl, n1, n2⟩ := hn
 have HST : Hid (TuO R tv L fin s nv ns w r v1 w1) := ⟨f, k, s1, a1, nv1, ns1, by rw [HR0.out, hN]; rfl, n1, n2⟩
 clear n1 n2 hN
 go_wp2_with fail
 go_loopw [3] (fun kv wr => TuO R tv L fin s nv ns w r kv wr) (fun _ wr => leftOf L R wr)
 case atStart => exact HST.out
 clear HST
 case round =>
  obtain ⟨g, k, s2, a2, nv2, ns2, htu, hps, hex⟩ := hrel
  obtain ⟨wo, rfl⟩ : ∃ wo, wo = wr := ⟨_, rfl⟩
  cases g with
  | zero => exact absurd htu.symm HNE.out
  | succ g =>
   have hlen := hex.len
   have hsp := size_pos k
   obtain ⟨rfl, hfl⟩ := hex
   obtain ⟨p, hp⟩ : ∃ p, p = ns.length + k.size - 1 := ⟨_, rfl⟩
   rw [← hp]
   have HP := Lib.hid hp
   have HPS := Lib.hid hps
   have HFL := Lib.hid hfl
   have HL2 := Lib.hid hps.rs.left
   have HTU := Lib.hid htu
   have hfw := hps.few
   rw [List.length_append] at hfw
   clear hp hps hfl htu
   go_wp2_with fail
   refine (rd_take R tv L fin a2 s2 nv2 (ns ++ ns2) _ HPS.out.rs [39]).mono ?_
   rintro e w3 ⟨rfl, t1, t2⟩
   cases hm : SynP.isMark [39] s2.ts with
   | true =>
    rw [if_pos hm] at t2
    have hml := mark_len hm
    have HRR : Hid (SynP.turns g (.turn k) s2.adv = r) := by
     have h1 := HTU.out
     unfold SynP.turns at h1
     rw [if_pos hm] at h1
     exact h1
    have HP3 := Lib.hid (HPS.out.step t2 t1 (by omega) rfl)
    have hkn := (KNew.fresh t2 [p]).resolve_right (by simp)
    have HKN := Lib.hid hkn
    have HA := Lib.hid (below_alloc w3 (.cells #[.int .i64 ((p : Nat) : Int)] 3))
    have HP4 := Lib.hid (HP3.out.step (HP3.out.rs.below HA.out) (Wr.of_below HA.out) (Nat.le_refl _) rfl)
    clear t1 t2 hm hkn
    go_wp2_with fail
    refine (rd_put R tv L fin (a2 + 1) s2.adv nv2 (ns ++ ns2) _ HP4.out.rs ⟨5, [], [p]⟩ _ HKN.out (by rw [List.length_append]; omega)).mono ?_
    rintro e w5 ⟨nv5, rfl, b1, b2, b3⟩
    have HP5 := Lib.hid (HP4.out.putS b1 b2 b3 (by rw [List.length_append]; omega) (fun q hq => by cases hq; exact HP3.out.wr.size))
    have HL5 := Lib.hid b1.left
    obtain ⟨nn, hnn⟩ : ∃ nn, nn = (ns ++ ns2).length := ⟨_, rfl⟩
    rw [← hnn]
    have HNN := Lib.hid hnn
    clear b1 b2 b3 hnn
    go_wp2_with fail
    have hfin : TuO R tv L fin s nv ns w r (.int .i64 ((nn : Nat) : Int)) w5 := by
     refine ⟨g, .turn k, s2.adv, a2 + 1, nv5, _, HRR.out, HP5.out, ?_, ?_⟩
     ·rw [HNN.out, List.length_append, hlen]; rfl
     ·rw [List.map_append, HFL.out, HP.out]; rfl
    have hlf : leftOf L R w5 < leftOf L R wo := by rw [HL5.out, HL2.out]; omega
    exact ⟨hfin, hlf⟩
   | false =>
    rw [if_neg (by rw [hm]; decide)] at t2
    have HRR : Hid (r = some (.ok (k, s2))) := by
     have h1 := HTU.out
     unfold SynP.turns at h1
     rw [if_neg (by rw [hm]; decide)] at h1
     show _ = _
     rw [← h1]; rfl
    have HP3 := Lib.hid (HPS.out.step t2 t1 (Nat.le_refl _) rfl)
    clear t1 t2 hm
    go_wp2_with fail
    go_ret
    rw [HRR.out]
    exact ⟨_, a2, nv2, ns2, rfl, HP3.out, by rw [HP.out]; rfl, HFL.out⟩
end Go.Proofs.YtceggplnggkdnaaGreatDoor
namespace Go.Proofs.YtceggplnggkdnaaGreatDoor
open Go.RowKit NatP LexP
def MiO (R : Nat) (tv : Value) (L : List Tok) (fin : Nat) (s0 : SynP.St) (nv : Value) (ns : List Nv) (w : World) (r : SynP.PR Nat) (nn : Value) (wr : World) : Prop :=
 ∃ g n s' a', SynP.minuses g n s' = r ∧ nn = .int .i64 ((n : Nat) : Int) ∧ RS wr R tv L fin a' s' nv ns ∧ Wr R none w wr ∧ n + s'.ts.length ≤ s0.ts.length ∧ s'.opened = s0.opened
def NgO (R : Nat) (tv : Value) (L : List Tok) (fin : Nat) (s0 : SynP.St) (nv : Value) (ns : List Nv) (w : World) (n : Nat) (s2 : SynP.St) (e0 : SynP.Ex) (kv iv : Value) (wr : World) : Prop :=
 ∃ i k a' nv' ns', iv = .int .i64 ((i : Nat) : Int) ∧ i ≤ n ∧ SynP.negs (n - i) k = e0 ∧ PSt R tv L fin s0 nv ns w wr a' s2 nv' ns' ∧ ExQ ns k kv ns' nv' wr ∧ (ns ++ ns').length + s2.ts.length + (n - i) ≤ ns.length + s0.ts.length
set_option maxRecDepth 100000 in
set_option maxHeartbeats 8000000 in
theorem factor_of (fin f : Nat) (IH : ExOk 450 (SynP.post fin f) fin) : ExOk 331 (SynP.factor fin (f + 1)) fin := by
 intro R tv L a s nv ns w h hf
 have H := Lib.hid h
 have HIH := Lib.hid IH
 obtain ⟨r, hr⟩ : ∃ r, r = SynP.factor fin (f + 1) s := ⟨_, rfl⟩
 rw [← hr] at hf ⊢
 obtain ⟨r1, hr1⟩ : ∃ r1, r1 = SynP.minuses f 0 s := ⟨_, rfl⟩
 have HR0 : Hid (r = r1.bind fun n s => (SynP.post fin f s).bind fun k s => if SynP.isMark [94] s.ts then (SynP.number fin s.adv).bind fun m s => SynP.ret (SynP.negs n (.pow k m)) s else SynP.ret (SynP.negs n k) s) := by show _ = _; rw [hr, hr1]; rfl
 have HNE := Lib.hid hf
 have HR1N : Hid (r1 ≠ none) := fun e => HNE.out (by rw [HR0.out, e]; rfl)
 have hfew := h.few
 have hfewS := h.short
 have hts : s.ts.length ≤ 67108864 := by rw [← h.drop, List.length_drop]; omega
 have HST : Hid (MiO R tv L fin s nv ns w r1 (.int .i64 0) w) := ⟨f, 0, s, a, hr1.symm, rfl, h, Wr.refl _ _ _, by omega, rfl⟩
 clear h hr hf IH hr1
 go_enter Tryz.func331, Tryz.ntmps331
 go_wp2_with fail
 go_loopw [3] (fun nn wr => MiO R tv L fin s nv ns w r1 nn wr) (fun _ wr => leftOf L R wr)
 case atStart => exact HST.out
 clear HST
 case round =>
  obtain ⟨g, n, s1, a1, hmi, rfl, hrs, hwr, hns, hop⟩ := hrel
  obtain ⟨wo, rfl⟩ : ∃ wo, wo = wr := ⟨_, rfl⟩
  cases g with
  | zero => exact absurd hmi.symm HR1N.out
  | succ g =>
   have HS1 := Lib.hid hrs
   have HW1 := Lib.hid hwr
   have HMI := Lib.hid hmi
   have HOP := Lib.hid hop
   have HL1 := Lib.hid hrs.left
   clear hmi hrs hwr hop
   go_wp2_with fail
   refine (rd_take R tv L fin a1 s1 nv ns _ HS1.out [45]).mono ?_
   rintro e w3 ⟨rfl, t1, t2⟩
   cases hm : SynP.isMark [45] s1.ts with
   | true =>
    rw [if_pos hm] at t2
    have hml := mark_len hm
    have HRR : Hid (SynP.minuses g (n + 1) s1.adv = r1) := by
     have h1 := HMI.out
     unfold SynP.minuses at h1
     rw [if_pos hm] at h1
     exact h1
    have HT1 := Lib.hid (RS.step HW1.out t1)
    have HT2 := Lib.hid t2
    have HL3 := Lib.hid t2.left
    clear t1 t2 hm
    go_wp2_with fail
    have hfin : MiO R tv L fin s nv ns w r1 (.int .i64 ((n : Int) + 1)) w3 := ⟨g, n + 1, s1.adv, a1 + 1, HRR.out, by congr 1, HT2.out, HT1.out, by omega, HOP.out⟩
    have hlf : leftOf L R w3 < leftOf L R wo := by rw [HL3.out, HL1.out]; omega
    exact ⟨hfin, hlf⟩
   | false =>
    rw [if_neg (by rw [hm]; decide)] at t2
    have HR2 : Hid (r = (SynP.post fin f s1).bind fun k s => if SynP.isMark [94] s.ts then (SynP.number fin s.adv).bind fun m s => SynP.ret (SynP.negs n (.pow k m)) s else SynP.ret (SynP.negs n k) s) := by
     have h1 := HMI.out
     unfold SynP.minuses at h1
     rw [if_neg (by rw [hm]; decide)] at h1
     show _ = _
     rw [HR0.out, ← h1]; rfl
    have HP2 := Lib.hid ((PSt.refl H.out).step (s2 := s1) (w2 := w3) (a2 := a1) (by rw [List.append_nil]; exact t2) (RS.step HW1.out t1) (by omega) HOP.out)
    have HT2 := Lib.hid t2
    clear t1 t2 hm
    go_wp2_with fail
    refine (HIH.out R tv L a1 s1 nv ns _ HT2.out (fun e => HNE.out (by rw [HR2.out, e]; rfl))).mono ?_
    rintro e w4 hn
    rcases hN : SynP.post fin f s1 with - | (⟨fc, fk⟩ | ⟨k, s4⟩)
    ·rw [hN] at hn; exact hn.elim
    ·rw [hN] at hn
     obtain ⟨rfl, n1⟩ := hn
     refine ⟨rfl, ?_⟩
     have hre : r = some (.error (fc, fk)) := by rw [HR2.out, hN]; rfl
     rw [hre]
     exact ⟨rfl, HP2.out.wr.trans (Mv.refl _ _) n1⟩
    rw [hN] at hn
    obtain ⟨v4, a4, nv4, ns4, rfl, n1, n2⟩ := hn
    have HR4 : Hid (r = if SynP.isMark [94] s4.ts then (SynP.number fin s4.adv).bind fun m s => SynP.ret (SynP.negs n (.pow k m)) s else SynP.ret (SynP.negs n k) s4) := by show _ = _; rw [HR2.out, hN]; rfl
    have hfw4 := n1.few
    rw [List.length_append] at hfw4
    have HP4 : Hid (PSt R tv L fin s nv ns w w4 a4 s4 nv4 ns4) := by
     have := HP2.out.trans (by rw [List.append_nil]; exact n1)
     rw [List.nil_append] at this; exact this
    have hlen := n2.len
    have hsp := size_pos k
    obtain ⟨rfl, hfl⟩ := n2
    obtain ⟨p, hp⟩ : ∃ p, p = ns.length + k.size - 1 := ⟨_, rfl⟩
    rw [← hp]
    have HP := Lib.hid hp
    have HFL := Lib.hid hfl
    clear n1 hp hfl hN
    go_wp2_with fail
    refine (rd_take R tv L fin a4 s4 nv4 (ns ++ ns4) _ HP4.out.rs [94]).mono ?_
    rintro e w5 ⟨rfl, t1, t2⟩
    cases hm : SynP.isMark [94] s4.ts with
    | true =>
     rw [if_pos hm] at t2
     have hml := mark_len hm
     have HR5 : Hid (r = (SynP.number fin s4.adv).bind fun m s => SynP.ret (SynP.negs n (.pow k m)) s) := by show _ = _; rw [HR4.out, if_pos hm]
     have HP5 := Lib.hid (HP4.out.step t2 t1 (by omega) rfl)
     clear t1 t2 hm
     go_wp2_with fail
     refine (rd_number R tv L fin (a4 + 1) s4.adv nv4 (ns ++ ns4) _ HP5.out.rs).mono ?_
     rintro e w6 hn
     rcases hN : SynP.number fin s4.adv with - | (⟨fc, fk⟩ | ⟨m, s6⟩)
     ·rw [hN] at hn; exact hn.elim
     ·rw [hN] at hn
      obtain ⟨rfl, n1⟩ := hn
      refine ⟨rfl, ?_⟩
      have hre : r = some (.error (fc, fk)) := by rw [HR5.out, hN]; rfl
      rw [hre]
      exact ⟨rfl, HP5.out.wr.trans HP5.out.mv (n1.weak _)⟩
     rw [hN] at hn
     obtain ⟨v6, a6, rfl, n1, n2, n3, n4⟩ := hn
     have hl6 := number_len hN
     have HR6 : Hid (r = some (.ok (SynP.negs n (.pow k m), s6))) := by show _ = _; rw [HR5.out, hN]; rfl
     have HP6 := Lib.hid (HP5.out.step n1 n2 (by omega) hl6.2)
     have HN6 := Lib.hid n4
     obtain ⟨⟨xs, x1, x2, x3⟩, -⟩ := n4
     have HX1 := Lib.hid x1
     have HX2 := Lib.hid x2
     clear n1 n2 n3 hN x1 x2
     go_wp2_with fail
     refine (dec_any _ xs _ HP6.out.rs.sg HX1.out (by omega)).mono ?_
     rintro e w7 ⟨rfl, b1⟩
     rw [HX2.out, decTx_eq]
     have HP7 := Lib.hid (HP6.out.step (HP6.out.rs.below b1) (Wr.of_below b1) (Nat.le_refl _) rfl)
     have HKN := Lib.hid ((KNew.fresh HP7.out.rs [p]).resolve_right (by simp))
     have HA := Lib.hid (below_alloc w7 (.cells #[.int .i64 ((p : Nat) : Int)] 3))
     have HP8 := Lib.hid (HP7.out.step (HP7.out.rs.below HA.out) (Wr.of_below HA.out) (Nat.le_refl _) rfl)
     clear b1
     go_wp2_with fail
     refine (rd_put R tv L fin a6 s6 nv4 (ns ++ ns4) _ HP8.out.rs ⟨9, SynP.decT m, [p]⟩ _ HKN.out (by rw [List.length_append]; omega)).mono ?_
     rintro e w9 ⟨nv9, rfl, b1, b2, b3⟩
     have HP9 := Lib.hid (HP8.out.putS b1 b2 b3 (by rw [List.length_append]; omega) (fun q hq => by cases hq; exact HP7.out.wr.size))
     obtain ⟨nn, hnn⟩ : ∃ nn, nn = (ns ++ ns4).length := ⟨_, rfl⟩
     rw [← hnn]
     have HNN := Lib.hid hnn
     have HST2 : Hid (NgO R tv L fin s nv ns w n s6 (SynP.negs n (.pow k m)) (.int .i64 ((nn : Nat) : Int)) (.int .i64 0) w9) := by
      refine ⟨0, .pow k m, a6, nv9, _, rfl, Nat.zero_le _, rfl, HP9.out, ⟨?_, ?_⟩, ?_⟩
      ·rw [HNN.out, List.length_append, hlen]; rfl
      ·rw [List.map_append, HFL.out, HP.out]; rfl
      ·simp only [List.length_append, List.length_singleton]; omega
     clear b1 b2 b3 hnn
     go_wp2_with fail
     go_loopw [4, 21] (fun kv iv wr => NgO R tv L fin s nv ns w n s6 (SynP.negs n (.pow k m)) kv iv wr) (fun _ iv _ => (n - intOf iv).toNat)
     case atStart => exact HST2.out
     clear HST2
     case round =>
      obtain ⟨i, q, a10, nv10, ns10, rfl, hin, hng, hps, hex, hfw⟩ := hrel
      have hql := hex.len
      have hqp := size_pos q
      obtain ⟨rfl, hqf⟩ := hex
      obtain ⟨pq, hpq⟩ : ∃ pq, pq = ns.length + q.size - 1 := ⟨_, rfl⟩
      rw [← hpq]
      have HPQ := Lib.hid hpq
      have HQF := Lib.hid hqf
      have HP10 := Lib.hid hps
      have HNG := Lib.hid hng
      rw [List.length_append] at hfw
      clear hpq hqf hps hng
      by_cases hlt : i < n
      ·have HKN2 := Lib.hid ((KNew.fresh HP10.out.rs [pq]).resolve_right (by simp))
       have HA2 := Lib.hid (below_alloc wr (.cells #[.int .i64 ((pq : Nat) : Int)] 3))
       have HP11 := Lib.hid (HP10.out.step (HP10.out.rs.below HA2.out) (Wr.of_below HA2.out) (Nat.le_refl _) rfl)
       go_wp2_with fail
       refine (rd_put R tv L fin a10 s6 nv10 (ns ++ ns10) _ HP11.out.rs ⟨4, [], [pq]⟩ _ HKN2.out (by rw [List.length_append]; omega)).mono ?_
       rintro e w12 ⟨nv12, rfl, b1, b2, b3⟩
       have HP12 := Lib.hid (HP11.out.putS b1 b2 b3 (by rw [List.length_append]; omega) (fun q hq => by cases hq; exact HP10.out.wr.size))
       obtain ⟨n2, hn2⟩ : ∃ n2, n2 = (ns ++ ns10).length := ⟨_, rfl⟩
       rw [← hn2]
       have HN2 := Lib.hid hn2
       clear b1 b2 b3 hn2
       go_wp2_with fail
       have hfin : NgO R tv L fin s nv ns w n s6 (SynP.negs n (.pow k m)) (.int .i64 ((n2 : Nat) : Int)) (.int .i64 ((i : Int) + 1)) w12 := by
        refine ⟨i + 1, .neg q, a10, nv12, _, by congr 1, by omega, ?_, HP12.out, ⟨?_, ?_⟩, ?_⟩
        ·rw [← HNG.out, show n - i = (n - (i + 1)) + 1 from by omega]; rfl
        ·rw [HN2.out, List.length_append, hql]; rfl
        ·rw [List.map_append, HQF.out, HPQ.out]; rfl
        ·simp only [List.length_append, List.length_singleton]; omega
       exact ⟨hfin, by simp [intOf] <;> omega⟩
      ·have hie : n - i = 0 := by omega
       have HQE : Hid (q = (SynP.negs n (.pow k m))) := by
        have := HNG.out
        rw [hie] at this; exact this
       clear hie
       go_wp2_with fail
       go_ret
       rw [HR6.out]
       exact ⟨_, a10, nv10, ns10, rfl, HP10.out, by rw [← HQE.out, HPQ.out]; rfl, by rw [← HQE.out]; exact HQF.out⟩
    | false =>
     rw [if_neg (by rw [hm]; decide)] at t2
     have HR6 : Hid (r = some (.ok (SynP.negs n k, s4))) := by show _ = _; rw [HR4.out, if_neg (by rw [hm]; decide)]; rfl
     have HP5 := Lib.hid (HP4.out.step t2 t1 (Nat.le_refl _) rfl)
     have HST2 : Hid (NgO R tv L fin s nv ns w n s4 (SynP.negs n k) (.int .i64 ((p : Nat) : Int)) (.int .i64 0) w5) := by
      refine ⟨0, k, a4, nv4, ns4, rfl, Nat.zero_le _, rfl, HP5.out, ⟨by rw [HP.out], HFL.out⟩, ?_⟩
      rw [List.length_append]; omega
     clear t1 t2 hm
     go_wp2_with fail
     go_loopw [4, 21] (fun kv iv wr => NgO R tv L fin s nv ns w n s4 (SynP.negs n k) kv iv wr) (fun _ iv _ => (n - intOf iv).toNat)
     case atStart => exact HST2.out
     clear HST2
     case round =>
      obtain ⟨i, q, a10, nv10, ns10, rfl, hin, hng, hps, hex, hfw⟩ := hrel
      have hql := hex.len
      have hqp := size_pos q
      obtain ⟨rfl, hqf⟩ := hex
      obtain ⟨pq, hpq⟩ : ∃ pq, pq = ns.length + q.size - 1 := ⟨_, rfl⟩
      rw [← hpq]
      have HPQ := Lib.hid hpq
      have HQF := Lib.hid hqf
      have HP10 := Lib.hid hps
      have HNG := Lib.hid hng
      rw [List.length_append] at hfw
      clear hpq hqf hps hng
      by_cases hlt : i < n
      ·have HKN2 := Lib.hid ((KNew.fresh HP10.out.rs [pq]).resolve_right (by simp))
       have HA2 := Lib.hid (below_alloc wr (.cells #[.int .i64 ((pq : Nat) : Int)] 3))
       have HP11 := Lib.hid (HP10.out.step (HP10.out.rs.below HA2.out) (Wr.of_below HA2.out) (Nat.le_refl _) rfl)
       go_wp2_with fail
       refine (rd_put R tv L fin a10 s4 nv10 (ns ++ ns10) _ HP11.out.rs ⟨4, [], [pq]⟩ _ HKN2.out (by rw [List.length_append]; omega)).mono ?_
       rintro e w12 ⟨nv12, rfl, b1, b2, b3⟩
       have HP12 := Lib.hid (HP11.out.putS b1 b2 b3 (by rw [List.length_append]; omega) (fun q hq => by cases hq; exact HP10.out.wr.size))
       obtain ⟨n2, hn2⟩ : ∃ n2, n2 = (ns ++ ns10).length := ⟨_, rfl⟩
       rw [← hn2]
       have HN2 := Lib.hid hn2
       clear b1 b2 b3 hn2
       go_wp2_with fail
       have hfin : NgO R tv L fin s nv ns w n s4 (SynP.negs n k) (.int .i64 ((n2 : Nat) : Int)) (.int .i64 ((i : Int) + 1)) w12 := by
        refine ⟨i + 1, .neg q, a10, nv12, _, by congr 1, by omega, ?_, HP12.out, ⟨?_, ?_⟩, ?_⟩
        ·rw [← HNG.out, show n - i = (n - (i + 1)) + 1 from by omega]; rfl
        ·rw [HN2.out, List.length_append, hql]; rfl
        ·rw [List.map_append, HQF.out, HPQ.out]; rfl
        ·simp only [List.length_append, List.length_singleton]; omega
       exact ⟨hfin, by simp [intOf] <;> omega⟩
      ·have hie : n - i = 0 := by omega
       have HQE : Hid (q = (SynP.negs n k)) := by
        have := HNG.out
        rw [hie] at this; exact this
       clear hie
       go_wp2_with fail
       go_ret
       rw [HR6.out]
       exact ⟨_, a10, nv10, ns10, rfl, HP10.out, by rw [← HQE.out, HPQ.out]; rfl, by rw [← HQE.out]; exact HQF.out⟩
end Go.Proofs.YtceggplnggkdnaaGreatDoor
namespace Go.Proofs.YtceggplnggkdnaaGreatDoor
open Go.RowKit NatP LexP
def TeO (R : Nat) (tv : Value) (L : List Tok) (fin : Nat) (s0 : SynP.St) (nv : Value) (ns : List Nv) (w : World) (f : Nat) (r : SynP.PR SynP.Ex) (kv : Value) (wr : World) : Prop :=
 ∃ g k s' a' nv' ns', g ≤ f ∧ SynP.termLoop fin g k s' = r ∧ PSt R tv L fin s0 nv ns w wr a' s' nv' ns' ∧ ExQ ns k kv ns' nv' wr
set_option maxRecDepth 100000 in
set_option maxHeartbeats 4000000 in
theorem term_of (fin f : Nat) (IH : ∀ g, g ≤ f → ExOk 331 (SynP.factor fin g) fin) : ExOk 180 (SynP.term fin (f + 1)) fin := by
 intro R tv L a s nv ns w h hf
 have H := Lib.hid h
 have HIH := Lib.hid IH
 obtain ⟨r, hr⟩ : ∃ r, r = SynP.term fin (f + 1) s := ⟨_, rfl⟩
 rw [← hr] at hf ⊢
 have HR0 : Hid (r = (SynP.factor fin f s).bind fun k s => SynP.termLoop fin f k s) := by show _ = _; rw [hr]; rfl
 have HNE := Lib.hid hf
 have hfew := h.few
 clear h hr hf IH
 go_enter Tryz.func180, Tryz.ntmps180
 go_wp2_with fail
 refine (HIH.out f (Nat.le_refl _) R tv L a s nv ns _ H.out (fun e => HNE.out (by rw [HR0.out, e]; rfl))).mono ?_
 rintro e w1 hn
 rcases hN : SynP.factor fin f s with - | (⟨fc, fk⟩ | ⟨k, s1⟩)
 ·rw [hN] at hn; exact hn.elim
 ·rw [hN] at hn
  obtain ⟨rfl, n1⟩ := hn
  refine ⟨rfl, ?_⟩
  have hre : r = some (.error (fc, fk)) := by rw [HR0.out, hN]; rfl
  rw [hre]
  exact ⟨rfl, n1⟩
 rw [hN] at hn
 obtain ⟨v1, a1, nv1, ns1, rfl, n1, n2⟩ := hn
 have HST : Hid (TeO R tv L fin s nv ns w f r v1 w1) := ⟨f, k, s1, a1, nv1, ns1, Nat.le_refl _, by rw [HR0.out, hN]; rfl, n1, n2⟩
 clear n1 n2 hN
 go_wp2_with fail
 go_loopw [3] (fun kv wr => TeO R tv L fin s nv ns w f r kv wr) (fun _ wr => leftOf L R wr)
 case atStart => exact HST.out
 clear HST
 case round =>
  obtain ⟨g, k, s2, a2, nv2, ns2, hgf, htu, hps, hex⟩ := hrel
  obtain ⟨wo, rfl⟩ : ∃ wo, wo = wr := ⟨_, rfl⟩
  cases g with
  | zero => exact absurd htu.symm HNE.out
  | succ g =>
   have hlen := hex.len
   have hsp := size_pos k
   obtain ⟨rfl, hfl⟩ := hex
   obtain ⟨p, hp⟩ : ∃ p, p = ns.length + k.size - 1 := ⟨_, rfl⟩
   rw [← hp]
   have HP := Lib.hid hp
   have HPS := Lib.hid hps
   have HFL := Lib.hid hfl
   have HL2 := Lib.hid hps.rs.left
   have HTU := Lib.hid htu
   have hfw := hps.few
   rw [List.length_append] at hfw
   clear hp hps hfl htu
   go_wp2_with fail
   refine (rd_take R tv L fin a2 s2 nv2 (ns ++ ns2) _ HPS.out.rs [42]).mono ?_
   rintro e w3 ⟨rfl, t1, t2⟩
   cases hm : SynP.isMark [42] s2.ts with
   | true =>
    rw [if_pos hm] at t2
    have hml := mark_len hm
    have HRR : Hid (r = (SynP.factor fin g s2.adv).bind fun t s => SynP.termLoop fin g (.mul k t) s) := by
     have h1 := HTU.out
     unfold SynP.termLoop at h1
     rw [if_pos hm] at h1
     exact h1.symm
    have HP3 := Lib.hid (HPS.out.step t2 t1 (by omega) rfl)
    clear t1 t2 hm
    go_wp2_with fail
    refine (HIH.out g (by omega) R tv L (a2 + 1) s2.adv nv2 (ns ++ ns2) _ HP3.out.rs (fun e => HNE.out (by rw [HRR.out, e]; rfl))).mono ?_
    rintro e w4 hn
    rcases hN : SynP.factor fin g s2.adv with - | (⟨fc, fk⟩ | ⟨t, s4⟩)
    ·rw [hN] at hn; exact hn.elim
    ·rw [hN] at hn
     obtain ⟨rfl, n1⟩ := hn
     refine ⟨rfl, ?_⟩
     have hre : r = some (.error (fc, fk)) := by rw [HRR.out, hN]; rfl
     rw [hre]
     exact ⟨rfl, HP3.out.wr.trans HP3.out.mv n1⟩
    rw [hN] at hn
    obtain ⟨v4, a4, nv4, ns4, rfl, n1, n2⟩ := hn
    have HRT : Hid (SynP.termLoop fin g (.mul k t) s4 = r) := by show _ = _; rw [HRR.out, hN]; rfl
    have hfw4 := n1.few
    simp only [List.length_append] at hfw4
    have HL4 := Lib.hid n1.rs.left
    have HP4 := Lib.hid (HP3.out.trans n1)
    have hlen4 := n2.len
    have hsp4 := size_pos t
    obtain ⟨rfl, hfl4⟩ := n2
    obtain ⟨q, hq⟩ : ∃ q, q = (ns ++ ns2).length + t.size - 1 := ⟨_, rfl⟩
    rw [← hq]
    have HQ := Lib.hid hq
    have HFL4 := Lib.hid hfl4
    have HKN := Lib.hid ((KNew.fresh HP4.out.rs [p, q]).resolve_right (by simp))
    have HA := Lib.hid (below_alloc w4 (.cells #[.int .i64 ((p : Nat) : Int), .int .i64 ((q : Nat) : Int)] 3))
    have HP5 := Lib.hid (HP4.out.step (HP4.out.rs.below HA.out) (Wr.of_below HA.out) (Nat.le_refl _) rfl)
    clear n1 hq hfl4 hN
    go_wp2_with fail
    refine (rd_put R tv L fin a4 s4 nv4 (ns ++ (ns2 ++ ns4)) _ HP5.out.rs ⟨8, [], [p, q]⟩ _ HKN.out (by simp only [List.length_append]; omega)).mono ?_
    rintro e w6 ⟨nv6, rfl, b1, b2, b3⟩
    have HP6 := Lib.hid (HP5.out.putS b1 b2 b3 (by simp only [List.length_append]; omega) (fun q hq => by cases hq; exact HP4.out.wr.size))
    have HL6 := Lib.hid b1.left
    obtain ⟨nn, hnn⟩ : ∃ nn, nn = (ns ++ (ns2 ++ ns4)).length := ⟨_, rfl⟩
    rw [← hnn]
    have HNN := Lib.hid hnn
    clear b1 b2 b3 hnn
    go_wp2_with fail
    have hfin : TeO R tv L fin s nv ns w f r (.int .i64 ((nn : Nat) : Int)) w6 := by
     refine ⟨g, .mul k t, s4, a4, nv6, _, by omega, HRT.out, HP6.out, ?_, ?_⟩
     ·rw [HNN.out]; simp only [List.length_append]; rw [hlen, hlen4]
      have e : (SynP.Ex.mul k t).size = k.size + t.size + 1 := rfl
      rw [e]; congr 2 <;> omega
     ·rw [List.map_append, List.map_append, HFL.out, HFL4.out, HP.out, HQ.out, List.length_append, hlen]
      show _ = k.flat ns.length ++ t.flat (ns.length + k.size) ++ [⟨8, [], [ns.length + k.size - 1, ns.length + k.size + t.size - 1]⟩]
      rfl
    have hlf : leftOf L R w6 < leftOf L R wo := by
     rw [HL6.out, HL2.out]; omega
    exact ⟨hfin, hlf⟩
   | false =>
    rw [if_neg (by rw [hm]; decide)] at t2
    have HRR : Hid (r = some (.ok (k, s2))) := by
     have h1 := HTU.out
     unfold SynP.termLoop at h1
     rw [if_neg (by rw [hm]; decide)] at h1
     show _ = _
     rw [← h1]; rfl
    have HP3 := Lib.hid (HPS.out.step t2 t1 (Nat.le_refl _) rfl)
    clear t1 t2 hm
    go_wp2_with fail
    go_ret
    rw [HRR.out]
    exact ⟨_, a2, nv2, ns2, rfl, HP3.out, by rw [HP.out]; rfl, HFL.out⟩
end Go.Proofs.YtceggplnggkdnaaGreatDoor
