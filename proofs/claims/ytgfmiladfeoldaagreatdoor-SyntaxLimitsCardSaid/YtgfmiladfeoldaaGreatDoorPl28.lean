/- Joined texts of this claim's proof: RdI, RdJ, RdK, SynO. -/
import Derived.Test.YtgfmiladfeoldaaGreatDoorPl23
import Derived.Test.YtgfmiladfeoldaaGreatDoorPl27
import Derived.Test.YtgfmiladfeoldaaGreatDoorPl26
set_option linter.unusedSimpArgs false
set_option linter.unusedVariables false
namespace Go.Proofs.YtgfmiladfeoldaaGreatDoor
open Go.RowKit NatP LexP
theorem Tryz.infoWss : (Tryz.prog.info? 36).map (fun i => (i.zero, i.size, i.bytes)) = some (some (.slice none 0 0), 1, 24) := by kernel_rfl
def Sx (w : World) (B : Nat) (og : Option Nat) (sv : Value) (s : List Nat) : Prop := ∃ ms : List Value, w.ownsRow B 59 1 sv ms.length ms ∧ ms.length = s.length ∧ (∀ q, sv.ownBlock = some q → og ≠ some q) ∧ ∀ (i : Nat) (m : Value) (n : Nat), ms[i]? = some m → s[i]? = some n → NFr B w m n ∧ ∀ q, m.ownBlock = some q → sv.ownBlock ≠ some q ∧ og ≠ some q
theorem Sx.wr {w w' : World} {B R : Nat} {og : Option Nat} {sv : Value} {s : List Nat} (h : Sx w B og sv s) (hw : Wr R none w w') (hR : R < B) : Sx w' B og sv s := by
 obtain ⟨ms, h1, h2, h3, h4⟩ := h
 exact ⟨ms, ownsRow_wr h1 hw hR, h2, h3, fun i m n hm hn => ⟨(h4 i m n hm hn).1.wr hw hR (fun q hq => by cases hq), (h4 i m n hm hn).2⟩⟩
theorem Sx.mono {w : World} {B B' : Nat} {og : Option Nat} {sv : Value} {s : List Nat} (h : Sx w B og sv s) (hb : B' ≤ B) : Sx w B' og sv s := by
 obtain ⟨ms, h1, h2, h3, h4⟩ := h
 exact ⟨ms, ownsRow_mono h1 hb, h2, h3, fun i m n hm hn => ⟨(h4 i m n hm hn).1.mono hb, (h4 i m n hm hn).2⟩⟩
theorem Sx.turn {w w' : World} {B g : Nat} {og og' : Option Nat} {sv : Value} {s : List Nat} (h : Sx w B og sv s) (hg : w.grownBy w' og) (hat : og' = some g) (hat2 : og = some g ∨ g = w.heap.size) : Sx w' B og' sv s := by
 obtain ⟨ms, h1, h2, h3, h4⟩ := h
 have hnew : ∀ q, q < w.heap.size → og ≠ some q → og' ≠ some q := by
  intro q hq hne e
  rw [hat] at e
  cases e
  rcases hat2 with h | h
  ·exact hne h
  ·omega
 refine ⟨ms, h1.kept hg ?_, h2, fun q hq => hnew q (h1.lt q hq).2 (h3 q hq), fun i m n hm hn => ?_⟩
 ·cases hv : sv.ownBlock with
  | none => exact .inl rfl
  | some q => exact .inr (fun e => h3 q hv e.symm)
 ·obtain ⟨q1, q2⟩ := h4 i m n hm hn
  exact ⟨q1.grown hg (fun q hq => (q2 q hq).2), fun q hq => ⟨(q2 q hq).1, hnew q (q1.2.1 q hq).2 (q2 q hq).2⟩⟩
theorem Sx.push {w w' : World} {B g cap N : Nat} {og : Option Nat} {sv : Value} {ms : List Value} {s : List Nat}
  (h1 : w.ownsRow B 59 1 sv ms.length ms) (h2 : ms.length = s.length) (h3 : ∀ q, sv.ownBlock = some q → og ≠ some q) (h4 : ∀ (i : Nat) (m : Value) (n : Nat), ms[i]? = some m → s[i]? = some n → NFr B w m n ∧ ∀ q, m.ownBlock = some q → sv.ownBlock ≠ some q ∧ og ≠ some q)
  {m : Value} {k : Nat} (hm : NFr B w m k) (hd : ∀ q, m.ownBlock = some q → sv.ownBlock ≠ some q ∧ og ≠ some q) (hog : ∀ q, og = some q → q < w.heap.size)
  (hown : w'.ownsRow B 59 1 (.slice (some ⟨g, 0, none⟩) N cap) N (ms ++ [m])) (hN : N = ms.length + 1) (hg : w.grownBy w' sv.ownBlock) (hat : sv.ownBlock = some g ∨ g = w.heap.size) :
  Sx w' B og (.slice (some ⟨g, 0, none⟩) N cap) (s ++ [k]) := by
 subst hN
 have hnew : ∀ q, q < w.heap.size → sv.ownBlock ≠ some q → (Value.ownBlock (.slice (some ⟨g, 0, none⟩) (ms.length + 1) cap)) ≠ some q := by
  intro q hq hne e
  cases e
  rcases hat with h | h
  ·exact hne h
  ·change g < _ at hq; omega
 have hl : (ms ++ [m]).length = ms.length + 1 := by simp
 refine ⟨ms ++ [m], by rw [hl]; exact hown, by rw [hl, h2]; simp, ?_, ?_⟩
 ·intro q hq e
  cases hq
  rcases hat with h | h
  ·exact h3 _ h e
  ·have := hog _ e; change g < _ at this; omega
 ·intro i x n hx hn
  by_cases hlt : i < ms.length
  ·rw [List.getElem?_append_left hlt] at hx
   rw [List.getElem?_append_left (by rw [← h2]; exact hlt)] at hn
   obtain ⟨q1, q2⟩ := h4 i x n hx hn
   exact ⟨q1.grown hg (fun q hq => (q2 q hq).1), fun q hq => ⟨hnew q (q1.2.1 q hq).2 (q2 q hq).1, (q2 q hq).2⟩⟩
  ·have hi : i = ms.length := by
    have := (List.getElem?_eq_some_iff.1 hx).1
    rw [hl] at this; omega
   subst hi
   rw [List.getElem?_append_right (Nat.le_refl _)] at hx
   rw [h2, List.getElem?_append_right (Nat.le_refl _)] at hn
   simp at hx hn
   subst hx; subst hn
   exact ⟨hm.grown hg (fun q hq => (hd q hq).1), fun q hq => ⟨hnew q (hm.2.1 q hq).2 (hd q hq).1, (hd q hq).2⟩⟩
structure Cx (w : World) (B : Nat) (lv : Value) (svs : List Value) (acc : List (List Nat)) : Prop where
 own : w.ownsRow B 36 1 lv svs.length svs
 len : svs.length = acc.length
 el : ∀ (j : Nat) (sv : Value) (s : List Nat), svs[j]? = some sv → acc[j]? = some s → Sx w B lv.ownBlock sv s
theorem Cx.wr {w w' : World} {B R : Nat} {lv : Value} {svs : List Value} {acc : List (List Nat)} (h : Cx w B lv svs acc) (hw : Wr R none w w') (hR : R < B) : Cx w' B lv svs acc :=
 ⟨ownsRow_wr h.own hw hR, h.len, fun j sv s h1 h2 => (h.el j sv s h1 h2).wr hw hR⟩
theorem Cx.push {w w' : World} {B g cap N : Nat} {lv : Value} {svs : List Value} {acc : List (List Nat)} (h : Cx w B lv svs acc) {sv : Value} {s : List Nat} (hs : Sx w B lv.ownBlock sv s)
  (hown : w'.ownsRow B 36 1 (.slice (some ⟨g, 0, none⟩) N cap) N (svs ++ [sv])) (hN : N = svs.length + 1) (hg : w.grownBy w' lv.ownBlock) (hat : lv.ownBlock = some g ∨ g = w.heap.size) :
  Cx w' B (.slice (some ⟨g, 0, none⟩) N cap) (svs ++ [sv]) (acc ++ [s]) := by
 subst hN
 have hl : (svs ++ [sv]).length = svs.length + 1 := by simp
 refine ⟨by rw [hl]; exact hown, by rw [hl, h.len]; simp, ?_⟩
 intro j x t hx ht
 by_cases hlt : j < svs.length
 ·rw [List.getElem?_append_left hlt] at hx
  rw [List.getElem?_append_left (by rw [← h.len]; exact hlt)] at ht
  exact (h.el j x t hx ht).turn hg rfl hat
 ·have hi : j = svs.length := by
   have := (List.getElem?_eq_some_iff.1 hx).1
   rw [hl] at this; omega
  subst hi
  rw [List.getElem?_append_right (Nat.le_refl _)] at hx
  rw [h.len, List.getElem?_append_right (Nat.le_refl _)] at ht
  simp at hx ht
  subst hx; subst ht
  exact hs.turn hg rfl hat
theorem Sl.of_own {w : World} {B n : Nat} {e : TypeId} {v : Value} {xs : List Value} {P : Nat → Value → Prop} (h : w.ownsRow B e 1 v xs.length xs) (hn : xs.length = n) (hp : ∀ j u, xs[j]? = some u → P j u) : Sl w v n P := by
 obtain ⟨ao, cap, e, h1, h2, h3⟩ := ownsRow_shape h
 subst hn
 refine ⟨ao, cap, e, h1, h2, fun h0 => ?_⟩
 obtain ⟨g, rfl, a1, a2, a3⟩ := h3 h0
 refine ⟨g, 0, rfl, a2, fun j hj => ⟨xs[j], ?_, hp j _ (List.getElem?_eq_getElem hj)⟩⟩
 rw [Nat.zero_add, a3 j (by omega), List.getElem?_eq_getElem hj]
theorem Cx.crd {w : World} {B : Nat} {lv : Value} {svs : List Value} {acc : List (List Nat)} (h : Cx w B lv svs acc) : CRd w lv acc := by
 refine Sl.of_own h.own h.len fun j sv hj => ?_
 have hja : j < acc.length := by rw [← h.len]; exact (List.getElem?_eq_some_iff.1 hj).1
 refine ⟨acc[j], List.getElem?_eq_getElem hja, ?_⟩
 obtain ⟨ms, h1, h2, -, h4⟩ := h.el j sv acc[j] hj (List.getElem?_eq_getElem hja)
 refine Sl.of_own h1 h2 fun i m hi => ?_
 have hia : i < acc[j].length := by rw [← h2]; exact (List.getElem?_eq_some_iff.1 hi).1
 exact ⟨acc[j][i], List.getElem?_eq_getElem hia, (h4 i m _ hi (List.getElem?_eq_getElem hia)).1.1⟩
end Go.Proofs.YtgfmiladfeoldaaGreatDoor
namespace Go.Proofs.YtgfmiladfeoldaaGreatDoor
open Go.RowKit NatP LexP
def CxO (R : Nat) (tv : Value) (L : List Tok) (fin : Nat) (nv : Value) (ns : List Nv) (w : World) (N : Nat) (r : SynP.PR (List (List Nat))) (lv : Value) (wr : World) : Prop :=
 ∃ f acc svs a' s', SynP.cpxLoop fin f acc s' = r ∧ RS wr R tv L fin a' s' nv ns ∧ Wr R none w wr ∧ Cx wr w.heap.size lv svs acc ∧ s'.ts.length ≤ N ∧ acc.length + s'.ts.length ≤ 67108864
def CxI (R : Nat) (tv : Value) (L : List Tok) (fin : Nat) (nv : Value) (ns : List Nv) (w : World) (N : Nat) (og : Option Nat) (r : SynP.PR (List Nat)) (sv : Value) (wr : World) : Prop :=
 ∃ f x a' s', SynP.simplex fin f x s' = r ∧ RS wr R tv L fin a' s' nv ns ∧ Wr R none w wr ∧ Sx wr w.heap.size og sv x ∧ s'.ts.length + 1 ≤ N ∧ x.length + s'.ts.length ≤ 67108864
set_option maxRecDepth 100000 in
set_option maxHeartbeats 8000000 in
theorem rd_complex (R : Nat) (tv : Value) (L : List Tok) (fin a : Nat) (s : SynP.St) (nv : Value) (ns : List Nv) (w : World) (h : RS w R tv L fin a s nv ns) (f : Nat) (hf : SynP.complex fin f s ≠ none) :
  Calls Tryz.prog 114 #[.pointer (some ⟨R, 0, none⟩)] w (RB (SynP.complex fin f s) R tv L fin s nv ns (fun l v w' => ∃ svs, Cx w' w.heap.size v svs l) w) := by
 have H := Lib.hid h
 have hRl := h.lt
 obtain ⟨r, hr⟩ : ∃ r, r = SynP.complex fin f s := ⟨_, rfl⟩
 rw [← hr] at hf ⊢
 have HR0 : Hid (r = (SynP.want fin [123] s).bind fun _ s => if SynP.isMark [125] s.ts then SynP.ret [] s.adv else SynP.cpxLoop fin f [] s) := by
  show _ = _
  rw [hr]; rfl
 have HNE := Lib.hid hf
 have hts : s.ts.length ≤ 67108864 := by have := h.short; rw [← h.drop, List.length_drop]; omega
 obtain ⟨i0, hi, hz0, hz1, hz2⟩ := info_parts Tryz.infoWs
 obtain ⟨j0, hj, hk0, hk1, hk2⟩ := info_parts Tryz.infoWss
 clear h hr hf
 go_enter Tryz.func114, Tryz.ntmps114
 go_wp2_with fail
 refine (rd_want R tv L fin a s nv ns _ H.out [123]).mono ?_
 rintro e w2 hn
 rcases hN : SynP.want fin [123] s with - | (⟨fc, fk⟩ | ⟨u2', s2⟩)
 ·rw [hN] at hn; exact hn.elim
 ·rw [hN] at hn
  obtain ⟨rfl, n1⟩ := hn
  refine ⟨rfl, ?_⟩
  have hre : r = some (.error (fc, fk)) := by rw [HR0.out, hN]; rfl
  rw [hre]
  exact ⟨rfl, n1⟩
 rw [hN] at hn
 obtain ⟨v2, a2, rfl, n1, n2, n3, rfl⟩ := hn
 have hl2 := want_len hN
 have HR2 : Hid (r = if SynP.isMark [125] s2.ts then SynP.ret [] s2.adv else SynP.cpxLoop fin f [] s2) := by show _ = _; rw [HR0.out, hN]; rfl
 have HA := Lib.hid (below_alloc w2 (.cells #[] 36))
 have HS2 := Lib.hid (n1.below HA.out)
 have HW2 := Lib.hid (RS.step n2 (Wr.of_below HA.out))
 have hC2 : Cx (w2.alloc (.cells #[] 36)) w.heap.size (.slice (some ⟨w2.heap.size, 0, none⟩) 0 0) [] [] :=
  ⟨World.ownsRow_made w2 #[] 0 n2.size (Nat.zero_le _) rfl, rfl, fun j sv s h => by simp at h⟩
 have HC2 := Lib.hid hC2
 clear n1 n2 n3 hN hC2
 go_wp2_with fail
 refine (rd_take R tv L fin a2 s2 nv ns _ HS2.out [125]).mono ?_
 rintro e w3 ⟨rfl, t1, t2⟩
 have HW3 := Lib.hid (RS.step HW2.out t1)
 have HC3 := Lib.hid (HC2.out.wr t1 hRl)
 clear t1
 cases hm : SynP.isMark [125] s2.ts with
 | true =>
  rw [if_pos hm] at t2
  have HS3 := Lib.hid t2
  have HM := Lib.hid hm
  clear t2 hm
  go_wp2_with fail
  go_ret
  rw [HR2.out, if_pos HM.out]
  exact ⟨_, _, rfl, HS3.out, HW3.out, Nat.le_trans (tail_le s2) (by omega), _, HC3.out⟩
 | false =>
  rw [if_neg (by rw [hm]; decide)] at t2 HR2
  have HS3 := Lib.hid t2
  have HM := Lib.hid hm
  have HST : Hid (CxO R tv L fin nv ns w s.ts.length r (.slice (some ⟨w2.heap.size, 0, none⟩) 0 0) w3) := ⟨f, [], [], a2, s2, HR2.out.symm, t2, HW3.out, HC3.out, by omega, by simp; omega⟩
  clear t2 hm HR2
  go_wp2_with fail
  go_loopw [2, 3, 4] (fun _ lv _ wr => CxO R tv L fin nv ns w s.ts.length r lv wr) (fun _ _ _ wr => leftOf L R wr)
  case atStart => exact HST.out
  clear HST HS3 HW3 HC3 HS2 HW2 HC2
  case round =>
   obtain ⟨f, acc, svs, a4, s4, hen, hrs, hwr, hcx, hb1, hb2⟩ := hrel
   obtain ⟨wo, rfl⟩ : ∃ wo, wo = wr := ⟨_, rfl⟩
   cases f with
   | zero => exact absurd hen.symm HNE.out
   | succ f =>
    have HR4 : Hid (r = (SynP.number fin s4).bind fun n s => (SynP.simplex fin f [n] s).bind fun x s => if SynP.isMark [125] s.ts then SynP.ret (acc ++ [x]) s.adv else (SynP.want fin [44] s).bind fun _ s => SynP.cpxLoop fin f (acc ++ [x]) s) := hen.symm
    have HS4 := Lib.hid hrs
    have HW4 := Lib.hid hwr
    have HC4 := Lib.hid hcx
    have HL4 := Lib.hid hrs.left
    have hRo := hrs.lt
    clear hen hrs hwr hcx
    go_wp2_with fail
    refine (rd_number R tv L fin a4 s4 nv ns _ HS4.out).mono ?_
    rintro e w5 hn
    rcases hN : SynP.number fin s4 with - | (⟨fc, fk⟩ | ⟨m, s5⟩)
    ·rw [hN] at hn; exact hn.elim
    ·rw [hN] at hn
     obtain ⟨rfl, n1⟩ := hn
     refine ⟨rfl, ?_⟩
     have hre : r = some (.error (fc, fk)) := by rw [HR4.out, hN]; rfl
     rw [hre]
     exact ⟨rfl, RS.step HW4.out n1⟩
    rw [hN] at hn
    obtain ⟨v5, a5, rfl, n1, n2, n3, n4⟩ := hn
    have hl5 := number_len hN
    have HR5 : Hid (r = (SynP.simplex fin f [m] s5).bind fun x s => if SynP.isMark [125] s.ts then SynP.ret (acc ++ [x]) s.adv else (SynP.want fin [44] s).bind fun _ s => SynP.cpxLoop fin f (acc ++ [x]) s) := by show _ = _; rw [HR4.out, hN]; rfl
    obtain ⟨vo, vcap, vl, rfl⟩ : ∃ vo vcap vl, v5 = .slice vo vl vcap := by
     obtain ⟨⟨xs, hx, -⟩, -⟩ := n4
     obtain ⟨vo, vcap, e, -⟩ := hx.2
     exact ⟨vo, vcap, _, e⟩
    have HA5 := Lib.hid (below_alloc w5 (.cells #[.slice vo vl vcap] 59))
    have HS5 := Lib.hid (n1.below HA5.out)
    have HW5 := Lib.hid (RS.step n2 (Wr.of_below HA5.out))
    have hSx : Sx (w5.alloc (.cells #[.slice vo vl vcap] 59)) wo.heap.size u3.ownBlock (.slice (some ⟨w5.heap.size, 0, none⟩) 1 1) [m] := by
     refine ⟨[.slice vo vl vcap], ⟨rfl, .inr ⟨w5.heap.size, 1, _, rfl, n2.size, heap_alloc_new w5 _, Nat.le_refl _, by unfold maxLen; omega, rfl, rfl⟩⟩, rfl, ?_, ?_⟩
     ·intro q hq e
      cases hq
      have h7 := (HC4.out.own.lt _ e).2
      change w5.heap.size < wo.heap.size at h7
      have := n2.size
      omega
     ·intro i x n hx hn
      have hi : i = 0 := by have := (List.getElem?_eq_some_iff.1 hx).1; simp at this; exact this
      subst hi
      simp at hx hn
      subst hx; subst hn
      refine ⟨n4.wr (R := R) (og := none) (Wr.of_below HA5.out) hRo (fun q hq => by cases hq), fun q hq => ⟨fun e => ?_, fun e => ?_⟩⟩
      ·cases e
       have h7 := (n4.2.1 _ hq).2
       change w5.heap.size < w5.heap.size at h7
       omega
      ·have := (HC4.out.own.lt _ e).2
       have := (n4.2.1 q hq).1
       omega
    obtain ⟨r2, hr2⟩ : ∃ r2, r2 = SynP.simplex fin f [m] s5 := ⟨_, rfl⟩
    rw [← hr2] at HR5
    have HR2N : Hid (r2 ≠ none) := by
     intro e
     have := HR5.out
     rw [e] at this
     exact HNE.out this
    have HI : Hid (CxI R tv L fin nv ns wo s4.ts.length u3.ownBlock r2 (.slice (some ⟨w5.heap.size, 0, none⟩) 1 1) (w5.alloc (.cells #[.slice vo vl vcap] 59))) := ⟨f, [m], a5, s5, hr2.symm, HS5.out, HW5.out, hSx, by omega, by simp; omega⟩
    clear n1 n2 n3 n4 hN hSx hr2 HR4 HS5 HW5
    go_wp2_with fail
    go_loopw [4] (fun sv wr => CxI R tv L fin nv ns wo s4.ts.length u3.ownBlock r2 sv wr) (fun _ wr => leftOf L R wr)
    case atStart => exact HI.out
    clear HI
    case round =>
     obtain ⟨f2, x, a6, s6, hsi, hrs, hwr, hsx, hb3, hb4⟩ := hrel
     cases f2 with
     | zero => exact absurd hsi.symm HR2N.out
     | succ f2 =>
      have HS6 := Lib.hid hrs
      have HW6 := Lib.hid hwr
      have HX6 := Lib.hid hsx
      have HL6 := Lib.hid hrs.left
      have HSI := Lib.hid hsi
      have hck := comes_kind 1 [] s6.ts (by decide)
      clear hrs hwr hsx hsi
      cases hk : SynP.isKind 1 s6.ts with
      | true =>
       rw [hk] at hck
       have HCK := Lib.hid hck
       have HSJ : Hid (r2 = (SynP.number fin s6).bind fun n s => SynP.simplex fin f2 (x ++ [n]) s) := by
        have h1 := HSI.out
        unfold SynP.simplex at h1
        rw [if_pos hk] at h1
        exact h1.symm
       clear hck hk HSI
       go_wp2_with fail
       refine (rd_comes R tv L fin a6 s6 nv ns _ HS6.out 0 1 [] (by omega) (by omega)).mono ?_
       rintro e w7 ⟨rfl, b1⟩
       rw [HCK.out]
       have HS7 := Lib.hid (HS6.out.below b1)
       have HW7 := Lib.hid (RS.step HW6.out (Wr.of_below b1))
       have HX7 := Lib.hid (HX6.out.wr (R := R) (Wr.of_below b1) hRo)
       clear b1
       go_wp2_with fail
       refine (rd_number R tv L fin a6 s6 nv ns _ HS7.out).mono ?_
       rintro e w8 hn
       rcases hN : SynP.number fin s6 with - | (⟨fc, fk⟩ | ⟨m2, s8⟩)
       ·rw [hN] at hn; exact hn.elim
       ·rw [hN] at hn
        obtain ⟨rfl, n1⟩ := hn
        refine ⟨rfl, ?_⟩
        have hre : r = some (.error (fc, fk)) := by rw [HR5.out, HSJ.out, hN]; rfl
        rw [hre]
        exact ⟨rfl, RS.step HW4.out (RS.step HW7.out n1)⟩
       rw [hN] at hn
       obtain ⟨v8, a8, rfl, n1, n2, n3, n4⟩ := hn
       have hl8 := number_len hN
       have HSK : Hid (SynP.simplex fin f2 (x ++ [m2]) s8 = r2) := by show _ = _; rw [HSJ.out, hN]; rfl
       obtain ⟨yo, ycap, yl, rfl⟩ : ∃ vo vcap vl, v8 = .slice vo vl vcap := by
        obtain ⟨⟨xs, hx, -⟩, -⟩ := n4
        obtain ⟨vo, vcap, e, -⟩ := hx.2
        exact ⟨vo, vcap, _, e⟩
       have HA8 := Lib.hid (below_alloc w8 (.cells #[.slice yo yl ycap] 59))
       have HS8 := Lib.hid (n1.below HA8.out)
       have HW8 := Lib.hid (RS.step (RS.step HW7.out n2) (Wr.of_below HA8.out))
       obtain ⟨ms, h1, h2, h3, h4⟩ := (HX7.out.wr n2 hRo).wr (R := R) (Wr.of_below HA8.out) hRo
       have hsz7 := HW7.out.size
       have hsz8 := n2.size
       have hm8 : NFr wo.heap.size (w8.alloc (.cells #[.slice yo yl ycap] 59)) (.slice yo yl ycap) m2 := (n4.wr (R := R) (og := none) (Wr.of_below HA8.out) (by omega) (fun q hq => by cases hq)).mono hsz7
       have hd8 : ∀ q, (Value.ownBlock (.slice yo yl ycap)) = some q → u4.ownBlock ≠ some q ∧ u3.ownBlock ≠ some q := by
        intro q hq
        have h7 := (n4.2.1 q hq).1
        refine ⟨fun e => ?_, fun e => ?_⟩
        ·obtain ⟨ms', g1, -⟩ := HX7.out
         have := (g1.lt q e).2; omega
        ·have := (HC4.out.own.lt q e).2; omega
       obtain ⟨nx, hnx⟩ : ∃ nx, nx = ms.length := ⟨_, rfl⟩
       have HNX := Lib.hid hnx
       have hnxl : nx ≤ 67108864 := by rw [hnx, h2]; omega
       have H1 := Lib.hid h1
       have H2 := Lib.hid h2
       have H3 := Lib.hid h3
       have H4 := Lib.hid h4
       have HM8 := Lib.hid hm8
       have HD8 := Lib.hid hd8
       have hOW : (w8.alloc (.cells #[.slice yo yl ycap] 59)).ownsRow wo.heap.size 59 1 u4 nx ms := by rw [hnx]; exact h1
       have HOW := Lib.hid hOW
       clear n1 n2 n3 n4 hN h1 h2 h3 h4 hm8 hd8 hnx hOW
       go_wp2_with (at_builtin; refine wpList_append_lies _ rfl _ _ 36 rfl wo.heap.size 59 i0 (.slice none 0 0) 1 24 Tryz.underlying36 hi hz0 hz1 hz2 rfl (by omega) u4 nx ms rfl HOW.out ⟨w8.heap.size, 0, none⟩ 1 1 [.slice yo yl ycap] rfl rfl (LexP.cells_new _ _ _ _ rfl) (by simp [Value.oneCell']) (by omega) (by unfold maxLen; omega) (by omega) (by simp; omega) (w8.heap.size + 1) (by simp) ?_)
       intro gg cap w9 hown9 hgrow hat hlt9
       have q1 := Sx.push (og := u3.ownBlock) H1.out H2.out H3.out H4.out HM8.out HD8.out (fun q hq => by have := (HC4.out.own.lt q hq).2; simp; omega) hown9 (by rw [HNX.out]) hgrow (by simpa using hat)
       obtain ⟨q2, q3⟩ := HS4.out.loc HS8.out HW8.out hgrow (fun q hq => (H1.out.lt q hq).1)
       have HQ1 := Lib.hid q1
       have HQ2 := Lib.hid q2
       have HQ3 := Lib.hid q3
       have HLFT := Lib.hid q2.left
       clear hown9 hgrow hat hlt9 q1 q2 q3
       go_wp2_with fail
       have hfin : CxI R tv L fin nv ns wo s4.ts.length u3.ownBlock r2 (.slice (some ⟨gg, 0, none⟩) (nx + 1) cap) w9 := ⟨f2, x ++ [m2], a8, s8, HSK.out, HQ2.out, HQ3.out, HQ1.out, by omega, by rw [List.length_append, List.length_singleton]; omega⟩
       have hlf : leftOf L R w9 < leftOf L R wr := by rw [HLFT.out, HL6.out]; omega
       first | exact ⟨hfin, hlf⟩ | exact ⟨by (repeat apply Exists.intro); exact ⟨hfin, rfl⟩, hlf⟩
      | false =>
       rw [hk] at hck
       have HCK := Lib.hid hck
       have HSJ : Hid (r = if SynP.isMark [125] s6.ts then SynP.ret (acc ++ [x]) s6.adv else (SynP.want fin [44] s6).bind fun _ s => SynP.cpxLoop fin f (acc ++ [x]) s) := by
        have h1 := HSI.out
        unfold SynP.simplex at h1
        rw [if_neg (by rw [hk]; decide)] at h1
        show _ = _
        rw [HR5.out, ← h1]; rfl
       clear hck hk HSI
       go_wp2_with fail
       refine (rd_comes R tv L fin a6 s6 nv ns _ HS6.out 0 1 [] (by omega) (by omega)).mono ?_
       rintro e w7 ⟨rfl, b1⟩
       rw [HCK.out]
       have HS7 := Lib.hid (HS6.out.below b1)
       have HW7 := Lib.hid (RS.step HW4.out (RS.step HW6.out (Wr.of_below b1)))
       have HX7 := Lib.hid (HX6.out.wr (R := R) (Wr.of_below b1) hRo)
       have HC7 := Lib.hid (HC4.out.wr (RS.step HW6.out (Wr.of_below b1)) hRl)
       clear b1
       obtain ⟨so, scap, sl, rfl⟩ : ∃ so scap sl, u4 = .slice so sl scap := by
        obtain ⟨ms, h1, -⟩ := HX7.out
        obtain ⟨so, scap, e, -⟩ := ownsRow_shape h1
        exact ⟨so, scap, _, e⟩
       have HA7 := Lib.hid (below_alloc w7 (.cells #[.slice so sl scap] 36))
       have HS8 := Lib.hid (HS7.out.below HA7.out)
       have HW8 := Lib.hid (RS.step HW7.out (Wr.of_below HA7.out))
       have HX8 := Lib.hid ((HX7.out.wr (R := R) (Wr.of_below HA7.out) hRo).mono HW4.out.size)
       have HC8 := Lib.hid (HC7.out.wr (R := R) (Wr.of_below HA7.out) hRl)
       obtain ⟨nx, hnx⟩ : ∃ nx, nx = svs.length := ⟨_, rfl⟩
       have HNX := Lib.hid hnx
       have hnxl : nx ≤ 67108864 := by rw [hnx, HC8.out.len]; omega
       have hOW : (w7.alloc (.cells #[.slice so sl scap] 36)).ownsRow w.heap.size 36 1 u3 nx svs := by rw [hnx]; exact HC8.out.own
       have HOW := Lib.hid hOW
       have hsz7 := HW7.out.size
       clear hnx hOW
       go_wp2_with (at_builtin; refine wpList_append_lies _ rfl _ _ 97 rfl w.heap.size 36 j0 (.slice none 0 0) 1 24 Tryz.underlying97 hj hk0 hk1 hk2 rfl (by omega) u3 nx svs rfl HOW.out ⟨w7.heap.size, 0, none⟩ 1 1 [.slice so sl scap] rfl rfl (LexP.cells_new _ _ _ _ rfl) (by simp [Value.oneCell']) (by omega) (by unfold maxLen; omega) (by omega) (by simp; omega) (w7.heap.size + 1) (by simp) ?_)
       intro gg cap w9 hown9 hgrow hat hlt9
       have q1 := HC8.out.push HX8.out hown9 (by rw [HNX.out]) hgrow (by simpa using hat)
       obtain ⟨q2, q3⟩ := H.out.loc HS8.out HW8.out hgrow (fun q hq => (HC8.out.own.lt q hq).1)
       have HQ1 := Lib.hid q1
       have HQ2 := Lib.hid q2
       have HQ3 := Lib.hid q3
       clear hown9 hgrow hat hlt9 q1 q2 q3
       go_wp2_with fail
       refine (rd_take R tv L fin a6 s6 nv ns _ HQ2.out [125]).mono ?_
       rintro e w10 ⟨rfl, t1, t2⟩
       have T1 := Lib.hid (RS.step HQ3.out t1)
       have TC := Lib.hid (HQ1.out.wr t1 hRl)
       clear t1
       cases h93 : SynP.isMark [125] s6.ts with
       | true =>
        rw [if_pos h93] at t2
        have T2 := Lib.hid t2
        have H93 := Lib.hid h93
        clear t2 h93
        go_wp2_with fail
        go_ret
        rw [HSJ.out, if_pos H93.out]
        exact ⟨_, _, rfl, T2.out, T1.out, Nat.le_trans (tail_le s6) (by omega), _, TC.out⟩
       | false =>
        rw [if_neg (by rw [h93]; decide)] at t2
        have T2 := Lib.hid t2
        have H93 := Lib.hid h93
        clear t2 h93
        go_wp2_with fail
        refine (rd_want R tv L fin a6 s6 nv ns _ T2.out [44]).mono ?_
        rintro e w11 hn
        rcases hN : SynP.want fin [44] s6 with - | (⟨fc, fk⟩ | ⟨m, s11⟩)
        ·rw [hN] at hn; exact hn.elim
        ·rw [hN] at hn
         obtain ⟨rfl, n1⟩ := hn
         refine ⟨rfl, ?_⟩
         have hre : r = some (.error (fc, fk)) := by rw [HSJ.out, if_neg (by rw [H93.out]; decide), hN]; rfl
         rw [hre]
         exact ⟨rfl, RS.step T1.out n1⟩
        ·rw [hN] at hn
         obtain ⟨v, a11, rfl, n1, n2, n3, rfl⟩ := hn
         have hwl := want_len hN
         have hre : SynP.cpxLoop fin f (acc ++ [x]) s11 = r := by rw [HSJ.out, if_neg (by rw [H93.out]; decide), hN]; rfl
         have HRF := Lib.hid hre
         have HL11 := Lib.hid n1.left
         have HN1 := Lib.hid n1
         have HN2 := Lib.hid (RS.step T1.out n2)
         have HC11 := Lib.hid (TC.out.wr n2 hRl)
         clear n1 n2 n3 hre hN
         go_wp2_with fail
         have hfin : CxO R tv L fin nv ns w s.ts.length r (.slice (some ⟨gg, 0, none⟩) (nx + 1) cap) w11 := ⟨f, acc ++ [x], _, a11, s11, HRF.out, HN1.out, HN2.out, HC11.out, by omega, by rw [List.length_append, List.length_singleton]; omega⟩
         have hlf : leftOf L R w11 < leftOf L R wo := by rw [HL11.out, HL4.out]; omega
         first | exact ⟨hfin, hlf⟩ | exact ⟨by (repeat apply Exists.intro); exact ⟨hfin, rfl⟩, hlf⟩
end Go.Proofs.YtgfmiladfeoldaaGreatDoor
namespace Go.Proofs.YtgfmiladfeoldaaGreatDoor
open Go.RowKit NatP LexP
structure PSt (R : Nat) (tv : Value) (L : List Tok) (fin : Nat) (s0 : SynP.St) (nv : Value) (ns : List Nv) (w wr : World) (a' : Nat) (s' : SynP.St) (nv' : Value) (ns' : List Nv) : Prop where
 rs : RS wr R tv L fin a' s' nv' (ns ++ ns')
 wr : Wr R nv.ownBlock w wr
 mv : Mv w nv.ownBlock nv'.ownBlock
 few : (ns ++ ns').length + s'.ts.length ≤ ns.length + s0.ts.length
 opn : s'.opened = s0.opened
 fresh : ∀ p ∈ ns', ∀ q, p.2.ownBlock = some q → w.heap.size ≤ q
theorem PSt.refl {R : Nat} {tv : Value} {L : List Tok} {fin a : Nat} {s : SynP.St} {nv : Value} {ns : List Nv} {w : World} (h : RS w R tv L fin a s nv ns) : PSt R tv L fin s nv ns w w a s nv [] :=
 ⟨by rw [List.append_nil]; exact h, Wr.refl _ _ _, Mv.refl _ _, by rw [List.append_nil]; exact Nat.le_refl _, rfl, fun p hp => by cases hp⟩
theorem PSt.trans {R : Nat} {tv : Value} {L : List Tok} {fin : Nat} {s0 s1 s2 : SynP.St} {nv nv1 nv2 : Value} {ns ns1 ns2 : List Nv} {w w1 w2 : World} {a1 a2 : Nat} (h : PSt R tv L fin s0 nv ns w w1 a1 s1 nv1 ns1) (k : PSt R tv L fin s1 nv1 (ns ++ ns1) w1 w2 a2 s2 nv2 ns2) :
  PSt R tv L fin s0 nv ns w w2 a2 s2 nv2 (ns1 ++ ns2) :=
 ⟨by rw [← List.append_assoc]; exact k.rs, h.wr.trans h.mv k.wr, Mv.trans (R := R) (w' := w1) h.mv h.wr.size k.mv, by have := h.few; have := k.few; rw [← List.append_assoc]; omega, k.opn.trans h.opn, fun p hp q hq => by
  rcases List.mem_append.1 hp with hp | hp
  ·exact h.fresh p hp q hq
  ·exact Nat.le_trans h.wr.size (k.fresh p hp q hq)⟩
theorem PSt.step {R : Nat} {tv : Value} {L : List Tok} {fin : Nat} {s0 s1 s2 : SynP.St} {nv nv1 : Value} {ns ns1 : List Nv} {w w1 w2 : World} {a1 a2 : Nat} (h : PSt R tv L fin s0 nv ns w w1 a1 s1 nv1 ns1) (k : RS w2 R tv L fin a2 s2 nv1 (ns ++ ns1)) (hw : Wr R none w1 w2) (hl : s2.ts.length ≤ s1.ts.length) (ho : s2.opened = s1.opened) :
  PSt R tv L fin s0 nv ns w w2 a2 s2 nv1 ns1 :=
 ⟨k, h.wr.trans h.mv (hw.weak _), h.mv, by have := h.few; omega, ho.trans h.opn, h.fresh⟩
theorem PSt.putS {R : Nat} {tv : Value} {L : List Tok} {fin : Nat} {s0 s1 : SynP.St} {nv nv1 nv2 : Value} {ns ns1 : List Nv} {w w1 w2 : World} {a1 : Nat} {nd : SynP.Node} {kv : Value} (h : PSt R tv L fin s0 nv ns w w1 a1 s1 nv1 ns1)
  (k : RS w2 R tv L fin a1 s1 nv2 (ns ++ ns1 ++ [(nd, kv)])) (hw : Wr R nv1.ownBlock w1 w2) (hm : Mv w1 nv1.ownBlock nv2.ownBlock) (hf : (ns ++ ns1).length + 1 + s1.ts.length ≤ ns.length + s0.ts.length) (hv : ∀ q, kv.ownBlock = some q → w.heap.size ≤ q) :
  PSt R tv L fin s0 nv ns w w2 a1 s1 nv2 (ns1 ++ [(nd, kv)]) :=
 ⟨by rw [← List.append_assoc]; exact k, h.wr.trans h.mv hw, Mv.trans (R := R) (w' := w1) h.mv h.wr.size hm, by rw [← List.append_assoc, List.length_append, List.length_singleton]; omega, h.opn, fun p hp q hq => by
  rcases List.mem_append.1 hp with hp | hp
  ·exact h.fresh p hp q hq
  ·rw [List.mem_singleton.1 hp] at hq; exact hv q hq⟩
def RP {α : Type} (r : SynP.PR α) (R : Nat) (tv : Value) (L : List Tok) (fin : Nat) (s : SynP.St) (nv : Value) (ns : List Nv) (Q : α → Value → List Nv → Value → World → Prop) (w : World) (e : Ending) (w' : World) : Prop :=
 match r with
 | none => False
 | some (.error (c, k)) => e = FaultE c k ∧ Wr R nv.ownBlock w w'
 | some (.ok (x, s')) => ∃ v a' nv' ns', e = .returned v ∧ PSt R tv L fin s nv ns w w' a' s' nv' ns' ∧ Q x v ns' nv' w'
def ExQ (ns : List Nv) (e : SynP.Ex) (v : Value) (ns' : List Nv) (_ : Value) (_ : World) : Prop := v = .int .i64 ((ns.length + e.size - 1 : Nat) : Int) ∧ ns'.map Prod.fst = e.flat ns.length
mutual
theorem flat_len : ∀ (e : SynP.Ex) (o : Nat), (e.flat o).length = e.size
 | .num _, _ | .name _, _ | .mat _, _ | .cpx _, _ => rfl
 | .neg a, o | .turn a, o | .pow a _, o => by simp [SynP.Ex.flat, SynP.Ex.size, flat_len a]
 | .add a b, o | .sub a b, o | .mul a b, o => by simp [SynP.Ex.flat, SynP.Ex.size, flat_len a, flat_len b]; omega
 | .call _ l, o => by simp [SynP.Ex.flat, SynP.Ex.size, flats_len l]
theorem flats_len : ∀ (l : SynP.Exs) (o : Nat), (l.flat o).length = l.size
 | .nil, _ => rfl
 | .cons a l, o => by simp [SynP.Exs.flat, SynP.Exs.size, flat_len a, flats_len l]
end
theorem size_pos : ∀ e : SynP.Ex, 0 < e.size := by
 intro e; cases e <;> simp [SynP.Ex.size]
theorem ExQ.len {ns ns' : List Nv} {e : SynP.Ex} {v nv : Value} {w : World} (h : ExQ ns e v ns' nv w) : ns'.length = e.size := by
 have := congrArg List.length h.2
 rw [List.length_map, flat_len] at this; exact this
theorem KNew.fresh {w : World} {R : Nat} {tv : Value} {L : List Tok} {fin a : Nat} {s : SynP.St} {nv : Value} {ns : List Nv} (h : RS w R tv L fin a s nv ns) (ks : List Nat) :
  KNew (w.alloc (.cells (ks.map fun k => Value.int .i64 ((k : Nat) : Int)).toArray 3)) R nv ns (.slice (some ⟨w.heap.size, 0, none⟩) ks.length ks.length) ks ∨ 9223372036854775807 < ks.length := by
 by_cases hl : ks.length ≤ 9223372036854775807
 ·left
  have hb := heap_alloc_new w (.cells (ks.map fun k => Value.int .i64 ((k : Nat) : Int)).toArray 3)
  refine ⟨⟨_, _, rfl, Nat.le_refl _, by unfold maxLen; omega, ?_, fun _ => ⟨_, rfl, fun j k hj => ?_⟩⟩, fun p hp q hq e => ?_⟩
  ·intro q hq
   cases hq
   refine ⟨h.lt, by simp, fun e => ?_⟩
   have h7 := (h.own.lt _ e).2
   change w.heap.size < w.heap.size at h7
   omega
  ·rw [cell_of_row _ _ _ _ _ _ hb]; simp [hj]
  ·cases e
   obtain ⟨ao, cap, e1, -, -, h3, -⟩ := h.kids p hp
   have h7 := (h3 _ hq).2.1
   change w.heap.size < w.heap.size at h7
   omega
 ·right; omega
theorem KNew.nil {w : World} {R : Nat} {nv : Value} {ns : List Nv} : KNew w R nv ns (.slice none 0 0) [] :=
 ⟨⟨none, 0, rfl, Nat.le_refl _, Nat.zero_le _, fun q hq => by simp [Value.ownBlock] at hq, fun h => absurd h (Nat.lt_irrefl _)⟩, fun p _ q _ e => by simp [Value.ownBlock] at e⟩
end Go.Proofs.YtgfmiladfeoldaaGreatDoor
namespace SynP
open LexP
def Keep (s s' : St) : Prop := s'.opened = s.opened ∧ s'.ts.length ≤ s.ts.length
theorem Keep.refl (s : St) : Keep s s := ⟨rfl, Nat.le_refl _⟩
theorem Keep.trans {a b c : St} (h : Keep a b) (k : Keep b c) : Keep a c := ⟨k.1.trans h.1, Nat.le_trans k.2 h.2⟩
theorem Keep.adv (s : St) : Keep s s.adv := ⟨rfl, by show s.ts.tail.length ≤ _; rw [List.length_tail]; omega⟩
theorem ret_ok {α : Type} {a : α} {s : St} {r : α × St} (h : ret a s = some (.ok r)) : r = (a, s) := by unfold ret at h; cases h; rfl
theorem fault_ok {α : Type} {c k : Nat} {r : α × St} (h : (fault c k : PR α) = some (.ok r)) : False := by unfold fault at h; cases h
theorem want_keep {fin : Nat} {x : Bytes} {s : St} {r : Unit × St} (h : want fin x s = some (.ok r)) : Keep s r.2 := by
 unfold want at h
 split at h
 ·rw [ret_ok h]; exact Keep.adv s
 ·unfold unfit at h; exact (fault_ok h).elim
theorem number_keep {fin : Nat} {s : St} {r : Nat × St} (h : number fin s = some (.ok r)) : Keep s r.2 := by
 unfold number at h
 split at h
 ·rw [ret_ok h]; exact Keep.adv s
 ·unfold unfit at h; exact (fault_ok h).elim
theorem entryRow_keep (fin : Nat) : ∀ (f n : Nat) (acc : List (Bool × Nat)) (s : St) (r : (Nat × List (Bool × Nat)) × St), entryRow fin f n acc s = some (.ok r) → Keep s r.2
 | 0, _, _, _, _, h => by cases h
 | f + 1, n, acc, s, r, h => by
  unfold entryRow at h
  split at h
  ·obtain ⟨m, s', h1, h2⟩ := bind_ok h
   have k1 := number_keep h1
   have k2 := entryRow_keep fin f _ _ _ _ h2
   refine Keep.trans ?_ (k1.trans k2)
   split
   ·exact Keep.adv s
   ·exact Keep.refl s
  ·rw [ret_ok h]; exact Keep.refl s
theorem entries_keep (fin : Nat) : ∀ (f : Nat) (acc : List (Bool × Nat)) (lens : List Nat) (s : St) (r : (List (Bool × Nat) × List Nat) × St), entries fin f acc lens s = some (.ok r) → Keep s r.2
 | 0, _, _, _, _, h => by cases h
 | f + 1, acc, lens, s, r, h => by
  unfold entries at h
  obtain ⟨q, s1, h1, h2⟩ := bind_ok h
  have k1 := entryRow_keep fin f _ _ _ _ h1
  split at h2
  ·rw [ret_ok h2]; exact k1.trans (Keep.adv s1)
  ·obtain ⟨u, s2, h3, h4⟩ := bind_ok h2
   exact k1.trans ((want_keep h3).trans (entries_keep fin f _ _ _ _ h4))
theorem matrix_keep {fin f : Nat} {s : St} {r : MatV × St} (h : matrix fin f s = some (.ok r)) : Keep s r.2 := by
 unfold matrix at h
 obtain ⟨u, s1, h1, h2⟩ := bind_ok h
 refine (want_keep h1).trans ?_
 split at h2
 ·unfold matShape at h2
  obtain ⟨a, s2, g1, h3⟩ := bind_ok h2
  obtain ⟨_, s3, g2, h4⟩ := bind_ok h3
  obtain ⟨c, s4, g3, h5⟩ := bind_ok h4
  obtain ⟨_, s5, g4, h6⟩ := bind_ok h5
  refine (number_keep g1).trans ((want_keep g2).trans ((number_keep g3).trans ((want_keep g4).trans ?_)))
  split at h6
  ·exact (fault_ok h6).elim
  ·rw [ret_ok h6]; exact Keep.refl _
 ·obtain ⟨q, s2, h3, h4⟩ := bind_ok h2
  refine (entries_keep fin f _ _ _ _ h3).trans ?_
  unfold matDone at h4
  split at h4
  ·exact (fault_ok h4).elim
  ·split at h4
   ·exact (fault_ok h4).elim
   ·rw [ret_ok h4]; exact Keep.refl _
theorem simplex_keep (fin : Nat) : ∀ (f : Nat) (acc : List Nat) (s : St) (r : List Nat × St), simplex fin f acc s = some (.ok r) → Keep s r.2
 | 0, _, _, _, h => by cases h
 | f + 1, acc, s, r, h => by
  unfold simplex at h
  split at h
  ·obtain ⟨m, s', h1, h2⟩ := bind_ok h
   exact (number_keep h1).trans (simplex_keep fin f _ _ _ h2)
  ·rw [ret_ok h]; exact Keep.refl s
theorem cpxLoop_keep (fin : Nat) : ∀ (f : Nat) (acc : List (List Nat)) (s : St) (r : List (List Nat) × St), cpxLoop fin f acc s = some (.ok r) → Keep s r.2
 | 0, _, _, _, h => by cases h
 | f + 1, acc, s, r, h => by
  unfold cpxLoop at h
  obtain ⟨n, s1, h1, h2⟩ := bind_ok h
  obtain ⟨x, s2, h3, h4⟩ := bind_ok h2
  refine (number_keep h1).trans ((simplex_keep fin f _ _ _ h3).trans ?_)
  split at h4
  ·rw [ret_ok h4]; exact Keep.adv s2
  ·obtain ⟨u, s3, h5, h6⟩ := bind_ok h4
   exact (want_keep h5).trans (cpxLoop_keep fin f _ _ _ h6)
theorem complex_keep {fin f : Nat} {s : St} {r : List (List Nat) × St} (h : complex fin f s = some (.ok r)) : Keep s r.2 := by
 unfold complex at h
 obtain ⟨u, s1, h1, h2⟩ := bind_ok h
 refine (want_keep h1).trans ?_
 split at h2
 ·rw [ret_ok h2]; exact Keep.adv s1
 ·exact cpxLoop_keep fin f _ _ _ h2
end SynP
