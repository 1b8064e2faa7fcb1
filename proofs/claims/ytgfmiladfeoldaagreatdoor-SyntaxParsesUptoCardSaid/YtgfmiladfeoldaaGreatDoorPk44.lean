/- Joined texts of this claim's proof: RnB, RnD, RnF, RnH. -/
import Derived.Test.YtgfmiladfeoldaaGreatDoorPk1
import Derived.Test.YtgfmiladfeoldaaGreatDoorPk43
import Derived.Test.YtgfmiladfeoldaaGreatDoorPk15
import Derived.Test.YtgfmiladfeoldaaGreatDoorPk6
import Derived.Test.YtgfmiladfeoldaaGreatDoorPk18
import Derived.Test.YtgfmiladfeoldaaGreatDoorPk28
set_option linter.unusedSimpArgs false
set_option linter.unusedVariables false
set_option maxRecDepth 100000
set_option maxHeartbeats 16000000
namespace Go.Proofs.YtgfmiladfeoldaaGreatDoor
open Go.RowKit LexP NumP NatP
def lowB (l:List Nat):Qx:=l.map fun d=>UInt8.ofNat (48+d)
def Qyt (N:Nat)(w1:World)(dv lv:Value)(wr:World):Prop:=
 ∃ds low,Qa ds=ds/\(∀d∈ds,d<65536)/\dg N=dg (valD ds)++low.reverse/\(∀d∈low,d<10)/\OwnD w1.heap.size wr dv ds/\OwnB w1.heap.size wr lv (lowB low)/\
  (∀q,dv.ownBlock=some q->lv.ownBlock≠some q)/\Below w1.heap.size w1 wr
theorem Sm {w w':World}{B B':Nat}{e:TypeId}{z:Nat}{v:Value}{n:Nat}{xs:List Value}(h:w.ownsRow B e z v n xs)(hB:B'<=B)(hb:∀q,v.ownBlock=some q->w'.heap[q]?=w.heap[q]?):w'.ownsRow B' e z v n xs:=by
 refine⟨h.1,?_⟩;rcases h.2 with O|⟨g,J,I,rfl,H,K,E⟩
 ·exact .inl O
 ·exact .inr ⟨g,J,I,rfl,Nat.le_trans hB H,(hb g rfl).trans K,E⟩
def Rh (v:Value):Nat:=match v with| .slice _ n _=>n|_=>0
def Qyg (m:Nat)(low:List Nat)(gl lcap gh:Nat)(w1:World)(si:Value)(wr:World):Prop:=
 ∃i,i<=m/\si=.int .i64 (i:Nat)/\wr.ownsRow w1.heap.size 5 1 (.slice (some ⟨gh,0,none⟩) m m) m (Qr (List.replicate (m-i) 0++((lowB low).take i).reverse))/\
  wr.ownsRow w1.heap.size 5 1 (.slice (some ⟨gl,0,none⟩) m lcap) m (Qr (lowB low))/\Below w1.heap.size w1 wr
theorem Qqo (m:Nat):(madeCells #[Value.int .u8 0] m).toList=List.replicate m (Value.int .u8 0):=by
 apply List.ext_getElem
 ·simp[madeCells]
 ·intro i h E
  simp[madeCells,Nat.mod_one]
theorem Cc (m:Nat):Qr (List.replicate m 0)=List.replicate m (Value.int .u8 0):=by simp[Qr]
theorem Qq2 (xs : List Nat) (v : Value) (w : World) (hv : Rd w v xs) (hl : xs.length ≤ 67108864) :
    Calls Tryz.prog 187 #[v, .int .i64 10] w fun e w' => e = .returned (.tuple #[.string ⟨(SynP.decT (val xs)).toArray⟩, .int .i64 0]) ∧ Below w.heap.size w w' := by
  obtain ⟨i0, hi, hz0, hz1, hz2⟩ := info_parts Tryz.infoU8
  have HV := zq hv
  have HOK := zq hv.ok
  obtain ⟨N, hN⟩ : ∃ N, N = val xs := ⟨_, rfl⟩
  rw [← hN]
  have HN := zq hN
  have hdl : (dg N).length ≤ 1342177280 := by
    have h1 := Qm2 (Vl xs)
    rw [Ws hv.ok, ← hN, R0] at h1
    omega
  clear hv hN
  go_enter Tryz.func187, Tryz.ntmps187
  go_wp2_with fail
  refine (Sa xs v _ HV.o hl).mono ?_
  rintro e w1 ⟨d1, rfl, ho1, hb1⟩
  have HO1 := zq ho1
  have HB1 := zq hb1
  have hST : Qyt N w d1 (.slice none 0 0) w1 := by
    refine ⟨Qa (Yp xs), [], W0 _, Js (Vl _), ?_, fun d h => by simp at h, ho1, World.ownsRow_nil _ _ _ _, fun q _ h => by simp [Value.ownBlock] at h, hb1⟩
    rw [Jw, Ws HOK.o, HN.o]; simp
  have HST := zq hST
  clear ho1 hb1 hST
  go_wp2_with fail
  go_loopw [6, 7] (fun dv lv wr => Qyt N w dv lv wr) (fun _ lv _ => (dg N).length - Rh lv)
  case atStart => exact HST.o
  case round =>
    obtain ⟨ds, low, hst, hsm, hdg, hlo, hod, hol, hne, hb⟩ := hrel
    have hzz := hb.size
    have HDG := zq hdg
    have HLO := zq hlo
    have HB := zq hb
    have HSM := zq hsm
    have HNE := zq hne
    have hll : low.length ≤ 1342177280 := by
      have := congrArg List.length hdg
      rw [List.length_append, List.length_reverse] at this
      omega
    have HLEN : Hid ((dg N).length = (dg (valD ds)).length + low.length) := by
      show _ = _
      rw [hdg, List.length_append, List.length_reverse]
    have HD := zq hod
    have HL := zq hol
    obtain ⟨dso, dcap, hde, -, dcm, -⟩ := Qj hod
    obtain ⟨lo, lcap, hle, -, lcm, -⟩ := Qj hol
    subst hde
    subst hle
    have hlb : (lowB low).length = low.length := by unfold lowB; rw [List.length_map]
    by_cases h0 : ds = []
    · have hn0 : ds.length = 0 := by rw [h0]; rfl
      have hdg2 : low.reverse = dg N := by
        rw [hdg, h0, show valD [] = 0 from rfl, Jt]; rfl
      have HT := zq (Qgg hdg2)
      rw [hn0]
      obtain ⟨m, hm⟩ : ∃ m, m = (lowB low).length := ⟨_, rfl⟩
      rw [hlb] at hm
      rw [hlb, ← hm] at HL ⊢
      have HM := zq hm
      by_cases hm0 : m = 0
      · have hl0 : low = [] := List.eq_nil_of_length_eq_zero (by omega)
        have HT0 : Hid (SynP.decT N = [48]) := by show _ = _; rw [HT.o, if_pos hl0]
        subst hm0
        clear hst hsm hdg hlo hod hol hne hb hdg2 hm hlb h0 hn0 dcm lcm hl0
        go_wp2_with fail
        go_ret2
        refine ⟨?_, HB.o⟩
        rw [HT0.o]; rfl
      · have hmb : m ≤ 1342177280 := by omega
        have hmz : (((m : Nat) : Int) == 0) = false := by simp; omega
        have HT1 : Hid (SynP.decT N = (lowB low).reverse) := by
          show _ = _
          rw [HT.o, if_neg (by rintro rfl; exact hm0 (by rw [hm]; rfl))]
          unfold lowB
          rw [List.map_reverse]
        clear hst hsm hdg hlo hod hol hne hb hdg2 hlb h0 hn0 dcm lcm
        obtain ⟨gl, hgl⟩ : ∃ gl, lo = some ⟨gl, 0, none⟩ := by
          obtain ⟨ao', cap', e, _, _, a3⟩ := Qj HL.o
          cases e
          obtain ⟨g, hg, -⟩ := a3 (by have := HM.o; have : (lowB low).length = low.length := by unfold lowB; rw [List.length_map]
                                      omega)
          exact ⟨g, hg⟩
        subst hgl
        have HLL : Hid ((lowB low).length = m) := by show _ = _; unfold lowB; rw [List.length_map]; exact HM.o.symm
        have HL2 : Hid (wr.ownsRow w.heap.size 5 1 (.slice (some ⟨gl, 0, none⟩) m lcap) m (Qr (lowB low))) := by
          have := HL.o
          unfold OwnB at this
          rw [HLL.o] at this
          exact this
        clear hm
        go_wp2_with (at_make; refine wpList_make_full _ rfl _ _ 88 rfl w.heap.size 5 i0 (.int .u8 0) 1 Tryz.underlying88 hi hz0 hz1 _ _ _ _ m rfl rfl rfl rfl (by rw [hz2]; omega) (by unfold maxLen; omega) (by exact hzz) ?_)
        intro w4 hown4 hgrow4
        have hgll := (HL.o.lt gl rfl)
        have HST4 : Hid (Qyg m low gl lcap wr.heap.size w (.int .i64 0) w4) := by
          refine ⟨0, Nat.zero_le _, rfl, ?_, ?_, Below.grown HB.o hgrow4 hzz (fun k hk => by cases hk)⟩
          · have e : (madeCells (Value.int .u8 0).cells (m * 1)).toList = Qr (List.replicate (m - 0) 0 ++ ((lowB low).take 0).reverse) := by
              rw [show (Value.int .u8 0).cells = #[Value.int .u8 0] from rfl, Nat.mul_one, Qqo, Nat.sub_zero, List.take_zero, List.reverse_nil, List.append_nil, Cc]
            rw [← e]
            show World.ownsRow _ _ _ _ _ _ (madeCells #[Value.int .u8 0] (m * 1)).toList
            rw [Nat.mul_one]; exact hown4
          · exact World.ownsRow.kept HL2.o hgrow4 (.inr (by simp [Value.ownBlock]))
        have hgne : gl ≠ wr.heap.size := by omega
        have HNE2 := zq hgne
        clear hown4 hgrow4
        go_wp2_with fail
        obtain ⟨wo, hwo⟩ : ∃ wo, wo = wr := ⟨_, rfl⟩
        subst hwo
        go_loopw [10] (fun si wr => Qyg m low gl lcap wo.heap.size w si wr) (fun si _ => m - (intOf si).toNat)
        case atStart => exact HST4.o
        case round =>
          obtain ⟨i, hi0, rfl, hoh, hol, hb⟩ := hrel
          have hzz := hb.size
          have HB := zq hb
          have HOL := zq hol
          by_cases hlt : i < m
          · have hwlen : ((lowB low).take i).length = i := by rw [List.length_take, HLL.o]; omega
            obtain ⟨c, hc⟩ : ∃ c, (lowB low)[i]? = some c := ⟨_, List.getElem?_eq_getElem (by rw [HLL.o]; exact hlt)⟩
            obtain ⟨ao', cap', e, _, _, a3⟩ := Qj hol
            cases e
            obtain ⟨g', e, b1, b2, b3⟩ := a3 (by omega)
            cases e
            have c1 : wr.cell? ⟨gl, i, none⟩ = some (.int .u8 ((c.toNat : Nat) : Int)) := by
              rw [b3 i (by omega)]; simp [Qr, hc]
            obtain ⟨k, hk⟩ : ∃ k, m = i + 1 + k := ⟨m - i - 1, by omega⟩
            have hk1 : ((m : Nat) : Int) - 1 - (i : Int) = ((k : Nat) : Int) := by omega
            have hk2 : (0 : Int) ≤ ((k : Nat) : Int) := by omega
            have hk3 : ((k : Nat) : Int) < ((m : Nat) : Int) := by omega
            have hst := hoh.stored k (.int .u8 ((c.toNat : Nat) : Int))
            have hset : (Qr (List.replicate (m - i) 0 ++ ((lowB low).take i).reverse)).set k (.int .u8 ((c.toNat : Nat) : Int)) = Qr (List.replicate (m - (i + 1)) 0 ++ ((lowB low).take (i + 1)).reverse) := by
              have e1 : m - i = k + 1 := by omega
              have e2 : m - (i + 1) = k := by omega
              rw [e1, e2, List.take_add_one, hc, List.reverse_append, List.replicate_succ', List.append_assoc, Q5, List.set_append_right _ _ (by simp [Qr])]
              rw [Q5 (List.replicate k 0)]
              simp [Qr]
            rw [hset] at hst
            have f1 : wr.frozen? ⟨wo.heap.size, k, none⟩ = false := hoh.frozenAt k
            have hghl : wo.heap.size < wr.heap.size := (hoh.lt _ rfl).2
            obtain ⟨q1, hq1⟩ : ∃ q1, wr.cell? ⟨wo.heap.size, k, none⟩ = some q1 := by
              obtain ⟨ao', cap', e, _, _, a3⟩ := Qj hoh
              cases e
              obtain ⟨g', e, b1, b2, b3⟩ := a3 (by omega)
              cases e
              refine ⟨_, (b3 k (by omega)).trans (List.getElem?_eq_getElem ?_)⟩
              simp [Qr, hwlen]; omega
            have HFIN : Hid (Qyg m low gl lcap wo.heap.size w (.int .i64 ((i : Int) + 1)) (wr.setCell ⟨wo.heap.size, k, none⟩ (.int .u8 ((c.toNat : Nat) : Int)))) := by
              refine ⟨i + 1, by omega, by go_num, hst.1, ?_, HB.o.setCell (by assumption) _⟩
              exact World.ownsRow.kept HOL.o hst.2 (.inr (by simp [Value.ownBlock]; exact HNE2.o))
            clear hst hset hoh hol hb hk hc b3 hwlen
            go_wp2_with fail
            first | exact ⟨HFIN.o, by simp [intOf] <;> omega⟩ | exact ⟨by (repeat apply Exists.intro); exact ⟨HFIN.o, rfl⟩, by simp [intOf] <;> omega⟩
          · have him : i = m := by omega
            have hown : OwnB w.heap.size wr (.slice (some ⟨wo.heap.size, 0, none⟩) m m) (lowB low).reverse := by
              have e : List.replicate (m - i) (0 : UInt8) ++ ((lowB low).take i).reverse = (lowB low).reverse := by
                rw [him, Nat.sub_self, List.take_of_length_le (by rw [HLL.o]; exact Nat.le_refl _)]; rfl
              rw [e] at hoh
              show World.ownsRow _ _ _ _ _ _ _
              rw [List.length_reverse, HLL.o]
              exact hoh
            have hcv := Vw hown
            rw [← HT1.o] at hcv
            clear hoh hol hb hown
            go_wp2_with fail
            go_ret2
            exact ⟨rfl, HB.o⟩
    · have hlp : 0 < ds.length := by
        rcases Nat.eq_zero_or_pos ds.length with h | h
        · exact absurd (List.eq_nil_of_length_eq_zero h) h0
        · exact h
      have hone := Qpw hst h0
      have HONE := zq hone
      have hr10 := Pv ds
      have hqs := N7 hsm
      have HQS := zq hqs
      have hql := Nf ds
      obtain ⟨g, rfl⟩ : ∃ g, dso = some ⟨g, 0, none⟩ := by
        obtain ⟨ao', cap', e, _, _, a3⟩ := Qj hod
        cases e
        obtain ⟨g, hg, -⟩ := a3 hlp
        exact ⟨g, hg⟩
      have HLP := zq hlp
      clear hst hsm hdg hlo hne hb hone hqs dcm lcm hod hol
      go_wp2_with fail
      refine (Qyj w.heap.size ds _ _ HD.o HSM.o).mono ?_
      rintro e w2 ⟨rfl, hod2, hb2, hz2', hf2⟩
      obtain ⟨r, hr⟩ : ∃ r, r = (Ye ds).2 := ⟨_, rfl⟩
      rw [← hr] at hr10 HONE ⊢
      have hol2 : OwnB w.heap.size w2 (.slice lo (lowB low).length lcap) (lowB low) := by
        refine Sm HL.o (Nat.le_refl _) fun q hq => hf2 q (fun e => HNE.o q e hq)
      have HD2 := zq hod2
      have HL2 := zq hol2
      have HB2 : Hid (Below w.heap.size w w2) := HB.o.trans hb2
      have hzz2 : w.heap.size ≤ w2.heap.size := HB2.o.size
      obtain ⟨qs, hqq⟩ : ∃ qs, qs = (Ye ds).1 := ⟨_, rfl⟩
      rw [← hqq] at hql HQS HD2 HONE
      clear hod2 hol2 hb2 hz2' hf2 hr hqq
      have HL3 : Hid (w2.ownsRow w.heap.size 5 1 (.slice lo low.length lcap) low.length (Qr (lowB low))) := by
        have := HL2.o
        unfold OwnB at this
        rw [hlb] at this
        exact this
      have hbeq : ((⟨#[48, 49, 50, 51, 52, 53, 54, 55, 56, 57, 97, 98, 99, 100, 101, 102, 103, 104, 105, 106, 107, 108, 109, 110, 111, 112, 113, 114, 115, 116, 117, 118, 119, 120, 121, 122]⟩ : ByteArray)[r]'(Nat.lt_trans hr10 (by decide))) = UInt8.ofNat (48 + r) := by
        have h : r = 0 ∨ r = 1 ∨ r = 2 ∨ r = 3 ∨ r = 4 ∨ r = 5 ∨ r = 6 ∨ r = 7 ∨ r = 8 ∨ r = 9 := by omega
        rcases h with rfl | rfl | rfl | rfl | rfl | rfl | rfl | rfl | rfl | rfl <;> rfl
      have HBE := zq hbeq
      clear hbeq
      obtain ⟨bb, hbb⟩ : ∃ bb : Nat, bb = ((⟨#[48, 49, 50, 51, 52, 53, 54, 55, 56, 57, 97, 98, 99, 100, 101, 102, 103, 104, 105, 106, 107, 108, 109, 110, 111, 112, 113, 114, 115, 116, 117, 118, 119, 120, 121, 122]⟩ : ByteArray)[r]'(Nat.lt_trans hr10 (by decide))).toNat := ⟨_, rfl⟩
      have HBB := zq hbb
      clear hbb
      go_wp2_with (at_builtin; refine wpList_append_own_at _ rfl _ _ 88 rfl w.heap.size 5 i0 (.int .u8 0) 1 1 Tryz.underlying88 hi hz0 hz1 hz2 rfl (by decide) _ _ _ rfl (World.ownsRow.alloc HL3.o _) ⟨w2.heap.size, 0, none⟩ 1 1 _ rfl rfl (Qb _ _ _ _ rfl) (Vu _ rfl) (by unfold maxLen; omega) (by omega) (by simp; omega) ?_)
      intro v3 w3 hown3 hgrow3 _ hat3
      have hb3 : Below w.heap.size w w3 := Below.grown (HB2.o.alloc hzz2 _) hgrow3 (by simp; omega) (fun q hq => (World.ownsRow.lt HL3.o q hq).1)
      have hod3 : OwnD w.heap.size w3 (.slice (some ⟨g, 0, none⟩) ds.length dcap) qs := by
        refine World.ownsRow.kept (World.ownsRow.alloc HD2.o _) hgrow3 (.inr fun e => ?_)
        exact HNE.o g rfl (by cases lo with
          | none => cases e
          | some a => exact e.symm)
      have hol3 : OwnB w.heap.size w3 v3 (lowB (low ++ [r])) := by
        show World.ownsRow _ _ _ _ _ _ _
        have e : Qr (lowB (low ++ [r])) = Qr (lowB low) ++ [.int .u8 ((UInt8.ofNat (48 + r)).toNat : Nat)] := by simp [lowB, Qr]
        have e2 : (lowB (low ++ [r])).length = low.length + 1 := by simp [lowB]
        rw [e, e2, ← HBE.o]
        exact hown3
      have hne3 : v3.ownBlock ≠ some g := by
        rcases hat3 with h | h
        · rw [h]
          exact fun e => HNE.o g rfl (by cases lo with
            | none => cases e
            | some a => exact e)
        · rw [h]
          have := (World.ownsRow.lt HD2.o g rfl).2
          simp
          omega
      have HB3 := zq hb3
      have HD3 := zq hod3
      have HL4 := zq hol3
      have HNE3 := zq hne3
      have hln3 : Rh v3 = low.length + 1 := by
        obtain ⟨ao', cap', e, _⟩ := Qj hol3
        rw [e]
        simp [Rh, lowB]
      have HLN3 := zq hln3
      have hdl0 : ds.length ≤ 9223372036854775807 := by
        obtain ⟨ao', cap', e, a1, a2, _⟩ := Qj HD.o
        unfold maxLen at a2
        omega
      clear hown3 hgrow3 hat3 hb3 hod3 hol3 hne3 hln3
      go_wp2_with fail
      obtain ⟨wo, hwo⟩ : ∃ wo, wo = wr := ⟨_, rfl⟩
      subst hwo
      go_loop [6] (fun dv => ∃ k : Nat, k ≤ ds.length ∧ dv = .slice (some ⟨g, 0, none⟩) k dcap ∧ Qa (qs.take k) = Qa qs) (fun dv => Rh dv)
      case atStart => exact ⟨ds.length, Nat.le_refl _, rfl, by rw [← hql, List.take_length]⟩
      case round =>
        obtain ⟨k, hk, rfl, hst⟩ := hrel
        have HST2 := zq hst
        have HEND : Hid (Qa qs = qs.take k → Qyt N w (.slice (some ⟨g, 0, none⟩) k dcap) v3 w3 ∧ low.length < (dg N).length) := by
          intro he
          have hdq : OwnD w.heap.size w3 (.slice (some ⟨g, 0, none⟩) qs.length dcap) qs := by rw [hql]; exact HD3.o
          have hdk := OwnD.head hdq (show k ≤ qs.length by omega)
          rw [← he] at hdk
          refine ⟨⟨Qa qs, low ++ [r], W0 _, Js HQS.o, ?_, ?_, hdk, HL4.o, ?_, HB3.o⟩, ?_⟩
          · rw [HDG.o, HONE.o]; simp
          · intro d hd
            rcases List.mem_append.1 hd with hd | hd
            · exact HLO.o d hd
            · rw [List.mem_singleton.1 hd]; exact hr10
          · intro q hq
            cases hq
            exact HNE3.o
          · have h1 := HLEN.o
            have h2 := congrArg List.length HONE.o
            rw [List.length_append, List.length_singleton] at h2
            omega
        clear hst
        by_cases hk0 : 0 < k
        · obtain ⟨d, hd⟩ : ∃ d, qs[k - 1]? = some d := ⟨_, List.getElem?_eq_getElem (by omega)⟩
          have e1 : w3.cell? ⟨g, k - 1, none⟩ = some (.int .i64 (d : Nat)) := by
            obtain ⟨ao', cap', e, _, _, a3⟩ := Qj HD3.o
            obtain ⟨g', e2, _, _, b3⟩ := a3 (by omega)
            simp only [Value.slice.injEq] at e
            rw [← e.1] at e2
            cases e2
            rw [b3 (k - 1) (by omega)]
            simp [Xe, hd]
          have hi1 : (0 : Int) ≤ (k : Int) - 1 := by omega
          have hi2 : (((k : Int) - 1).toNat) = k - 1 := by omega
          have hi3 : (k : Int) - 1 ≤ (dcap : Int) := by
            obtain ⟨ao', cap', e, a1, _⟩ := Qj HD3.o
            simp only [Value.slice.injEq] at e
            omega
          have htk : Hid (qs.take k = qs.take (k - 1) ++ [d]) := by
            show _ = _
            have := List.take_add_one (l := qs) (i := k - 1)
            rw [show k - 1 + 1 = k from by omega, hd] at this
            exact this
          clear hd
          by_cases hdz : d = 0
          · have hz1 : ((d : Int) == 0) = true := by simp [hdz]
            have HDZ := zq hdz
            clear hdz
            go_wp2_with fail
            exact ⟨⟨k - 1, by omega, rfl, by rw [← HST2.o, htk.o, HDZ.o, Za]⟩, by simp [Rh]; omega⟩
          · have hz1 : ((d : Int) == 0) = false := by simp [hdz]
            have HDZ := zq hdz
            clear hdz
            have HE := zq (HEND.o (by rw [← HST2.o, htk.o, Yt _ _ HDZ.o]))
            go_wp2_with fail
            exact ⟨HE.o.1, by rw [HLN3.o]; have := HE.o.2; simp only [Rh, hlb]; omega⟩
        · obtain rfl : k = 0 := by omega
          have HE := zq (HEND.o (by rw [← HST2.o]; rfl))
          go_wp2_with fail
          exact ⟨HE.o.1, by rw [HLN3.o]; have := HE.o.2; simp only [Rh, hlb]; omega⟩
theorem OwnW.rd {B:Nat}{w:World}{v:Value}{xs:List Nat}(h:OwnW B w v xs)(hok:ok xs):Rd w v xs:=by
 obtain⟨ao,E,rfl,a1,a2,a3⟩:=Qj h;refine⟨fun k hk=>(h.lt k hk).2,ao,E,rfl,a1,a2,hok,fun i x hx=> ?_⟩;have H:=(List.getElem?_eq_some_iff.1 hx).1;obtain⟨g,rfl,b1,b2,b3⟩:=a3 (by omega);refine⟨g,0,rfl,?_⟩;rw[Nat.zero_add,b3 i (by omega)];simp[Ss,hx]
theorem OwnW.nfr {B B':Nat}{w:World}{v:Value}{ds:List Nat}(h:OwnW B w v (Jd (Qa ds)))(hB:B'<=B)(hs:∀d∈ds,d<65536)(hl:ds.length<=268435456):NFr B' w v (valD ds):=by
 have E:=Js hs;have I:=Qwa E;have J:=Gh ds;refine⟨⟨_,h.rd (Qgh E),by rw[Qk0 E,Jw],by omega⟩,fun q hq=>⟨Nat.le_trans hB (h.lt q hq).1,(h.lt q hq).2⟩,?_⟩;obtain⟨ao,H,rfl,-⟩:=Qj h;show (Jd (Qa ds)).length=0↔_;rw[List.length_eq_zero_iff,Dd];constructor
 ·intro e
  rw[<-Jw,e];rfl
 ·intro e
  rw[<-Jw]at e;exact Qjm (W0 ds) e
theorem Qzz (xs:List Nat)(v:Value)(w:World)(hv:Rd w v xs)(hl:xs.length<=67108864):
  Calls Tryz.prog 143 #[v] w fun e w'=>e=.returned (.string ⟨(SynP.decT (val xs)).toArray⟩)/\Below w.heap.size w w':=by
 have HV:=zq (Qq2 xs v w hv hl);clear hv;go_enter Tryz.func143,Tryz.ntmps143;go_wp2_with fail;refine HV.o.mono ?_;rintro e w1 ⟨rfl,hb⟩;have HB:=zq hb;clear hb;go_wp2_with fail;go_ret;exact⟨rfl,HB.o⟩
theorem Fc (n:Nat)(v:Value)(w:World)(hv:NRd w v n):
  Calls Tryz.prog 88 #[v] w fun e w'=> ∃v',e=.returned v'/\NFr w.heap.size w' v' n/\Below w.heap.size w w':=by
 obtain⟨xs,hr,hn,hl⟩:=hv;have HV:=zq hr;have HOK:=zq hr.ok;have HN:=zq hn;clear hr hn;go_enter Tryz.func88,Tryz.ntmps88;go_wp2_with fail;refine(Sa xs v _ HV.o hl).mono ?_;rintro e w1 ⟨d1,rfl,ho1,hb1⟩;have HO1:=zq ho1;have HB1:=zq hb1;clear ho1 hb1;have hsm:=Js (Vl xs);have hln:=Gh (Yp xs);rw[R0]at hln;go_wp2_with fail;refine(Ah w.heap.size (Qa (Yp xs)) _ _ HO1.o hsm (by omega)).mono ?_;rintro e w2 ⟨v2,rfl,ho2,hb2⟩;have h3:=ho2.nfr HB1.o.size hsm (by omega);rw[Jw,Ws HOK.o,HN.o]at h3;have HF:=zq h3;have HB2:=zq (Qg HB1.o hb2);clear ho2 hb2 h3;go_wp2_with fail;go_ret;exact⟨_,rfl,HF.o,HB2.o⟩
theorem NFr.val {B:Nat}{w:World}{v:Value}{n:Nat}(h:NFr B w v n):∃ao L cap,v=.slice ao L cap/\(L=0↔n=0):=by
 obtain⟨⟨xs,E,-,-⟩,-,H⟩:=h;obtain⟨ao,cap,rfl,-⟩:=E.2;exact⟨ao,_,cap,rfl,H⟩
theorem Qkr (neg:Bool)(n:Nat)(v:Value)(w:World)(hv:NRd w v n):
  Calls Tryz.prog 193 #[.bool neg,v] w fun e w'=> ∃v',e=.returned (.agg #[.bool (neg && decide (0<n)),v'])/\NFr w.heap.size w' v' n/\Below w.heap.size w w':=by
 have hba:=Qq w (.cells #[.bool false,.slice none 0 0] 62);have HBA:=zq hba;have HL:=zq (Fc n v _ (hv.below hba));have HNEW:=zq (heap_alloc_new w (.cells #[.bool false,.slice none 0 0] 62));clear hv hba;go_enter Tryz.func193,Tryz.ntmps193;go_wp2_with fail;refine HL.o.mono ?_;rintro e w1 ⟨v1,rfl,hf,hb⟩;have hz1:=hb.size;rw[World.size_alloc]at hz1;have hblk:w1.heap[w.heap.size]?=some (.cells #[.bool false,.slice none 0 0] 62 (0,0)):=(hb.block w.heap.size (by simp)).trans HNEW.o;obtain⟨ao,L,cap,rfl,hL⟩:=hf.val;have HF:=zq hf;have HB:=zq hb;have HBK:=zq hblk;have e0:w1.cell? ⟨w.heap.size,0,none⟩=some (.bool false):=(cell_of_row w1 _ _ _ _ _ hblk).trans rfl;have e1:w1.cell? ⟨w.heap.size,1,none⟩=some (.slice none 0 0):=(cell_of_row w1 _ _ _ _ _ hblk).trans rfl;have f0:w1.frozen? ⟨w.heap.size,0,none⟩=false:=frozen_of_row w1 _ 0 _ _ hblk;have f1:w1.frozen? ⟨w.heap.size,1,none⟩=false:=frozen_of_row w1 _ 1 _ _ hblk
 have HFIN:Hid (∀b:Bool,NFr w.heap.size ((w1.setCell ⟨w.heap.size,0,none⟩ (.bool b)).setCell ⟨w.heap.size,1,none⟩ (.slice ao L cap)) (.slice ao L cap) n/\
   Below w.heap.size w ((w1.setCell ⟨w.heap.size,0,none⟩ (.bool b)).setCell ⟨w.heap.size,1,none⟩ (.slice ao L cap))/\
   ((w1.setCell ⟨w.heap.size,0,none⟩ (.bool b)).setCell ⟨w.heap.size,1,none⟩ (.slice ao L cap)).heap[w.heap.size]?=some (.cells #[.bool b,.slice ao L cap] 62 (0,0))):=by
  intro b
  have hlt:w.heap.size<(w.alloc (.cells #[.bool false,.slice none 0 0] 62)).heap.size:=by simp
  refine⟨NFr.mono (NFr.set (NFr.set HF.o hlt 0 _) hlt 1 _) (Nat.le_of_lt hlt),?_,?_⟩
  ·have hr:Wr w.heap.size none w1 ((w1.setCell ⟨w.heap.size,0,none⟩ (.bool b)).setCell ⟨w.heap.size,1,none⟩ (.slice ao L cap)):=(Wr.of_set w1 0 _).trans (Mv.refl _ _) (Wr.of_set _ 1 _)
   have hw:Below w.heap.size w w1:=HBA.o.trans (HB.o.mono (by simp));exact hr.to_below hw hw.size (Nat.le_refl _) (fun k hk=>by cases hk)
  ·have s1:=heap_setCell_same w1 w.heap.size 0 _ _ (.bool b) HBK.o
   have s2:=heap_setCell_same (w1.setCell ⟨w.heap.size,0,none⟩ (.bool b)) w.heap.size 1 _ _ (.slice ao L cap) s1;exact s2.trans (by simp)
 clear hf hb hblk;by_cases hn:n=0
 ·have hL0:L=0:=hL.2 hn
  subst hL0
  have HN:Hid ((neg && decide (0<n))=false):=by show _=_;rw[hn];simp
  clear hn hL
  cases neg with
  |true=>
   go_wp2_with fail;have hf3:=HFIN.o false;refine bodyPost_ret (results_cell_row rfl _ _ w.heap.size 62 _ _ _ rfl hf3.2.2 Tryz.underlying62 rfl (by kernel_rfl)) rfl ?_;rw[HN.o]
   exact⟨_,rfl,hf3.1,hf3.2.1⟩
  |false=>
   go_wp2_with fail;have hf3:=HFIN.o false;refine bodyPost_ret (results_cell_row rfl _ _ w.heap.size 62 _ _ _ rfl hf3.2.2 Tryz.underlying62 rfl (by kernel_rfl)) rfl ?_;rw[HN.o];exact⟨_,rfl,hf3.1,hf3.2.1⟩
 ·have hL0:(0:Int)<(L:Int):=by
   rcases Nat.eq_zero_or_pos L with h|h
   ·exact absurd (hL.1 h) hn
   ·omega
  have HN:Hid ((neg && decide (0<n))=neg):=by show _=_;rw[decide_eq_true (show 0<n by omega),Bool.and_true]
  clear hn hL
  cases neg with
  |true=>
   go_wp2_with fail;have hf3:=HFIN.o (decide (0<L));refine bodyPost_ret (results_cell_row rfl _ _ w.heap.size 62 _ _ _ rfl hf3.2.2 Tryz.underlying62 rfl (by kernel_rfl)) rfl ?_;rw[HN.o]
   exact⟨_,by rw[show decide (0<L)=true from decide_eq_true (by omega)],hf3.1,hf3.2.1⟩
  |false=>
   go_wp2_with fail;have hf3:=HFIN.o false;refine bodyPost_ret (results_cell_row rfl _ _ w.heap.size 62 _ _ _ rfl hf3.2.2 Tryz.underlying62 rfl (by kernel_rfl)) rfl ?_;rw[HN.o];exact⟨_,rfl,hf3.1,hf3.2.1⟩
theorem Kd (neg:Bool)(n:Nat)(v:Value)(w:World)(hv:NRd w v n):
  Calls Tryz.prog 188 #[.agg #[.bool neg,v]] w fun e w'=> ∃v',e=.returned (.agg #[.bool (neg && decide (0<n)),v'])/\NFr w.heap.size w' v' n/\Below w.heap.size w w':=by
 obtain⟨ao,L,cap,rfl⟩:∃ao L cap,v=.slice ao L cap:=by
  obtain⟨xs,h1,-,-⟩:=hv;obtain⟨ao,cap,rfl,-⟩:=h1.2;exact⟨_,_,_,rfl⟩
 have hb0:=Qq w (.cells #[.bool neg,.slice ao L cap] 62);have hb1:=Qq (w.alloc (.cells #[.bool neg,.slice ao L cap] 62)) (.cells #[.bool false,.slice none 0 0] 62);have hba:=hb0.trans (hb1.mono (by simp));have HBA:=zq hba;have HL:=zq (Qkr neg n _ _ (hv.below hba))
 have HNEW:Hid (((w.alloc (.cells #[.bool neg,.slice ao L cap] 62)).alloc (.cells #[.bool false,.slice none 0 0] 62)).heap[w.heap.size+1]?=some (.cells #[.bool false,.slice none 0 0] 62 (0,0))):=by
  have:=heap_alloc_new (w.alloc (.cells #[.bool neg,.slice ao L cap] 62)) (.cells #[.bool false,.slice none 0 0] 62);rw[World.size_alloc]at this;exact this
 clear hv hba hb0 hb1;go_enter Tryz.func188,Tryz.ntmps188;go_wp2_with fail;refine HL.o.mono ?_;rintro e w1 ⟨v1,rfl,hf,hb⟩;have hz1:=hb.size;rw[World.size_alloc,World.size_alloc]at hz1;have hblk:w1.heap[w.heap.size+1]?=some (.cells #[.bool false,.slice none 0 0] 62 (0,0)):=(hb.block (w.heap.size+1) (by simp)).trans HNEW.o;obtain⟨ao1,L1,cap1,rfl,-⟩:=hf.val;have HF:=zq hf;have HB:=zq hb;have HBK:=zq hblk;have e0:w1.cell? ⟨w.heap.size+1,0,none⟩=some (.bool false):=(cell_of_row w1 _ _ _ _ _ hblk).trans rfl;have e1:w1.cell? ⟨w.heap.size+1,1,none⟩=some (.slice none 0 0):=(cell_of_row w1 _ _ _ _ _ hblk).trans rfl;have f0:w1.frozen? ⟨w.heap.size+1,0,none⟩=false:=frozen_of_row w1 _ 0 _ _ hblk;have f1:w1.frozen? ⟨w.heap.size+1,1,none⟩=false:=frozen_of_row w1 _ 1 _ _ hblk;obtain⟨b,hb⟩:=xq ((neg && decide (0<n)));rw[<-hb];have HBQ:=zq hb
 have HFIN:Hid (NFr w.heap.size ((w1.setCell ⟨w.heap.size+1,0,none⟩ (.bool b)).setCell ⟨w.heap.size+1,1,none⟩ (.slice ao1 L1 cap1)) (.slice ao1 L1 cap1) n/\
   Below w.heap.size w ((w1.setCell ⟨w.heap.size+1,0,none⟩ (.bool b)).setCell ⟨w.heap.size+1,1,none⟩ (.slice ao1 L1 cap1))/\
   ((w1.setCell ⟨w.heap.size+1,0,none⟩ (.bool b)).setCell ⟨w.heap.size+1,1,none⟩ (.slice ao1 L1 cap1)).heap[w.heap.size+1]?=some (.cells #[.bool b,.slice ao1 L1 cap1] 62 (0,0))):=by
  have hlt:w.heap.size+1<((w.alloc (.cells #[.bool neg,.slice ao L cap] 62)).alloc (.cells #[.bool false,.slice none 0 0] 62)).heap.size:=by simp
  refine⟨NFr.mono (NFr.set (NFr.set HF.o hlt 0 _) hlt 1 _) (by omega),?_,?_⟩
  ·have hr:Wr (w.heap.size+1) none w1 ((w1.setCell ⟨w.heap.size+1,0,none⟩ (.bool b)).setCell ⟨w.heap.size+1,1,none⟩ (.slice ao1 L1 cap1)):=(Wr.of_set w1 0 _).trans (Mv.refl _ _) (Wr.of_set _ 1 _)
   have hw:Below w.heap.size w w1:=HBA.o.trans (HB.o.mono (by omega));exact hr.to_below hw hw.size (by omega) (fun k hk=>by cases hk)
  ·have s1:=heap_setCell_same w1 (w.heap.size+1) 0 _ _ (.bool b) HBK.o
   have s2:=heap_setCell_same (w1.setCell ⟨w.heap.size+1,0,none⟩ (.bool b)) (w.heap.size+1) 1 _ _ (.slice ao1 L1 cap1) s1;exact s2.trans (by simp)
 clear hf hblk hb;go_wp2_with fail;refine bodyPost_ret (results_cell_row rfl _ _ (w.heap.size+1) 62 _ _ _ rfl HFIN.o.2.2 Tryz.underlying62 rfl (by kernel_rfl)) rfl ?_;exact⟨_,by rw[HBQ.o],HFIN.o.1,HFIN.o.2.1⟩
theorem Ay (neg:Bool)(n:Nat)(v:Value)(w:World)(hv:NRd w v n):
  Calls Tryz.prog 144 #[.agg #[.bool neg,v]] w fun e w'=>e=.returned (.int .i64 (Vg neg n))/\Below w.heap.size w w':=by
 obtain⟨ao,L,cap,rfl⟩:∃ao L cap,v=.slice ao L cap:=by
  obtain⟨xs,h1,-,-⟩:=hv;obtain⟨ao,cap,rfl,-⟩:=h1.2;exact⟨_,_,_,rfl⟩
 have hb0:=Qq w (.cells #[.bool neg,.slice ao L cap] 62);have HBA:=zq hb0;have HL:=zq (Kd neg n _ _ (hv.below hb0));clear hv hb0;go_enter Tryz.func144,Tryz.ntmps144;go_wp2_with fail;refine HL.o.mono ?_;rintro e w1 ⟨v1,rfl,hf,hb⟩;obtain⟨ao1,L1,cap1,rfl,hL⟩:=hf.val;have HB:=zq (Qg HBA.o hb);clear hf hb;by_cases hn:n=0
 ·have hL0:L1=0:=hL.2 hn
  subst hL0
  have hb:(neg && decide (0<n))=false:=by rw[hn];simp
  have HS:Hid (Vg neg n=0):=by show _=_;unfold Vg;rw[if_pos hn]
  have HB2:=zq (Qg HB.o (Qq w1 (.cells #[.bool false,.slice ao1 0 cap1] 62)));rw[hb];clear hn hL hb;go_wp2_with fail;go_ret;exact⟨by rw[HS.o];rfl,HB2.o⟩
 ·have hL0:(0:Int)<(L1:Int):=by
   rcases Nat.eq_zero_or_pos L1 with h|h
   ·exact absurd (hL.1 h) hn
   ·omega
  have hb:(neg && decide (0<n))=neg:=by rw[decide_eq_true (show 0<n by omega),Bool.and_true]
  rw[hb]
  have HS:Hid (Vg neg n=if neg then -1 else 1):=by show _=_;unfold Vg;rw[if_neg hn]
  clear hn hL hb
  cases neg with
  |true=>
   have HB2:=zq (Qg HB.o (Qq w1 (.cells #[.bool true,.slice ao1 L1 cap1] 62)));go_wp2_with fail;go_ret
   exact⟨by rw[HS.o];rfl,HB2.o⟩
  |false=>
   have HB2:=zq (Qg HB.o (Qq w1 (.cells #[.bool false,.slice ao1 L1 cap1] 62)));go_wp2_with fail;go_ret;exact⟨by rw[HS.o];rfl,HB2.o⟩
theorem Qv4 (neg:Bool)(n:Nat)(v:Value)(w:World)(hv:NRd w v n):
  Calls Tryz.prog 81 #[.agg #[.bool neg,v]] w fun e w'=>e=.returned (.string ⟨(Y8 neg n).toArray⟩)/\Below w.heap.size w w':=by
 obtain⟨xs,h1,hn,hl⟩:=hv;obtain⟨ao,cap,rfl,-⟩:=h1.2;have hb0:=Qq w (.cells #[.bool neg,.slice ao xs.length cap] 62);have HBA:=zq hb0;have HD:=zq (Qzz xs _ _ (h1.below hb0) hl);have HNR:Hid (∀w5,Below w.heap.size w w5->NRd w5 (.slice ao xs.length cap) n):=fun w5 h5=>⟨xs,h1.below h5,hn,hl⟩
 have hc0:(w.alloc (.cells #[.bool neg,.slice ao xs.length cap] 62)).cell? ⟨w.heap.size,0,none⟩=some (.bool neg):=by rw[World.cell?_alloc_at _ _ _ _ rfl];rfl
 have hc1:(w.alloc (.cells #[.bool neg,.slice ao xs.length cap] 62)).cell? ⟨w.heap.size,1,none⟩=some (.slice ao xs.length cap):=by rw[World.cell?_alloc_at _ _ _ _ rfl];rfl
 have HC0:=zq hc0;have HC1:=zq hc1
 have hcat: ¬9223372036854775807<1+(Zf n).length:=by
  have:=Fq (xs:=xs) (by omega) h1.ok;rw[hn]at this;omega
 rw[hn]at HD;obtain⟨L,hL⟩:=xq xs.length;rw[<-hL]at HD HNR HBA HC0 HC1 ⊢;obtain⟨k,hk⟩:=xq (Vg neg n);have HK:=zq hk
 have HTX:Hid (Y8 neg n=if k<0 then 45::SynP.decT n else SynP.decT n):=by
  show _=_;rw[hk];unfold Y8 Vg;by_cases h0:n=0
  ·rw[if_neg (by simp[h0]),if_pos h0,if_neg (by omega)];rfl
  ·cases neg with
   |true=>rw[if_pos ⟨rfl,h0⟩,if_neg h0,if_pos rfl,if_pos (by omega)];rfl
   |false=>rw[if_neg (by simp),if_neg h0,if_neg (by simp)];rfl
 clear h1 hn hl hb0 hc0 hc1 hk hL;by_cases hk0:k<0
 ·have hT:Y8 neg n=45::SynP.decT n:=by rw[HTX.o,if_pos hk0]
  have HT:=zq hT;clear hT;go_enter Tryz.func81,Tryz.ntmps81;go_wp2_with fail;refine HD.o.mono ?_;rintro e w1 ⟨rfl,hb1⟩;have HB1:=zq (Qg HBA.o hb1);have d0:=(hb1.cell (p:=⟨w.heap.size,0,none⟩) (by simp)).trans HC0.o;have d1:=(hb1.cell (p:=⟨w.heap.size,1,none⟩) (by simp)).trans HC1.o;clear hb1;go_wp2_with fail;refine(Ay neg n _ _ (HNR.o _ HB1.o)).mono ?_;rintro e w2 ⟨rfl,hb2⟩;rw[<-HK.o];have HB2:=zq (Qg HB1.o hb2);clear hb2;go_wp2_with fail;go_ret;refine⟨?_,HB2.o⟩;rw[HT.o];show Ending.returned (.string ((⟨#[45]⟩:ByteArray)++⟨(Zf n).toArray⟩))=_;rw[Jl,Pt];simp
 ·have hT:Y8 neg n=SynP.decT n:=by rw[HTX.o,if_neg hk0]
  have HT:=zq hT;clear hT;go_enter Tryz.func81,Tryz.ntmps81;go_wp2_with fail;refine HD.o.mono ?_;rintro e w1 ⟨rfl,hb1⟩;have HB1:=zq (Qg HBA.o hb1);have d0:=(hb1.cell (p:=⟨w.heap.size,0,none⟩) (by simp)).trans HC0.o;have d1:=(hb1.cell (p:=⟨w.heap.size,1,none⟩) (by simp)).trans HC1.o;clear hb1;go_wp2_with fail;refine(Ay neg n _ _ (HNR.o _ HB1.o)).mono ?_;rintro e w2 ⟨rfl,hb2⟩;rw[<-HK.o];have HB2:=zq (Qg HB1.o hb2);clear hb2;go_wp2_with fail;go_ret;exact⟨by rw[HT.o];rfl,HB2.o⟩
def J4 (x:List Nat)(y:Nat):Int:=if 1<x.length then 1 else match x with| []=> -1|d::_=>if d<y then -1 else if y<d then 1 else 0
theorem Qxy (B:Nat)(x:List Nat)(y:Nat)(xv yv:Value)(w:World)(hx:OwnD B w xv x)(hy:OwnD B w yv [y]):
  Calls Tryz.prog 248 #[xv,yv] w fun e w'=>e=.returned (.int .i64 (J4 x y))/\Below w.heap.size w w':=by
 obtain⟨xo,xcap,rfl,x1,x2,x3⟩:=Qj hx;obtain⟨yo,ycap,rfl,y1,y2,y3⟩:=Qj hy;obtain⟨gy,rfl,-,yl,yc⟩:=y3 (by simp)
 have cy:w.cell? ⟨gy,0,none⟩=some (.int .i64 (y:Nat)):=by rw[yc 0 (by simp)];rfl
 cases x with
 |nil=>
  clear hx hy x3 y3 yc;go_enter Tryz.func248,Tryz.ntmps248;go_wp2_with fail;go_ret
  exact⟨rfl,Below.refl _ _⟩
 |cons d l=>
  cases l with
  |cons d2 l=>
   have hne:(((d::d2::l).length:Nat):Int)≠1:=by simp only[List.length_cons];omega
   have HO:Hid (J4 (d::d2::l) y=1):=by show _=_;unfold J4;rw[if_pos (by simp)]
   obtain⟨n,hn⟩:∃n,n=(d::d2::l).length:=⟨_,rfl⟩
   have hn2:2<=n:=by rw[hn];simp
   rw[<-hn]
   have hnb:(((n:Nat):Int) !=1)=true:=by simp;omega
   have hnl:decide (((n:Nat):Int)<1)=false:=decide_eq_false (by omega);clear hx hy x3 y3 yc hne hn x1;go_enter Tryz.func248,Tryz.ntmps248;go_wp2_with fail;go_ret
   exact⟨by rw[HO.o];rfl,Below.refl _ _⟩
  |nil=>
   obtain⟨gx,rfl,-,xl,xc⟩:=x3 (by simp)
   have cx:w.cell? ⟨gx,0,none⟩=some (.int .i64 (d:Nat)):=by rw[xc 0 (by simp)];rfl
   have hnx:=World.new_ne w ⟨gx,0,none⟩ cx;have hny:=World.new_ne w ⟨gy,0,none⟩ cy;have HCX:=zq cx;have HDR:Hid (Below w.heap.size w w.drew.drew/\Below w.heap.size w w.drew):=⟨(Below.refl _ _).drew.drew,(Below.refl _ _).drew⟩;have HCY:=zq cy;rcases Nat.lt_trichotomy d y with hlt|heq|hgt
   ·have h1:decide (d<y)=true:=decide_eq_true hlt
    have HO:Hid (J4 [d] y= -1):=by show _=_;unfold J4;rw[if_neg (by simp)];simp[hlt]
    clear hx hy x3 y3 yc xc hlt;go_enter Tryz.func248,Tryz.ntmps248;go_wp2_with fail;go_loop [5] (fun iv=>iv=.int .i64 0) (fun iv=>(intOf iv+1).toNat)
    case atStart=>rfl
    case round=>
     subst hrel;go_wp2_with fail;go_region;go_wp2_with fail;go_ret;exact⟨by rw[HO.o];rfl,by first|exact HDR.o.1|exact HDR.o.2⟩
   ·have h1:decide (d<y)=false:=decide_eq_false (by omega)
    have h2:decide (y<d)=false:=decide_eq_false (by omega)
    have HO:Hid (J4 [d] y=0):=by show _=_;unfold J4;rw[if_neg (by simp)];simp[heq]
    clear hx hy x3 y3 yc xc heq;go_enter Tryz.func248,Tryz.ntmps248;go_wp2_with fail;go_loopw [5] (fun iv wr=>(iv=.int .i64 0/\wr=w)\/(iv=.int .i64 (-1)/\wr=w.drew.drew)) (fun iv _=>(intOf iv+1).toNat)
    case atStart=>exact .inl ⟨rfl,rfl⟩
    case round=>
     rcases hrel with ⟨rfl,rfl⟩|⟨rfl,rfl⟩
     ·go_wp2_with fail
      go_region;go_wp2_with fail;go_region;go_wp2_with fail;exact⟨.inr ⟨rfl,trivial⟩,by simp[intOf]⟩
     ·go_wp2_with fail
      go_ret;exact⟨by rw[HO.o];rfl,HDR.o.1⟩
   ·have h1:decide (d<y)=false:=decide_eq_false (by omega)
    have h2:decide (y<d)=true:=decide_eq_true hgt
    have HO:Hid (J4 [d] y=1):=by show _=_;unfold J4;rw[if_neg (by simp)];simp[hgt];omega
    clear hx hy x3 y3 yc xc hgt;go_enter Tryz.func248,Tryz.ntmps248;go_wp2_with fail;go_loop [5] (fun iv=>iv=.int .i64 0) (fun iv=>(intOf iv+1).toNat)
    case atStart=>rfl
    case round=>
     subst hrel;go_wp2_with fail;go_region;go_wp2_with fail;go_region;go_wp2_with fail;go_ret;exact⟨by rw[HO.o];rfl,by first|exact HDR.o.1|exact HDR.o.2⟩
end Go.Proofs.YtgfmiladfeoldaaGreatDoor
