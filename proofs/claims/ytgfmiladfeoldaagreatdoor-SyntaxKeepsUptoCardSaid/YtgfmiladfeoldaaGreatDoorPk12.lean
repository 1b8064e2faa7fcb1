import Derived.Test.YtgfmiladfeoldaaGreatDoorPk7
import Derived.Test.YtgfmiladfeoldaaGreatDoorPk9
import Derived.Test.YtgfmiladfeoldaaGreatDoorPk6
set_option linter.unusedSimpArgs false
set_option linter.unusedVariables false
set_option maxRecDepth 100000
set_option maxHeartbeats 16000000
namespace Go.Proofs.YtgfmiladfeoldaaGreatDoor
open LexP NumP
theorem Hq:∀l:Qx,∀c∈Qz l,Q7 c=true-> ∃b,c.2=[b]/\(Xz b=true\/b=95)/\(kd c=3->Xz b=true):=by
 apply Ww
 ·intro c E;simp[Ye]at E
 ·intro l Z ih c E
  rw[Zq Z]at E;rcases List.mem_cons.1 E with rfl|E
  ·intro H
   cases hd:dec l with
   |none=>
    have I:val l=none:=by simp[val,hd]
    rw[I]at H;simp[Q7,kd,rn]at H
   |some p=>
    obtain⟨v,n⟩:=p
    have I:val l=some v:=by simp[val,hd]
    have hw:wid l=n:=by simp[wid,hd]
    rw[I]at H;rw[hw,I];have J:(kindOf v==3||v==95)=true:=H
    have O:kindOf v=3->48<=v/\v<=57:=by
     unfold kindOf
     repeat' split
     all_goals omega
    have T:(48<=v/\v<=57)\/v=95:=by
     simp only[Bool.or_eq_true,beq_iff_eq]at J;rcases J with h|h
     ·exact .inl (O h)
     ·exact .inr h
    obtain⟨rfl,ht⟩:=Fc hd (by omega)
    have K:v.toUInt8.toNat=v:=by simp;omega
    refine⟨v.toUInt8,ht,?_,?_⟩
    ·rcases T with h|rfl
     ·left;simp only[Xz,K,Bool.and_eq_true,decide_eq_true_eq];exact h
     ·right;rfl
    ·intro U
     have:=O U;simp only[Xz,K,Bool.and_eq_true,decide_eq_true_eq];exact this
  ·exact ih c E
theorem Am {S:Qx}{cs:List C}(h:∀c∈cs,c∈Qz S):Tg (Qw (cs.take (Qg Q7 cs))):=by
 intro b H;simp only[Qw,List.mem_flatMap]at H;obtain⟨c,I,E⟩:=H;have J:=Zm _ c I;obtain⟨x,O,K,_⟩:=Hq S c (h c (List.mem_of_mem_take I)) J;rw[O]at E;simp only[List.mem_singleton]at E;subst E;exact K
def Qql (t:Tok):Prop:=t.1=1->Tg t.2.1/\0<t.2.1.length/\Zr t.2.1=false
theorem Qkm (S:Qx):∀(n:Nat) (cs:List C) (col:Nat) (ts:List Tok),cs.length<=n->(∀c∈cs,c∈Qz S)->Toks col cs=.ok ts-> ∀t∈ts,Qql t:=by
 intro n
 induction n with
 |zero=>
  intro cs col ts hl _ h;rw[List.eq_nil_of_length_eq_zero (Nat.le_zero.1 hl),Yy]at h
  cases h
  intro t E;cases E
 |succ n ih=>
  intro cs col ts hl O h
  cases cs with
  |nil=>
   rw[Yy]at h
   cases h
   intro t E;cases E
  |cons c cs=>
   have H:∀(k col:Nat) (m:List Tok),1<=k->Toks col ((c::cs).drop k)=.ok m-> ∀t∈m,Qql t:=by
    intro k col m hk I;exact ih _ _ _ (by rw[List.length_drop];omega) (fun d hd=>O d (List.mem_of_mem_drop hd)) I
   have hk:=Pk c;by_cases k0:kd c=0
   ·rw[Vl _ k0]at h;cases h
   by_cases k1:kd c=1
   ·rw[Y8 _ k1]at h
    exact H 1 _ _ (Nat.le_refl _) h
   by_cases k2:kd c=2
   ·rw[Jf _ k2]at h
    split at h
    ·cases h
    ·cases h
     intro t E;cases E
   by_cases k3:kd c=3
   ·rw[Ji _ k3]at h
    split at h
    ·cases h
    ·rename_i hb
     obtain⟨m,I,rfl⟩:=SynP.Xa h
     have Z:Q7 c=true:=by simp[Q7,k3]
     have hp:=Xy (p:=Q7) (c:=c) (cs:=cs) Z;have:=H _ _ _ hp I;intro t E;rcases List.mem_cons.1 E with rfl|E
     ·intro _
      have hr:=Am (S:=S) (cs:=c::cs) O;obtain⟨x,hx,-,h2⟩:=Hq S c (O c (by simp)) Z;obtain⟨j,hj⟩:∃j,Qg Q7 (c::cs)=j+1:=⟨Qg Q7 (c::cs)-1,by omega⟩
      have e:Qw ((c::cs).take (Qg Q7 (c::cs)))=x::Qw (cs.take j):=by rw[hj,List.take_succ_cons];simp[Qw,hx]
      refine⟨hr,by show 0<(Qw _).length;rw[e];simp,?_⟩
      have U:Jo (Qw ((c::cs).take (Qg Q7 (c::cs))))=false:=by simpa using hb
      show Zr (Qw _)=false;rw[<-Ry,U];rw[e];intro T
      have K:x=95:=by simpa using T
      have:=h2 k3;rw[K]at this;exact absurd this (by decide)
     ·exact this t E
   by_cases k4:kd c=4
   ·rw[Zw _ k4]at h
    split at h
    ·cases h
    ·obtain⟨m,I,rfl⟩:=SynP.Xa h
     have:=H _ _ _ (Xy (p:=isAl) (c:=c) (cs:=cs) (by simp[isAl,k4])) I;intro t E;rcases List.mem_cons.1 E with rfl|E
     ·intro J;cases J
     ·exact this t E
   by_cases k5:kd c=5
   ·rw[Z2 _ k5]at h
    obtain⟨m,I,rfl⟩:=SynP.Xa h;have:=H 1 _ _ (Nat.le_refl _) I;intro t E;rcases List.mem_cons.1 E with rfl|E
    ·intro J;cases J
    ·exact this t E
   ·rw[Zs _ (by omega)]at h;cases h
theorem Ch {S:Qx}{ts:List Tok}(h:Toks 1 (Qz S)=.ok ts):∀t∈ts,Qql t:=Qkm S _ _ _ _ (Nat.le_refl _) (fun _ h=>h) h
open Go.RowKit NatP
theorem Qkz (v u:Value)(xs:List Nat)(w:World)(hv:RdW w v xs)(hu:RdW w u xs):
  Calls Tryz.prog 36 #[v,u] w fun e w'=>e=.returned (.bool true)/\Below w.heap.size w w':=by
 have HV:=zq hv;have HU:=zq hu;obtain⟨ao,cap,rfl,-,hcm,-,-⟩:=hv.2;obtain⟨bo,cap2,rfl,-,-,-,-⟩:=hu.2;obtain⟨n,hn⟩:=xq xs.length
 have hnb:n<=9223372036854775807:=by obtain⟨_,_,e,h1,h2,-⟩:=hv.2;cases e;unfold maxLen at h2;omega
 have HN:=zq hn;rw[<-hn];clear hv hu hcm hn;go_enter Tryz.func36,Tryz.ntmps36;go_wp2_with fail;go_loopw [5] (fun iv wr=> ∃k:Nat,iv=.int .i64 (k:Nat)/\k<=n/\Below w.heap.size w wr) (fun iv _=>n-(intOf iv).toNat)
 case atStart=>exact⟨0,rfl,Nat.zero_le _,Below.refl _ _⟩
 case round=>
  obtain⟨k,rfl,hk,hb⟩:=hrel;have HB:=zq hb;clear hb;by_cases hlt:k<n
  ·obtain⟨x,hx⟩:∃x,xs[k]?=some x:=⟨_,List.getElem?_eq_getElem (by rw[<-HN.o];exact hlt)⟩
   obtain⟨ao',cap',e,-,-,-,hsh⟩:=(HV.o.below HB.o).2;rw[<-HN.o]at e;cases e;obtain⟨g,o,rfl,e1⟩:=hsh k x hx;obtain⟨bo',cap2',e',-,-,-,hsh2⟩:=(HU.o.below HB.o).2;rw[<-HN.o]at e';cases e';obtain⟨g2,o2,rfl,e2⟩:=hsh2 k x hx;have hi0:(0:Int)<=(k:Int):=Int.natCast_nonneg _
   have hi1:(k:Int)<(n:Int):=by omega
   have hxx:((x:Int) !=(x:Int))=false:=by simp
   have HDR:=zq HB.o.drew;clear hx hsh hsh2;go_wp2_with fail;go_region;go_wp2_with fail;have hfin:Below w.heap.size w wr.drew:=HDR.o
   exact⟨⟨k+1,by go_num,by omega,hfin⟩,by simp[intOf]<;>omega⟩
  ·go_wp2_with fail
   go_ret;exact⟨rfl,HB.o⟩
end Go.Proofs.YtgfmiladfeoldaaGreatDoor
