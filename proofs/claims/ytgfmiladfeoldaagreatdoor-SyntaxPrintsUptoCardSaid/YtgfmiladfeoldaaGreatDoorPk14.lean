import Derived.Test.YtgfmiladfeoldaaGreatDoorPk13
set_option linter.unusedSimpArgs false
set_option linter.unusedVariables false
set_option maxRecDepth 100000
set_option maxHeartbeats 16000000
namespace Go.Proofs.YtgfmiladfeoldaaGreatDoor
open Go.RowKit ag aF
def Al (S:Bytes)(w:World)(l col i:Value)(wr:World):Prop:=
 ∃k acc,k<=(Qx S).length/\i=.int .i64 (ax S k:Nat)/\col=.int .i64 ((k:Int)+1)/\wr.ownsRow w.heap.size 119 3 l acc.length (Xk acc)/\Below w.heap.size w wr/\aw 1 (Qx S)=(aw (k+1) ((Qx S).drop k)).after acc/\acc.length<=k
theorem To (l:List Tok):∀u∈Xk l,u.oneCell'=true:=by
 intro u E;simp only[Xk,aeY]at E;obtain⟨t,_,h⟩:=E;simp at h
 rcases h with rfl|rfl|rfl<;>rfl
theorem Bp (v:Nat)(t:Bytes):kd (some v,t)=kindOf v:=rfl
theorem YS {k v:Nat}(h:kindOf v=k):kT k v=true:=by unfold kT;rw[h];simp
theorem Bj {k v:Nat}(h:kindOf v≠k):kT k v=false:=by unfold kT;simp[h]
theorem Dt {v:Nat}:kindOf v=2↔v=35:=by
 unfold kindOf
 repeat' split
 all_goals omega
theorem Qyq {v:Nat}(h:kindOf v≠5):Pw v=[]:=by
 have E:v≠0x2212:=by rintro rfl;exact h (by decide)
 have H:v≠0xd7:=by rintro rfl;exact h (by decide)
 unfold Pw;rw[if_neg E,if_neg H,if_neg h]
theorem Ji {v:Nat}{t:Bytes}(h:kindOf v=5)(hm:N9 (some v,t)):∃x,Pw v=[x]/\Zc (some v,t)=[x]:=by
 unfold Pw Zc rn;by_cases h1:v=0x2212
 ·subst h1;exact⟨45,rfl,rfl⟩
 by_cases h2:v=0xd7
 ·subst h2;exact⟨42,rfl,rfl⟩
 have E:v<128:=by
  unfold kindOf at h
  repeat' split at h
  all_goals omega
 have:=hm h (by simpa [rn] using E);refine⟨v.toUInt8,?_,?_⟩
 ·rw[if_neg h1,if_neg h2,if_pos h]
 simp only[h1,h2,aeb];exact this
theorem Qcg (s:ByteArray)(k r:Nat)(hr:k+r<=(Qx s.data.toList).length):s.extract (ax s.data.toList k) (ax s.data.toList k+ax (s.data.toList.drop (ax s.data.toList k)) r)=⟨(Qk (((Qx s.data.toList).drop k).take r)).toArray⟩:=by
 have h:=Dv s.data.toList k (k+r) (by omega);rw[Lib.extract_eq]
 have e:ax s.data.toList k+ax (s.data.toList.drop (ax s.data.toList k)) r=(Qk ((Qx s.data.toList).take (k+r))).length:=by rw[<-Hr];rfl
 rw[e,show k+r-k=r from by omega]at*;rw[<-h];rfl
theorem De:∀l:Bytes,∀c∈Qx l,Ql c=true-> ∃b,c.2=[b]/\(Qf b=true\/b=95)/\(kd c=3->Qf b=true):=by
 apply Wm
 ·intro c E;simp[Zf]at E
 intro l U ih c E;rw[Ye U]at E;rcases abY.1 E with rfl|E
 ·intro H
  cases hd:dec l with
  |none=>
   have I:val l=none:=by simp[val,hd]
   rw[I]at H;simp[Gd]at H
  |some p=>
   obtain⟨v,n⟩:=p
   have I:val l=some v:=by simp[val,hd]
   have hw:wid l=n:=by simp[wid,hd]
   rw[I]at H;rw[hw,I];rw[Tb]at H
   have K:kindOf v=3->48<=v/\v<=57:=by
    unfold kindOf
    repeat' split
    all_goals omega
   have O:(48<=v/\v<=57)\/v=95:=by
    simp only[aep,kT,adN]at H;rcases H with h|h
    ·exact .inl (K h)
    exact .inr h
   obtain⟨rfl,Z⟩:=Mj hd (by omega)
   have J:v.toUInt8.toNat=v:=by simp;omega
   refine⟨v.toUInt8,Z,?_,?_⟩
   ·rcases O with h|rfl
    ·left;simp only[Qf,J,aaY,aaV];exact h
    right;rfl
   intro T;have:=K T;simp only[Qf,J,aaY,aaV];exact this
 exact ih c E
theorem Qmn (S:Bytes)(k:Nat):Jl (Qk (((Qx S).drop k).take (Qp Ql ((Qx S).drop k)))):=by intro b E;simp only[Qk,aeY]at E;obtain⟨c,H,h⟩:=E;have I:=Jy _ c H;obtain⟨x,K,J,_⟩:=De S c (adU (adD H)) I;rw[K]at h;simp only[abu]at h;subst h;exact J
theorem Qyb (S:Bytes){k v:Nat}{t:Bytes}{r:List C}(h:(Qx S).drop k=(some v,t)::r)(h3:kindOf v=3):∃c,(Qk (((Qx S).drop k).take (Qp Ql ((Qx S).drop k))))[0]?=some c/\Qf c=true:=by
 have E:Ql (some v,t)=true:=by simp[Ql,Bp,h3]
 have J:(some v,t)∈Qx S:=adU (by rw[h];exact aek);obtain⟨x,H,_,I⟩:=De S _ J E;simp only at H;refine⟨x,?_,I h3⟩;rw[h,Qp,List.takeWhile_cons,if_pos E,aaf,aei];simp only[Qk,aen,H];rfl
theorem Fl (s:ByteArray)(w:World)(hs:s.size<=1048576):Calls Tryz.prog 69 #[.string s] w (Hj (aw 1 (Qx s.data.toList)) w):=by
 obtain⟨i0,hi,hz0,hz1,hz2⟩:=abO Tryz.pL;have oh:=zq (Nj s.data.toList)
 have hn:(Qx s.data.toList).length<=1048576:=by have:=Ym s.data.toList;rw[<-abg]at this;omega
 have hsz:=zq (abg s);go_enter Tryz.func69,Tryz.ntmps69;go_wp2_with fail;go_loopw [5,6,7] (fun l col i wr=>Al s.data.toList w l col i wr) (fun _ col _ _=>(Qx s.data.toList).length+1-(intOf col).toNat)
 case atStart=>exact⟨0,[],aao _,by rw[Rx];rfl,rfl,adC _ _ _ _,aa8 _ _,by simp[ep.eZ],aaa _⟩
 case round=>
  obtain⟨k,acc,hk,rfl,rfl,hown,hb,bT,pn⟩:=hrel;have ey:=zq bT;have hzz:=hb.size;have wY:=S9 s.data.toList k;rw[<-hsz.o]at wY;clear bT;by_cases hlt:k<(Qx s.data.toList).length
  ·have hbl:=(Yr s.data.toList k).2 hlt
   rw[<-hsz.o]at hbl;have fS:=zq (Sp hlt);have sj:=zq (Rq hlt);have x7:=zq (Mk fS.o)
   have rb:(s.data.toList.drop (ax s.data.toList k)).length=s.size-ax s.data.toList k:=by rw[aag,<-hsz.o]
   have iU:=zq (R9 s.data.toList k);obtain⟨L,hL⟩:=xq (s.data.toList.drop (ax s.data.toList k));have oZ:Hid (s.data.toList.drop (ax s.data.toList k)=L):=hL.symm;rw[<-hL]at fS sj x7 iU rb;clear hL;rcases cM L with ⟨h1,h2⟩|⟨v,n,h1,jE,jX,oQ,hv,h2,h3⟩
   ·have HE:Hid (aw (k+1) ((Qx s.data.toList).drop k)=.error (k+1,12)):=by show _=_;rw[x7.o,h2,Ws _ rfl]
    have H1:=zq h1;clear h1 h2;go_wp2_with fail;refine(X8 s (ax s.data.toList k) _ hs (by omega)).mono ?_;rintro e w' ⟨rfl,rfl⟩;rw[oZ.o,H1.o];simp only;go_wp2_with fail;refine(Uq 0 _ (by omega)).mono ?_;rintro e w' ⟨rfl,rfl⟩;go_wp2_with fail;go_ret3;exact Z5 (k+1) 12 (by show Value.int .i64 _=_;congr 1) rfl (ey.o.trans (Vw HE.o)) hb
   have H1:=zq h1;have GK:=Tc v
   have eQ:((n:Int)==0)=false:=by simp;omega
   have HS:Hid (ax s.data.toList (k+1)=ax s.data.toList k+n):=by show _=_;rw[sj.o,h3]
   have ma:Hid ((Qx s.data.toList).drop k=(some v,L.take n)::(Qx s.data.toList).drop (k+1)):=by show _=_;rw[x7.o,h2,h3]
   have jQ:Hid (N9 (some v,L.take n)):=by have:=oh.o _ (aah fS.o);rw[h2,h3]at this;exact this
   clear h1 h2 h3;by_cases k1:kindOf v=1
   ·have HB:=zq (YS k1)
    have HE:Hid (aw (k+1) ((Qx s.data.toList).drop k)=aw (k+1+1) ((Qx s.data.toList).drop (k+1))):=by show _=_;rw[ma.o,Zr (c:=(some v,L.take n)) _ k1]
    clear k1 GK;go_wp2_with fail;refine(X8 s (ax s.data.toList k) _ hs (by omega)).mono ?_;rintro e w' ⟨rfl,rfl⟩;rw[oZ.o,H1.o];simp only;go_wp2_with fail;refine(Uq v _ hv).mono ?_;rintro e w' ⟨rfl,rfl⟩;go_wp2_with fail;refine(Wl v _ hv).mono ?_;rintro e w' ⟨rfl,rfl⟩;rw[HB.o];go_wp2_with fail;have ah:Al s.data.toList w u5 (.int .i64 ((k:Int)+1+1)) (.int .i64 ((ax s.data.toList k:Int)+(n:Int))) wr:=⟨k+1,acc,by omega,by rw[HS.o];go_num,by go_num,hown,hb,by rw[ey.o,HE.o],by omega⟩
    first|exact⟨ah,by simp[intOf];omega⟩|exact⟨by (repeat apply Exists.intro);exact⟨ah,rfl⟩,by simp[intOf];omega⟩
   have HB:=zq (Bj k1);by_cases k2:kindOf v=2
   ·have FW:=Dt.1 k2
    subst FW;have HE:=zq (Vj (c:=(some 35,L.take n)) (cs:=(Qx s.data.toList).drop (k+1)) (k+1) k2);rw[<-ma.o]at HE;have hle:=Zq Qe ((Qx s.data.toList).drop k);rw[aag]at hle;clear k1 k2 GK;go_wp2_with fail;refine(X8 s (ax s.data.toList k) _ hs (by omega)).mono ?_;rintro e w' ⟨rfl,rfl⟩;rw[oZ.o,H1.o];simp only;go_wp2_with fail;refine(Uq 35 _ hv).mono ?_;rintro e w' ⟨rfl,rfl⟩;go_wp2_with fail;refine(Wl 35 _ hv).mono ?_;rintro e w' ⟨rfl,rfl⟩;rw[HB.o];go_wp2_with fail;rw[show ((k:Int)+1)=((k+1:Nat):Int) from by omega];refine(Qxm s (ax s.data.toList k) (k+1) _ hs (by omega) (by omega)).mono ?_;rintro e w' ⟨rfl,rfl⟩;rw[oZ.o];unfold lj;rw[iU.o,aag];by_cases hl2:Qp Qe ((Qx s.data.toList).drop k)<(Qx s.data.toList).length-k
    ·rw[if_pos hl2]
     have gN:(0:Int)<((k+1+Qp Qe ((Qx s.data.toList).drop k):Nat):Int):=by omega
     go_wp2_with fail;go_ret3
     exact Z5 (k+1+Qp Qe ((Qx s.data.toList).drop k)) 12 (by show Value.int .i64 _=_;congr 1) rfl
      (ey.o.trans (Vw (HE.o.trans (if_pos (by rw[aag];omega))))) hb
    rw[if_neg hl2];go_wp2_with fail;go_ret3;refine Pf (ey.o.trans (Sk ?_)) hown hb;rw[HE.o,if_neg (by rw[aag];omega)]
   have FW:v≠35:=fun h=>k2 (Dt.2 h)
   have acu:((v:Int)==35)=false:=by simp;omega
   by_cases k3:kindOf v=3
   ·have rN:=zq (YS k3)
    have HE:=zq (Vd (c:=(some v,L.take n)) (cs:=(Qx s.data.toList).drop (k+1)) (k+1) k3);rw[<-ma.o]at HE
    have hp:1<=Qp Ql ((Qx s.data.toList).drop k):=by rw[ma.o];exact Xv (by simp[Ql,Bp,k3])
    have hle:=Zq Ql ((Qx s.data.toList).drop k);rw[aag]at hle;have HT:=zq (Qcg s k (Qp Ql ((Qx s.data.toList).drop k)) (by omega));rw[oZ.o]at HT;have I2:=zq (Qmn s.data.toList k);have EY:=zq (Qyb s.data.toList ma.o k3);have hb2:=S9 L (Qp Ql ((Qx s.data.toList).drop k));rw[rb]at hb2
    have QQ:Hid (ax s.data.toList (k+Qp Ql ((Qx s.data.toList).drop k))=ax s.data.toList k+ax L (Qp Ql ((Qx s.data.toList).drop k))):=by show _=_;rw[Hr,oZ.o]
    have fF:Hid ((Qk (((Qx s.data.toList).drop k).take (Qp Ql ((Qx s.data.toList).drop k)))).length<=1048576):=by
     show _<=_
     have:(Qk (((Qx s.data.toList).drop k).take (Qp Ql ((Qx s.data.toList).drop k)))).length=ax L (Qp Ql ((Qx s.data.toList).drop k)):=by unfold ax;rw[iU.o]
     omega
    have Ip:Hid (Jf (Qk (((Qx s.data.toList).drop k).take (Qp Ql ((Qx s.data.toList).drop k))))=Xi (Qk (((Qx s.data.toList).drop k).take (Qp Ql ((Qx s.data.toList).drop k))))):=by refine Us ?_;obtain⟨c,h1,h2⟩:=EY.o;rw[h1];intro h;rw[aax h]at h2;exact absurd h2 (by decide)
    clear k1 k2 GK k3 FW rb;go_wp2_with fail;refine(X8 s (ax s.data.toList k) _ hs (by omega)).mono ?_;rintro e w' ⟨rfl,rfl⟩;rw[oZ.o,H1.o];simp only;go_wp2_with fail;refine(Uq v _ hv).mono ?_;rintro e w' ⟨rfl,rfl⟩;go_wp2_with fail;refine(Wl v _ hv).mono ?_;rintro e w' ⟨rfl,rfl⟩;rw[HB.o];go_wp2_with fail;refine(Y8 v _ hv).mono ?_;rintro e w' ⟨rfl,rfl⟩;rw[rN.o];go_wp2_with fail;refine(Qxl s (ax s.data.toList k) _ hs (by omega)).mono ?_;rintro e w' ⟨rfl,rfl⟩;rw[oZ.o,iU.o];generalize Qp Ql ((Qx s.data.toList).drop k)=r at*;generalize ax L r=bl at*;go_wp2_with fail;rw[HT.o];generalize Qk (((Qx s.data.toList).drop k).take r)=t at*;have xx:t.length<=1048576:=fF.o;refine(Kt ⟨t.toArray⟩ _ (by rw[abg];exact xx) I2.o EY.o).mono ?_;rintro e w2 Oh;rcases Oh with ⟨hbad,rfl,hb2⟩|⟨dB,v2,rfl,hown2,hb2⟩
    ·have jk:Hid (aw (k+1) ((Qx s.data.toList).drop k)=.error (k+1,7)):=by show _=_;rw[HE.o,Ip.o,if_pos hbad]
     have aD:Hid (Below w.heap.size w w2):=hb.trans (hb2.mono hzz);clear hbad hb2;go_wp2_with fail;go_ret3;exact Z5 (k+1) 7 (by show Value.int .i64 _=_;congr 1) rfl (ey.o.trans (Vw jk.o)) aD.o
    have jk:Hid (aw (k+1) ((Qx s.data.toList).drop k)=(aw (k+r+1) ((Qx s.data.toList).drop (k+r))).after [(1,t,k+1)]):=by show _=_;rw[HE.o,Ip.o,dB,adG,show k+1+r=k+r+1 from by omega];rfl
    have aD:Hid (Below w.heap.size w w2):=hb.trans (hb2.mono hzz);have q0:=Qg hown hb2 (aaa _);have hz2':=hb2.size;clear dB hb2 hown2 hown;go_wp2_with (at_builtin;refine adO _ rfl _ _ 83 rfl w.heap.size 119 i0 (.agg #[.int .i64 0,.string ⟨#[]⟩,.int .i64 0]) 3 32 Tryz.underlying83 hi hz0 hz1 hz2 rfl (by decide) _ _ _ rfl (abj q0 _) ⟨w2.heap.size,0,none⟩ 1 1 (Xk [(1,t,k+1)]) rfl rfl (Qh _ _ _ _ rfl) (To _) (by unfold maxLen;omega) (by omega) (by simp;omega) ?_);intro v' w3 au ak _
    have eM:Hid (w3.ownsRow w.heap.size 119 3 v' (acc++[(1,t,k+1)]).length (Xk (acc++[(1,t,k+1)]))):=by show World.ownsRow _ _ _ _ _ _ _;rw[Vq,aac];exact au
    have aS:Hid (Below w.heap.size w w3):=abq (aD.o.alloc (by omega) _) ak (by simp;omega) (fun q hq=>(aaZ q0 q hq).1);clear au ak q0;go_wp2_with fail;have ah:Al s.data.toList w v' (.int .i64 ((k:Int)+1+(r:Int))) (.int .i64 ((ax s.data.toList k:Int)+(bl:Int))) w3:=⟨k+r,acc++[(1,t,k+1)],by omega,by rw[QQ.o];go_num,by go_num,eM.o,aS.o,by rw[ey.o,jk.o,ep.bH],by simp;omega⟩
    first|exact⟨ah,by simp[intOf];omega⟩|exact⟨by (repeat apply Exists.intro);exact⟨ah,rfl⟩,by simp[intOf];omega⟩
   have rN:=zq (Bj k3);by_cases k4:kindOf v=4
   ·have yg:=zq (YS k4)
    have HE:=zq (Vv (c:=(some v,L.take n)) (cs:=(Qx s.data.toList).drop (k+1)) (k+1) k4);rw[<-ma.o]at HE
    have hp:1<=Qp aL ((Qx s.data.toList).drop k):=by rw[ma.o];exact Xv (by simp[aL,Bp,k4])
    have hle:=Zq aL ((Qx s.data.toList).drop k);rw[aag]at hle;have HT:=zq (Qcg s k (Qp aL ((Qx s.data.toList).drop k)) (by omega));rw[oZ.o]at HT;have hb2:=S9 L (Qp aL ((Qx s.data.toList).drop k));rw[rb]at hb2
    have QQ:Hid (ax s.data.toList (k+Qp aL ((Qx s.data.toList).drop k))=ax s.data.toList k+ax L (Qp aL ((Qx s.data.toList).drop k))):=by show _=_;rw[Hr,oZ.o]
    have Oy:(Qk (((Qx s.data.toList).drop k).take (Qp aL ((Qx s.data.toList).drop k)))).length=ax L (Qp aL ((Qx s.data.toList).drop k)):=by unfold ax;rw[iU.o]
    have AG:=zq Oy;clear k1 k2 GK k3 k4 FW rb Oy;go_wp2_with fail;refine(X8 s (ax s.data.toList k) _ hs (by omega)).mono ?_;rintro e w' ⟨rfl,rfl⟩;rw[oZ.o,H1.o];simp only;go_wp2_with fail;refine(Uq v _ hv).mono ?_;rintro e w' ⟨rfl,rfl⟩;go_wp2_with fail;refine(Wl v _ hv).mono ?_;rintro e w' ⟨rfl,rfl⟩;rw[HB.o];go_wp2_with fail;refine(Y8 v _ hv).mono ?_;rintro e w' ⟨rfl,rfl⟩;rw[rN.o];go_wp2_with fail;refine(W9 v _ hv).mono ?_;rintro e w' ⟨rfl,rfl⟩;rw[yg.o];go_wp2_with fail;refine(Qvp s (ax s.data.toList k) _ hs (by omega)).mono ?_;rintro e w' ⟨rfl,rfl⟩;rw[oZ.o,iU.o];generalize Qp aL ((Qx s.data.toList).drop k)=r at*;generalize ax L r=bl at*;generalize Qk (((Qx s.data.toList).drop k).take r)=t at*;by_cases h32:32<bl
    ·have jk:Hid (aw (k+1) ((Qx s.data.toList).drop k)=.error (k+1,17)):=by show _=_;rw[HE.o,AG.o,if_pos h32]
     go_wp2_with fail;go_ret3;exact Z5 (k+1) 17 (by show Value.int .i64 _=_;congr 1) rfl (ey.o.trans (Vw jk.o)) hb
    have jk:Hid (aw (k+1) ((Qx s.data.toList).drop k)=(aw (k+r+1) ((Qx s.data.toList).drop (k+r))).after [(2,t,k+1)]):=by show _=_;rw[HE.o,AG.o,if_neg h32,adG,show k+1+r=k+r+1 from by omega]
    go_wp2_with (at_builtin;rw[HT.o];refine adO _ rfl _ _ 83 rfl w.heap.size 119 i0 (.agg #[.int .i64 0,.string ⟨#[]⟩,.int .i64 0]) 3 32 Tryz.underlying83 hi hz0 hz1 hz2 rfl (by decide) _ _ _ rfl (abj hown _) ⟨wr.heap.size,0,none⟩ 1 1 (Xk [(2,t,k+1)]) rfl rfl (Qh _ _ _ _ rfl) (To _) (by unfold maxLen;omega) (by omega) (by simp;omega) ?_);intro v' w3 au ak _
    have eM:Hid (w3.ownsRow w.heap.size 119 3 v' (acc++[(2,t,k+1)]).length (Xk (acc++[(2,t,k+1)]))):=by show World.ownsRow _ _ _ _ _ _ _;rw[Vq,aac];exact au
    have aS:Hid (Below w.heap.size w w3):=abq (hb.alloc (by omega) _) ak (by simp;omega) (fun q hq=>(aaZ hown q hq).1);clear au ak hown;go_wp2_with fail;have ah:Al s.data.toList w v' (.int .i64 ((k:Int)+1+(r:Int))) (.int .i64 ((ax s.data.toList k:Int)+(bl:Int))) w3:=⟨k+r,acc++[(2,t,k+1)],by omega,by rw[QQ.o];go_num,by go_num,eM.o,aS.o,by rw[ey.o,jk.o,ep.bH],by simp;omega⟩
    first|exact⟨ah,by simp[intOf];omega⟩|exact⟨by (repeat apply Exists.intro);exact⟨ah,rfl⟩,by simp[intOf];omega⟩
   have yg:=zq (Bj k4);by_cases k5:kindOf v=5
   ·obtain⟨x,hx1,hx2⟩:=Ji k5 jQ.o
    have HE:=zq (Jr (c:=(some v,L.take n)) (cs:=(Qx s.data.toList).drop (k+1)) (k+1) k5);rw[<-ma.o,hx2]at HE;have HM:=zq hx1;clear k1 k2 GK k3 k4 k5 FW hx1 hx2;go_wp2_with fail;refine(X8 s (ax s.data.toList k) _ hs (by omega)).mono ?_;rintro e w' ⟨rfl,rfl⟩;rw[oZ.o,H1.o];simp only;go_wp2_with fail;refine(Uq v _ hv).mono ?_;rintro e w' ⟨rfl,rfl⟩;rw[HM.o];go_wp2_with fail;refine(Wl v _ hv).mono ?_;rintro e w' ⟨rfl,rfl⟩;rw[HB.o];go_wp2_with fail;refine(Y8 v _ hv).mono ?_;rintro e w' ⟨rfl,rfl⟩;rw[rN.o];go_wp2_with fail;refine(W9 v _ hv).mono ?_;rintro e w' ⟨rfl,rfl⟩;rw[yg.o];go_wp2_with (at_builtin;refine adO _ rfl _ _ 83 rfl w.heap.size 119 i0 (.agg #[.int .i64 0,.string ⟨#[]⟩,.int .i64 0]) 3 32 Tryz.underlying83 hi hz0 hz1 hz2 rfl (by decide) _ _ _ rfl (abj hown _) ⟨wr.heap.size,0,none⟩ 1 1 (Xk [(3,[x],k+1)]) rfl rfl (Qh _ _ _ _ rfl) (To _) (by unfold maxLen;omega) (by omega) (by simp;omega) ?_);intro v' w3 au ak _
    have eM:Hid (w3.ownsRow w.heap.size 119 3 v' (acc++[(3,[x],k+1)]).length (Xk (acc++[(3,[x],k+1)]))):=by show World.ownsRow _ _ _ _ _ _ _;rw[Vq,aac];exact au
    have aS:Hid (Below w.heap.size w w3):=abq (hb.alloc (by omega) _) ak (by simp;omega) (fun q hq=>(aaZ hown q hq).1);clear au ak hown;go_wp2_with fail;have ah:Al s.data.toList w v' (.int .i64 ((k:Int)+1+1)) (.int .i64 ((ax s.data.toList k:Int)+(n:Int))) w3:=⟨k+1,acc++[(3,[x],k+1)],by omega,by rw[HS.o];go_num,by go_num,eM.o,aS.o,by rw[ey.o,HE.o,ep.bH],by simp;omega⟩
    first|exact⟨ah,by simp[intOf];omega⟩|exact⟨by (repeat apply Exists.intro);exact⟨ah,rfl⟩,by simp[intOf];omega⟩
   have k6:kindOf v=6:=by omega
   have HE:Hid (aw (k+1) ((Qx s.data.toList).drop k)=.error (k+1,13)):=by show _=_;rw[ma.o,Jh (c:=(some v,L.take n)) _ k6]
   have HM:=zq (Qyq k5);clear k1 k2 GK k3 k4 k5 FW k6;go_wp2_with fail;refine(X8 s (ax s.data.toList k) _ hs (by omega)).mono ?_;rintro e w' ⟨rfl,rfl⟩;rw[oZ.o,H1.o];simp only;go_wp2_with fail;refine(Uq v _ hv).mono ?_;rintro e w' ⟨rfl,rfl⟩;rw[HM.o];go_wp2_with fail;refine(Wl v _ hv).mono ?_;rintro e w' ⟨rfl,rfl⟩;rw[HB.o];go_wp2_with fail;refine(Y8 v _ hv).mono ?_;rintro e w' ⟨rfl,rfl⟩;rw[rN.o];go_wp2_with fail;refine(W9 v _ hv).mono ?_;rintro e w' ⟨rfl,rfl⟩;rw[yg.o];go_wp2_with fail;go_ret3;exact Z5 (k+1) 13 (by show Value.int .i64 _=_;congr 1) rfl (ey.o.trans (Vw HE.o)) hb
  have hbe:s.size<=ax s.data.toList k:=by have:=Yr s.data.toList k;have:=hsz.o;omega
  go_wp2_with fail;go_ret3;refine Pf (ey.o.trans (Sk ?_)) hown hb;rw[aef (by omega),Zg]
theorem Wa (n k:Nat):(((n:Nat):Int)==(k:Int))=(n==k):=by rw[abA];simp;omega
theorem Qy7 (op:Int)(w:World):Calls Tryz.prog 140 #[.int .i64 op] w fun e w'=>e=.returned (.bool (ae.Vf op))/\w=w':=by
 by_cases h:op=11\/op=12\/op=14
 ·rcases h with rfl|rfl|rfl
  all_goals
   go_enter Tryz.func140,Tryz.ntmps140;go_wp2_with fail;go_ret;exact⟨rfl,rfl⟩
 simp only[not_or]at h;obtain⟨h1,h2,h3⟩:=h
 have d1:(op==11)=false:=by simp[h1]
 have d2:(op==12)=false:=by simp[h2]
 have d3:(op==14)=false:=by simp[h3]
 have HE:Hid (ae.Vf op=false):=by show _=_;unfold ae.Vf;rw[d1,d2,d3];rfl
 go_enter Tryz.func140,Tryz.ntmps140;go_wp2_with fail;go_ret;exact⟨by rw[HE.o];rfl,rfl⟩
theorem Nc (op:Int)(n:Nat)(w:World):Calls Tryz.prog 138 #[.int .i64 op,.int .i64 (n:Nat)] w fun e w'=>e=.returned (.bool (ae.cnt op n))/\w=w':=by
 have k0:(((n:Nat):Int)==0)=(n==0):=by rw[abA];simp
 have k1:(((n:Nat):Int)==1)=(n==1):=by rw[abA];simp;omega
 have k2:(((n:Nat):Int)==2)=(n==2):=by rw[abA];simp;omega
 have k3:decide ((1:Int)<=(n:Nat))=decide (1<=n):=by rw[decide_eq_decide];omega
 by_cases h:op∈([1,2,3,13,14,4,5,9,11,6,7,8,10,12]:List Int)
 ·simp only[abY,aeg,ae5]at h
  rcases h with rfl|rfl|rfl|rfl|rfl|rfl|rfl|rfl|rfl|rfl|rfl|rfl|rfl|rfl
  all_goals
   go_enter Tryz.func138,Tryz.ntmps138;go_wp2_with fail;go_ret;exact⟨by simp only[k0,k1,k2,k3];rfl,rfl⟩
 simp only[abY,aeg,ae5,not_or]at h;obtain⟨h1,h2,h3,h4,h5,h6,h7,h8,h9,h10,h11,lr,nO,Lt⟩:=h
 have e:ae.cnt op n=false:=by unfold ae.cnt;simp[h1,h2,h3,h4,h5,h6,h7,h8,h9,h10,h11,lr,nO,Lt]
 have HE:=zq e
 have d1:(op==1)=false:=by simp[h1]
 have d2:(op==2)=false:=by simp[h2]
 have d3:(op==3)=false:=by simp[h3]
 have d4:(op==13)=false:=by simp[h4]
 have d5:(op==14)=false:=by simp[h5]
 have d6:(op==4)=false:=by simp[h6]
 have d7:(op==5)=false:=by simp[h7]
 have d8:(op==9)=false:=by simp[h8]
 have d9:(op==11)=false:=by simp[h9]
 have d10:(op==6)=false:=by simp[h10]
 have d11:(op==7)=false:=by simp[h11]
 have d12:(op==8)=false:=by simp[lr]
 have d13:(op==10)=false:=by simp[nO]
 have d14:(op==12)=false:=by simp[Lt]
 clear e;go_enter Tryz.func138,Tryz.ntmps138;go_wp2_with fail;go_ret;exact⟨by rw[HE.o];rfl,rfl⟩
theorem Ed (op part place:Nat)(w:World):Calls Tryz.prog 77 #[.int .i64 (op:Nat),.int .i64 (part:Nat),.int .i64 (place:Nat)] w fun e w'=>e=.returned (.bool (ae.Qy op place part))/\w=w':=by
 have key:∀(a b:Int) (x y:Bool),a=(op:Nat)->(part:Nat)=b->(((place:Nat):Int)==1)=y->(b==6)=((part:Nat)==6)->True:=fun _ _ _ _ _ _ _ _=>trivial
 clear key
 have s1:(((place:Nat):Int)==1)=(place==1):=by rw[abA];simp;omega
 obtain⟨y,hy⟩:∃y,(place==1)=y:=⟨_,rfl⟩;rw[hy]at s1;have HY:=zq hy;clear hy;obtain⟨a6,h6⟩:∃y,(part==6)=y:=⟨_,rfl⟩;obtain⟨a7,h7⟩:∃y,(part==7)=y:=⟨_,rfl⟩;obtain⟨a8,h8⟩:∃y,(part==8)=y:=⟨_,rfl⟩;obtain⟨a4,h4⟩:∃y,(part==4)=y:=⟨_,rfl⟩;obtain⟨a9,h9⟩:∃y,(part==9)=y:=⟨_,rfl⟩
 have p6:(((part:Nat):Int)==6)=a6:=by rw[<-h6];exact Wa part 6
 have p7:(((part:Nat):Int)==7)=a7:=by rw[<-h7];exact Wa part 7
 have p8:(((part:Nat):Int)==8)=a8:=by rw[<-h8];exact Wa part 8
 have p4:(((part:Nat):Int)==4)=a4:=by rw[<-h4];exact Wa part 4
 have p9:(((part:Nat):Int)==9)=a9:=by rw[<-h9];exact Wa part 9
 have HV:Hid (ae.Qy op place part=(if op==6||op==7 then (y && (a6||a7)) else if op==8 then ((a6||a7)||(y && ((a6||a7)||a8))) else if op==4 then ((a6||a7)||a8) else if op==9||op==5 then ((((a6||a7)||a8)||a4)||a9) else false)):=by show _=_;unfold ae.Qy ae.Sf ae.P7;rw[HY.o,h6,h7,h8,h4,h9]
 rw[HV.o];clear h6 h7 h8 h4 h9 HV HY;by_cases h:op∈([6,7,8,4,9,5]:List Nat)
 ·simp only[abY,aeg,ae5]at h
  rcases h with rfl|rfl|rfl|rfl|rfl|rfl
  all_goals
   cases a6<;>cases a7<;>cases a8<;>cases y
   all_goals
    go_enter Tryz.func77,Tryz.ntmps77;go_wp2_with fail
    try (cases a4<;>go_wp2_with fail)
    all_goals
     go_ret;exact⟨by simp,rfl⟩
 simp only[abY,aeg,ae5,not_or]at h;obtain⟨g6,g7,g8,g4,g9,g5⟩:=h
 have q6:(op==6)=false:=by simp[g6]
 have q7:(op==7)=false:=by simp[g7]
 have q8:(op==8)=false:=by simp[g8]
 have q4:(op==4)=false:=by simp[g4]
 have q9:(op==9)=false:=by simp[g9]
 have q5:(op==5)=false:=by simp[g5]
 rw[q6,q7,q8,q4,q9,q5];have d6:(((op:Nat):Int)==6)=false:=(Wa op 6).trans q6;have d7:(((op:Nat):Int)==7)=false:=(Wa op 7).trans q7;have d8:(((op:Nat):Int)==8)=false:=(Wa op 8).trans q8;have d4:(((op:Nat):Int)==4)=false:=(Wa op 4).trans q4;have d9:(((op:Nat):Int)==9)=false:=(Wa op 9).trans q9;have d5:(((op:Nat):Int)==5)=false:=(Wa op 5).trans q5;clear q6 q7 q8 q4 q9 q5 g6 g7 g8 g4 g9 g5
 cases a6
 all_goals
  go_enter Tryz.func77,Tryz.ntmps77;go_wp2_with fail;go_ret;exact⟨rfl,rfl⟩
def Qf5 (l:Bytes)(w:World)(i:Value)(wr:World):Prop:=∃k,k<=l.length/\i=.int .i64 (k:Nat)/\(∀c∈l.take k,aF.Qf c=true)/\w=wr
theorem Qvv (s:ByteArray)(w:World)(hs:s.size<=67108864):Calls Tryz.prog 181 #[.string s] w fun e w'=>e=.returned (.bool (aq.mC s.data.toList))/\w=w':=by
 have hsz:=zq (abg s);obtain⟨r,hr⟩:=xq (aq.mC s.data.toList);rw[<-hr];have HR:=zq hr;clear hr;go_enter Tryz.func181,Tryz.ntmps181;go_wp2_with fail;go_loopw [3] (fun i wr=>Qf5 s.data.toList w i wr) (fun i _=>s.size-(intOf i).toNat)
 case atStart=>exact⟨0,aao _,rfl,fun c hc=>by simp at hc,rfl⟩
 case round=>
  obtain⟨k,hk,rfl,hall,rfl⟩:=hrel;rw[<-hsz.o]at hk;have bw:=zq hall;clear hall;by_cases hlt:k<s.size
  ·have hlt':k<s.data.toList.length:=by have:=hsz.o;omega
   have e2:s.data.toList[k]=s[k]:=rfl;obtain⟨d,hd⟩:∃d:Nat,(s[k]).toNat=d:=⟨_,rfl⟩;have HD:=zq hd;by_cases dO:48<=d/\d<=57
   ·obtain⟨g1,g2⟩:=dO
    have HF:Hid (Qf5 s.data.toList w (.int .i64 (((k+1:Nat):Int))) w):=by
     refine⟨k+1,by omega,rfl,fun c hc=> ?_,rfl⟩;rw[adw hlt']at hc;rcases abZ.1 hc with hc|hc
     ·exact bw.o c hc
     rw[abu.1 hc,e2];simp only[aF.Qf,aaY,aaV];rw[HD.o];exact⟨g1,g2⟩
    have n1: ¬((d:Nat):Int)<48:=by omega
    have n2: ¬(57:Int)<((d:Nat):Int):=by omega
    clear e2;go_wp2_with fail
    exact⟨HF.o,by simp[intOf]<;>omega⟩
   have HN:Hid (r=false):=by
    show _=_;rw[HR.o];unfold aq.mC
    have:s.data.toList.all aF.Qf=false:=by rw[List.all_eq_false];refine⟨s.data.toList[k],ae6 hlt',?_⟩;rw[e2];simp only[aF.Qf,aaY,aaV];rw[HD.o];exact dO
    rw[this];rfl
   clear e2;by_cases g1:d<48
   ·have n1:((d:Nat):Int)<48:=by omega
    go_wp2_with fail;go_ret;exact⟨by rw[HN.o];rfl,rfl⟩
   have n1: ¬((d:Nat):Int)<48:=by omega
   have n2:(57:Int)<((d:Nat):Int):=by omega
   go_wp2_with fail;go_ret;exact⟨by rw[HN.o];rfl,rfl⟩
  have hall:s.data.toList.all aF.Qf=true:=by rw[aeJ];intro c hc;refine bw.o c ?_;rw[aat (by have:=hsz.o;omega)];exact hc
  have HV:Hid (r=(s.size==1||(decide (1<s.size) && s.data.toList.headD 0 !=48))):=by show _=_;rw[HR.o];unfold aq.mC;rw[hall,<-hsz.o];rfl
  have fC:k=s.size:=by omega
  subst fC;clear hall;by_cases h1:s.size=1
  ·have HF:Hid (r=true):=by show _=_;rw[HV.o,h1];rfl
   have n1:(((s.size:Nat):Int)==1)=true:=by simp;omega
   clear h1;go_wp2_with fail;go_ret;exact⟨by rw[HF.o];rfl,rfl⟩
  have n1:(((s.size:Nat):Int)==1)=false:=by simp;omega
  by_cases h2:1<s.size
  ·have n2:(1:Int)<((s.size:Nat):Int):=by omega
   have h0:0<s.size:=by omega
   obtain⟨d,hd⟩:∃d:Nat,(s[0]).toNat=d:=⟨_,rfl⟩
   have HF:Hid (r=(((d:Nat):Int) !=48)):=by
    show _=_;rw[HV.o]
    have e1:(s.size==1)=false:=by simpa using h1
    have e3:s.data.toList.headD 0=s[0]:=by
     have:s.data.toList[0]?=some s[0]:=aad (by have:=hsz.o;omega)
     cases hl:s.data.toList with
     |nil=>rw[hl]at this;cases this
     |cons a l=>rw[hl]at this;simpa using this
    rw[e1,abH h2,e3];show (s[0] !=48)=_;rw[abA];simp only[bne_iff_ne,ne_eq];constructor
    ·intro h h5
     apply h;apply aer.1;rw[hd];show d=48;omega
    intro h h5;apply h;rw[<-hd,h5];rfl
   clear h1;go_wp2_with fail;go_ret;exact⟨by rw[HF.o];rfl,rfl⟩
  have n2: ¬(1:Int)<((s.size:Nat):Int):=by omega
  have HF:Hid (r=false):=by show _=_;rw[HV.o,show (s.size==1)=false by simpa using h1,abC h2];rfl
  clear h1;go_wp2_with fail;go_ret;exact⟨by rw[HF.o];rfl,rfl⟩
open ai
def ZI:Prop:=∀(op:Int) (text:Bytes) (kv:Value) (w:World),text.length<=1048576->(∃ko k aj,kv=.slice ko k aj)->Calls Tryz.prog 139 #[.agg #[.int .i64 op,.string ⟨text.toArray⟩,kv]] w fun e w'=>e=.returned (.bool (ae.WV op text))/\Below w.heap.size w w'
def QY (l:List ae.NI)(w:World)(r:Bool)(fv iv:Value)(wr:World):Prop:=
 ∃(i:Nat) (free:List Nat) (g cap:Nat),i<=l.length/\iv=.int .i64 (i:Nat)/\fv=.slice (some ⟨g,0,none⟩) free.length cap/\free.length<=i/\ae.Qi ae.WV l.length i free (l.drop i)=r/\wr.ownsRow w.heap.size 3 1 fv free.length (ints free)/\Below w.heap.size w wr
theorem Qga {l:List ae.NI}{w w6:World}{r:Bool}{i M gg cq:Nat}{free:List Nat}(hg:ae.Qi ae.WV l.length (i+1) (free.take M++[i]) (l.drop (i+1))=r)
  (hown:w6.ownsRow w.heap.size 3 1 (.slice (some ⟨gg,0,none⟩) (M+1) cq) (M+1) (ints (free.take M)++[.int .i64 ((i:Nat):Int)])) (hb:Below w.heap.size w w6) (hi:i+1<=l.length) (hM:M<=i) (hMf:M<=free.length):
  QY l w r (.slice (some ⟨gg,0,none⟩) (M+1) cq) (.int .i64 ((i+1:Nat):Int)) w6:=by
 have e:(free.take M++[i]).length=M+1:=by rw[aac,aak];simp;omega
 have e2:ints (free.take M++[i])=ints (free.take M)++[.int .i64 ((i:Nat):Int)]:=by simp[ints]
 refine⟨i+1,free.take M++[i],gg,cq,hi,rfl,by rw[e],by rw[e];omega,hg,?_,hb⟩;rw[e,e2];exact hown
theorem Qh7 {w:World}{g o:Nat}{v:Value}(h:w.cell? ⟨g,o,none⟩=some v):g<w.heap.size:=adu w _ h
def YE (kids:List Int)(free:List Nat)(M j:Nat):Prop:=∀a,a<j->kids[a]?=(free[M+a]?).map fun k:Nat=>(k:Int)
theorem Qba {kids:List Int}{free:List Nat}{M k N:Nat}(hk:k=kids.length)(hN:N=free.length)(hM:N=M+k)(h:YE kids free M k):kids=ae.Yb free k:=by
 unfold ae.Yb;rw[show free.length-k=M by omega];apply List.ext_getElem?;intro a;by_cases ha:a<k
 ·rw[h a ha,ads,adp]
 rw[aea (by omega),aea (by rw[aay,aag];omega)]
theorem Qbe {kids:List Int}{free:List Nat}{M k N a:Nat}{x:Int}{y:Nat}(hN:N=free.length)(hM:N=M+k)(hx:kids[a]?=some x)(hy:free[M+a]?=some y)(hne:x≠(y:Int)):kids≠ae.Yb free k:=by intro h;unfold ae.Yb at h;rw[show free.length-k=M by omega]at h;rw[h,ads,adp,hy]at hx;exact hne (aax hx).symm
theorem Fc (TF:ZI)(v:Value)(l:List ae.NI)(w:World)(B:Nat)(hl:l.length<=4096)(ht:∀x∈l,x.text.length<=1048576)(hv:eB w B v l)(hB:B<=w.heap.size):Calls Tryz.prog 76 #[v] w fun e w'=>e=.returned (.bool (ae.Qi ae.WV l.length 0 [] l))/\Below w.heap.size w w':=by
 obtain⟨i0,eu,hz0,hz1,nk⟩:=abO Tryz.cC;have HV:=zq hv;have HT:=zq ht;obtain⟨ao,cap,rfl,bq,hcm,-⟩:=hv;obtain⟨n,hn⟩:=xq l.length;obtain⟨r,hr⟩:=xq (ae.Qi ae.WV l.length 0 [] l);have HR:=zq hr;rw[<-hr];rw[<-hn]at hl bq ⊢;have HN:=zq hn
 have HST:Hid (QY l w r (.slice (some ⟨w.heap.size,0,none⟩) 0 0) (.int .i64 0) (w.alloc (.cells #[] 3))):=
  ⟨0,[],_,_,aao _,rfl,rfl,aao _,HR.o.symm,ad2 (base:=w.heap.size) (e:=3) (size:=1) w #[] 0 (aaa _) (by unfold maxLen;omega) rfl,Qq _ _⟩
 by_cases eQ:n=0
 ·have hF:Hid (r=false):=by
   show _=_;rw[HR.o,aaq (hn.symm.trans eQ)];rfl
  subst eQ;clear hn hr ht hcm;go_enter Tryz.func76,Tryz.ntmps76;go_wp2_with fail;go_ret;exact⟨by rw[hF.o];rfl,aa8 _ _⟩
 have bf:(((n:Nat):Int)==0)=false:=by simp;omega
 clear hn hr ht hcm;go_enter Tryz.func76,Tryz.ntmps76;go_wp2_with fail;go_loopw [3,4] (fun fv iv wr=>QY l w r fv iv wr) (fun _ iv _=>n-(intOf iv).toNat)
 case atStart=>exact HST.o
 case round=>
  obtain⟨i,free,g,gm,hi,rfl,rfl,qw,hg,hown,hb⟩:=hrel;rw[<-HN.o]at hi hg;have HG:=zq hg;have HB:=zq hb;have hzb:=hb.size;have JT:=zq (HV.o.below (hb.mono hB));obtain⟨N,BO⟩:=xq free.length;rw[<-BO]at qw hown ⊢;have HOW:=zq hown;have lV:=zq BO;have MO:=hown.lt g rfl;clear hg hown hb BO;by_cases hlt:i<n
  ·obtain⟨x,hx⟩:∃x,l[i]?=some x:=⟨_,aad (by rw[<-HN.o];exact hlt)⟩
   have fE:Hid (ae.Qi ae.WV n i free (x::l.drop (i+1))=r):=by show _=_;rw[<-HG.o];congr 1;obtain⟨h1,h2⟩:=aae.1 hx;rw[aaS h1,h2]
   have qI:x.text.length<=1048576:=HT.o x (aah hx);obtain⟨wI,fz,he,-,-,hc⟩:=JT.o
   cases he
   obtain⟨gt,rfl,gN,hcell⟩:=hc (by rw[<-HN.o];omega);obtain⟨e0,e1,kv,e2,lF⟩:=hcell i x hx;have rO:=zq lF;obtain⟨ko,aj,rfl,k1,k2,k3⟩:=lF;obtain⟨op,text,kids⟩:=x;simp only at e0 e1 e2 qI rO k1 k2 k3;obtain⟨k,fC⟩:=xq kids.length;rw[<-fC]at e2 k1 rO;obtain⟨T,hT⟩:=xq (⟨text.toArray⟩:ByteArray);rw[<-hT]at e1;have qb:=zq hT;have fU:=zq fC;clear hc hcell hx hT fC k3;obtain⟨w1,aQ⟩:=xq (wr.alloc (.cells #[.int .i64 op,.string T,.slice ko k aj] 43))
   have hb1:Below wr.heap.size wr w1:=by rw[aQ];exact Qq _ _
   have hg1:w1.heap[wr.heap.size]?=some (.cells #[.int .i64 op,.string T,.slice ko k aj] 43 (0,0)):=by rw[aQ];exact aaz _ _
   have abQ:w1.heap.size=wr.heap.size+1:=by rw[aQ];simp
   have d0:w1.cell? ⟨wr.heap.size,0,none⟩=some (.int .i64 op):=by rw[aam _ _ 0 _ _ _ hg1];rfl
   have d1:w1.cell? ⟨wr.heap.size,1,none⟩=some (.string T):=by rw[aam _ _ 1 _ _ _ hg1];rfl
   have d2:w1.cell? ⟨wr.heap.size,2,none⟩=some (.slice ko k aj):=by rw[aam _ _ 2 _ _ _ hg1];rfl
   have aC:=zq hb1;have VC:=zq hg1;have mL:Below w.heap.size w w1:=HB.o.trans (hb1.mono hzb);have nY:=zq mL;have yw:=zq (TF op text (.slice ko k aj) w1 qI ⟨_,_,_,rfl⟩);rw[<-qb.o]at yw;clear hb1 hg1 mL qI HV;have hA:∃b c:Bool,ae.Vf op=b/\((((i:Nat):Int)==((n:Nat):Int)-1)=c)/\(i+1==n)=c:=⟨_,_,rfl,rfl,by rw[abA];simp;omega⟩;obtain⟨b,c,ha1,ha2,yH⟩:=hA;have iT:=zq ha1;have kV:=zq yH;clear ha1 yH
   cases uV:ae.cnt op k with
   |false=>
    have pR:=zq uV
    have hF:Hid (r=false):=by show _=_;rw[<-fE.o];refine Vr ?_;unfold ae.Zd;simp only;rw[<-fU.o,pR.o];simp
    clear uV;go_wp2_with fail;rw[<-aQ];clear aQ;go_wp2_with fail;refine(Nc op k _).mono ?_;rintro e w2 ⟨rfl,rfl⟩;rw[pR.o];go_wp2_with fail;go_ret
    exact⟨by rw[hF.o];rfl,nY.o⟩
   |true=>
    have pR:=zq uV;clear uV;go_wp2_with fail;rw[<-aQ];clear aQ;go_wp2_with fail;refine(Nc op k _).mono ?_;rintro e w2 ⟨rfl,rfl⟩;rw[pR.o];go_wp2_with fail;refine yw.o.mono ?_;rintro e w2 ⟨rfl,hb2⟩
    cases xB:ae.WV op text with
    |false=>
     have wB:=zq xB
     have hF:Hid (r=false):=by show _=_;rw[<-fE.o];refine Vr ?_;unfold ae.Zd;simp only;rw[wB.o];simp
     have aD:=zq (Qz nY.o hb2);clear xB hb2;go_wp2_with fail;go_ret
     exact⟨by rw[hF.o];rfl,aD.o⟩
    |true=>
     have wB:=zq xB;have hg2:=(hb2.block wr.heap.size (by omega)).trans VC.o
     have c0:w2.cell? ⟨wr.heap.size,0,none⟩=some (.int .i64 op):=by rw[aam _ _ 0 _ _ _ hg2];rfl
     have c2:w2.cell? ⟨wr.heap.size,2,none⟩=some (.slice ko k aj):=by rw[aam _ _ 2 _ _ _ hg2];rfl
     have js:Below wr.heap.size wr w2:=Qz aC.o hb2;have aD:=zq (HB.o.trans (js.mono hzb));have kY:=zq (Qg HOW.o js (aaa _));have vQ:=zq (rO.o.below (js.mono (aan hB hzb)));have hz2:w.heap.size<=w2.heap.size:=aan hzb js.size;clear xB hb2 hg2 js d0 d1 d2;go_wp2_with fail;refine(Qy7 op _).mono ?_;rintro e w3 ⟨rfl,rfl⟩;rw[iT.o];by_cases rf:b=c
     ·subst rf
      by_cases NC:N<k
      ·have hF:Hid (r=false):=by show _=_;rw[<-fE.o];refine Vr ?_;unfold ae.Zd;simp only;rw[<-fU.o,<-lV.o,abH NC];simp
       have mN:decide (((N:Nat):Int)<((k:Nat):Int))=true:=abH (by omega)
       cases b
       all_goals
        go_wp2_with fail;go_ret;exact⟨by rw[hF.o];rfl,aD.o⟩
      have mN:decide (((N:Nat):Int)<((k:Nat):Int))=false:=abC (by omega)
      have ee:Hid (ae.Zd ae.WV n i free ⟨op,text,kids⟩=true):=by show _=_;unfold ae.Zd;simp only;rw[wB.o,<-fU.o,pR.o,<-lV.o,iT.o,kV.o,abC NC];simp
      obtain⟨M,hM⟩:∃M,N=M+k:=⟨N-k,by omega⟩;have cI:=zq hM
      have qG:((N:Nat):Int)-((k:Nat):Int)=((M:Nat):Int):=by omega
      have hMN:M<=N:=by omega
      obtain⟨wo,xA⟩:=xq w2;rw[<-xA]at c0 c2 aD kY vQ hz2 ⊢;clear xA;have C2:=zq c2
      have qU:Hid (wo.ownsRow w.heap.size 3 1 (.slice (some ⟨g,0,none⟩) M gm) M (ints (free.take M))):=by show World.ownsRow _ _ _ _ _ _ _;rw[<-Ds];exact Wy kY.o hMN
      obtain⟨ao3,ZP,he3,GH,hfm,-⟩:=Qj kY.o
      cases he3
      have hs0:(0:Int)<=((M:Nat):Int):=by omega
      have hs1:((M:Nat):Int)<=((N:Nat):Int):=by omega
      have hs2:((N:Nat):Int)<=((gm:Nat):Int):=by omega
      have hwM:IntKind.i64.wrap ((M:Nat):Int)=((M:Nat):Int):=abL _ (by omega)
      have rX:Hid (∀q,(Value.slice (some ⟨g,0,none⟩) M gm).ownBlock=some q->w.heap.size<=q):=fun q hq=>by cases hq;exact MO.1
      have HKX:Hid (∀w5,Below wo.heap.size wo w5-> ∀j x,kids[j]?=some x-> ∃gk,ko=some ⟨gk,0,none⟩/\w5.cell? ⟨gk,j,none⟩=some (.int .i64 x)):=by intro w5 h5 j x hj;obtain⟨ao4,gj,he4,-,-,h4⟩:=vQ.o;simp only[Value.slice.injEq]at he4;obtain⟨rfl,-,rfl⟩:=he4;obtain⟨gk,rfl,CJ,eO⟩:=h4 (by have:=(aae.1 hj).1;omega);exact⟨gk,rfl,(h5.cell (p:=⟨gk,j,none⟩) (aaj CJ (aan hB hz2))).trans (eO j x hj)⟩
      have AQ:Hid (∀w5,Below wo.heap.size wo w5-> ∀j y,free[j]?=some y->w5.cell? ⟨g,j,none⟩=some (.int .i64 (y:Nat))):=by intro w5 h5 j y hj;have jA:=(aae.1 hj).1;refine(h5.cell (p:=⟨g,j,none⟩) (kY.o.lt g rfl).2).trans ?_;rw[kY.o.cellAt j (by rw[lV.o];omega)];simp[ints,ab3,hj]
      have iM:wr.heap.size<wo.heap.size:=Qh7 c2;obtain⟨bx,xa⟩:=xq wr.heap.size;rw[<-xa]at c0 c2 iM ⊢;clear xa
      cases b
      all_goals
       go_wp2_with fail;go_loopw [7] (fun jv wr=> ∃j:Nat,jv=.int .i64 (j:Nat)/\j<=k/\Hid (YE kids free M j)/\Hid (Below wo.heap.size wo wr)) (fun jv _=>k-(intOf jv).toNat)
       case atStart=>exact⟨0,rfl,aao _,fun a ha=>absurd ha (aeP a),aa8 _ _⟩
       case round=>
        obtain⟨j,rfl,hjk,HE,vH⟩:=hrel;obtain⟨wj,OS⟩:=xq wr;rw[<-OS]at vH ⊢;clear OS;have cj:wj.cell? ⟨bx,2,none⟩=some (.slice ko k aj):=(vH.o.cell (p:=⟨bx,2,none⟩) iM).trans c2;have hzj:w.heap.size<=wj.heap.size:=aan hz2 vH.o.size;by_cases jA:j<k
        ·obtain⟨x,hx⟩:∃x,kids[j]?=some x:=⟨_,aad (by rw[<-fU.o];exact jA)⟩
         obtain⟨y,hy⟩:∃y,free[M+j]?=some y:=⟨_,aad (by rw[<-lV.o];omega)⟩;obtain⟨gk,rfl,q1⟩:=HKX.o wj vH.o j x hx;have q2:=AQ.o wj vH.o (M+j) y hy;obtain⟨P,hP⟩:=xq (M+j)
         have BR:((M:Nat):Int)+((j:Nat):Int)=((P:Nat):Int):=by omega
         rw[<-hP]at q2
         have hPN:((P:Nat):Int)<((N:Nat):Int):=by omega
         have hwP:IntKind.i64.wrap ((P:Nat):Int)=((P:Nat):Int):=abL _ (by omega);by_cases DX:x=(y:Int)
         ·have HE1:Hid (YE kids free M (j+1)):=by
           intro a ha;by_cases haj:a=j
           ·subst haj;rw[hx,hy,DX];rfl
           exact HE.o a (by omega)
          have hne:(x !=((y:Nat):Int))=false:=by rw[DX];simp
          clear hx hy DX hP;go_wp2_with fail;go_quiet (fail);have Ip:Hid (Below wo.heap.size wo (wj.drewN nq)):=Qz vH.o (Qs wj nq);go_wp2_with fail
          exact⟨⟨j+1,by go_num,by omega,HE1,Ip⟩,by simp[intOf]<;>omega⟩
         have hF:Hid (r=false):=by show _=_;rw[<-fE.o];refine Gm ?_;simp only;rw[<-fU.o];exact Qbe lV.o cI.o hx hy DX
         have hne:(x !=((y:Nat):Int))=true:=by simpa using DX
         clear hx hy DX hP;go_wp2_with fail;go_quiet (fail);go_wp2_with fail;go_ret;exact⟨by rw[hF.o];rfl,Qz aD.o (Qz vH.o (Qs wj nq))⟩
        have ku:j=k:=by omega
        have xm:kids=ae.Yb free k:=by subst ku;exact Qba fU.o lV.o cI.o HE.o
        have ya:Hid (ae.Qi ae.WV n (i+1) (free.take M++[i]) (l.drop (i+1))=r):=by show _=_;rw[<-fE.o,Gg ee.o (by simp only;rw[<-fU.o];exact xm)];rw[show free.length-kids.length=M by rw[<-fU.o,<-lV.o];have:=cI.o;omega]
        have bG:Hid (Below w.heap.size w wj):=Qz aD.o vH.o;have JO:Hid (wj.ownsRow w.heap.size 3 1 (.slice (some ⟨g,0,none⟩) M gm) M (ints (free.take M))):=Qg qU.o vH.o (aaa _);clear xm;go_wp2_with (at_builtin;refine adr _ rfl _ _ 41 rfl w.heap.size 3 i0 (.int .i64 0) 1 8 Tryz.underlying41 eu hz0 hz1 nk rfl (by omega) (.slice (some ⟨g,0,none⟩) M gm) M (ints (free.take M)) rfl (JO.o.alloc _) ⟨wj.heap.size,0,none⟩ 1 1 [.int .i64 ((i:Nat):Int)] rfl rfl (ag.Qh _ _ _ _ rfl) (by simp[Value.oneCell']) (by omega) (by unfold maxLen;omega) (by omega) (by simp;omega) (wj.heap.size+1) (by simp) ?_);intro gg cq w6 cm cX lz tM;have l8:Hid (Below w.heap.size w w6):=Wt (bG.o.alloc hzj _) cX (fun q hq=>rX.o q hq);have rL:Hid (QY l w r (.slice (some ⟨gg,0,none⟩) (M+1) cq) (.int .i64 ((i+1:Nat):Int)) w6):=Qga (HN.o ▸ ya.o) cm l8.o (by rw[<-HN.o];omega) (by omega) (lV.o ▸ by omega);clear cm cX lz tM;go_wp2_with fail
        have yX:n-(intOf (.int .i64 (((i:Nat):Int)+1))).toNat<n-(intOf (.int .i64 ((i:Nat):Int))).toNat:=by simp[intOf];omega
        have dc:(((i+1:Nat):Int))=((i:Nat):Int)+1:=by omega
        rw[dc]at rL
        first|exact⟨rL.o,yX⟩|exact⟨by (repeat apply Exists.intro);exact⟨rL.o,rfl⟩,yX⟩
     have hF:Hid (r=false):=by
      show _=_;rw[<-fE.o];refine Vr ?_;unfold ae.Zd;simp only;rw[iT.o,kV.o]
      have:(b !=c)=true:=by simpa using rf
      rw[this];rfl
     cases b<;>cases c
     ·exact absurd rfl rf
     ·go_wp2_with fail
      go_ret;exact⟨by rw[hF.o];rfl,aD.o⟩
     ·go_wp2_with fail
      go_ret;exact⟨by rw[hF.o];rfl,aD.o⟩
     exact absurd rfl rf
  have jb:i=n:=by omega
  subst jb
  have hF:Hid (r=(N==1)):=by show _=_;rw[<-HG.o,aaR (by rw[<-HN.o];exact aaa _),lV.o];rfl
  have hN1:(((N:Nat):Int)==1)=(N==1):=Wa N 1;go_wp2_with fail;go_ret;exact⟨by rw[hF.o];first|rfl|(simp[hN1]),HB.o⟩
end Go.Proofs.YtgfmiladfeoldaaGreatDoor
namespace aF
open ai (val ok BB dg)
def quo (x:Nat):Nat->Nat
 |0=>x
 |k+1=>quo x k / 65536
def four (w:Nat):List Nat:=[quo w 0 % 65536,quo w 1 % 65536,quo w 2 % 65536,quo w 3 % 65536]
def Yx (l:List Nat):List Nat:=l.flatMap four
theorem Tt (l:List Nat):(Yx l).length=4*l.length:=by
 induction l with
 |nil=>rfl
 |cons a l ih=>show (four a++Yx l).length=_;rw[aac,ih,aaf];show 4+_=_;omega
theorem Qx3 (l:List Nat)(a:Nat):Yx (l++[a])=Yx l++four a:=by simp[Yx]
theorem J9 (l:List Nat):∀d∈Yx l,d<65536:=by
 intro d E;obtain⟨a,-,h⟩:=aeY.1 E;simp only[four,quo,abY,aeg,ae5]at h
 rcases h with rfl|rfl|rfl|rfl<;>omega
theorem Qgl {w:Nat}(h:w<BB):aJ (four w)=w:=by unfold BB at h;simp only[four,quo,aJ];omega
theorem Js:∀{l:List Nat},ok l->aJ (Yx l)=val l
 | [],_=>rfl
 |a::l,h=>by
  show aJ (four a++Yx l)=a+BB*val l
  have e:65536^(four a).length=BB:=by show 65536^4=BB;unfold BB;decide
  rw[Ve,Qgl (h a (by simp)),Js (fun x hx=>h x (by simp[hx])),e]
theorem So (l:List Nat):Qd l=ai.Qw l:=rfl
theorem M9 (l:List Nat):(Qd l).length<=l.length:=ai.Qu l
theorem Z8 {l:List Nat}(h:∀d∈l,d<65536):∀d∈Qd l,d<65536:=by intro d E;rw[So,(ai.Yz l).1]at E;exact h d (adD E)
theorem Qvt (l:List Nat):aJ (l++[0])=aJ l:=by rw[Ve];simp[aJ]
theorem Y5 (l:List Nat):aJ (Qd l)=aJ l:=by
 refine ai.Va (P:=fun l=>aJ (Qd l)=aJ l) rfl ?_ l;intro l d ih;by_cases h:d=0
 ·rw[h,Z9,Qvt,ih]
 rw[Yu _ _ h]
theorem Uu (l:List Nat):Qd (Qd l)=Qd l:=by
 refine ai.Va (P:=fun l=>Qd (Qd l)=Qd l) rfl ?_ l;intro l d ih;by_cases h:d=0
 ·rw[h,Z9,ih]
 rw[Yu _ _ h,Yu _ _ h]
theorem Ek {l:List Nat}(h:Qd l=l)(hn:l≠[]):0<aJ l:=by
 have H:l.length=(l.length-1)+1:=by have:=adJ.2 hn;omega
 obtain⟨d,E,I⟩:=ai.Vb l (l.length-1) (by rw[<-So,h];exact H);rw[<-So,h]at E
 have e:l=l.take (l.length-1)++[d]:=by have:=ab2 (l:=l) (i:=l.length-1);rw[<-H,adx,E]at this;exact this
 rw[e,Ve];have:0<65536^(l.take (l.length-1)).length:=adZ (by omega);have:0<65536^(l.take (l.length-1)).length*aJ [d]:=aeO this (by simp[aJ];omega);omega
theorem Qph {l:List Nat}(h:Qd l=l)(h0:aJ l=0):l=[]:=by
 cases l with
 |nil=>rfl
 |cons a l=>have:=Ek h (by simp);omega
theorem P9:∀(n:Nat) (l:List Nat),l.length<=n->(∀d∈l,d<65536)->val (Jx l)=aJ l/\ok (Jx l)/\4*(Jx l).length<=l.length+3
 |0,l,h,_=>by
  obtain rfl:=aaq (by omega:l.length=0)
  exact⟨rfl,ai.Fj,by simp[Md]⟩
 |n+1,l,h,hs=>by
  cases l with
  |nil=>exact⟨rfl,ai.Fj,by simp[Md]⟩
  |cons a l=>
   obtain⟨H,I,J⟩:=P9 n ((a::l).drop 4) (by simp only[aag,aaf]at h ⊢;omega) (fun d hd=>hs d (adU hd));have K:Cl (a::l)<65536^((a::l).take 4).length:=Hf _ (fun d hd=>hs d (adD hd))
   have E:Cl (a::l)<BB:=by
    have e:65536^((a::l).take 4).length<=65536^4:=adE (by omega) (by rw[aak];omega)
    have e2:65536^4=BB:=by unfold BB;decide
    omega
   rw[Pv (by simp)];refine⟨?_,ai.Qka E I,?_⟩
   ·show Cl (a::l)+BB*val _=_
    rw[H]
    conv=>rhs;rw[<-adA 4 (a::l),Ve]
    by_cases hl:4<=(a::l).length
    ·have e:((a::l).take 4).length=4:=by rw[aak];omega
     rw[e]
     have e2:65536^4=BB:=by unfold BB;decide
     rw[e2];rfl
    have e:(a::l).drop 4=[]:=aef (by omega);rw[e];simp[aJ];rfl
   simp only[aaf,aag]at J ⊢;omega
theorem Qhu {l:List Nat}(h:∀d∈l,d<65536):val (Jx l)=aJ l:=(P9 l.length l (aaa _) h).1
theorem Qb8 {l:List Nat}(h:∀d∈l,d<65536):ok (Jx l):=(P9 l.length l (aaa _) h).2.1
theorem Qg1 {l:List Nat}(h:∀d∈l,d<65536):4*(Jx l).length<=l.length+3:=(P9 l.length l (aaa _) h).2.2
theorem Bw {l:List Nat}:Jx l=[]↔l=[]:=by
 constructor
 ·intro h
  cases l with
  |nil=>rfl
  |cons a l=>rw[Pv (by simp)]at h;cases h
 rintro rfl;rfl
theorem Cc:∀(l:List UInt8) (ds:List Nat),aJ (l.foldl (fun d c=>Y6 d 10 (c.toNat-48)) ds)=(l.map fun c=>c.toNat-48).foldl (fun a x=>a*10+x) (aJ ds)
 | [],_=>rfl
 |c::l,ds=>by show aJ (l.foldl _ (Y6 ds 10 (c.toNat-48)))=(l.map fun c=>c.toNat-48).foldl _ (aJ ds*10+(c.toNat-48));rw[Cc l,Qpm]
theorem Cd (l:List UInt8):aJ (gG l)=ai.aN (ag.aO l):=Cc l []
def Yi:List Nat->List Nat×Nat
 | []=>([],0)
 |d::ds=>(((Yi ds).2*65536+d) / 10::(Yi ds).1,((Yi ds).2*65536+d) % 10)
theorem Nm:∀ds:List Nat,(Yi ds).2<10
 | []=>by show 0<10;omega
 |d::ds=>by show _ % 10<10;omega
theorem Ms:∀ds:List Nat,(Yi ds).1.length=ds.length
 | []=>rfl
 |d::ds=>by show (Yi ds).1.length+1=ds.length+1;rw[Ms ds]
theorem Kl:∀{ds:List Nat},(∀d∈ds,d<65536)-> ∀d∈(Yi ds).1,d<65536
 | [],_,d,hd=>by cases hd
 |x::ds,h,d,hd=>by
  rcases abY.1 hd with rfl|hd
  ·have:=Nm ds
   have:=h x (by simp);omega
  exact Kl (fun y hy=>h y (by simp[hy])) d hd
theorem D8:∀ds:List Nat,aJ ds=aJ (Yi ds).1*10+(Yi ds).2
 | []=>rfl
 |d::ds=>by have ih:=D8 ds;show d+65536*aJ ds=(((Yi ds).2*65536+d) / 10+65536*aJ (Yi ds).1)*10+((Yi ds).2*65536+d) % 10;omega
theorem Qfx {ds:List Nat}(h:Qd ds=ds)(hn:ds≠[]):dg (aJ ds)=dg (aJ (Qd (Yi ds).1))++[(Yi ds).2]:=by
 have E:=D8 ds;have H:=Nm ds;rw[ai.Jc (Ek h hn),Y5]
 have e1:aJ ds / 10=aJ (Yi ds).1:=by omega
 have e2:aJ ds % 10=(Yi ds).2:=by omega
 rw[e1,e2]
theorem Qci {ds:List Nat}(h:∀d∈ds,d<65536):(dg (aJ ds)).length<=5*ds.length:=by refine ai.Wf (aaj (Hf ds h) ?_);rw[Nat.pow_mul];exact Nat.pow_le_pow_left (by decide) _
theorem Qbw {n:Nat}{low:List Nat}(h:low.reverse=dg n):ae.ar n=if low=[] then [48] else low.reverse.map fun d=>UInt8.ofNat (48+d):=by
 unfold ae.ar;by_cases h0:n=0
 ·rw[if_pos h0]
  rw[h0,ai.Zv]at h;rw[if_pos (List.reverse_eq_nil_iff.1 h)]
 rw[if_neg h0,if_neg (by
  rintro rfl;rw[ai.Jc (by omega)]at h;have:=aa7 List.length h
  simp at this),h]
end aF
namespace Go.Proofs.YtgfmiladfeoldaaGreatDoor
open Go.RowKit ag aF ai
def Qcd (B:Nat)(ds:List Nat)(dv:Value)(w:World)(e:Ending)(w':World):Prop:=
 e=.returned (.int .i64 ((Yi ds).2:Nat))/\bX B w' dv (Yi ds).1/\Below B w w'/\w'.heap.size=w.heap.size/\ ∀q,dv.ownBlock≠some q->w'.heap[q]?=w.heap[q]?
def Qdl (B:Nat)(ds:List Nat)(dv:Value)(w:World)(sv si:Value)(wr:World):Prop:=
 ∃k,k<=ds.length/\si=.int .i64 ((k:Int)-1)/\sv=.int .i64 ((Yi (ds.drop k)).2:Nat)/\wr.ownsRow B 3 1 dv ds.length (Xe (ds.take k++(Yi (ds.drop k)).1))/\Below B w wr/\wr.heap.size=w.heap.size/\ ∀q,dv.ownBlock≠some q->wr.heap[q]?=w.heap[q]?
theorem Qmo (B:Nat)(ds:List Nat)(dv:Value)(w:World)(hown:bX B w dv ds)(hds:∀d∈ds,d<65536):Calls Tryz.prog 225 #[dv,.int .i64 10] w (Qcd B ds dv w):=by
 have HD:=zq hds;have HO:=zq hown;obtain⟨ao,cap,mO,bq,hcm,-⟩:=Qj hown;subst mO
 have hm:ds.length<=9223372036854775807:=by unfold maxLen at hcm;omega
 clear hds hown hcm;go_enter Tryz.func225,Tryz.ntmps225;go_wp2_with fail;go_loopw [5,6] (fun sv si wr=>Qdl B ds (.slice ao ds.length cap) w sv si wr) (fun _ si _=>(intOf si+1).toNat)
 case atStart=>exact⟨ds.length,aaa _,rfl,by rw[List.drop_length];rfl,by rw[List.drop_length,adx,show (Yi []).1=[] from rfl,ab4];exact HO.o,aa8 _ _,rfl,fun _ _=>rfl⟩
 case round=>
  obtain⟨k,hk,rfl,rfl,hown,hbl,hsz,qx⟩:=hrel;have aP:=zq hbl;have dN:=zq hsz;have x9:=zq qx;have qF:=Nm (ds.drop k)
  cases k with
  |zero=>
   have ou:=zq hown;clear hown hbl hsz qx;go_wp2_with fail;go_ret;refine⟨rfl,?_,aP.o,dN.o,x9.o⟩;show World.ownsRow _ _ _ _ _ _ _;rw[Ms];have:=ou.o;rw[adq,ae4,adz]at this
   exact this
  |succ k=>
   have hlt:k<ds.length:=by omega
   obtain⟨d,hd⟩:∃d,ds[k]?=some d:=⟨_,aad hlt⟩;have ja:=HD.o d (aah hd)
   have iy:ds.drop k=d::ds.drop (k+1):=by rw[aaS hlt];have:=aad hlt;rw[hd]at this;rw[aax this]
   have kQ:ds.take (k+1)=ds.take k++[d]:=by have:=ab2 (l:=ds) (i:=k);rw[hd]at this;exact this
   obtain⟨wI,fz,tu,-,-,aU⟩:=Qj hown;obtain⟨g,hao,hbg,lD,hcell⟩:=aU (by omega)
   cases tu
   subst hao
   have xx:(ds.take k).length=k:=by rw[aak];omega
   have e1:wr.cell? ⟨g,k,none⟩=some (.int .i64 (d:Nat)):=by
    rw[hcell k (by omega),kQ];rw[Xu,Xu,aar,abw (by rw[Yj];omega)]
    have:k-(Xe (ds.take k)).length=0:=by rw[Yj];omega
    rw[this];rfl
   have e2:wr.frozen? ⟨g,k,none⟩=false:=hown.frozenAt k;obtain⟨r,hr⟩:=xq ((Yi (ds.drop (k+1))).2);rw[<-hr]at qF ⊢;have hst:=hown.stored k (.int .i64 (((r*65536+d) / 10:Nat)))
   have aY:(Xe (ds.take (k+1)++(Yi (ds.drop (k+1))).1)).set k (.int .i64 (((r*65536+d) / 10:Nat)))=Xe (ds.take k++(Yi (ds.drop k)).1):=by
    rw[kQ,iy];show _=Xe (ds.take k++(((Yi (ds.drop (k+1))).2*65536+d) / 10::(Yi (ds.drop (k+1))).1));rw[<-hr,aar,Xu,List.set_append_right _ _ (by rw[Yj];omega)]
    have:k-(Xe (ds.take k)).length=0:=by rw[Yj];omega
    rw[this,Xu [d],Xu (ds.take k)];rfl
   rw[aY]at hst;have HST:=zq hst
   have HR:Hid ((Yi (ds.drop k)).2=(r*65536+d) % 10):=by show _=_;rw[iy,hr];rfl
   have MO:g<wr.heap.size:=lD;clear hcell aU hst aY iy hd kQ xx hown hr hbl hsz qx
   have ev:Hid (Value.int .i64 (((r:Int)*65536+(d:Int)) / 10)=.int .i64 (((r*65536+d) / 10:Nat):Int)):=by show _=_;congr 1
   have em:Hid (Value.int .i64 (((r:Int)*65536+(d:Int)) % 10)=.int .i64 (((r*65536+d) % 10:Nat):Int)):=by show _=_;congr 1
   have dc:(0:Int)<=((k+1:Nat):Int)-1:=by omega
   have jV:((((k+1:Nat):Int)-1).toNat)=k:=by omega
   go_wp2_with fail;rw[ev.o,em.o]
   refine⟨⟨k,by omega,by go_num,by rw[HR.o],HST.o.1,aP.o.setCell hbg _,by simpa [World.setCell] using dN.o,fun q hq=> ?_⟩,by simp[intOf]<;>omega⟩
   exact(aaX wr ⟨g,k,none⟩ q _ (fun e=>hq (by rw[e];rfl))).trans (x9.o q hq)
def Qww (xs:List Nat)(w:World)(e:Ending)(w':World):Prop:=∃v,e=.returned v/\bX w.heap.size w' v (Qd (Yx xs))/\Below w.heap.size w w'
theorem Qwi (x k:Nat)(hk:k<4):(four x).take (k+1)=(four x).take k++[quo x k % 65536]:=by
 have h:k=0\/k=1\/k=2\/k=3:=by omega
 rcases h with rfl|rfl|rfl|rfl<;>rfl
theorem Qm3 (x:Nat):∀k,quo x k<=x
 |0=>aaa _
 |k+1=>aan (Nat.div_le_self _ _) (Qm3 x k)
def SpO (xs:List Nat)(B:Nat)(w1:World)(dv si:Value)(wr:World):Prop:=
 ∃i,i<=xs.length/\si=.int .i64 (i:Nat)/\bX B wr dv (Yx (xs.take i))/\Below B w1 wr
def SpI (xs:List Nat)(i x:Nat)(B:Nat)(w1:World)(dv wv sk:Value)(wr:World):Prop:=
 ∃k,k<=4/\sk=.int .i64 (k:Nat)/\wv=.int .u64 (quo x k:Nat)/\bX B wr dv (Yx (xs.take i)++(four x).take k)/\Below B w1 wr
theorem Tx (xs:List Nat)(v:Value)(w:World)(hv:Rd w v xs)(hl:xs.length<=67108864):Calls Tryz.prog 151 #[v] w (Qww xs w):=by
 obtain⟨i0,hi,hz0,hz1,hz2⟩:=abO Tryz.cC;have HV:=zq hv;obtain⟨-,ao,cap,hve,h1,h2,h3,h4⟩:=hv;subst hve;have dt:=zq h3;obtain⟨n,hn⟩:=xq xs.length;have HN:=zq hn;have H4:=zq h4;rw[<-hn]at HV hl h1 ⊢
 have h4n:(0:Int)<=4*(n:Int):=by omega
 clear h3 h4 hn;go_enter Tryz.func151,Tryz.ntmps151;go_wp2_with (at_make;refine wpList_make_own _ rfl _ _ 41 rfl w.heap.size 3 i0 (.int .i64 0) 1 Tryz.underlying41 hi hz0 hz1 _ _ _ (4*n) rfl rfl ?hC ?b1 ?b2 ?b3 ?_)
 case hC=>omega
 case b1=>rw[hz2];omega
 case b2=>unfold maxLen;omega
 case b3=>exact aaa _
 intro w1 hown1 hgrow1;have hb1:Below w.heap.size w w1:=abq (aa8 _ _) hgrow1 (aaa _) (fun k hk=>by cases hk);have HOW:=zq hown1;have aC:=zq hb1;clear hown1 hgrow1 hb1;go_wp2_with fail;go_loopw [3,4] (fun dv si wr=>SpO xs w.heap.size w dv si wr) (fun _ si _=>n-(intOf si).toNat)
 case atStart=>exact⟨0,aao _,rfl,HOW.o,aC.o⟩
 case round=>
  obtain⟨i,kr,rfl,hown,hb⟩:=hrel;have hzz:=hb.size;rw[<-HN.o]at kr;by_cases hlt:i<n
  ·obtain⟨x,hx⟩:∃x,xs[i]?=some x:=⟨_,aad (by rw[<-HN.o];exact hlt)⟩
   obtain⟨g,o,hao,hc⟩:=H4.o i x hx;subst hao;have fe:g<w.heap.size:=HV.o.1 g rfl;have hc':wr.cell? ⟨g,o+i,none⟩=some (.int .u64 (x:Nat)):=(hb.cell (p:=⟨g,o+i,none⟩) fe).trans hc;have gO:x<18446744073709551616:=dt.o x (aah hx);have wC:=zq gO;have HOWN:=zq hown;have HB:=zq hb
   have ey:Hid (Yx (xs.take (i+1))=Yx (xs.take i)++four x):=by show _=_;rw[ab2,hx];exact Qx3 _ _
   have ac8:(Yx (xs.take i)).length<=268435456:=by rw[Tt,aak];omega
   clear hown hb hc hx;go_wp2_with fail;obtain⟨wo,xA⟩:=xq wr;rw[<-xA]at hzz HOWN HB ⊢;clear xA;go_loopw [3,5,6] (fun dv wv sk wr=>SpI xs i x w.heap.size w dv wv sk wr) (fun _ _ sk _=>4-(intOf sk).toNat)
   case atStart=>exact⟨0,by omega,rfl,rfl,by simpa using HOWN.o,HB.o⟩
   case round=>
    obtain⟨k,hk,rfl,rfl,hown,hb⟩:=hrel;have hzz:=hb.size;have aD:=zq hb;have qE:quo x k<18446744073709551616:=adH (Qm3 x k) wC.o;by_cases hk4:k<4
    ·have QD:=zq (Qwi x k hk4)
     have JA:Hid (quo x (k+1)=quo x k / 65536):=rfl;obtain⟨y,hy⟩:=xq (quo x k);rw[<-hy]at QD JA qE ⊢;have hym:y % 65536<65536:=ad8 _ (by omega)
     have GU:Hid (((y:Nat):Int) % 65536=((y % 65536:Nat):Int)):=by show _=_;omega
     have kS:IntKind.i64.wrap ((y:Int) % 65536)=(y:Int) % 65536:=abL _ (by omega)
     have fh:(Yx (xs.take i)++(four x).take k).length<=268435460:=by rw[aac,aak];omega
     clear hy hb;go_wp2_with (at_builtin;refine adO _ rfl _ _ 41 rfl w.heap.size 3 i0 (.int .i64 0) 1 8 Tryz.underlying41 hi hz0 hz1 hz2 rfl (by decide) _ _ _ rfl (abj hown _) ⟨wr.heap.size,0,none⟩ 1 1 [.int .i64 ((y:Int) % 65536)] rfl rfl (Qh _ _ _ _ rfl) (by simp[Value.oneCell']) (by unfold maxLen;omega) (by omega) (by simp;omega) ?_);intro v3 w3 au ak _
     have ah:bX w.heap.size w3 v3 (Yx (xs.take i)++(four x).take (k+1))/\Below w.heap.size w w3:=by refine⟨?_,abq (aD.o.alloc hzz _) ak (by simp;omega) (fun q hq=>(aaZ hown q hq).1)⟩;show World.ownsRow _ _ _ _ _ _ _;rw[QD.o,<-aar,Xu,aac];rw[GU.o,<-aak,<-aac]at au;exact au
     have HF:=zq ah;clear au ak ah;go_wp2_with fail;have ah:SpI xs i x w.heap.size w v3 (.int .u64 ((y:Int) / 65536)) (.int .i64 ((k:Int)+1)) w3:=⟨k+1,by omega,by go_num,by rw[JA.o];rfl,HF.o⟩
     first|exact⟨ah,by simp[intOf]<;>omega⟩|exact⟨by (repeat apply Exists.intro);exact⟨ah,rfl⟩,by simp[intOf]<;>omega⟩
    have hk4':k=4:=by omega
    subst hk4'
    have ah:bX w.heap.size wr u3 (Yx (xs.take (i+1))):=by rw[ey.o];exact hown
    have HF:=zq ah;clear hown ah hb qE;go_wp2_with fail;have ah:SpO xs w.heap.size w u3 (.int .i64 ((i:Int)+1)) wr:=⟨i+1,by rw[<-HN.o];omega,by go_num,HF.o,aD.o⟩
    first|exact⟨ah,by simp[intOf]<;>omega⟩|exact⟨by (repeat apply Exists.intro);exact⟨ah,rfl⟩,by simp[intOf]<;>omega⟩
  have jb:i=n:=by omega
  have hown2:bX w.heap.size wr u3 (Yx xs):=by rw[aat (by rw[<-HN.o];omega)]at hown;exact hown
  have ou:=zq hown2;have HB:=zq hb;clear hown hown2 hb;go_wp2_with fail;refine(Qzk w.heap.size _ _ _ ou.o).mono ?_;rintro e w2 ⟨v2,rfl,ho,rfl⟩;have HF:=zq ho;clear ho;go_wp2_with fail;go_ret;exact⟨_,rfl,HF.o,HB.o⟩
def bZ (l:List Nat):Bytes:=l.map fun d=>UInt8.ofNat (48+d)
def YV (N:Nat)(w1:World)(dv lv:Value)(wr:World):Prop:=
 ∃ds low,Qd ds=ds/\(∀d∈ds,d<65536)/\dg N=dg (aJ ds)++low.reverse/\(∀d∈low,d<10)/\bX w1.heap.size wr dv ds/\cz w1.heap.size wr lv (bZ low)/\(∀q,dv.ownBlock=some q->lv.ownBlock≠some q)/\Below w1.heap.size w1 wr
theorem Su {w w':World}{B B':Nat}{e:TypeId}{z:Nat}{v:Value}{n:Nat}{xs:List Value}(h:w.ownsRow B e z v n xs)(hB:B'<=B)(hb:∀q,v.ownBlock=some q->w'.heap[q]?=w.heap[q]?):w'.ownsRow B' e z v n xs:=by
 refine⟨h.1,?_⟩;rcases h.2 with O|⟨g,H,I,rfl,J,K,E⟩
 ·exact .inl O
 exact .inr ⟨g,H,I,rfl,aan hB J,(hb g rfl).trans K,E⟩
def Pk (v:Value):Nat:=match v with| .slice _ n _=>n|_=>0
def YZ (m:Nat)(low:List Nat)(gl bE gh:Nat)(w1:World)(si:Value)(wr:World):Prop:=
 ∃i,i<=m/\si=.int .i64 (i:Nat)/\wr.ownsRow w1.heap.size 5 1 (.slice (some ⟨gh,0,none⟩) m m) m (Qr (List.replicate (m-i) 0++((bZ low).take i).reverse))/\wr.ownsRow w1.heap.size 5 1 (.slice (some ⟨gl,0,none⟩) m bE) m (Qr (bZ low))/\Below w1.heap.size w1 wr
theorem Qjs (m:Nat):(madeCells #[Value.int .u8 0] m).toList=List.replicate m (Value.int .u8 0):=by
 apply List.ext_getElem
 ·simp[madeCells]
 intro i h E;simp[madeCells,Nat.mod_one]
theorem Qzd (m:Nat):Qr (List.replicate m 0)=List.replicate m (Value.int .u8 0):=by simp[Qr]
theorem Qvg (xs : List Nat) (v : Value) (w : World) (hv : Rd w v xs) (hl : xs.length ≤ 67108864) :Calls Tryz.prog 187 #[v, .int .i64 10] w fun e w' => e = .returned (.tuple #[.string ⟨(ae.ar (val xs)).toArray⟩, .int .i64 0]) ∧ Below w.heap.size w w' := by
  obtain ⟨i0, hi, hz0, hz1, hz2⟩ := abO Tryz.jM
  have HV := zq hv
  have dt := zq hv.ok
  obtain ⟨N, hN⟩ : ∃ N, N = val xs := ⟨_, rfl⟩
  rw [← hN]
  have HN := zq hN
  have cD : (dg N).length ≤ 1342177280 := by
    have h1 := Qci (J9 xs)
    rw [Js hv.ok, ← hN, Tt] at h1
    omega
  clear hv hN
  go_enter Tryz.func187, Tryz.ntmps187
  go_wp2_with fail
  refine (Tx xs v _ HV.o hl).mono ?_
  rintro e w1 ⟨d1, rfl, l7, hb1⟩
  have pV := zq l7
  have aC := zq hb1
  have LN : YV N w d1 (.slice none 0 0) w1 := by
    refine ⟨Qd (Yx xs), [], Uu _, Z8 (J9 _), ?_, fun d h => by simp at h, l7, adC _ _ _ _, fun q _ h => by simp [Value.ownBlock] at h, hb1⟩
    rw [Y5, Js dt.o, HN.o]; simp
  have HST := zq LN
  clear l7 hb1 LN
  go_wp2_with fail
  go_loopw [6, 7] (fun dv lv wr => YV N w dv lv wr) (fun _ lv _ => (dg N).length - Pk lv)
  case atStart => exact HST.o
  case round =>
    obtain ⟨ds, low, hst, hsm, dO, ei, GN, qD, hne, hb⟩ := hrel
    have hzz := hb.size
    have pS := zq dO
    have uM := zq ei
    have HB := zq hb
    have sf := zq hsm
    have bR := zq hne
    have nR : low.length ≤ 1342177280 := by
      have := aa7 List.length dO
      rw [aac, aeo] at this
      omega
    have HLEN : Hid ((dg N).length = (dg (aJ ds)).length + low.length) := by
      show _ = _
      rw [dO, aac, aeo]
    have HD := zq GN
    have HL := zq qD
    obtain ⟨dso, sK, hde, -, ZR, -⟩ := Qj GN
    obtain ⟨lo, bE, hle, -, lcm, -⟩ := Qj qD
    subst hde
    subst hle
    have iA : (bZ low).length = low.length := by unfold bZ; rw [aay]
    by_cases h0 : ds = []
    · have eQ : ds.length = 0 := by rw [h0]; rfl
      have CF : low.reverse = dg N := by rw [dO, h0, show aJ [] = 0 from rfl, Zv]; rfl
      have HT := zq (Qbw CF)
      rw [eQ]
      obtain ⟨m, hm⟩ : ∃ m, m = (bZ low).length := ⟨_, rfl⟩
      rw [iA] at hm
      rw [iA, ← hm] at HL ⊢
      have HM := zq hm
      by_cases pD : m = 0
      · have hl0 : low = [] := aaq (by omega)
        have HT0 : Hid (ae.ar N = [48]) := by show _ = _; rw [HT.o, if_pos hl0]
        subst pD
        clear hst hsm dO ei GN qD hne hb CF hm iA h0 eQ ZR lcm hl0
        go_wp2_with fail
        go_ret2
        refine ⟨?_, HB.o⟩
        rw [HT0.o]; rfl
      have NP : m ≤ 1342177280 := by omega
      have hmz : (((m : Nat) : Int) == 0) = false := by simp; omega
      have AE : Hid (ae.ar N = (bZ low).reverse) := by
        show _ = _
        rw [HT.o, if_neg (by rintro rfl; exact pD (by rw [hm]; rfl))]
        unfold bZ
        rw [List.map_reverse]
      clear hst hsm dO ei GN qD hne hb CF iA h0 eQ ZR lcm
      obtain ⟨gl, fe⟩ : ∃ gl, lo = some ⟨gl, 0, none⟩ := by
        obtain ⟨ao', cap', e, _, _, a3⟩ := Qj HL.o
        cases e
        obtain ⟨g, hg, -⟩ := a3 (by have := HM.o; have : (bZ low).length = low.length := by unfold bZ; rw [aay]
                                    omega)
        exact ⟨g, hg⟩
      subst fe
      have mh : Hid ((bZ low).length = m) := by show _ = _; unfold bZ; rw [aay]; exact HM.o.symm
      have mg : Hid (wr.ownsRow w.heap.size 5 1 (.slice (some ⟨gl, 0, none⟩) m bE) m (Qr (bZ low))) := by
        have := HL.o
        unfold cz at this
        rw [mh.o] at this
        exact this
      clear hm
      go_wp2_with (at_make; refine wpList_make_full _ rfl _ _ 88 rfl w.heap.size 5 i0 (.int .u8 0) 1 Tryz.underlying88 hi hz0 hz1 _ _ _ _ m rfl rfl rfl rfl (by rw [hz2]; omega) (by unfold maxLen; omega) (by exact hzz) ?_)
      intro w4 aM az
      have acD := (HL.o.lt gl rfl)
      have vX : Hid (YZ m low gl bE wr.heap.size w (.int .i64 0) w4) := by
        refine ⟨0, aao _, rfl, ?_, ?_, abq HB.o az hzz (fun k hk => by cases hk)⟩
        · have e : (madeCells (Value.int .u8 0).cells (m * 1)).toList = Qr (List.replicate (m - 0) 0 ++ ((bZ low).take 0).reverse) := by
            rw [show (Value.int .u8 0).cells = #[Value.int .u8 0] from rfl, aem, Qjs, Nat.sub_zero, ae4, List.reverse_nil, ab4, Qzd]
          rw [← e]
          show World.ownsRow _ _ _ _ _ _ (madeCells #[Value.int .u8 0] (m * 1)).toList
          rw [aem]; exact aM
        exact World.ownsRow.kept mg.o az (.inr (by simp [Value.ownBlock]))
      have kq : gl ≠ wr.heap.size := by omega
      have WA := zq kq
      clear aM az
      go_wp2_with fail
      obtain ⟨wo, xA⟩ : ∃ wo, wo = wr := ⟨_, rfl⟩
      subst xA
      go_loopw [10] (fun si wr => YZ m low gl bE wo.heap.size w si wr) (fun si _ => m - (intOf si).toNat)
      case atStart => exact vX.o
      case round =>
        obtain ⟨i, eu, rfl, y5, qD, hb⟩ := hrel
        have hzz := hb.size
        have HB := zq hb
        have HOL := zq qD
        by_cases hlt : i < m
        · have ze : ((bZ low).take i).length = i := by rw [aak, mh.o]; omega
          obtain ⟨c, hc⟩ : ∃ c, (bZ low)[i]? = some c := ⟨_, aad (by rw [mh.o]; exact hlt)⟩
          obtain ⟨ao', cap', e, _, _, a3⟩ := Qj qD
          cases e
          obtain ⟨g', e, b1, b2, b3⟩ := a3 (by omega)
          cases e
          have c1 : wr.cell? ⟨gl, i, none⟩ = some (.int .u8 ((c.toNat : Nat) : Int)) := by rw [b3 i (by omega)]; simp [Qr, hc]
          obtain ⟨k, hk⟩ : ∃ k, m = i + 1 + k := ⟨m - i - 1, by omega⟩
          have cS : ((m : Nat) : Int) - 1 - (i : Int) = ((k : Nat) : Int) := by omega
          have hk2 : (0 : Int) ≤ ((k : Nat) : Int) := by omega
          have hk3 : ((k : Nat) : Int) < ((m : Nat) : Int) := by omega
          have hst := y5.stored k (.int .u8 ((c.toNat : Nat) : Int))
          have aY : (Qr (List.replicate (m - i) 0 ++ ((bZ low).take i).reverse)).set k (.int .u8 ((c.toNat : Nat) : Int)) = Qr (List.replicate (m - (i + 1)) 0 ++ ((bZ low).take (i + 1)).reverse) := by
            have e1 : m - i = k + 1 := by omega
            have e2 : m - (i + 1) = k := by omega
            rw [e1, e2, ab2, hc, List.reverse_append, List.replicate_succ', aar, Qo, List.set_append_right _ _ (by simp [Qr])]
            rw [Qo (List.replicate k 0)]
            simp [Qr]
          rw [aY] at hst
          have f1 : wr.frozen? ⟨wo.heap.size, k, none⟩ = false := y5.frozenAt k
          have acC : wo.heap.size < wr.heap.size := (y5.lt _ rfl).2
          obtain ⟨q1, GU⟩ : ∃ q1, wr.cell? ⟨wo.heap.size, k, none⟩ = some q1 := by
            obtain ⟨ao', cap', e, _, _, a3⟩ := Qj y5
            cases e
            obtain ⟨g', e, b1, b2, b3⟩ := a3 (by omega)
            cases e
            refine ⟨_, (b3 k (by omega)).trans (aad ?_)⟩
            simp [Qr, ze]; omega
          have aR : Hid (YZ m low gl bE wo.heap.size w (.int .i64 ((i : Int) + 1)) (wr.setCell ⟨wo.heap.size, k, none⟩ (.int .u8 ((c.toNat : Nat) : Int)))) := by
            refine ⟨i + 1, by omega, by go_num, hst.1, ?_, HB.o.setCell (by assumption) _⟩
            exact World.ownsRow.kept HOL.o hst.2 (.inr (by simp [Value.ownBlock]; exact WA.o))
          clear hst aY y5 qD hb hk hc b3 ze
          go_wp2_with fail
          first | exact ⟨aR.o, by simp [intOf] <;> omega⟩ | exact ⟨by (repeat apply Exists.intro); exact ⟨aR.o, rfl⟩, by simp [intOf] <;> omega⟩
        have him : i = m := by omega
        have hown : cz w.heap.size wr (.slice (some ⟨wo.heap.size, 0, none⟩) m m) (bZ low).reverse := by
          have e : List.replicate (m - i) (0 : UInt8) ++ ((bZ low).take i).reverse = (bZ low).reverse := by rw [him, Nat.sub_self, aat (by rw [mh.o]; exact aaa _)]; rfl
          rw [e] at y5
          show World.ownsRow _ _ _ _ _ _ _
          rw [aeo, mh.o]
          exact y5
        have hcv := J8 hown
        rw [← AE.o] at hcv
        clear y5 qD hb hown
        go_wp2_with fail
        go_ret2
        exact ⟨rfl, HB.o⟩
    have CP : 0 < ds.length := by
      rcases aeN ds.length with h | h
      · exact absurd (aaq h) h0
      exact h
    have tU := Qfx hst h0
    have mm := zq tU
    have qF := Nm ds
    have hqs := Kl hsm
    have JA := zq hqs
    have xr := Ms ds
    obtain ⟨g, rfl⟩ : ∃ g, dso = some ⟨g, 0, none⟩ := by
      obtain ⟨ao', cap', e, _, _, a3⟩ := Qj GN
      cases e
      obtain ⟨g, hg, -⟩ := a3 CP
      exact ⟨g, hg⟩
    have HLP := zq CP
    clear hst hsm dO ei hne hb tU hqs ZR lcm GN qD
    go_wp2_with fail
    refine (Qmo w.heap.size ds _ _ HD.o sf.o).mono ?_
    rintro e w2 ⟨rfl, Oa, hb2, hz2', hf2⟩
    obtain ⟨r, hr⟩ : ∃ r, r = (Yi ds).2 := ⟨_, rfl⟩
    rw [← hr] at qF mm ⊢
    have Od : cz w.heap.size w2 (.slice lo (bZ low).length bE) (bZ low) := by refine Su HL.o (aaa _) fun q hq => hf2 q (fun e => bR.o q e hq)
    have UO := zq Oa
    have mg := zq Od
    have aD : Hid (Below w.heap.size w w2) := HB.o.trans hb2
    have abT : w.heap.size ≤ w2.heap.size := aD.o.size
    obtain ⟨qs, hqq⟩ : ∃ qs, qs = (Yi ds).1 := ⟨_, rfl⟩
    rw [← hqq] at xr JA UO mm
    clear Oa Od hb2 hz2' hf2 hr hqq
    have rQ : Hid (w2.ownsRow w.heap.size 5 1 (.slice lo low.length bE) low.length (Qr (bZ low))) := by
      have := mg.o
      unfold cz at this
      rw [iA] at this
      exact this
    have LZ : ((⟨#[48, 49, 50, 51, 52, 53, 54, 55, 56, 57, 97, 98, 99, 100, 101, 102, 103, 104, 105, 106, 107, 108, 109, 110, 111, 112, 113, 114, 115, 116, 117, 118, 119, 120, 121, 122]⟩ : ByteArray)[r]'(aed qF (by decide))) = UInt8.ofNat (48 + r) := by
      have h : r = 0 ∨ r = 1 ∨ r = 2 ∨ r = 3 ∨ r = 4 ∨ r = 5 ∨ r = 6 ∨ r = 7 ∨ r = 8 ∨ r = 9 := by omega
      rcases h with rfl | rfl | rfl | rfl | rfl | rfl | rfl | rfl | rfl | rfl <;> rfl
    have vG := zq LZ
    clear LZ
    obtain ⟨bb, km⟩ : ∃ bb : Nat, bb = ((⟨#[48, 49, 50, 51, 52, 53, 54, 55, 56, 57, 97, 98, 99, 100, 101, 102, 103, 104, 105, 106, 107, 108, 109, 110, 111, 112, 113, 114, 115, 116, 117, 118, 119, 120, 121, 122]⟩ : ByteArray)[r]'(aed qF (by decide))).toNat := ⟨_, rfl⟩
    have jP := zq km
    clear km
    go_wp2_with (at_builtin; refine adv _ rfl _ _ 88 rfl w.heap.size 5 i0 (.int .u8 0) 1 1 Tryz.underlying88 hi hz0 hz1 hz2 rfl (by decide) _ _ _ rfl (abj rQ.o _) ⟨w2.heap.size, 0, none⟩ 1 1 _ rfl rfl (Qh _ _ _ _ rfl) (Ww _ rfl) (by unfold maxLen; omega) (by omega) (by simp; omega) ?_)
    intro v3 w3 au ak _ fA
    have hb3 : Below w.heap.size w w3 := abq (aD.o.alloc abT _) ak (by simp; omega) (fun q hq => (aaZ rQ.o q hq).1)
    have Ob : bX w.heap.size w3 (.slice (some ⟨g, 0, none⟩) ds.length sK) qs := by
      refine World.ownsRow.kept (abj UO.o _) ak (.inr fun e => ?_)
      exact bR.o g rfl (by cases lo with
        | none => cases e
        | some a => exact e.symm)
    have DA : cz w.heap.size w3 v3 (bZ (low ++ [r])) := by
      show World.ownsRow _ _ _ _ _ _ _
      have e : Qr (bZ (low ++ [r])) = Qr (bZ low) ++ [.int .u8 ((UInt8.ofNat (48 + r)).toNat : Nat)] := by simp [bZ, Qr]
      have e2 : (bZ (low ++ [r])).length = low.length + 1 := by simp [bZ]
      rw [e, e2, ← vG.o]
      exact au
    have NV : v3.ownBlock ≠ some g := by
      rcases fA with h | h
      · rw [h]
        exact fun e => bR.o g rfl (by cases lo with
          | none => cases e
          | some a => exact e)
      rw [h]
      have := (aaZ UO.o g rfl).2
      simp
      omega
    have aS := zq hb3
    have x6 := zq Ob
    have VK := zq DA
    have WB := zq NV
    have NH : Pk v3 = low.length + 1 := by
      obtain ⟨ao', cap', e, _⟩ := Qj DA
      rw [e]
      simp [Pk, bZ]
    have IP := zq NH
    have acz : ds.length ≤ 9223372036854775807 := by
      obtain ⟨ao', cap', e, a1, a2, _⟩ := Qj HD.o
      unfold maxLen at a2
      omega
    clear au ak fA hb3 Ob DA NV NH
    go_wp2_with fail
    obtain ⟨wo, xA⟩ : ∃ wo, wo = wr := ⟨_, rfl⟩
    subst xA
    go_loop [6] (fun dv => ∃ k : Nat, k ≤ ds.length ∧ dv = .slice (some ⟨g, 0, none⟩) k sK ∧ Qd (qs.take k) = Qd qs) (fun dv => Pk dv)
    case atStart => exact ⟨ds.length, aaa _, rfl, by rw [← xr, adx]⟩
    case round =>
      obtain ⟨k, hk, rfl, hst⟩ := hrel
      have ee := zq hst
      have vM : Hid (Qd qs = qs.take k → YV N w (.slice (some ⟨g, 0, none⟩) k sK) v3 w3 ∧ low.length < (dg N).length) := by
        intro he
        have hdq : bX w.heap.size w3 (.slice (some ⟨g, 0, none⟩) qs.length sK) qs := by rw [xr]; exact x6.o
        have mN := bX.head hdq (show k ≤ qs.length by omega)
        rw [← he] at mN
        refine ⟨⟨Qd qs, low ++ [r], Uu _, Z8 JA.o, ?_, ?_, mN, VK.o, ?_, aS.o⟩, ?_⟩
        · rw [pS.o, mm.o]; simp
        · intro d hd
          rcases abZ.1 hd with hd | hd
          · exact uM.o d hd
          rw [abu.1 hd]; exact qF
        · intro q hq
          cases hq
          exact WB.o
        have h1 := HLEN.o
        have h2 := aa7 List.length mm.o
        rw [aac, aaJ] at h2
        omega
      clear hst
      by_cases bF : 0 < k
      · obtain ⟨d, hd⟩ : ∃ d, qs[k - 1]? = some d := ⟨_, aad (by omega)⟩
        have e1 : w3.cell? ⟨g, k - 1, none⟩ = some (.int .i64 (d : Nat)) := by
          obtain ⟨ao', cap', e, _, _, a3⟩ := Qj x6.o
          obtain ⟨g', e2, _, _, b3⟩ := a3 (by omega)
          simp only [Value.slice.injEq] at e
          rw [← e.1] at e2
          cases e2
          rw [b3 (k - 1) (by omega)]
          simp [Xe, hd]
        have dc : (0 : Int) ≤ (k : Int) - 1 := by omega
        have jV : (((k : Int) - 1).toNat) = k - 1 := by omega
        have ri : (k : Int) - 1 ≤ (sK : Int) := by
          obtain ⟨ao', cap', e, a1, _⟩ := Qj x6.o
          simp only [Value.slice.injEq] at e
          omega
        have bT : Hid (qs.take k = qs.take (k - 1) ++ [d]) := by
          show _ = _
          have := ab2 (l := qs) (i := k - 1)
          rw [show k - 1 + 1 = k from by omega, hd] at this
          exact this
        clear hd
        by_cases qu : d = 0
        · have hz1 : ((d : Int) == 0) = true := by simp [qu]
          have zA := zq qu
          clear qu
          go_wp2_with fail
          exact ⟨⟨k - 1, by omega, rfl, by rw [← ee.o, bT.o, zA.o, Z9]⟩, by simp [Pk]; omega⟩
        have hz1 : ((d : Int) == 0) = false := by simp [qu]
        have zA := zq qu
        clear qu
        have HE := zq (vM.o (by rw [← ee.o, bT.o, Yu _ _ zA.o]))
        go_wp2_with fail
        exact ⟨HE.o.1, by rw [IP.o]; have := HE.o.2; simp only [Pk, iA]; omega⟩
      obtain rfl : k = 0 := by omega
      have HE := zq (vM.o (by rw [← ee.o]; rfl))
      go_wp2_with fail
      exact ⟨HE.o.1, by rw [IP.o]; have := HE.o.2; simp only [Pk, iA]; omega⟩
theorem jn.rd {B:Nat}{w:World}{v:Value}{xs:List Nat}(h:jn B w v xs)(aZ:ok xs):Rd w v xs:=by obtain⟨ao,E,rfl,a1,a2,a3⟩:=Qj h;refine⟨fun k hk=>(h.lt k hk).2,ao,E,rfl,a1,a2,aZ,fun i x hx=> ?_⟩;have H:=(aae.1 hx).1;obtain⟨g,rfl,b1,b2,b3⟩:=a3 (by omega);refine⟨g,0,rfl,?_⟩;rw[abx,b3 i (by omega)];simp[Ru,hx]
theorem jn.TK {B B':Nat}{w:World}{v:Value}{ds:List Nat}(h:jn B w v (Jx (Qd ds)))(hB:B'<=B)(hs:∀d∈ds,d<65536)(hl:ds.length<=268435456):bM B' w v (aJ ds):=by
 have E:=Z8 hs;have I:=Qg1 E;have J:=M9 ds;refine⟨⟨_,h.rd (Qb8 E),by rw[Qhu E,Y5],by omega⟩,fun q hq=>⟨aan hB (h.lt q hq).1,(h.lt q hq).2⟩,?_⟩;obtain⟨ao,H,rfl,-⟩:=Qj h;show (Jx (Qd ds)).length=0↔_;rw[List.length_eq_zero_iff,Bw];constructor
 ·intro e
  rw[<-Y5,e];rfl
 intro e;rw[<-Y5]at e;exact Qph (Uu ds) e
theorem Qk5 (xs:List Nat)(v:Value)(w:World)(hv:Rd w v xs)(hl:xs.length<=67108864):Calls Tryz.prog 143 #[v] w fun e w'=>e=.returned (.string ⟨(ae.ar (val xs)).toArray⟩)/\Below w.heap.size w w':=by have HV:=zq (Qvg xs v w hv hl);clear hv;go_enter Tryz.func143,Tryz.ntmps143;go_wp2_with fail;refine HV.o.mono ?_;rintro e w1 ⟨rfl,hb⟩;have HB:=zq hb;clear hb;go_wp2_with fail;go_ret;exact⟨rfl,HB.o⟩
theorem Cp (n:Nat)(v:Value)(w:World)(hv:lY w v n):Calls Tryz.prog 88 #[v] w fun e w'=> ∃v',e=.returned v'/\bM w.heap.size w' v' n/\Below w.heap.size w w':=by obtain⟨xs,hr,hn,hl⟩:=hv;have HV:=zq hr;have dt:=zq hr.ok;have HN:=zq hn;clear hr hn;go_enter Tryz.func88,Tryz.ntmps88;go_wp2_with fail;refine(Tx xs v _ HV.o hl).mono ?_;rintro e w1 ⟨d1,rfl,l7,hb1⟩;have pV:=zq l7;have aC:=zq hb1;clear l7 hb1;have hsm:=Z8 (J9 xs);have fh:=M9 (Yx xs);rw[Tt]at fh;go_wp2_with fail;refine(Gl w.heap.size (Qd (Yx xs)) _ _ pV.o hsm (by omega)).mono ?_;rintro e w2 ⟨v2,rfl,ve,hb2⟩;have h3:=ve.TK aC.o.size hsm (by omega);rw[Y5,Js dt.o,HN.o]at h3;have HF:=zq h3;have aD:=zq (Qz aC.o hb2);clear ve hb2 h3;go_wp2_with fail;go_ret;exact⟨_,rfl,HF.o,aD.o⟩
theorem bM.val {B:Nat}{w:World}{v:Value}{n:Nat}(h:bM B w v n):∃ao L cap,v=.slice ao L cap/\(L=0↔n=0):=by obtain⟨⟨xs,E,-,-⟩,-,H⟩:=h;obtain⟨ao,cap,rfl,-⟩:=E.2;exact⟨ao,_,cap,rfl,H⟩
theorem Qxb (neg:Bool)(n:Nat)(v:Value)(w:World)(hv:lY w v n):Calls Tryz.prog 193 #[.bool neg,v] w fun e w'=> ∃v',e=.returned (.agg #[.bool (neg && decide (0<n)),v'])/\bM w.heap.size w' v' n/\Below w.heap.size w w':=by
 have bt:=Qq w (.cells #[.bool false,.slice none 0 0] 62);have bS:=zq bt;have HL:=zq (Cp n v _ (hv.below bt));have dJ:=zq (aaz w (.cells #[.bool false,.slice none 0 0] 62));clear hv bt;go_enter Tryz.func193,Tryz.ntmps193;go_wp2_with fail;refine HL.o.mono ?_;rintro e w1 ⟨v1,rfl,hf,hb⟩;have hz1:=hb.size;rw[adB]at hz1;have hblk:w1.heap[w.heap.size]?=some (.cells #[.bool false,.slice none 0 0] 62 (0,0)):=(hb.block w.heap.size (by simp)).trans dJ.o;obtain⟨ao,L,cap,rfl,hL⟩:=hf.val;have HF:=zq hf;have HB:=zq hb;have j5:=zq hblk;have e0:w1.cell? ⟨w.heap.size,0,none⟩=some (.bool false):=(aam w1 _ _ _ _ _ hblk).trans rfl;have e1:w1.cell? ⟨w.heap.size,1,none⟩=some (.slice none 0 0):=(aam w1 _ _ _ _ _ hblk).trans rfl;have f0:w1.frozen? ⟨w.heap.size,0,none⟩=false:=aaH w1 _ 0 _ _ hblk;have f1:w1.frozen? ⟨w.heap.size,1,none⟩=false:=aaH w1 _ 1 _ _ hblk
 have aR:Hid (∀b:Bool,bM w.heap.size ((w1.setCell ⟨w.heap.size,0,none⟩ (.bool b)).setCell ⟨w.heap.size,1,none⟩ (.slice ao L cap)) (.slice ao L cap) n/\Below w.heap.size w ((w1.setCell ⟨w.heap.size,0,none⟩ (.bool b)).setCell ⟨w.heap.size,1,none⟩ (.slice ao L cap))/\((w1.setCell ⟨w.heap.size,0,none⟩ (.bool b)).setCell ⟨w.heap.size,1,none⟩ (.slice ao L cap)).heap[w.heap.size]?=some (.cells #[.bool b,.slice ao L cap] 62 (0,0))):=by
  intro b
  have hlt:w.heap.size<(w.alloc (.cells #[.bool false,.slice none 0 0] 62)).heap.size:=by simp
  refine⟨bM.mono (bM.set (bM.set HF.o hlt 0 _) hlt 1 _) (abD hlt),?_,?_⟩
  ·have hr:Wr w.heap.size none w1 ((w1.setCell ⟨w.heap.size,0,none⟩ (.bool b)).setCell ⟨w.heap.size,1,none⟩ (.slice ao L cap)):=(Wr.aI w1 0 _).trans (Mv.refl _ _) (Wr.aI _ 1 _)
   have hw:Below w.heap.size w w1:=bS.o.trans (HB.o.mono (by simp));exact hr.aX hw hw.size (aaa _) (fun k hk=>by cases hk)
  have s1:=aas w1 w.heap.size 0 _ _ (.bool b) j5.o;have s2:=aas (w1.setCell ⟨w.heap.size,0,none⟩ (.bool b)) w.heap.size 1 _ _ (.slice ao L cap) s1;exact s2.trans (by simp)
 clear hf hb hblk;by_cases hn:n=0
 ·have lu:L=0:=hL.2 hn
  subst lu
  have HN:Hid ((neg && decide (0<n))=false):=by show _=_;rw[hn];simp
  clear hn hL
  cases neg with
  |true=>
   go_wp2_with fail;have hf3:=aR.o false;refine aaI (adM rfl _ _ w.heap.size 62 _ _ _ rfl hf3.2.2 Tryz.underlying62 rfl (by kernel_rfl)) rfl ?_;rw[HN.o]
   exact⟨_,rfl,hf3.1,hf3.2.1⟩
  |false=>go_wp2_with fail;have hf3:=aR.o false;refine aaI (adM rfl _ _ w.heap.size 62 _ _ _ rfl hf3.2.2 Tryz.underlying62 rfl (by kernel_rfl)) rfl ?_;rw[HN.o];exact⟨_,rfl,hf3.1,hf3.2.1⟩
 have lu:(0:Int)<(L:Int):=by
  rcases aeN L with h|h
  ·exact absurd (hL.1 h) hn
  omega
 have HN:Hid ((neg && decide (0<n))=neg):=by show _=_;rw[abH (show 0<n by omega),Bool.and_true]
 clear hn hL
 cases neg with
 |true=>
  go_wp2_with fail;have hf3:=aR.o (decide (0<L));refine aaI (adM rfl _ _ w.heap.size 62 _ _ _ rfl hf3.2.2 Tryz.underlying62 rfl (by kernel_rfl)) rfl ?_;rw[HN.o]
  exact⟨_,by rw[show decide (0<L)=true from abH (by omega)],hf3.1,hf3.2.1⟩
 |false=>go_wp2_with fail;have hf3:=aR.o false;refine aaI (adM rfl _ _ w.heap.size 62 _ _ _ rfl hf3.2.2 Tryz.underlying62 rfl (by kernel_rfl)) rfl ?_;rw[HN.o];exact⟨_,rfl,hf3.1,hf3.2.1⟩
theorem Fd (neg:Bool)(n:Nat)(v:Value)(w:World)(hv:lY w v n):Calls Tryz.prog 188 #[.agg #[.bool neg,v]] w fun e w'=> ∃v',e=.returned (.agg #[.bool (neg && decide (0<n)),v'])/\bM w.heap.size w' v' n/\Below w.heap.size w w':=by
 obtain⟨ao,L,cap,rfl⟩:∃ao L cap,v=.slice ao L cap:=by obtain⟨xs,h1,-,-⟩:=hv;obtain⟨ao,cap,rfl,-⟩:=h1.2;exact⟨_,_,_,rfl⟩
 have hb0:=Qq w (.cells #[.bool neg,.slice ao L cap] 62);have hb1:=Qq (w.alloc (.cells #[.bool neg,.slice ao L cap] 62)) (.cells #[.bool false,.slice none 0 0] 62);have bt:=hb0.trans (hb1.mono (by simp));have bS:=zq bt;have HL:=zq (Qxb neg n _ _ (hv.below bt))
 have dJ:Hid (((w.alloc (.cells #[.bool neg,.slice ao L cap] 62)).alloc (.cells #[.bool false,.slice none 0 0] 62)).heap[w.heap.size+1]?=some (.cells #[.bool false,.slice none 0 0] 62 (0,0))):=by have:=aaz (w.alloc (.cells #[.bool neg,.slice ao L cap] 62)) (.cells #[.bool false,.slice none 0 0] 62);rw[adB]at this;exact this
 clear hv bt hb0 hb1;go_enter Tryz.func188,Tryz.ntmps188;go_wp2_with fail;refine HL.o.mono ?_;rintro e w1 ⟨v1,rfl,hf,hb⟩;have hz1:=hb.size;rw[adB,adB]at hz1;have hblk:w1.heap[w.heap.size+1]?=some (.cells #[.bool false,.slice none 0 0] 62 (0,0)):=(hb.block (w.heap.size+1) (by simp)).trans dJ.o;obtain⟨iZ,L1,cO,rfl,-⟩:=hf.val;have HF:=zq hf;have HB:=zq hb;have j5:=zq hblk;have e0:w1.cell? ⟨w.heap.size+1,0,none⟩=some (.bool false):=(aam w1 _ _ _ _ _ hblk).trans rfl;have e1:w1.cell? ⟨w.heap.size+1,1,none⟩=some (.slice none 0 0):=(aam w1 _ _ _ _ _ hblk).trans rfl;have f0:w1.frozen? ⟨w.heap.size+1,0,none⟩=false:=aaH w1 _ 0 _ _ hblk;have f1:w1.frozen? ⟨w.heap.size+1,1,none⟩=false:=aaH w1 _ 1 _ _ hblk;obtain⟨b,hb⟩:=xq ((neg && decide (0<n)));rw[<-hb];have j6:=zq hb
 have aR:Hid (bM w.heap.size ((w1.setCell ⟨w.heap.size+1,0,none⟩ (.bool b)).setCell ⟨w.heap.size+1,1,none⟩ (.slice iZ L1 cO)) (.slice iZ L1 cO) n/\Below w.heap.size w ((w1.setCell ⟨w.heap.size+1,0,none⟩ (.bool b)).setCell ⟨w.heap.size+1,1,none⟩ (.slice iZ L1 cO))/\((w1.setCell ⟨w.heap.size+1,0,none⟩ (.bool b)).setCell ⟨w.heap.size+1,1,none⟩ (.slice iZ L1 cO)).heap[w.heap.size+1]?=some (.cells #[.bool b,.slice iZ L1 cO] 62 (0,0))):=by
  have hlt:w.heap.size+1<((w.alloc (.cells #[.bool neg,.slice ao L cap] 62)).alloc (.cells #[.bool false,.slice none 0 0] 62)).heap.size:=by simp
  refine⟨bM.mono (bM.set (bM.set HF.o hlt 0 _) hlt 1 _) (by omega),?_,?_⟩
  ·have hr:Wr (w.heap.size+1) none w1 ((w1.setCell ⟨w.heap.size+1,0,none⟩ (.bool b)).setCell ⟨w.heap.size+1,1,none⟩ (.slice iZ L1 cO)):=(Wr.aI w1 0 _).trans (Mv.refl _ _) (Wr.aI _ 1 _)
   have hw:Below w.heap.size w w1:=bS.o.trans (HB.o.mono (by omega));exact hr.aX hw hw.size (by omega) (fun k hk=>by cases hk)
  have s1:=aas w1 (w.heap.size+1) 0 _ _ (.bool b) j5.o;have s2:=aas (w1.setCell ⟨w.heap.size+1,0,none⟩ (.bool b)) (w.heap.size+1) 1 _ _ (.slice iZ L1 cO) s1;exact s2.trans (by simp)
 clear hf hblk hb;go_wp2_with fail;refine aaI (adM rfl _ _ (w.heap.size+1) 62 _ _ _ rfl aR.o.2.2 Tryz.underlying62 rfl (by kernel_rfl)) rfl ?_;exact⟨_,by rw[j6.o],aR.o.1,aR.o.2.1⟩
end Go.Proofs.YtgfmiladfeoldaaGreatDoor
