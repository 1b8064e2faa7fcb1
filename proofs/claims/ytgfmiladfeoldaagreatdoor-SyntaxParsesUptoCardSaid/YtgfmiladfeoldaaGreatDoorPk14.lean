/- Joined texts of this claim's proof: NumP, RefNum, RefNum2, RefNum3, LexPure4. -/
import Derived.Test.YtgfmiladfeoldaaGreatDoorPk1
import Derived.Lib.IndexMore
import Derived.Test.YtgfmiladfeoldaaGreatDoorPk3
import Derived.Test.YtgfmiladfeoldaaGreatDoorPk2
import Derived.Handy
import Derived.WalkSpells
set_option linter.unusedSimpArgs false
set_option linter.unusedVariables false
set_option maxRecDepth 100000
set_option maxHeartbeats 16000000
namespace NumP
def Y2:List Nat->Nat->Nat->List Nat
 | [],_,v=>if 0<v then [v] else []
 |d::ds,b,v=>(d*b+v) % 65536::Y2 ds b ((d*b+v) / 65536)
def valD:List Nat->Nat
 | []=>0
 |d::ds=>d+65536*valD ds
theorem Qj1:∀(ds:List Nat) (b v:Nat),valD (Y2 ds b v)=valD ds*b+v:=by
 intro ds
 induction ds with
 |nil=>intro b v;unfold Y2;split<;>simp[valD];omega
 |cons d ds ih=>
  intro b v;simp only[Y2,valD,ih];have:=Nat.mod_add_div (d*b+v) 65536;rw[Nat.mul_add,<-Nat.mul_assoc,Nat.add_mul,Nat.mul_assoc 65536];generalize valD ds*b=q at*;omega
theorem Qqq:∀(ds:List Nat) (b v:Nat),(∀d∈ds,d<65536)->b<=65536->v<65536-> ∀d∈Y2 ds b v,d<65536:=by
 intro ds
 induction ds with
 |nil=>intro b v _ _ I d h;unfold Y2 at h;split at h<;>simp at h;omega
 |cons x ds ih=>
  intro b v E H I d h;simp only[Y2,List.mem_cons]at h;rcases h with rfl|h
  ·omega
  ·have J:=E x (by simp)
   have K:x*b<=65535*65536:=Nat.mul_le_mul (by omega) H;exact ih b _ (fun y hy=>E y (by simp[hy])) H (by omega) d h
theorem Qyu:∀(ds:List Nat) (b v:Nat),(Y2 ds b v).length<=ds.length+1:=by
 intro ds
 induction ds with
 |nil=>intro b v;unfold Y2;split<;>simp
 |cons d ds ih=>intro b v;simp only[Y2,List.length_cons];have:=ih b ((d*b+v) / 65536);omega
def Qa (l:List Nat):List Nat:=(l.reverse.dropWhile (· ==0)).reverse
theorem Za (l:List Nat):Qa (l++[0])=Qa l:=by simp[Qa]
theorem Yt (l:List Nat)(d:Nat)(h:d≠0):Qa (l++[d])=l++[d]:=by simp[Qa,h]
def F6 (l:List Nat):Nat:=valD (l.take 4)
def Fl:Nat->List Nat->List Nat
 |0,_=>[]
 |_+1,[]=>[]
 |n+1,d::ds=>F6 (d::ds)::Fl n ((d::ds).drop 4)
def Jd (l:List Nat):List Nat:=Fl l.length l
theorem Qqv:∀(n:Nat) (l:List Nat),l.length<=n->Fl n l=Fl l.length l:=by
 intro n
 induction n using Nat.strongRecOn with
 |ind n ih=>
  intro l h
  cases l with
  |nil=>cases n<;>rfl
  |cons b l=>
   cases n with
   |zero=>simp at h
   |succ n=>
    simp only[List.length_cons]at h;simp only[Fl,List.length_cons];by_cases hn:l.length=n
    ·rw[hn]
    ·rw[ih n (by omega) _ (by simp;omega),ih l.length (by omega) _ (by simp)]
theorem Nh:Jd []=[]:=rfl
theorem Rt {l:List Nat}(h:l≠[]):Jd l=F6 l::Jd (l.drop 4):=by
 cases l with
 |nil=>exact absurd rfl h
 |cons d l=>
  unfold Jd;simp only[List.length_cons,Fl];rw[Qqv l.length _ (by simp)]
theorem Ux:∀(a b:List Nat),valD (a++b)=valD a+65536^a.length*valD b:=by
 intro a
 induction a with
 |nil=>intro b;simp[valD]
 |cons d a ih=>
  intro b;simp only[List.cons_append,valD,ih,List.length_cons,Nat.pow_succ];rw[Nat.mul_add,<-Nat.mul_assoc,Nat.mul_comm 65536 (65536^a.length)];omega
theorem M4:∀(a:List Nat),(∀d∈a,d<65536)->valD a<65536^a.length:=by
 intro a
 induction a with
 |nil=>intro _;simp[valD]
 |cons d a ih=>
  intro h;have E:=ih fun x hx=>h x (by simp[hx]);have I:=h d (by simp);simp only[valD,List.length_cons,Nat.pow_succ];have H:65536*(valD a+1)<=65536*65536^a.length:=Nat.mul_le_mul_left _ E;rw[Nat.mul_comm (65536^a.length)];omega
def numD (l:List UInt8):List Nat:=l.foldl (fun d c=>Y2 d 10 (c.toNat-48)) []
def Qu (c:UInt8):Bool:=48<=c.toNat && c.toNat<=57
theorem Qve (l:List UInt8)(c:UInt8):numD (l++[c])=Y2 (numD l) 10 (c.toNat-48):=by simp[numD,List.foldl_append]
theorem Rc (l:List UInt8):∀d∈numD l,d<65536:=by
 have:∀(l:List UInt8) (a:List Nat),(∀d∈a,d<65536)-> ∀d∈l.foldl (fun d c=>Y2 d 10 (c.toNat-48)) a,d<65536:=by
  intro l
  induction l with
  |nil=>intro a h;exact h
  |cons c l ih=>intro a h;exact ih _ (Qqq a 10 _ h (by omega) (by have:=c.toNat_lt;omega))
 exact this l [] (by simp)
theorem Hb (l:List UInt8):(numD l).length<=l.length:=by
 have:∀(l:List UInt8) (a:List Nat),(l.foldl (fun d c=>Y2 d 10 (c.toNat-48)) a).length<=a.length+l.length:=by
  intro l
  induction l with
  |nil=>intro a;simp
  |cons c l ih=>intro a;simp only[List.foldl_cons,List.length_cons];have:=ih (Y2 a 10 (c.toNat-48));have:=Qyu a 10 (c.toNat-48);omega
 have h:=this l [];simp only[List.length_nil,Nat.zero_add]at h;exact h
end NumP
namespace Go.Proofs.YtgfmiladfeoldaaGreatDoor
open Go.RowKit LexP NumP
def Xe (l:List Nat):List Value:=l.map fun d=> .int .i64 (d:Nat)
theorem Xl (a b:List Nat):Xe (a++b)=Xe a++Xe b:=by simp[Xe]
theorem Yz (a:List Nat):(Xe a).length=a.length:=by simp[Xe]
theorem Tryz.infoInt:(Tryz.prog.info? 3).map (fun i=>(i.zero,i.size,i.bytes))=some (some (.int .i64 0),1,8):=by kernel_rfl
def OwnD (B:Nat)(w:World)(v:Value)(ds:List Nat):Prop:=w.ownsRow B 3 1 v ds.length (Xe ds)
theorem Sq {w:World}{B:Nat}{e:TypeId}{size:Nat}{ao:Option Addr}{n cap k:Nat}{xs:List Value}(h:w.ownsRow B e size (.slice ao n cap) n xs)(hk:k<=n):
  w.ownsRow B e size (.slice ao k cap) k (xs.take (k*size)):=by
 have I:k*size<=n*size:=Nat.mul_le_mul_right _ hk;refine⟨by rw[List.length_take,h.1];omega,?_⟩;rcases h.2 with ⟨E,rfl⟩|⟨g,cap',H,E,K,U,Z,T,J,O⟩
 ·cases E
  obtain rfl:k=0:=by omega
  exact .inl ⟨rfl,rfl⟩
 ·cases E
  refine .inr ⟨g,cap,H,rfl,K,U,by omega,T,J,?_⟩;rw[<-O,List.take_take,Nat.min_eq_left I]
theorem OwnD.head {B:Nat}{w:World}{ao:Option Addr}{cap k:Nat}{ds:List Nat}(h:OwnD B w (.slice ao ds.length cap) ds)(hk:k<=ds.length):OwnD B w (.slice ao k cap) (ds.take k):=by
 have E:=Sq h hk;unfold OwnD
 have e:Xe (ds.take k)=(Xe ds).take (k*1):=by simp[Xe]
 rw[List.length_take,Nat.min_eq_left hk,e];exact E
theorem Qqr {l:List Nat}{d:Nat}(h:l.getLast? =some d)(hd:d≠0):Qa l=l:=by
 obtain⟨q,rfl⟩:=List.getLast?_eq_some_iff.1 h;exact Yt q d hd
def Qkx (B:Nat)(l:List Nat)(w:World)(e:Ending)(w':World):Prop:=∃v,e=.returned v/\OwnD B w' v l/\Below B w w'
def Qhc (B:Nat)(ds:List Nat)(b v:Nat)(dv:Value)(w:World)(sv si:Value)(wr:World):Prop:=
 ∃k vk dn,k<=ds.length/\si=.int .i64 (k:Nat)/\sv=.int .i64 (vk:Nat)/\vk<65536/\dn.length=k/\Y2 ds b v=dn++Y2 (ds.drop k) b vk/\
  wr.ownsRow B 3 1 dv ds.length (Xe (dn++ds.drop k))/\Below B w wr
theorem Qw8 (B:Nat)(ds:List Nat)(b v:Nat)(dv:Value)(w:World)(hown:OwnD B w dv ds)(hB:B<=w.heap.size)(hds:∀d∈ds,d<65536)(hb:b<=36)(hv:v<65536)(hl:ds.length<=2097152):
  Calls Tryz.prog 195 #[dv,.int .i64 (b:Nat),.int .i64 (v:Nat)] w (Qkx B (Y2 ds b v) w):=by
 obtain⟨i0,hi,hz0,hz1,hz2⟩:=info_parts Tryz.infoInt;have HD:=zq hds;have HO:=zq hown;obtain⟨ao,cap,hdv,hnc,hcm,-⟩:=Qj hown;subst hdv;clear hds hown hcm;go_enter Tryz.func195,Tryz.ntmps195;go_wp2_with fail;go_loopw [2,7] (fun sv si wr=>Qhc B ds b v (.slice ao ds.length cap) w sv si wr) (fun _ si _=>ds.length-(intOf si).toNat)
 case atStart=>exact⟨0,v,[],Nat.zero_le _,rfl,rfl,hv,rfl,rfl,HO.o,Below.refl _ _⟩
 case round=>
  obtain⟨k,vk,dn,hk,rfl,rfl,hvk,hdl,hon,hown,hbl⟩:=hrel;have HON:=zq hon;have HDL:=zq hdl;have hzz:=hbl.size;clear hon hdl;by_cases hlt:k<ds.length
  ·obtain⟨d,hd⟩:∃d,ds[k]?=some d:=⟨_,List.getElem?_eq_getElem hlt⟩
   obtain⟨ao2,cap2,hdv2,-,-,hsh⟩:=Qj hown;obtain⟨g,hao,hbg,hgs,hcell⟩:=hsh (by omega)
   cases hdv2
   subst hao;have hd2:=HD.o d (List.mem_of_getElem? hd)
   have hdrop:ds.drop k=d::ds.drop (k+1):=by
    rw[List.drop_eq_getElem_cons hlt];have:=List.getElem?_eq_getElem hlt;rw[hd]at this;rw[Option.some.inj this]
   have e1:wr.cell? ⟨g,k,none⟩=some (.int .i64 (d:Nat)):=by
    rw[hcell k (by omega),hdrop,Xl,List.getElem?_append_right (by rw[Yz];have:=HDL.o;omega)]
    have:k-(Xe dn).length=0:=by rw[Yz];have:=HDL.o;omega
    rw[this];rfl
   have e2:wr.frozen? ⟨g,k,none⟩=false:=hown.frozenAt k
   have hm0:(0:Int)<=(d:Int)*(b:Int):=by rw[<-Int.natCast_mul];omega
   have hm1:(d:Int)*(b:Int)<=2359260:=by
    have h1:d*b<=65535*36:=Nat.mul_le_mul (by omega) hb;rw[<-Int.natCast_mul];omega
   have hst:=hown.stored k (.int .i64 (((d*b+vk) % 65536:Nat)))
   have hset:(Xe (dn++ds.drop k)).set k (.int .i64 (((d*b+vk) % 65536:Nat)))=Xe ((dn++[(d*b+vk) % 65536])++ds.drop (k+1)):=by
    rw[hdrop,Xl,List.set_append_right _ _ (by rw[Yz];have:=HDL.o;omega)]
    have:k-(Xe dn).length=0:=by rw[Yz];have:=HDL.o;omega
    rw[this,Xl,Xl,List.append_assoc];rfl
   rw[hset]at hst;have HST:=zq hst;have HDR:=zq hdrop;clear hcell hsh hst hset hdrop hd
   have hq0:(0:Int)<=((d:Int)*(b:Int)+(vk:Int)) / 65536:=by omega
   have hq1:((d*b+vk) / 65536:Nat)<65536:=by
    have h1:d*b<=65535*36:=Nat.mul_le_mul (by omega) hb;omega
   have HON2:Hid (Y2 ds b v=(dn++[(d*b+vk) % 65536])++Y2 (ds.drop (k+1)) b ((d*b+vk) / 65536)):=by
    show _=_;rw[HON.o,HDR.o];simp[Y2]
   have ev:Hid (Value.int .i64 (((d:Int)*(b:Int)+(vk:Int)) / 65536)=.int .i64 (((d*b+vk) / 65536:Nat):Int)):=by
    show _=_;congr 1
   have em:Hid (Value.int .i64 (((d:Int)*(b:Int)+(vk:Int)) % 65536)=.int .i64 (((d*b+vk) % 65536:Nat):Int)):=by
    show _=_;congr 1
   go_wp2_with fail;rw[em.o]
   refine⟨⟨k+1,(d*b+vk) / 65536,dn++[(d*b+vk) % 65536],by omega,by go_num,ev.o,hq1,by rw[List.length_append,HDL.o];rfl,HON2.o,HST.o.1,hbl.setCell hbg _⟩,by simp[intOf]<;>omega⟩
  ·have hkn:k=ds.length:=by omega
   have hend:Hid (Y2 ds b v=dn++if 0<vk then [vk] else []):=by
    show _=_;rw[HON.o,List.drop_of_length_le (by omega)];rfl
   have hown2:wr.ownsRow B 3 1 (.slice ao ds.length cap) ds.length (Xe dn):=by
    rw[List.drop_of_length_le (by omega),List.append_nil]at hown;exact hown
   have hlen:Hid (dn.length=ds.length):=by show _=_;rw[HDL.o];exact hkn
   by_cases hv0:0<vk
   ·have HE:Hid (Y2 ds b v=dn++[vk]):=by show _=_;rw[hend.o,if_pos hv0]
    clear hend hown hkn;go_wp2_with (at_builtin;refine wpList_append_own _ rfl _ _ 41 rfl B 3 i0 (.int .i64 0) 1 8 Tryz.underlying41 hi hz0 hz1 hz2 rfl (by decide) _ _ _ rfl (hown2.alloc _) ⟨wr.heap.size,0,none⟩ 1 1 [.int .i64 vk] rfl rfl ?c1 ?c2 ?c3 ?c4 ?c5 ?_)
    case c1=>exact Qb _ _ _ _ rfl
    case c2=>intro u hu;simp at hu;subst hu;rfl
    case c3=>unfold maxLen;omega
    case c4=>omega
    case c5=>simp;omega
    intro v3 w3 hown3 hgrow3 _
    have HO3:Hid (OwnD B w3 v3 (Y2 ds b v)):=by
     show World.ownsRow _ _ _ _ _ _ _;rw[HE.o,Xl,List.length_append,hlen.o];exact hown3
    have HB3:Hid (Below B w w3):=Below.grown (hbl.alloc (by omega) _) hgrow3 (by simp;omega) (fun q hq=>(hown2.lt q hq).1);clear hown3 hgrow3;go_wp2_with fail;go_ret;exact⟨_,rfl,HO3.o,HB3.o⟩
   ·have HE:Hid (Y2 ds b v=dn):=by show _=_;rw[hend.o,if_neg hv0,List.append_nil]
    clear hend hown hkn;go_wp2_with fail;go_ret;refine⟨_,rfl,?_,hbl⟩;show World.ownsRow _ _ _ _ _ _ _;rw[HE.o,hlen.o];exact hown2
def Qya (B:Nat)(ds:List Nat)(w:World)(e:Ending)(w':World):Prop:=∃v,e=.returned v/\OwnD B w v (Qa ds)/\w=w'
theorem Au (B:Nat)(ds:List Nat)(dv:Value)(w:World)(hown:OwnD B w dv ds):
  Calls Tryz.prog 196 #[dv] w (Qya B ds w):=by
 have HO:=zq hown;obtain⟨ao,cap,hdv,hnc,hcm,-⟩:=Qj hown;subst hdv
 have hm:ds.length<=9223372036854775807:=by unfold maxLen at hcm;omega
 clear hown hcm;go_enter Tryz.func196,Tryz.ntmps196;go_wp2_with fail;go_loop [3] (fun n=> ∃k:Nat,k<=ds.length/\n=.int .i64 (k:Nat)/\Qa (ds.take k)=Qa ds) (fun n=>(intOf n).toNat)
 case atStart=>exact⟨ds.length,Nat.le_refl _,rfl,by rw[List.take_length]⟩
 case round=>
  obtain⟨k,hk,rfl,hst⟩:=hrel;have HST:=zq hst;clear hst;by_cases h0:0<k
  ·obtain⟨ao2,cap2,hdv2,-,-,hsh⟩:=Qj HO.o
   obtain⟨g,hao,hbg,hgs,hcell⟩:=hsh (by omega)
   cases hdv2
   subst hao;obtain⟨d,hd⟩:∃d,ds[k-1]?=some d:=⟨_,List.getElem?_eq_getElem (by omega)⟩
   have e1:w.cell? ⟨g,k-1,none⟩=some (.int .i64 (d:Nat)):=by rw[hcell (k-1) (by omega)];simp[Xe,hd]
   have hi1:(0:Int)<=(k:Int)-1:=by omega
   have hi2:(((k:Int)-1).toNat)=k-1:=by omega
   have htk:Hid (ds.take k=ds.take (k-1)++[d]):=by
    show _=_;have:=List.take_add_one (l:=ds) (i:=k-1);rw[show k-1+1=k from by omega,hd]at this;exact this
   clear hsh hcell hd;by_cases hdz:d=0
   ·have hz1:((d:Int)==0)=true:=by simp[hdz]
    have HDZ:=zq hdz;clear hdz;go_wp2_with fail
    exact⟨⟨k-1,by omega,by show Value.int .i64 _=_;congr 1;omega,by rw[<-HST.o,htk.o,HDZ.o,Za]⟩,by simp[intOf]<;>omega⟩
   ·have hz1:((d:Int)==0)=false:=by simp[hdz]
    have HDZ:=zq hdz;clear hdz;go_wp2_with fail;go_ret
    have e:Qa ds=ds.take k:=by rw[<-HST.o,htk.o,Yt _ _ HDZ.o]
    exact⟨_,rfl,by rw[e];exact OwnD.head HO.o hk,rfl⟩
  ·obtain rfl:k=0:=by omega
   go_wp2_with fail;go_ret
   have e:Qa ds=ds.take 0:=by rw[<-HST.o];rfl
   exact⟨_,rfl,by rw[e];exact OwnD.head HO.o hk,rfl⟩
def Ss (l:List Nat):List Value:=l.map fun d=> .int .u64 (d:Nat)
theorem Hp (a b:List Nat):Ss (a++b)=Ss a++Ss b:=by simp[Ss]
theorem Tryz.infoU64:(Tryz.prog.info? 101).map (fun i=>(i.zero,i.size,i.bytes))=some (some (.int .u64 0),1,8):=by kernel_rfl
def OwnW (B:Nat)(w:World)(v:Value)(ds:List Nat):Prop:=w.ownsRow B 101 1 v ds.length (Ss ds)
def Bi (ds:List Nat)(w:World)(e:Ending)(w':World):Prop:=∃v,e=.returned v/\OwnW w.heap.size w' v (Jd (Qa ds))/\Below w.heap.size w w'
theorem Qhq {B:Nat}{w:World}{ao:Option Addr}{cap:Nat}{ds:List Nat}(h:OwnD B w (.slice ao ds.length cap) ds)(k d:Nat)(hd:ds[k]?=some d):
  ∃g,ao=some ⟨g,0,none⟩/\B<=g/\g<w.heap.size/\w.cell? ⟨g,k,none⟩=some (.int .i64 (d:Nat)):=by
 have Z:k<ds.length:=(List.getElem?_eq_some_iff.1 hd).1;obtain⟨U,T,H,-,-,I⟩:=Qj h;obtain⟨g,O,K,J,E⟩:=I (by omega)
 cases H
 exact⟨g,O,K,J,by rw[E k (by omega)];simp[Xe,hd]⟩
theorem Qxd (l:List Nat)(h:∀d∈l,d<65536)(i j:Nat)(hj:1<=j):valD ((l.drop (i+j)).take (4-j))<=281474976710655:=by
 have E:=M4 ((l.drop (i+j)).take (4-j)) (fun d hd=>h d (List.mem_of_mem_drop (List.mem_of_mem_take hd)));have I:65536^((l.drop (i+j)).take (4-j)).length<=65536^3:=Nat.pow_le_pow_right (by omega) (by rw[List.length_take];omega)
 have H:65536^3=281474976710656:=by decide
 omega
theorem Qje {l:List Nat}{i j:Nat}(hj:j<4){d:Nat}(hd:l[i+j]?=some d):valD ((l.drop (i+j)).take (4-j))=d+65536*valD ((l.drop (i+(j+1))).take (4-(j+1))):=by
 have h:i+j<l.length:=(List.getElem?_eq_some_iff.1 hd).1
 have e:l.drop (i+j)=d::l.drop (i+(j+1)):=by
  rw[List.drop_eq_getElem_cons h];have:=List.getElem?_eq_getElem h;rw[hd]at this;rw[Option.some.inj this];rfl
 rw[e,show 4-j=(4-(j+1))+1 from by omega,List.take_succ_cons];rfl
theorem Cj {l:List Nat}{i j:Nat}(h:l.length<=i+j):valD ((l.drop (i+j)).take (4-j))=0:=by
 rw[List.drop_of_length_le h];simp[valD]
def Qmv (ds:List Nat)(w1:World)(B:Nat)(v i:Value)(wr:World):Prop:=
 ∃k acc,i=.int .i64 (k:Nat)/\k<=ds.length+3/\Jd ds=acc++Jd (ds.drop k)/\OwnW B wr v acc/\Below B w1 wr/\acc.length<=k
theorem Ah (B:Nat)(ds0:List Nat)(dv:Value)(w:World)(hown:OwnD B w dv ds0)(hds:∀d∈ds0,d<65536)(hl:ds0.length<=536870912):
  Calls Tryz.prog 152 #[dv] w (Bi ds0 w):=by
 obtain⟨i0,hi,hz0,hz1,hz2⟩:=info_parts Tryz.infoU64
 have hds2:∀d∈Qa ds0,d<65536:=fun d hd=>hds d (by
  unfold Qa at hd;rw[List.mem_reverse]at hd
  exact List.mem_reverse.1 ((List.dropWhile_sublist _).subset hd))
 have hl2:(Qa ds0).length<=536870912:=by
  have:(Qa ds0).length<=ds0.length:=by
   unfold Qa;rw[List.length_reverse];have:=(List.dropWhile_sublist (· ==0) (l:=ds0.reverse)).length_le;rw[List.length_reverse]at this;exact this
  omega
 have HD:=zq hds2;have HO:=zq hown;clear hds hds2 hown hl;go_enter Tryz.func152,Tryz.ntmps152;go_wp2_with fail;refine(Au B ds0 dv w HO.o).mono ?_;rintro e w' ⟨v,rfl,hov,rfl⟩;have hjp:∀e w',Bi ds0 w e w'=∃v,e=.returned v/\OwnW w.heap.size w' v (Jd (Qa ds0))/\Below w.heap.size w w':=fun _ _=>rfl;obtain⟨ds,hdd⟩:=xq (Qa ds0);rw[<-hdd]at hov hl2 HD;have HDD:=zq hdd;have HV:=zq hov;obtain⟨ao,cap,hdv,hnc,hcm,-⟩:=Qj hov;subst hdv;clear hov hcm hjp hdd;go_wp2_with (at_make;refine wpList_make_own _ rfl _ _ 59 rfl w.heap.size 101 i0 (.int .u64 0) 1 Tryz.underlying59 hi hz0 hz1 _ _ _ (ds.length / 4+1) rfl rfl ?hC ?b1 ?b2 ?b3 ?_)
 case hC=>omega
 case b1=>rw[hz2];omega
 case b2=>unfold maxLen;omega
 case b3=>exact Nat.le_refl _
 intro w1 hown1 hgrow1;have hb1:Below w.heap.size w w1:=Below.grown (Below.refl _ _) hgrow1 (Nat.le_refl _) (fun k hk=>by cases hk);have HOW:=zq hown1;have HB1:=zq hb1;clear hown1 hgrow1 hb1;go_wp2_with fail;go_loopw [3,4] (fun v i wr=>Qmv ds w w.heap.size v i wr) (fun _ i _=>ds.length+3-(intOf i).toNat)
 case atStart=>exact⟨0,[],rfl,by omega,rfl,HOW.o,HB1.o,Nat.le_refl _⟩
 case round=>
  obtain⟨k,acc,rfl,hk,hjn,hown,hb,hal⟩:=hrel;have HJN:=zq hjn;have HVR:Hid (OwnD B wr (.slice ao ds.length cap) ds):=Qh HV.o hb (Nat.le_refl _);have hzz:=hb.size;clear hjn;by_cases hlt:k<ds.length
  ·have hne:ds.drop k≠[]:=by rw[Ne,List.drop_eq_nil_iff];omega
   have HJ1:=zq (Rt hne);clear hne;go_wp2_with fail;go_loop [5,6] (fun wd kk=> ∃j:Nat,j<=4/\kk=.int .i64 ((j:Int)-1)/\wd=.int .u64 (valD ((ds.drop (k+j)).take (4-j)):Nat)) (fun _ kk=>(intOf kk+1).toNat)
   case atStart=>exact⟨4,Nat.le_refl _,by rfl,by simp[valD]⟩
   case round=>
    obtain⟨j,hj,rfl,rfl⟩:=hrel;by_cases hj0:0<j
    ·have hbd:=Qxd ds HD.o k j hj0
     have hi1:(0:Int)<=(k:Int)+((j:Int)-1):=by omega
     by_cases hin:k+(j-1)<ds.length
     ·obtain⟨d,hd⟩:∃d,ds[k+(j-1)]?=some d:=⟨_,List.getElem?_eq_getElem hin⟩
      have hd2:=HD.o d (List.mem_of_getElem? hd);have hst:=Qje (l:=ds) (i:=k) (j:=j-1) (by omega) hd;rw[show j-1+1=j from by omega]at hst;obtain⟨g,hao,hbg,hgs,e1⟩:=Qhq HVR.o _ d hd;subst hao
      have hi2:((k:Int)+((j:Int)-1)).toNat=k+(j-1):=by omega
      have hlt2:(k:Int)+((j:Int)-1)<(ds.length:Int):=by omega
      generalize valD ((ds.drop (k+j)).take (4-j))=X at*;have HST:=zq hst;clear hd hst;go_wp2_with fail
      exact⟨⟨j-1,by omega,by show Value.int .i64 _=_;congr 1;omega,by rw[HST.o];show Value.int .u64 _=_;congr 1;omega⟩,by simp[intOf]<;>omega⟩
     ·have hx0:valD ((ds.drop (k+j)).take (4-j))=0:=Cj (by omega)
      have HX1:=zq (Cj (l:=ds) (i:=k) (j:=j-1) (by omega))
      have hge: ¬(k:Int)+((j:Int)-1)<(ds.length:Int):=by omega
      rw[hx0]at*;have HX0:=zq hx0;clear hx0 hbd;go_wp2_with fail
      exact⟨⟨j-1,by omega,by show Value.int .i64 _=_;congr 1;omega,by rw[HX1.o];rfl⟩,by simp[intOf]<;>omega⟩
    ·obtain rfl:j=0:=by omega
     have hbw:=M4 ((ds.drop k).take 4) (fun d hd=>HD.o d (List.mem_of_mem_drop (List.mem_of_mem_take hd)));rw[Nat.add_zero,Nat.sub_zero];generalize hX:valD ((ds.drop k).take 4)=X at*;have HX:Hid (F6 (ds.drop k)=X):=hX;clear hX hbw;go_wp2_with (at_builtin;refine wpList_append_own _ rfl _ _ 59 rfl w.heap.size 101 i0 (.int .u64 0) 1 8 Tryz.underlying59 hi hz0 hz1 hz2 rfl (by decide) _ _ _ rfl (World.ownsRow.alloc hown _) ⟨wr.heap.size,0,none⟩ 1 1 [.int .u64 X] rfl rfl ?c1 ?c2 ?c3 ?c4 ?c5 ?_)
     case c2=>rfl
     case c3=>unfold maxLen;omega
     case c4=>omega
     case c5=>have:=HB1.o.size;simp;omega
     intro v3 w3 hown3 hgrow3 _
     have hfin:Qmv ds w w.heap.size v3 (.int .i64 (k+4)) w3:=by
      refine⟨k+4,acc++[X],by go_num,by omega,?_,?_,Below.grown (hb.alloc (by have:=HB1.o.size;omega) _) hgrow3 (by have:=HB1.o.size;simp;omega) (fun q hq=>(World.ownsRow.lt hown q hq).1),by simp;omega⟩
      ·rw[HJN.o,HJ1.o,HX.o,List.drop_drop];simp
      ·show World.ownsRow _ _ _ _ _ _ _
       rw[Hp,List.length_append];exact hown3
     have HF:=zq hfin;clear hown3 hgrow3 hfin;go_wp2_with fail
     first|exact⟨HF.o,by simp[intOf]<;>omega⟩|exact⟨by (repeat apply Exists.intro);exact⟨HF.o,rfl⟩,by simp[intOf]<;>omega⟩
  ·go_wp2_with fail
   go_ret;have h1:=HJN.o;rw[List.drop_of_length_le (by omega),Nh,List.append_nil]at h1;refine⟨_,rfl,?_,hb⟩;rw[<-HDD.o,h1];exact hown
theorem Qvo (j:Nat)(w:World)(hj:j<10):
  Calls Tryz.prog 194 #[.int .u8 ((48+j:Nat):Int)] w fun e w'=>e=.returned (.int .i64 (j:Nat))/\w=w':=by
 have h:j=0\/j=1\/j=2\/j=3\/j=4\/j=5\/j=6\/j=7\/j=8\/j=9:=by omega
 rcases h with rfl|rfl|rfl|rfl|rfl|rfl|rfl|rfl|rfl|rfl
 all_goals
  go_enter Tryz.func194,Tryz.ntmps194;go_wp2_with fail;refine wp_loop_rounds 10 ?_
  repeat (rw[rounds_succ];go_wp2_with fail)
  go_ret;exact⟨rfl,rfl⟩
def C7 (ds:List Nat)(w:World)(e:Ending)(w':World):Prop:=
 ∃v,e=.returned (.tuple #[v,.int .i64 0])/\OwnW w.heap.size w' v (Jd (Qa ds))/\Below w.heap.size w w'
def Qg6 (l:Qx)(w:World)(dv i:Value)(wr:World):Prop:=
 ∃k,k<=l.length/\i=.int .i64 (k:Nat)/\OwnD w.heap.size wr dv (numD (l.take k))/\Below w.heap.size w wr
theorem Qkm (s:ByteArray)(w:World)(hs:s.size<=1048576)(hne:s.toList.isEmpty=false)(hd:∀c∈s.data.toList,Qu c=true):
  Calls Tryz.prog 150 #[.string s,.int .i64 10] w (C7 (numD s.data.toList) w):=by
 have HD:=zq hd;have hsz:=zq (Lib.size_eq s);clear hd;go_enter Tryz.func150,Tryz.ntmps150;go_wp2_with fail;go_loopw [6,7] (fun dv i wr=>Qg6 s.data.toList w dv i wr) (fun _ i _=>s.size-(intOf i).toNat)
 case atStart=>exact⟨0,Nat.zero_le _,rfl,World.ownsRow_nil _ _ _ _,Below.refl _ _⟩
 case round=>
  obtain⟨k,hk,rfl,hown,hb⟩:=hrel;have hzz:=hb.size;rw[<-hsz.o]at hk;by_cases hlt:k<s.size
  ·have hlt':k<s.data.toList.length:=by have:=hsz.o;omega
   have e2:s.data.toList[k]=s[k]:=rfl;have hdk:=HD.o s.data.toList[k] (List.getElem_mem hlt');rw[e2]at hdk;obtain⟨j,hj,hjc⟩:∃j,j<10/\s[k].toNat=48+j:=⟨s[k].toNat-48,by simp[Qu]at hdk;omega,by simp[Qu]at hdk;omega⟩
   have HSN:Hid (numD (s.data.toList.take (k+1))=Y2 (numD (s.data.toList.take k)) 10 j):=by
    show _=_;rw[List.take_succ_eq_append_getElem hlt',Qve,e2,hjc];congr 1;omega
   have hln:=Hb (s.data.toList.take k)
   have hlt2:(numD (s.data.toList.take k)).length<=2097152:=by rw[List.length_take]at hln;omega
   have HSM:=zq (Rc (s.data.toList.take k));have HJC:=zq hjc;clear hdk e2 hln hjc;go_wp2_with fail;rw[HJC.o];refine(Qvo j _ hj).mono ?_;rintro e w' ⟨rfl,rfl⟩
   have hjge: ¬(10:Int)<=(j:Int):=by omega
   go_wp2_with fail;refine(Qw8 w.heap.size _ 10 j u6 wr hown hzz HSM.o (by omega) (by omega) hlt2).mono ?_;rintro e w2 ⟨v2,rfl,hown2,hb2⟩;have hfin:Qg6 s.data.toList w v2 (.int .i64 (k+1)) w2:=⟨k+1,by omega,by go_num,by rw[HSN.o];exact hown2,hb.trans hb2⟩;have HF:=zq hfin;clear hown2 hb2 hfin;go_wp2_with fail
   first|exact⟨HF.o,by simp[intOf]<;>omega⟩|exact⟨by (repeat apply Exists.intro);exact⟨HF.o,rfl⟩,by simp[intOf]<;>omega⟩
  ·have hkn:s.data.toList.take k=s.data.toList:=List.take_of_length_le (by have:=hsz.o;omega)
   rw[hkn]at hown;have hln:=Hb s.data.toList;rw[<-hsz.o]at hln;have HSM:=zq (Rc s.data.toList);go_wp2_with fail;refine(Ah w.heap.size _ u6 wr hown HSM.o (by omega)).mono ?_;rintro e w2 ⟨v2,rfl,hown2,hb2⟩;have HO2:Hid (OwnW w.heap.size w2 v2 (Jd (Qa (numD s.data.toList)))):=X4 hown2 hzz;have HB2:Hid (Below w.heap.size w w2):=hb.trans (hb2.mono hzz);clear hown2 hb2;go_wp2_with fail;go_ret2;exact⟨_,rfl,HO2.o,HB2.o⟩
end Go.Proofs.YtgfmiladfeoldaaGreatDoor
namespace LexP
open Go.Lib
def We (t:Qx)(i:Nat):Bool:=t[i]?==some 95 && (i==0||decide (t.length<=i+1)||t[i-1]?==some 95||t[i+1]?==some 95)
def Xr (t:Qx):Bool:=(List.range t.length).any (We t)
theorem Jj (t:Qx):Xr t=true↔ ∃i,i<t.length/\We t i=true:=by
 simp[Xr,List.any_eq_true]
theorem Dg (t:Qx)(j:Nat):occAt t [95,95] j=true↔t[j]?=some 95/\t[j+1]?=some 95:=by
 unfold occAt;rw[List.isPrefixOf_iff_prefix]
 have E:(t.drop j)[0]?=t[j]? :=by rw[List.getElem?_drop];rfl
 have h:(t.drop j)[1]?=t[j+1]? :=by rw[List.getElem?_drop]
 rw[<-E,<-h]
 match t.drop j with
 | []=>simp
 | [a]=>simp
 |a::b::r=>simp;constructor<;>(rintro ⟨rfl,rfl⟩;exact⟨rfl,rfl⟩)
theorem Et (t sub:Qx)(hs:sub≠[]):contains t sub=true↔ ∃j,occAt t sub j=true:=by
 unfold contains;rw[decide_eq_true_eq];constructor
 ·intro h
  apply Classical.byContradiction;intro O
  have:index t sub= -1:=index_none fun j _=>by
   cases ho:occAt t sub j with
   |false=>rfl
   |true=>exact absurd ⟨j,ho⟩ O
  omega
 ·rintro ⟨j,T⟩
  have I:∀n,(∃j,j<n/\occAt t sub j=true)-> ∃i,occAt t sub i=true/\ ∀k,k<i->occAt t sub k=false:=by
   intro n
   induction n with
   |zero=>rintro ⟨j,h,_⟩;omega
   |succ n ih=>
    rintro ⟨j,H,E⟩;by_cases h:∃j,j<n/\occAt t sub j=true
    ·exact ih h
    ·have J:j=n:=by
      apply Classical.byContradiction;intro U;exact h ⟨j,by omega,E⟩
     subst J;refine⟨j,E,fun k hk=> ?_⟩
     cases ho:occAt t sub k with
     |false=>rfl
     |true=>exact absurd ⟨k,hk,ho⟩ h
  obtain⟨i,H,E⟩:=I (j+1) ⟨j,by omega,T⟩
  have K:i<=t.length:=by
   rcases occAt_room H with h|h
   ·omega
   ·exact absurd h hs
  rw[index_first K H E];omega
theorem Qxe (t:Qx):hasSuffix t [95]=true↔ ∃i,t.length=i+1/\t[i]?=some 95:=by
 unfold hasSuffix;rw[List.isSuffixOf_iff_suffix];constructor
 ·rintro ⟨q,rfl⟩
  exact⟨q.length,by simp,by simp⟩
 ·rintro ⟨i,h,E⟩
  refine⟨t.take i,?_⟩;have:=List.take_add_one (l:=t) (i:=i);rw[E,<-h,List.take_length]at this;exact this.symm
theorem Rp {t:Qx}(h0:t[0]? ≠some 95):Ju t=Xr t:=by
 rw[Bool.eq_iff_iff,Jj];unfold Ju;rw[Bool.or_eq_true,Qxe,Et t [95,95] (by simp)];constructor
 ·rintro (⟨i,K,I⟩|⟨j,H⟩)
  ·have J:decide (t.length<=i+1)=true:=decide_eq_true (by omega)
   exact⟨i,by omega,by simp only[We,I,J,beq_self_eq_true,Bool.true_and,Bool.or_true,Bool.true_or]⟩
  ·rw[Dg]at H
   have:j<t.length:=(List.getElem?_eq_some_iff.1 H.1).1;exact⟨j,this,by simp only[We,H.1,H.2,beq_self_eq_true,Bool.true_and,Bool.or_true]⟩
 ·rintro ⟨i,K,I⟩
  simp only[We,Bool.and_eq_true,beq_iff_eq,Bool.or_eq_true,decide_eq_true_eq]at I;obtain⟨E,((h|h)|h)|h⟩:=I
  ·subst h;exact absurd E h0
  ·exact .inl ⟨i,by omega,E⟩
  ·have:i≠0:=by rintro rfl;exact h0 E
   exact .inr ⟨i-1,by rw[Dg];exact⟨h,by rw[show i-1+1=i from by omega];exact E⟩⟩
  ·exact .inr ⟨i,by rw[Dg];exact⟨E,h⟩⟩
def Je (t:Qx):Prop:=∀c∈t,NumP.Qu c=true\/c=95
end LexP
