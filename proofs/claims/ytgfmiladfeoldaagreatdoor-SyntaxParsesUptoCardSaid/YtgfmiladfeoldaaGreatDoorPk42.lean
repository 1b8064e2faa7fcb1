/- Joined texts of this claim's proof: RpB, RpC, RfN. -/
import Derived.Test.YtgfmiladfeoldaaGreatDoorPk1
import Derived.Test.YtgfmiladfeoldaaGreatDoorPk40
import Derived.Test.YtgfmiladfeoldaaGreatDoorPk41
import Derived.Test.YtgfmiladfeoldaaGreatDoorPk33
import Derived.Test.YtgfmiladfeoldaaGreatDoorPk28
set_option linter.unusedSimpArgs false
set_option linter.unusedVariables false
set_option maxRecDepth 100000
set_option maxHeartbeats 16000000
namespace Go.Proofs.YtgfmiladfeoldaaGreatDoor
open Go.RowKit NatP LexP
theorem Qqg (R:Nat)(tv:Value)(L:List Tok)(i:Nat)(x:RfP.RW)(o:RfP.Op)(w:World)(h:WRi w R tv L i x)(hx:x.stack=[o])(hk:o.kind=100):
  Calls Tryz.prog 74 #[.pointer (some ⟨R,0,none⟩),.int .i64 1] w fun e' w'=>e'=.returned (.tuple #[])/\Below w.heap.size w w':=by
 obtain⟨gs,scap,n,p,hp,hn,hns,hgR,hgl,c4,d0,d1,d2,-⟩:=h.top hx;simp only[List.length_nil]at hp;subst hp;subst hn;rw[hk]at d0;simp only[Nat.zero_mul,Nat.zero_add]at d0 d1 d2 c4 hns;obtain⟨T,hT⟩:=xq (⟨o.name.toArray⟩:ByteArray);rw[<-hT]at d1
 have hwp:IntKind.i64.wrap 0=0:=by decide
 have hn4:=World.new_ne w ⟨R,4,none⟩ c4;have hn0:=World.new_ne w ⟨gs,0,none⟩ d0;have hn1:=World.new_ne w ⟨gs,1,none⟩ d1;have hn2:=World.new_ne w ⟨gs,2,none⟩ d2;clear h hx hk hT;go_enter Tryz.func74,Tryz.ntmps74;go_wp2_with fail;go_loopw [] (fun wr=>wr=w) (fun _=>0)
 case atStart=>rfl
 case round=>
  subst hrel;go_wp2_with fail;go_region_held3 (fun w'=>w'.cell? ⟨R,4,none⟩=some (.slice (some ⟨gs,0,none⟩) 1 scap)/\w'.cell? ⟨gs,0,none⟩=some (.int .u8 100)/\w'.cell? ⟨gs,1,none⟩=some (.string T)/\w'.cell? ⟨gs,2,none⟩=some (.int .i64 (o.args:Nat))) (go_keep) (fail);go_wp2_with fail;refine(Tw 100 (by decide) _).mono ?_;rintro e w2 ⟨rfl,hw2⟩
  have hb2:Below wr.heap.size wr w2:=by rw[<-hw2];exact(Qq wr _).drew
  have HB2:=zq hb2;clear hw2 hb2;go_wp2_with fail;refine bodyPost_ret (results_none rfl _ _ _) rfl ?_;exact⟨rfl,HB2.o⟩
theorem Ry (R:Nat)(tv:Value)(L:List Tok)(i:Nat)(x:RfP.RW)(o:RfP.Op)(S:List RfP.Op)(w:World)(h:WRi w R tv L i x)(hx:x.stack.reverse=o::S)(hk:o.kind=100)(hb:SynP.Qo x.vals.reverse<=134217728):
  Calls Tryz.prog 75 #[.pointer (some ⟨R,0,none⟩)] w (FinP R tv L i x 12 x.vals.length o.name w):=by
 obtain⟨gs,n,scap,n1,n2,c4,g1,d0,d1,d2⟩:=h.low hx;have hRl:=h.lt;rw[hk]at d0;obtain⟨T,hT⟩:=xq (⟨o.name.toArray⟩:ByteArray);rw[<-hT]at d1
 have i1:(0:Int)<((n:Nat):Int):=by omega
 have hba:=Qq w (.cells #[.int .u8 100,.string T,.int .i64 (o.args:Nat)] 167)
 have HA:Hid (∀w5,Below w.heap.size w w5->Calls Tryz.prog 137 #[.pointer (some ⟨R,0,none⟩),.int .i64 12,.string T,.int .i64 (x.vals.length:Nat)] w5 (FinP R tv L i x 12 x.vals.length o.name w5)):=by
  intro w5 h5;have h9:=Qzo R tv L i x _ (h.below h5) 12 x.vals.length o.name (by decide) (Nat.le_refl _) hb;rw[<-hT]at h9;exact h9
 have HB:Hid (∀w5,Below w.heap.size w w5->Below R w w5):=fun w5 h5=>h5.mono (Nat.le_of_lt hRl);have hn0:=World.new_ne w ⟨gs,0,none⟩ d0
 obtain⟨vo,vcap,c3⟩:∃vo vcap,w.cell? ⟨R,3,none⟩=some (.slice vo x.vals.length vcap):=by
  obtain⟨nv,vv,sv,ns,h1,h2⟩:=h;obtain⟨_,_,_,c3,_⟩:=h1.cells;obtain⟨ao,cap,e,-⟩:=Qj h1.vlo;exact⟨ao,cap,by rw[c3,e,SynP.Jv,List.length_reverse]⟩
 have hn3:=World.new_ne w ⟨R,3,none⟩ c3;have HBA:=zq hba;obtain⟨m,hm⟩:=xq x.vals.length;rw[<-hm]at HA c3 ⊢;have e3:(w.alloc (.cells #[.int .u8 100,.string T,.int .i64 (o.args:Nat)] 167)).cell? ⟨R,3,none⟩=some (.slice vo m vcap):=(hba.cell (p:=⟨R,3,none⟩) hRl).trans c3;have HE3:=zq e3;clear h hx hk hb hT hba hm e3;go_enter Tryz.func75,Tryz.ntmps75;go_wp2_with fail;go_region_with ((go_at_call 137;refine(HA.o _ (by first|exact HBA.o.drew|exact HBA.o)).mono ?_;rintro e w1 ⟨rfl,hbw,hx⟩))
 all_goals
  have HF:Hid (FinP R tv L i x 12 m o.name w (.returned (.tuple #[])) w1):=⟨rfl,(HB.o _ (by first|exact HBA.o.drew|exact HBA.o)).trans hbw,hx⟩;clear hbw hx;go_end0;exact HF.o
def PaL (R:Nat)(tv:Value)(L:List Tok)(fin:Nat)(w1:World)(av ev:Value)(wr:World):Prop:=
 ∃a k:Nat,av=.int .i64 (a:Nat)/\ev=.int .i64 (k:Nat)/\Below R w1 wr/\
  ((k≠0/\RfP.Uz fin L=.error (SynP.Q7 fin (L.drop a),k))\/
     (k=0/\ ∃i x,WRi wr R tv L i x/\L.drop i=x.ts/\i<=L.length/\LoopOk x/\
      ((L.length=1/\x=RfP.N8 L/\RfP.Uz fin L=.ok (.cmd (SynP.Qm L) .nil))\/(L.length≠1/\RfP.Out fin x (RfP.Uz fin L)))))
def Qwu (L:List Tok)(R:Nat)(ev:Value)(w:World):Nat:=if intOf ev=0 then Qc L R w+1 else 0
theorem WRi.left {w:World}{R:Nat}{tv:Value}{L:List Tok}{i:Nat}{x:RfP.RW}(h:WRi w R tv L i x):Qc L R w=L.length-i:=by
 unfold Qc;rw[h.cells.2.1];simp[intOf]
def Qkd (R:Nat)(tv:Value)(L:List Tok)(i:Nat)(x:RfP.RW)(nn:SynP.Ln):Prop:=
 ∃(x2:RfP.RW) (op k:Nat) (name:Qx),
  (∀w5,WRi w5 R tv L i x->Calls Tryz.prog 74 #[.pointer (some ⟨R,0,none⟩),.int .i64 1] w5 fun e' w'=>e'=.returned (.tuple #[])/\Below R w5 w'/\WRi w' R tv L i x2)/\
  (∀w6,WRi w6 R tv L i x2->Calls Tryz.prog 75 #[.pointer (some ⟨R,0,none⟩)] w6 (FinP R tv L i x2 op k name w6))/\
  nn.flat=SynP.Y5 x2.vals.reverse 0++[⟨op,name,(SynP.Xm x2.vals.reverse 0).drop (x2.vals.length-k)⟩]
theorem Qxs {R:Nat}{tv:Value}{L:List Tok}{i:Nat}{x:RfP.RW}{nn:SynP.Ln}(h:LoopOk x)(hw:x.want=false)(hW:RfP.Bc x nn):Qkd R tv L i x nn:=by
 have H:=h.fine.len;rw[hw]at H;simp only[Bool.false_eq_true,if_false]at H;have Z:=h.wt;unfold RfP.wt at Z;obtain⟨o,S1,V,e1,e2,e3,e4,e5,e6⟩:=RfP.Zc (l:=1) (Nat.le_refl _) x.stack x.vals h.fine.bot H;obtain⟨o',V',I,h2⟩:=hW
 have hS:S1=[]/\o=o'/\V=V':=by
  rw[e1]at I
  injection I with h3 h4
  injection h3 with h3 K
  exact⟨K,h3,h4⟩
 obtain⟨rfl,rfl,rfl⟩:=hS
 have T:SynP.Qo V.reverse<=134217728:=by simp only[List.length_cons,List.length_nil]at e6;omega
 have U:=RfP.Qxc I ⟨o,V,I,h2⟩
 have E:∀w5,WRi w5 R tv L i x->Calls Tryz.prog 74 #[.pointer (some ⟨R,0,none⟩),.int .i64 1] w5 fun e' w'=>e'=.returned (.tuple #[])/\Below R w5 w'/\WRi w' R tv L i {x with stack:=[o],vals:=V}:=by
  intro w5 K;have:=Nj R tv L i x 1 134217728 w5 K (Nat.le_refl _) (by decide) h.fine.bot H (by omega) (Nat.le_refl _) (RfP.Hn _ h.fine.bot);rw[e1]at this;exact this
 rcases U with ⟨O,hv,J⟩|⟨O,J⟩
 ·exact⟨{x with stack:=[o],vals:=V},11,1,o.name,E,fun w6 h6=>Gp R tv L i _ o [] w6 h6 rfl O (by show 1<=V.length;omega) T,J⟩
 ·exact⟨{x with stack:=[o],vals:=V},12,V.length,o.name,E,fun w6 h6=>Ry R tv L i _ o [] w6 h6 rfl O T,J⟩
theorem Qvv {R:Nat}{tv:Value}{L:List Tok}{i:Nat}:Qkd R tv L i (RfP.N8 L) (.cmd (SynP.Qm L) .nil):=by
 refine⟨RfP.N8 L,12,0,SynP.Qm L,fun w5 h5=> ?_,fun w6 h6=>Ry R tv L i _ ⟨100,SynP.Qm L,0⟩ [] w6 h6 rfl rfl (Nat.zero_le _),rfl⟩;refine(Qqg R tv L i _ ⟨100,SynP.Qm L,0⟩ w5 h5 rfl rfl).mono ?_;rintro e' w' ⟨rfl,h⟩;exact⟨rfl,h.mono (Nat.le_of_lt h5.lt),h5.below h⟩
theorem Qvz (w:World):NdA (w.alloc (.cells #[.int .i64 14,.string ⟨#[]⟩,.slice none 0 0] 43)) (.slice (some ⟨w.heap.size,0,none⟩) 1 1) (SynP.nL SynP.Ln.nothing.flat):=by
 have h:∀o,(w.alloc (.cells #[.int .i64 14,.string ⟨#[]⟩,.slice none 0 0] 43)).cell? ⟨w.heap.size,o,none⟩=(#[Value.int .i64 14,.string ⟨#[]⟩,.slice none 0 0]:Array Value)[o]? :=fun o=>cell_of_row _ _ o _ _ _ (heap_alloc_new w _);refine⟨some ⟨w.heap.size,0,none⟩,1,rfl,Nat.le_refl _,by unfold maxLen;decide,fun j x hj=> ?_⟩
 have E:j=0:=by
  have:=(List.getElem?_eq_some_iff.1 hj).1;simp[SynP.nL,SynP.Ln.flat]at this;omega
 subst E
 have H:x=⟨14,[],[]⟩:=by
  simp[SynP.nL,SynP.Ln.flat]at hj;exact hj.symm
 subst H;refine⟨w.heap.size,0,rfl,by simp,(h 0).trans rfl,(h 1).trans rfl,.slice none 0 0,(h 2).trans rfl,none,0,rfl,Nat.le_refl _,by unfold maxLen;decide,fun j k hj=>by simp at hj⟩
theorem Qj7 (HDEC:DecC)(HMAT:MatC)(HCPX:CpxC)(s:ByteArray)(w:World)(hs:s.size<=1048576):
  Calls Tryz.prog 38 #[.string s] w (RPa s.data.toList w):=by
 have hs2:s.data.toList.length<=1048576:=by rw[<-Lib.size_eq];exact hs
 go_enter Tryz.func38,Tryz.ntmps38;go_wp2_with fail;refine(Qqt s _ hs).mono ?_;rintro e w1 ⟨v,rfl,h1,h2⟩
 cases hT:Toks 1 (Qz s.data.toList) with
 |error p=>
  obtain⟨c,k⟩:=p;have HV:=zq (SynP.H9 hT);have hk0:=(Pm _ _ _ hT).1;have H2:=zq h2;clear h1 h2 hT;have ec:(resCol (.error (c,k)):Nat)=c:=rfl;have ek:(resErr (.error (c,k)):Nat)=k:=rfl;rw[ec,ek];simp only at hk0
  have hkk:((k:Int) !=0)=true:=by simp;omega
  go_wp2_with fail;go_ret3;unfold RPa;rw[HV.o]
  exact⟨H2.o,rfl⟩
 |ok L=>
  have HT:=zq hT;have HTK:=zq (tksW hs2 hT)
  have h1':w1.ownsRow w.heap.size 119 3 v L.length (Xu L):=by rw[hT]at h1;exact h1
  have H1:=zq h1';obtain⟨ao,cap,rfl,-,-,-⟩:=Qj h1';have H2:=zq h2;have hcl:=SynP.Hh _ _ _ hT
  have HCL:Hid (Vz s.data.toList=((Qz s.data.toList).length,0)):=by show _=_;unfold Vz;rw[if_pos hcl]
  have hlen:=Yq s.data.toList;have hVL:=RfP.Dv hT;have HVL:=zq hVL;clear h1 h1' h2 hT hcl hVL;have ec:(resCol (.ok L):Nat)=0:=rfl;have ek:(resErr (.ok L):Nat)=0:=rfl;rw[ec,ek];go_wp2_with fail;refine(Bb s _ hs).mono ?_;rintro e w2 ⟨rfl,hw2⟩;subst hw2;rw[HCL.o];obtain⟨n,hn⟩:=xq ((Qz s.data.toList).length);rw[<-hn]at hlen HVL;simp only;rw[<-hn];have HN:=zq hn;clear hn;obtain⟨len,hln⟩:=xq L.length;by_cases hL0:L=[]
  ·have hl0:len=0:=by rw[hln,hL0];rfl
   subst hl0;rw[<-hln]
   have HVN:Hid (SynP.Y4 s.data.toList=.ok .nothing):=by
    show _=_;rw[HVL.o,hL0];rfl
   have HNA:=zq (Qvz w1);have HB:=zq (Qg H2.o (Qq w1 (.cells #[.int .i64 14,.string ⟨#[]⟩,.slice none 0 0] 43)));clear hL0 hln;go_wp2_with fail;go_ret3;unfold RPa;rw[HVN.o];exact⟨HB.o,_,rfl,HNA.o⟩
  ·have hlp:0<len:=by rw[hln];exact List.length_pos_iff.2 hL0
   have hlb:len<=1048576:=by rw[hln];exact HTK.o.len
   rw[<-hln];have HLN:=zq hln;have HL0:=zq hL0;obtain⟨R,hR⟩:=xq w1.heap.size;have HR:=zq hR
   obtain⟨g,rfl⟩:∃g,ao=some ⟨g,0,none⟩:=by
    obtain⟨ao',cap',e,_,_,a3⟩:=Qj H1.o
    cases e
    obtain⟨g,hg,-⟩:=a3 (by omega);exact⟨g,hg⟩
   have hal:=Qq w1 (.cells #[.slice (some ⟨g,0,none⟩) len cap,.int .i64 0,.slice none 0 0,.slice none 0 0,.slice none 0 0,.bool true,.bool false,.int .i64 0] 116);have HAL:=zq hal
   have htk:TkR w1 R (.slice (some ⟨g,0,none⟩) len cap) L:=by
    obtain⟨ao',cap',e,a1,a2,a3⟩:=Qj H1.o
    cases e
    rw[hln];refine⟨_,cap,rfl,a1,a2,fun h0=> ?_⟩;obtain⟨g',e,b1,b2,b3⟩:=a3 h0
    cases e
    refine⟨g,rfl,by rw[hR];exact b2,fun j t hj=> ?_⟩;have hjl:=(List.getElem?_eq_some_iff.1 hj).1;obtain⟨c1,c2,c3⟩:=Rn L j t hj;exact⟨by rw[b3 _ (by omega)];exact c1,by rw[b3 _ (by omega)];exact c2,by rw[b3 _ (by omega),c3]⟩
   have HTKR:=zq htk
   have HWR:Hid (WRi (w1.alloc (.cells #[.slice (some ⟨g,0,none⟩) len cap,.int .i64 0,.slice none 0 0,.slice none 0 0,.slice none 0 0,.bool true,.bool false,.int .i64 0] 116)) R (.slice (some ⟨g,0,none⟩) L.length cap) L 0 ⟨L,[],[],true,false,0⟩):=by
    show WRi _ _ _ _ _ _;rw[<-hln];refine⟨.slice none 0 0,.slice none 0 0,.slice none 0 0,[],?_,rfl⟩
    exact {
     blk:=(by rw[hR];exact heap_alloc_new w1 _)
     tks:=htk.low fun k hk=>hal.block k (by omega)
     ndo:=World.ownsRow_nil _ _ _ _
     vlo:=World.ownsRow_nil _ _ _ _
     sto:=World.ownsRow_nil _ _ _ _
     kids:=(fun p hp=>by cases hp)
     kap:=(fun p hp=>by cases hp)
     nap:=(fun q hq=>by cases hq)
     vap:=(fun q hq=>by cases hq)}
   have hBG:=Qw1 R g cap L (n+1) _ HWR.o hL0;rw[<-hln]at hBG;have HBG:=zq hBG;have HLO:=zq (RfP.Qwc (fin:=n+1) hL0);obtain⟨tv,htv⟩:=xq (Value.slice (some ⟨g,0,none⟩) len cap);have HTV:=zq htv;clear hL0 hln hal htk hBG htv hR;go_wp2_with fail;rw[<-HR.o];refine HBG.o.mono ?_;rintro e w3 ⟨hb3,hm⟩
   have HST:∃a k:Nat,e=.returned (.tuple #[.int .i64 (a:Nat),.int .i64 (k:Nat)])/\Hid (PaL R tv L (n+1) w1 (.int .i64 (a:Nat)) (.int .i64 (k:Nat)) w3):=by
    have hb:Below R w1 w3:=(HAL.o.mono (by rw[HR.o];exact Nat.le_refl _)).trans hb3;have hlo:=HLO.o
    cases hbg:RfP.Yh (n+1) L with
    |error p=>
     obtain⟨c,k⟩:=p;rw[hbg]at hm hlo;obtain⟨a,rfl,rfl,hk⟩:=hm
     exact⟨a,k,rfl,a,k,rfl,rfl,hb,.inl ⟨hk,hlo⟩⟩
    |ok x=>
     rw[hbg]at hm hlo;obtain⟨rfl,i,hw,hd,hi⟩:=hm;obtain⟨f1,f2,f3,-⟩:=RfP.Qxo hbg;refine⟨0,0,rfl,0,0,rfl,rfl,hb,.inr ⟨rfl,i,x,by rw[HTV.o];exact hw,hd,hi,⟨f1,by have:=HLN.o;omega,by rw[f3];omega⟩,hlo⟩⟩
   obtain⟨a0,k0,rfl,HST⟩:=HST;clear hb3 hm;go_wp2_with fail;go_loopw [7,11] (fun ev av wr=>PaL R tv L (n+1) w1 av ev wr) (fun ev _ wr=>Qwu L R ev wr)
   case atStart=>exact HST.o
   case round=>
    obtain⟨a,k,rfl,rfl,hb,hrel⟩:=hrel;have HB:=zq hb;have HBW:Hid (Below w.heap.size w wr):=H2.o.trans (hb.mono (by rw[HR.o];exact H2.o.size))
    have htr:TkR wr R tv L:=by rw[HTV.o];exact HTKR.o.low fun q hq=>hb.block q hq
    have HTR:=zq htr;rcases hrel with ⟨hk0,hres⟩|⟨rfl,i,x,hw,hd,hi,hlo,hout⟩
    ·have HRES:=zq hres
     have hkk:(((k:Nat):Int)==0)=false:=by simp;omega
     have hkk2:(((k:Nat):Int) !=0)=true:=by simp;omega
     by_cases hal:len<=a
     ·have HVE:Hid (SynP.Y4 s.data.toList=.error (n+1,k)):=by
       show _=_;rw[HVL.o,HRES.o,List.drop_eq_nil_of_le (by have:=HLN.o;omega)];rfl
      clear hres hb htr hk0;go_wp2_with fail;go_ret3;unfold RPa;rw[HVE.o];exact⟨HBW.o,rfl⟩
     ·obtain⟨t,ht⟩:∃t,L[a]?=some t:=⟨_,List.getElem?_eq_getElem (by have:=HLN.o;omega)⟩
      have HVE:Hid (SynP.Y4 s.data.toList=.error (t.2.2,k)):=by
       show _=_;rw[HVL.o,HRES.o]
       have e1:L.drop a=t::L.drop (a+1):=by
        have hl:=(List.getElem?_eq_some_iff.1 ht).1;rw[List.drop_eq_getElem_cons hl];congr 1;have:=List.getElem?_eq_getElem hl;rw[ht]at this;exact(Option.some.inj this).symm
       rw[e1];rfl
      obtain⟨-,-,d2⟩:wr.cell? ⟨g,a*3,none⟩=some (.int .i64 (t.1:Nat))/\wr.cell? ⟨g,a*3+1,none⟩=some (.string ⟨t.2.1.toArray⟩)/\wr.cell? ⟨g,a*3+2,none⟩=some (.int .i64 (t.2.2:Nat)):=by
       rw[HTV.o]at htr;obtain⟨ao',cap',e,_,_,a3⟩:=htr;obtain⟨g',e2,_,b3⟩:=a3 (by have:=HLN.o;omega);simp only[Value.slice.injEq]at e;obtain⟨e3,-,-⟩:=e;rw[<-e3]at e2
       cases e2
       exact b3 a t ht
      have hal2:a<len:=by omega
      clear hres hb htr hk0 ht;go_wp2_with fail;go_region;go_wp2_with fail;go_ret3;unfold RPa;rw[HVE.o];exact⟨HBW.o.drew,rfl⟩
    ·have HW:=zq hw
     have HD:=zq hd;have HLO2:=zq hlo;have HOUT:=zq hout;have HI:=zq hi;have hRl:=hw.lt;obtain⟨c0,c1,c5,c6,c7,-⟩:=hw.cells;rw[<-HLN.o]at hi;by_cases hil:i<len
     ·have hne:x.ts≠[]:=by
       rw[<-HD.o];intro h;rw[List.drop_eq_nil_iff]at h;have:=HLN.o;omega
      have HSF:=zq (Qv8 HDEC HMAT HCPX R tv L (n+1) i x wr HW.o HLO2.o HD.o (by rw[<-HLN.o];exact hil) (by rw[<-HLN.o];omega) HTK.o.num HTK.o.kind);have HNE:=zq hne;have HLF:Hid (Qc L R wr=L.length-i):=HW.o.left;clear hw hd hlo hout hb htr hne;go_wp2_with fail;refine HSF.o.mono ?_;rintro e w4 ⟨hb4,hm⟩;have HB4:=zq (HB.o.trans hb4)
      cases hst:RfP.step (n+1) x with
      |error p=>
       obtain⟨c,k⟩:=p;rw[hst]at hm;obtain⟨a2,rfl,rfl,hk⟩:=hm
       have hres:RfP.Uz (n+1) L=.error (SynP.Q7 (n+1) (L.drop a2),k):=by
        rcases HOUT.o with ⟨h1,h2,-⟩|⟨-,h2⟩
        ·exfalso
         rw[h2]at HNE;exact HNE.o rfl
        ·rcases h2.step HNE.o with ⟨x',h3,-⟩|⟨e,h3,h4⟩
         ·rw[hst]at h3;cases h3
         ·rw[hst]at h3
          cases h3
          exact h4
       have HFIN:Hid (PaL R tv L (n+1) w1 (.int .i64 (a2:Nat)) (.int .i64 (k:Nat)) w4):=⟨a2,k,rfl,rfl,HB4.o,.inl ⟨hk,hres⟩⟩
       have hkz:Hid (intOf (.int .i64 (k:Nat))≠0):=by show intOf _≠0;simp[intOf];exact hk
       clear hb4 hst hk hres;go_wp2_with fail
       exact⟨HFIN.o,by unfold Qwu;rw[if_neg hkz.o,if_pos (by simp[intOf])];omega⟩
      |ok x'=>
       rw[hst]at hm;obtain⟨rfl,i',hw',hd',hi'⟩:=hm;obtain⟨q1,q2⟩:=HLO2.o.step hst
       have hii:L.length-i'<L.length-i:=by
        have h1:=congrArg List.length hd';have h2:=congrArg List.length HD.o;rw[List.length_drop]at h1 h2;omega
       have hout':(L.length=1/\x'=RfP.N8 L/\RfP.Uz (n+1) L=.ok (.cmd (SynP.Qm L) .nil))\/(L.length≠1/\RfP.Out (n+1) x' (RfP.Uz (n+1) L)):=by
        rcases HOUT.o with ⟨h1,h2,-⟩|⟨h1,h2⟩
        ·exfalso
         rw[h2]at HNE;exact HNE.o rfl
        ·rcases h2.step HNE.o with ⟨x3,h3,h4⟩|⟨e,h3,h4⟩
         ·rw[hst]at h3
          cases h3
          exact .inr ⟨h1,h4⟩
         ·rw[hst]at h3;cases h3
       have HFIN:Hid (PaL R tv L (n+1) w1 (.int .i64 0) (.int .i64 0) w4):=⟨0,0,rfl,rfl,HB4.o,.inr ⟨rfl,i',x',hw',hd',hi',q1,hout'⟩⟩;have HLF4:Hid (Qc L R w4=L.length-i'):=hw'.left;have HII:=zq hii;clear hb4 hst hw' hd' hi' q1 q2 hii hout';go_wp2_with fail;exact⟨HFIN.o,by unfold Qwu;rw[if_pos (by simp[intOf]),if_pos (by simp[intOf]),HLF4.o,HLF.o];have:=HII.o;omega⟩
     ·have hie:L.length<=i:=by have:=HLN.o;omega
      have hxt:x.ts=[]:=by rw[<-HD.o];exact List.drop_eq_nil_of_le hie
      have hB26:∀w5,Below R w1 w5->Below w.heap.size w w5:=fun w5 h5=>H2.o.trans (h5.mono (by rw[HR.o];exact H2.o.size));have HB26:=zq hB26;have HC:=HOUT.o
      have TAIL:∀nn,RfP.Uz (n+1) L=.ok nn->(SynP.Y4 s.data.toList=if 4096<nn.size then .error (1,5) else .ok nn):=by
       intro nn h;rw[HVL.o,h]
      have HTAIL:=zq TAIL;rcases HC with ⟨hl1,hxb,hres⟩|⟨hl1,hO⟩
      ·subst hxb
       have HT2:=zq (Qvv (R:=R) (tv:=tv) (L:=L) (i:=i));have HTT:=zq (TAIL _ hres);obtain⟨nn,hnn⟩:=xq (SynP.Ln.cmd (SynP.Qm L) .nil);rw[<-hnn]at HT2 HTT;have hd7:(RfP.N8 L).depth=0:=rfl;have hw5:(RfP.N8 L).want=true:=rfl;rw[hd7]at c7;rw[hw5]at c5;have HBA:=zq (Qx7 R tv L i _ ⟨100,SynP.Qm L,0⟩ [] wr HW.o rfl)
       have hbr:(decide (L.length=1) && decide ((100:Nat)=100))=true:=by rw[hl1];rfl
       have HBR:=zq hbr;clear hw hd hlo hout hb htr hxt hnn hd7 hw5 hB26 TAIL hres HOUT HLO2 hbr;go_wp2_with fail;refine HBA.o.mono ?_;rintro e w5 ⟨rfl,hb5⟩;simp only[HBR.o];have HWc:=zq (HW.o.below hb5);have HBc:Hid (Below R w1 w5):=HB.o.trans (hb5.mono (Nat.le_of_lt hRl));clear hb5 c0 c1 c5 c6 c7;have c7:w5.cell? ⟨R,7,none⟩=some (.int .i64 0):=HWc.o.cells.2.2.2.2.1;obtain⟨x2,op,k,name,t1,t2,t3⟩:=HT2.o;have HRD:=zq (t1 _ HWc.o);have HFN:=zq t2;have HFL:=zq t3;clear t1 t2 t3;go_wp2_with fail;refine HRD.o.mono ?_;rintro e w6 ⟨rfl,hb6,hw6⟩;have HB6:=zq (HBc.o.trans hb6);have HF6:=zq (HFN.o w6 hw6);clear hb6 hw6;go_wp2_with fail;refine HF6.o.mono ?_;rintro e w7 ⟨rfl,hb7,nv,vv,sv,ns,vs,hm7,hfl7⟩;have HB7:=zq (HB6.o.trans hb7)
       have hfl8:ns.map Prod.fst=nn.flat:=by rw[hfl7,HFL.o]
       have hns:ns.length=nn.size:=by rw[<-Mi,<-hfl8,List.length_map]
       obtain⟨-,-,d2,-⟩:=hm7.cells;obtain⟨no,ncap,hnv,-⟩:=Qj hm7.ndo;have hna:=hm7.ndl;rw[hfl8,hnv,hns]at hna;rw[hnv,hns]at d2;have HNA:=zq (hna.nda (Nat.le_refl _));obtain⟨sz,hsz⟩:=xq nn.size;rw[<-hsz]at d2 HNA HTT;clear hm7 hfl7 hfl8 hns hnv hna hb7 hsz;by_cases h4:4096<sz
       ·have hd:decide ((4096:Int)<((sz:Nat):Int))=true:=decide_eq_true (by omega)
        have HV:Hid (SynP.Y4 s.data.toList=.error (1,5)):=by show _=_;rw[HTT.o,if_pos h4]
        go_wp2_with fail;go_ret3;unfold RPa;rw[HV.o];exact⟨HB26.o _ HB7.o,rfl⟩
       ·have hd:decide ((4096:Int)<((sz:Nat):Int))=false:=decide_eq_false (by omega)
        have HV:Hid (SynP.Y4 s.data.toList=.ok nn):=by show _=_;rw[HTT.o,if_neg h4]
        go_wp2_with fail;go_ret3;unfold RPa;rw[HV.o];exact⟨HB26.o _ HB7.o,_,rfl,HNA.o⟩
      ·rcases hO.fin hxt with ⟨hwd,hres⟩|⟨hwf,hdf,nn,hres,hW⟩
       ·have HVE:Hid (SynP.Y4 s.data.toList=.error (n+1,14)):=by
         show _=_;rw[HVL.o,hres]
        by_cases hwt:x.want=true
        ·obtain⟨o,S,hoS⟩:∃o S,x.stack.reverse=o::S:=by
          cases h:x.stack.reverse with
          |nil=>exact absurd (List.reverse_eq_nil_iff.1 h) HLO2.o.fine.bot.ne
          |cons o S=>exact⟨o,S,rfl⟩
         have HBA:=zq (Qx7 R tv L i x o S wr HW.o hoS)
         have hbr:(decide (L.length=1) && decide (o.kind=100))=false:=by rw[decide_eq_false hl1];rfl
         have HBR:=zq hbr;rw[hwt]at c5;clear hw hd hlo hout hb htr hO hxt hwd hwt hoS hB26 TAIL hres HOUT hbr;go_wp2_with fail;refine HBA.o.mono ?_;rintro e w5 ⟨rfl,hb5⟩;simp only[HBR.o];have HBc:Hid (Below R w1 w5):=HB.o.trans (hb5.mono (Nat.le_of_lt hRl));clear hb5 c0 c1 c5 c6 c7;go_wp2_with fail;go_ret3;unfold RPa;rw[HVE.o];exact⟨HB26.o _ HBc.o,rfl⟩
        ·have hwf:x.want=false:=by simpa using hwt
         have hdp:0<x.depth:=by
          rcases hwd with h|h
          ·exact absurd h hwt
          ·omega
         have hdp2:(0:Int)<((x.depth:Nat):Int):=by omega
         rw[hwf]at c5;clear hw hd hlo hout hb htr hO hxt hwd hwt hB26 TAIL hres HOUT;go_wp2_with fail;go_ret3;unfold RPa;rw[HVE.o];exact⟨HBW.o,rfl⟩
       ·have HT2:=zq (Qxs (R:=R) (tv:=tv) (L:=L) (i:=i) HLO2.o hwf hW)
        have HTT:=zq (TAIL _ hres);have HWc:=HW;have HBc:=HB;rw[hwf]at c5;rw[hdf]at c7;clear hw hd hlo hout hb htr hO hxt hwf hdf hW hB26 TAIL hres HOUT;obtain⟨x2,op,k,name,t1,t2,t3⟩:=HT2.o;have HRD:=zq (t1 _ HWc.o);have HFN:=zq t2;have HFL:=zq t3;clear t1 t2 t3;go_wp2_with fail;refine HRD.o.mono ?_;rintro e w6 ⟨rfl,hb6,hw6⟩;have HB6:=zq (HBc.o.trans hb6);have HF6:=zq (HFN.o w6 hw6);clear hb6 hw6;go_wp2_with fail;refine HF6.o.mono ?_;rintro e w7 ⟨rfl,hb7,nv,vv,sv,ns,vs,hm7,hfl7⟩;have HB7:=zq (HB6.o.trans hb7)
        have hfl8:ns.map Prod.fst=nn.flat:=by rw[hfl7,HFL.o]
        have hns:ns.length=nn.size:=by rw[<-Mi,<-hfl8,List.length_map]
        obtain⟨-,-,d2,-⟩:=hm7.cells;obtain⟨no,ncap,hnv,-⟩:=Qj hm7.ndo;have hna:=hm7.ndl;rw[hfl8,hnv,hns]at hna;rw[hnv,hns]at d2;have HNA:=zq (hna.nda (Nat.le_refl _));obtain⟨sz,hsz⟩:=xq nn.size;rw[<-hsz]at d2 HNA HTT;clear hm7 hfl7 hfl8 hns hnv hna hb7 hsz;by_cases h4:4096<sz
        ·have hd:decide ((4096:Int)<((sz:Nat):Int))=true:=decide_eq_true (by omega)
         have HV:Hid (SynP.Y4 s.data.toList=.error (1,5)):=by show _=_;rw[HTT.o,if_pos h4]
         go_wp2_with fail;go_ret3;unfold RPa;rw[HV.o];exact⟨HB26.o _ HB7.o,rfl⟩
        ·have hd:decide ((4096:Int)<((sz:Nat):Int))=false:=decide_eq_false (by omega)
         have HV:Hid (SynP.Y4 s.data.toList=.ok nn):=by show _=_;rw[HTT.o,if_neg h4]
         go_wp2_with fail;go_ret3;unfold RPa;rw[HV.o];exact⟨HB26.o _ HB7.o,_,rfl,HNA.o⟩
end Go.Proofs.YtgfmiladfeoldaaGreatDoor
namespace RfP
open SynP LexP
def Ps (fin f:Nat)(lens:List Nat)(r:Nat×List (Bool×Nat))(s:St):PR (List (Bool×Nat)×List Nat):=
 if Qv [93] s.ts then ret (r.2,lens++[r.1]) s.adv
 else (want fin [59] s).bind fun _ s=>entries fin f r.2 (lens++[r.1]) s
def Fh (fin f g:Nat)(rows:List (List (Bool×Nat)))(cur:List (Bool×Nat))(s:St):PR (List (Bool×Nat)×List Nat):=
 (Q9 fin g cur.length (rows.flatten++cur) s).bind (Ps fin f (rows.map List.length))
abbrev EntR:=Except (Nat×Nat) ((List (Bool×Nat)×List Nat)×St)
def Us (fin:Nat)(rows:List (List (Bool×Nat)))(cur:List (Bool×Nat))(s:St)(r:EntR):Prop:=∃f g,Fh fin f g rows cur s=some r
theorem Qj9 {fin f:Nat}{s:St}{r:EntR}(h:entries fin f [] [] s=some r):Us fin [] [] s r:=by
 cases f with
 |zero=>cases h
 |succ f=>exact⟨f,f,h⟩
def Ya (s:St):St:=if Qv [45] s.ts then s.adv else s
theorem Qzw {fin g n:Nat}{acc:List (Bool×Nat)}{s:St}(h:(n=0||Qv [45] s.ts||Qy 1 s.ts)=true):
  Q9 fin (g+1) n acc s=(Qi fin (Ya s)).bind fun m s'=>Q9 fin g (n+1) (acc++[(Qv [45] s.ts && decide (0<m),m)]) s':=by
 conv=>lhs;unfold Q9
 rw[if_pos h];rfl
theorem Qpy {fin:Nat}{rows:List (List (Bool×Nat))}{cur:List (Bool×Nat)}{s:St}{r:EntR}(h:Us fin rows cur s r)(hk:Qy 1 (Ya s).ts=true):
  Us fin rows (cur++[(Qv [45] s.ts && decide (0<Xx (Qm (Ya s).ts)),Xx (Qm (Ya s).ts))]) (Ya s).adv r:=by
 obtain⟨f,g,h⟩:=h
 cases g with
 |zero=>cases h
 |succ g=>
  have E:(cur.length=0||Qv [45] s.ts||Qy 1 s.ts)=true:=by
   cases hm:Qv [45] s.ts with
   |true=>simp
   |false=>
    have e:Ya s=s:=by unfold Ya;rw[hm];rfl
    rw[e]at hk;rw[hk];simp
  unfold Fh at h;rw[Qzw E]at h;unfold Qi at h;rw[if_pos hk]at h;refine⟨f,g,?_⟩;unfold Fh;rw[List.length_append,List.length_singleton,<-List.append_assoc];exact h
theorem Qpd {fin:Nat}{rows:List (List (Bool×Nat))}{cur:List (Bool×Nat)}{s:St}{r:EntR}(h:Us fin rows cur s r)(hk:Qy 1 (Ya s).ts=false)(hn:Qv [45] s.ts=true\/cur=[]):
  r=.error (Q7 fin (Ya s).ts,14):=by
 obtain⟨f,g,h⟩:=h
 cases g with
 |zero=>cases h
 |succ g=>
  have E:(cur.length=0||Qv [45] s.ts||Qy 1 s.ts)=true:=by
   rcases hn with h|rfl
   ·rw[h];simp
   ·simp
  unfold Fh at h;rw[Qzw E]at h;unfold Qi at h;rw[if_neg (by rw[hk];decide)]at h
  cases h
  rfl
theorem Hc {fin:Nat}{rows:List (List (Bool×Nat))}{cur:List (Bool×Nat)}{s:St}{r:EntR}(h:Us fin rows cur s r)(hm:Qv [45] s.ts=false)(hk:Qy 1 s.ts=false)(hn:cur≠[]):
  ∃f,Ps fin f (rows.map List.length) (cur.length,rows.flatten++cur) s=some r:=by
 obtain⟨f,g,h⟩:=h
 cases g with
 |zero=>cases h
 |succ g=>
  refine⟨f,?_⟩;unfold Fh at h
  have e:Q9 fin (g+1) cur.length (rows.flatten++cur) s=ret (cur.length,rows.flatten++cur) s:=by
   unfold Q9;rw[if_neg (by rw[hm,hk];simpa using hn)]
  rw[e]at h;exact h
theorem Qpg {fin:Nat}{rows:List (List (Bool×Nat))}{cur:List (Bool×Nat)}{s:St}{r:EntR}(h:Us fin rows cur s r)(hm:Qv [45] s.ts=false)(hk:Qy 1 s.ts=false)(hn:cur≠[])(he:Qv [93] s.ts=true):
  r=.ok (((rows++[cur]).flatten,(rows++[cur]).map List.length),s.adv):=by
 obtain⟨f,h⟩:=Hc h hm hk hn;unfold Ps at h;rw[if_pos he]at h
 cases h
 simp
theorem Be {x y:Qx}{ts:List Tok}(h:Qv x ts=true)(hne:x≠y):Qv y ts=false:=by
 unfold Qv at h ⊢;split at h
 ·simp only[Bool.and_eq_true,beq_iff_eq]at h
  obtain⟨-,rfl⟩:=h;simp[hne]
 ·cases h
theorem Qwe {fin:Nat}{rows:List (List (Bool×Nat))}{cur:List (Bool×Nat)}{s:St}{r:EntR}(h:Us fin rows cur s r)(hm:Qv [45] s.ts=false)(hk:Qy 1 s.ts=false)(hn:cur≠[])(he:Qv [59] s.ts=true):
  Us fin (rows++[cur]) [] s.adv r:=by
 obtain⟨f,h⟩:=Hc h hm hk hn;unfold Ps at h;rw[if_neg (by rw[Be he (by decide)];decide)]at h;unfold want at h;rw[if_pos he]at h;simp only[Yj]at h
 cases f with
 |zero=>cases h
 |succ f=>
  refine⟨f,f,?_⟩;unfold entries at h;unfold Fh;simp only[List.length_nil,List.append_nil,List.flatten_append,List.map_append,List.flatten_cons,List.flatten_nil,List.map_cons,List.map_nil];exact h
theorem Qyk {fin:Nat}{rows:List (List (Bool×Nat))}{cur:List (Bool×Nat)}{s:St}{r:EntR}(h:Us fin rows cur s r)(hm:Qv [45] s.ts=false)(hk:Qy 1 s.ts=false)(hn:cur≠[])(he:Qv [93] s.ts=false)(he2:Qv [59] s.ts=false):
  r=.error (Q7 fin s.ts,14):=by
 obtain⟨f,h⟩:=Hc h hm hk hn;unfold Ps at h;rw[if_neg (by rw[he];decide)]at h;unfold want at h;rw[if_neg (by rw[he2];decide)]at h
 cases h
 rfl
def Pq (fin f:Nat)(acc:List (List Nat))(x:List Nat)(s:St):PR (List (List Nat)):=
 if Qv [125] s.ts then ret (acc++[x]) s.adv
 else (want fin [44] s).bind fun _ s=>Xa fin f (acc++[x]) s
abbrev CpxR:=Except (Nat×Nat) (List (List Nat)×St)
def Jc (fin:Nat)(acc:List (List Nat))(cur:List Nat)(s:St)(r:CpxR):Prop:=
 if cur=[] then ∃f,Xa fin f acc s=some r else ∃f g,(X0 fin g cur s).bind (Pq fin f acc)=some r
theorem Qpl {fin:Nat}{acc:List (List Nat)}{cur:List Nat}{s:St}{r:CpxR}(h:Jc fin acc cur s r)(hk:Qy 1 s.ts=true):Jc fin acc (cur++[Xx (Qm s.ts)]) s.adv r:=by
 unfold Jc;rw[if_neg (by simp)];by_cases hc:cur=[]
 ·unfold Jc at h
  rw[if_pos hc]at h;obtain⟨f,h⟩:=h
  cases f with
  |zero=>cases h
  |succ f=>
   unfold Xa Qi at h;rw[if_pos hk]at h;rw[hc];exact⟨f,f,h⟩
 ·unfold Jc at h
  rw[if_neg hc]at h;obtain⟨f,g,h⟩:=h
  cases g with
  |zero=>cases h
  |succ g=>
   unfold X0 Qi at h;rw[if_pos hk,if_pos hk]at h;exact⟨f,g,h⟩
theorem Qg0 {fin:Nat}{acc:List (List Nat)}{s:St}{r:CpxR}(h:Jc fin acc [] s r)(hk:Qy 1 s.ts=false):r=.error (Q7 fin s.ts,14):=by
 unfold Jc at h;rw[if_pos rfl]at h;obtain⟨f,h⟩:=h
 cases f with
 |zero=>cases h
 |succ f=>
  unfold Xa Qi at h;rw[if_neg (by rw[hk];decide)]at h
  cases h
  rfl
theorem Ki {fin:Nat}{acc:List (List Nat)}{cur:List Nat}{s:St}{r:CpxR}(h:Jc fin acc cur s r)(hk:Qy 1 s.ts=false)(hc:cur≠[]):∃f,Pq fin f acc cur s=some r:=by
 unfold Jc at h;rw[if_neg hc]at h;obtain⟨f,g,h⟩:=h
 cases g with
 |zero=>cases h
 |succ g=>
  refine⟨f,?_⟩;unfold X0 at h;rw[if_neg (by rw[hk];decide)]at h;exact h
theorem Qpe {fin:Nat}{acc:List (List Nat)}{cur:List Nat}{s:St}{r:CpxR}(h:Jc fin acc cur s r)(hk:Qy 1 s.ts=false)(hc:cur≠[])(he:Qv [125] s.ts=true):r=.ok (acc++[cur],s.adv):=by
 obtain⟨f,h⟩:=Ki h hk hc;unfold Pq at h;rw[if_pos he]at h
 cases h;rfl
theorem Qyc {fin:Nat}{acc:List (List Nat)}{cur:List Nat}{s:St}{r:CpxR}(h:Jc fin acc cur s r)(hk:Qy 1 s.ts=false)(hc:cur≠[])(he:Qv [44] s.ts=true):Jc fin (acc++[cur]) [] s.adv r:=by
 obtain⟨f,h⟩:=Ki h hk hc;unfold Pq at h;rw[if_neg (by rw[Be he (by decide)];decide)]at h;unfold want at h;rw[if_pos he]at h;unfold Jc;rw[if_pos rfl];exact⟨f,h⟩
theorem Qw2 {fin:Nat}{acc:List (List Nat)}{cur:List Nat}{s:St}{r:CpxR}(h:Jc fin acc cur s r)(hk:Qy 1 s.ts=false)(hc:cur≠[])(he:Qv [125] s.ts=false)(he2:Qv [44] s.ts=false):r=.error (Q7 fin s.ts,14):=by
 obtain⟨f,h⟩:=Ki h hk hc;unfold Pq at h;rw[if_neg (by rw[he];decide)]at h;unfold want at h;rw[if_neg (by rw[he2];decide)]at h
 cases h;rfl
theorem U2 (sep:Qx):∀(l:List Qx) (a:Qx),Q8 sep (l++[a])=l.flatMap (· ++sep)++a
 | [],a=>rfl
 | [b],a=>by simp[Q8]
 |b::c::l,a=>by
  have ih:=U2 sep (c::l) a;show b++sep++Q8 sep (c::l++[a])=_;rw[ih];simp
theorem Qxg (sep:Qx)(l:List Qx)(a:Qx):Q8 sep (l++[a])=Q8 sep l++(if l=[] then [] else sep)++a:=by
 rcases l.eq_nil_or_concat with rfl|⟨l',b,rfl⟩
 ·rfl
 ·rw[List.concat_eq_append,U2,U2,if_neg (by simp)]
  simp
def Xc (acc:List (List Nat))(cur:List Nat):Qx:=[123]++(acc.map fun x=>Q8 [32] (x.map decT)).flatMap (· ++[44,32])++Q8 [32] (cur.map decT)
theorem Qq4 (acc:List (List Nat))(cur:List Nat)(n:Nat):Xc acc (cur++[n])=Xc acc cur++((if cur=[] then [] else [32])++decT n):=by
 unfold Xc;rw[List.map_append,List.map_singleton,Qxg];by_cases h:cur=[]
 ·rw[if_pos h,if_pos (by rw[h];rfl)];simp
 ·rw[if_neg h,if_neg (by simpa using h)];simp
theorem N5 (acc:List (List Nat))(cur:List Nat):Xc (acc++[cur]) []=Xc acc cur++[44,32]:=by
 unfold Xc;simp[Q8]
theorem Qqu (acc:List (List Nat))(cur:List Nat):cpxT (acc++[cur])=Xc acc cur++[125]:=by
 unfold cpxT Xc;rw[List.map_append,List.map_singleton,U2];simp
def Uj (c i:Nat):Qx:=if i=0 then [] else if i % c=0 then [59,32] else [32]
def layL (c:Nat):Nat->List Qx->Qx
 |_,[]=>[]
 |i,a::l=>Uj c i++a++layL c (i+1) l
theorem Po (c:Nat):∀(a b:List Qx) (i:Nat),layL c i (a++b)=layL c i a++layL c (i+a.length) b
 | [],b,i=>rfl
 |x::a,b,i=>by
  show Uj c i++x++layL c (i+1) (a++b)=Uj c i++x++layL c (i+1) a++layL c (i+(a.length+1)) b;rw[Po c a b (i+1),show i+1+a.length=i+(a.length+1) from by omega];simp
theorem Qzq (c k:Nat):∀(a:List Qx) (j:Nat),0<j->j+a.length<=c->layL c (k*c+j) a=a.flatMap ([32]++ ·)
 | [],_,_,_=>rfl
 |x::a,j,hj,h=>by
  simp only[List.length_cons]at h
  have e:(k*c+j) % c=j:=by rw[Nat.mul_comm,Nat.mul_add_mod,Nat.mod_eq_of_lt (by omega)]
  show Uj c (k*c+j)++x++layL c (k*c+j+1) a=_;rw[show k*c+j+1=k*c+(j+1) from by omega,Qzq c k a (j+1) (by omega) (by omega)];unfold Uj;rw[if_neg (by omega),if_neg (by omega)];simp
theorem Ra (sep a:Qx):∀l:List Qx,Q8 sep (a::l)=a++l.flatMap (sep++ ·)
 | []=>by simp[Q8]
 |b::l=>by
  show a++sep++Q8 sep (b::l)=_;rw[Ra sep b l];simp
theorem Bq {c k:Nat}{a:List Qx}(ha:a.length=c)(hc:0<c):layL c (k*c) a=(if k=0 then [] else [59,32])++Q8 [32] a:=by
 cases a with
 |nil=>simp at ha;omega
 |cons x a=>
  simp only[List.length_cons]at ha;show Uj c (k*c)++x++layL c (k*c+1) a=_;rw[Qzq c k a 1 (by omega) (by omega),Ra];unfold Uj;by_cases h:k=0
  ·rw[h];simp
  ·rw[if_neg (by have:=Nat.mul_pos (Nat.pos_of_ne_zero h) hc;omega),if_pos (by rw[Nat.mul_mod_left]),if_neg h]
   simp
theorem B8 {c:Nat}(hc:0<c):∀(r k:Nat) (l:List Qx),l.length=r*c->0<k->layL c (k*c) l=(Yb c r l).flatMap fun x=>[59,32]++Q8 [32] x
 |0,k,l,h,_=>by
  obtain rfl:=List.eq_nil_of_length_eq_zero (by omega:l.length=0)
  rfl
 |r+1,k,l,h,hk=>by
  have E:(l.take c).length=c:=by rw[List.length_take,h,Nat.succ_mul];omega
  conv=>lhs;rw[<-List.take_append_drop c l,Po,E,show k*c+c=(k+1)*c from by rw[Nat.succ_mul]]
  rw[Bq E hc,if_neg (by omega),B8 hc r (k+1) (l.drop c) (by rw[List.length_drop,h,Nat.succ_mul];omega) (by omega)];rfl
theorem Qvw {c r:Nat}(hc:0<c){l:List Qx}(h:l.length=(r+1)*c):layL c 0 l=Q8 [59,32] ((Yb c (r+1) l).map (Q8 [32])):=by
 have E:(l.take c).length=c:=by rw[List.length_take,h,Nat.succ_mul];omega
 conv=>lhs;rw[<-List.take_append_drop c l,Po,E]
 have e:layL c 0 (l.take c)=Q8 [32] (l.take c):=by
  have:=Bq (k:=0) E hc;rw[Nat.zero_mul]at this;rw[this];rfl
 have e2:layL c (0+c) (l.drop c)=(Yb c r (l.drop c)).flatMap fun x=>[59,32]++Q8 [32] x:=by
  have:=B8 hc r 1 (l.drop c) (by rw[List.length_drop,h,Nat.succ_mul];omega) (by omega);rw[Nat.one_mul]at this;rw[Nat.zero_add];exact this
 rw[e,e2];show _=Q8 [59,32] (Q8 [32] (l.take c)::(Yb c r (l.drop c)).map (Q8 [32]));rw[Ra,List.flatMap_map]
end RfP
