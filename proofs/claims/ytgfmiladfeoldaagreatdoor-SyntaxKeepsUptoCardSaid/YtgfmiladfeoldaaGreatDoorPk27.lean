import Derived.Test.YtgfmiladfeoldaaGreatDoorPk21
import Derived.Test.YtgfmiladfeoldaaGreatDoorPk20
set_option linter.unusedSimpArgs false
set_option linter.unusedVariables false
set_option maxRecDepth 100000
set_option maxHeartbeats 16000000
namespace Go.Proofs.YtgfmiladfeoldaaGreatDoor
open Go.RowKit NatP LexP
theorem Qqp:∀{a b:List Nat},ok a->ok b->a.length=b.length->NatP.val a=NatP.val b->a=b
 | [],[],_,_,_,_=>rfl
 |x::a,y::b,ha,hb,hl,hv=>by
  have hx:=ha x (List.mem_cons_self ..);have I:=hb y (List.mem_cons_self ..);simp only[NatP.val]at hv
  have E:x=y:=by
   have h:=congrArg (· % BB) hv;simp only[Nat.add_mul_mod_self_left,Nat.mod_eq_of_lt hx,Nat.mod_eq_of_lt I]at h;exact h
  subst E;have H:NatP.val a=NatP.val b:=Nat.eq_of_mul_eq_mul_left Xf (by omega)
  rw[Qqp (fun d hd=>ha d (List.mem_cons_of_mem _ hd)) (fun d hd=>hb d (List.mem_cons_of_mem _ hd)) (by simpa using hl) H]
 | [],_::_,_,_,hl,_=>by simp at hl
 |_::_,[],_,_,hl,_=>by simp at hl
noncomputable def cw (n:Nat):List Nat:=Classical.epsilon fun xs=>ok xs/\NatP.val xs=n/\CanL xs.length n
theorem Qh5 {xs:List Nat}{n:Nat}(h1:ok xs)(h2:NatP.val xs=n)(h3:CanL xs.length n):xs=cw n:=by
 obtain⟨a,b,c⟩:ok (cw n)/\NatP.val (cw n)=n/\CanL (cw n).length n:=Classical.epsilon_spec (p:=fun xs=>ok xs/\NatP.val xs=n/\CanL xs.length n) ⟨xs,h1,h2,h3⟩;exact Qqp h1 a (h3.uniq c) (by rw[h2,b])
noncomputable def cws (l:List (Bool×Nat)):List (Bool×List Nat):=l.map fun p=>(p.1,cw p.2)
theorem IRs.iww {w:World}{v:Value}{l:List (Bool×Nat)}(h:IRs w v l):IWw w v (cws l):=by
 obtain⟨ao,H,e,J,K,O⟩:=h
 have E:(cws l).length=l.length:=by simp[cws]
 refine⟨ao,H,by rw[E];exact e,by rw[E];exact J,K,fun h0=> ?_⟩;obtain⟨g,o,rfl,a2,a3⟩:=O (by rw[<-E];exact h0);refine⟨g,o,rfl,a2,fun j p hj=> ?_⟩;unfold cws at hj;rw[List.getElem?_map,Option.map_eq_some_iff]at hj;obtain⟨q,T,rfl⟩:=hj;obtain⟨m,xs,b1,b2,b3,b4,-,b6⟩:=a3 j q T;refine⟨m,b1,b2,?_⟩;have I:=Qh5 b3.ok b4 b6;show RdW w m (cw q.2);rw[<-I];exact b3.weak
def rmE (t:Qx):Nat:=match SynP.Zv t with| .ok _=>0| .error k=>k
def rmR (t:Qx):Nat:=match SynP.Zv t with| .ok m=>m.rows| .error _=>0
def rmC' (t:Qx):Nat:=match SynP.Zv t with| .ok m=>m.cols| .error _=>0
def rmL (t:Qx):List (Bool×Nat):=match SynP.Zv t with| .ok m=>m.at_| .error _=>[]
theorem Qg4 (t:Qx):(rmL t).length<=4096:=by
 unfold rmL
 cases h:SynP.Zv t with
 |error k=>simp
 |ok m=>
  obtain⟨E,H,I,-⟩:=SynP.Gq h;show m.at_.length<=4096;rw[I];exact Nat.le_trans (Nat.mul_le_mul E H) (by decide)
theorem Qp8 (w:World):IWw w (.slice none 0 0) []:=⟨none,0,rfl,Nat.le_refl _,Nat.zero_le _,fun h=>by simp at h⟩
end Go.Proofs.YtgfmiladfeoldaaGreatDoor
