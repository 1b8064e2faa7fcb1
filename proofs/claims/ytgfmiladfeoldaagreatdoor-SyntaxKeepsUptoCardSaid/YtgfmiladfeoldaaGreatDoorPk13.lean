import Derived.Test.YtgfmiladfeoldaaGreatDoorPk8
import Derived.Test.YtgfmiladfeoldaaGreatDoorPk9
import Derived.Test.YtgfmiladfeoldaaGreatDoorPk6
import Derived.Test.YtgfmiladfeoldaaGreatDoorRows
import Derived.Test.YtgfmiladfeoldaaGreatDoorPk7
import Derived.ShutString
import Derived.HandedShaped
import Derived.Deep.DeepHandedRow
import Derived.MakeChecks
set_option linter.unusedSimpArgs false
set_option linter.unusedVariables false
set_option maxRecDepth 100000
set_option maxHeartbeats 16000000
namespace SynP
open LexP
theorem Km {r:Res}{t:List Tok}{ts:List Tok}(h:r.after t=.ok ts):∃m,r=.ok m/\ts=t++m:=by
 cases r with
 |error e=>cases h
 |ok m=>exact⟨m,rfl,by simpa [Res.after] using h.symm⟩
theorem Qv1 {c:C}(h:kd c≠0):Xx c=true:=by simp[Xx,h]
theorem Qqs:∀(A:List C) (col:Nat) (ts:List Tok),Toks col A=.ok ts->A.all Xx=true:=by
 intro A col ts h;refine(Kg (P:=fun _ A r=>(∃l,r=Except.ok l)->A.all Xx=true) ?_ ?_ ?_ ?_ ?_ A col) ⟨ts,h⟩
 ·intro _ _;rfl
 ·intro col c A T ih E
  rw[List.all_cons,ih E,Qv1 (by omega)];rfl
 ·intro col c A T E
  obtain⟨l,H⟩:=E;split at H
  ·cases H
  ·rename_i Z
   have J:=Zg Xx (c::A);have I:=Zm (p:=Xx) (c::A);rw[show Qg Xx (c::A)=(c::A).length from by omega,List.take_length]at I;exact List.all_eq_true.2 I
 ·intro col c A e _ _ _ E
  obtain⟨l,H⟩:=E
  cases H
 ·intro col c A n k t _ _ _ J I K ih E
  obtain⟨l,H⟩:=E;obtain⟨m,U,-⟩:=Km H;have O:=ih ⟨m,U⟩;rw[<-List.take_append_drop n (c::A),List.all_append,O,List.all_eq_true.2 K];rfl
def Yf (l:Qx):Except (Nat×Nat) Ln:=
 match Toks 1 (Qz l) with
 | .error e=> .error e
 | .ok ts=>
  match line ((Qz l).length+1) (10*ts.length+9) ⟨ts,0⟩ with
  |none=> .error (0,0)
  |some (.error e)=> .error e
  |some (.ok (n,_))=>if 4096<n.size then .error (1,5) else .ok n
theorem Tc {l:Qx}{e:Nat×Nat}(h:Toks 1 (Qz l)=.error e):Yf l=.error e:=by unfold Yf;rw[h]
theorem Tf {l:Qx}{ts:List Tok}{e:Nat×Nat}(h:Toks 1 (Qz l)=.ok ts)(k:line ((Qz l).length+1) (10*ts.length+9) ⟨ts,0⟩=some (.error e)):Yf l=.error e:=by
 unfold Yf;rw[h];simp only[k]
theorem Uo {l:Qx}{ts:List Tok}{n:Ln}{s:St}(h:Toks 1 (Qz l)=.ok ts)(k:line ((Qz l).length+1) (10*ts.length+9) ⟨ts,0⟩=some (.ok (n,s))):Yf l=if 4096<n.size then .error (1,5) else .ok n:=by
 unfold Yf;rw[h];simp only[k]
theorem D9 {l:Qx}{c e:Nat}(h:Yf l=.error (c,e)):0<e/\1<=c:=by
 cases hT:Toks 1 (Qz l) with
 |error e=>
  rw[Tc hT]at h
  cases h
  have:=Uh _ _ _ hT
  exact⟨this.1,this.2.1⟩
 |ok ts=>
  have H:=Nx ((Qz l).length+1) ⟨ts,0⟩;rcases hL:line ((Qz l).length+1) (10*ts.length+9) ⟨ts,0⟩ with- |(⟨c',e'⟩|⟨m,s⟩)
  ·simp only[hL]at H
   exact H.elim
  ·rw[Tf hT hL]at h
   cases h
   simp only[hL]at H;refine⟨H,?_⟩;have E:=Qgg (φ:=fun c=>max c 1) ((Qz l).length+1) (10*ts.length+9) ⟨ts,0⟩
   have e1:mpS (fun c=>max c 1) ⟨ts,0⟩=⟨ts,0⟩:=Qhy (fun t ht=>by
    have:=(W7 _ _ _ hT).2 t ht;show max t.2.2 1=t.2.2
    omega)
   rw[e1,hL]at E
   have e2:max ((Qz l).length+1) 1=(Qz l).length+1:=by omega
   simp only[e2,hL,mpR]at E
   injection E with E
   injection E with E
   injection E with E _
   omega
  ·rw[Uo hT hL]at h
   split at h
   ·cases h;exact⟨by decide,by decide⟩
   ·cases h
end SynP
namespace SynP
open LexP
theorem Pv {α:Type}{sep:Qx}{sk:List KT}(hs:LxA sep sk)(hd:Sd sep)(f:α->Qx)(g:α->List KT):∀l:List α,(∀x∈l,LxD (f x) (g x))->LxD (Xn sep (l.map f)) (Za sk (l.map g))
 | [],_=>LxA.nil.d
 | [a],h=>h a (by simp)
 |a::b::l,h=>by
  have h1:=Pv hs hd f g (b::l) (fun x hx=>h x (List.mem_cons_of_mem _ hx));have E:=((h a (by simp)).appA hs hd).appD h1;exact E
theorem Nj:∀l:List (List KT),Za [] l=l.flatten
 | []=>rfl
 | [a]=>by simp[Za]
 |a::b::l=>by
  show a++[]++Za [] (b::l)=_;rw[Nj (b::l)];simp
theorem Gv {α β:Type}(f:α->β)(c:Nat):∀(r:Nat) (l:List α),Xb c r (l.map f)=(Xb c r l).map (List.map f)
 |0,_=>rfl
 |r+1,l=>by
  show (l.map f).take c::Xb c r ((l.map f).drop c)=(l.take c).map f::(Xb c r (l.drop c)).map (List.map f);rw[<-Gv f c r,List.map_take,List.map_drop]
theorem sd (x:UInt8)(t:Qx)(h:Fu x=true):Sd (x::t):=⟨x,t,rfl,h⟩
theorem Qp7 (x:Bool×Nat):LxD (intT x) (intK x):=by
 unfold intT intK
 cases x.1 with
 |true=>exact(Ym (x:=45) (by decide)).appD (Rl x.2)
 |false=>exact Rl x.2
theorem Qhr (l:List (Bool×Nat)):LxD (Xn [32] (l.map intT)) (l.flatMap intK):=by
 have:=Pv J0 (sd 32 [] (by decide)) intT intK l (fun x _=>Qp7 x);rw[Nj]at this
 rwa [List.flatMap]
theorem Qw7 (m:MatV):LxA (matT m) (matK m):=by
 unfold matT matK;have E:=Ym (x:=91) (by decide);have H:=Ym (x:=93) (by decide);split
 ·have h:=(((E.appD (Rl m.rows)).appA (Ym (x:=58) (by decide)) (sd 58 [] (by decide))).appD (Rl m.cols)).appA H (sd 93 [] (by decide))
  exact h
 ·rw[Gv,List.map_map]
  have h:=Pv (sep:=[59,32]) ((Ym (x:=59) (by decide)).app J0) (sd 59 [32] (by decide)) (Xn [32]∘List.map intT) (fun l=>l.flatMap intK) (Xb m.cols m.rows m.at_) (fun l _=>Qhr l);have I:=(E.appD h).appA H (sd 93 [] (by decide));exact I
theorem Qwz (l:List (List Nat)):LxA (cpxT l) (cpxK l):=by
 unfold cpxT cpxK
 have h:∀s:List Nat,LxD (Xn [32] (s.map decT)) (s.map numK):=by
  intro s;have:=Pv J0 (sd 32 [] (by decide)) decT (fun n=>[numK n]) s (fun x _=>Rl x);rw[Nj]at this
  have e:∀l:List Nat,(l.map fun n=>[numK n]).flatten=l.map numK:=by
   intro l
   induction l with
   |nil=>rfl
   |cons a l ih=>simp[ih]
  rwa [e]at this
 have E:=Pv (sep:=[44,32]) ((Ym (x:=44) (by decide)).app J0) (sd 44 [32] (by decide)) (fun s:List Nat=>Xn [32] (s.map decT)) (fun s=>s.map numK) l (fun s _=>h s);exact((Ym (x:=123) (by decide)).appD E).appA (Ym (x:=125) (by decide)) (sd 125 [] (by decide))
theorem Tb {b:Bool}{t:Qx}{l:List KT}(h:LxD t l):LxD (par b t) (parK b l):=by
 cases b with
 |false=>exact h
 |true=>exact(((Ym (x:=40) (by decide)).appD h).appA (Ym (x:=41) (by decide)) (sd 41 [] (by decide))).d
theorem Qzx (x:UInt8)(hx:x.toNat<128/\kindOf x.toNat=5):LxA [32,x,32] [mk x]:=(J0.app (Ym hx)).app J0
mutual
theorem Uq:∀e:Ex,e.wf->LxD e.pr e.tk
 | .num n,_=>Rl n
 | .name x,h=>Rx h
 | .mat m,_=>(Qw7 m).d
 | .cpx l,_=>(Qwz l).d
 | .neg a,h=>(Ym (x:=45) (by decide)).appD (Tb (Uq a h))
 | .turn a,h=>((Tb (Uq a h)).appA (Ym (x:=39) (by decide)) (sd 39 [] (by decide))).d
 | .add a b,h=>by
  have h1:=((Tb (b:=Qp 6 0 a.op) (Uq a h.1)).appA (Qzx 43 (by decide)) (sd 32 [43,32] (by decide))).appD (Tb (b:=Qp 6 1 b.op) (Uq b h.2));rw[List.append_assoc (parK _ _)]at h1
  exact h1
 | .sub a b,h=>by
  have h1:=((Tb (b:=Qp 7 0 a.op) (Uq a h.1)).appA (Qzx 45 (by decide)) (sd 32 [45,32] (by decide))).appD (Tb (b:=Qp 7 1 b.op) (Uq b h.2));rw[List.append_assoc (parK _ _)]at h1
  exact h1
 | .mul a b,h=>by
  have h1:=((Tb (b:=Qp 8 0 a.op) (Uq a h.1)).appA (Ym (x:=42) (by decide)) (sd 42 [] (by decide))).appD (Tb (b:=Qp 8 1 b.op) (Uq b h.2));rw[List.append_assoc (parK _ _)]at h1
  exact h1
 | .pow a n,h=>by
  have h1:=(Tb (b:=Qp 9 0 a.op) (Uq a h)).appD ((Ym (x:=94) (by decide)).appD (Rl n)) (sd 94 _ (by decide))
  exact h1
 | .call x l,h=>by
  have h1:=(Rx h.1).appA (((Ym (x:=40) (by decide)).appD (Qwb l h.2.2)).appA (Ym (x:=41) (by decide)) (sd 41 [] (by decide))) (sd 40 _ (by decide));exact h1.d
theorem Qwb:∀l:Exs,l.wf->LxD l.pr l.tk
 | .nil,_=>LxA.nil.d
 | .cons a l,h=>by
  cases l with
  |nil=>
   show LxD (a.pr++[]) (a.tk++[]);rw[List.append_nil,List.append_nil]
   exact Uq a h.1
  |cons b l=>exact(Uq a h.1).appD (Qji (.cons b l) h.2) (sd 44 _ (by decide))
theorem Qji:∀l:Exs,l.wf->LxD l.prTail l.tkTail
 | .nil,_=>LxA.nil.d
 | .cons a l,h=>by
  have h0:LxA [44,32] [mk 44]:=(Ym (x:=44) (by decide)).app J0
  cases l with
  |nil=>
   show LxD ([44,32]++a.pr++[]) (mk 44::(a.tk++[]));rw[List.append_nil,List.append_nil]
   exact h0.appD (Uq a h.1)
  |cons b l=>
   have h1:=(h0.appD (Uq a h.1)).appD (Qji (.cons b l) h.2) (sd 44 _ (by decide));exact h1
end
theorem Qgx:Y7 letB:=⟨1,by rfl⟩
theorem Qgk:∀n:Ln,n.wf->LxD n.pr n.tk
 | .nothing,_=>LxA.nil.d
 | .lets x e,h=>by
  have h1:=(((((Rx Qgx).appA J0 (sd 32 [] (by decide))).appD (Rx h.1)).appA (Qzx 61 (by decide)) (sd 32 [61,32] (by decide))).appD (Uq e h.2))
  exact h1
 | .cmd x .nil,h=>by
  have h1:=Rx h.1;show LxD x [(2,x)]
  exact h1
 | .cmd x (.cons a l),h=>by
  have h1:=((Rx h.1).appA J0 (sd 32 [] (by decide))).appD (Qwb (.cons a l) h.2.2);exact h1
theorem Qyb {n:Ln}(hw:n.wf)(hd:n.dp<=100):Yf n.pr=if 4096<n.size then .error (1,5) else .ok n:=by
 obtain⟨k,ts,h,H⟩:=Qgk n hw 1 [] (.inl rfl);rw[List.append_nil,Ye,Yy]at h
 have I:Toks 1 (Qz n.pr)=.ok ts:=by rw[h];simp[Res.after]
 have K:Is ts n.tk []:=by rw[<-H];exact Is.all ts
 obtain⟨f,J⟩:=Qgv ((Qz n.pr).length+1) hw hd K;have E:=Nx ((Qz n.pr).length+1) ⟨ts,0⟩;rcases hL:line ((Qz n.pr).length+1) (10*ts.length+9) ⟨ts,0⟩ with- |r
 ·simp only[hL]at E
  exact E.elim
 ·have e:r=.ok (n,⟨[],0⟩):=Ev.one (fun f=>Qvl ((Qz n.pr).length+1) f ⟨ts,0⟩) ⟨_,hL⟩ ⟨f,J⟩
  subst e;exact Uo I hL
end SynP
namespace SynP
open LexP
def Zv (t:Qx):Except Nat MatV:=
 match Toks 1 (Qz t) with
 | .error _=> .error 7
 | .ok ts=>
  match (Xi ((Qz t).length+1) (ts.length+3) ⟨ts,0⟩).bind fun m s=>done ((Qz t).length+1) m s with
  |none=> .error 0
  |some (.error (_,k))=> .error (if k=2\/k=5 then k else 7)
  |some (.ok (m,_))=> .ok m
def Jr (t:Qx):Option (List (List Nat)):=
 match Toks 1 (Qz t) with
 | .error _=>none
 | .ok ts=>
  match (Q5 ((Qz t).length+1) (ts.length+2) ⟨ts,0⟩).bind fun l s=>done ((Qz t).length+1) l s with
  |some (.ok (l,_))=>some l
  |_=>none
theorem Gq {t:Qx}{m:MatV}(h:Zv t=.ok m):Nl m:=by
 unfold Zv at h;split at h
 ·cases h
 ·split at h
  ·cases h
  ·cases h
  ·rename_i m' s' I
   cases h
   obtain⟨a,s,E,H⟩:=Qv I;have:=Vc H
   cases this
   exact Ut E
theorem Qyt {t:Qx}{l:List (List Nat)}(h:Jr t=some l):T6 l:=by
 unfold Jr at h;split at h
 ·cases h
 ·split at h
  ·rename_i l' s' I
   cases h
   obtain⟨a,s,E,H⟩:=Qv I;have:=Vc H
   cases this
   exact Kr E
  ·cases h
theorem Bs {t:Qx}{k:List KT}(h:LxA t k):∃ts,Toks 1 (Qz t)=.ok ts/\Is ts k []:=by
 obtain⟨n,ts,E,H⟩:=h 1 [];rw[List.append_nil,Ye,Yy]at E;exact⟨ts,by rw[E];simp[Res.after],by rw[<-H];exact Is.all ts⟩
theorem At {m:MatV}(hm:Nl m):Zv (matT m)=.ok m:=by
 obtain⟨ts,E,I⟩:=Bs (Qw7 m);obtain⟨f,H⟩:=Fe ((Qz (matT m)).length+1) (o:=0) hm I;have h:=Ux ((Qz (matT m)).length+1) (ts.length+3) (s:=⟨ts,0⟩) (Nat.le_refl _) (Nat.le_refl _);rcases hL:Xi ((Qz (matT m)).length+1) (ts.length+3) ⟨ts,0⟩ with- |r
 ·simp only[hL]at h
  exact h.elim
 ·have e:r=.ok (m,⟨[],0⟩):=Ev.one (fun f=>N8 ((Qz (matT m)).length+1) f ⟨ts,0⟩) ⟨_,hL⟩ ⟨f,H⟩
  subst e;unfold Zv;rw[E];simp only[hL];rfl
theorem As {l:List (List Nat)}(hl:T6 l):Jr (cpxT l)=some l:=by
 obtain⟨ts,E,I⟩:=Bs (Qwz l);obtain⟨f,H⟩:=Kn ((Qz (cpxT l)).length+1) (o:=0) hl I;have h:=Tj ((Qz (cpxT l)).length+1) (ts.length+2) (s:=⟨ts,0⟩) (Nat.le_refl _) (Nat.le_refl _);rcases hL:Q5 ((Qz (cpxT l)).length+1) (ts.length+2) ⟨ts,0⟩ with- |r
 ·simp only[hL]at h
  exact h.elim
 ·have e:r=.ok (l,⟨[],0⟩):=Ev.one (fun f=>Re ((Qz (cpxT l)).length+1) f ⟨ts,0⟩) ⟨_,hL⟩ ⟨f,H⟩
  subst e;unfold Jr;rw[E];simp only[hL];rfl
def numV (t:Qx):Bool:=decide (t≠[]) && t.all NumP.Xz && (decT (U1 t)==t)
def namV (t:Qx):Bool:=
 match Toks 1 (Qz t) with
 | .ok [(k,x,_)]=>k==2 && x==t
 |_=>false
def matV (t:Qx):Bool:=
 match Zv t with
 | .ok m=>matT m==t
 | .error _=>false
def cpxV (t:Qx):Bool:=
 match Jr t with
 |some l=>cpxT l==t
 |none=>false
def WV (op:Int)(t:Qx):Bool:=
 if op=1\/op=9 then numV t
 else if op=2\/op=10\/op=11 then namV t
 else if op=12 then namV t && t !=letB
 else if op=3 then matV t
 else if op=13 then cpxV t
 else t==[]
theorem Ay (t:Qx):numV t=true↔ ∃n,t=decT n:=by
 unfold numV;constructor
 ·intro h
  simp only[Bool.and_eq_true,beq_iff_eq]at h;exact⟨_,h.2.symm⟩
 ·rintro ⟨n,rfl⟩
  rw[Rr];simp only[Bool.and_eq_true,beq_iff_eq,decide_eq_true_eq,and_true];exact⟨Qz1 n,List.all_eq_true.2 (Uc n)⟩
theorem Pm (t:Qx):namV t=true↔Y7 t:=by
 unfold namV Y7;constructor
 ·intro h
  split at h
  ·rename_i k x c E
   simp only[Bool.and_eq_true,beq_iff_eq]at h;obtain⟨rfl,rfl⟩:=h;exact⟨c,E⟩
  ·cases h
 ·rintro ⟨c,h⟩
  rw[h];simp
theorem Qw6 (t:Qx):matV t=true↔ ∃m,Nl m/\t=matT m:=by
 unfold matV;constructor
 ·intro h
  split at h
  ·rename_i m E
   exact⟨m,Gq E,(beq_iff_eq.1 h).symm⟩
  ·cases h
 ·rintro ⟨m,H,rfl⟩
  rw[At H];simp
theorem Qwx (t:Qx):cpxV t=true↔ ∃l,T6 l/\t=cpxT l:=by
 unfold cpxV;constructor
 ·intro h
  split at h
  ·rename_i m E
   exact⟨m,Qyt E,(beq_iff_eq.1 h).symm⟩
  ·cases h
 ·rintro ⟨m,H,rfl⟩
  rw[As H];simp
theorem Qbz:WOk WV where
 num:=Ay
 pow:=Ay
 name:=Pm
 call:=Pm
 lets:=Pm
 cmd:=fun t=>by
  show (namV t && t !=letB)=true↔_;rw[Bool.and_eq_true,Pm];simp
 mat:=Qw6
 cpx:=Qwx
 none:=fun op t h=>by
  rcases h with rfl|rfl|rfl|rfl|rfl|rfl<;>(show (t==[])=true↔_;simp)
end SynP
namespace Go.Proofs.YtgfmiladfeoldaaGreatDoor
open Go.RowKit NatP LexP
def Qka (r c:Int)(n:Nat):Prop:=(0<=r/\r<=64)/\(0<=c/\c<=64)/\(n:Int)=r*c
instance (r c:Int) (n:Nat):Decidable (Qka r c n):=by unfold Qka;infer_instance
open Go.ChangeShapes Go.WideShapes Go.ChangeAt
theorem own:ownKnob Tryz.prog.godebug=none:=by kernel_rfl
theorem Qwl : Tryz.prog.globalNamed "trellis/radix.signs" = some 4 := by kernel_rfl
theorem Qht:(Tryz.prog.globals[4]?).map (·.type)=some 258:=by kernel_rfl
theorem Qh0:Tryz.prog.underlying 258=some (.array 36 5):=by kernel_rfl
theorem uU8:Tryz.prog.underlying 5=some (.int .u8):=by kernel_rfl
theorem cU8:Tryz.prog.cellsOf 5=1:=by kernel_rfl
theorem Qm5:Tryz.prog.cellsOf 258=36:=by kernel_rfl
def Qx9:List Int:=[48,49,50,51,52,53,54,55,56,57,97,98,99,100,101,102,103,104,105,106,107,108,109,110,111,112,113,114,115,116,117,118,119,120,121,122]
def Bl : List (String × DataW Unit) := [("trellis/radix.signs", Rows.laid_trellis_radix_signs)]
theorem Db {w:World}(h:w.ShapedOpen Tryz.prog):Lx w:=
 Go.Proofs.cell_of_shapedOpen_int (zero:= #[.int .i64 0]) (t:=3) h (of_decide_eq_true (by kernel_rfl)) (by kernel_rfl) rfl (by kernel_rfl) (by kernel_rfl) (by kernel_rfl)
theorem Qx7 {w:World}(h:laidMetH Tryz.prog Bl w):SG w/\4<w.heap.size:=by
 rw[MakeChecks.laidMetH_plain _ _ _ (by kernel_rfl)]at h
 have J : Lib.TabIs Tryz.prog w "trellis/radix.signs" .u8 Qx9 := Lib.tabIs_of_head (zs := Qx9) Qwl Qht Qh0 uU8 cU8 Qm5 h
 have E:SG w:=by
  intro d I;have H:=World.var?_cell Qwl J d;rw[H]
  match d,I with
  |0,_=>rfl
  |1,_=>rfl
  |2,_=>rfl
  |3,_=>rfl
  |4,_=>rfl
  |5,_=>rfl
  |6,_=>rfl
  |7,_=>rfl
  |8,_=>rfl
  |9,_=>rfl
 exact⟨E,World.block_lt_of_cell? w _ (E 0 (by omega))⟩
noncomputable def S9 (os:Os):World:=
 {World.holding Tryz.prog os ⟨#[],#[],[]⟩ with heap:=(World.holding Tryz.prog os ⟨#[],#[],[]⟩).heap.modify 4 fun
   | .cells _ t frozen=> .cells (Qx9.map fun z=>Value.int .u8 z).toArray t frozen
   |o=>o}
theorem Qwe (os:Os)(args:Array Value):laidMetH Tryz.prog Bl ((S9 os).forCall (fun _ _=>0) ⟨#[],args,[]⟩).memory:=by
 rw[MakeChecks.laidMetH_plain _ _ _ (by kernel_rfl)];exact laidMet_of_run' 8 (by kernel_rfl) (by kernel_rfl)
theorem bulk {H:Type}{l:List (DataW H)}(hk:Rows.uptoSmall H l=true):Rows.uptoBulkAll l<=1048576:=of_decide_eq_true hk
end Go.Proofs.YtgfmiladfeoldaaGreatDoor
