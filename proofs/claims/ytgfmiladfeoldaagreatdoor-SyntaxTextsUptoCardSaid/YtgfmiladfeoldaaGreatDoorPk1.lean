import Derived.WalkSpells
import Derived.WalkLawsBesides
import Derived.Test.YtgfmiladfeoldaaGreatDoorChecked
import Derived.Handy
import Derived.BigQuiet
import Derived.Laws.CopyOwn
import Derived.Deep.OwnRows
import Derived.Shelf.Strings.OnBuilder
import Derived.Shelf.Small.Utf8
import Derived.Shelf.Small.Bits
import Derived.Shelf.Strconv.Itoa3
import Derived.Shelf.Strings.Shaped
import Derived.Shelf.Strings.Prefix
import Derived.Shelf.Strings.Runes
import Derived.Shelf.Bits.Mul64
import Derived.Shelf.Strings.BuilderCap
import Derived.Shelf.Slices.Empties2
import Derived.Test.YtgfmiladfeoldaaGreatDoorProg
import Derived.Deep.AppendLies
import Derived.MakeChecks
set_option linter.unusedSimpArgs false
set_option linter.unusedVariables false
set_option maxRecDepth 100000
set_option maxHeartbeats 16000000
open Go.Proofs.Tryz
open Option renaming some->F,none->Z
open Go.Proofs.Tryz renaming prog->ca,underlying3->ce,underlying4->cl,zeroValue3->c9,zeroValue4->da,underlying9->db,zeroValue9->de,underlying188->dj,sizeOf3->dl,sizeOf4->dq,zeroValue188->ef,underlying5->eg,isAgg3->ex,isAgg4->eS,sizeOf9->fa,zeroValue5->fb,isAgg9->ff,sizeOf188->fi,isAgg188->fm,underlying101->gc,zeroValue101->gd,sizeOf5->ge,underlying0->g9,isAgg5->hO,zeroValue0->io,sizeOf101->ip,isAgg101->it,sizeOf0->iS,isAgg0->i6,underlying222->i8,underlying20->jj,underlying88->jp,zeroValue222->ka,zeroValue20->ke,zeroValue88->kw,sizeOf222->lk,sizeOf20->lm,sizeOf88->lE,isAgg222->lP,isAgg20->mc,isAgg88->md,underlying197->me,underlying199->mt,underlying221->mw,underlying223->mx,underlying245->mT,underlying246->nf,zeroValue197->nF,zeroValue199->oe,zeroValue221->oi,zeroValue245->oj,zeroValue246->ol,underlying2->oE,zeroValue2->oS,sizeOf197->pa,sizeOf199->pe,sizeOf221->pf,sizeOf223->ph,sizeOf245->pi,sizeOf246->pl,isAgg197->pm,isAgg199->pt,isAgg221->pu,isAgg223->qe,isAgg245->qk,isAgg246->qr,sizeOf2->qt
open Go.Value renaming int->A,string->du,slice->U,bool->oR
open Go.Ending renaming returned->co
open Go renaming World->dk,Calls->ii,Value->li
open Go.IntKind renaming i64->G,u64->gE
theorem aab:type_of% @Nat.le_refl:=@Nat.le_refl
theorem aad:type_of% @List.getElem?_eq_getElem:=@List.getElem?_eq_getElem
theorem aaf:type_of% @List.getElem?_eq_some_iff:=@List.getElem?_eq_some_iff
theorem aag:type_of% @List.length_append:=@List.length_append
theorem aah:type_of% @Array.getElem?_eq_some_iff:=@Array.getElem?_eq_some_iff
theorem aai:type_of% @List.mem_of_getElem?:=@List.mem_of_getElem?
theorem aaj:type_of% @Go.cell_of_row:=@Go.cell_of_row
theorem aak:type_of% @List.length_take:=@List.length_take
theorem aal:type_of% @Nat.lt_of_lt_of_le:=@Nat.lt_of_lt_of_le
theorem aam:type_of% @List.take_of_length_le:=@List.take_of_length_le
theorem aan:type_of% @List.length_drop:=@List.length_drop
theorem aao:type_of% @Go.heap_setCell_same:=@Go.heap_setCell_same
theorem aap:type_of% @Go.heap_alloc_new:=@Go.heap_alloc_new
theorem aaq:type_of% @List.length_cons:=@List.length_cons
theorem aar:type_of% @Nat.le_trans:=@Nat.le_trans
theorem aas:type_of% @List.length_map:=@List.length_map
theorem aat:type_of% @Nat.zero_le:=@Nat.zero_le
theorem aau:type_of% @List.eq_nil_of_length_eq_zero:=@List.eq_nil_of_length_eq_zero
theorem aav:type_of% @Option.some.inj:=@Option.some.inj
theorem aaw:type_of% @Go.RowKit.Below.refl:=@Go.RowKit.Below.refl
theorem aax:type_of% @Go.frozen_of_row:=@Go.frozen_of_row
theorem aay:type_of% @Nat.mul_add:=@Nat.mul_add
theorem aaz:type_of% @Nat.mul_comm:=@Nat.mul_comm
theorem aaA:type_of% @Go.IntKind.wrap_u64:=@Go.IntKind.wrap_u64
theorem aaB:type_of% @Go.World.ownsRow.lt:=@Go.World.ownsRow.lt
theorem aaC:type_of% @List.drop_eq_nil_of_le:=@List.drop_eq_nil_of_le
theorem aaD:type_of% @Go.bodyPost_ret:=@Go.bodyPost_ret
theorem aaE:type_of% @congrArg:=@congrArg
theorem aaF:type_of% @Go.RowKit.Below.grown:=@Go.RowKit.Below.grown
theorem aaG:type_of% @Nat.min_eq_left:=@Nat.min_eq_left
theorem aaH:type_of% @List.getElem?_append_left:=@List.getElem?_append_left
theorem aaI:type_of% @List.take_add_one:=@List.take_add_one
theorem aaJ:type_of% @Int.natCast_nonneg:=@Int.natCast_nonneg
theorem aaK:type_of% @List.getElem?_append_right:=@List.getElem?_append_right
theorem aaL:type_of% @List.drop_eq_getElem_cons:=@List.drop_eq_getElem_cons
theorem aaM:type_of% @Nat.mul_assoc:=@Nat.mul_assoc
theorem aaN:type_of% @Go.heap_setCell_other:=@Go.heap_setCell_other
theorem aaO:type_of% @List.mem_singleton:=@List.mem_singleton
theorem aaP:type_of% @List.mem_append:=@List.mem_append
theorem aaQ:type_of% @decide_eq_false:=@decide_eq_false
theorem aaR:type_of% @List.length_singleton:=@List.length_singleton
theorem aaS:type_of% @Nat.mul_le_mul_right:=@Nat.mul_le_mul_right
theorem aaT:type_of% @Nat.mul_le_mul_left:=@Nat.mul_le_mul_left
theorem aaU:type_of% @Go.World.ownsRow.alloc:=@Go.World.ownsRow.alloc
theorem aaV:type_of% @Go.World.size_alloc:=@Go.World.size_alloc
theorem aaW:type_of% @List.append_assoc:=@List.append_assoc
theorem aaX:type_of% @Nat.zero_add:=@Nat.zero_add
theorem aaY:type_of% @Go.World.block_lt_of_cell?:=@Go.World.block_lt_of_cell?
theorem aaZ:type_of% @List.length_replicate:=@List.length_replicate
theorem aa0:type_of% @Go.info_parts:=@Go.info_parts
theorem aa1:type_of% @Nat.le_of_lt:=@Nat.le_of_lt
theorem aa2:type_of% @Go.Lib.size_eq:=@Go.Lib.size_eq
theorem aa3:type_of% @Nat.mul_le_mul:=@Nat.mul_le_mul
theorem aa4:type_of% @List.drop_zero:=@List.drop_zero
theorem aa5:type_of% @List.length_nil:=@List.length_nil
theorem aa6:type_of% @Nat.pow_le_pow_right:=@Nat.pow_le_pow_right
theorem aa7:type_of% @decide_eq_true:=@decide_eq_true
theorem aa8:type_of% @List.take_succ_eq_append_getElem:=@List.take_succ_eq_append_getElem
theorem aa9:type_of% @List.getElem?_map:=@List.getElem?_map
theorem aba:type_of% @Nat.add_zero:=@Nat.add_zero
theorem abb:type_of% @List.length_set:=@List.length_set
theorem abc:type_of% @List.getD_eq_getElem?_getD:=@List.getD_eq_getElem?_getD
theorem abd:type_of% @Nat.add_mul:=@Nat.add_mul
theorem abe:type_of% @Go.World.cell?_of_block:=@Go.World.cell?_of_block
theorem abf:type_of% @Nat.pow_succ:=@Nat.pow_succ
theorem abg:type_of% @List.getElem?_drop:=@List.getElem?_drop
theorem abh:type_of% @Go.IntWalk.i64_in:=@Go.IntWalk.i64_in
theorem abi:type_of% @decide_eq_true_eq:=@decide_eq_true_eq
theorem abj:type_of% @Bool.eq_iff_iff:=@Bool.eq_iff_iff
theorem abk:type_of% @Go.wpList_append_lies:=@Go.wpList_append_lies
theorem abl:type_of% @List.map_append:=@List.map_append
theorem abm:type_of% @List.length_pos_iff:=@List.length_pos_iff
theorem abn:type_of% @Go.wpList_append_own_at:=@Go.wpList_append_own_at
theorem abo:type_of% @List.getElem?_eq_none:=@List.getElem?_eq_none
theorem abp:type_of% @Nat.lt_of_le_of_lt:=@Nat.lt_of_le_of_lt
theorem abq:type_of% @List.map_cons:=@List.map_cons
theorem abr:type_of% @Nat.pos_of_ne_zero:=@Nat.pos_of_ne_zero
theorem abt:type_of% @List.append_nil:=@List.append_nil
theorem abu:type_of% @List.mem_cons:=@List.mem_cons
theorem abv:type_of% @List.nil_append:=@List.nil_append
theorem abw:type_of% @List.mem_map:=@List.mem_map
theorem abx:type_of% @Go.World.ownsRow_nil:=@Go.World.ownsRow_nil
theorem aby:type_of% @List.take_length:=@List.take_length
theorem abz:type_of% @Nat.add_assoc:=@Nat.add_assoc
theorem abA:type_of% @List.mem_of_mem_take:=@List.mem_of_mem_take
theorem abB:type_of% @List.drop_drop:=@List.drop_drop
theorem abC:type_of% @Nat.pow_pos:=@Nat.pow_pos
theorem abD:type_of% @Option.map_eq_some_iff:=@Option.map_eq_some_iff
theorem abE:type_of% @List.getElem?_take:=@List.getElem?_take
theorem abF:type_of% @Go.results_cell_row:=@Go.results_cell_row
theorem abG:type_of% @List.take_append_drop:=@List.take_append_drop
theorem abH:type_of% @Int.natCast_mul:=@Int.natCast_mul
theorem abI:type_of% @Nat.mul_zero:=@Nat.mul_zero
theorem abJ:type_of% @Array.getElem?_setIfInBounds:=@Array.getElem?_setIfInBounds
theorem abK:type_of% @Bool.and_eq_true:=@Bool.and_eq_true
theorem abL:type_of% @Nat.mod_lt:=@Nat.mod_lt
theorem abM:type_of% @Nat.pow_add:=@Nat.pow_add
theorem abN:type_of% @Nat.div_lt_iff_lt_mul:=@Nat.div_lt_iff_lt_mul
theorem abO:type_of% @Nat.mul_left_comm:=@Nat.mul_left_comm
theorem abP:type_of% @Nat.div_add_mod:=@Nat.div_add_mod
theorem abQ:type_of% @Go.wpList_append_own:=@Go.wpList_append_own
theorem abR:type_of% @Nat.one_mul:=@Nat.one_mul
theorem abS:type_of% @List.getElem?_cons_succ:=@List.getElem?_cons_succ
theorem abT:type_of% @Nat.le_of_eq:=@Nat.le_of_eq
theorem abU:type_of% @List.tail_drop:=@List.tail_drop
theorem abV:type_of% @List.mem_of_mem_drop:=@List.mem_of_mem_drop
theorem abW:type_of% @Nat.add_sub_cancel:=@Nat.add_sub_cancel
theorem abX:type_of% @List.map_nil:=@List.map_nil
theorem abY:type_of% @Nat.eq_zero_or_pos:=@Nat.eq_zero_or_pos
theorem abZ:type_of% @Nat.mul_one:=@Nat.mul_one
theorem ab0:type_of% @List.flatMap_append:=@List.flatMap_append
theorem ab1:type_of% @Nat.lt_trans:=@Nat.lt_trans
theorem ab2:type_of% @List.map_map:=@List.map_map
theorem ab3:type_of% @Go.World.ownsRow_lit:=@Go.World.ownsRow_lit
theorem ab4:type_of% @Go.World.cell?_setCell_other:=@Go.World.cell?_setCell_other
theorem ab5:type_of% @Go.results_none:=@Go.results_none
theorem ab6:type_of% @Option.getD_some:=@Option.getD_some
theorem ab7:type_of% @Nat.mod_eq_of_lt:=@Nat.mod_eq_of_lt
theorem ab8:type_of% @Go.RowKit.ownsRow_setCell_below:=@Go.RowKit.ownsRow_setCell_below
theorem ab9:type_of% @beq_iff_eq:=@beq_iff_eq
theorem aca:type_of% @List.mem_cons_of_mem:=@List.mem_cons_of_mem
theorem acd:type_of% @List.getElem?_of_mem:=@List.getElem?_of_mem
theorem acf:type_of% @List.drop_of_length_le:=@List.drop_of_length_le
theorem ach:type_of% @Array.getElem?_eq_getElem:=@Array.getElem?_eq_getElem
theorem aci:type_of% @List.take_succ_cons:=@List.take_succ_cons
theorem ack:type_of% @Nat.mul_pos:=@Nat.mul_pos
theorem acr:type_of% @List.drop_eq_nil_iff:=@List.drop_eq_nil_iff
theorem acs:type_of% @Go.wpList_store_row:=@Go.wpList_store_row
theorem acx:type_of% @List.take_take:=@List.take_take
theorem acz:type_of% @List.flatMap_cons:=@List.flatMap_cons
theorem acA:type_of% @List.length_reverse:=@List.length_reverse
theorem acB:type_of% @Nat.div_le_self:=@Nat.div_le_self
theorem acD:type_of% @Int.natCast_pow:=@Int.natCast_pow
theorem acE:type_of% @List.length_filter_le:=@List.length_filter_le
theorem acH:type_of% @Nat.zero_mul:=@Nat.zero_mul
theorem acI:type_of% @Nat.le_of_not_lt:=@Nat.le_of_not_lt
theorem acJ:type_of% @Nat.lt_succ_self:=@Nat.lt_succ_self
theorem acL:type_of% @Nat.div_eq_of_lt:=@Nat.div_eq_of_lt
theorem acN:type_of% @List.mem_cons_self:=@List.mem_cons_self
theorem acO:type_of% @List.drop_eq_getElem?_toList_append:=@List.drop_eq_getElem?_toList_append
theorem acP:type_of% @decide_eq_false_iff_not:=@decide_eq_false_iff_not
theorem acQ:type_of% @Int.eq_ofNat_of_zero_le:=@Int.eq_ofNat_of_zero_le
theorem acT:type_of% @Int.toNat_natCast:=@Int.toNat_natCast
theorem acX:type_of% @Go.Result.andThen_ok:=@Go.Result.andThen_ok
theorem ac2:type_of% @Bool.or_eq_true:=@Bool.or_eq_true
theorem ac3:type_of% @Nat.mul_lt_mul_of_pos_right:=@Nat.mul_lt_mul_of_pos_right
theorem ada:type_of% @Go.Exit.noGoto_ret:=@Go.Exit.noGoto_ret
theorem adh:type_of% @List.length_take_le:=@List.length_take_le
theorem adk:type_of% @Nat.succ_mul:=@Nat.succ_mul
theorem ado:type_of% @Nat.lt_irrefl:=@Nat.lt_irrefl
theorem adp:type_of% @List.cons_append:=@List.cons_append
theorem adq:type_of% @if_false:=@if_false
theorem ads:type_of% @Go.RowKit.Below.heap_alloc:=@Go.RowKit.Below.heap_alloc
theorem adv:type_of% @List.length_tail:=@List.length_tail
theorem adw:type_of% @List.map_toArray:=@List.map_toArray
theorem adx:type_of% @Nat.le_div_iff_mul_le:=@Nat.le_div_iff_mul_le
theorem adH:type_of% @Go.World.frozen?_setCell:=@Go.World.frozen?_setCell
theorem adK:type_of% @Go.MakeChecks.laidMetH_plain:=@Go.MakeChecks.laidMetH_plain
theorem adL:type_of% @Go.World.cell?_alloc_at:=@Go.World.cell?_alloc_at
theorem adM:type_of% @Nat.not_lt_zero:=@Nat.not_lt_zero
theorem adO:type_of% @Go.wpList_make_own:=@Go.wpList_make_own
theorem adQ:type_of% @Nat.lt_or_ge:=@Nat.lt_or_ge
theorem adS:type_of% @List.flatten_cons:=@List.flatten_cons
theorem adU:type_of% @Bool.true_and:=@Bool.true_and
theorem adV:type_of% @List.sum_cons:=@List.sum_cons
theorem ad1:type_of% @List.getElem?_cons_zero:=@List.getElem?_cons_zero
theorem ad2:type_of% @beq_eq_false_iff_ne:=@beq_eq_false_iff_ne
theorem ad3:type_of% @Go.World.news_of_block:=@Go.World.news_of_block
theorem ad4:type_of% @Int.natCast_ediv:=@Int.natCast_ediv
theorem ad6:type_of% @Go.step_append_lies:=@Go.step_append_lies
theorem ad7:type_of% @List.any_eq_true:=@List.any_eq_true
theorem ad9:type_of% @Nat.ne_of_lt:=@Nat.ne_of_lt
theorem aea:type_of% @List.mem_replicate:=@List.mem_replicate
theorem aeb:type_of% @Nat.div_lt_of_lt_mul:=@Nat.div_lt_of_lt_mul
theorem aec:type_of% @Go.setRow_heap:=@Go.setRow_heap
theorem aek:type_of% @List.take_zero:=@List.take_zero
theorem aen:type_of% @Nat.pow_zero:=@Nat.pow_zero
theorem aeo:type_of% @beq_self_eq_true:=@beq_self_eq_true
theorem aep:type_of% @List.mem_flatMap:=@List.mem_flatMap
theorem aeq:type_of% @List.not_mem_nil:=@List.not_mem_nil
theorem aes:type_of% @Go.Sem.run_bind:=@Go.Sem.run_bind
theorem aet:type_of% @Go.Sem.run_pure:=@Go.Sem.run_pure
theorem aeu:type_of% @Go.below_setRow:=@Go.below_setRow
theorem zq{p:Prop}(h:p):Go.RowKit.Hid p:=h
theorem Go.RowKit.Hid.o{p:Prop}(h:Go.RowKit.Hid p):p:=h
theorem xq{α:Type _}(a:α):∃b,b=a:=⟨a,rfl⟩
theorem xr{α:Type _}(a:α):∃b,a=b:=⟨a,rfl⟩
namespace aw
def BB:Nat:=18446744073709551616
variable {i x:Nat} {l:List Nat}
theorem aC:0<BB:=by unfold BB;omega
def val:List Nat->Nat
 | []=>0
 |x::l=>x+BB*val l
def ok (l:List Nat):Prop:=∀x∈l,x<BB
theorem fE:ok []:=fun x h=>by cases h
theorem Nw (hx:x<BB)(h:ok l):ok (x::l):=fun y E=>by
 rcases abu.1 E with rfl|E
 ·exact hx
 exact h y E
theorem bq (h:ok l)(n:Nat):ok (l.take n):=fun x hx=>h x (abA hx)
theorem di (h:ok l)(n:Nat):ok (l.drop n):=fun x hx=>h x (abV hx)
theorem D6 {a b:List Nat}(ha:ok a)(hb:ok b):ok (a++b):=fun x hx=>by
 rcases aaP.1 hx with h|h
 ·exact ha x h
 exact hb x h
theorem iD (h:ok l)(i:Nat)(hx:x<BB):ok (l.set i x):=fun y hy=>by
 rcases List.mem_or_eq_of_mem_set hy with E|rfl
 ·exact h y E
 exact hx
theorem dm (n:Nat):ok (List.replicate n 0):=fun x hx=>by rw[List.eq_of_mem_replicate hx];exact aC
theorem Y4:∀(a b:List Nat),val (a++b)=val a+BB^a.length*val b
 | [],b=>by simp[val]
 |x::a,b=>by simp only[adp,val,aaq,abf,Y4 a b];rw[aay,aaz (BB^a.length) BB,aaM,abz]
theorem aY (a:List Nat)(x:Nat):val (a++[x])=val a+BB^a.length*x:=by rw[Y4];simp[val]
theorem Xt (h:i<l.length):val (l.take (i+1))=val (l.take i)+BB^i*l[i]:=by rw[aa8 h,aY,aak,aaG (by omega)]
theorem aH (l:List Nat)(i:Nat)(h:i<=l.length):val l=val (l.take i)+BB^i*val (l.drop i):=by have:=Y4 (l.take i) (l.drop i);rw[abG,aak,aaG h]at this;exact this
theorem bE (n:Nat):val (List.replicate n 0)=0:=by
 induction n with
 |zero=>rfl
 |succ n ih=>rw[List.replicate_succ];simp[val,ih]
theorem aN:∀{a:List Nat},ok a->val a<BB^a.length
 | [],_=>by simp[val]
 |x::a,h=>by
  have h1:=h x (by simp);have E:=aN (a:=a) fun d hd=>h d (by simp[hd]);simp only[val,aaq,abf]
  have H:BB*val a+BB<=BB*BB^a.length:=by rw[<-Nat.mul_succ];exact aaT _ E
  rw[aaz (BB^a.length)];omega
def strip (l:List Nat):List Nat:=(l.reverse.dropWhile (· ==0)).reverse
theorem Xk (l:List Nat):strip (l++[0])=strip l:=by simp[strip]
theorem Q0 (l:List Nat)(d:Nat)(h:d≠0):strip (l++[d])=l++[d]:=by simp[strip,h]
theorem Ch:strip []=[]:=rfl
theorem Y9 {P:List Nat->Prop}(h0:P [])(h1:∀l d,P l->P (l++[d]))(l:List Nat):P l:=by
 have:∀m:List Nat,P m.reverse:=by
  intro m
  induction m with
  |nil=>exact h0
  |cons d m ih=>rw[List.reverse_cons];exact h1 _ _ ih
 have h:=this l.reverse
 rwa [List.reverse_reverse]at h
theorem Xj:∀l:List Nat,strip l=l.take (strip l).length/\(strip l).length<=l.length:=by
 apply Y9
 ·exact⟨rfl,aab _⟩
 intro l d ih;by_cases h:d=0
 ·subst h
  rw[Xk];refine⟨?_,by rw[aag];omega⟩;rw[List.take_append_of_le_length ih.2];exact ih.1
 rw[Q0 _ _ h];exact⟨by rw[aby],aab _⟩
theorem ay:∀l:List Nat,val (strip l)=val l:=by
 apply Y9
 ·rfl
 intro l d ih;by_cases h:d=0
 ·subst h
  rw[Xk,ih,aY];simp
 rw[Q0 _ _ h]
theorem Qf (l:List Nat):(strip l).length<=l.length:=(Xj l).2
theorem bJ (h:ok l):ok (strip l):=by rw[(Xj l).1];exact bq h _
theorem bf:∀(l:List Nat) (n:Nat),val l<BB^n->(strip l).length<=n:=by
 apply Y9 (P:=fun l=> ∀n,val l<BB^n->(strip l).length<=n)
 ·intro n _;exact aat _
 intro l d ih n h;by_cases hd:d=0
 ·subst hd
  rw[Xk];rw[aY]at h;exact ih n (by simpa using h)
 rw[Q0 _ _ hd,aag];rw[aY]at h;apply Classical.byContradiction;intro E;simp only[aaq,aa5,aaX,Nat.not_le]at E;have H:BB^n<=BB^l.length:=aa6 aC (by omega);have I:BB^l.length*1<=BB^l.length*d:=aaT _ (by omega);omega
theorem bt:∀(l:List Nat) (n:Nat),(strip l).length=n+1-> ∃d,(strip l)[n]?=F d/\d≠0:=by
 apply Y9 (P:=fun l=> ∀n,(strip l).length=n+1-> ∃d,(strip l)[n]?=F d/\d≠0)
 ·intro n h;simp[Ch]at h
 intro l d ih n h;by_cases hd:d=0
 ·subst hd
  rw[Xk]at h ⊢;exact ih n h
 rw[Q0 _ _ hd]at h ⊢;rw[aag]at h;simp only[aaq,aa5]at h
 obtain rfl:n=l.length:=by omega
 exact⟨d,by simp,hd⟩
theorem iE {n:Nat}(hn:n<=l.length)(h:strip (l.take n)=strip l)(h0:∀m,n=m+1->l[m]?=F 0):n=0\/strip (l.take (n-1))=strip l:=by
 cases n with
 |zero=>exact .inl rfl
 |succ m=>
  right;have E:=h0 m rfl
  have H:m<l.length:=by omega
  have I:l[m]=0:=by rw[aad H]at E;exact aav E
  rw[abW];rw[aa8 H,I,Xk]at h;exact h
theorem Vw {n:Nat}(hn:n<=l.length)(h:strip (l.take n)=strip l)(h0:n=0\/ ∃m x,n=m+1/\l[m]?=F x/\x≠0):(strip l).length=n:=by
 rcases h0 with rfl|⟨m,x,rfl,E,I⟩
 ·rw[<-h];rfl
 have H:m<l.length:=by omega
 have J:l[m]=x:=by rw[aad H]at E;exact aav E
 rw[aa8 H,J,Q0 _ _ I]at h;rw[<-h,aag,aak,aaG (by omega)];rfl
theorem Dp {P X Y am y c s c':Nat}(h:am+P*c=X+Y)(hs:s+BB*c'=x+y+c):(am+P*s)+P*BB*c'=(X+P*x)+(Y+P*y):=by
 have E:P*s+P*(BB*c')=P*x+P*y+P*c:=by rw[<-aay,hs,aay,aay]
 rw[aaM];omega
theorem Jq {o:Nat}(x:Nat)(h:o<=i):(l.set i x).take o=l.take o:=by rw[List.take_set,List.set_eq_of_length_le];rw[aak];omega
theorem Js (x:Nat):(l.set i x).drop (i+1)=l.drop (i+1):=by rw[List.drop_set_of_lt (by omega)]
theorem Rx {o:Nat}(x:Nat)(h:o+i<l.length):((l.set (o+i) x).drop o).take (i+1)=(l.drop o).take i++[x]:=by
 have E:(l.set (o+i) x).drop o=(l.drop o).set i x:=by rw[List.drop_set];rw[if_neg (by omega),Nat.add_sub_cancel_left]
 rw[E,aa8 (by rw[abb,aan];omega),Jq x (aab i)];simp
end aw
namespace aw
variable {M xs ys:List Nat} {cc k x z:Nat}
theorem kN:∀(l:List Nat) (i s:Nat) (h:i<l.length),val (l.set i s)+BB^i*l[i]=val l+BB^i*s
 | [],i,s,h=>by simp at h
 |x::l,0,s,h=>by simp[val];omega
 |x::l,i+1,s,h=>by
  have ih:=kN l i s (by simpa using h);simp only[List.set_cons_succ,val,List.getElem_cons_succ,abf]
  have e:∀q,BB^i*BB*q=BB*(BB^i*q):=fun q=>by rw[aaz (BB^i) BB,aaM]
  rw[e,e]
  have:BB*val (l.set i s)+BB*(BB^i*l[i]'(by simpa using h))=BB*val l+BB*(BB^i*s):=by rw[<-aay,ih,aay]
  omega
theorem Qzs {l:List Nat}{i s:Nat}(h:l[i]?=F z):val (l.set i s)+BB^i*z=val l+BB^i*s:=by obtain⟨E,H⟩:=aaf.1 h;have:=kN l i s E;rw[H]at this;exact this
theorem Qpq {y hi lo s1 c1 h2 s2 c2:Nat}(hx:x<BB)(hy:y<BB)(hz:z<BB)(hc:cc<BB)(hp:hi*BB+lo=x*y)(h1:s1+BB*c1=lo+cc)(h3:h2=hi+c1)(h4:s2+BB*c2=z+s1):h2<BB/\s2+BB*(h2+c2)=z+x*y+cc/\h2+c2<BB:=by have h:x*y<=18446744073709551615*18446744073709551615:=aa3 (by unfold BB at hx;omega) (by unfold BB at hy;omega);unfold BB at*;refine⟨by omega,by omega,by omega⟩
def oQ (M0 ys:List Nat)(k x j cc:Nat)(M:List Nat):Prop:=
 M.length=M0.length/\(∀q,k+ys.length<=q->M[q]?=M0[q]?)/\val M+BB^(k+j)*cc=val M0+BB^k*(x*val (ys.take j))
theorem oQ.start (M0 ys:List Nat)(k x:Nat):oQ M0 ys k x 0 0 M0:=⟨rfl,fun _ _=>rfl,by simp[val]⟩
theorem oQ.step {M0:List Nat}{j y s cc':Nat}(h:oQ M0 ys k x j cc M)(hz:M[k+j]?=F z)(hy:ys[j]?=F y)(hs:s+BB*cc'=z+x*y+cc):oQ M0 ys k x (j+1) cc' (M.set (k+j) s):=by
 obtain⟨I,J,K⟩:=h;obtain⟨E,H⟩:=aaf.1 hy;refine⟨by rw[abb,I],fun q hq=> ?_,?_⟩
 ·rw[List.getElem?_set_ne (by omega)];exact J q hq
 have e1:=Qzs (s:=s) hz;have e2:=Xt E;rw[H]at e2;rw[e2,<-abz,abf]
 have e3:BB^k*(x*(val (ys.take j)+BB^j*y))=BB^k*(x*val (ys.take j))+BB^(k+j)*(x*y):=by rw[aay,aay,abM];congr 1;rw[abO x,aaM]
 rw[e3];generalize BB^(k+j)=P at*
 have e4:P*s+P*(BB*cc')=P*z+P*(x*y)+P*cc:=by rw[<-aay,hs,aay,aay]
 rw[aaM];omega
def Wo (xs ys:List Nat)(k:Nat)(M:List Nat):Prop:=
 M.length=xs.length+ys.length/\(∀q,k+ys.length<=q->q<M.length->M[q]?=F 0)/\val M=val (xs.take k)*val ys
theorem Wo.start (xs ys:List Nat):Wo xs ys 0 (List.replicate (xs.length+ys.length) 0):=
 ⟨aaZ,fun q _ hq=>by rw[aaZ]at hq;simp[hq],by rw[bE];simp[val]⟩
theorem Wo.zero (h:Wo xs ys k M)(hx:xs[k]?=F 0):Wo xs ys (k+1) M:=by obtain⟨E,H,I⟩:=h;obtain⟨J,K⟩:=aaf.1 hx;refine⟨E,fun q hq hl=>H q (by omega) hl,?_⟩;rw[Xt J,K,I];simp
theorem Wo.row {M0:List Nat}(h:Wo xs ys k M0)(hx:xs[k]?=F x)(hi:oQ M0 ys k x ys.length cc M):Wo xs ys (k+1) (M.set (k+ys.length) cc)/\M[k+ys.length]?=F 0:=by
 obtain⟨I,E,J⟩:=h;obtain⟨i1,i2,i3⟩:=hi;obtain⟨K,bi⟩:=aaf.1 hx
 have H:M[k+ys.length]?=F 0:=by rw[i2 _ (aab _)];exact E _ (aab _) (by omega)
 refine⟨⟨by rw[abb,i1,I],fun q hq hl=> ?_,?_⟩,H⟩
 ·rw[List.getElem?_set_ne (by omega),i2 q (by omega)]
  rw[abb]at hl;exact E q (by omega) (by omega)
 have e1:=Qzs (s:=cc) H;rw[aby]at i3;rw[Xt K,bi,abd,<-J];have e2:BB^k*x*val ys=BB^k*(x*val ys):=aaM _ _ _;rw[e2,<-i3];simp only[abI,aba]at e1;omega
theorem Wo.done (h:Wo xs ys xs.length M):M.length=xs.length+ys.length/\val M=val xs*val ys:=by obtain⟨H,_,E⟩:=h;rw[aby]at E;exact⟨H,E⟩
theorem Sz {V W P c:Nat}(h:V+P*c=W)(hW:W<P):c=0/\V=W:=by
 cases c with
 |zero=>exact⟨rfl,by simpa using h⟩
 |succ c=>rw[Nat.mul_succ]at h;omega
theorem Qda:2<=BB:=by unfold BB;omega
theorem Qph {a b m:Nat}(ha:a<BB^m)(hb:b<BB^m):a+b<BB^(m+1):=by rw[abf];have h:=aaT (BB^m) Qda;generalize BB^m*BB=Q at*;generalize BB^m=P at*;omega
end aw
namespace aw
variable {L Lh Ll Lm M M2 xs ys:List Nat} {h:Nat}
theorem Qjt (A0 A1 B0 B1:Nat):(A0+A1)*(B0+B1)=A0*B0+A1*B1+(A0*B1+A1*B0):=by rw[abd,aay,aay];omega
theorem Qzt (A0 A1 B0 B1 P:Nat):(A0+P*A1)*(B0+P*B1)=A0*B0+P*P*(A1*B1)+P*(A0*B1+A1*B0):=by
 rw[abd,aay,aay]
 have e1:A0*(P*B1)=P*(A0*B1):=by rw[abO]
 have e2:P*A1*B0=P*(A1*B0):=aaM _ _ _
 have e3:P*A1*(P*B1)=P*P*(A1*B1):=by rw[aaM,aaM,abO A1]
 rw[e1,e2,e3,aay];omega
theorem Jy (hx:ok xs)(hy:ok ys):val xs*val ys<BB^(xs.length+ys.length):=by rw[abM];exact Nat.mul_lt_mul_of_lt_of_le (aN hx) (aa1 (aN hy)) (abC aC)
theorem Jb (l:List Nat){n:Nat}(h:val l<BB^n):(strip l).length<=n:=bf l n h
structure Half (xs ys:List Nat) (h:Nat):Prop where
 Ol:ok xs
 Om:ok ys
 hx:h<=xs.length
 hy:h<=ys.length
theorem Half.vx (H:Half xs ys h):val xs=val (xs.take h)+BB^h*val (xs.drop h):=aH xs h H.hx
theorem Half.vy (H:Half xs ys h):val ys=val (ys.take h)+BB^h*val (ys.drop h):=aH ys h H.hy
theorem Half.r9 (H:Half xs ys h)(hL:val L=val (xs.take h)*val (ys.take h)):(strip L).length<=2*h:=by refine Jb L ?_;have:=Jy (bq H.Ol h) (bq H.Om h);rw[aak,aak,aaG H.hx,aaG H.hy]at this;rw[hL,show 2*h=h+h from by omega];exact this
theorem Half.wE (H:Half xs ys h)(hL:val L=val (xs.drop h)*val (ys.drop h)):(strip L).length<=xs.length+ys.length-2*h:=by refine Jb L ?_;have:=Jy (di H.Ol h) (di H.Om h);rw[aan,aan]at this;have E:=H.hx;have I:=H.hy;rw[hL,show xs.length+ys.length-2*h=xs.length-h+(ys.length-h) from by omega];exact this
theorem Half.ahs (hm:ok Lm)(hv:val Lm=(val (xs.take h)+val (xs.drop h))*(val (ys.take h)+val (ys.drop h)))(hl:val Ll=val (xs.take h)*val (ys.take h)):val (strip Ll)<=val Lm/\(strip Ll).length<=Lm.length:=by
 have E:val Ll<=val Lm:=by rw[hv,hl,Qjt];omega
 exact⟨by rw[ay];exact E,Jb Ll (abp E (aN hm))⟩
theorem Half.aht {M1:List Nat}(hm:ok M1)(hv:val Lm=(val (xs.take h)+val (xs.drop h))*(val (ys.take h)+val (ys.drop h)))(hl:val Ll=val (xs.take h)*val (ys.take h))(hh:val Lh=val (xs.drop h)*val (ys.drop h))
  (h1:val M1+val (strip Ll)=val Lm):val (strip Lh)<=val M1/\(strip Lh).length<=M1.length:=by
 have E:val Lh<=val M1:=by rw[ay,hv,hl,Qjt]at h1;rw[hh];omega
 exact⟨by rw[ay];exact E,Jb Lh (abp E (aN hm))⟩
theorem Half.mid {M1:List Nat}(hv:val Lm=(val (xs.take h)+val (xs.drop h))*(val (ys.take h)+val (ys.drop h)))(hl:val Ll=val (xs.take h)*val (ys.take h))(hh:val Lh=val (xs.drop h)*val (ys.drop h))
  (h1:val M1+val (strip Ll)=val Lm) (h2:val M2+val (strip Lh)=val M1):val M2=val (xs.take h)*val (ys.drop h)+val (xs.drop h)*val (ys.take h):=by
 rw[ay,hv,hl,Qjt]at h1;rw[ay,hh]at h2;omega
theorem Half.BL (H:Half xs ys h)(hv:val M2=val (xs.take h)*val (ys.drop h)+val (xs.drop h)*val (ys.take h)):(strip M2).length<=xs.length+ys.length-h:=by
 refine Jb M2 ?_;have E:=Jy H.Ol H.Om;rw[H.vx,H.vy,Qzt,<-hv]at E;have J:=H.hx
 have I:BB^(xs.length+ys.length)=BB^h*BB^(xs.length+ys.length-h):=by rw[<-abM];congr 1;omega
 rw[I]at E;exact Nat.lt_of_mul_lt_mul_left (a:=BB^h) (by omega)
theorem Half.aeV {N:Nat}(H:Half xs ys h)(hN:N=xs.length+ys.length)(hl:val Ll=val (xs.take h)*val (ys.take h))(hh:val Lh=val (xs.drop h)*val (ys.drop h)){am:List Nat}(hZ:am=strip Ll++List.replicate (N-(strip Ll).length) 0)
  (hM:M.length=am.length) (ht:M.take (2*h)=am.take (2*h)) (hc:∃c,val (M.drop (2*h))+BB^(am.length-2*h)*c=val (am.drop (2*h))+val (strip Lh)):
  M.length=N/\val M=val (xs.take h)*val (ys.take h)+BB^h*BB^h*(val (xs.drop h)*val (ys.drop h)):=by
 have aE:=H.hx;have h2:=H.hy;have K:=H.r9 hl
 have I:am.length=N:=by rw[hZ,aag,aaZ];omega
 have E:val (am.drop (2*h))=0:=by rw[hZ,List.drop_append,aaC K,abv,List.drop_replicate,bE]
 have J:val (am.take (2*h))=val (xs.take h)*val (ys.take h):=by
  have e:=aH am (2*h) (by omega);rw[E]at e
  have e2:val am=val (strip Ll):=by rw[hZ,Y4,bE];simp
  rw[e2,ay,hl]at e
  simpa using e.symm
 obtain⟨c,hc⟩:=hc;rw[E,aaX,ay,hh,I]at hc
 have bi:val (xs.drop h)*val (ys.drop h)<BB^(N-2*h):=by have:=Jy (di H.Ol h) (di H.Om h);rw[aan,aan]at this;rw[show N-2*h=xs.length-h+(ys.length-h) from by omega];exact this
 obtain⟨_,T⟩:=Sz hc bi;refine⟨by rw[hM,I],?_⟩;rw[aH M (2*h) (by omega),ht,J,T,<-abM,show h+h=2*h from by omega]
theorem Half.aeW {am:List Nat}(H:Half xs ys h)(hZ:am.length=xs.length+ys.length)(hv:val am=val (xs.take h)*val (ys.take h)+BB^h*BB^h*(val (xs.drop h)*val (ys.drop h)))
  (hm:val Lm=val (xs.take h)*val (ys.drop h)+val (xs.drop h)*val (ys.take h))
  (hM:M2.length=am.length) (ht:M2.take h=am.take h) (hc:∃c,val (M2.drop h)+BB^(am.length-h)*c=val (am.drop h)+val (strip Lm)):
  M2.length=xs.length+ys.length/\val M2=val xs*val ys:=by
 have E:=H.hx;refine⟨by rw[hM,hZ],?_⟩;obtain⟨c,hc⟩:=hc;have e1:=aH M2 h (by omega);have e2:=aH am h (by omega);rw[ht]at e1
 have e3:val M2+BB^am.length*c=val am+BB^h*val (strip Lm):=by
  have:BB^am.length=BB^h*BB^(am.length-h):=by rw[<-abM];congr 1;omega
  rw[this,aaM,e1,e2,abz,<-aay,hc,aay,abz]
 have e4:val am+BB^h*val (strip Lm)=val xs*val ys:=by rw[ay,hm,hv,H.vx,H.vy,Qzt]
 rw[e4,hZ]at e3;exact(Sz e3 (Jy H.Ol H.Om)).2
def gQ (xs ys:List Nat)(i:Nat)(M:List Nat):Prop:=M.length=xs.length+ys.length/\val M=val (xs.take i)*val ys
theorem gQ.start (xs ys:List Nat):gQ xs ys 0 (List.replicate (xs.length+ys.length) 0):=⟨aaZ,by rw[bE];simp[val]⟩
theorem gQ.step {P:List Nat}{i e:Nat}(hx:ok xs)(hy:ok ys)(h:gQ xs ys i L)(dD:i<=e)(he:e<=xs.length)(hP:val P=val ((xs.drop i).take (e-i))*val ys)
  (hM:M.length=L.length) (ht:M.take i=L.take i) (hc:∃c,val (M.drop i)+BB^(L.length-i)*c=val (L.drop i)+val (strip P)):gQ xs ys e M:=by
 obtain⟨E,H⟩:=h;refine⟨by rw[hM,E],?_⟩;obtain⟨c,hc⟩:=hc;have e1:=aH M i (by omega);have e2:=aH L i (by omega);rw[ht]at e1
 have e3:val M+BB^L.length*c=val L+BB^i*val (strip P):=by
  have:BB^L.length=BB^i*BB^(L.length-i):=by rw[<-abM];congr 1;omega
  rw[this,aaM,e1,e2,abz,<-aay,hc,aay,abz]
 have e4:val L+BB^i*val (strip P)=val (xs.take e)*val ys:=by have e5:=aH (xs.take e) i (by rw[aak];omega);rw[acx,aaG dD,List.drop_take]at e5;rw[ay,hP,H,e5,abd,aaM]
 rw[e4,E]at e3;refine(Sz e3 ?_).2;have I:=Jy (bq hx e) hy;refine aal I (aa6 aC ?_);rw[aak];omega
theorem gQ.done (h:gQ xs ys xs.length M):M.length=xs.length+ys.length/\val M=val xs*val ys:=by obtain⟨H,E⟩:=h;rw[aby]at E;exact⟨H,E⟩
theorem Cz {P:List Nat}{i e:Nat}(hx:ok xs)(hy:ok ys)(he:e<=xs.length)(hP:val P=val ((xs.drop i).take (e-i))*val ys)(dD:i<=e):(strip P).length<=xs.length+ys.length-i:=by refine Jb P ?_;have:=Jy (bq (di hx i) (e-i)) hy;rw[hP];refine aal this (aa6 aC ?_);rw[aak,aan];omega
end aw
namespace aw
def bC (ds:List Nat):Nat:=ds.foldl (fun a x=>a*10+x) 0
variable {n:Nat}
theorem Mg:∀(b:List Nat) (a:Nat),b.foldl (fun a x=>a*10+x) a=a*10^b.length+bC b
 | [],a=>by simp[bC]
 |x::b,a=>by have h1:=Mg b (a*10+x);have h:=Mg b (0*10+x);have e:bC (x::b)=b.foldl (fun a x=>a*10+x) (0*10+x):=rfl;rw[List.foldl_cons,h1,e,h,aaq,abf,acH,aaX,abd,aaM,aaz 10,abz]
theorem T4 (a b:List Nat):bC (a++b)=bC a*10^b.length+bC b:=by unfold bC;rw[List.foldl_append];exact Mg b _
theorem Mx {a:List Nat}{x:Nat}:bC (a++[x])=bC a*10+x:=by rw[T4];simp[bC]
theorem U2 {ds:List Nat}(h:∀x∈ds,x<10):bC ds<10^ds.length:=by refine Y9 (P:=fun ds=>(∀x∈ds,x<10)->bC ds<10^ds.length) (fun _=>by simp[bC]) (fun l d ih h=> ?_) ds h;have E:=ih fun x hx=>h x (by simp[hx]);have H:=h d (by simp);rw[Mx,aag,aaq,aa5,abf];omega
theorem Gc {ds:List Nat}{i x:Nat}(h:ds[i]?=F x):bC (ds.take (i+1))=bC (ds.take i)*10+x:=by rw[aaI,h];exact Mx
theorem Qdr (n:Nat):10^n<=BB^n:=Nat.pow_le_pow_left (by unfold BB;omega) n
theorem Ab (h:n<=19):10^n<BB:=by
 have E:10^n<=10^19:=aa6 (by omega) h
 have H:(10:Nat)^19<BB:=by unfold BB;decide
 omega
theorem Sr {l:List Nat}(hs:strip l=l)(h:val l<10^n):l.length<=n:=by have:=bf l n (aal h (Qdr n));rw[hs]at this;exact this
theorem Gu {l:List Nat}(hs:strip l=l)(h:val l<=10^n):l.length<=n+1:=by refine Sr hs (abp h ?_);rw[abf];have:0<10^n:=abC (by omega);omega
theorem Qjj (ds:List Nat)(i:Nat)(h:i<=ds.length):bC ds=bC (ds.take i)*10^(ds.length-i)+bC (ds.drop i):=by have:=T4 (ds.take i) (ds.drop i);rw[abG,aan]at this;exact this
def cX (c:Nat):Nat:=if 48<=c/\c<=57 then c-48 else if 97<=c/\c<=122 then c-87 else if 65<=c/\c<=90 then c-55 else 36
end aw
namespace aw
def dg (n:Nat):List Nat:=if n=0 then [] else dg (n / 10)++[n % 10]
termination_by n
decreasing_by omega
variable {n w:Nat}
theorem Jz:dg 0=[]:=by rw[dg];rfl
theorem Vf (h:0<n):dg n=dg (n / 10)++[n % 10]:=by rw[dg,if_neg (by omega)]
theorem Qgg:∀n,∀x∈dg n,x<10:=by
 intro n
 induction n using Nat.strongRecOn with
 |ind n ih=>
  intro x E;by_cases h:n=0
  ·subst h;rw[Jz]at E;cases E
  rw[Vf (by omega)]at E;rcases aaP.1 E with E|E
  ·exact ih (n / 10) (by omega) x E
  simp at E;omega
theorem Qbz (n:Nat):bC (dg n)=n:=by
 induction n using Nat.strongRecOn with
 |ind n ih=>
  by_cases h:n=0
  ·subst h;rw[Jz];rfl
  rw[Vf (by omega),Mx,ih (n / 10) (by omega)];omega
def fw (n:Nat):Nat->List Nat
 |0=>[]
 |w+1=>fw (n / 10) w++[n % 10]
theorem Qdv (n:Nat):∀w,(fw n w).length=w:=by
 intro w
 induction w generalizing n with
 |zero=>rfl
 |succ w ih=>rw[fw,aag,ih];rfl
theorem Qbc (w:Nat):fw 0 w=List.replicate w 0:=by
 induction w with
 |zero=>rfl
 |succ w ih=>rw[fw,Nat.zero_div,ih,<-List.replicate_succ']
def pad (n w:Nat):List Nat:=List.replicate (w-(dg n).length) 0++dg n
theorem V9 (h:n<10^w):(dg n).length<=w:=by
 induction w generalizing n with
 |zero=>
  have:n=0:=by rw[aen]at h;omega
  subst this;rw[Jz];exact aab _
 |succ w ih=>
  by_cases h0:n=0
  ·subst h0;rw[Jz];exact aat _
  rw[Vf (by omega),aag];have:=ih (n:=n / 10) (by rw[abf]at h;omega);simp only[aaq,aa5];omega
theorem Qms (h:n<10^w):pad n w=fw n w:=by
 induction w generalizing n with
 |zero=>
  have:n=0:=by rw[aen]at h;omega
  subst this;simp[pad,Jz,fw]
 |succ w ih=>
  by_cases h0:n=0
  ·subst h0;rw[Qbc];simp[pad,Jz]
  have E:n / 10<10^w:=by rw[abf]at h;omega
  have H:=ih E;rw[fw,<-H,pad,pad,Vf (by omega:0<n),aag,aaq,aa5];rw[show w+1-((dg (n / 10)).length+(0+1))=w-(dg (n / 10)).length from by omega,aaW]
theorem Qgm {q r l:Nat}(hq:0<q)(hr:r<10^l):dg (q*10^l+r)=dg q++fw r l:=by
 induction l generalizing r with
 |zero=>
  have:r=0:=by rw[aen]at hr;omega
  subst this;simp[fw]
 |succ l ih=>
  have E:0<10^l:=abC (by omega);have H:0<q*10^l:=ack hq E
  have e:q*10^(l+1)+r=10*(q*10^l)+r:=by rw[abf,<-aaM,aaz _ 10]
  have h:r / 10<10^l:=by rw[abf]at hr;omega
  have e2:(10*(q*10^l)+r) / 10=q*10^l+r / 10:=by omega
  have e3:(10*(q*10^l)+r) % 10=r % 10:=by omega
  rw[e,Vf (by omega),e2,e3,ih h,fw,aaW]
theorem D8 {q r l:Nat}(hq:0<q)(hr:r<10^l):pad (q*10^l+r) w=pad q (w-l)++fw r l:=by rw[pad,Qgm hq hr,aag,Qdv,pad,<-aaW];rw[show w-((dg q).length+l)=w-l-(dg q).length from by omega]
def gq (aE V:Nat):Nat:=min (BB-1) (aE / V)
theorem Qga {aE V P u3 v2 ul vl:Nat}(hU:aE=u3*P+ul)(hul:ul<P)(hV:V=v2*P+vl)(kK:vl<P)(hlt:aE<V*BB)(hv2:BB<=v2):aE / V<=gq u3 v2/\gq u3 v2<=aE / V+1:=by
 have T:0<P:=by omega
 have hB:=aC
 have h:0<v2:=by omega
 have E:0<V:=by rw[hV];have:=ack h T;omega
 constructor
 ·unfold gq
  refine Nat.le_min.2 ⟨?_,?_⟩
  ·have:aE / V<BB:=(abN E).2 (by rw[aaz];exact hlt)
   omega
  rw[adx h];have H:aE / V*V<=aE:=Nat.div_mul_le_self aE V
  have bi:aE / V*v2*P<=aE / V*V:=by rw[aaM];exact aaT _ (by rw[hV];omega)
  have I:aE<(u3+1)*P:=by rw[hU,abd,abR];omega
  have J:aE / V*v2*P<(u3+1)*P:=by omega
  have h5:=Nat.lt_of_mul_lt_mul_right J;omega
 have K:gq u3 v2<=u3 / v2:=Nat.min_le_right _ _;have am:gq u3 v2<=BB-1:=Nat.min_le_left _ _;generalize gq u3 v2=g at*
 cases g with
 |zero=>exact aat _
 |succ g=>
  have H:(g+1)*v2<=u3:=(adx h).1 K;have bi:(g+1)*v2*P<=u3*P:=aaS P H
  have I:g*V<=aE:=by
   have e1:(g+1)*v2*P=g*(v2*P)+v2*P:=by rw[aaM,abd,abR]
   have e2:g*V=g*(v2*P)+g*vl:=by rw[hV,aay]
   have J:g*vl<=v2*P:=aa3 (by omega) (by omega);omega
  have:=(adx E).2 I;omega
end aw
namespace aw
section TI
variable {W u0 v1 v0 d rest:Nat}
theorem Qjh:d*(v1*BB+v0)=d*v1*BB+d*v0:=by rw[aay,aaM]
theorem Bp (h:d*v1+rest=W)(hd:d<BB)(ht:d*v0<=rest*BB+u0)(hg:gq (W*BB+u0) (v1*BB+v0)<=d)(hv:0<v1):gq (W*BB+u0) (v1*BB+v0)=d:=by
 have E:0<v1*BB+v0:=by have:=ack hv aC;omega
 refine Nat.le_antisymm hg ?_;unfold gq;refine Nat.le_min.2 ⟨by omega,?_⟩;rw[adx E,Qjh,<-h,abd];omega
theorem Qbl (h:d*v1+rest=W)(ht:rest*BB+u0<d*v0)(hv:0<v1):gq (W*BB+u0) (v1*BB+v0)<=d-1:=by
 have E:0<v1*BB+v0:=by have:=ack hv aC;omega
 refine aar (Nat.min_le_right _ _) ?_
 have:(W*BB+u0) / (v1*BB+v0)<d:=by rw[abN E,Qjh,<-h,abd];omega
 omega
theorem Qkr (h:d*v1+rest=W)(hd:d<BB)(hv0:v0<BB)(hr:BB<=rest)(hg:gq (W*BB+u0) (v1*BB+v0)<=d)(hv:0<v1):gq (W*BB+u0) (v1*BB+v0)=d:=by refine Bp h hd ?_ hg hv;have E:d*v0<=BB*BB:=aa3 (by omega) (by omega);have H:BB*BB<=rest*BB:=aaS _ hr;omega
theorem Qge (hu:u0<BB)(hv:0<v1):gq (W*BB+u0) (v1*BB+v0)<=W / v1:=by
 have H:0<v1*BB+v0:=by have:=ack hv aC;omega
 refine aar (Nat.min_le_right _ _) ?_
 have:(W*BB+u0) / (v1*BB+v0)<W / v1+1:=by
  rw[abN H,Qjh]
  have h:W<(W / v1+1)*v1:=by have:=Nat.lt_div_mul_add (a:=W) hv;rw[abd,abR];omega
  have E:(W+1)*BB<=(W / v1+1)*v1*BB:=aaS _ h;rw[abd,abR]at E;omega
 omega
theorem Qdk:gq (W*BB+u0) (v1*BB+v0)<=BB-1:=Nat.min_le_left _ _
end TI
theorem jO {an A' P d Vi vi ui u' carry cz hi lo yw c eo:Nat}(hm:hi*BB+lo=d*vi)(ha:lo+carry=yw+c*BB)(hs:ui+eo*BB=u'+yw+cz)
  (h:an+P*(carry+cz)=A'+d*Vi):an+P*ui+P*BB*(hi+c+eo)=A'+P*u'+d*(Vi+P*vi):=by
 have e1:ui+BB*(hi+c+eo)=u'+cz+carry+d*vi:=by rw[aay,aay,aaz BB hi,aaz BB c,aaz BB eo];omega
 have e2:P*ui+P*BB*(hi+c+eo)=P*(ui+BB*(hi+c+eo)):=by rw[aay P ui (BB*(hi+c+eo)),aaM]
 have e3:P*(u'+cz+carry+d*vi)=P*u'+P*(carry+cz)+d*(P*vi):=by rw[show u'+cz+carry+d*vi=u'+(carry+cz)+d*vi from by omega,aay,aay,<-aaM,aaz P d,aaM]
 have e4:d*(Vi+P*vi)=d*Vi+d*(P*vi):=aay _ _ _;rw[abz,e2,e1,e3,e4];omega
theorem Qvu {d vi carry hi lo yw c:Nat}(hd:d<BB)(hv:vi<BB)(hc:carry<BB)(hm:hi*BB+lo=d*vi)(ha:lo+carry=yw+c*BB):hi+c<BB:=by
 have E:d*vi<=(BB-1)*(BB-1):=aa3 (by omega) (by omega)
 have H:(BB-1)*(BB-1)+(BB-1)=(BB-1)*BB:=by
  have:BB=BB-1+1:=by have:=aC;omega
  conv=>rhs;rw[this]
  rw[abW,aay,abZ]
 have h:(hi+c)*BB<=(BB-1)*BB:=by rw[abd];omega
 have I:=Nat.le_of_mul_le_mul_right h aC;have:=aC;omega
theorem Qhl {aE V R g T cz:Nat}(h1:aE / V<=g)(hV:0<V)(h:aE+T*cz=R+g*V)(hl:cz=0):g=aE / V/\R=aE % V:=by subst hl;rw[abI,aba]at h;have H:g<=aE / V:=(adx hV).2 (by omega);have E:g=aE / V:=Nat.le_antisymm H h1;refine⟨E,?_⟩;have:=abP aE V;rw[aaz,<-E]at this;omega
theorem Qpf {aE V R g T:Nat}(h1:aE / V<=g)(h2:g<=aE / V+1)(hV:0<V)(hR:R<T)(h:aE+T=R+g*V):g-1=aE / V/\R+V=aE % V+T:=by
 have H: ¬g=aE / V:=fun e=>by have:=Nat.div_mul_le_self aE V;rw[<-e]at this;omega
 have E:g=aE / V+1:=by omega
 refine⟨by rw[E,abW],?_⟩;rw[E,abd,abR]at h;have:=abP aE V;rw[aaz]at this;omega
end aw
namespace aw
variable {S W b u1 v0 v1:Nat}
theorem Qkf {d rest:Nat}(h:d*v1+rest=W)(ht:d*v0<=rest*b+u1)(hg:(W*b+u1) / (v1*b+v0)<=d)(hv:0<v1*b+v0):(W*b+u1) / (v1*b+v0)=d:=by refine Nat.le_antisymm hg ?_;rw[adx hv,aay,<-h,abd,<-aaM];omega
theorem Qbj {d rest:Nat}(h:d*v1+rest=W)(ht:rest*b+u1<d*v0)(hv:0<v1*b+v0):(W*b+u1) / (v1*b+v0)<=d-1:=by
 have:(W*b+u1) / (v1*b+v0)<d:=by rw[abN hv,aay,<-h,abd,<-aaM];omega
 omega
theorem Qqd (hu:u1<b)(hv:0<v1):(W*b+u1) / (v1*b+v0)<=W / v1:=by
 have I:0<b:=by omega
 have H:0<v1*b+v0:=by have:=ack hv I;omega
 have:(W*b+u1) / (v1*b+v0)<W / v1+1:=by
  rw[abN H,aay,<-aaM]
  have h:W<(W / v1+1)*v1:=by have:=Nat.lt_div_mul_add (a:=W) hv;rw[abd,abR];omega
  have E:(W+1)*b<=(W / v1+1)*v1*b:=aaS _ h;rw[abd,abR]at E;omega
 omega
theorem Qjv {V:Nat}(hW:W<V)(hu:u1<b):(W*b+u1) / V<b:=by rw[abN (by omega)];have:(W+1)*b<=V*b:=aaS _ hW;rw[abd,abR,aaz V b]at this;omega
theorem Qvt {N V u0:Nat}(hb:0<b)(hV:0<V)(hN:N=(W*b+u1)*b+u0):N / V=(W*b+u1) / V*b+((W*b+u1) % V*b+u0) / V/\N % V=((W*b+u1) % V*b+u0) % V:=by
 have h:=abP (W*b+u1) V;generalize (W*b+u1) / V=q at*;generalize (W*b+u1) % V=r at*
 have e:N=V*(q*b)+(r*b+u0):=by rw[hN,<-h,abd,aaM,abz]
 rw[e];exact⟨Nat.mul_add_div hV _ _,Nat.mul_add_mod _ _ _⟩
theorem Qzx {hi lo P T:Nat}(hS:0<S)(hT:T=P*S):(hi*T+lo)*S=(hi*S+lo / P)*T+lo*S % T:=by
 have E:lo*S / T=lo / P:=by rw[hT];exact Nat.mul_div_mul_right _ _ hS
 have h:=abP (lo*S) T;rw[E,aaz T]at h;rw[abd,abd,abz,h,Nat.mul_right_comm]
theorem F9 {N y:Nat}(hS:0<S):N / y=N*S / (y*S)/\N % y=N*S % (y*S) / S:=by refine⟨(Nat.mul_div_mul_right _ _ hS).symm,?_⟩;rw[Nat.mul_mod_mul_right,Nat.mul_div_cancel _ hS]
theorem Qhj {hi lo y P T:Nat}(hP:0<P)(hT:T=P*S)(hh:hi<y)(fW:lo<T):hi*S+lo / P<y*S:=by
 have E:lo / P<S:=by rw[abN hP,aaz,<-hT];exact fW
 have h:(hi+1)*S<=y*S:=aaS _ hh;rw[abd,abR]at h;omega
end aw
namespace ar
abbrev Bytes:=List UInt8
abbrev C:=Option Nat×Bytes
abbrev Tok:=Nat×Bytes×Nat
def Vu (v:Nat):Bool:=v<0xD800||(0xE000<=v && v<=0x10FFFF)
def Xr (b:UInt8):Bool:=b.toNat / 64==2
def dec:Bytes->Option (Nat×Nat)
 | []=>Z
 |b::t=>
  if b.toNat<0x80 then F (b.toNat,1)
  else if b.toNat / 32=6 then
   match t with
   |c::_=>if Xr c && 0x80<=(b.toNat % 32)*64+c.toNat % 64 then F ((b.toNat % 32)*64+c.toNat % 64,2) else Z
   |_=>Z
  else if b.toNat / 16=14 then
   match t with
   |c::d::_=>
    if Xr c && Xr d && 0x800<=(b.toNat % 16)*4096+(c.toNat % 64)*64+d.toNat % 64 && Vu ((b.toNat % 16)*4096+(c.toNat % 64)*64+d.toNat % 64)
    then F ((b.toNat % 16)*4096+(c.toNat % 64)*64+d.toNat % 64,3) else Z
   |_=>Z
  else if b.toNat / 8=30 then
   match t with
   |c::d::f::_=>
    if Xr c && Xr d && Xr f && 0x10000<=(b.toNat % 8)*262144+(c.toNat % 64)*4096+(d.toNat % 64)*64+f.toNat % 64 && Vu ((b.toNat % 8)*262144+(c.toNat % 64)*4096+(d.toNat % 64)*64+f.toNat % 64)
    then F ((b.toNat % 8)*262144+(c.toNat % 64)*4096+(d.toNat % 64)*64+f.toNat % 64,4) else Z
   |_=>Z
  else Z
theorem Uh {l:Bytes}{v n:Nat}(h:dec l=F (v,n)):1<=n/\n<=l.length/\n<=4:=by
 unfold dec at h;split at h
 ·cases h
 rename_i b t;split at h
 ·cases h;simp
 split at h
 ·split at h
  ·split at h<;>simp at h;obtain⟨_,rfl⟩:=h;simp
  cases h
 split at h
 ·split at h
  ·split at h<;>simp at h;obtain⟨_,rfl⟩:=h;simp
  cases h
 split at h
 ·split at h
  ·split at h<;>simp at h;obtain⟨_,rfl⟩:=h;simp
  cases h
 cases h
theorem Qgp {l:Bytes}{v n:Nat}(h:dec l=F (v,n)):v<=0x10FFFF:=by
 unfold dec at h;split at h
 ·cases h
 rename_i b t;split at h
 ·cases h;omega
 split at h
 ·split at h
  ·split at h<;>simp at h;omega
  cases h
 split at h
 ·split at h
  ·split at h<;>simp at h;omega
  cases h
 split at h
 ·split at h
  ·split at h
   ·rename_i E
    simp only[abK,Vu,ac2,abi]at E;simp at h;omega
   cases h
  cases h
 cases h
def oV:Nat->Bytes->List C
 |0,_=>[]
 |_,[]=>[]
 |n+1,b::t=>
  match dec (b::t) with
  |some (v,k)=>(F v,(b::t).take k)::oV n ((b::t).drop k)
  |none=>(Z,[b])::oV n t
def Qz (l:Bytes):List C:=oV l.length l
theorem Qwt:∀(n:Nat) (l:Bytes),l.length<=n->oV n l=oV l.length l:=by
 intro n
 induction n using Nat.strongRecOn with
 |ind n ih=>
  intro l E
  cases l with
  |nil=>cases n<;>rfl
  |cons b t=>
   cases n with
   |zero=>simp at E
   |succ n=>
    simp only[aaq,oV];simp only[aaq]at E
    cases hd:dec (b::t) with
    |none=>
     simp only
     rw[ih n (by omega) t (by omega)]
    |some p=>
     obtain⟨v,k⟩:=p;simp only;have H:=Uh hd
     have h:((b::t).drop k).length=t.length+1-k:=by simp
     rw[ih n (by omega) _ (by rw[h];omega)];by_cases hnt:t.length=n
     ·rw[hnt,ih n (by omega) _ (by rw[h];omega)]
     rw[ih t.length (by omega) _ (by rw[h];omega)]
theorem V8:Qz []=[]:=rfl
theorem Qjq {l:Bytes}{v k:Nat}(h:dec l=F (v,k)):Qz l=(F v,l.take k)::Qz (l.drop k):=by
 cases l with
 |nil=>cases h
 |cons b t=>have E:=Uh h;unfold Qz;simp only[aaq,oV,h];rw[Qwt t.length _ (by simp;omega)]
theorem Qz9 {b:UInt8}{t:Bytes}(h:dec (b::t)=Z):Qz (b::t)=(Z,[b])::Qz t:=by unfold Qz;simp only[aaq,oV,h]
def wid (l:Bytes):Nat:=match dec l with|some (_,k)=>k|none=>1
def val (l:Bytes):Option Nat:=(dec l).map (·.1)
theorem An (l:Bytes):1<=wid l:=by
 unfold wid
 cases h:dec l with
 |none=>simp
 |some p=>obtain⟨v,k⟩:=p;have:=Uh h;simp;omega
theorem Kk {l:Bytes}(hl:l≠[]):wid l<=l.length:=by
 unfold wid
 cases h:dec l with
 |none=>cases l with|nil=>exact absurd rfl hl|cons b t=>simp
 |some p=>obtain⟨v,k⟩:=p;have:=Uh h;simp;omega
theorem Zz {l:Bytes}(hl:l≠[]):Qz l=(val l,l.take (wid l))::Qz (l.drop (wid l)):=by
 cases h:dec l with
 |none=>
  cases l with
  |nil=>exact absurd rfl hl
  |cons b t=>rw[Qz9 h];simp[val,wid,h]
 |some p=>obtain⟨v,k⟩:=p;rw[Qjq h];simp[val,wid,h]
theorem Ug {P:Bytes->Prop}(h0:P [])(h1:∀l,l≠[]->P (l.drop (wid l))->P l):∀l,P l:=by
 intro l
 have:∀n (l:Bytes),l.length<=n->P l:=by
  intro n
  induction n with
  |zero=>intro l h;cases l with|nil=>exact h0|cons _ _=>simp at h
  |succ n ih=>
   intro l h;by_cases he:l=[]
   ·rw[he];exact h0
   refine h1 l he (ih _ ?_);have:=An l;have:=Kk he;simp only[aan];omega
 exact this _ l (aab _)
theorem Yk:∀l:Bytes,(Qz l).length<=l.length:=by
 apply Ug
 ·simp[V8]
 intro l h ih;rw[Zz h];have:=An l;have:=Kk h;simp only[aaq,aan]at ih ⊢;omega
def Qw (cs:List C):Bytes:=cs.flatMap (·.2)
theorem Yi:∀l:Bytes,Qw (Qz l)=l:=by
 apply Ug
 ·rfl
 intro l h ih;rw[Zz h];simp only[Qw,acz]at ih ⊢;rw[ih,abG]
theorem Gp:∀(k:Nat) (l:Bytes),(Qz l).drop k=Qz (l.drop (Qw ((Qz l).take k)).length):=by
 intro k
 induction k with
 |zero=>intro l;simp[Qw]
 |succ k ih=>
  intro l;by_cases hl:l=[]
  ·subst hl;simp[V8,Qw]
  have h:=Zz hl;rw[h];simp only[List.drop_succ_cons,aci,Qw,acz,aag]
  have E:(l.take (wid l)).length=wid l:=by have:=Kk hl;simp;omega
  rw[E,ih,abB];simp only[Qw]
def kindOf (r:Nat):Nat:=
 if r=32\/r=9\/r=0xa0 then 1
 else if r=35 then 2
 else if 48<=r/\r<=57 then 3
 else if (97<=r/\r<=122)\/(65<=r/\r<=90)\/r=95 then 4
 else if r=0x2212\/r=0xd7 then 5
 else if (0xc0<=r/\r<=0x2af/\r≠0xf7)\/(0x370<=r/\r<=0x3ff) then 4
 else if r<0x80/\(r.toUInt8∈([43,45,42,94,39,40,41,91,93,123,125,44,59,58,61]:Bytes)) then 5
 else 6
def kd (c:C):Nat:=match c.1 with|some v=>kindOf v|none=>0
def rn (c:C):Nat:=match c.1 with|some v=>v|none=>0xFFFD
theorem U9 (r:Nat):1<=kindOf r/\kindOf r<=6:=by
 unfold kindOf;repeat' split
 all_goals omega
def Qn (c:C):Bool:=kd c==3||rn c==95
def aX (c:C):Bool:=kd c==3||kd c==4
def Qa (c:C):Bool:=kd c !=0
def Jd (t:Bytes):Bool:=Go.Lib.hasSuffix t [95]||Go.Lib.contains t [95,95]
def Z5 (c:C):Bytes:=if rn c=0x2212 then [45] else if rn c=0xd7 then [42] else c.2
def Qp (p:C->Bool)(cs:List C):Nat:=(cs.takeWhile p).length
abbrev gR:=Except (Nat×Nat) (List Tok)
def gR.after (a:List Tok):gR->gR
 | .ok l=> .ok (a++l)
 | .error e=> .error e
def eB:Nat->Nat->List C->gR
 |0,_,_=> .ok []
 |_,_,[]=> .ok []
 |n+1,col,c::cs=>
  if kd c=1 then eB n (col+1) cs
  else if kd c=2 then
   if Qp Qa (c::cs)<(c::cs).length then .error (col+Qp Qa (c::cs),12) else .ok []
  else if kd c=0 then .error (col,12)
  else if kd c=3 then
   if Jd (Qw ((c::cs).take (Qp Qn (c::cs)))) then .error (col,7)
   else (eB n (col+Qp Qn (c::cs)) ((c::cs).drop (Qp Qn (c::cs)))).after [(1,Qw ((c::cs).take (Qp Qn (c::cs))),col)]
  else if kd c=4 then
   if 32<(Qw ((c::cs).take (Qp aX (c::cs)))).length then .error (col,17)
   else (eB n (col+Qp aX (c::cs)) ((c::cs).drop (Qp aX (c::cs)))).after [(2,Qw ((c::cs).take (Qp aX (c::cs))),col)]
  else if kd c=5 then (eB n (col+1) cs).after [(3,Z5 c,col)]
  else .error (col,13)
theorem gR.eF (a b:List Tok)(r:gR):(r.after b).after a=r.after (a++b):=by
 cases r<;>simp[gR.after]
theorem gR.mP (r:gR):r.after []=r:=by cases r<;>simp[gR.after]
theorem Y8 (p:C->Bool)(cs:List C):Qp p cs<=cs.length:=by
 unfold Qp
 induction cs with
 |nil=>simp
 |cons c cs ih=>simp only[List.takeWhile_cons];split<;>simp;exact ih
theorem Q8 {p:C->Bool}{c:C}{cs:List C}(h:p c=true):1<=Qp p (c::cs):=by simp[Qp,h]
theorem Qpg:∀(n:Nat) (col:Nat) (cs:List C),cs.length<=n->eB n col cs=eB cs.length col cs:=by
 intro n
 induction n using Nat.strongRecOn with
 |ind n ih=>
  intro col cs I
  cases cs with
  |nil=>cases n<;>rfl
  |cons c cs=>
   cases n with
   |zero=>simp at I
   |succ n=>
    simp only[aaq]at I
    have h:∀(m col:Nat) (r:List C),n<=m\/cs.length<=m->r.length<=cs.length->m<=n->eB m col r=eB r.length col r:=by intro m col r K H J;exact ih m (by omega) col r (by omega)
    have e:∀(col:Nat) (r:List C),r.length<=cs.length->eB n col r=eB cs.length col r:=by intro col r H;rw[h n col r (.inl (aab _)) H (aab _),h cs.length col r (.inr (aab _)) H (by omega)]
    have d1:kd c=3->((c::cs).drop (Qp Qn (c::cs))).length<=cs.length:=by intro E;have:=Q8 (p:=Qn) (c:=c) (cs:=cs) (by simp[Qn,E]);simp only[aan,aaq];omega
    have d2:kd c=4->((c::cs).drop (Qp aX (c::cs))).length<=cs.length:=by intro E;have:=Q8 (p:=aX) (c:=c) (cs:=cs) (by simp[aX,E]);simp only[aan,aaq];omega
    simp only[eB,aaq];by_cases k1:kd c=1
    ·rw[if_pos k1,if_pos k1,e _ _ (aab _)]
    rw[if_neg k1,if_neg k1];by_cases k2:kd c=2
    ·rw[if_pos k2,if_pos k2]
    rw[if_neg k2,if_neg k2];by_cases k0:kd c=0
    ·rw[if_pos k0,if_pos k0]
    rw[if_neg k0,if_neg k0];by_cases k3:kd c=3
    ·rw[if_pos k3,if_pos k3,e _ _ (d1 k3)]
    rw[if_neg k3,if_neg k3];by_cases k4:kd c=4
    ·rw[if_pos k4,if_pos k4,e _ _ (d2 k4)]
    rw[if_neg k4,if_neg k4,e _ _ (aab _)]
def aM (col:Nat)(cs:List C):gR:=eB cs.length col cs
theorem Zc (col:Nat):aM col []=.ok []:=rfl
theorem Cb (n:Nat){col:Nat}(cs:List C)(h:cs.length<=n):eB n col cs=aM col cs:=Qpg n col cs h
theorem Jj {c:C}{cs:List C}(col:Nat)(h:kd c=1):aM col (c::cs)=aM (col+1) cs:=by simp only[aM,aaq,eB];rw[if_pos h]
theorem J4 {c:C}{cs:List C}(col:Nat)(h:kd c=2):aM col (c::cs)=if Qp Qa (c::cs)<(c::cs).length then .error (col+Qp Qa (c::cs),12) else .ok []:=by simp only[aM,aaq,eB,h];simp
theorem Wm {c:C}{cs:List C}{col:Nat}(h:kd c=0):aM col (c::cs)=.error (col,12):=by simp only[aM,aaq,eB,h];simp
theorem Wb {c:C}{cs:List C}(col:Nat)(h:kd c=3):aM col (c::cs)=if Jd (Qw ((c::cs).take (Qp Qn (c::cs)))) then .error (col,7)
   else (aM (col+Qp Qn (c::cs)) ((c::cs).drop (Qp Qn (c::cs)))).after [(1,Qw ((c::cs).take (Qp Qn (c::cs))),col)]:=by
 have E:=Q8 (p:=Qn) (c:=c) (cs:=cs) (by simp[Qn,h]);rw[<-Cb cs.length ((c::cs).drop _) (by simp only[aan,aaq];omega)];simp only[aM,aaq,eB,h];simp
theorem J6 {c:C}{cs:List C}(col:Nat)(h:kd c=4):aM col (c::cs)=if 32<(Qw ((c::cs).take (Qp aX (c::cs)))).length then .error (col,17)
   else (aM (col+Qp aX (c::cs)) ((c::cs).drop (Qp aX (c::cs)))).after [(2,Qw ((c::cs).take (Qp aX (c::cs))),col)]:=by
 have E:=Q8 (p:=aX) (c:=c) (cs:=cs) (by simp[aX,h]);rw[<-Cb cs.length ((c::cs).drop _) (by simp only[aan,aaq];omega)];simp only[aM,aaq,eB,h];simp
theorem J5 {c:C}{cs:List C}(col:Nat)(h:kd c=5):aM col (c::cs)=(aM (col+1) cs).after [(3,Z5 c,col)]:=by simp only[aM,aaq,eB,h];simp
theorem Jv {c:C}{cs:List C}(col:Nat)(h:kd c=6):aM col (c::cs)=.error (col,13):=by simp only[aM,aaq,eB,h];simp
theorem Fk (c:C):kd c<=6:=by
 unfold kd;split
 ·exact(U9 _).2
 omega
theorem Rq (p:C->Bool):∀(l:List C) (m:Nat),m<=l.length->(∀c∈l.take m,p c=true)->(∀c,l[m]?=F c->p c=false)->Qp p l=m:=by
 intro l
 induction l with
 |nil=>intro m h _ _;simp at h;subst h;rfl
 |cons d l ih=>
  intro m h E H
  cases m with
  |zero=>simp[Qp,H d (by simp)]
  |succ m=>have I:p d=true:=E d (by simp);have:=ih m (by simpa using h) (fun c hc=>E c (by simp[hc])) (fun c hc=>H c (by simpa using hc));simp only[Qp]at this;simp[Qp,I,this]
theorem Dy (l:Bytes)(i j:Nat)(h:i<=j):(l.drop (Qw ((Qz l).take i)).length).take ((Qw ((Qz l).take j)).length-(Qw ((Qz l).take i)).length)=Qw (((Qz l).drop i).take (j-i)):=by
 have e1:Qw ((Qz l).take i)++Qw ((Qz l).drop i)=l:=by have:=Yi l;simp only[Qw]at*;rw[<-ab0,abG,this]
 have e2:(Qz l).take j=(Qz l).take i++((Qz l).drop i).take (j-i):=by have:=List.take_add (l:=Qz l) (i:=i) (j:=j-i);rw[show i+(j-i)=j from by omega]at this;exact this
 have e3:Qw ((Qz l).drop i)=Qw (((Qz l).drop i).take (j-i))++Qw (((Qz l).drop i).drop (j-i)):=by simp only[Qw];rw[<-ab0,abG]
 have e4:l.drop (Qw ((Qz l).take i)).length=Qw ((Qz l).drop i):=by have E:=List.drop_left (l₁:=Qw ((Qz l).take i)) (l₂:=Qw ((Qz l).drop i));rw[e1]at E;exact E
 rw[e4,e3,e2]
 have e5:(Qw ((Qz l).take i++((Qz l).drop i).take (j-i))).length-(Qw ((Qz l).take i)).length=(Qw (((Qz l).drop i).take (j-i))).length:=by simp only[Qw,ab0,aag];omega
 rw[e5,List.take_left]
theorem V0 (cs:List C)(i:Nat):(Qw (cs.take i)).length<=(Qw cs).length:=by
 have:Qw (cs.take i)++Qw (cs.drop i)=Qw cs:=by simp only[Qw];rw[<-ab0,abG]
 rw[<-this,aag];omega
end ar
namespace ar
open Go Go.RowKit
def X4:Nat->List C->List li
 |_,[]=>[]
 |p,c::cs=> A G (kd c:Nat)::A .i32 (rn c:Nat)::A G p::X4 (p+c.2.length) cs
variable {b n:Nat} {e:TypeId} {v:li} {w:dk} {xs:List li}
theorem Gw:∀(a b:List C) (p:Nat),X4 p (a++b)=X4 p a++X4 (p+(Qw a).length) b:=by
 intro a
 induction a with
 |nil=>intro b p;simp[X4,Qw]
 |cons c cs ih=>intro b p;simp[X4,Qw,ih,abz]
theorem Ti (p:Nat)(c:C):X4 p [c]=[A G (kd c:Nat),A .i32 (rn c:Nat),A G p]:=rfl
theorem Gy:∀(a:List C) (p k:Nat) (c:C),a[k]?=F c->(X4 p a)[k*3]?=F (A G (kd c:Nat))/\(X4 p a)[k*3+1]?=F (A .i32 (rn c:Nat))/\(X4 p a)[k*3+2]?=F (A G (p+(Qw (a.take k)).length:Nat)):=by
 intro a
 induction a with
 |nil=>intro p k c h;simp at h
 |cons d cs ih=>
  intro p k c h
  cases k with
  |zero=>simp at h;subst h;simp[X4,Qw]
  |succ k=>
   simp only[abS]at h;obtain⟨E,H,I⟩:=ih (p+d.2.length) k c h
   have e0:(k+1)*3=k*3+1+1+1:=by omega
   have e1:(k+1)*3+1=k*3+1+1+1+1:=by omega
   have e2:(k+1)*3+2=k*3+2+1+1+1:=by omega
   refine⟨?_,?_,?_⟩
   ·rw[e0];simp only[X4,abS];exact E
   ·rw[e1];simp only[X4,abS];exact H
   rw[e2];simp only[X4,abS,aci,Qw,acz,aag];rw[I];simp only[Qw,abz]
def Xv (l:List Tok):List li:=l.flatMap fun t=>[A G (t.1:Nat),du ⟨t.2.1.toArray⟩,A G (t.2.2:Nat)]
theorem Jo (a b:List Tok):Xv (a++b)=Xv a++Xv b:=by simp[Xv]
theorem Pv:∀(a:List Tok) (k:Nat) (t:Tok),a[k]?=F t->(Xv a)[k*3]?=F (A G (t.1:Nat))/\(Xv a)[k*3+1]?=F (du ⟨t.2.1.toArray⟩)/\(Xv a)[k*3+2]?=F (A G (t.2.2:Nat)):=by
 intro a
 induction a with
 |nil=>intro k t h;simp at h
 |cons d cs ih=>
  intro k t h
  cases k with
  |zero=>simp at h;subst h;simp[Xv]
  |succ k=>
   simp only[abS]at h;obtain⟨E,H,I⟩:=ih k t h
   have e0:(k+1)*3=k*3+1+1+1:=by omega
   have e1:(k+1)*3+1=k*3+1+1+1+1:=by omega
   have e2:(k+1)*3+2=k*3+2+1+1+1:=by omega
   have ec:Xv (d::cs)=A G (d.1:Nat)::du ⟨d.2.1.toArray⟩::A G (d.2.2:Nat)::Xv cs:=rfl;refine⟨?_,?_,?_⟩
   ·rw[e0,ec];simp only[abS];exact E
   ·rw[e1,ec];simp only[abS];exact H
   rw[e2,ec];simp only[abS];exact I
theorem Xh {b':Nat}{size:Nat}(h:w.ownsRow b e size v n xs)(hb:b'<=b):w.ownsRow b' e size v n xs:=by
 refine⟨h.1,?_⟩;rcases h.2 with I|⟨g,E,H,K,J,r⟩
 ·exact .inl I
 exact .inr ⟨g,E,H,K,aar hb J,r⟩
theorem Qy {w':dk}{B:Nat}{size:Nat}(h:w.ownsRow b e size v n xs)(hb:Below B w w')(hB:w.heap.size<=B):w'.ownsRow b e size v n xs:=by
 refine⟨h.1,?_⟩;rcases h.2 with J|⟨g,E,H,bi,K,I,r⟩
 ·exact .inl J
 have T:g<w.heap.size:=(aah.1 I).1;exact .inr ⟨g,E,H,bi,K,by rw[hb.block g (by omega)];exact I,r⟩
theorem om {size:Nat}(h:w.ownsRow b e size v n xs):(v=U Z 0 0/\n=0/\xs=[])\/ ∃g cap,v=U (F ⟨g,0,Z⟩) n cap/\b<=g/\g<w.heap.size/\n<=cap/\cap<=maxLen/\ ∀j,j<n*size->w.cell? ⟨g,j,Z⟩=xs[j]? :=by
 rcases h.2 with ⟨rfl,rfl⟩|⟨g,cap,K,rfl,H,I,J,E,_⟩
 ·exact .inl ⟨rfl,rfl,aau (by simpa using h.1)⟩
 exact .inr ⟨g,cap,rfl,H,(aah.1 I).1,J,E,fun j hj=>h.cellAt j hj⟩
theorem Qg (w:dk)(cs:List li)(t:TypeId)(n:Nat)(hn:n=w.heap.size):∀j u,cs[j]?=F u->(w.alloc (.cells cs.toArray t)).cell? ((⟨n,0,Z⟩:Addr).add j)=F u:=by
 intro j u h;subst hn;rw[Addr.add_lit,adL _ _ _ _ rfl]
 simpa using h
theorem Qj {size:Nat}(h:w.ownsRow b e size v n xs):∃ao cap,v=U ao n cap/\n<=cap/\cap<=maxLen/\(0<n-> ∃g,ao=F ⟨g,0,Z⟩/\b<=g/\g<w.heap.size/\ ∀j,j<n*size->w.cell? ⟨g,j,Z⟩=xs[j]?):=by
 rcases h.2 with ⟨rfl,rfl⟩|⟨g,cap,K,rfl,H,I,J,E,_⟩
 ·exact⟨Z,0,rfl,aab _,aat _,fun h0=>absurd h0 (ado _)⟩
 exact⟨_,cap,rfl,J,E,fun _=>⟨g,rfl,H,(aah.1 I).1,fun j hj=>h.cellAt j hj⟩⟩
end ar
namespace Go.Proofs.YtgfmiladfeoldaaGreatDoor
open Go.RowKit aw ar
variable {B cap g x:Nat} {L xs:List Nat} {ao:Option Addr} {v:li} {w w':dk}
theorem Wl {a b:Int}(h:a=b):Ending.returned (A G a)=co (A G b):=by rw[h]
def ws (l:List Nat):List li:=l.map fun d=> A gE (d:Nat)
theorem Ze (l:List Nat):(ws l).length=l.length:=by simp[ws]
theorem Qub {l:List Nat}{i:Nat}(h:l[i]?=F x):(ws l)[i]?=F (A gE x):=by simp[ws,h]
theorem Qv3 {l:List Nat}:∀u∈ws l,u.oneCell'=true:=by intro u h;simp only[ws,abw]at h;obtain⟨d,_,rfl⟩:=h;rfl
theorem Tryz.r5:(Tryz.prog.info? 101).map (fun i=>(i.zero,i.size,i.bytes))=F (F (A gE 0),1,8):=by kernel_rfl
theorem Tryz.qW:(Tryz.prog.info? 101).map (·.size)=F 1:=by kernel_rfl
def Rd (w:dk)(v:li)(xs:List Nat):Prop:=
 (∀k,v.ownBlock=F k->k<w.heap.size)/\ ∃ao cap,v=U ao xs.length cap/\xs.length<=cap/\cap<=maxLen/\ok xs/\ ∀i x,xs[i]?=F x-> ∃g o,ao=F ⟨g,o,Z⟩/\w.cell? ⟨g,o+i,Z⟩=F (A gE (x:Nat))
theorem Rd.kept {row:Option Nat}(h:Rd w v xs)(hg:w.grownBy w' row)(hne:∀k,row=F k->v.ownBlock≠F k):Rd w' v xs:=by obtain⟨H,ao,E,rfl,I,J,K,bi⟩:=h;refine⟨fun k hk=>aal (H k hk) hg.size,ao,E,rfl,I,J,K,fun i x hx=> ?_⟩;obtain⟨g,o,rfl,T⟩:=bi i x hx;exact⟨g,o,rfl,hg.cell T (fun e=>hne g e.symm rfl)⟩
theorem Rd.below (h:Rd w v xs)(hb:Below w.heap.size w w'):Rd w' v xs:=
 h.kept (row:=Z) ⟨hb.os,hb.tape,hb.output,hb.size,fun k hk _=>hb.block k hk⟩ (fun k hk=>by cases hk)
theorem Rd.drewN (h:Rd w v xs)(n:Nat):Rd (w.drewN n) v xs:=
 h.below ⟨rfl,rfl,rfl,aab _,fun _ _=>rfl⟩
theorem Rd.alloc (h:Rd w v xs)(o:Obj):Rd (w.alloc o) v xs:=
 h.below ((aaw _ _).alloc (aab _) o)
theorem Rd.nil (w:dk):Rd w (U Z 0 0) []:=⟨fun k hk=>(by cases hk),Z,0,rfl,aab _,aat _,fE,fun i x h=>by simp at h⟩
theorem Rd.take {len n c:Nat}(h:Rd w (U ao len cap) xs)(hn:n<=xs.length)(hc:n<=c)(hm:c<=cap):Rd w (U ao n c) (xs.take n):=by
 obtain⟨E,ao',cap',e,J,K,H,I⟩:=h;simp only[Value.slice.injEq]at e;obtain⟨rfl,rfl,rfl⟩:=e
 refine⟨fun k hk=>E k (by cases ao<;>first|exact hk|cases hk),ao,c,by rw[aak,aaG hn],by rw[aak];omega,by omega,bq H _,fun i x hx=> ?_⟩
 rw[abE]at hx;split at hx
 ·exact I i x hx
 cases hx
theorem Rd.lt (h:Rd w v xs){k:Nat}(hk:v.ownBlock=F k):k<w.heap.size:=h.1 k hk
theorem Rd.ne (h:Rd w v xs)(hg:w.heap.size<=g):v.ownBlock≠F g:=fun e=>by have:=h.1 g e;omega
def bh (w:dk)(g:Nat)(L:List Nat):Prop:=w.heap[g]?=F (.cells (ws L).toArray 101 (0,0))/\ok L
theorem bh.lt (h:bh w g L):g<w.heap.size:=(aah.1 h.1).1
theorem bh.cell (h:bh w g L){i:Nat}(hx:L[i]?=F x):w.cell? ⟨g,i,Z⟩=F (A gE x):=by rw[aaj w g i _ _ _ h.1];simp[ws,hx]
theorem bh.frozen (h:bh w g L)(i:Nat):w.frozen? ⟨g,i,Z⟩=false:=aax w g i _ _ h.1
theorem bh.set (h:bh w g L)(i:Nat)(hx:x<BB):bh (w.setCell ⟨g,i,Z⟩ (A gE x)) g (L.set i x)/\w.grownBy (w.setCell ⟨g,i,Z⟩ (A gE x)) (F g):=by refine⟨⟨?_,iD h.2 i hx⟩,⟨rfl,rfl,rfl,by simp,fun k _ hk=>aaN w ⟨g,i,Z⟩ k _ (fun e=>hk (by simp[e]))⟩⟩;have:=aao w g i (ws L).toArray 101 (A gE x) h.1;rw[this];simp[ws,List.map_set]
theorem bh.kept {row:Option Nat}(h:bh w g L)(hg:w.grownBy w' row)(hne:row≠F g):bh w' g L:=
 ⟨(hg.block g h.lt (fun e=>hne e.symm)).trans h.1,h.2⟩
theorem bh.below (h:bh w g L)(hb:Below B w w')(hB:g<B):bh w' g L:=⟨(hb.block g hB).trans h.1,h.2⟩
theorem bh.rd (h:bh w g L){o n c:Nat}(ho:o+n<=L.length)(bU:n<=c)(hc:c<=maxLen):Rd w (U (F ⟨g,o,Z⟩) n c) ((L.drop o).take n):=by
 refine⟨fun k hk=>by cases hk;exact h.lt,_,c,by rw[aak,aan,aaG (by omega)],by rw[aak];omega,hc,bq (di h.2 _) _,fun i x hx=>⟨g,o,rfl,h.cell ?_⟩⟩;rw[abE]at hx;split at hx
 ·rw[abg]at hx;exact hx
 cases hx
theorem bh.made (w:dk)(n:Nat):bh (w.alloc (.cells (madeCells #[A gE 0] n) 101)) w.heap.size (List.replicate n 0):=by
 refine⟨?_,dm n⟩
 have h:(w.alloc (.cells (madeCells #[A gE 0] n) 101)).heap[w.heap.size]?=F (.cells (madeCells #[A gE 0] n) 101 (0,0)):=by first|exact aap w _
 rw[h];have E:=toList_madeCells_one (A gE 0) n
 have H:madeCells #[Value.int gE 0] n=(ws (List.replicate n 0)).toArray:=by apply Array.toList_inj.1;rw[E];simp[ws]
 rw[H]
def Fr (B:Nat)(w:dk)(v:li)(xs:List Nat):Prop:=Rd w v xs/\ ∀k,v.ownBlock=F k->B<=k/\k<w.heap.size
theorem Fr.below (h:Fr B w v xs)(hb:Below w.heap.size w w'):Fr B w' v xs:=⟨h.1.below hb,fun k hk=>⟨(h.2 k hk).1,aal (h.2 k hk).2 hb.size⟩⟩
theorem Fr.mono {B':Nat}(h:Fr B w v xs)(hb:B'<=B):Fr B' w v xs:=⟨h.1,fun k hk=>⟨aar hb (h.2 k hk).1,(h.2 k hk).2⟩⟩
def Hc (xs:List Nat)(w:dk)(e:Ending)(w':dk):Prop:=∃v,e=co v/\Fr w.heap.size w' v xs/\Below w.heap.size w w'
theorem X8 (hr:Rd w v xs):ii ca 115 #[v] w fun e w'=>e=co (A G ((strip xs).length:Nat))/\w=w':=by
 obtain⟨ao,cap,rfl,bU,hcm,bm,aS⟩:=hr.2;have HS:=zq aS
 have hm:xs.length<=9223372036854775807:=by unfold maxLen at hcm;omega
 clear aS hcm bm;go_enter func115,ntmps115;go_wp2_with fail;go_loop [3] (fun i=> ∃n:Nat,n<=xs.length/\i=A G n/\strip (xs.take n)=strip xs) (fun i=>(intOf i).toNat)
 case atStart=>exact⟨xs.length,aab _,rfl,by rw[aby]⟩
 case round=>
  obtain⟨n,hn,rfl,hst⟩:=hrel;have HST:=zq hst;clear hst
  cases n with
  |zero=>
   have HE:=zq (Vw hn HST (.inl rfl));go_wp2_with fail;go_ret
   exact⟨Wl (by rw[HE.o];rfl),rfl⟩
  |succ m=>
   obtain⟨x,hx⟩:∃x,xs[m]?=F x:=⟨_,aad (by omega)⟩;obtain⟨g,o,rfl,e1⟩:=HS.o m x hx;have HX:=zq hx;clear hx;by_cases h0:x=0
   ·have h1:((x:Int)==0)=true:=by simp[h0]
    have HN:Hid (strip (xs.take m)=strip xs):=by
     rcases iE hn HST (fun m' e=>by cases e;rw[HX.o,h0]) with h|h
     ·cases h
     exact h
    clear h0;go_wp2_with fail;go_round
    case rel=>exact⟨m,by omega,by first|rfl|go_num,HN⟩
    case measure=>simp[intOf]<;>omega
   have h1:((x:Int)==0)=false:=by simp[h0]
   have HE:=zq (Vw hn HST (.inr ⟨m,x,rfl,HX,h0⟩));clear h0;go_wp2_with fail;go_ret
   exact⟨Wl (by rw[HE.o]<;>first|rfl|omega),rfl⟩
theorem Ml (hr:Rd w (U ao xs.length cap) xs):ii ca 273 #[U ao xs.length cap] w fun e w'=>e=co (U ao (strip xs).length (strip xs).length)/\w=w':=by
 obtain⟨ao,cap,e,bU,hcm,bm,aS⟩:=hr.2;simp only[Value.slice.injEq]at e;obtain⟨rfl,-,rfl⟩:=e;have HS:=zq aS
 have hm:cap<=9223372036854775807:=by unfold maxLen at hcm;omega
 clear aS hcm bm;go_enter func273,ntmps273;go_wp2_with fail;go_loop [3] (fun i=> ∃n:Nat,n<=xs.length/\i=A G n/\strip (xs.take n)=strip xs) (fun i=>(intOf i).toNat)
 case atStart=>exact⟨xs.length,aab _,rfl,by rw[aby]⟩
 case round=>
  obtain⟨n,hn,rfl,hst⟩:=hrel;have HST:=zq hst;clear hst
  cases n with
  |zero=>
   have HE:=zq (Vw hn HST (.inl rfl));go_wp2_with fail;go_ret
   exact⟨by first|(rw[HE.o];done)|(rw[HE.o];rfl),rfl⟩
  |succ m=>
   obtain⟨x,hx⟩:∃x,xs[m]?=F x:=⟨_,aad (by omega)⟩;obtain⟨g,o,rfl,e1⟩:=HS.o m x hx;have HX:=zq hx;clear hx;by_cases h0:x=0
   ·have h1:((x:Int)==0)=true:=by simp[h0]
    have HN:Hid (strip (xs.take m)=strip xs):=by
     rcases iE hn HST (fun m' e=>by cases e;rw[HX.o,h0]) with h|h
     ·cases h
     exact h
    clear h0;go_wp2_with fail;go_round
    case rel=>exact⟨m,by omega,by first|rfl|go_num,HN⟩
    case measure=>simp[intOf]<;>omega
   have h1:((x:Int)==0)=false:=by simp[h0]
   have HE:=zq (Vw hn HST (.inr ⟨m,x,rfl,HX,h0⟩));clear h0;go_wp2_with fail;go_ret;exact⟨by first|(rw[HE.o];done)|(rw[HE.o];rfl),rfl⟩
theorem Ac (hr:Rd w (U ao xs.length cap) xs):Rd w (U ao (strip xs).length (strip xs).length) (strip xs):=by have h:=Xj xs;have H:=hr;obtain⟨ao',cap',e,E,-,-,-⟩:=H.2;simp only[Value.slice.injEq]at e;obtain⟨rfl,-,rfl⟩:=e;have:=hr.take (n:=(strip xs).length) (c:=(strip xs).length) h.2 (aab _) (aar h.2 E);rw[<-h.1]at this;exact this
end Go.Proofs.YtgfmiladfeoldaaGreatDoor
namespace Go.Proofs
open Go.Shelf
def Tryz.jY:Go.Shelf.Ren:=⟨fun|156=>123|165=>172|166=>105|169=>52|240=>165|241=>218|276=>212|277=>240|n=>n,fun|31=>105|9=>9|3=>3|4=>4|0=>0|20=>20|72=>90|76=>141|70=>87|37=>88|75=>139|127=>145|164=>210|5=>5|80=>94|n=>n,fun|n=>n⟩
theorem Tryz.r8:Go.Proofs.Lays.n156 ca Tryz.jY:={
 mixed:=by kernel_rfl
 f156:=Tryz.func123.trans (aaE F (by kernel_rfl))
 f165:=Tryz.func172.trans (aaE F (by kernel_rfl))
 f166:=Tryz.func105.trans (aaE F (by kernel_rfl))
 f169:=Tryz.func52.trans (aaE F (by kernel_rfl))
 f240:=Tryz.func165.trans (aaE F (by kernel_rfl))
 f241:=Tryz.func218.trans (aaE F (by kernel_rfl))
 f276:=Tryz.func212.trans (aaE F (by kernel_rfl))
 f277:=Tryz.func240.trans (aaE F (by kernel_rfl))
 t0:=g9
 a0:=i6
 z0:=iS
 v0:=io
 t3:=ce
 a3:=ex
 z3:=dl
 v3:=c9
 t4:=cl
 a4:=eS
 z4:=dq
 v4:=da
 t9:=db
 a9:=ff
 z9:=fa
 v9:=de
 t20:=jj
 a20:=mc
 z20:=lm
 v20:=ke
 t31:=underlying105
 a31:=isAgg105
 z31:=sizeOf105
 v31:=zeroValue105
 t37:=jp
 a37:=md
 z37:=lE
 v37:=kw
 t70:=underlying87
 a70:=isAgg87
 z70:=sizeOf87
 v70:=zeroValue87
 t72:=underlying90
 a72:=isAgg90
 z72:=sizeOf90
 v72:=zeroValue90
 t75:=underlying139
 a75:=isAgg139
 z75:=sizeOf139
 v75:=zeroValue139
 t76:=underlying141
 a76:=isAgg141
 z76:=sizeOf141
 v76:=zeroValue141
 t127:=underlying145
 a127:=isAgg145
 z127:=sizeOf145
 v127:=zeroValue145
 t164:=underlying210
 a164:=isAgg210
 z164:=sizeOf210
 v164:=zeroValue210}
theorem Tryz.eC:Builder.Extra ca Tryz.jY:={
 sizeBuilder:=by kernel_rfl
 liesBuilder:=by kernel_rfl
 t5:=eg
 a5:=hO
 z5:=ge
 v5:=fb
 infoByte:=by kernel_rfl
 cellsByte:=by kernel_rfl
 sizeByte:=by kernel_rfl
 neB5:=by decide}
open Go.RowKit in
theorem Tryz.strings_Join_none (a:Option Addr)(c:Nat)(sep:ByteArray)(w:dk):ii ca 123 #[U a 0 c,du sep] w fun e w'=>e=co (du ⟨#[]⟩)/\w'=w:=Any.strings_Join_none Tryz.r8 Tryz.eC a c sep w
open Go.RowKit in
theorem Tryz.strings_Join (bk o c:Nat)(xs:List ByteArray)(sep:ByteArray)(w:dk)(nQ:∀(j:Nat) x,xs[j]?=F x->w.cell? ⟨bk,o+j,Z⟩=F (du x))(bN:bk<w.heap.size)(hN:xs.length<=140737488355328)(I4:xs.length<=c)(hlen:(Lib.join (xs.map (·.data.toList)) sep.data.toList).length<=140737488355328):ii ca 123 #[U (F ⟨bk,o,Z⟩) xs.length c,du sep] w fun e w'=>e=co (du ⟨(Lib.join (xs.map (·.data.toList)) sep.data.toList).toArray⟩)/\Below w.heap.size w w':=Any.strings_Join Tryz.r8 Tryz.eC bk o c xs sep w nQ bN hN I4 hlen
def Tryz.pN:Go.Shelf.Ren:=⟨fun|134=>278|129=>116|n=>n,fun|53=>101|3=>3|4=>4|46=>188|5=>5|9=>9|n=>n,fun|n=>n⟩
theorem Tryz.BA:Go.Proofs.Lays.n134 ca Tryz.pN:={
 mixed:=by kernel_rfl
 f129:=Tryz.func116.trans (aaE F (by kernel_rfl))
 f134:=Tryz.func278.trans (aaE F (by kernel_rfl))
 t3:=ce
 a3:=ex
 z3:=dl
 v3:=c9
 t4:=cl
 a4:=eS
 z4:=dq
 v4:=da
 t5:=eg
 a5:=hO
 z5:=ge
 v5:=fb
 t9:=db
 a9:=ff
 z9:=fa
 v9:=de
 t46:=dj
 a46:=fm
 z46:=fi
 v46:=ef
 t53:=gc
 a53:=it
 z53:=ip
 v53:=gd}
theorem Tryz.bits_LeadingZeros64 (x:Int)(w:dk)(h0:0<=x)(h1:x<=18446744073709551615):ii ca 278 #[A gE x] w fun e w'=>e=co (A G (64-(Lib.bitLen x.toNat:Int)))/\w'=w:=Any.bits_LeadingZeros64 Tryz.BA x w h0 h1
def Tryz.pM:Go.Shelf.Ren:=⟨fun|129=>116|n=>n,fun|53=>101|3=>3|4=>4|46=>188|5=>5|9=>9|n=>n,fun|n=>n⟩
theorem Tryz.AZ:Go.Proofs.Lays.n129 ca Tryz.pM:={
 mixed:=by kernel_rfl
 f129:=Tryz.func116.trans (aaE F (by kernel_rfl))
 t3:=ce
 a3:=ex
 z3:=dl
 v3:=c9
 t4:=cl
 a4:=eS
 z4:=dq
 v4:=da
 t5:=eg
 a5:=hO
 z5:=ge
 v5:=fb
 t9:=db
 a9:=ff
 z9:=fa
 v9:=de
 t46:=dj
 a46:=fm
 z46:=fi
 v46:=ef
 t53:=gc
 a53:=it
 z53:=ip
 v53:=gd}
theorem Tryz.bits_Len64 (x:Int)(w:dk)(h0:0<=x)(h1:x<=18446744073709551615):ii ca 116 #[A gE x] w fun e w'=>e=co (A G (Lib.bitLen x.toNat))/\w'=w:=Any.bits_Len64 Tryz.AZ x w h0 h1
def Tryz.BI:Go.Shelf.Ren:=⟨fun|246=>142|283=>183|284=>184|285=>185|286=>186|129=>116|317=>221|318=>222|319=>223|320=>224|337=>242|338=>243|n=>n,fun|2=>2|3=>3|9=>9|4=>4|171=>197|0=>0|53=>101|37=>88|5=>5|173=>199|212=>221|51=>222|20=>20|213=>223|46=>188|232=>245|233=>246|n=>n,fun|17=>0|18=>2|19=>3|n=>n⟩
def Tryz.BH:Go.Shelf.Ren:=⟨fun|243=>79|246=>142|283=>183|284=>184|285=>185|286=>186|129=>116|317=>221|318=>222|319=>223|320=>224|337=>242|338=>243|n=>n,fun|3=>3|9=>9|2=>2|4=>4|171=>197|0=>0|53=>101|37=>88|5=>5|173=>199|212=>221|51=>222|20=>20|213=>223|46=>188|232=>245|233=>246|n=>n,fun|17=>0|18=>2|19=>3|n=>n⟩
def Tryz.od:Go.Shelf.Ren:=⟨fun|171=>41|243=>79|246=>142|283=>183|284=>184|285=>185|286=>186|129=>116|317=>221|318=>222|319=>223|320=>224|337=>242|338=>243|n=>n,fun|3=>3|9=>9|2=>2|4=>4|171=>197|0=>0|53=>101|37=>88|5=>5|173=>199|212=>221|51=>222|20=>20|213=>223|46=>188|232=>245|233=>246|n=>n,fun|17=>0|18=>2|19=>3|n=>n⟩
theorem Tryz.xC:Go.Proofs.LaysM.n171 ca Tryz.od:={
 mixed:=by kernel_rfl
 f129:=Tryz.func116.trans (aaE F (by kernel_rfl))
 f171:=Tryz.func41.trans (aaE F (by kernel_rfl))
 f243:=Tryz.func79.trans (aaE F (by kernel_rfl))
 f246:=Tryz.func142.trans (aaE F (by kernel_rfl))
 f283:=Tryz.func183.trans (aaE F (by kernel_rfl))
 f284:=Tryz.func184.trans (aaE F (by kernel_rfl))
 f285:=Tryz.func185.trans (aaE F (by kernel_rfl))
 f286:=Tryz.func186.trans (aaE F (by kernel_rfl))
 f317:=Tryz.func221.trans (aaE F (by kernel_rfl))
 f318:=Tryz.func222.trans (aaE F (by kernel_rfl))
 f319:=Tryz.func223.trans (aaE F (by kernel_rfl))
 f320:=Tryz.func224.trans (aaE F (by kernel_rfl))
 f337:=Tryz.func242.trans (aaE F (by kernel_rfl))
 f338:=Tryz.func243.trans (aaE F (by kernel_rfl))
 t0:=g9
 a0:=i6
 z0:=iS
 v0:=io
 t2:=oE
 a2:=isAgg2
 z2:=qt
 v2:=oS
 t3:=ce
 a3:=ex
 z3:=dl
 v3:=c9
 t4:=cl
 a4:=eS
 z4:=dq
 v4:=da
 t5:=eg
 a5:=hO
 z5:=ge
 v5:=fb
 t9:=db
 a9:=ff
 z9:=fa
 v9:=de
 t20:=jj
 a20:=mc
 z20:=lm
 v20:=ke
 t37:=jp
 a37:=md
 z37:=lE
 v37:=kw
 t46:=dj
 a46:=fm
 z46:=fi
 v46:=ef
 t51:=i8
 a51:=lP
 z51:=lk
 v51:=ka
 t53:=gc
 a53:=it
 z53:=ip
 v53:=gd
 t171:=me
 a171:=pm
 z171:=pa
 v171:=nF
 t173:=mt
 a173:=pt
 z173:=pe
 v173:=oe
 t212:=mw
 a212:=pu
 z212:=pf
 v212:=oi
 t213:=mx
 a213:=qe
 z213:=ph
 t232:=mT
 a232:=qk
 z232:=pi
 v232:=oj
 t233:=nf
 a233:=qr
 z233:=pl
 v233:=ol
 g17:=by kernel_rfl
 g18:=by kernel_rfl
 g19:=by kernel_rfl
 i0:=by kernel_rfl
 i2:=by kernel_rfl
 i3:=by kernel_rfl
 i4:=by kernel_rfl
 i5:=by kernel_rfl
 i9:=by kernel_rfl
 i20:=by kernel_rfl
 i37:=by kernel_rfl
 i46:=by kernel_rfl
 i51:=by kernel_rfl
 i53:=by kernel_rfl
 i171:=by kernel_rfl
 i173:=by kernel_rfl
 i212:=by kernel_rfl
 i232:=by kernel_rfl
 i233:=by kernel_rfl
 m17:=by kernel_rfl
 m18:=by kernel_rfl
 m19:=by kernel_rfl}
open Go.RowKit Go.Sort Go.Lib in
theorem Tryz.strconv_Itoa (n : Int) (h0 : -9223372036854775808 ≤ n) (h1 : n ≤ 9223372036854775807) (w : dk) (agW : Lib.TabIs ca w "internal/strconv.uint64pow10" gE Lib.pow10Tab) :
  ii ca 41 #[A G n] w fun e w'=>e=co (du ⟨(Lib.itoa n).toArray⟩)/\ ∃k os,w'=grow (w.drewN k) os:=Any.strconv_Itoa Tryz.xC n h0 h1 w agW
def Tryz.pQ:Go.Shelf.Ren:=⟨fun|171=>41|243=>79|246=>142|283=>183|284=>184|285=>185|286=>186|129=>116|317=>221|318=>222|319=>223|320=>224|337=>242|338=>243|n=>n,fun|3=>3|9=>9|2=>2|4=>4|171=>197|0=>0|53=>101|37=>88|5=>5|173=>199|212=>221|51=>222|20=>20|213=>223|46=>188|232=>245|233=>246|n=>n,fun|17=>0|18=>2|19=>3|n=>n⟩
theorem Tryz.BF:Go.Proofs.Lays.n171 ca Tryz.pQ:={
 mixed:=by kernel_rfl
 f129:=Tryz.func116.trans (aaE F (by kernel_rfl))
 f171:=Tryz.func41.trans (aaE F (by kernel_rfl))
 f243:=Tryz.func79.trans (aaE F (by kernel_rfl))
 f246:=Tryz.func142.trans (aaE F (by kernel_rfl))
 f283:=Tryz.func183.trans (aaE F (by kernel_rfl))
 f284:=Tryz.func184.trans (aaE F (by kernel_rfl))
 f285:=Tryz.func185.trans (aaE F (by kernel_rfl))
 f286:=Tryz.func186.trans (aaE F (by kernel_rfl))
 f317:=Tryz.func221.trans (aaE F (by kernel_rfl))
 f318:=Tryz.func222.trans (aaE F (by kernel_rfl))
 f319:=Tryz.func223.trans (aaE F (by kernel_rfl))
 f320:=Tryz.func224.trans (aaE F (by kernel_rfl))
 f337:=Tryz.func242.trans (aaE F (by kernel_rfl))
 f338:=Tryz.func243.trans (aaE F (by kernel_rfl))
 t0:=g9
 a0:=i6
 z0:=iS
 v0:=io
 t2:=oE
 a2:=isAgg2
 z2:=qt
 v2:=oS
 t3:=ce
 a3:=ex
 z3:=dl
 v3:=c9
 t4:=cl
 a4:=eS
 z4:=dq
 v4:=da
 t5:=eg
 a5:=hO
 z5:=ge
 v5:=fb
 t9:=db
 a9:=ff
 z9:=fa
 v9:=de
 t20:=jj
 a20:=mc
 z20:=lm
 v20:=ke
 t37:=jp
 a37:=md
 z37:=lE
 v37:=kw
 t46:=dj
 a46:=fm
 z46:=fi
 v46:=ef
 t51:=i8
 a51:=lP
 z51:=lk
 v51:=ka
 t53:=gc
 a53:=it
 z53:=ip
 v53:=gd
 t171:=me
 a171:=pm
 z171:=pa
 v171:=nF
 t173:=mt
 a173:=pt
 z173:=pe
 v173:=oe
 t212:=mw
 a212:=pu
 z212:=pf
 v212:=oi
 t213:=mx
 a213:=qe
 z213:=ph
 t232:=mT
 a232:=qk
 z232:=pi
 v232:=oj
 t233:=nf
 a233:=qr
 z233:=pl
 v233:=ol
 g17:=by kernel_rfl
 g18:=by kernel_rfl
 g19:=by kernel_rfl}
open Go.RowKit Go.Sort Go.Lib in
theorem Tryz.strconv_Itoa_small (i:Nat)(hi:i<100)(w:dk):ii ca 41 #[A G i] w fun e w'=>e=co (du ⟨(Lib.decDigits i).toArray⟩)/\w'=w:=Any.strconv_Itoa_small Tryz.BF i hi w
def Tryz.EU:Go.Shelf.Ren:=⟨fun|219=>250|217=>265|225=>264|224=>263|267=>266|266=>284|314=>285|n=>n,fun|9=>9|3=>3|4=>4|5=>5|46=>188|146=>263|51=>222|n=>n,fun|1=>1|n=>n⟩
def Tryz.pO:Go.Shelf.Ren:=⟨fun|144=>205|143=>234|219=>250|217=>265|225=>264|224=>263|267=>266|266=>284|314=>285|n=>n,fun|9=>9|4=>4|3=>3|5=>5|46=>188|146=>263|51=>222|n=>n,fun|1=>1|n=>n⟩
theorem Tryz.BC:Go.Proofs.Lays.n144 ca Tryz.pO:={
 mixed:=by kernel_rfl
 f143:=Tryz.func234.trans (aaE F (by kernel_rfl))
 f144:=Tryz.func205.trans (aaE F (by kernel_rfl))
 f217:=Tryz.func265.trans (aaE F (by kernel_rfl))
 f219:=Tryz.func250.trans (aaE F (by kernel_rfl))
 f224:=Tryz.func263.trans (aaE F (by kernel_rfl))
 f225:=Tryz.func264.trans (aaE F (by kernel_rfl))
 f266:=Tryz.func284.trans (aaE F (by kernel_rfl))
 f267:=Tryz.func266.trans (aaE F (by kernel_rfl))
 f314:=Tryz.func285.trans (aaE F (by kernel_rfl))
 t3:=ce
 a3:=ex
 z3:=dl
 v3:=c9
 t4:=cl
 a4:=eS
 z4:=dq
 v4:=da
 t5:=eg
 a5:=hO
 z5:=ge
 v5:=fb
 t9:=db
 a9:=ff
 z9:=fa
 v9:=de
 t46:=dj
 a46:=fm
 z46:=fi
 v46:=ef
 t51:=i8
 a51:=lP
 z51:=lk
 v51:=ka
 t146:=underlying263
 a146:=isAgg263
 z146:=sizeOf263
 v146:=zeroValue263
 g1:=by kernel_rfl}
open Go.RowKit Go.Lib in
theorem Tryz.strings_Contains (s sub:ByteArray)(m:Int)(w:dk)(hs:s.size<4294967281)(hm:w.cell? ⟨1,0,Z⟩=F (A G m)):ii ca 205 #[du s,du sub] w fun e w'=>e=co (oR (Lib.contains s.data.toList sub.data.toList))/\w'=w:=Any.strings_Contains Tryz.BC s sub m w hs hm
def Tryz.ET:Go.Shelf.Ren:=⟨fun|206=>232|n=>n,fun|9=>9|4=>4|3=>3|n=>n,fun|n=>n⟩
def Tryz.qY:Go.Shelf.Ren:=⟨fun|99=>201|206=>232|n=>n,fun|9=>9|4=>4|3=>3|n=>n,fun|n=>n⟩
theorem Tryz.Lv:Go.Proofs.Lays.n99 ca Tryz.qY:={
 mixed:=by kernel_rfl
 f99:=Tryz.func201.trans (aaE F (by kernel_rfl))
 f206:=Tryz.func232.trans (aaE F (by kernel_rfl))
 t3:=ce
 a3:=ex
 z3:=dl
 v3:=c9
 t4:=cl
 a4:=eS
 z4:=dq
 v4:=da
 t9:=db
 a9:=ff
 z9:=fa
 v9:=de}
open Go.RowKit Go.Lib in
theorem Tryz.strings_HasPrefix (s p:ByteArray)(w:dk):ii ca 201 #[du s,du p] w fun e w'=>e=co (oR (Lib.hasPrefix s.data.toList p.data.toList))/\w'=w:=Any.strings_HasPrefix Tryz.Lv s p w
def Tryz.pK:Go.Shelf.Ren:=⟨fun|100=>204|207=>233|n=>n,fun|9=>9|4=>4|3=>3|n=>n,fun|n=>n⟩
theorem Tryz.AY:Go.Proofs.Lays.n100 ca Tryz.pK:={
 mixed:=by kernel_rfl
 f100:=Tryz.func204.trans (aaE F (by kernel_rfl))
 f207:=Tryz.func233.trans (aaE F (by kernel_rfl))
 t3:=ce
 a3:=ex
 z3:=dl
 v3:=c9
 t4:=cl
 a4:=eS
 z4:=dq
 v4:=da
 t9:=db
 a9:=ff
 z9:=fa
 v9:=de}
open Go.RowKit Go.Lib in
theorem Tryz.strings_HasSuffix (s p:ByteArray)(w:dk)(hs:s.size<=9223372036854775807):ii ca 204 #[du s,du p] w fun e w'=>e=co (oR (Lib.hasSuffix s.data.toList p.data.toList))/\w'=w:=Any.strings_HasSuffix Tryz.AY s p w hs
def Tryz.pP:Go.Shelf.Ren:=⟨fun|151=>231|152=>249|137=>261|119=>262|224=>263|225=>264|217=>265|266=>284|n=>n,fun|9=>9|21=>21|4=>4|3=>3|5=>5|0=>0|46=>188|n=>n,fun|n=>n⟩
theorem Tryz.BD:Go.Proofs.Lays.n151 ca Tryz.pP:={
 mixed:=by kernel_rfl
 f119:=Tryz.func262.trans (aaE F (by kernel_rfl))
 f137:=Tryz.func261.trans (aaE F (by kernel_rfl))
 f151:=Tryz.func231.trans (aaE F (by kernel_rfl))
 f152:=Tryz.func249.trans (aaE F (by kernel_rfl))
 f217:=Tryz.func265.trans (aaE F (by kernel_rfl))
 f224:=Tryz.func263.trans (aaE F (by kernel_rfl))
 f225:=Tryz.func264.trans (aaE F (by kernel_rfl))
 f266:=Tryz.func284.trans (aaE F (by kernel_rfl))
 t0:=g9
 a0:=i6
 z0:=iS
 v0:=io
 t3:=ce
 a3:=ex
 z3:=dl
 v3:=c9
 t4:=cl
 a4:=eS
 z4:=dq
 v4:=da
 t5:=eg
 a5:=hO
 z5:=ge
 v5:=fb
 t9:=db
 a9:=ff
 z9:=fa
 v9:=de
 t21:=underlying21
 a21:=isAgg21
 z21:=sizeOf21
 v21:=zeroValue21
 t46:=dj
 a46:=fm
 z46:=fi
 v46:=ef}
open Go.RowKit Go.Lib in
theorem Tryz.strings_ContainsRune_ascii (s:ByteArray)(r:Int)(w:dk)(h0:0<=r)(h1:r<128):ii ca 231 #[du s,A .i32 r] w fun e w'=>e=co (oR (decide (0<=Lib.indexByte s.data.toList r.toNat.toUInt8)))/\w'=w:=Any.strings_ContainsRune_ascii Tryz.BD s r w h0 h1
def Tryz.pR:Go.Shelf.Ren:=⟨fun|264=>287|n=>n,fun|53=>101|46=>188|n=>n,fun|n=>n⟩
theorem Tryz.BG:Go.Proofs.Lays.n264 ca Tryz.pR:={
 mixed:=by kernel_rfl
 f264:=Tryz.func287.trans (aaE F (by kernel_rfl))
 t46:=dj
 a46:=fm
 z46:=fi
 v46:=ef
 t53:=gc
 a53:=it
 z53:=ip
 v53:=gd}
open Go.RowKit Go.Lib in
theorem Tryz.bits_Mul64 (x y:Nat)(hx:x<18446744073709551616)(hy:y<18446744073709551616)(w:dk):ii ca 287 #[A gE x,A gE y] w fun e w'=>e=co (.tuple #[A gE ((x*y / 18446744073709551616:Nat):Int),A gE ((x*y % 18446744073709551616:Nat):Int)])/\w'=w:=Any.bits_Mul64 Tryz.BG x y hx hy w
def Tryz.pL:Go.Shelf.Ren:=⟨fun|111=>102|n=>n,fun|28=>41|3=>3|4=>4|0=>0|n=>n,fun|n=>n⟩
theorem Tryz.r7:Go.Proofs.Lays.n111 ca Tryz.pL:={
 mixed:=by kernel_rfl
 f111:=Tryz.func102.trans (aaE F (by kernel_rfl))
 t0:=g9
 a0:=i6
 z0:=iS
 v0:=io
 t3:=ce
 a3:=ex
 z3:=dl
 v3:=c9
 t4:=cl
 a4:=eS
 z4:=dq
 v4:=da
 t28:=underlying41
 a28:=isAgg41
 z28:=sizeOf41
 v28:=zeroValue41}
open Go.RowKit Go.Lib in
theorem Tryz.slices_Equal_int (b1 o1 n c b2 o2 m d:Nat)(xs ys:List Int)(w:dk)(hx:n<=xs.length)(hy:m<=ys.length)(cN:n<=9223372036854775807)(vS:m<=9223372036854775807)(hc1:∀j,j<xs.length->w.cell? ⟨b1,o1+j,Z⟩=F (A G (xs.getD j 0)))(hc2:∀j,j<ys.length->w.cell? ⟨b2,o2+j,Z⟩=F (A G (ys.getD j 0))):ii ca 102 #[U (F ⟨b1,o1,Z⟩) n c,U (F ⟨b2,o2,Z⟩) m d] w fun e w'=>e=co (oR (xs.take n==ys.take m))/\ ∃q,w'=w.drewN q:=Any.slices_Equal_int Tryz.r7 b1 o1 n c b2 o2 m d xs ys w hx hy cN vS hc1 hc2
open Go.RowKit Go.Lib in
theorem Tryz.slices_Equal_int_empty (a1 a2:Option Addr)(c m d:Nat)(w:dk)(vS:m<=9223372036854775807):ii ca 102 #[U a1 0 c,U a2 m d] w fun e w'=>e=co (oR (decide (m=0)))/\w'=w:=Any.slices_Equal_int_empty Tryz.r7 a1 a2 c m d w vS
end Go.Proofs
