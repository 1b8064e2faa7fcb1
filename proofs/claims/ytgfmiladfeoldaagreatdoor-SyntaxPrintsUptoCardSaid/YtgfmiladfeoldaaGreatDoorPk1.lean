import Derived.WalkSpells
import Derived.WalkLawsBesides
import Derived.Test.YtgfmiladfeoldaaGreatDoorChecked
import Derived.Handy
import Derived.BigQuiet
import Derived.Laws.CopyOwn
import Derived.Deep.OwnRows
import Derived.Shelf.Strings.OnBuilder
import Derived.Shelf.Small.Utf8
import Derived.Shelf.Small.Bits
import Derived.Shelf.Strconv.Itoa3
import Derived.Shelf.Strings.Shaped
import Derived.Shelf.Strings.Prefix
import Derived.Shelf.Strings.Runes
import Derived.Shelf.Bits.Mul64
import Derived.Shelf.Strings.BuilderCap
import Derived.Shelf.Slices.Empties2
import Derived.Lib.EndianBits
import Derived.Deep.AppendLies
set_option linter.unusedSimpArgs false
set_option linter.unusedVariables false
set_option maxRecDepth 100000
set_option maxHeartbeats 16000000
theorem aaa:type_of% @Nat.le_refl:=@Nat.le_refl
theorem aac:type_of% @List.length_append:=@List.length_append
theorem aad:type_of% @List.getElem?_eq_getElem:=@List.getElem?_eq_getElem
theorem aae:type_of% @List.getElem?_eq_some_iff:=@List.getElem?_eq_some_iff
theorem aaf:type_of% @List.length_cons:=@List.length_cons
theorem aag:type_of% @List.length_drop:=@List.length_drop
theorem aah:type_of% @List.mem_of_getElem?:=@List.mem_of_getElem?
theorem aaj:type_of% @Nat.lt_of_lt_of_le:=@Nat.lt_of_lt_of_le
theorem aak:type_of% @List.length_take:=@List.length_take
theorem aal:type_of% @Array.getElem?_eq_some_iff:=@Array.getElem?_eq_some_iff
theorem aam:type_of% @Go.cell_of_row:=@Go.cell_of_row
theorem aan:type_of% @Nat.le_trans:=@Nat.le_trans
theorem aao:type_of% @Nat.zero_le:=@Nat.zero_le
theorem aaq:type_of% @List.eq_nil_of_length_eq_zero:=@List.eq_nil_of_length_eq_zero
theorem aar:type_of% @List.append_assoc:=@List.append_assoc
theorem aas:type_of% @Go.heap_setCell_same:=@Go.heap_setCell_same
theorem aat:type_of% @List.take_of_length_le:=@List.take_of_length_le
theorem aax:type_of% @Option.some.inj:=@Option.some.inj
theorem aay:type_of% @List.length_map:=@List.length_map
theorem aaz:type_of% @Go.heap_alloc_new:=@Go.heap_alloc_new
theorem aaG:type_of% @List.length_nil:=@List.length_nil
theorem aaH:type_of% @Go.frozen_of_row:=@Go.frozen_of_row
theorem aaI:type_of% @Go.bodyPost_ret:=@Go.bodyPost_ret
theorem aaJ:type_of% @List.length_singleton:=@List.length_singleton
theorem aaR:type_of% @List.drop_eq_nil_of_le:=@List.drop_eq_nil_of_le
theorem aaS:type_of% @List.drop_eq_getElem_cons:=@List.drop_eq_getElem_cons
theorem aaV:type_of% @decide_eq_true_eq:=@decide_eq_true_eq
theorem aaW:type_of% @Nat.mul_comm:=@Nat.mul_comm
theorem aaX:type_of% @Go.heap_setCell_other:=@Go.heap_setCell_other
theorem aaY:type_of% @Bool.and_eq_true:=@Bool.and_eq_true
theorem aaZ:type_of% @Go.World.ownsRow.lt:=@Go.World.ownsRow.lt
theorem aa7:type_of% @congrArg:=@congrArg
theorem aa8:type_of% @Go.RowKit.Below.refl:=@Go.RowKit.Below.refl
theorem aa9:type_of% @List.length_replicate:=@List.length_replicate
theorem abd:type_of% @Nat.min_eq_left:=@Nat.min_eq_left
theorem abg:type_of% @Go.Lib.size_eq:=@Go.Lib.size_eq
theorem abj:type_of% @Go.World.ownsRow.alloc:=@Go.World.ownsRow.alloc
theorem abp:type_of% @Nat.mul_add:=@Nat.mul_add
theorem abq:type_of% @Go.RowKit.Below.grown:=@Go.RowKit.Below.grown
theorem abu:type_of% @List.mem_singleton:=@List.mem_singleton
theorem abw:type_of% @List.getElem?_append_right:=@List.getElem?_append_right
theorem abx:type_of% @Nat.zero_add:=@Nat.zero_add
theorem abA:type_of% @Bool.eq_iff_iff:=@Bool.eq_iff_iff
theorem abC:type_of% @decide_eq_false:=@decide_eq_false
theorem abD:type_of% @Nat.le_of_lt:=@Nat.le_of_lt
theorem abF:type_of% @Nat.mul_assoc:=@Nat.mul_assoc
theorem abG:type_of% @Go.World.cell?_of_block:=@Go.World.cell?_of_block
theorem abH:type_of% @decide_eq_true:=@decide_eq_true
theorem abJ:type_of% @Nat.add_assoc:=@Nat.add_assoc
theorem abK:type_of% @List.map_cons:=@List.map_cons
theorem abL:type_of% @Go.IntWalk.i64_in:=@Go.IntWalk.i64_in
theorem abO:type_of% @Go.info_parts:=@Go.info_parts
theorem abP:type_of% @Int.natCast_nonneg:=@Int.natCast_nonneg
theorem abV:type_of% @Go.IntKind.wrap_u64:=@Go.IntKind.wrap_u64
theorem abW:type_of% @Nat.mul_le_mul_right:=@Nat.mul_le_mul_right
theorem abY:type_of% @List.mem_cons:=@List.mem_cons
theorem abZ:type_of% @List.mem_append:=@List.mem_append
theorem ab1:type_of% @List.getElem?_append_left:=@List.getElem?_append_left
theorem ab2:type_of% @List.take_add_one:=@List.take_add_one
theorem ab3:type_of% @List.getD_eq_getElem?_getD:=@List.getD_eq_getElem?_getD
theorem ab4:type_of% @List.append_nil:=@List.append_nil
theorem ab5:type_of% @Nat.add_mul:=@Nat.add_mul
theorem ab6:type_of% @List.length_set:=@List.length_set
theorem ab7:type_of% @Nat.mul_le_mul:=@Nat.mul_le_mul
theorem ado:type_of% @List.map_append:=@List.map_append
theorem adp:type_of% @List.getElem?_drop:=@List.getElem?_drop
theorem adq:type_of% @List.drop_zero:=@List.drop_zero
theorem adr:type_of% @Go.wpList_append_lies:=@Go.wpList_append_lies
theorem ads:type_of% @List.getElem?_map:=@List.getElem?_map
theorem adt:type_of% @Nat.add_zero:=@Nat.add_zero
theorem adu:type_of% @Go.World.block_lt_of_cell?:=@Go.World.block_lt_of_cell?
theorem adv:type_of% @Go.wpList_append_own_at:=@Go.wpList_append_own_at
theorem adw:type_of% @List.take_succ_eq_append_getElem:=@List.take_succ_eq_append_getElem
theorem adx:type_of% @List.take_length:=@List.take_length
theorem ady:type_of% @Nat.pow_succ:=@Nat.pow_succ
theorem adz:type_of% @List.nil_append:=@List.nil_append
theorem adA:type_of% @List.take_append_drop:=@List.take_append_drop
theorem adB:type_of% @Go.World.size_alloc:=@Go.World.size_alloc
theorem adC:type_of% @Go.World.ownsRow_nil:=@Go.World.ownsRow_nil
theorem adD:type_of% @List.mem_of_mem_take:=@List.mem_of_mem_take
theorem adE:type_of% @Nat.pow_le_pow_right:=@Nat.pow_le_pow_right
theorem adF:type_of% @Go.results_none:=@Go.results_none
theorem adG:type_of% @List.drop_drop:=@List.drop_drop
theorem adH:type_of% @Nat.lt_of_le_of_lt:=@Nat.lt_of_le_of_lt
theorem adI:type_of% @Nat.mul_le_mul_left:=@Nat.mul_le_mul_left
theorem adJ:type_of% @List.length_pos_iff:=@List.length_pos_iff
theorem adK:type_of% @Nat.le_of_eq:=@Nat.le_of_eq
theorem adL:type_of% @Nat.div_lt_iff_lt_mul:=@Nat.div_lt_iff_lt_mul
theorem adM:type_of% @Go.results_cell_row:=@Go.results_cell_row
theorem adN:type_of% @beq_iff_eq:=@beq_iff_eq
theorem adO:type_of% @Go.wpList_append_own:=@Go.wpList_append_own
theorem adP:type_of% @List.getElem?_cons_succ:=@List.getElem?_cons_succ
theorem adQ:type_of% @Nat.add_sub_cancel:=@Nat.add_sub_cancel
theorem adR:type_of% @List.mem_map:=@List.mem_map
theorem adS:type_of% @List.tail_drop:=@List.tail_drop
theorem adT:type_of% @Go.ByteArray.toList_eq:=@Go.ByteArray.toList_eq
theorem adU:type_of% @List.mem_of_mem_drop:=@List.mem_of_mem_drop
theorem adV:type_of% @List.cons_append:=@List.cons_append
theorem adW:type_of% @List.getElem?_set_ne:=@List.getElem?_set_ne
theorem adX:type_of% @List.getElem?_take:=@List.getElem?_take
theorem adY:type_of% @List.sum_cons:=@List.sum_cons
theorem adZ:type_of% @Nat.pow_pos:=@Nat.pow_pos
theorem ad0:type_of% @Nat.one_mul:=@Nat.one_mul
theorem ad1:type_of% @Int.natCast_mul:=@Int.natCast_mul
theorem ad2:type_of% @Go.World.ownsRow_lit:=@Go.World.ownsRow_lit
theorem ad3:type_of% @Nat.pow_add:=@Nat.pow_add
theorem ad4:type_of% @List.mem_cons_of_mem:=@List.mem_cons_of_mem
theorem ad5:type_of% @Nat.div_add_mod:=@Nat.div_add_mod
theorem ad6:type_of% @Go.RowKit.ownsRow_setCell_below:=@Go.RowKit.ownsRow_setCell_below
theorem ad7:type_of% @List.flatMap_append:=@List.flatMap_append
theorem ad8:type_of% @Nat.mod_lt:=@Nat.mod_lt
theorem ad9:type_of% @List.getElem?_set_self:=@List.getElem?_set_self
theorem aea:type_of% @List.getElem?_eq_none:=@List.getElem?_eq_none
theorem aeb:type_of% @if_false:=@if_false
theorem aec:type_of% @Nat.mul_zero:=@Nat.mul_zero
theorem aed:type_of% @Nat.lt_trans:=@Nat.lt_trans
theorem aee:type_of% @Option.map_eq_some_iff:=@Option.map_eq_some_iff
theorem aef:type_of% @List.drop_of_length_le:=@List.drop_of_length_le
theorem aeg:type_of% @List.not_mem_nil:=@List.not_mem_nil
theorem aeh:type_of% @Go.wpList_store_row:=@Go.wpList_store_row
theorem aei:type_of% @List.take_succ_cons:=@List.take_succ_cons
theorem aej:type_of% @Array.getElem?_setIfInBounds:=@Array.getElem?_setIfInBounds
theorem aek:type_of% @List.mem_cons_self:=@List.mem_cons_self
theorem ael:type_of% @decide_eq_false_iff_not:=@decide_eq_false_iff_not
theorem aem:type_of% @Nat.mul_one:=@Nat.mul_one
theorem aen:type_of% @List.flatMap_cons:=@List.flatMap_cons
theorem aeo:type_of% @List.length_reverse:=@List.length_reverse
theorem aep:type_of% @Bool.or_eq_true:=@Bool.or_eq_true
theorem aeq:type_of% @Int.natCast_pow:=@Int.natCast_pow
theorem aer:type_of% @UInt8.toNat_inj:=@UInt8.toNat_inj
theorem aes:type_of% @List.length_filter_le:=@List.length_filter_le
theorem aet:type_of% @Nat.lt_succ_self:=@Nat.lt_succ_self
theorem aeu:type_of% @Go.RowKit.Below.heap_alloc:=@Go.RowKit.Below.heap_alloc
theorem aev:type_of% @List.mem_replicate:=@List.mem_replicate
theorem aew:type_of% @List.any_eq_true:=@List.any_eq_true
theorem aex:type_of% @List.map_nil:=@List.map_nil
theorem aey:type_of% @List.drop_eq_nil_iff:=@List.drop_eq_nil_iff
theorem aez:type_of% @List.getElem?_of_mem:=@List.getElem?_of_mem
theorem aeA:type_of% @List.drop_eq_getElem?_toList_append:=@List.drop_eq_getElem?_toList_append
theorem aeB:type_of% @Go.Exit.noGoto_ret:=@Go.Exit.noGoto_ret
theorem aeC:type_of% @List.length_take_le:=@List.length_take_le
theorem aeD:type_of% @Nat.zero_mul:=@Nat.zero_mul
theorem aeE:type_of% @List.map_map:=@List.map_map
theorem aeF:type_of% @Nat.succ_mul:=@Nat.succ_mul
theorem aeG:type_of% @Bool.true_and:=@Bool.true_and
theorem aeH:type_of% @Option.getD_some:=@Option.getD_some
theorem aeI:type_of% @List.length_tail:=@List.length_tail
theorem aeJ:type_of% @List.all_eq_true:=@List.all_eq_true
theorem aeK:type_of% @List.take_take:=@List.take_take
theorem aeL:type_of% @Nat.le_div_iff_mul_le:=@Nat.le_div_iff_mul_le
theorem aeM:type_of% @Nat.pos_of_ne_zero:=@Nat.pos_of_ne_zero
theorem aeN:type_of% @Nat.eq_zero_or_pos:=@Nat.eq_zero_or_pos
theorem aeO:type_of% @Nat.mul_pos:=@Nat.mul_pos
theorem aeP:type_of% @Nat.not_lt_zero:=@Nat.not_lt_zero
theorem aeQ:type_of% @Nat.mul_left_comm:=@Nat.mul_left_comm
theorem aeR:type_of% @List.flatten_cons:=@List.flatten_cons
theorem aeS:type_of% @Go.plainElem_int:=@Go.plainElem_int
theorem aeT:type_of% @List.getElem?_cons_zero:=@List.getElem?_cons_zero
theorem aeU:type_of% @Go.World.news_of_block:=@Go.World.news_of_block
theorem aeV:type_of% @Nat.le_of_not_lt:=@Nat.le_of_not_lt
theorem aeW:type_of% @beq_self_eq_true:=@beq_self_eq_true
theorem aeX:type_of% @Go.step_append_lies:=@Go.step_append_lies
theorem aeY:type_of% @List.mem_flatMap:=@List.mem_flatMap
theorem aeZ:type_of% @Nat.ne_of_lt:=@Nat.ne_of_lt
theorem ae0:type_of% @Bool.false_eq_true:=@Bool.false_eq_true
theorem ae1:type_of% @Nat.lt_irrefl:=@Nat.lt_irrefl
theorem ae2:type_of% @Int.toNat_natCast:=@Int.toNat_natCast
theorem ae3:type_of% @Go.setRow_heap:=@Go.setRow_heap
theorem ae4:type_of% @List.take_zero:=@List.take_zero
theorem ae5:type_of% @or_false:=@or_false
theorem ae6:type_of% @List.getElem_mem:=@List.getElem_mem
theorem ae7:type_of% @Go.below_setRow:=@Go.below_setRow
theorem zq{p:Prop}(h:p):Go.RowKit.Hid p:=h
theorem Go.RowKit.Hid.o{p:Prop}(h:Go.RowKit.Hid p):p:=h
theorem xq{α:Type _}(a:α):∃b,b=a:=⟨a,rfl⟩
theorem xr{α:Type _}(a:α):∃b,a=b:=⟨a,rfl⟩
namespace ai
def BB:Nat:=18446744073709551616
theorem Xs:0<BB:=by unfold BB;omega
def val:List Nat->Nat
 | []=>0
 |x::l=>x+BB*val l
def ok (l:List Nat):Prop:=∀x∈l,x<BB
theorem Fj:ok []:=fun x h=>by cases h
theorem Qka {x:Nat}{l:List Nat}(hx:x<BB)(h:ok l):ok (x::l):=fun y E=>by
 rcases abY.1 E with rfl|E
 ·exact hx
 exact h y E
theorem Zl {l:List Nat}(h:ok l)(n:Nat):ok (l.take n):=fun x hx=>h x (adD hx)
theorem Wk {l:List Nat}(h:ok l)(n:Nat):ok (l.drop n):=fun x hx=>h x (adU hx)
theorem D7 {a b:List Nat}(ha:ok a)(hb:ok b):ok (a++b):=fun x hx=>by
 rcases abZ.1 hx with h|h
 ·exact ha x h
 exact hb x h
theorem Qdz {l:List Nat}(h:ok l)(i:Nat){x:Nat}(hx:x<BB):ok (l.set i x):=fun y hy=>by
 rcases List.mem_or_eq_of_mem_set hy with E|rfl
 ·exact h y E
 exact hx
theorem Ng (n:Nat):ok (List.replicate n 0):=fun x hx=>by rw[List.eq_of_mem_replicate hx];exact Xs
theorem Uv:∀(a b:List Nat),val (a++b)=val a+BB^a.length*val b
 | [],b=>by simp[val]
 |x::a,b=>by simp only[adV,val,aaf,ady,Uv a b];rw[abp,aaW (BB^a.length) BB,abF,abJ]
theorem Zb (a:List Nat)(x:Nat):val (a++[x])=val a+BB^a.length*x:=by rw[Uv];simp[val]
theorem Xa {l:List Nat}{i:Nat}(h:i<l.length):val (l.take (i+1))=val (l.take i)+BB^i*l[i]:=by rw[adw h,Zb,aak,abd (by omega)]
theorem Xp (l:List Nat)(i:Nat)(h:i<=l.length):val l=val (l.take i)+BB^i*val (l.drop i):=by have:=Uv (l.take i) (l.drop i);rw[adA,aak,abd h]at this;exact this
theorem Jg (n:Nat):val (List.replicate n 0)=0:=by
 induction n with
 |zero=>rfl
 |succ n ih=>rw[List.replicate_succ];simp[val,ih]
theorem Yy:∀{a:List Nat},ok a->val a<BB^a.length
 | [],_=>by simp[val]
 |x::a,h=>by
  have h1:=h x (by simp);have E:=Yy (a:=a) fun d hd=>h d (by simp[hd]);simp only[val,aaf,ady]
  have H:BB*val a+BB<=BB*BB^a.length:=by rw[<-Nat.mul_succ];exact adI _ E
  rw[aaW (BB^a.length)];omega
def Qw (l:List Nat):List Nat:=(l.reverse.dropWhile (· ==0)).reverse
theorem Yl (l:List Nat):Qw (l++[0])=Qw l:=by simp[Qw]
theorem Yf (l:List Nat)(d:Nat)(h:d≠0):Qw (l++[d])=l++[d]:=by simp[Qw,h]
theorem Qpz:Qw []=[]:=rfl
theorem Va {P:List Nat->Prop}(h0:P [])(h1:∀l d,P l->P (l++[d]))(l:List Nat):P l:=by
 have:∀m:List Nat,P m.reverse:=by
  intro m
  induction m with
  |nil=>exact h0
  |cons d m ih=>rw[List.reverse_cons];exact h1 _ _ ih
 have h:=this l.reverse
 rwa [List.reverse_reverse]at h
theorem Yz:∀l:List Nat,Qw l=l.take (Qw l).length/\(Qw l).length<=l.length:=by
 apply Va
 ·exact⟨rfl,aaa _⟩
 intro l d ih;by_cases h:d=0
 ·subst h
  rw[Yl];refine⟨?_,by rw[aac];omega⟩;rw[List.take_append_of_le_length ih.2];exact ih.1
 rw[Yf _ _ h];exact⟨by rw[adx],aaa _⟩
theorem Qn:∀l:List Nat,val (Qw l)=val l:=by
 apply Va
 ·rfl
 intro l d ih;by_cases h:d=0
 ·subst h
  rw[Yl,ih,Zb];simp
 rw[Yf _ _ h]
theorem Qu (l:List Nat):(Qw l).length<=l.length:=(Yz l).2
theorem Vt {l:List Nat}(h:ok l):ok (Qw l):=by rw[(Yz l).1];exact Zl h _
theorem Yw:∀(l:List Nat) (n:Nat),val l<BB^n->(Qw l).length<=n:=by
 apply Va (P:=fun l=> ∀n,val l<BB^n->(Qw l).length<=n)
 ·intro n _;exact aao _
 intro l d ih n h;by_cases hd:d=0
 ·subst hd
  rw[Yl];rw[Zb]at h;exact ih n (by simpa using h)
 rw[Yf _ _ hd,aac];rw[Zb]at h;apply Classical.byContradiction;intro E;simp only[aaf,aaG,abx,Nat.not_le]at E;have H:BB^n<=BB^l.length:=adE Xs (by omega);have I:BB^l.length*1<=BB^l.length*d:=adI _ (by omega);omega
theorem Vb:∀(l:List Nat) (n:Nat),(Qw l).length=n+1-> ∃d,(Qw l)[n]?=some d/\d≠0:=by
 apply Va (P:=fun l=> ∀n,(Qw l).length=n+1-> ∃d,(Qw l)[n]?=some d/\d≠0)
 ·intro n h;simp[Qpz]at h
 intro l d ih n h;by_cases hd:d=0
 ·subst hd
  rw[Yl]at h ⊢;exact ih n h
 rw[Yf _ _ hd]at h ⊢;rw[aac]at h;simp only[aaf,aaG]at h
 obtain rfl:n=l.length:=by omega
 exact⟨d,by simp,hd⟩
theorem jN {l:List Nat}{n:Nat}(hn:n<=l.length)(h:Qw (l.take n)=Qw l)(h0:∀m,n=m+1->l[m]?=some 0):n=0\/Qw (l.take (n-1))=Qw l:=by
 cases n with
 |zero=>exact .inl rfl
 |succ m=>
  right;have E:=h0 m rfl
  have H:m<l.length:=by omega
  have I:l[m]=0:=by rw[aad H]at E;exact aax E
  rw[adQ];rw[adw H,I,Yl]at h;exact h
theorem Ti {l:List Nat}{n:Nat}(hn:n<=l.length)(h:Qw (l.take n)=Qw l)(h0:n=0\/ ∃m x,n=m+1/\l[m]?=some x/\x≠0):(Qw l).length=n:=by
 rcases h0 with rfl|⟨m,x,rfl,E,I⟩
 ·rw[<-h];rfl
 have H:m<l.length:=by omega
 have J:l[m]=x:=by rw[aad H]at E;exact aax E
 rw[adw H,J,Yf _ _ I]at h;rw[<-h,aac,aak,abd (by omega)];rfl
theorem Dk {P X Y Z x y c s c':Nat}(h:Z+P*c=X+Y)(hs:s+BB*c'=x+y+c):(Z+P*s)+P*BB*c'=(X+P*x)+(Y+P*y):=by
 have E:P*s+P*(BB*c')=P*x+P*y+P*c:=by rw[<-abp,hs,abp,abp]
 rw[abF];omega
theorem Nn {l:List Nat}{i o:Nat}(x:Nat)(h:o<=i):(l.set i x).take o=l.take o:=by rw[List.take_set,List.set_eq_of_length_le];rw[aak];omega
theorem Si {l:List Nat}{i:Nat}(x:Nat):(l.set i x).drop (i+1)=l.drop (i+1):=by rw[List.drop_set_of_lt (by omega)]
theorem Rf {l:List Nat}{o i:Nat}(x:Nat)(h:o+i<l.length):((l.set (o+i) x).drop o).take (i+1)=(l.drop o).take i++[x]:=by
 have E:(l.set (o+i) x).drop o=(l.drop o).set i x:=by rw[List.drop_set];rw[if_neg (by omega),Nat.add_sub_cancel_left]
 rw[E,adw (by rw[ab6,aag];omega),Nn x (aaa i)];simp
end ai
namespace ai
theorem Qwq:∀(l:List Nat) (i s:Nat) (h:i<l.length),val (l.set i s)+BB^i*l[i]=val l+BB^i*s
 | [],i,s,h=>by simp at h
 |x::l,0,s,h=>by simp[val];omega
 |x::l,i+1,s,h=>by
  have ih:=Qwq l i s (by simpa using h);simp only[List.set_cons_succ,val,List.getElem_cons_succ,ady]
  have e:∀q,BB^i*BB*q=BB*(BB^i*q):=fun q=>by rw[aaW (BB^i) BB,abF]
  rw[e,e]
  have:BB*val (l.set i s)+BB*(BB^i*l[i]'(by simpa using h))=BB*val l+BB*(BB^i*s):=by rw[<-abp,ih,abp]
  omega
theorem Qzy {l:List Nat}{i s z:Nat}(h:l[i]?=some z):val (l.set i s)+BB^i*z=val l+BB^i*s:=by obtain⟨E,H⟩:=aae.1 h;have:=Qwq l i s E;rw[H]at this;exact this
theorem Qy9 {x y z cc hi lo s1 c1 h2 s2 c2:Nat}(hx:x<BB)(hy:y<BB)(hz:z<BB)(hc:cc<BB)(hp:hi*BB+lo=x*y)(h1:s1+BB*c1=lo+cc)(h3:h2=hi+c1)(h4:s2+BB*c2=z+s1):h2<BB/\s2+BB*(h2+c2)=z+x*y+cc/\h2+c2<BB:=by have h:x*y<=18446744073709551615*18446744073709551615:=ab7 (by unfold BB at hx;omega) (by unfold BB at hy;omega);unfold BB at*;refine⟨by omega,by omega,by omega⟩
def mr (M0 ys:List Nat)(k x j cc:Nat)(M:List Nat):Prop:=
 M.length=M0.length/\(∀q,k+ys.length<=q->M[q]?=M0[q]?)/\val M+BB^(k+j)*cc=val M0+BB^k*(x*val (ys.take j))
theorem mr.start (M0 ys:List Nat)(k x:Nat):mr M0 ys k x 0 0 M0:=⟨rfl,fun _ _=>rfl,by simp[val]⟩
theorem mr.step {M0 ys M:List Nat}{k x j cc z y s cc':Nat}(h:mr M0 ys k x j cc M)(hz:M[k+j]?=some z)(hy:ys[j]?=some y)(hs:s+BB*cc'=z+x*y+cc):mr M0 ys k x (j+1) cc' (M.set (k+j) s):=by
 obtain⟨I,J,K⟩:=h;obtain⟨E,H⟩:=aae.1 hy;refine⟨by rw[ab6,I],fun q hq=> ?_,?_⟩
 ·rw[adW (by omega)];exact J q hq
 have e1:=Qzy (s:=s) hz;have e2:=Xa E;rw[H]at e2;rw[e2,<-abJ,ady]
 have e3:BB^k*(x*(val (ys.take j)+BB^j*y))=BB^k*(x*val (ys.take j))+BB^(k+j)*(x*y):=by rw[abp,abp,ad3];congr 1;rw[aeQ x,abF]
 rw[e3];generalize BB^(k+j)=P at*
 have e4:P*s+P*(BB*cc')=P*z+P*(x*y)+P*cc:=by rw[<-abp,hs,abp,abp]
 rw[abF];omega
def Uy (xs ys:List Nat)(k:Nat)(M:List Nat):Prop:=
 M.length=xs.length+ys.length/\(∀q,k+ys.length<=q->q<M.length->M[q]?=some 0)/\val M=val (xs.take k)*val ys
theorem Uy.start (xs ys:List Nat):Uy xs ys 0 (List.replicate (xs.length+ys.length) 0):=
 ⟨aa9,fun q _ hq=>by rw[aa9]at hq;simp[hq],by rw[Jg];simp[val]⟩
theorem Uy.zero {xs ys M:List Nat}{k:Nat}(h:Uy xs ys k M)(hx:xs[k]?=some 0):Uy xs ys (k+1) M:=by obtain⟨E,H,I⟩:=h;obtain⟨J,K⟩:=aae.1 hx;refine⟨E,fun q hq hl=>H q (by omega) hl,?_⟩;rw[Xa J,K,I];simp
theorem Uy.row {xs ys M0 M:List Nat}{k x cc:Nat}(h:Uy xs ys k M0)(hx:xs[k]?=some x)(hi:mr M0 ys k x ys.length cc M):Uy xs ys (k+1) (M.set (k+ys.length) cc)/\M[k+ys.length]?=some 0:=by
 obtain⟨I,E,J⟩:=h;obtain⟨i1,i2,i3⟩:=hi;obtain⟨K,O⟩:=aae.1 hx
 have H:M[k+ys.length]?=some 0:=by rw[i2 _ (aaa _)];exact E _ (aaa _) (by omega)
 refine⟨⟨by rw[ab6,i1,I],fun q hq hl=> ?_,?_⟩,H⟩
 ·rw[adW (by omega),i2 q (by omega)]
  rw[ab6]at hl;exact E q (by omega) (by omega)
 have e1:=Qzy (s:=cc) H;rw[adx]at i3;rw[Xa K,O,ab5,<-J];have e2:BB^k*x*val ys=BB^k*(x*val ys):=abF _ _ _;rw[e2,<-i3];simp only[aec,adt]at e1;omega
theorem Uy.done {xs ys M:List Nat}(h:Uy xs ys xs.length M):M.length=xs.length+ys.length/\val M=val xs*val ys:=by obtain⟨H,_,E⟩:=h;rw[adx]at E;exact⟨H,E⟩
theorem Sc {V W P c:Nat}(h:V+P*c=W)(hW:W<P):c=0/\V=W:=by
 cases c with
 |zero=>exact⟨rfl,by simpa using h⟩
 |succ c=>rw[Nat.mul_succ]at h;omega
theorem Qdb:2<=BB:=by unfold BB;omega
theorem Qpg {a b m:Nat}(ha:a<BB^m)(hb:b<BB^m):a+b<BB^(m+1):=by rw[ady];have h:=adI (BB^m) Qdb;generalize BB^m*BB=Q at*;generalize BB^m=P at*;omega
end ai
namespace ai
theorem YT (A0 A1 B0 B1:Nat):(A0+A1)*(B0+B1)=A0*B0+A1*B1+(A0*B1+A1*B0):=by rw[ab5,abp,abp];omega
theorem Qzg (A0 A1 B0 B1 P:Nat):(A0+P*A1)*(B0+P*B1)=A0*B0+P*P*(A1*B1)+P*(A0*B1+A1*B0):=by
 rw[ab5,abp,abp]
 have e1:A0*(P*B1)=P*(A0*B1):=by rw[aeQ]
 have e2:P*A1*B0=P*(A1*B0):=abF _ _ _
 have e3:P*A1*(P*B1)=P*P*(A1*B1):=by rw[abF,abF,aeQ A1]
 rw[e1,e2,e3,abp];omega
theorem Ju {xs ys:List Nat}(hx:ok xs)(hy:ok ys):val xs*val ys<BB^(xs.length+ys.length):=by rw[ad3];exact Nat.mul_lt_mul_of_lt_of_le (Yy hx) (abD (Yy hy)) (adZ Xs)
theorem Je (l:List Nat){n:Nat}(h:val l<BB^n):(Qw l).length<=n:=Yw l n h
structure Half (xs ys:List Nat) (h:Nat):Prop where
 O7:ok xs
 O8:ok ys
 hx:h<=xs.length
 hy:h<=ys.length
theorem Half.vx {xs ys:List Nat}{h:Nat}(H:Half xs ys h):val xs=val (xs.take h)+BB^h*val (xs.drop h):=Xp xs h H.hx
theorem Half.vy {xs ys:List Nat}{h:Nat}(H:Half xs ys h):val ys=val (ys.take h)+BB^h*val (ys.drop h):=Xp ys h H.hy
theorem Half.lM {xs ys L:List Nat}{h:Nat}(H:Half xs ys h)(hL:val L=val (xs.take h)*val (ys.take h)):(Qw L).length<=2*h:=by refine Je L ?_;have:=Ju (Zl H.O7 h) (Zl H.O8 h);rw[aak,aak,abd H.hx,abd H.hy]at this;rw[hL,show 2*h=h+h from by omega];exact this
theorem Half.mQ {xs ys L:List Nat}{h:Nat}(H:Half xs ys h)(hL:val L=val (xs.drop h)*val (ys.drop h)):(Qw L).length<=xs.length+ys.length-2*h:=by refine Je L ?_;have:=Ju (Wk H.O7 h) (Wk H.O8 h);rw[aag,aag]at this;have E:=H.hx;have I:=H.hy;rw[hL,show xs.length+ys.length-2*h=xs.length-h+(ys.length-h) from by omega];exact this
theorem Half.PD {xs ys Lm Ll:List Nat}{h:Nat}(hm:ok Lm)(hv:val Lm=(val (xs.take h)+val (xs.drop h))*(val (ys.take h)+val (ys.drop h)))(hl:val Ll=val (xs.take h)*val (ys.take h)):val (Qw Ll)<=val Lm/\(Qw Ll).length<=Lm.length:=by
 have E:val Ll<=val Lm:=by rw[hv,hl,YT];omega
 exact⟨by rw[Qn];exact E,Je Ll (adH E (Yy hm))⟩
theorem Half.PE {xs ys Lm Ll Lh M1:List Nat}{h:Nat}(hm:ok M1)(hv:val Lm=(val (xs.take h)+val (xs.drop h))*(val (ys.take h)+val (ys.drop h)))(hl:val Ll=val (xs.take h)*val (ys.take h))(hh:val Lh=val (xs.drop h)*val (ys.drop h))
  (h1:val M1+val (Qw Ll)=val Lm):val (Qw Lh)<=val M1/\(Qw Lh).length<=M1.length:=by
 have E:val Lh<=val M1:=by rw[Qn,hv,hl,YT]at h1;rw[hh];omega
 exact⟨by rw[Qn];exact E,Je Lh (adH E (Yy hm))⟩
theorem Half.mid {xs ys Lm Ll Lh M1 M2:List Nat}{h:Nat}(hv:val Lm=(val (xs.take h)+val (xs.drop h))*(val (ys.take h)+val (ys.drop h)))(hl:val Ll=val (xs.take h)*val (ys.take h))(hh:val Lh=val (xs.drop h)*val (ys.drop h))
  (h1:val M1+val (Qw Ll)=val Lm) (h2:val M2+val (Qw Lh)=val M1):val M2=val (xs.take h)*val (ys.drop h)+val (xs.drop h)*val (ys.take h):=by
 rw[Qn,hv,hl,YT]at h1;rw[Qn,hh]at h2;omega
theorem Half.pO {xs ys M2:List Nat}{h:Nat}(H:Half xs ys h)(hv:val M2=val (xs.take h)*val (ys.drop h)+val (xs.drop h)*val (ys.take h)):(Qw M2).length<=xs.length+ys.length-h:=by
 refine Je M2 ?_;have E:=Ju H.O7 H.O8;rw[H.vx,H.vy,Qzg,<-hv]at E;have J:=H.hx
 have I:BB^(xs.length+ys.length)=BB^h*BB^(xs.length+ys.length-h):=by rw[<-ad3];congr 1;omega
 rw[I]at E;exact Nat.lt_of_mul_lt_mul_left (a:=BB^h) (by omega)
theorem Half.Ld {xs ys Ll Lh M:List Nat}{h N:Nat}(H:Half xs ys h)(hN:N=xs.length+ys.length)(hl:val Ll=val (xs.take h)*val (ys.take h))(hh:val Lh=val (xs.drop h)*val (ys.drop h)){Z:List Nat}(hZ:Z=Qw Ll++List.replicate (N-(Qw Ll).length) 0)
  (hM:M.length=Z.length) (ht:M.take (2*h)=Z.take (2*h)) (hc:∃c,val (M.drop (2*h))+BB^(Z.length-2*h)*c=val (Z.drop (2*h))+val (Qw Lh)):
  M.length=N/\val M=val (xs.take h)*val (ys.take h)+BB^h*BB^h*(val (xs.drop h)*val (ys.drop h)):=by
 have U:=H.hx;have h2:=H.hy;have K:=H.lM hl
 have I:Z.length=N:=by rw[hZ,aac,aa9];omega
 have E:val (Z.drop (2*h))=0:=by rw[hZ,List.drop_append,aaR K,adz,List.drop_replicate,Jg]
 have J:val (Z.take (2*h))=val (xs.take h)*val (ys.take h):=by
  have e:=Xp Z (2*h) (by omega);rw[E]at e
  have e2:val Z=val (Qw Ll):=by rw[hZ,Uv,Jg];simp
  rw[e2,Qn,hl]at e
  simpa using e.symm
 obtain⟨c,hc⟩:=hc;rw[E,abx,Qn,hh,I]at hc
 have O:val (xs.drop h)*val (ys.drop h)<BB^(N-2*h):=by have:=Ju (Wk H.O7 h) (Wk H.O8 h);rw[aag,aag]at this;rw[show N-2*h=xs.length-h+(ys.length-h) from by omega];exact this
 obtain⟨_,T⟩:=Sc hc O;refine⟨by rw[hM,I],?_⟩;rw[Xp M (2*h) (by omega),ht,J,T,<-ad3,show h+h=2*h from by omega]
theorem Half.Lf {xs ys M2 Lm Z:List Nat}{h:Nat}(H:Half xs ys h)(hZ:Z.length=xs.length+ys.length)(hv:val Z=val (xs.take h)*val (ys.take h)+BB^h*BB^h*(val (xs.drop h)*val (ys.drop h)))
  (hm:val Lm=val (xs.take h)*val (ys.drop h)+val (xs.drop h)*val (ys.take h))
  (hM:M2.length=Z.length) (ht:M2.take h=Z.take h) (hc:∃c,val (M2.drop h)+BB^(Z.length-h)*c=val (Z.drop h)+val (Qw Lm)):
  M2.length=xs.length+ys.length/\val M2=val xs*val ys:=by
 have E:=H.hx;refine⟨by rw[hM,hZ],?_⟩;obtain⟨c,hc⟩:=hc;have e1:=Xp M2 h (by omega);have e2:=Xp Z h (by omega);rw[ht]at e1
 have e3:val M2+BB^Z.length*c=val Z+BB^h*val (Qw Lm):=by
  have:BB^Z.length=BB^h*BB^(Z.length-h):=by rw[<-ad3];congr 1;omega
  rw[this,abF,e1,e2,abJ,<-abp,hc,abp,abJ]
 have e4:val Z+BB^h*val (Qw Lm)=val xs*val ys:=by rw[Qn,hm,hv,H.vx,H.vy,Qzg]
 rw[e4,hZ]at e3;exact(Sc e3 (Ju H.O7 H.O8)).2
def fu (xs ys:List Nat)(i:Nat)(M:List Nat):Prop:=M.length=xs.length+ys.length/\val M=val (xs.take i)*val ys
theorem fu.start (xs ys:List Nat):fu xs ys 0 (List.replicate (xs.length+ys.length) 0):=⟨aa9,by rw[Jg];simp[val]⟩
theorem fu.step {xs ys L M P:List Nat}{i e:Nat}(hx:ok xs)(hy:ok ys)(h:fu xs ys i L)(iN:i<=e)(he:e<=xs.length)(hP:val P=val ((xs.drop i).take (e-i))*val ys)
  (hM:M.length=L.length) (ht:M.take i=L.take i) (hc:∃c,val (M.drop i)+BB^(L.length-i)*c=val (L.drop i)+val (Qw P)):fu xs ys e M:=by
 obtain⟨E,H⟩:=h;refine⟨by rw[hM,E],?_⟩;obtain⟨c,hc⟩:=hc;have e1:=Xp M i (by omega);have e2:=Xp L i (by omega);rw[ht]at e1
 have e3:val M+BB^L.length*c=val L+BB^i*val (Qw P):=by
  have:BB^L.length=BB^i*BB^(L.length-i):=by rw[<-ad3];congr 1;omega
  rw[this,abF,e1,e2,abJ,<-abp,hc,abp,abJ]
 have e4:val L+BB^i*val (Qw P)=val (xs.take e)*val ys:=by have e5:=Xp (xs.take e) i (by rw[aak];omega);rw[aeK,abd iN,List.drop_take]at e5;rw[Qn,hP,H,e5,ab5,abF]
 rw[e4,E]at e3;refine(Sc e3 ?_).2;have I:=Ju (Zl hx e) hy;refine aaj I (adE Xs ?_);rw[aak];omega
theorem fu.done {xs ys M:List Nat}(h:fu xs ys xs.length M):M.length=xs.length+ys.length/\val M=val xs*val ys:=by obtain⟨H,E⟩:=h;rw[adx]at E;exact⟨H,E⟩
theorem Cv {xs ys P:List Nat}{i e:Nat}(hx:ok xs)(hy:ok ys)(he:e<=xs.length)(hP:val P=val ((xs.drop i).take (e-i))*val ys)(iN:i<=e):(Qw P).length<=xs.length+ys.length-i:=by refine Je P ?_;have:=Ju (Zl (Wk hx i) (e-i)) hy;rw[hP];refine aaj this (adE Xs ?_);rw[aak,aag];omega
end ai
namespace ai
def aN (ds:List Nat):Nat:=ds.foldl (fun a x=>a*10+x) 0
theorem Qgk:aN []=0:=rfl
theorem Mg:∀(b:List Nat) (a:Nat),b.foldl (fun a x=>a*10+x) a=a*10^b.length+aN b
 | [],a=>by simp[aN]
 |x::b,a=>by have h1:=Mg b (a*10+x);have h:=Mg b (0*10+x);have e:aN (x::b)=b.foldl (fun a x=>a*10+x) (0*10+x):=rfl;rw[List.foldl_cons,h1,e,h,aaf,ady,aeD,abx,ab5,abF,aaW 10,abJ]
theorem Sg (a b:List Nat):aN (a++b)=aN a*10^b.length+aN b:=by unfold aN;rw[List.foldl_append];exact Mg b _
theorem Rj (a:List Nat)(x:Nat):aN (a++[x])=aN a*10+x:=by rw[Sg];simp[aN]
theorem Tm {ds:List Nat}(h:∀x∈ds,x<10):aN ds<10^ds.length:=by refine Va (P:=fun ds=>(∀x∈ds,x<10)->aN ds<10^ds.length) (fun _=>by simp[aN]) (fun l d ih h=> ?_) ds h;have E:=ih fun x hx=>h x (by simp[hx]);have H:=h d (by simp);rw[Rj,aac,aaf,aaG,ady];omega
theorem Gx {ds:List Nat}{i x:Nat}(h:ds[i]?=some x):aN (ds.take (i+1))=aN (ds.take i)*10+x:=by rw[ab2,h];exact Rj _ _
theorem Qdg (n:Nat):10^n<=BB^n:=Nat.pow_le_pow_left (by unfold BB;omega) n
theorem Av {n:Nat}(h:n<=19):10^n<BB:=by
 have E:10^n<=10^19:=adE (by omega) h
 have H:(10:Nat)^19<BB:=by unfold BB;decide
 omega
theorem Rv {l:List Nat}{n:Nat}(hs:Qw l=l)(h:val l<10^n):l.length<=n:=by have:=Yw l n (aaj h (Qdg n));rw[hs]at this;exact this
theorem Gj {l:List Nat}{n:Nat}(hs:Qw l=l)(h:val l<=10^n):l.length<=n+1:=by refine Rv hs (adH h ?_);rw[ady];have:0<10^n:=adZ (by omega);omega
theorem Qz5 (ds:List Nat)(i:Nat)(h:i<=ds.length):aN ds=aN (ds.take i)*10^(ds.length-i)+aN (ds.drop i):=by have:=Sg (ds.take i) (ds.drop i);rw[adA,aag]at this;exact this
def bp (c:Nat):Nat:=if 48<=c/\c<=57 then c-48 else if 97<=c/\c<=122 then c-87 else if 65<=c/\c<=90 then c-55 else 36
end ai
namespace ai
def dg (n:Nat):List Nat:=if n=0 then [] else dg (n / 10)++[n % 10]
termination_by n
decreasing_by omega
theorem Zv:dg 0=[]:=by rw[dg];rfl
theorem Jc {n:Nat}(h:0<n):dg n=dg (n / 10)++[n % 10]:=by rw[dg,if_neg (by omega)]
theorem RH:∀n,∀x∈dg n,x<10:=by
 intro n
 induction n using Nat.strongRecOn with
 |ind n ih=>
  intro x E;by_cases h:n=0
  ·subst h;rw[Zv]at E;cases E
  rw[Jc (by omega)]at E;rcases abZ.1 E with E|E
  ·exact ih (n / 10) (by omega) x E
  simp at E;omega
theorem Qby (n:Nat):aN (dg n)=n:=by
 induction n using Nat.strongRecOn with
 |ind n ih=>
  by_cases h:n=0
  ·subst h;rw[Zv];rfl
  rw[Jc (by omega),Rj,ih (n / 10) (by omega)];omega
def fw (n:Nat):Nat->List Nat
 |0=>[]
 |w+1=>fw (n / 10) w++[n % 10]
theorem Qce (n:Nat):∀w,(fw n w).length=w:=by
 intro w
 induction w generalizing n with
 |zero=>rfl
 |succ w ih=>rw[fw,aac,ih];rfl
theorem Qbs (w:Nat):fw 0 w=List.replicate w 0:=by
 induction w with
 |zero=>rfl
 |succ w ih=>rw[fw,Nat.zero_div,ih,<-List.replicate_succ']
def pad (n w:Nat):List Nat:=List.replicate (w-(dg n).length) 0++dg n
theorem Wf {n w:Nat}(h:n<10^w):(dg n).length<=w:=by
 induction w generalizing n with
 |zero=>
  have:n=0:=by rw[Nat.pow_zero]at h;omega
  subst this;rw[Zv];exact aaa _
 |succ w ih=>
  by_cases h0:n=0
  ·subst h0;rw[Zv];exact aao _
  rw[Jc (by omega),aac];have:=ih (n:=n / 10) (by rw[ady]at h;omega);simp only[aaf,aaG];omega
theorem Qma {n w:Nat}(h:n<10^w):pad n w=fw n w:=by
 induction w generalizing n with
 |zero=>
  have:n=0:=by rw[Nat.pow_zero]at h;omega
  subst this;simp[pad,Zv,fw]
 |succ w ih=>
  by_cases h0:n=0
  ·subst h0;rw[Qbs];simp[pad,Zv]
  have E:n / 10<10^w:=by rw[ady]at h;omega
  have H:=ih E;rw[fw,<-H,pad,pad,Jc (by omega:0<n),aac,aaf,aaG];rw[show w+1-((dg (n / 10)).length+(0+1))=w-(dg (n / 10)).length from by omega,aar]
theorem Qgp {q r l:Nat}(hq:0<q)(hr:r<10^l):dg (q*10^l+r)=dg q++fw r l:=by
 induction l generalizing r with
 |zero=>
  have:r=0:=by rw[Nat.pow_zero]at hr;omega
  subst this;simp[fw]
 |succ l ih=>
  have E:0<10^l:=adZ (by omega);have H:0<q*10^l:=aeO hq E
  have e:q*10^(l+1)+r=10*(q*10^l)+r:=by rw[ady,<-abF,aaW _ 10]
  have h:r / 10<10^l:=by rw[ady]at hr;omega
  have e2:(10*(q*10^l)+r) / 10=q*10^l+r / 10:=by omega
  have e3:(10*(q*10^l)+r) % 10=r % 10:=by omega
  rw[e,Jc (by omega),e2,e3,ih h,fw,aar]
theorem D9 {q r l w:Nat}(hq:0<q)(hr:r<10^l):pad (q*10^l+r) w=pad q (w-l)++fw r l:=by rw[pad,Qgp hq hr,aac,Qce,pad,<-aar];rw[show w-((dg q).length+l)=w-l-(dg q).length from by omega]
def gq (U V:Nat):Nat:=min (BB-1) (U / V)
theorem Qgt {U V P u3 v2 ul vl:Nat}(hU:U=u3*P+ul)(hul:ul<P)(hV:V=v2*P+vl)(nS:vl<P)(hlt:U<V*BB)(hv2:BB<=v2):U / V<=gq u3 v2/\gq u3 v2<=U / V+1:=by
 have T:0<P:=by omega
 have hB:=Xs
 have h:0<v2:=by omega
 have E:0<V:=by rw[hV];have:=aeO h T;omega
 constructor
 ·unfold gq
  refine Nat.le_min.2 ⟨?_,?_⟩
  ·have:U / V<BB:=(adL E).2 (by rw[aaW];exact hlt)
   omega
  rw[aeL h];have H:U / V*V<=U:=Nat.div_mul_le_self U V
  have O:U / V*v2*P<=U / V*V:=by rw[abF];exact adI _ (by rw[hV];omega)
  have I:U<(u3+1)*P:=by rw[hU,ab5,ad0];omega
  have J:U / V*v2*P<(u3+1)*P:=by omega
  have h5:=Nat.lt_of_mul_lt_mul_right J;omega
 have K:gq u3 v2<=u3 / v2:=Nat.min_le_right _ _;have Z:gq u3 v2<=BB-1:=Nat.min_le_left _ _;generalize gq u3 v2=g at*
 cases g with
 |zero=>exact aao _
 |succ g=>
  have H:(g+1)*v2<=u3:=(aeL h).1 K;have O:(g+1)*v2*P<=u3*P:=abW P H
  have I:g*V<=U:=by
   have e1:(g+1)*v2*P=g*(v2*P)+v2*P:=by rw[abF,ab5,ad0]
   have e2:g*V=g*(v2*P)+g*vl:=by rw[hV,abp]
   have J:g*vl<=v2*P:=ab7 (by omega) (by omega);omega
  have:=(aeL E).2 I;omega
end ai
namespace ai
section Ls
variable {W u0 v1 v0 d rest:Nat}
theorem YU:d*(v1*BB+v0)=d*v1*BB+d*v0:=by rw[abp,abF]
theorem Bz (h:d*v1+rest=W)(hd:d<BB)(ht:d*v0<=rest*BB+u0)(hg:gq (W*BB+u0) (v1*BB+v0)<=d)(hv:0<v1):gq (W*BB+u0) (v1*BB+v0)=d:=by
 have E:0<v1*BB+v0:=by have:=aeO hv Xs;omega
 refine Nat.le_antisymm hg ?_;unfold gq;refine Nat.le_min.2 ⟨by omega,?_⟩;rw[aeL E,YU,<-h,ab5];omega
theorem Qbr (h:d*v1+rest=W)(ht:rest*BB+u0<d*v0)(hv:0<v1):gq (W*BB+u0) (v1*BB+v0)<=d-1:=by
 have E:0<v1*BB+v0:=by have:=aeO hv Xs;omega
 refine aan (Nat.min_le_right _ _) ?_
 have:(W*BB+u0) / (v1*BB+v0)<d:=by rw[adL E,YU,<-h,ab5];omega
 omega
theorem Qkl (h:d*v1+rest=W)(hd:d<BB)(hv0:v0<BB)(hr:BB<=rest)(hg:gq (W*BB+u0) (v1*BB+v0)<=d)(hv:0<v1):gq (W*BB+u0) (v1*BB+v0)=d:=by refine Bz h hd ?_ hg hv;have E:d*v0<=BB*BB:=ab7 (by omega) (by omega);have H:BB*BB<=rest*BB:=abW _ hr;omega
theorem Qgi (hu:u0<BB)(hv:0<v1):gq (W*BB+u0) (v1*BB+v0)<=W / v1:=by
 have H:0<v1*BB+v0:=by have:=aeO hv Xs;omega
 refine aan (Nat.min_le_right _ _) ?_
 have:(W*BB+u0) / (v1*BB+v0)<W / v1+1:=by
  rw[adL H,YU]
  have h:W<(W / v1+1)*v1:=by have:=Nat.lt_div_mul_add (a:=W) hv;rw[ab5,ad0];omega
  have E:(W+1)*BB<=(W / v1+1)*v1*BB:=abW _ h;rw[ab5,ad0]at E;omega
 omega
theorem Qc0:gq (W*BB+u0) (v1*BB+v0)<=BB-1:=Nat.min_le_left _ _
end Ls
theorem Qpk {A A' P d Vi vi ui u' carry bQ hi lo vt c dE:Nat}(hm:hi*BB+lo=d*vi)(ha:lo+carry=vt+c*BB)(hs:ui+dE*BB=u'+vt+bQ)
  (h:A+P*(carry+bQ)=A'+d*Vi):A+P*ui+P*BB*(hi+c+dE)=A'+P*u'+d*(Vi+P*vi):=by
 have e1:ui+BB*(hi+c+dE)=u'+bQ+carry+d*vi:=by rw[abp,abp,aaW BB hi,aaW BB c,aaW BB dE];omega
 have e2:P*ui+P*BB*(hi+c+dE)=P*(ui+BB*(hi+c+dE)):=by rw[abp P ui (BB*(hi+c+dE)),abF]
 have e3:P*(u'+bQ+carry+d*vi)=P*u'+P*(carry+bQ)+d*(P*vi):=by rw[show u'+bQ+carry+d*vi=u'+(carry+bQ)+d*vi from by omega,abp,abp,<-abF,aaW P d,abF]
 have e4:d*(Vi+P*vi)=d*Vi+d*(P*vi):=abp _ _ _;rw[abJ,e2,e1,e3,e4];omega
theorem Qvc {d vi carry hi lo vt c:Nat}(hd:d<BB)(hv:vi<BB)(hc:carry<BB)(hm:hi*BB+lo=d*vi)(ha:lo+carry=vt+c*BB):hi+c<BB:=by
 have E:d*vi<=(BB-1)*(BB-1):=ab7 (by omega) (by omega)
 have H:(BB-1)*(BB-1)+(BB-1)=(BB-1)*BB:=by
  have:BB=BB-1+1:=by have:=Xs;omega
  conv=>rhs;rw[this]
  rw[adQ,abp,aem]
 have h:(hi+c)*BB<=(BB-1)*BB:=by rw[ab5];omega
 have I:=Nat.le_of_mul_le_mul_right h Xs;have:=Xs;omega
theorem Qhr {U V R g T bQ:Nat}(h1:U / V<=g)(hV:0<V)(h:U+T*bQ=R+g*V)(hl:bQ=0):g=U / V/\R=U % V:=by subst hl;rw[aec,adt]at h;have H:g<=U / V:=(aeL hV).2 (by omega);have E:g=U / V:=Nat.le_antisymm H h1;refine⟨E,?_⟩;have:=ad5 U V;rw[aaW,<-E]at this;omega
theorem Qpb {U V R g T:Nat}(h1:U / V<=g)(h2:g<=U / V+1)(hV:0<V)(hR:R<T)(h:U+T=R+g*V):g-1=U / V/\R+V=U % V+T:=by
 have H: ¬g=U / V:=fun e=>by have:=Nat.div_mul_le_self U V;rw[<-e]at this;omega
 have E:g=U / V+1:=by omega
 refine⟨by rw[E,adQ],?_⟩;rw[E,ab5,ad0]at h;have:=ad5 U V;rw[aaW]at this;omega
end ai
namespace ai
theorem Qkg {W u1 v1 v0 d rest b:Nat}(h:d*v1+rest=W)(ht:d*v0<=rest*b+u1)(hg:(W*b+u1) / (v1*b+v0)<=d)(hv:0<v1*b+v0):(W*b+u1) / (v1*b+v0)=d:=by refine Nat.le_antisymm hg ?_;rw[aeL hv,abp,<-h,ab5,<-abF];omega
theorem Qbg {W u1 v1 v0 d rest b:Nat}(h:d*v1+rest=W)(ht:rest*b+u1<d*v0)(hv:0<v1*b+v0):(W*b+u1) / (v1*b+v0)<=d-1:=by
 have:(W*b+u1) / (v1*b+v0)<d:=by rw[adL hv,abp,<-h,ab5,<-abF];omega
 omega
theorem Qqq {W u1 v1 v0 b:Nat}(hu:u1<b)(hv:0<v1):(W*b+u1) / (v1*b+v0)<=W / v1:=by
 have I:0<b:=by omega
 have H:0<v1*b+v0:=by have:=aeO hv I;omega
 have:(W*b+u1) / (v1*b+v0)<W / v1+1:=by
  rw[adL H,abp,<-abF]
  have h:W<(W / v1+1)*v1:=by have:=Nat.lt_div_mul_add (a:=W) hv;rw[ab5,ad0];omega
  have E:(W+1)*b<=(W / v1+1)*v1*b:=abW _ h;rw[ab5,ad0]at E;omega
 omega
theorem Qz8 {W u1 V b:Nat}(hW:W<V)(hu:u1<b):(W*b+u1) / V<b:=by rw[adL (by omega)];have:(W+1)*b<=V*b:=abW _ hW;rw[ab5,ad0,aaW V b]at this;omega
theorem Qvn {N V b W u1 u0:Nat}(hb:0<b)(hV:0<V)(hN:N=(W*b+u1)*b+u0):N / V=(W*b+u1) / V*b+((W*b+u1) % V*b+u0) / V/\N % V=((W*b+u1) % V*b+u0) % V:=by
 have h:=ad5 (W*b+u1) V;generalize (W*b+u1) / V=q at*;generalize (W*b+u1) % V=r at*
 have e:N=V*(q*b)+(r*b+u0):=by rw[hN,<-h,ab5,abF,abJ]
 rw[e];exact⟨Nat.mul_add_div hV _ _,Nat.mul_add_mod _ _ _⟩
theorem Qx0 {hi lo P S T:Nat}(hS:0<S)(hT:T=P*S):(hi*T+lo)*S=(hi*S+lo / P)*T+lo*S % T:=by
 have E:lo*S / T=lo / P:=by rw[hT];exact Nat.mul_div_mul_right _ _ hS
 have h:=ad5 (lo*S) T;rw[E,aaW T]at h;rw[ab5,ab5,abJ,h,Nat.mul_right_comm]
theorem Fe {N y S:Nat}(hS:0<S):N / y=N*S / (y*S)/\N % y=N*S % (y*S) / S:=by refine⟨(Nat.mul_div_mul_right _ _ hS).symm,?_⟩;rw[Nat.mul_mod_mul_right,Nat.mul_div_cancel _ hS]
theorem Qhj {hi lo y P S T:Nat}(hP:0<P)(hT:T=P*S)(hh:hi<y)(ei:lo<T):hi*S+lo / P<y*S:=by
 have E:lo / P<S:=by rw[adL hP,aaW,<-hT];exact ei
 have h:(hi+1)*S<=y*S:=abW _ hh;rw[ab5,ad0]at h;omega
end ai
namespace ag
abbrev Bytes:=List UInt8
abbrev C:=Option Nat×Bytes
abbrev Tok:=Nat×Bytes×Nat
def V8 (v:Nat):Bool:=v<0xD800||(0xE000<=v && v<=0x10FFFF)
def Xo (b:UInt8):Bool:=b.toNat / 64==2
def dec:Bytes->Option (Nat×Nat)
 | []=>none
 |b::t=>
  if b.toNat<0x80 then some (b.toNat,1)
  else if b.toNat / 32=6 then
   match t with
   |c::_=>if Xo c && 0x80<=(b.toNat % 32)*64+c.toNat % 64 then some ((b.toNat % 32)*64+c.toNat % 64,2) else none
   |_=>none
  else if b.toNat / 16=14 then
   match t with
   |c::d::_=>
    if Xo c && Xo d && 0x800<=(b.toNat % 16)*4096+(c.toNat % 64)*64+d.toNat % 64 && V8 ((b.toNat % 16)*4096+(c.toNat % 64)*64+d.toNat % 64)
    then some ((b.toNat % 16)*4096+(c.toNat % 64)*64+d.toNat % 64,3) else none
   |_=>none
  else if b.toNat / 8=30 then
   match t with
   |c::d::f::_=>
    if Xo c && Xo d && Xo f && 0x10000<=(b.toNat % 8)*262144+(c.toNat % 64)*4096+(d.toNat % 64)*64+f.toNat % 64 && V8 ((b.toNat % 8)*262144+(c.toNat % 64)*4096+(d.toNat % 64)*64+f.toNat % 64)
    then some ((b.toNat % 8)*262144+(c.toNat % 64)*4096+(d.toNat % 64)*64+f.toNat % 64,4) else none
   |_=>none
  else none
theorem Wh {l:Bytes}{v n:Nat}(h:dec l=some (v,n)):1<=n/\n<=l.length/\n<=4:=by
 unfold dec at h;split at h
 ·cases h
 rename_i b t;split at h
 ·cases h;simp
 split at h
 ·split at h
  ·split at h<;>simp at h;obtain⟨_,rfl⟩:=h;simp
  cases h
 split at h
 ·split at h
  ·split at h<;>simp at h;obtain⟨_,rfl⟩:=h;simp
  cases h
 split at h
 ·split at h
  ·split at h<;>simp at h;obtain⟨_,rfl⟩:=h;simp
  cases h
 cases h
theorem ZC {l:Bytes}{v n:Nat}(h:dec l=some (v,n)):v<=0x10FFFF:=by
 unfold dec at h;split at h
 ·cases h
 rename_i b t;split at h
 ·cases h;omega
 split at h
 ·split at h
  ·split at h<;>simp at h;omega
  cases h
 split at h
 ·split at h
  ·split at h<;>simp at h;omega
  cases h
 split at h
 ·split at h
  ·split at h
   ·rename_i E
    simp only[aaY,V8,aep,aaV]at E;simp at h;omega
   cases h
  cases h
 cases h
theorem Qz6 {l:Bytes}{v n:Nat}(h:dec l=some (v,n))(t:Bytes):dec (l++t)=some (v,n):=by
 unfold dec at h;split at h
 ·cases h
 rename_i b r;simp only[adV];unfold dec;split at h
 ·rename_i E;simp only[E,if_true];exact h
 rename_i E;split at h
 ·rename_i H
  split at h
  ·simp only[E,H,if_true,aeb,adV];exact h
  cases h
 rename_i H;split at h
 ·rename_i I
  split at h
  ·simp only[E,H,I,if_true,aeb,adV];exact h
  cases h
 rename_i I;split at h
 ·rename_i J
  split at h
  ·simp only[E,H,I,J,if_true,aeb,adV];exact h
  cases h
 cases h
def mB:Nat->Bytes->List C
 |0,_=>[]
 |_,[]=>[]
 |n+1,b::t=>
  match dec (b::t) with
  |some (v,k)=>(some v,(b::t).take k)::mB n ((b::t).drop k)
  |none=>(none,[b])::mB n t
def Qx (l:Bytes):List C:=mB l.length l
theorem Qwc:∀(n:Nat) (l:Bytes),l.length<=n->mB n l=mB l.length l:=by
 intro n
 induction n using Nat.strongRecOn with
 |ind n ih=>
  intro l E
  cases l with
  |nil=>cases n<;>rfl
  |cons b t=>
   cases n with
   |zero=>simp at E
   |succ n=>
    simp only[aaf,mB];simp only[aaf]at E
    cases hd:dec (b::t) with
    |none=>
     simp only
     rw[ih n (by omega) t (by omega)]
    |some p=>
     obtain⟨v,k⟩:=p;simp only;have H:=Wh hd
     have h:((b::t).drop k).length=t.length+1-k:=by simp
     rw[ih n (by omega) _ (by rw[h];omega)];by_cases hnt:t.length=n
     ·rw[hnt,ih n (by omega) _ (by rw[h];omega)]
     rw[ih t.length (by omega) _ (by rw[h];omega)]
theorem Zf:Qx []=[]:=rfl
theorem Pq {l:Bytes}{v k:Nat}(h:dec l=some (v,k)):Qx l=(some v,l.take k)::Qx (l.drop k):=by
 cases l with
 |nil=>cases h
 |cons b t=>have E:=Wh h;unfold Qx;simp only[aaf,mB,h];rw[Qwc t.length _ (by simp;omega)]
theorem Qza {b:UInt8}{t:Bytes}(h:dec (b::t)=none):Qx (b::t)=(none,[b])::Qx t:=by unfold Qx;simp only[aaf,mB,h]
def wid (l:Bytes):Nat:=match dec l with|some (_,k)=>k|none=>1
def val (l:Bytes):Option Nat:=(dec l).map (·.1)
theorem Aw (l:Bytes):1<=wid l:=by
 unfold wid
 cases h:dec l with
 |none=>simp
 |some p=>obtain⟨v,k⟩:=p;have:=Wh h;simp;omega
theorem Kj {l:Bytes}(hl:l≠[]):wid l<=l.length:=by
 unfold wid
 cases h:dec l with
 |none=>cases l with|nil=>exact absurd rfl hl|cons b t=>simp
 |some p=>obtain⟨v,k⟩:=p;have:=Wh h;simp;omega
theorem Ye {l:Bytes}(hl:l≠[]):Qx l=(val l,l.take (wid l))::Qx (l.drop (wid l)):=by
 cases h:dec l with
 |none=>
  cases l with
  |nil=>exact absurd rfl hl
  |cons b t=>rw[Qza h];simp[val,wid,h]
 |some p=>obtain⟨v,k⟩:=p;rw[Pq h];simp[val,wid,h]
theorem Wm {P:Bytes->Prop}(h0:P [])(h1:∀l,l≠[]->P (l.drop (wid l))->P l):∀l,P l:=by
 intro l
 have:∀n (l:Bytes),l.length<=n->P l:=by
  intro n
  induction n with
  |zero=>intro l h;cases l with|nil=>exact h0|cons _ _=>simp at h
  |succ n ih=>
   intro l h;by_cases he:l=[]
   ·rw[he];exact h0
   refine h1 l he (ih _ ?_);have:=Aw l;have:=Kj he;simp only[aag];omega
 exact this _ l (aaa _)
theorem Ym:∀l:Bytes,(Qx l).length<=l.length:=by
 apply Wm
 ·simp[Zf]
 intro l h ih;rw[Ye h];have:=Aw l;have:=Kj h;simp only[aaf,aag]at ih ⊢;omega
def Qk (cs:List C):Bytes:=cs.flatMap (·.2)
theorem Yp:∀l:Bytes,Qk (Qx l)=l:=by
 apply Wm
 ·rfl
 intro l h ih;rw[Ye h];simp only[Qk,aen]at ih ⊢;rw[ih,adA]
theorem Ho:∀(k:Nat) (l:Bytes),(Qx l).drop k=Qx (l.drop (Qk ((Qx l).take k)).length):=by
 intro k
 induction k with
 |zero=>intro l;simp[Qk]
 |succ k ih=>
  intro l;by_cases hl:l=[]
  ·subst hl;simp[Zf,Qk]
  have h:=Ye hl;rw[h];simp only[List.drop_succ_cons,aei,Qk,aen,aac]
  have E:(l.take (wid l)).length=wid l:=by have:=Kj hl;simp;omega
  rw[E,ih,adG];simp only[Qk]
def kindOf (r:Nat):Nat:=
 if r=32\/r=9\/r=0xa0 then 1
 else if r=35 then 2
 else if 48<=r/\r<=57 then 3
 else if (97<=r/\r<=122)\/(65<=r/\r<=90)\/r=95 then 4
 else if r=0x2212\/r=0xd7 then 5
 else if (0xc0<=r/\r<=0x2af/\r≠0xf7)\/(0x370<=r/\r<=0x3ff) then 4
 else if r<0x80/\(r.toUInt8∈([43,45,42,94,39,40,41,91,93,123,125,44,59,58,61]:Bytes)) then 5
 else 6
def kd (c:C):Nat:=match c.1 with|some v=>kindOf v|none=>0
def rn (c:C):Nat:=match c.1 with|some v=>v|none=>0xFFFD
theorem Tc (r:Nat):1<=kindOf r/\kindOf r<=6:=by
 unfold kindOf;repeat' split
 all_goals omega
def Ql (c:C):Bool:=kd c==3||rn c==95
def aL (c:C):Bool:=kd c==3||kd c==4
def Qe (c:C):Bool:=kd c !=0
def Jf (t:Bytes):Bool:=Go.Lib.hasSuffix t [95]||Go.Lib.contains t [95,95]
def Zc (c:C):Bytes:=if rn c=0x2212 then [45] else if rn c=0xd7 then [42] else c.2
def Qp (p:C->Bool)(cs:List C):Nat:=(cs.takeWhile p).length
abbrev ep:=Except (Nat×Nat) (List Tok)
def ep.after (a:List Tok):ep->ep
 | .ok l=> .ok (a++l)
 | .error e=> .error e
def dG:Nat->Nat->List C->ep
 |0,_,_=> .ok []
 |_,_,[]=> .ok []
 |n+1,col,c::cs=>
  if kd c=1 then dG n (col+1) cs
  else if kd c=2 then
   if Qp Qe (c::cs)<(c::cs).length then .error (col+Qp Qe (c::cs),12) else .ok []
  else if kd c=0 then .error (col,12)
  else if kd c=3 then
   if Jf (Qk ((c::cs).take (Qp Ql (c::cs)))) then .error (col,7)
   else (dG n (col+Qp Ql (c::cs)) ((c::cs).drop (Qp Ql (c::cs)))).after [(1,Qk ((c::cs).take (Qp Ql (c::cs))),col)]
  else if kd c=4 then
   if 32<(Qk ((c::cs).take (Qp aL (c::cs)))).length then .error (col,17)
   else (dG n (col+Qp aL (c::cs)) ((c::cs).drop (Qp aL (c::cs)))).after [(2,Qk ((c::cs).take (Qp aL (c::cs))),col)]
  else if kd c=5 then (dG n (col+1) cs).after [(3,Zc c,col)]
  else .error (col,13)
theorem ep.bH (a b:List Tok)(r:ep):(r.after b).after a=r.after (a++b):=by
 cases r<;>simp[ep.after]
theorem ep.eZ (r:ep):r.after []=r:=by cases r<;>simp[ep.after]
theorem Zq (p:C->Bool)(cs:List C):Qp p cs<=cs.length:=by
 unfold Qp
 induction cs with
 |nil=>simp
 |cons c cs ih=>simp only[List.takeWhile_cons];split<;>simp;exact ih
theorem Xv {p:C->Bool}{c:C}{cs:List C}(h:p c=true):1<=Qp p (c::cs):=by simp[Qp,h]
theorem Qpy:∀(n:Nat) (col:Nat) (cs:List C),cs.length<=n->dG n col cs=dG cs.length col cs:=by
 intro n
 induction n using Nat.strongRecOn with
 |ind n ih=>
  intro col cs I
  cases cs with
  |nil=>cases n<;>rfl
  |cons c cs=>
   cases n with
   |zero=>simp at I
   |succ n=>
    simp only[aaf]at I
    have h:∀(m col:Nat) (r:List C),n<=m\/cs.length<=m->r.length<=cs.length->m<=n->dG m col r=dG r.length col r:=by intro m col r K H J;exact ih m (by omega) col r (by omega)
    have e:∀(col:Nat) (r:List C),r.length<=cs.length->dG n col r=dG cs.length col r:=by intro col r H;rw[h n col r (.inl (aaa _)) H (aaa _),h cs.length col r (.inr (aaa _)) H (by omega)]
    have d1:kd c=3->((c::cs).drop (Qp Ql (c::cs))).length<=cs.length:=by intro E;have:=Xv (p:=Ql) (c:=c) (cs:=cs) (by simp[Ql,E]);simp only[aag,aaf];omega
    have d2:kd c=4->((c::cs).drop (Qp aL (c::cs))).length<=cs.length:=by intro E;have:=Xv (p:=aL) (c:=c) (cs:=cs) (by simp[aL,E]);simp only[aag,aaf];omega
    simp only[dG,aaf];by_cases k1:kd c=1
    ·rw[if_pos k1,if_pos k1,e _ _ (aaa _)]
    rw[if_neg k1,if_neg k1];by_cases k2:kd c=2
    ·rw[if_pos k2,if_pos k2]
    rw[if_neg k2,if_neg k2];by_cases k0:kd c=0
    ·rw[if_pos k0,if_pos k0]
    rw[if_neg k0,if_neg k0];by_cases k3:kd c=3
    ·rw[if_pos k3,if_pos k3,e _ _ (d1 k3)]
    rw[if_neg k3,if_neg k3];by_cases k4:kd c=4
    ·rw[if_pos k4,if_pos k4,e _ _ (d2 k4)]
    rw[if_neg k4,if_neg k4,e _ _ (aaa _)]
def aw (col:Nat)(cs:List C):ep:=dG cs.length col cs
theorem Zg (col:Nat):aw col []=.ok []:=rfl
theorem Ch (n col:Nat)(cs:List C)(h:cs.length<=n):dG n col cs=aw col cs:=Qpy n col cs h
theorem Zr {c:C}{cs:List C}(col:Nat)(h:kd c=1):aw col (c::cs)=aw (col+1) cs:=by simp only[aw,aaf,dG];rw[if_pos h]
theorem Vj {c:C}{cs:List C}(col:Nat)(h:kd c=2):aw col (c::cs)=if Qp Qe (c::cs)<(c::cs).length then .error (col+Qp Qe (c::cs),12) else .ok []:=by simp only[aw,aaf,dG,h];simp
theorem Ws {c:C}{cs:List C}(col:Nat)(h:kd c=0):aw col (c::cs)=.error (col,12):=by simp only[aw,aaf,dG,h];simp
theorem Vd {c:C}{cs:List C}(col:Nat)(h:kd c=3):aw col (c::cs)=if Jf (Qk ((c::cs).take (Qp Ql (c::cs)))) then .error (col,7)
   else (aw (col+Qp Ql (c::cs)) ((c::cs).drop (Qp Ql (c::cs)))).after [(1,Qk ((c::cs).take (Qp Ql (c::cs))),col)]:=by
 have E:=Xv (p:=Ql) (c:=c) (cs:=cs) (by simp[Ql,h]);rw[<-Ch cs.length _ ((c::cs).drop _) (by simp only[aag,aaf];omega)];simp only[aw,aaf,dG,h];simp
theorem Vv {c:C}{cs:List C}(col:Nat)(h:kd c=4):aw col (c::cs)=if 32<(Qk ((c::cs).take (Qp aL (c::cs)))).length then .error (col,17)
   else (aw (col+Qp aL (c::cs)) ((c::cs).drop (Qp aL (c::cs)))).after [(2,Qk ((c::cs).take (Qp aL (c::cs))),col)]:=by
 have E:=Xv (p:=aL) (c:=c) (cs:=cs) (by simp[aL,h]);rw[<-Ch cs.length _ ((c::cs).drop _) (by simp only[aag,aaf];omega)];simp only[aw,aaf,dG,h];simp
theorem Jr {c:C}{cs:List C}(col:Nat)(h:kd c=5):aw col (c::cs)=(aw (col+1) cs).after [(3,Zc c,col)]:=by simp only[aw,aaf,dG,h];simp
theorem Jh {c:C}{cs:List C}(col:Nat)(h:kd c=6):aw col (c::cs)=.error (col,13):=by simp only[aw,aaf,dG,h];simp
theorem Gn (c:C):kd c<=6:=by
 unfold kd;split
 ·exact(Tc _).2
 omega
theorem Wn (p:C->Bool):∀(l:List C) (m:Nat),m<=l.length->(∀c∈l.take m,p c=true)->(∀c,l[m]?=some c->p c=false)->Qp p l=m:=by
 intro l
 induction l with
 |nil=>intro m h _ _;simp at h;subst h;rfl
 |cons d l ih=>
  intro m h E H
  cases m with
  |zero=>simp[Qp,H d (by simp)]
  |succ m=>have I:p d=true:=E d (by simp);have:=ih m (by simpa using h) (fun c hc=>E c (by simp[hc])) (fun c hc=>H c (by simpa using hc));simp only[Qp]at this;simp[Qp,I,this]
theorem Dv (l:Bytes)(i j:Nat)(h:i<=j):(l.drop (Qk ((Qx l).take i)).length).take ((Qk ((Qx l).take j)).length-(Qk ((Qx l).take i)).length)=Qk (((Qx l).drop i).take (j-i)):=by
 have e1:Qk ((Qx l).take i)++Qk ((Qx l).drop i)=l:=by have:=Yp l;simp only[Qk]at*;rw[<-ad7,adA,this]
 have e2:(Qx l).take j=(Qx l).take i++((Qx l).drop i).take (j-i):=by have:=List.take_add (l:=Qx l) (i:=i) (j:=j-i);rw[show i+(j-i)=j from by omega]at this;exact this
 have e3:Qk ((Qx l).drop i)=Qk (((Qx l).drop i).take (j-i))++Qk (((Qx l).drop i).drop (j-i)):=by simp only[Qk];rw[<-ad7,adA]
 have e4:l.drop (Qk ((Qx l).take i)).length=Qk ((Qx l).drop i):=by have E:=List.drop_left (l₁:=Qk ((Qx l).take i)) (l₂:=Qk ((Qx l).drop i));rw[e1]at E;exact E
 rw[e4,e3,e2]
 have e5:(Qk ((Qx l).take i++((Qx l).drop i).take (j-i))).length-(Qk ((Qx l).take i)).length=(Qk (((Qx l).drop i).take (j-i))).length:=by simp only[Qk,ad7,aac];omega
 rw[e5,List.take_left]
theorem Wg (cs:List C)(i:Nat):(Qk (cs.take i)).length<=(Qk cs).length:=by
 have:Qk (cs.take i)++Qk (cs.drop i)=Qk cs:=by simp only[Qk];rw[<-ad7,adA]
 rw[<-this,aac];omega
end ag
namespace ag
open Go Go.RowKit
def X3:Nat->List C->List Value
 |_,[]=>[]
 |p,c::cs=> .int .i64 (kd c:Nat)::.int .i32 (rn c:Nat)::.int .i64 (p:Nat)::X3 (p+c.2.length) cs
theorem Ht:∀(a b:List C) (p:Nat),X3 p (a++b)=X3 p a++X3 (p+(Qk a).length) b:=by
 intro a
 induction a with
 |nil=>intro b p;simp[X3,Qk]
 |cons c cs ih=>intro b p;simp[X3,Qk,ih,abJ]
theorem Sy (p:Nat)(c:C):X3 p [c]=[.int .i64 (kd c:Nat),.int .i32 (rn c:Nat),.int .i64 (p:Nat)]:=rfl
theorem Hi:∀(a:List C) (p k:Nat) (c:C),a[k]?=some c->(X3 p a)[k*3]?=some (.int .i64 (kd c:Nat))/\(X3 p a)[k*3+1]?=some (.int .i32 (rn c:Nat))/\(X3 p a)[k*3+2]?=some (.int .i64 (p+(Qk (a.take k)).length:Nat)):=by
 intro a
 induction a with
 |nil=>intro p k c h;simp at h
 |cons d cs ih=>
  intro p k c h
  cases k with
  |zero=>simp at h;subst h;simp[X3,Qk]
  |succ k=>
   simp only[adP]at h;obtain⟨E,H,I⟩:=ih (p+d.2.length) k c h
   have e0:(k+1)*3=k*3+1+1+1:=by omega
   have e1:(k+1)*3+1=k*3+1+1+1+1:=by omega
   have e2:(k+1)*3+2=k*3+2+1+1+1:=by omega
   refine⟨?_,?_,?_⟩
   ·rw[e0];simp only[X3,adP];exact E
   ·rw[e1];simp only[X3,adP];exact H
   rw[e2];simp only[X3,adP,aei,Qk,aen,aac];rw[I];simp only[Qk,abJ]
def Xk (l:List Tok):List Value:=l.flatMap fun t=>[.int .i64 (t.1:Nat),.string ⟨t.2.1.toArray⟩,.int .i64 (t.2.2:Nat)]
theorem Vq (a b:List Tok):Xk (a++b)=Xk a++Xk b:=by simp[Xk]
theorem Pb:∀(a:List Tok) (k:Nat) (t:Tok),a[k]?=some t->(Xk a)[k*3]?=some (.int .i64 (t.1:Nat))/\(Xk a)[k*3+1]?=some (.string ⟨t.2.1.toArray⟩)/\(Xk a)[k*3+2]?=some (.int .i64 (t.2.2:Nat)):=by
 intro a
 induction a with
 |nil=>intro k t h;simp at h
 |cons d cs ih=>
  intro k t h
  cases k with
  |zero=>simp at h;subst h;simp[Xk]
  |succ k=>
   simp only[adP]at h;obtain⟨E,H,I⟩:=ih k t h
   have e0:(k+1)*3=k*3+1+1+1:=by omega
   have e1:(k+1)*3+1=k*3+1+1+1+1:=by omega
   have e2:(k+1)*3+2=k*3+2+1+1+1:=by omega
   have ec:Xk (d::cs)=.int .i64 (d.1:Nat)::.string ⟨d.2.1.toArray⟩::.int .i64 (d.2.2:Nat)::Xk cs:=rfl;refine⟨?_,?_,?_⟩
   ·rw[e0,ec];simp only[adP];exact E
   ·rw[e1,ec];simp only[adP];exact H
   rw[e2,ec];simp only[adP];exact I
theorem X0 {w:World}{b b':Nat}{e:TypeId}{size:Nat}{v:Value}{n:Nat}{xs:List Value}(h:w.ownsRow b e size v n xs)(hb:b'<=b):w.ownsRow b' e size v n xs:=by
 refine⟨h.1,?_⟩;rcases h.2 with I|⟨g,E,H,K,J,r⟩
 ·exact .inl I
 exact .inr ⟨g,E,H,K,aan hb J,r⟩
theorem Qg {w w':World}{b B:Nat}{e:TypeId}{size:Nat}{v:Value}{n:Nat}{xs:List Value}(h:w.ownsRow b e size v n xs)(hb:Below B w w')(hB:w.heap.size<=B):w'.ownsRow b e size v n xs:=by
 refine⟨h.1,?_⟩;rcases h.2 with J|⟨g,E,H,O,K,I,r⟩
 ·exact .inl J
 have T:g<w.heap.size:=(aal.1 I).1;exact .inr ⟨g,E,H,O,K,by rw[hb.block g (by omega)];exact I,r⟩
theorem lQ {w:World}{b:Nat}{e:TypeId}{size:Nat}{v:Value}{n:Nat}{xs:List Value}(h:w.ownsRow b e size v n xs):(v=.slice none 0 0/\n=0/\xs=[])\/ ∃g cap,v=.slice (some ⟨g,0,none⟩) n cap/\b<=g/\g<w.heap.size/\n<=cap/\cap<=maxLen/\ ∀j,j<n*size->w.cell? ⟨g,j,none⟩=xs[j]? :=by
 rcases h.2 with ⟨rfl,rfl⟩|⟨g,cap,K,rfl,H,I,J,E,_⟩
 ·exact .inl ⟨rfl,rfl,aaq (by simpa using h.1)⟩
 exact .inr ⟨g,cap,rfl,H,(aal.1 I).1,J,E,fun j hj=>h.cellAt j hj⟩
theorem Qh (w:World)(cs:List Value)(t:TypeId)(n:Nat)(hn:n=w.heap.size):∀j u,cs[j]?=some u->(w.alloc (.cells cs.toArray t)).cell? ((⟨n,0,none⟩:Addr).add j)=some u:=by
 intro j u h;subst hn;rw[Addr.add_lit,World.cell?_alloc_at _ _ _ _ rfl]
 simpa using h
theorem Qj {w:World}{b:Nat}{e:TypeId}{size:Nat}{v:Value}{n:Nat}{xs:List Value}(h:w.ownsRow b e size v n xs):∃ao cap,v=.slice ao n cap/\n<=cap/\cap<=maxLen/\(0<n-> ∃g,ao=some ⟨g,0,none⟩/\b<=g/\g<w.heap.size/\ ∀j,j<n*size->w.cell? ⟨g,j,none⟩=xs[j]?):=by
 rcases h.2 with ⟨rfl,rfl⟩|⟨g,cap,K,rfl,H,I,J,E,_⟩
 ·exact⟨none,0,rfl,aaa _,aao _,fun h0=>absurd h0 (ae1 _)⟩
 exact⟨_,cap,rfl,J,E,fun _=>⟨g,rfl,H,(aal.1 I).1,fun j hj=>h.cellAt j hj⟩⟩
end ag
namespace Go.Proofs.YtgfmiladfeoldaaGreatDoor
open Go.RowKit ai ag
theorem Ux {a b:Int}(h:a=b):Ending.returned (.int .i64 a)=.returned (.int .i64 b):=by rw[h]
def ws (l:List Nat):List Value:=l.map fun d=> .int .u64 (d:Nat)
theorem Jq (l:List Nat):(ws l).length=l.length:=by simp[ws]
theorem Qd8 {l:List Nat}{i x:Nat}(h:l[i]?=some x):(ws l)[i]?=some (.int .u64 (x:Nat)):=by simp[ws,h]
theorem ZB (l:List Nat):∀u∈ws l,u.oneCell'=true:=by intro u h;simp only[ws,adR]at h;obtain⟨d,_,rfl⟩:=h;rfl
theorem Tryz.zi:(Tryz.prog.info? 101).map (fun i=>(i.zero,i.size,i.bytes))=some (some (.int .u64 0),1,8):=by kernel_rfl
theorem Tryz.lJ:(Tryz.prog.info? 101).map (·.size)=some 1:=by kernel_rfl
def Rd (w:World)(v:Value)(xs:List Nat):Prop:=
 (∀k,v.ownBlock=some k->k<w.heap.size)/\ ∃ao cap,v=.slice ao xs.length cap/\xs.length<=cap/\cap<=maxLen/\ok xs/\ ∀i x,xs[i]?=some x-> ∃g o,ao=some ⟨g,o,none⟩/\w.cell? ⟨g,o+i,none⟩=some (.int .u64 (x:Nat))
theorem Rd.kept {w w':World}{v:Value}{xs:List Nat}{row:Option Nat}(h:Rd w v xs)(hg:w.grownBy w' row)(hne:∀k,row=some k->v.ownBlock≠some k):Rd w' v xs:=by obtain⟨H,ao,E,rfl,I,J,K,O⟩:=h;refine⟨fun k hk=>aaj (H k hk) hg.size,ao,E,rfl,I,J,K,fun i x hx=> ?_⟩;obtain⟨g,o,rfl,T⟩:=O i x hx;exact⟨g,o,rfl,hg.cell T (fun e=>hne g e.symm rfl)⟩
theorem Rd.below {w w':World}{v:Value}{xs:List Nat}(h:Rd w v xs)(hb:Below w.heap.size w w'):Rd w' v xs:=
 h.kept (row:=none) ⟨hb.os,hb.tape,hb.output,hb.size,fun k hk _=>hb.block k hk⟩ (fun k hk=>by cases hk)
theorem Rd.drewN {w:World}{v:Value}{xs:List Nat}(h:Rd w v xs)(n:Nat):Rd (w.drewN n) v xs:=
 h.below ⟨rfl,rfl,rfl,aaa _,fun _ _=>rfl⟩
theorem Rd.alloc {w:World}{v:Value}{xs:List Nat}(h:Rd w v xs)(o:Obj):Rd (w.alloc o) v xs:=
 h.below ((aa8 _ _).alloc (aaa _) o)
theorem Rd.nil (w:World):Rd w (.slice none 0 0) []:=⟨fun k hk=>(by cases hk),none,0,rfl,aaa _,aao _,Fj,fun i x h=>by simp at h⟩
theorem Rd.take {w:World}{ao:Option Addr}{len cap n c:Nat}{xs:List Nat}(h:Rd w (.slice ao len cap) xs)(hn:n<=xs.length)(hc:n<=c)(hm:c<=cap):Rd w (.slice ao n c) (xs.take n):=by
 obtain⟨E,ao',cap',e,J,K,H,I⟩:=h;simp only[Value.slice.injEq]at e;obtain⟨rfl,rfl,rfl⟩:=e
 refine⟨fun k hk=>E k (by cases ao<;>first|exact hk|cases hk),ao,c,by rw[aak,abd hn],by rw[aak];omega,by omega,Zl H _,fun i x hx=> ?_⟩
 rw[adX]at hx;split at hx
 ·exact I i x hx
 cases hx
theorem Rd.lt {w:World}{v:Value}{xs:List Nat}(h:Rd w v xs){k:Nat}(hk:v.ownBlock=some k):k<w.heap.size:=h.1 k hk
theorem Rd.ne {w:World}{v:Value}{xs:List Nat}(h:Rd w v xs){g:Nat}(hg:w.heap.size<=g):v.ownBlock≠some g:=fun e=>by have:=h.1 g e;omega
def ba (w:World)(g:Nat)(L:List Nat):Prop:=w.heap[g]?=some (.cells (ws L).toArray 101 (0,0))/\ok L
theorem ba.lt {w:World}{g:Nat}{L:List Nat}(h:ba w g L):g<w.heap.size:=(aal.1 h.1).1
theorem ba.cell {w:World}{g:Nat}{L:List Nat}(h:ba w g L){i x:Nat}(hx:L[i]?=some x):w.cell? ⟨g,i,none⟩=some (.int .u64 (x:Nat)):=by rw[aam w g i _ _ _ h.1];simp[ws,hx]
theorem ba.frozen {w:World}{g:Nat}{L:List Nat}(h:ba w g L)(i:Nat):w.frozen? ⟨g,i,none⟩=false:=aaH w g i _ _ h.1
theorem ba.set {w:World}{g:Nat}{L:List Nat}(h:ba w g L)(i:Nat){x:Nat}(hx:x<BB):ba (w.setCell ⟨g,i,none⟩ (.int .u64 (x:Nat))) g (L.set i x)/\w.grownBy (w.setCell ⟨g,i,none⟩ (.int .u64 (x:Nat))) (some g):=by refine⟨⟨?_,Qdz h.2 i hx⟩,⟨rfl,rfl,rfl,by simp,fun k _ hk=>aaX w ⟨g,i,none⟩ k _ (fun e=>hk (by simp[e]))⟩⟩;have:=aas w g i (ws L).toArray 101 (.int .u64 (x:Nat)) h.1;rw[this];simp[ws,List.map_set]
theorem ba.kept {w w':World}{g:Nat}{L:List Nat}{row:Option Nat}(h:ba w g L)(hg:w.grownBy w' row)(hne:row≠some g):ba w' g L:=
 ⟨(hg.block g h.lt (fun e=>hne e.symm)).trans h.1,h.2⟩
theorem ba.below {w w':World}{g B:Nat}{L:List Nat}(h:ba w g L)(hb:Below B w w')(hB:g<B):ba w' g L:=⟨(hb.block g hB).trans h.1,h.2⟩
theorem ba.rd {w:World}{g:Nat}{L:List Nat}(h:ba w g L){o n c:Nat}(ho:o+n<=L.length)(bq:n<=c)(hc:c<=maxLen):Rd w (.slice (some ⟨g,o,none⟩) n c) ((L.drop o).take n):=by
 refine⟨fun k hk=>by cases hk;exact h.lt,_,c,by rw[aak,aag,abd (by omega)],by rw[aak];omega,hc,Zl (Wk h.2 _) _,fun i x hx=>⟨g,o,rfl,h.cell ?_⟩⟩;rw[adX]at hx;split at hx
 ·rw[adp]at hx;exact hx
 cases hx
theorem ba.made (w:World)(n:Nat):ba (w.alloc (.cells (madeCells #[.int .u64 0] n) 101)) w.heap.size (List.replicate n 0):=by
 refine⟨?_,Ng n⟩
 have h:(w.alloc (.cells (madeCells #[.int .u64 0] n) 101)).heap[w.heap.size]?=some (.cells (madeCells #[.int .u64 0] n) 101 (0,0)):=by first|exact aaz w _
 rw[h];have E:=toList_madeCells_one (.int .u64 0) n
 have H:madeCells #[Value.int .u64 0] n=(ws (List.replicate n 0)).toArray:=by apply Array.toList_inj.1;rw[E];simp[ws]
 rw[H]
def Fr (B:Nat)(w:World)(v:Value)(xs:List Nat):Prop:=Rd w v xs/\ ∀k,v.ownBlock=some k->B<=k/\k<w.heap.size
theorem Fr.below {B:Nat}{w w':World}{v:Value}{xs:List Nat}(h:Fr B w v xs)(hb:Below w.heap.size w w'):Fr B w' v xs:=⟨h.1.below hb,fun k hk=>⟨(h.2 k hk).1,aaj (h.2 k hk).2 hb.size⟩⟩
theorem Fr.mono {B B':Nat}{w:World}{v:Value}{xs:List Nat}(h:Fr B w v xs)(hb:B'<=B):Fr B' w v xs:=⟨h.1,fun k hk=>⟨aan hb (h.2 k hk).1,(h.2 k hk).2⟩⟩
def Hx (xs:List Nat)(w:World)(e:Ending)(w':World):Prop:=∃v,e=.returned v/\Fr w.heap.size w' v xs/\Below w.heap.size w w'
theorem X9 (v:Value)(xs:List Nat)(w:World)(hr:Rd w v xs):Calls Tryz.prog 115 #[v] w fun e w'=>e=.returned (.int .i64 ((Qw xs).length:Nat))/\w=w':=by
 obtain⟨ao,cap,rfl,bq,hcm,aZ,aU⟩:=hr.2;have HS:=zq aU
 have hm:xs.length<=9223372036854775807:=by unfold maxLen at hcm;omega
 clear aU hcm aZ;go_enter Tryz.func115,Tryz.ntmps115;go_wp2_with fail;go_loop [3] (fun i=> ∃n:Nat,n<=xs.length/\i=.int .i64 (n:Nat)/\Qw (xs.take n)=Qw xs) (fun i=>(intOf i).toNat)
 case atStart=>exact⟨xs.length,aaa _,rfl,by rw[adx]⟩
 case round=>
  obtain⟨n,hn,rfl,hst⟩:=hrel;have HST:=zq hst;clear hst
  cases n with
  |zero=>
   have HE:=zq (Ti hn HST.o (.inl rfl));go_wp2_with fail;go_ret
   exact⟨Ux (by rw[HE.o];rfl),rfl⟩
  |succ m=>
   obtain⟨x,hx⟩:∃x,xs[m]?=some x:=⟨_,aad (by omega)⟩;obtain⟨g,o,rfl,e1⟩:=HS.o m x hx;have HX:=zq hx;clear hx;by_cases h0:x=0
   ·have h1:((x:Int)==0)=true:=by simp[h0]
    have HN:Hid (Qw (xs.take m)=Qw xs):=by
     rcases jN hn HST.o (fun m' e=>by cases e;rw[HX.o,h0]) with h|h
     ·cases h
     exact h
    clear h0;go_wp2_with fail;go_round
    case rel=>exact⟨m,by omega,by first|rfl|go_num,HN.o⟩
    case measure=>simp[intOf]<;>omega
   have h1:((x:Int)==0)=false:=by simp[h0]
   have HE:=zq (Ti hn HST.o (.inr ⟨m,x,rfl,HX.o,h0⟩));clear h0;go_wp2_with fail;go_ret
   exact⟨Ux (by rw[HE.o]<;>first|rfl|omega),rfl⟩
theorem U6 (ao:Option Addr)(cap:Nat)(xs:List Nat)(w:World)(hr:Rd w (.slice ao xs.length cap) xs):Calls Tryz.prog 273 #[.slice ao xs.length cap] w fun e w'=>e=.returned (.slice ao (Qw xs).length (Qw xs).length)/\w=w':=by
 obtain⟨ao,cap,e,bq,hcm,aZ,aU⟩:=hr.2;simp only[Value.slice.injEq]at e;obtain⟨rfl,-,rfl⟩:=e;have HS:=zq aU
 have hm:cap<=9223372036854775807:=by unfold maxLen at hcm;omega
 clear aU hcm aZ;go_enter Tryz.func273,Tryz.ntmps273;go_wp2_with fail;go_loop [3] (fun i=> ∃n:Nat,n<=xs.length/\i=.int .i64 (n:Nat)/\Qw (xs.take n)=Qw xs) (fun i=>(intOf i).toNat)
 case atStart=>exact⟨xs.length,aaa _,rfl,by rw[adx]⟩
 case round=>
  obtain⟨n,hn,rfl,hst⟩:=hrel;have HST:=zq hst;clear hst
  cases n with
  |zero=>
   have HE:=zq (Ti hn HST.o (.inl rfl));go_wp2_with fail;go_ret
   exact⟨by first|(rw[HE.o];done)|(rw[HE.o];rfl),rfl⟩
  |succ m=>
   obtain⟨x,hx⟩:∃x,xs[m]?=some x:=⟨_,aad (by omega)⟩;obtain⟨g,o,rfl,e1⟩:=HS.o m x hx;have HX:=zq hx;clear hx;by_cases h0:x=0
   ·have h1:((x:Int)==0)=true:=by simp[h0]
    have HN:Hid (Qw (xs.take m)=Qw xs):=by
     rcases jN hn HST.o (fun m' e=>by cases e;rw[HX.o,h0]) with h|h
     ·cases h
     exact h
    clear h0;go_wp2_with fail;go_round
    case rel=>exact⟨m,by omega,by first|rfl|go_num,HN.o⟩
    case measure=>simp[intOf]<;>omega
   have h1:((x:Int)==0)=false:=by simp[h0]
   have HE:=zq (Ti hn HST.o (.inr ⟨m,x,rfl,HX.o,h0⟩));clear h0;go_wp2_with fail;go_ret;exact⟨by first|(rw[HE.o];done)|(rw[HE.o];rfl),rfl⟩
theorem N5 {ao:Option Addr}{cap:Nat}{xs:List Nat}{w:World}(hr:Rd w (.slice ao xs.length cap) xs):Rd w (.slice ao (Qw xs).length (Qw xs).length) (Qw xs):=by have h:=Yz xs;have H:=hr;obtain⟨ao',cap',e,E,-,-,-⟩:=H.2;simp only[Value.slice.injEq]at e;obtain⟨rfl,-,rfl⟩:=e;have:=hr.take (n:=(Qw xs).length) (c:=(Qw xs).length) h.2 (aaa _) (aan h.2 E);rw[<-h.1]at this;exact this
end Go.Proofs.YtgfmiladfeoldaaGreatDoor
namespace Go.Proofs
open Go.Shelf
def Tryz.iF:Go.Shelf.Ren:=⟨fun|156=>123|165=>172|166=>105|169=>52|240=>165|241=>218|276=>212|277=>240|n=>n,fun|31=>105|9=>9|3=>3|4=>4|0=>0|20=>20|72=>90|76=>141|70=>87|37=>88|75=>139|127=>145|164=>210|5=>5|80=>94|n=>n,fun|n=>n⟩
theorem Tryz.pN:Go.Proofs.Lays.n156 Tryz.prog Tryz.iF:={
 mixed:=by kernel_rfl
 f156:=Tryz.func123.trans (aa7 some (by kernel_rfl))
 f165:=Tryz.func172.trans (aa7 some (by kernel_rfl))
 f166:=Tryz.func105.trans (aa7 some (by kernel_rfl))
 f169:=Tryz.func52.trans (aa7 some (by kernel_rfl))
 f240:=Tryz.func165.trans (aa7 some (by kernel_rfl))
 f241:=Tryz.func218.trans (aa7 some (by kernel_rfl))
 f276:=Tryz.func212.trans (aa7 some (by kernel_rfl))
 f277:=Tryz.func240.trans (aa7 some (by kernel_rfl))
 t0:=Tryz.underlying0
 a0:=Tryz.isAgg0
 z0:=Tryz.sizeOf0
 v0:=Tryz.zeroValue0
 t3:=Tryz.underlying3
 a3:=Tryz.isAgg3
 z3:=Tryz.sizeOf3
 v3:=Tryz.zeroValue3
 t4:=Tryz.underlying4
 a4:=Tryz.isAgg4
 z4:=Tryz.sizeOf4
 v4:=Tryz.zeroValue4
 t9:=Tryz.underlying9
 a9:=Tryz.isAgg9
 z9:=Tryz.sizeOf9
 v9:=Tryz.zeroValue9
 t20:=Tryz.underlying20
 a20:=Tryz.isAgg20
 z20:=Tryz.sizeOf20
 v20:=Tryz.zeroValue20
 t31:=Tryz.underlying105
 a31:=Tryz.isAgg105
 z31:=Tryz.sizeOf105
 v31:=Tryz.zeroValue105
 t37:=Tryz.underlying88
 a37:=Tryz.isAgg88
 z37:=Tryz.sizeOf88
 v37:=Tryz.zeroValue88
 t70:=Tryz.underlying87
 a70:=Tryz.isAgg87
 z70:=Tryz.sizeOf87
 v70:=Tryz.zeroValue87
 t72:=Tryz.underlying90
 a72:=Tryz.isAgg90
 z72:=Tryz.sizeOf90
 v72:=Tryz.zeroValue90
 t75:=Tryz.underlying139
 a75:=Tryz.isAgg139
 z75:=Tryz.sizeOf139
 v75:=Tryz.zeroValue139
 t76:=Tryz.underlying141
 a76:=Tryz.isAgg141
 z76:=Tryz.sizeOf141
 v76:=Tryz.zeroValue141
 t127:=Tryz.underlying145
 a127:=Tryz.isAgg145
 z127:=Tryz.sizeOf145
 v127:=Tryz.zeroValue145
 t164:=Tryz.underlying210
 a164:=Tryz.isAgg210
 z164:=Tryz.sizeOf210
 v164:=Tryz.zeroValue210}
theorem Tryz.dM:Builder.Extra Tryz.prog Tryz.iF:={
 sizeBuilder:=by kernel_rfl
 liesBuilder:=by kernel_rfl
 t5:=Tryz.underlying5
 a5:=Tryz.isAgg5
 z5:=Tryz.sizeOf5
 v5:=Tryz.zeroValue5
 infoByte:=by kernel_rfl
 cellsByte:=by kernel_rfl
 sizeByte:=by kernel_rfl
 neB5:=by decide}
open Go.RowKit in
theorem Tryz.strings_Join_none (a:Option Addr)(c:Nat)(sep:ByteArray)(w:World):Calls Tryz.prog 123 #[.slice a 0 c,.string sep] w fun e w'=>e=.returned (.string ⟨#[]⟩)/\w'=w:=Any.strings_Join_none Tryz.pN Tryz.dM a c sep w
open Go.RowKit in
theorem Tryz.strings_Join (bk o c:Nat)(xs:List ByteArray)(sep:ByteArray)(w:World)(eO:∀(j:Nat) x,xs[j]?=some x->w.cell? ⟨bk,o+j,none⟩=some (.string x))(bA:bk<w.heap.size)(hN:xs.length<=140737488355328)(xd:xs.length<=c)(hlen:(Lib.join (xs.map (·.data.toList)) sep.data.toList).length<=140737488355328):Calls Tryz.prog 123 #[.slice (some ⟨bk,o,none⟩) xs.length c,.string sep] w fun e w'=>e=.returned (.string ⟨(Lib.join (xs.map (·.data.toList)) sep.data.toList).toArray⟩)/\Below w.heap.size w w':=Any.strings_Join Tryz.pN Tryz.dM bk o c xs sep w eO bA hN xd hlen
def Tryz.ny:Go.Shelf.Ren:=⟨fun|134=>278|129=>116|n=>n,fun|53=>101|3=>3|4=>4|46=>188|5=>5|9=>9|n=>n,fun|n=>n⟩
theorem Tryz.xI:Go.Proofs.Lays.n134 Tryz.prog Tryz.ny:={
 mixed:=by kernel_rfl
 f129:=Tryz.func116.trans (aa7 some (by kernel_rfl))
 f134:=Tryz.func278.trans (aa7 some (by kernel_rfl))
 t3:=Tryz.underlying3
 a3:=Tryz.isAgg3
 z3:=Tryz.sizeOf3
 v3:=Tryz.zeroValue3
 t4:=Tryz.underlying4
 a4:=Tryz.isAgg4
 z4:=Tryz.sizeOf4
 v4:=Tryz.zeroValue4
 t5:=Tryz.underlying5
 a5:=Tryz.isAgg5
 z5:=Tryz.sizeOf5
 v5:=Tryz.zeroValue5
 t9:=Tryz.underlying9
 a9:=Tryz.isAgg9
 z9:=Tryz.sizeOf9
 v9:=Tryz.zeroValue9
 t46:=Tryz.underlying188
 a46:=Tryz.isAgg188
 z46:=Tryz.sizeOf188
 v46:=Tryz.zeroValue188
 t53:=Tryz.underlying101
 a53:=Tryz.isAgg101
 z53:=Tryz.sizeOf101
 v53:=Tryz.zeroValue101}
theorem Tryz.bits_LeadingZeros64 (x:Int)(w:World)(h0:0<=x)(h1:x<=18446744073709551615):Calls Tryz.prog 278 #[.int .u64 x] w fun e w'=>e=.returned (.int .i64 (64-(Lib.bitLen x.toNat:Int)))/\w'=w:=Any.bits_LeadingZeros64 Tryz.xI x w h0 h1
def Tryz.nw:Go.Shelf.Ren:=⟨fun|129=>116|n=>n,fun|53=>101|3=>3|4=>4|46=>188|5=>5|9=>9|n=>n,fun|n=>n⟩
theorem Tryz.xH:Go.Proofs.Lays.n129 Tryz.prog Tryz.nw:={
 mixed:=by kernel_rfl
 f129:=Tryz.func116.trans (aa7 some (by kernel_rfl))
 t3:=Tryz.underlying3
 a3:=Tryz.isAgg3
 z3:=Tryz.sizeOf3
 v3:=Tryz.zeroValue3
 t4:=Tryz.underlying4
 a4:=Tryz.isAgg4
 z4:=Tryz.sizeOf4
 v4:=Tryz.zeroValue4
 t5:=Tryz.underlying5
 a5:=Tryz.isAgg5
 z5:=Tryz.sizeOf5
 v5:=Tryz.zeroValue5
 t9:=Tryz.underlying9
 a9:=Tryz.isAgg9
 z9:=Tryz.sizeOf9
 v9:=Tryz.zeroValue9
 t46:=Tryz.underlying188
 a46:=Tryz.isAgg188
 z46:=Tryz.sizeOf188
 v46:=Tryz.zeroValue188
 t53:=Tryz.underlying101
 a53:=Tryz.isAgg101
 z53:=Tryz.sizeOf101
 v53:=Tryz.zeroValue101}
theorem Tryz.bits_Len64 (x:Int)(w:World)(h0:0<=x)(h1:x<=18446744073709551615):Calls Tryz.prog 116 #[.int .u64 x] w fun e w'=>e=.returned (.int .i64 (Lib.bitLen x.toNat))/\w'=w:=Any.bits_Len64 Tryz.xH x w h0 h1
def Tryz.xP:Go.Shelf.Ren:=⟨fun|246=>142|283=>183|284=>184|285=>185|286=>186|129=>116|317=>221|318=>222|319=>223|320=>224|337=>242|338=>243|n=>n,fun|2=>2|3=>3|9=>9|4=>4|171=>197|0=>0|53=>101|37=>88|5=>5|173=>199|212=>221|51=>222|20=>20|213=>223|46=>188|232=>245|233=>246|n=>n,fun|17=>0|18=>2|19=>3|n=>n⟩
def Tryz.xO:Go.Shelf.Ren:=⟨fun|243=>79|246=>142|283=>183|284=>184|285=>185|286=>186|129=>116|317=>221|318=>222|319=>223|320=>224|337=>242|338=>243|n=>n,fun|3=>3|9=>9|2=>2|4=>4|171=>197|0=>0|53=>101|37=>88|5=>5|173=>199|212=>221|51=>222|20=>20|213=>223|46=>188|232=>245|233=>246|n=>n,fun|17=>0|18=>2|19=>3|n=>n⟩
def Tryz.xN:Go.Shelf.Ren:=⟨fun|171=>41|243=>79|246=>142|283=>183|284=>184|285=>185|286=>186|129=>116|317=>221|318=>222|319=>223|320=>224|337=>242|338=>243|n=>n,fun|3=>3|9=>9|2=>2|4=>4|171=>197|0=>0|53=>101|37=>88|5=>5|173=>199|212=>221|51=>222|20=>20|213=>223|46=>188|232=>245|233=>246|n=>n,fun|17=>0|18=>2|19=>3|n=>n⟩
def Tryz.nD:Go.Shelf.Ren:=⟨fun|171=>41|243=>79|246=>142|283=>183|284=>184|285=>185|286=>186|129=>116|317=>221|318=>222|319=>223|320=>224|337=>242|338=>243|n=>n,fun|3=>3|9=>9|2=>2|4=>4|171=>197|0=>0|53=>101|37=>88|5=>5|173=>199|212=>221|51=>222|20=>20|213=>223|46=>188|232=>245|233=>246|n=>n,fun|17=>0|18=>2|19=>3|n=>n⟩
theorem Tryz.xL:Go.Proofs.Lays.n171 Tryz.prog Tryz.nD:={
 mixed:=by kernel_rfl
 f129:=Tryz.func116.trans (aa7 some (by kernel_rfl))
 f171:=Tryz.func41.trans (aa7 some (by kernel_rfl))
 f243:=Tryz.func79.trans (aa7 some (by kernel_rfl))
 f246:=Tryz.func142.trans (aa7 some (by kernel_rfl))
 f283:=Tryz.func183.trans (aa7 some (by kernel_rfl))
 f284:=Tryz.func184.trans (aa7 some (by kernel_rfl))
 f285:=Tryz.func185.trans (aa7 some (by kernel_rfl))
 f286:=Tryz.func186.trans (aa7 some (by kernel_rfl))
 f317:=Tryz.func221.trans (aa7 some (by kernel_rfl))
 f318:=Tryz.func222.trans (aa7 some (by kernel_rfl))
 f319:=Tryz.func223.trans (aa7 some (by kernel_rfl))
 f320:=Tryz.func224.trans (aa7 some (by kernel_rfl))
 f337:=Tryz.func242.trans (aa7 some (by kernel_rfl))
 f338:=Tryz.func243.trans (aa7 some (by kernel_rfl))
 t0:=Tryz.underlying0
 a0:=Tryz.isAgg0
 z0:=Tryz.sizeOf0
 v0:=Tryz.zeroValue0
 t2:=Tryz.underlying2
 a2:=Tryz.isAgg2
 z2:=Tryz.sizeOf2
 v2:=Tryz.zeroValue2
 t3:=Tryz.underlying3
 a3:=Tryz.isAgg3
 z3:=Tryz.sizeOf3
 v3:=Tryz.zeroValue3
 t4:=Tryz.underlying4
 a4:=Tryz.isAgg4
 z4:=Tryz.sizeOf4
 v4:=Tryz.zeroValue4
 t5:=Tryz.underlying5
 a5:=Tryz.isAgg5
 z5:=Tryz.sizeOf5
 v5:=Tryz.zeroValue5
 t9:=Tryz.underlying9
 a9:=Tryz.isAgg9
 z9:=Tryz.sizeOf9
 v9:=Tryz.zeroValue9
 t20:=Tryz.underlying20
 a20:=Tryz.isAgg20
 z20:=Tryz.sizeOf20
 v20:=Tryz.zeroValue20
 t37:=Tryz.underlying88
 a37:=Tryz.isAgg88
 z37:=Tryz.sizeOf88
 v37:=Tryz.zeroValue88
 t46:=Tryz.underlying188
 a46:=Tryz.isAgg188
 z46:=Tryz.sizeOf188
 v46:=Tryz.zeroValue188
 t51:=Tryz.underlying222
 a51:=Tryz.isAgg222
 z51:=Tryz.sizeOf222
 v51:=Tryz.zeroValue222
 t53:=Tryz.underlying101
 a53:=Tryz.isAgg101
 z53:=Tryz.sizeOf101
 v53:=Tryz.zeroValue101
 t171:=Tryz.underlying197
 a171:=Tryz.isAgg197
 z171:=Tryz.sizeOf197
 v171:=Tryz.zeroValue197
 t173:=Tryz.underlying199
 a173:=Tryz.isAgg199
 z173:=Tryz.sizeOf199
 v173:=Tryz.zeroValue199
 t212:=Tryz.underlying221
 a212:=Tryz.isAgg221
 z212:=Tryz.sizeOf221
 v212:=Tryz.zeroValue221
 t213:=Tryz.underlying223
 a213:=Tryz.isAgg223
 z213:=Tryz.sizeOf223
 t232:=Tryz.underlying245
 a232:=Tryz.isAgg245
 z232:=Tryz.sizeOf245
 v232:=Tryz.zeroValue245
 t233:=Tryz.underlying246
 a233:=Tryz.isAgg246
 z233:=Tryz.sizeOf246
 v233:=Tryz.zeroValue246
 g17:=by kernel_rfl
 g18:=by kernel_rfl
 g19:=by kernel_rfl}
open Go.RowKit Go.Sort Go.Lib in
theorem Tryz.strconv_Itoa_small (i:Nat)(hi:i<100)(w:World):Calls Tryz.prog 41 #[.int .i64 i] w fun e w'=>e=.returned (.string ⟨(Lib.decDigits i).toArray⟩)/\w'=w:=Any.strconv_Itoa_small Tryz.xL i hi w
def Tryz.zl:Go.Shelf.Ren:=⟨fun|219=>250|217=>265|225=>264|224=>263|267=>266|266=>284|314=>285|n=>n,fun|9=>9|3=>3|4=>4|5=>5|46=>188|146=>263|51=>222|n=>n,fun|1=>1|n=>n⟩
def Tryz.nB:Go.Shelf.Ren:=⟨fun|144=>205|143=>234|219=>250|217=>265|225=>264|224=>263|267=>266|266=>284|314=>285|n=>n,fun|9=>9|4=>4|3=>3|5=>5|46=>188|146=>263|51=>222|n=>n,fun|1=>1|n=>n⟩
theorem Tryz.xJ:Go.Proofs.Lays.n144 Tryz.prog Tryz.nB:={
 mixed:=by kernel_rfl
 f143:=Tryz.func234.trans (aa7 some (by kernel_rfl))
 f144:=Tryz.func205.trans (aa7 some (by kernel_rfl))
 f217:=Tryz.func265.trans (aa7 some (by kernel_rfl))
 f219:=Tryz.func250.trans (aa7 some (by kernel_rfl))
 f224:=Tryz.func263.trans (aa7 some (by kernel_rfl))
 f225:=Tryz.func264.trans (aa7 some (by kernel_rfl))
 f266:=Tryz.func284.trans (aa7 some (by kernel_rfl))
 f267:=Tryz.func266.trans (aa7 some (by kernel_rfl))
 f314:=Tryz.func285.trans (aa7 some (by kernel_rfl))
 t3:=Tryz.underlying3
 a3:=Tryz.isAgg3
 z3:=Tryz.sizeOf3
 v3:=Tryz.zeroValue3
 t4:=Tryz.underlying4
 a4:=Tryz.isAgg4
 z4:=Tryz.sizeOf4
 v4:=Tryz.zeroValue4
 t5:=Tryz.underlying5
 a5:=Tryz.isAgg5
 z5:=Tryz.sizeOf5
 v5:=Tryz.zeroValue5
 t9:=Tryz.underlying9
 a9:=Tryz.isAgg9
 z9:=Tryz.sizeOf9
 v9:=Tryz.zeroValue9
 t46:=Tryz.underlying188
 a46:=Tryz.isAgg188
 z46:=Tryz.sizeOf188
 v46:=Tryz.zeroValue188
 t51:=Tryz.underlying222
 a51:=Tryz.isAgg222
 z51:=Tryz.sizeOf222
 v51:=Tryz.zeroValue222
 t146:=Tryz.underlying263
 a146:=Tryz.isAgg263
 z146:=Tryz.sizeOf263
 v146:=Tryz.zeroValue263
 g1:=by kernel_rfl}
open Go.RowKit Go.Lib in
theorem Tryz.strings_Contains (s sub:ByteArray)(m:Int)(w:World)(hs:s.size<4294967281)(hm:w.cell? ⟨1,0,none⟩=some (.int .i64 m)):Calls Tryz.prog 205 #[.string s,.string sub] w fun e w'=>e=.returned (.bool (Lib.contains s.data.toList sub.data.toList))/\w'=w:=Any.strings_Contains Tryz.xJ s sub m w hs hm
def Tryz.zk:Go.Shelf.Ren:=⟨fun|206=>232|n=>n,fun|9=>9|4=>4|3=>3|n=>n,fun|n=>n⟩
def Tryz.oW:Go.Shelf.Ren:=⟨fun|99=>201|206=>232|n=>n,fun|9=>9|4=>4|3=>3|n=>n,fun|n=>n⟩
theorem Tryz.EC:Go.Proofs.Lays.n99 Tryz.prog Tryz.oW:={
 mixed:=by kernel_rfl
 f99:=Tryz.func201.trans (aa7 some (by kernel_rfl))
 f206:=Tryz.func232.trans (aa7 some (by kernel_rfl))
 t3:=Tryz.underlying3
 a3:=Tryz.isAgg3
 z3:=Tryz.sizeOf3
 v3:=Tryz.zeroValue3
 t4:=Tryz.underlying4
 a4:=Tryz.isAgg4
 z4:=Tryz.sizeOf4
 v4:=Tryz.zeroValue4
 t9:=Tryz.underlying9
 a9:=Tryz.isAgg9
 z9:=Tryz.sizeOf9
 v9:=Tryz.zeroValue9}
open Go.RowKit Go.Lib in
theorem Tryz.strings_HasPrefix (s p:ByteArray)(w:World):Calls Tryz.prog 201 #[.string s,.string p] w fun e w'=>e=.returned (.bool (Lib.hasPrefix s.data.toList p.data.toList))/\w'=w:=Any.strings_HasPrefix Tryz.EC s p w
def Tryz.nt:Go.Shelf.Ren:=⟨fun|100=>204|207=>233|n=>n,fun|9=>9|4=>4|3=>3|n=>n,fun|n=>n⟩
theorem Tryz.xG:Go.Proofs.Lays.n100 Tryz.prog Tryz.nt:={
 mixed:=by kernel_rfl
 f100:=Tryz.func204.trans (aa7 some (by kernel_rfl))
 f207:=Tryz.func233.trans (aa7 some (by kernel_rfl))
 t3:=Tryz.underlying3
 a3:=Tryz.isAgg3
 z3:=Tryz.sizeOf3
 v3:=Tryz.zeroValue3
 t4:=Tryz.underlying4
 a4:=Tryz.isAgg4
 z4:=Tryz.sizeOf4
 v4:=Tryz.zeroValue4
 t9:=Tryz.underlying9
 a9:=Tryz.isAgg9
 z9:=Tryz.sizeOf9
 v9:=Tryz.zeroValue9}
open Go.RowKit Go.Lib in
theorem Tryz.strings_HasSuffix (s p:ByteArray)(w:World)(hs:s.size<=9223372036854775807):Calls Tryz.prog 204 #[.string s,.string p] w fun e w'=>e=.returned (.bool (Lib.hasSuffix s.data.toList p.data.toList))/\w'=w:=Any.strings_HasSuffix Tryz.xG s p w hs
def Tryz.nC:Go.Shelf.Ren:=⟨fun|151=>231|152=>249|137=>261|119=>262|224=>263|225=>264|217=>265|266=>284|n=>n,fun|9=>9|21=>21|4=>4|3=>3|5=>5|0=>0|46=>188|n=>n,fun|n=>n⟩
theorem Tryz.xK:Go.Proofs.Lays.n151 Tryz.prog Tryz.nC:={
 mixed:=by kernel_rfl
 f119:=Tryz.func262.trans (aa7 some (by kernel_rfl))
 f137:=Tryz.func261.trans (aa7 some (by kernel_rfl))
 f151:=Tryz.func231.trans (aa7 some (by kernel_rfl))
 f152:=Tryz.func249.trans (aa7 some (by kernel_rfl))
 f217:=Tryz.func265.trans (aa7 some (by kernel_rfl))
 f224:=Tryz.func263.trans (aa7 some (by kernel_rfl))
 f225:=Tryz.func264.trans (aa7 some (by kernel_rfl))
 f266:=Tryz.func284.trans (aa7 some (by kernel_rfl))
 t0:=Tryz.underlying0
 a0:=Tryz.isAgg0
 z0:=Tryz.sizeOf0
 v0:=Tryz.zeroValue0
 t3:=Tryz.underlying3
 a3:=Tryz.isAgg3
 z3:=Tryz.sizeOf3
 v3:=Tryz.zeroValue3
 t4:=Tryz.underlying4
 a4:=Tryz.isAgg4
 z4:=Tryz.sizeOf4
 v4:=Tryz.zeroValue4
 t5:=Tryz.underlying5
 a5:=Tryz.isAgg5
 z5:=Tryz.sizeOf5
 v5:=Tryz.zeroValue5
 t9:=Tryz.underlying9
 a9:=Tryz.isAgg9
 z9:=Tryz.sizeOf9
 v9:=Tryz.zeroValue9
 t21:=Tryz.underlying21
 a21:=Tryz.isAgg21
 z21:=Tryz.sizeOf21
 v21:=Tryz.zeroValue21
 t46:=Tryz.underlying188
 a46:=Tryz.isAgg188
 z46:=Tryz.sizeOf188
 v46:=Tryz.zeroValue188}
open Go.RowKit Go.Lib in
theorem Tryz.strings_ContainsRune_ascii (s:ByteArray)(r:Int)(w:World)(h0:0<=r)(h1:r<128):Calls Tryz.prog 231 #[.string s,.int .i32 r] w fun e w'=>e=.returned (.bool (decide (0<=Lib.indexByte s.data.toList r.toNat.toUInt8)))/\w'=w:=Any.strings_ContainsRune_ascii Tryz.xK s r w h0 h1
def Tryz.nE:Go.Shelf.Ren:=⟨fun|264=>287|n=>n,fun|53=>101|46=>188|n=>n,fun|n=>n⟩
theorem Tryz.xM:Go.Proofs.Lays.n264 Tryz.prog Tryz.nE:={
 mixed:=by kernel_rfl
 f264:=Tryz.func287.trans (aa7 some (by kernel_rfl))
 t46:=Tryz.underlying188
 a46:=Tryz.isAgg188
 z46:=Tryz.sizeOf188
 v46:=Tryz.zeroValue188
 t53:=Tryz.underlying101
 a53:=Tryz.isAgg101
 z53:=Tryz.sizeOf101
 v53:=Tryz.zeroValue101}
open Go.RowKit Go.Lib in
theorem Tryz.bits_Mul64 (x y:Nat)(hx:x<18446744073709551616)(hy:y<18446744073709551616)(w:World):Calls Tryz.prog 287 #[.int .u64 x,.int .u64 y] w fun e w'=>e=.returned (.tuple #[.int .u64 ((x*y / 18446744073709551616:Nat):Int),.int .u64 ((x*y % 18446744073709551616:Nat):Int)])/\w'=w:=Any.bits_Mul64 Tryz.xM x y hx hy w
def Tryz.nu:Go.Shelf.Ren:=⟨fun|111=>102|n=>n,fun|28=>41|3=>3|4=>4|0=>0|n=>n,fun|n=>n⟩
theorem Tryz.pM:Go.Proofs.Lays.n111 Tryz.prog Tryz.nu:={
 mixed:=by kernel_rfl
 f111:=Tryz.func102.trans (aa7 some (by kernel_rfl))
 t0:=Tryz.underlying0
 a0:=Tryz.isAgg0
 z0:=Tryz.sizeOf0
 v0:=Tryz.zeroValue0
 t3:=Tryz.underlying3
 a3:=Tryz.isAgg3
 z3:=Tryz.sizeOf3
 v3:=Tryz.zeroValue3
 t4:=Tryz.underlying4
 a4:=Tryz.isAgg4
 z4:=Tryz.sizeOf4
 v4:=Tryz.zeroValue4
 t28:=Tryz.underlying41
 a28:=Tryz.isAgg41
 z28:=Tryz.sizeOf41
 v28:=Tryz.zeroValue41}
open Go.RowKit Go.Lib in
theorem Tryz.slices_Equal_int (b1 o1 n c b2 o2 m d:Nat)(xs ys:List Int)(w:World)(hx:n<=xs.length)(hy:m<=ys.length)(cR:n<=9223372036854775807)(td:m<=9223372036854775807)(hc1:∀j,j<xs.length->w.cell? ⟨b1,o1+j,none⟩=some (.int .i64 (xs.getD j 0)))(hc2:∀j,j<ys.length->w.cell? ⟨b2,o2+j,none⟩=some (.int .i64 (ys.getD j 0))):Calls Tryz.prog 102 #[.slice (some ⟨b1,o1,none⟩) n c,.slice (some ⟨b2,o2,none⟩) m d] w fun e w'=>e=.returned (.bool (xs.take n==ys.take m))/\ ∃q,w'=w.drewN q:=Any.slices_Equal_int Tryz.pM b1 o1 n c b2 o2 m d xs ys w hx hy cR td hc1 hc2
open Go.RowKit Go.Lib in
theorem Tryz.slices_Equal_int_empty (a1 a2:Option Addr)(c m d:Nat)(w:World)(td:m<=9223372036854775807):Calls Tryz.prog 102 #[.slice a1 0 c,.slice a2 m d] w fun e w'=>e=.returned (.bool (decide (m=0)))/\w'=w:=Any.slices_Equal_int_empty Tryz.pM a1 a2 c m d w td
end Go.Proofs
namespace Go.Proofs.YtgfmiladfeoldaaGreatDoor
open Go.RowKit ai
theorem Wq (n:Nat)(h:n<18446744073709551616):IntKind.u64.wrap (n:Int)=(n:Int):=by rw[abV];omega
theorem Qcj (x:Nat)(h:x<18446744073709551616):bits BinOp.and IntKind.u64 (x:Int) 4294967295=((x % 4294967296:Nat):Int):=by have E:=bits_and_u64_nat x 4294967295 h (by omega);have H:x &&& 4294967295=x % 4294967296:=Nat.and_two_pow_sub_one_eq_mod x 32;rw[H]at E;exact E
theorem Bu (x y i:Nat)(hx:x<18446744073709551616)(hd:x % 2^i=0)(hy:y<2^i)(je:y<18446744073709551616):bits BinOp.or IntKind.u64 (x:Int) (y:Int)=((x+y:Nat):Int):=by have h:=bits_join .u64 64 (by decide) wraps_u64 i (x:Int) (y:Int) (by omega) (by exact_mod_cast hd) (by exact_mod_cast hx) (by omega) (by exact_mod_cast hy) (by exact_mod_cast je);rw[h];rfl
def Ei (hi lo y:Nat)(w:World)(e:Ending)(w':World):Prop:=
 e=.returned (.tuple #[.int .u64 ((hi*BB+lo) / y:Nat),.int .u64 ((hi*BB+lo) % y:Nat)])/\ ∃k,w'=w.drewN k
theorem Qjx (lo y:Nat)(w:World)(ei:lo<BB)(kB:0<y)(hy:y<BB):Calls Tryz.prog 277 #[.int .u64 (0:Nat),.int .u64 (lo:Nat),.int .u64 (y:Nat)] w (Ei 0 lo y w):=by
 have LC:BB=18446744073709551616:=rfl;rw[LC]at ei hy
 have HQ:Hid ((0*BB+lo) / y=lo / y/\(0*BB+lo) % y=lo % y):=by rw[aeD,abx];exact⟨rfl,rfl⟩
 clear LC
 have hyz:((y:Int)==0)=false:=by simp;omega
 have qE:lo / y<18446744073709551616:=adH (Nat.div_le_self _ _) ei;have rk:lo % y<18446744073709551616:=aed (ad8 _ kB) hy
 have hqi:IntKind.u64.wrap ((lo:Int) / (y:Int))=((lo / y:Nat):Int):=by have e:((lo:Int) / (y:Int))=((lo / y:Nat):Int):=rfl;rw[e];exact Wq _ qE
 have hri:(lo:Int) % (y:Int)=((lo % y:Nat):Int):=rfl;clear qE rk;go_enter Tryz.func277,Tryz.ntmps277;go_wp2_with fail;go_quiet (fail);go_wp2_with fail;go_ret2;exact⟨by rw[HQ.o.1,HQ.o.2];rfl,⟨_,rfl⟩⟩
end Go.Proofs.YtgfmiladfeoldaaGreatDoor
