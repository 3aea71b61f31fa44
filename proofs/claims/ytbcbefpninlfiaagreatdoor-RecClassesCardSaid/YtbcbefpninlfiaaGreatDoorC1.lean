import Derived.WalkSpells
import Derived.WalkLawsBesides
import Derived.Lib.Hide
import Derived.Deep.Slices
import Derived.StillTailTactics
import Derived.OwnWalkIn
import Derived.Test.YtbcbefpninlfiaaGreatDoorProg
import Derived.RangeFuncNested
import Derived.RangeFuncBound
import Derived.Shelf.RegionOpen
import Derived.LoopNIn
import Derived.LoopIn
import Derived.Lib.Strings
set_option maxHeartbeats 64000000
set_option maxRecDepth 100000
set_option linter.all false
open Go renaming TypeId->bR,Value->ar,World->ai
open Option renaming none->N,some->O
open Go.Value renaming slice->Z
open Nat renaming add_assoc->gW,add_mul->kv,div_lt_of_lt_mul->kx
open List renaming flatten_cons->fI,getElem?_drop->jS
open UInt8 renaming ofNat->dh
open Go.Op renaming bytesLess->k8
theorem iN:type_of% @Go.Addr.add_lit:=@Go.Addr.add_lit
theorem cw:type_of% @Array.getD_eq_getD_getElem?:=@Array.getD_eq_getD_getElem?
theorem bP:type_of% @Array.getElem?_eq_some_iff:=@Array.getElem?_eq_some_iff
theorem cN:type_of% @Array.replicate_succ:=@Array.replicate_succ
theorem cO:type_of% @Array.replicate_zero:=@Array.replicate_zero
theorem fg:type_of% @Go.RowKit.Below.heap_setCell:=@Go.RowKit.Below.heap_setCell
theorem ax:type_of% @Go.RowKit.Below.refl:=@Go.RowKit.Below.refl
theorem aK:type_of% @Bool.and_eq_true:=@Bool.and_eq_true
theorem kq:type_of% @Bool.and_eq_true_iff:=@Bool.and_eq_true_iff
theorem eY:type_of% @Bool.eq_iff_iff:=@Bool.eq_iff_iff
theorem cY:type_of% @Bool.true_and:=@Bool.true_and
theorem eT:type_of% @ByteArray.ext:=@ByteArray.ext
theorem fZ:type_of% @ByteArray.size_append:=@ByteArray.size_append
theorem cX:type_of% @ByteArray.size_extract:=@ByteArray.size_extract
theorem dS:type_of% @Int.toNat_natCast:=@Int.toNat_natCast
theorem bo:type_of% @Go.IntWalk.i64_in:=@Go.IntWalk.i64_in
theorem M:type_of% @Go.Lib.hid:=@Go.Lib.hid
theorem da:type_of% @Go.Lib.toList_data:=@Go.Lib.toList_data
theorem ba:type_of% @List.all_eq_true:=@List.all_eq_true
theorem bg:type_of% @List.append_assoc:=@List.append_assoc
theorem gK:type_of% @List.append_nil:=@List.append_nil
theorem cS:type_of% @List.append_toArray:=@List.append_toArray
theorem b_:type_of% @List.cons_append:=@List.cons_append
theorem aY:type_of% @List.drop_eq_getElem_cons:=@List.drop_eq_getElem_cons
theorem a8:type_of% @List.drop_eq_nil_of_le:=@List.drop_eq_nil_of_le
theorem d_:type_of% @List.drop_of_length_le:=@List.drop_of_length_le
theorem cU:type_of% @List.drop_succ_cons:=@List.drop_succ_cons
theorem dA:type_of% @List.drop_zero:=@List.drop_zero
theorem cy:type_of% @List.eq_nil_of_length_eq_zero:=@List.eq_nil_of_length_eq_zero
theorem dB:type_of% @List.flatMap_cons:=@List.flatMap_cons
theorem jb:type_of% @List.flatten_append:=@List.flatten_append
theorem bS:type_of% @List.getElem?_append_left:=@List.getElem?_append_left
theorem bZ:type_of% @List.getElem?_append_right:=@List.getElem?_append_right
theorem an:type_of% @List.getElem?_eq_getElem:=@List.getElem?_eq_getElem
theorem aA:type_of% @List.getElem?_eq_some_iff:=@List.getElem?_eq_some_iff
theorem dT:type_of% @List.getElem?_map:=@List.getElem?_map
theorem dC:type_of% @List.getElem?_of_mem:=@List.getElem?_of_mem
theorem jv:type_of% @List.getElem_mem:=@List.getElem_mem
theorem aw:type_of% @List.length_append:=@List.length_append
theorem aS:type_of% @List.length_cons:=@List.length_cons
theorem dt:type_of% @List.length_drop:=@List.length_drop
theorem bq:type_of% @List.length_map:=@List.length_map
theorem a7:type_of% @List.length_nil:=@List.length_nil
theorem eO:type_of% @List.length_pos_iff:=@List.length_pos_iff
theorem dN:type_of% @List.length_singleton:=@List.length_singleton
theorem bL:type_of% @List.length_take:=@List.length_take
theorem fQ:type_of% @List.map_append:=@List.map_append
theorem gj:type_of% @List.map_cons:=@List.map_cons
theorem gL:type_of% @List.mem_append:=@List.mem_append
theorem bh:type_of% @List.mem_cons:=@List.mem_cons
theorem cE:type_of% @List.mem_cons_of_mem:=@List.mem_cons_of_mem
theorem df:type_of% @List.mem_cons_self:=@List.mem_cons_self
theorem fJ:type_of% @List.mem_map:=@List.mem_map
theorem aP:type_of% @List.mem_of_getElem?:=@List.mem_of_getElem?
theorem eE:type_of% @List.mem_of_mem_take:=@List.mem_of_mem_take
theorem cm:type_of% @List.mem_singleton:=@List.mem_singleton
theorem bI:type_of% @List.nil_append:=@List.nil_append
theorem bV:type_of% @List.not_mem_nil:=@List.not_mem_nil
theorem dD:type_of% @List.push_toArray:=@List.push_toArray
theorem aD:type_of% @List.setIfInBounds_toArray:=@List.setIfInBounds_toArray
theorem ae:type_of% @List.set_cons_succ:=@List.set_cons_succ
theorem ab:type_of% @List.set_cons_zero:=@List.set_cons_zero
theorem dE:type_of% @List.size_toArray:=@List.size_toArray
theorem iv:type_of% @List.take_append_drop:=@List.take_append_drop
theorem fm:type_of% @List.take_length:=@List.take_length
theorem fK:type_of% @List.take_of_length_le:=@List.take_of_length_le
theorem di:type_of% @List.take_succ_cons:=@List.take_succ_cons
theorem dF:type_of% @List.take_succ_eq_append_getElem:=@List.take_succ_eq_append_getElem
theorem eV:type_of% @List.take_zero:=@List.take_zero
theorem jx:type_of% @Nat.le_mul_of_pos_right:=@Nat.le_mul_of_pos_right
theorem av:type_of% @Nat.le_refl:=@Nat.le_refl
theorem bc:type_of% @Nat.le_trans:=@Nat.le_trans
theorem cJ:type_of% @Nat.lt_of_lt_of_le:=@Nat.lt_of_lt_of_le
theorem ed:type_of% @Nat.lt_or_ge:=@Nat.lt_or_ge
theorem jT:type_of% @Nat.mod_lt:=@Nat.mod_lt
theorem kH:type_of% @Nat.mul_comm:=@Nat.mul_comm
theorem dV:type_of% @Nat.mul_le_mul_right:=@Nat.mul_le_mul_right
theorem bC:type_of% @Nat.zero_add:=@Nat.zero_add
theorem bw:type_of% @Nat.zero_le:=@Nat.zero_le
theorem fS:type_of% @Go.Oper.semAt_some:=@Go.Oper.semAt_some
theorem kI:type_of% @Option.getD_some:=@Option.getD_some
theorem eZ:type_of% @Option.map_some:=@Option.map_some
theorem dc:type_of% @Option.some.inj:=@Option.some.inj
theorem bu:type_of% @Option.some.injEq:=@Option.some.injEq
theorem cu:type_of% @Prod.mk.injEq:=@Prod.mk.injEq
theorem de:type_of% @Go.Result.andThen_ok:=@Go.Result.andThen_ok
theorem cG:type_of% @Go.Sem.run_bind:=@Go.Sem.run_bind
theorem gm:type_of% @Go.Sem.run_pure:=@Go.Sem.run_pure
theorem bQ:type_of% @Go.Proofs.Tryz.underlying9:=@Go.Proofs.Tryz.underlying9
theorem dW:type_of% @Go.World.alloc_heap_new:=@Go.World.alloc_heap_new
theorem cL:type_of% @Go.World.ownsRow.alloc:=@Go.World.ownsRow.alloc
theorem bp:type_of% @Go.World.ownsRow.lt:=@Go.World.ownsRow.lt
theorem dH:type_of% @Go.World.ownsRow_nil:=@Go.World.ownsRow_nil
theorem aQ:type_of% @Go.World.size_alloc:=@Go.World.size_alloc
theorem au:type_of% @Go.bodyPost_ret:=@Go.bodyPost_ret
namespace Mor
section
open Go
def qm(n:Int):Nat:=if n<0 then(-1 -n).toNat else n.toNat
def xU(n:Int):Nat:=if n<0 then 1 else 0
theorem Kx(n:Int):xU n<=1:=by unfold xU;split<;>omega
theorem Ej{n:Int}(h1: -9223372036854775808<=n)(h2:n<9223372036854775808):qm n<9223372036854775808:=by unfold qm;split<;>omega
def lG:Nat ->Nat ->List (Fin 128)
 |0,_=>[]
 |f+1,m=>if m=0 then []else⟨m % 128,jT _ (by decide)⟩::lG f (m/128)
def ox(n:Int):Fin 128:=⟨qm n % 64*2+xU n,by have:=Kx n;omega⟩
def oU(n:Int):List (Fin 128):=ox n::lG 9 (qm n/64)
theorem lu(f:Nat):lG f 0=[]:=by cases f<;>simp[lG]
theorem o9(f m:Nat)(h:m≠0):lG (f+1) m=⟨m % 128,jT _ (by decide)⟩::lG f (m/128):=by simp[lG,h]
def cont(l:List (Fin 128)):List UInt8:=l.map fun g=>dh (g.val+128)
def marks(l:List (Fin 128)):List UInt8:=match l.getLast? with
 |none=>[]
 |some z=>cont l.dropLast++[dh z.val]
def az(n:Int):List UInt8:=marks (oU n)
theorem GW:marks []=[]:=rfl
theorem mj(l:List (Fin 128))(y:Fin 128):marks (l++[y])=cont l++[dh y.val]:=by simp[marks]
theorem GA(l:List (Fin 128))(y:Fin 128):cont (l++[y])=cont l++[dh (y.val+128)]:=by simp[cont]
theorem oy(l:List (Fin 128)):(cont l).length=l.length:=by simp[cont]
theorem jM(l:List (Fin 128)):(marks l).length=l.length:=by rcases List.eq_nil_or_concat l with rfl|⟨q,z,rfl⟩;{rfl};{rw[List.concat_eq_append,mj];simp[oy]}
theorem tm:∀f m,(lG f m).length<=f
 |0,_=>by simp[lG]
 |f+1,m=>by have:=tm f (m/128);simp only[lG];split<;>simp<;>omega
theorem qJ(n:Int):(oU n).length<=10:=by have:=tm 9 (qm n/64);simp only[oU,aS];omega
theorem il{n:Nat}(h:n<256):(dh n).toNat=n:=by simp;omega
end
def oH(s:ByteArray)(k:Nat):UInt8:=(s.data.toList[k]?).getD 0
theorem Gq(s:ByteArray)(k:Nat)(h:k<s.size):oH s k=s[k]:=by unfold oH;rw[an (by simpa using h)];rfl
theorem Bm(s:ByteArray)(k:Nat)(h:k<s.size):s.data.toList.drop k=oH s k::s.data.toList.drop (k+1):=by
 have a:k<s.data.toList.length:=by simpa using h
 unfold oH;rw[aY a,an a];rfl
inductive cM where
 |ends
 |form
 |num (m sg size:Nat) deriving DecidableEq
def scan:List UInt8 ->Nat ->Nat ->Nat ->cM
 | [],_,_,_=>.ends
 |b::bs,k,m,sg=>
  if k=0 then
   if b.toNat<128 then .num (b.toNat % 128/2) (b.toNat % 128 % 2) 1 else scan bs 1 (b.toNat % 128/2) (b.toNat % 128 % 2)
  else if b.toNat=0\/(k=9/\1<b.toNat)then .form
  else
   if b.toNat<128 then .num (m|||(b.toNat % 128*2^(7*k - 1) % 18446744073709551616)) sg (k+1)
   else scan bs (k+1) (m|||(b.toNat % 128*2^(7*k - 1) % 18446744073709551616)) sg
def iR(s:ByteArray)(p:Int):cM:=if 0<=p/\p<=s.size/\1<=s.size -p then scan (s.data.toList.drop p.toNat) 0 0 0 else .ends
theorem o8(b:UInt8)(bs:List UInt8)(m sg:Nat):scan (b::bs) 0 m sg=if b.toNat<128 then .num (b.toNat % 128/2) (b.toNat % 128 % 2) 1 else scan bs 1 (b.toNat % 128/2) (b.toNat % 128 % 2):=by simp[scan]
theorem yZ(b:UInt8)(bs:List UInt8)(k m sg:Nat)(hk:k≠0)(h:b.toNat=0\/(k=9/\1<b.toNat)):scan (b::bs) k m sg=.form:=by simp only[scan,hk,if_false,h,if_true]
theorem rI(b:UInt8)(bs:List UInt8)(k m sg:Nat)(hk:k≠0)(h:¬(b.toNat=0\/(k=9/\1<b.toNat))):scan (b::bs) k m sg=
 if b.toNat<128 then .num (m|||(b.toNat % 128*2^(7*k - 1) % 18446744073709551616)) sg (k+1)
  else scan bs (k+1) (m|||(b.toNat % 128*2^(7*k - 1) % 18446744073709551616)) sg:=by
 simp only[scan,hk,if_false,h]
def eg(a b:Int):Int:=if a<b then -1 else if b<a then 1 else 0
def iS:List UInt8 ->List UInt8 ->Int
 | [],[]=>0
 | [],_::_=> -1
 |_::_,[]=>1
 |a::l,b::r=>if a<b then -1 else if b<a then 1 else iS l r
theorem nw(a:Int):eg a a=0:=by simp[eg]
theorem ji{a b:Int}:eg a b=0<->a=b:=by unfold eg;split<;>(try split)<;>omega
theorem rC:∀l,iS l l=0
 | []=>rfl
 |a::l=>by simp[iS,rC l]
theorem sC:∀l r,iS l r= -1\/iS l r=0\/iS l r=1
 | [],[]=>by simp[iS]
 | [],_::_=>by simp[iS]
 |_::_,[]=>by simp[iS]
 |a::l,b::r=>by unfold iS;have:=sC l r;split;{simp};{split;{simp};{exact this}}
theorem rD:∀{l r},iS l r=0<->l=r
 | [],[]=>by simp[iS]
 | [],_::_=>by simp[iS]
 |_::_,[]=>by simp[iS]
 |a::l,b::r=>by
  have c:= @rD l r;unfold iS;by_cases h1:a<b
  · have:a≠b:=fun e=>by subst e;exact UInt8.lt_irrefl _ h1
    simp[h1,this]
  · by_cases h2:b<a
    · have:a≠b:=fun e=>by subst e;exact UInt8.lt_irrefl _ h2
      simp[h1,h2,this]
    {have:a=b:=UInt8.toNat_inj.1 (by rw[UInt8.lt_iff_toNat_lt]at h1 h2;omega);simp[this,c]}
theorem xf:∀(l r:List UInt8),k8 l r=decide (iS l r= -1)
 | [],[]=>by simp[iS,k8]
 | [],_::_=>by simp[iS,k8]
 |_::_,[]=>by simp[iS,k8]
 |a::l,b::r=>by
  have c:=xf l r;unfold iS k8;by_cases h1:a<b;{simp[h1]}
  · by_cases h2:b<a
    · have:a≠b:=fun e=>by subst e;exact UInt8.lt_irrefl _ h2
      simp[h1,h2,this]
    {have:a=b:=UInt8.toNat_inj.1 (by rw[UInt8.lt_iff_toNat_lt]at h1 h2;omega);subst this;simp[h1,c]}
structure Pv where
 k:Int
 n:Int
 s:ByteArray
structure Vl where
 k:Int
 n:Int
 s:ByteArray
 l:List Pv
def qF(a b c:Int):Int:=if a≠0 then a else if b≠0 then b else c
def sT(p q:Pv):Int:=qF (eg p.k q.k) (eg p.n q.n) (iS p.s.data.toList q.s.data.toList)
def cmpL:List Pv ->List Pv ->Int
 | [],[]=>0
 | [],_::_=> -1
 |_::_,[]=>1
 |a::l,b::r=>if sT a b≠0 then sT a b else cmpL l r
def Gx(v u:Vl):Int:=if qF (eg v.k u.k) (eg v.n u.n) (iS v.s.data.toList u.s.data.toList)≠0 then qF (eg v.k u.k) (eg v.n u.n) (iS v.s.data.toList u.s.data.toList)else cmpL v.l u.l
end Mor
namespace Go.Proofs.YtbcbefpninlfiaaGreatDoor
open Go.Proofs.Tryz
theorem A{α:Sort _}{a:α}:a=a:=rfl
theorem Rm:type_of% @beq_eq_false_iff_ne:=@beq_eq_false_iff_ne
theorem Rw:type_of% @decide_eq_false:=@decide_eq_false
theorem Rv:type_of% @decide_eq_true:=@decide_eq_true
theorem Rt:type_of% @decide_eq_true_eq:=@decide_eq_true_eq
theorem Rq:type_of% @if_neg:=@if_neg
theorem Rs:type_of% @if_pos:=@if_pos
section
open Go.RowKit
theorem GZ(W:ai)(v:ar)(t:bR):(W.alloc (.cells #[v] t)).cell? ⟨W.heap.size,0,N⟩=O v/\(W.alloc (.cells #[v] t)).frozen? ⟨W.heap.size,0,N⟩=false:=
 ⟨(Boxed.new W t v).cell,(Boxed.new W t v).frozen⟩
theorem cR{W:ai}{B:Nat}{t:bR}{v:ar}(h:Boxed W B t v):Boxed W.drew B t v:=h
theorem heap_drew{W:ai}{D:Nat}{o:Option Obj}(h:W.heap[D]? =o):W.drew.heap[D]? =o:=h
theorem g_(W:ai)(a:Addr)(v:ar):W.grownBy (W.setCell a v) (O a.block):=
 ⟨rfl,rfl,rfl,by simp[World.setCell],fun k _ hk=>fg _ _ _ _ (fun e=>hk (by rw[e]))⟩
theorem wm(b o j:Nat):(⟨b,o,N⟩:Addr).add j=⟨b,o+j,N⟩:=by unfold Addr.add;split;{rename_i h;rw[h];rfl};{rfl}
theorem ey{W a:ai}(hb:Below W.heap.size W a):(∀b o,b<W.heap.size ->a.cell? ⟨b,o,N⟩=W.cell? ⟨b,o,N⟩)/\(∀b o,b<W.heap.size ->a.frozen? ⟨b,o,N⟩=W.frozen? ⟨b,o,N⟩):=
 ⟨fun b o h=>hb.cell (p:=⟨b,o,N⟩) h,fun b o h=>hb.frozen (p:=⟨b,o,N⟩) h⟩
end
section
open Go.RowKit
theorem fD{w:ai}{b o:Nat}{v:ar}(h:w.cell? ⟨b,o,N⟩=O v):b<w.heap.size:=by obtain⟨ob,ho,_⟩:=cells_of_cell h;exact(bP.1 ho).1
theorem aU{w w':ai}{b o:Nat}{v:ar}(h:w.cell? ⟨b,o,N⟩=O v)(hb:Below w.heap.size w w') :w'.cell? ⟨b,o,N⟩=O v:=(hb.cell (p:=⟨b,o,N⟩) (fD h)).trans h
theorem mh(w:ai)(cs:Array ar)(t:bR)(j:Nat):(w.alloc (.cells cs t)).cell? ⟨w.heap.size,j,N⟩=cs[j]? :=by have:=heap_alloc_new w (.cells cs t);unfold World.cell?;simp only[this];rfl
theorem yr(w:ai)(o:Obj)(v:ar)(t:bR):((w.alloc o).alloc (.cells #[v] t)).cell? ⟨w.heap.size+1,0,N⟩=O v:=by have:=(GZ (w.alloc o) v t).1;rwa[aQ]at this
def Sl(w:ai)(size:Nat)(v:ar)(n:Nat)(xs:List ar):Prop:=
 ∃(a:Option Addr) (c:Nat),v=Z a n c/\n<=c/\c<=maxLen/\(a=N ->c=0)/\xs.length=n*size/\
  (0<n ->∃b o,a=O ⟨b,o,N⟩/\∀(j:Nat) (x:ar),xs[j]? =O x ->w.cell? ⟨b,o+j,N⟩=O x)
theorem Sl.below{w w':ai}{size n:Nat}{v:ar}{xs:List ar}(h:Sl w size v n xs)(hb:Below w.heap.size w w') :Sl w' size v n xs:=by obtain⟨a,c,h1,h2,h3,h4,d,h7⟩:=h;refine⟨a,c,h1,h2,h3,h4,d,fun hn=> ?_⟩;obtain⟨b,o,e,hc⟩:=h7 hn;exact⟨b,o,e,fun j x f=>aU (hc j x f) hb⟩
theorem xF(w:ai)(size:Nat):Sl w size (Z N 0 0) 0 []:=⟨N,0,rfl,av _,by unfold maxLen;omega,fun _=>rfl,by simp,fun h=>absurd h (by decide)⟩
theorem Sl.slice{w:ai}{size n:Nat}{v:ar}{xs:List ar}(h:Sl w size v n xs):∃a c,v=Z a n c:=by obtain⟨a,c,h,_⟩:=h;exact⟨a,c,h⟩
theorem Sl.le{w:ai}{size n:Nat}{v:ar}{xs:List ar}(h:Sl w size v n xs):n<=9223372036854775807:=by obtain⟨a,c,_,h2,h3,_⟩:=h;unfold maxLen at h3;omega
theorem uH{w:ai}{base E size n:Nat}{v:ar}{xs:List ar}(h:w.ownsRow base E size v n xs):Sl w size v n xs:=by have hx:=h;rcases h.2 with⟨rfl,h0⟩|⟨g,cap,cur,rfl,hg,e,hc,hm,c,d⟩;{subst h0;have:xs=[]:=cy (by have:=h.1;omega);subst this;exact xF _ _};{refine⟨O ⟨g,0,N⟩,cap,rfl,hc,hm,(fun h=>by cases h),h.1,fun _=>⟨g,0,rfl,fun j x b=> ?_⟩⟩;have a:j<xs.length:=(aA.1 b).1;have hq:=hx.cellAt j (by rw[h.1]at a;exact a);rw[b]at hq;rw[bC];exact hq}
theorem Sl.take{w:ai}{size n k:Nat}{a:Option Addr}{m c:Nat}{xs:List ar}(h:Sl w size (Z a m c) n xs)(hk:k<=n):Sl w size (Z a k c) k (xs.take (k*size)):=by obtain⟨a', i,e,h2,h3,h4,l,h7⟩:=h;cases e;have g:k*size<=n*size:=dV _ hk;refine⟨a,c,rfl,by omega,h3,h4,by rw[bL];omega,fun hn=> ?_⟩;obtain⟨b,o,e2,hc⟩:=h7 (by omega);refine⟨b,o,e2,fun j x f=>hc j x ?_⟩;have d:=(aA.1 f).1;rw[bL]at d;rwa[List.getElem?_take_of_lt (by omega)]at f
theorem Sl.drop{w:ai}{size n k:Nat}{a:Option Addr}{m c:Nat}{xs:List ar}(h:Sl w size (Z a m c) n xs)(hk:k<=n):Sl w size (Z (if c=k then a else Option.map (fun x=>x.add (k*size)) a) (n -k) (c -k)) (n -k) (xs.drop (k*size)):=by
 obtain⟨a', l,e,h2,h3,h4,f,h7⟩:=h;cases e;have i:k*size<=n*size:=dV _ hk;refine⟨_,_,rfl,by omega,by omega, ?_,by rw[dt,f,Nat.sub_mul],fun hn=> ?_⟩
 · intro d;split at d;{omega}
   · cases a with
     |none=>have:=h4 A;omega
     |some ad=>cases d
 {obtain⟨b,o,e2,hc⟩:=h7 (by omega);subst e2;rw[Rq (by omega)];refine⟨b,o+k*size,by simp[iN],fun j x g=> ?_⟩;rw[gW];refine hc _ x ?_;rwa[jS]at g}
theorem AI(w:ai)(E size n:Nat)(cs:Array ar)(hs:cs.size=n*size)(hn:n<=maxLen):Sl (w.alloc (.cells cs E)) size (Z (O ⟨w.heap.size,0,N⟩) n n) n cs.toList:=
 ⟨_,_,rfl,av _,hn,(fun h=>by cases h),by simpa using hs,fun _=>⟨w.heap.size,0,rfl,fun j x a=>by rw[bC];have:=heap_alloc_new w (.cells cs E);unfold World.cell?;simp only[this];simpa using a⟩⟩
structure Elem(P:Program)(T E:bR)(size bytes:Nat):Prop where
 u:P.underlying T=O (.slice E)
 i:∃i z,P.info? E=O i/\i.zero=O z/\i.size=size/\i.bytes=bytes/\z.cells.size=size
 s:0<size
 b:0<bytes
theorem ni{P:Program}{T E:bR}{size bytes:Nat}{z:ar}(hu:P.underlying T=O (.slice E))(hi:(P.info? E).map (fun i=>(i.zero,i.size,i.bytes))=O (O z,size,bytes))(a:z.cells.size=size)(hs:0<size)(hb:0<bytes):Elem P T E size bytes:=by obtain⟨i,h1,h2,h3,h4⟩:=info_parts hi;exact⟨hu,⟨i,z,h1,h2,h3,h4,a⟩,hs,hb⟩
theorem CB{P:Program}{T E size bytes:Nat}(e:Elem P T E size bytes)(base:Nat)(ty:bR)(v u:ar)(n m:Nat)(xs ys:List ar)(w:ai)(d:w.ownsRow base E size v n xs)(hu:Sl w size u m ys)(h6:∀x∈ys,x.oneCell'=true)(p:(n+m)*bytes<=140737488355328)(hb:base<=w.heap.size):∃v' w', (Builtin.append_ #[T,T] ty #[v,u]).run P w=.ok v' w'/\w'.ownsRow base E size v' (n+m) (xs++ys)/\w.grownBy w' v.ownBlock:=by
 obtain⟨q,z,hi,l,hz1,hz2,hz3⟩:=e.i;obtain⟨a,c,rfl,h2,h3,h4,r,h7⟩:=hu;have f:=e.b;have t:n+m<=140737488355328:=bc (jx _ f) p;cases a with
 |none=>obtain rfl:=h4 A;obtain rfl:m=0:=(by omega);have:ys=[]:=cy (by omega);subst this;exact⟨v,w,run_append_owned_none w base T ty E q size e.u hi v _ _ d,by rw[gK];exact d,⟨rfl,rfl,rfl,av _,fun _ _ _=>rfl⟩⟩
 |some ad=>have hc:∀j x,ys[j]? =O x ->w.cell? (ad.add j)=O x:=by{intro j x k;have hm:0<m:=by{rcases Nat.eq_zero_or_pos m with rfl|h;{have:ys=[]:=cy (by omega);rw[this]at k;simp at k};{exact h}};obtain⟨b,o,e2,g⟩:=h7 hm;cases e2;rw[show(⟨b,o,N⟩:Addr).add j=⟨b,o+j,N⟩from iN ..];exact g j x k};obtain⟨v', w', hr,ho,hg,_⟩:=run_append_own (P:=P) w base T ty E q z size bytes e.u hi l hz1 hz2 hz3 e.s v n _ d ad m c _ r hc h6 (by unfold maxLen;omega) p hb;exact⟨v', w', hr,ho,hg⟩
theorem dX{w w':ai}{base E size n:Nat}{v:ar}{xs:List ar}(a:w.ownsRow base E size v n xs)(hg:w.grownBy w' v.ownBlock)(hb:base<=w.heap.size):Below base w w':=
 (ax base w).grown hg hb fun k hk=>(bp a k hk).1
theorem step_append{P:Program}{ops:Array Oper}{o:Oper}{a:Act}{w:ai}{K:Act ->ai ->Prop}{Q:Exit ->Act ->ai ->Prop}{F:Prop}{T E size bytes:Nat}(hw:Region.wanted o (yielded ops a.tmps)=true)(s x:Operand)(c:o.op=Op.call {callee:=Callee.builtin Builtin.append,args:= #[s,x],argTypes:= #[T,T]})(d:Elem P T E size bytes)(base:Nat)(v u:ar)(n m:Nat)(xs ys:List ar)(hs:a.eval s=v)(hx:a.eval x=u)(b:w.ownsRow base E size v n xs)(hu:Sl w size u m ys)(h6:∀x∈ys,x.oneCell'=true)(e:(n+m)*bytes<=140737488355328)(hb:base<=w.heap.size)(hK:∀v' w', w'.ownsRow base E size v' (n+m) (xs++ys) ->Below base w w' ->w.grownBy w' v.ownBlock ->K (a.put o.dst v') w') :if Region.wanted o (yielded ops a.tmps)=true then Oper.wp P o a w K Q else F:=by rw[Rs hw];obtain⟨v', w', hr,h2,h3⟩:=CB d base o.type v u n m xs ys w b hu h6 e hb;unfold Oper.wp execOp;simp only[c,resolve,invoke,builtin,cG,gm,de,List.map_toArray,gj,List.map_nil,hs,hx,hr];exact hK v' w' h2 (dX b h3 hb) h3
theorem ri{P:Program}{ops:Array Oper}{rest:List Oper}{o:Oper}{a:Act}{w:ai}{Q:Exit ->Act ->ai ->Prop}{T E size bytes:Nat}(c:o.guard=N)(s x:Operand)(d:o.op=Op.call {callee:=Callee.builtin Builtin.append,args:= #[s,x],argTypes:= #[T,T]})(e:Elem P T E size bytes)(base:Nat)(v u:ar)(n m:Nat)(xs ys:List ar)(hs:a.eval s=v)(hx:a.eval x=u)(b:w.ownsRow base E size v n xs)(hu:Sl w size u m ys)(h6:∀x∈ys,x.oneCell'=true)(f:(n+m)*bytes<=140737488355328)(hb:base<=w.heap.size)(hK:∀v' w', w'.ownsRow base E size v' (n+m) (xs++ys) ->Below base w w' ->w.grownBy w' v.ownBlock ->wpList P ops Q rest (a.put o.dst v') w') :wpList P ops Q (o::rest) a w:=by refine wpList_plain c fun K hK'=> ?_;obtain⟨v', w', hr,h2,h3⟩:=CB e base o.type v u n m xs ys w b hu h6 f hb;unfold Oper.wp execOp;simp only[d,resolve,invoke,builtin,cG,gm,de,List.map_toArray,gj,List.map_nil,hs,hx,hr];exact hK' _ _ (hK v' w' h2 (dX b h3 hb) h3)
def cl{α:Type}(size:Nat)(R:ai ->List ar ->α ->Prop)(w:ai)(v:ar)(l:List α):Prop:=
 ∃es:List (List ar),(∀e∈es,e.length=size/\∀x∈e,x.oneCell'=true)/\Sl w size v es.length es.flatten/\es.length=l.length/\∀(i:Nat) (e:List ar) (x:α),es[i]? =O e ->l[i]? =O x ->R w e x
theorem te{size:Nat}:∀{es:List (List ar)},(∀e∈es,e.length=size/\∀x∈e,x.oneCell'=true) ->es.flatten.length=es.length*size
 | [],_=>by simp
 |e::es,h=>by have:=te (size:=size) (es:=es) (fun e' a=>h e' (cE _ a));simp only[fI,aw,aS,this,(h e (by simp)).1,kv,Nat.one_mul];omega
theorem tf{size:Nat}{es:List (List ar)}(h:∀e∈es,e.length=size/\∀x∈e,x.oneCell'=true):∀x∈es.flatten,x.oneCell'=true:=by intro x hx;obtain⟨e,he,hx⟩:=List.mem_flatten.1 hx;exact(h e he).2 x hx
theorem zY{size:Nat}:∀{es:List (List ar)},(∀e∈es,e.length=size/\∀x∈e,x.oneCell'=true) ->∀{i:Nat} {e:List ar},es[i]? =O e ->∀{j:Nat},j<size ->es.flatten[i*size+j]? =e[j]?
 | [],_,i,e,he,_,_=>by simp at he
 |e0::es,h,0,e,he,j,b=>by have h0:=(h e0 (by simp)).1;simp at he;subst he;rw[fI,Nat.zero_mul,bC,bS (by omega)]
 |e0::es,h,i+1,e,he,j,b=>by have h0:=(h e0 (by simp)).1;have:=zY (size:=size) (es:=es) (fun e' a=>h e' (cE _ a)) (i:=i) (e:=e) (by simpa using he) b;rw[fI,bZ (by rw[h0,kv];omega),h0,show(i+1)*size+j -size=i*size+j by rw[kv];omega];exact this
theorem ui{size:Nat}:∀{es:List (List ar)},(∀e∈es,e.length=size/\∀x∈e,x.oneCell'=true) ->∀(k:Nat),(es.take k).flatten=es.flatten.take (k*size)
 | [],_,k=>by simp
 |e0::es,h,0=>by simp
 |e0::es,h,k+1=>by have h0:=(h e0 (by simp)).1;have:=ui (size:=size) (es:=es) (fun e' a=>h e' (cE _ a)) k;rw[di,fI,fI,this,List.take_append,h0,show(k+1)*size -size=k*size by rw[kv];omega,fK (l:=e0) (by rw[h0,kv];omega)]
theorem uh{size:Nat}:∀{es:List (List ar)},(∀e∈es,e.length=size/\∀x∈e,x.oneCell'=true) ->∀(k:Nat),(es.drop k).flatten=es.flatten.drop (k*size)
 | [],_,k=>by simp
 |e0::es,h,0=>by simp
 |e0::es,h,k+1=>by have h0:=(h e0 (by simp)).1;have:=uh (size:=size) (es:=es) (fun e' a=>h e' (cE _ a)) k;rw[cU,fI,this,List.drop_append,h0,show(k+1)*size -size=k*size by rw[kv];omega,d_ (l:=e0) (by rw[h0,kv];omega),bI]
section
variable {α:Type} {size:Nat} {R:ai ->List ar ->α ->Prop} {w w':ai} {v:ar} {l:List α}
theorem cl.below(hR:∀e x,R w e x ->R w' e x)(h:cl size R w v l)(hb:Below w.heap.size w w') :cl size R w' v l:=by obtain⟨es,h1,h2,h3,h4⟩:=h;exact⟨es,h1,h2.below hb,h3,fun i e x he hx=>hR e x (h4 i e x he hx)⟩
theorem dL(size:Nat)(R:ai ->List ar ->α ->Prop)(w:ai):cl size R w (Z N 0 0) []:=⟨[],by simp,xF _ _,rfl,by simp⟩
theorem cl.slice(h:cl size R w v l):∃a c,v=Z a l.length c:=by obtain⟨es,h1,h2,h3,h4⟩:=h;obtain⟨a,c,e⟩:=h2.slice;exact⟨a,c,by rw[e,h3]⟩
theorem cl.le(h:cl size R w v l):l.length<=9223372036854775807:=by obtain⟨es,h1,h2,h3,h4⟩:=h;rw[<-h3];exact h2.le
theorem cl.at{a:Option Addr}{n c:Nat}(h:cl size R w (Z a n c) l){i:Nat}{x:α}(hx:l[i]? =O x):∃b o e,a=O ⟨b,o,N⟩/\R w e x/\e.length=size/\∀j y,e[j]? =O y ->w.cell? ⟨b,o+i*size+j,N⟩=O y:=by
 obtain⟨es,h1,⟨a', m,e', h2,h3,k,p,h7⟩,f,h4⟩:=h;cases e'; have hi:i<es.length:=by rw[f];exact(aA.1 hx).1
 obtain⟨b,o,e2,hc⟩:=h7 (by omega);have he:es[i]? =O es[i]:=an hi;refine⟨b,o,es[i],e2,h4 i _ x he hx,(h1 _ (jv _)).1,fun j y g=> ?_⟩;have d:=(aA.1 g).1;rw[(h1 _ (jv _)).1]at d;rw[gW];exact hc _ y (by rw[zY h1 he d];exact g)
theorem cl.take{a:Option Addr}{n c:Nat}(h:cl size R w (Z a n c) l){k:Nat}(hk:k<=l.length):cl size R w (Z a k c) (l.take k):=by obtain⟨es,h1,h2,h3,h4⟩:=h;refine⟨es.take k,fun e he=>h1 e (eE he), ?_,by simp[h3],fun i e x he hx=> ?_⟩;{rw[ui h1,show(es.take k).length=k by rw[bL];omega];exact h2.take (by omega)};{rw[List.getElem?_take]at he hx;split at he;{rename_i b;rw[Rs b]at hx;exact h4 i e x he hx};{cases he}}
theorem cl.drop{a:Option Addr}{n c:Nat}(h:cl size R w (Z a n c) l){k:Nat}(hk:k<=l.length):cl size R w (Z (if c=k then a else Option.map (fun x=>x.add (k*size)) a) (l.length -k) (c -k)) (l.drop k):=by obtain⟨es,h1,h2,h3,h4⟩:=h;refine⟨es.drop k,fun e he=>h1 e (List.mem_of_mem_drop he), ?_,by simp[h3],fun i e x he hx=> ?_⟩;{rw[uh h1,show(es.drop k).length=es.length -k by simp,<-h3];exact h2.drop (by omega)};{rw[jS]at he hx;exact h4 _ e x he hx}
end
end
section
open Go.RowKit
section
variable {P:Program} {ops:Array Oper} {md:Region.Mode} {w:ai} {F:Fence} {n:Nat}
structure F_(P:Program)(F:Fence):Prop where
 fn:∀f,F.fn f
 depth:F.depth=N
 calls:∀{f:FuncId} {args:Array ar} {w:ai} {R:Ending ->ai ->Prop} (n:Nat),Calls P f args w R ->CallsIn F n P f args w R
theorem GM:F_ P Fence.wide:=⟨fun _=>trivial,rfl,fun _ h=>callsIn_wide.2 h⟩
theorem sA(l:Nat):F_ P (Fence.wide.inRound l):=⟨fun _=>trivial,rfl,fun _ h=>CallsIn.inRound l (callsIn_wide.2 h)⟩
def FB(l:List Oper):Bool:=l.all fun o=>match o.op with| .defer _=>false|_=>true
theorem Ai{l:List Oper}(h:FB l=true){i:Nat}{o:Oper}(ho:l[i]? =O o)(c:Call):o.op≠.defer c:=by intro e;have:=ba.1 h o (aP ho);rw[e]at this;cases this
theorem yo(hF:F_ P F){o:Oper}(hd:∀c,o.op≠.defer c){a:Act}{K:Act ->Prop}{d:Act ->ai ->Prop}{Q':Exit ->Act ->ai ->Prop}(h:∀a,K a ->d a w)(b:o.still P a w K):o.wpIn F n P a w d Q':=by
 unfold Oper.still at b;unfold Oper.wpIn;refine⟨fun f _=>hF.fn f, ?_⟩;rw[Oper.semAt_plain F _ o hd];generalize(execOp a.eval o).run P w=r at*;cases r with
 |ok x w'=>
  cases x<;>simp only[Oper.stillUpon]at b<;>simp only[Oper.uponIn];case enter f args=>obtain⟨rfl,v,hc,hn⟩:=b;exact⟨fun e=>(by rw[hF.depth]at e;cases e),(hF.calls _ hc).mono fun e w''⟨he,hw⟩=>by subst he;subst hw;exact h _ hn⟩
  all_goals(obtain⟨rfl,h2⟩:=b;exact h _ h2)
 |halt x w'=>simp only[Oper.stillUpon]at b
theorem xQ(hF:F_ P F){i:Nat}(hd:∀o,ops[i]? =O o ->∀c,o.op≠.defer c){a:Act}{K:Act ->Prop}{d:Act ->ai ->Prop}{Q':Exit ->Act ->ai ->Prop}(h:∀a,K a ->d a w)(b:stOp P ops w i K a):wpOpIn F n P ops Q' i d a w:=by unfold stOp at b;unfold wpOpIn;split;{rename_i ho;simp only[ho]at b;exact h _ b};{rename_i o ho;simp only[ho]at b;split;{rename_i hw;simp only[hw,if_true]at b;exact yo hF (hd o ho) h b};{rename_i hw;simp only[hw]at b;exact⟨fun f _=>hF.fn f,h _ b⟩}}
theorem qc(hF:F_ P F)(hd:∀(i:Nat) (o:Oper),ops[i]? =O o ->∀c,o.op≠.defer c){m g:Nat}{L:Array Bool ->Act ->Prop}{Q':Exit ->Act ->ai ->Prop}(b:∀listed a,L listed a ->wpAnyIn F n P md ops Q' g listed a w):
 ∀(f:Nat) (listed:Array Bool) (a:Act),wpAnyL P md ops w m L f listed a ->wpAnyIn F n P md ops Q' (f+g) listed a w
 |0,listed,a,h=>by rw[bC];exact b _ _ h
 |f+1,listed,a,h=>by rw[show f+1+g=(f+g)+1 by omega];exact⟨fun h0=>absurd h0 h.1,fun i hi=>xQ hF (hd i) (fun a' d=>qc hF hd b f _ a' d) (h.2 i hi).2⟩
theorem re{Q':Exit ->Act ->ai ->Prop}:∀(l:List Oper) (k:Nat) (listed:Array Bool) (a:Act) (w:ai),(∀j,l[j]? =ops[k+j]?) ->
 Region.seqB md ops l.length k listed=true ->wpListIn F n P ops Q' l a w ->wpAnyIn F n P md ops Q' l.length listed a w
 | [],_,_,_,_,_,hB,h=>⟨by simpa[Region.seqB]using hB,h⟩
 |o::l,k,listed,a,w,c,hB,h=>by
  have h0:ops[k]? =O o:=by simpa using(c 0).symm
  simp only[aS,Region.seqB,aK,Rt]at hB;refine⟨fun h1=>(by rw[hB.1]at h1;cases h1),fun i hi=> ?_⟩;rw[hB.1]at hi;have b:i=k:=by simpa using hi
  subst b;have hw:wpOpIn F n P ops Q' i (wpListIn F n P ops Q' l) a w:=by unfold wpOpIn;simp only[h0];exact h
  exact wpOpIn_mono (fun a' w' d=>re l (i+1) _ a' w' (fun j=>by have:=c (j+1);simpa[gW,Nat.add_comm 1 j]using this) hB.2 d) hw
theorem gS(hF:F_ P F){id:Nat}{Q:Exit ->Act ->ai ->Prop}{a:Act}{w:ai}{l:List Oper}(m:Nat)(hm:P.follows .mixedOrders=true)(hB:Region.lexTailB .any l.toArray m=true)(hd:FB l=true)(h:wpStill P l.toArray w.drew (fun a'=>wpListIn F n P l.toArray Q (l.drop m) a' w.drew) (l.take m) a):(Code.region id l.toArray true).wpIn F n P Q a w:=by
 simp only[Region.lexTailB,aK,Rt]at hB;obtain⟨⟨⟨⟨e,hn⟩,hs⟩,hc⟩,d⟩:=hB;have s:m<l.length:=by simpa using hn
 have b:(l.take m).length=m:=by simp;omega
 have c:(l.drop m).length=l.toArray.size -m:=by simp
 have f:HeadInv .any l.toArray m (Array.replicate l.toArray.size false):=
  ⟨by simp,fun j oj _ r=>(by rw[getD_replicate_false]at r;cases r),fun t _ u=>getD_in (by simpa using u) (getD_replicate_false _ _)⟩
 have H:=wpAnyL_lex (md:=.any) (g:=l.toArray.size -m) e hs hc hn (l.take m) 0 _ a (fun j q=>by
  have k:j<m:=(by rw[b]at q;exact q);simp[k]) (by simpa using b) f (by rw[b];exact d) h
 refine wpIn_region_any hm ?_
 have:=qc hF (fun i o ho=>Ai (l:=l) hd (i:=i) (by simpa using ho)) (F:=F) (n:=n) (Q':=Q) (g:=l.toArray.size -m) (fun listed a' p=>by
  have:=re (F:=F) (n:=n) (P:=P) (md:=.any) (Q':=Q) (l.drop m) m listed a' w.drew (fun j=>by simp[jS]) (by rw[c];exact p.1) p.2;rwa[c]at this) _ _ _ H
 rw[b,show m+(l.toArray.size -m)=l.toArray.size by omega]at this;exact this
theorem fY{id:Nat}{Q:Exit ->Act ->ai ->Prop}{a:Act}{w:ai}{l:List Oper}(hm:P.follows .mixedOrders=true)(hB:Region.lexB .any l.toArray=true)
 (h:wpStill P l.toArray w.drew (fun a'=>Q .normal a' w.drew) l a):(Code.region id l.toArray true).wp P Q a w:=wp_region_still_lit hm hB h
theorem jZ{id:Nat}{Q:Exit ->Act ->ai ->Prop}{a:Act}{w:ai}{l:List Oper}(m:Nat)(hm:P.follows .mixedOrders=true)(hB:Region.lexTailB .any l.toArray m=true)
 (h:wpStill P l.toArray w.drew (fun a'=>wpList P l.toArray Q (l.drop m) a' w.drew) (l.take m) a):(Code.region id l.toArray true).wp P Q a w:=wp_region_still_tail m hm hB h
end
end
section
open Go.RowKit Go.Shelf Mor
theorem jO:Fence.wide.depth=N:=rfl
theorem np(f:FuncId):Fence.wide.fn f=True:=rfl
attribute [local go_sem] fS jO np
theorem GO(n:Nat)(x:Int)(w:ai):CallsIn Fence.wide n Tryz.prog 61 #[.int .i64 x] w fun e w'=>e=.returned (.func (.func 114) #[] #[.pointer (O ⟨w.heap.size,0,N⟩)])/\w'=w.alloc (.cells #[.int .i64 x] 3):=by refine callsIn_of_wp func61 A trivial ?_ A;simp only[ntmps61,dE,aS,a7,Nat.reduceAdd,Nat.reduceSub,cN,cO,dD,cS,bI,b_];gi_wp2;go_ret;exact⟨rfl,rfl⟩
theorem DW(n l B:Nat)(x:Int)(hx1: -9223372036854775808<=x)(hx2:x<9223372036854775808)(a Jx:List (Fin 128) ->ai ->Prop)
 (T:∀pre (y:Fin 128) W,a pre W ->pre.length<(oU x).length ->YieldAt Fence.wide (n - 1) Tryz.prog l #[.int .u8 (y.val:Int)] W fun e W'=>(e=.returned (.bool true)/\a (pre++[y]) W'/\True)\/(e=.returned (.bool false)/\Jx (pre++[y]) W'))
 (W:ai)(hB:W.cell? ⟨B,0,N⟩=O (.int .i64 x))(h0:a [] W):
 CallsIn Fence.wide n Tryz.prog 114 #[.func (.yield l) #[] #[], .pointer (O ⟨B,0,N⟩)] W fun e W'=>(∃v,e=.returned v)/\
  ((∃ys,ys=oU x/\a ys W') \/(∃pre,True/\Jx pre W')) :=by
 have q:=Ej hx1 hx2
 obtain⟨aj,X,F,R,k,G⟩:=T [] (ox x) W h0 (by simp[oU])
 have C:=M G
 clear G
 have HY:=M T
 clear T
 have Y:Hid (oU x=[ox x]++lG 9 (qm x/64)):=rfl
 have L:Hid (qm x=if x<0 then(-1 -x).toNat else x.toNat):=rfl
 have K:Hid (((ox x).val:Int)=if x<0 then(-1 -x) % 64*2+1 else x % 64*2):=by show((qm x % 64*2+xU x:Nat):Int)=_;unfold qm xU;split<;>omega
 by_cases b:x<0
 · rw[K.out,Rs b]at k;have r:=M (show((qm x/64:Nat):Int)=(-1 -x)/64 from by rw[L.out,Rs b];omega);clear K L;refine callsIn_of_wp func114 A trivial ?_ A;simp only[ntmps114,dE,aS,a7,Nat.reduceAdd,Nat.reduceSub,cN,cO,dD,cS,bI,b_];gi_wp2;clear k;refine C.out.mono ?_;rintro e W1(⟨rfl,u,_⟩|⟨rfl,g⟩)
   · gi_wp2;gi_loopw [3] (fun p wr=>∃(f:Nat) (pre:List (Fin 128)) (m:Nat),p=.int .u64 (m:Int)/\m<128^f/\m<9223372036854775808/\Hid (oU x=pre++lG f m)/\a pre wr) (fun p _=>(intOf p).toNat);case atStart=>exact⟨9,[ox x],qm x/64,by rw[r.out],by have:=q;omega,by omega,Y.out,u⟩
     case round=>
      obtain⟨f,pre,m,rfl,hm,H,E,d⟩:=hrel;by_cases o:m=0;{subst o;gi_wp2;go_end0;have e:=E.out;rw[lu,gK]at e;exact⟨⟨_,rfl⟩, .inl ⟨pre,e.symm,d⟩⟩}
      · cases f with
        |zero=>exact absurd hm (by omega)
        |succ f=>
         have e:=E.out;rw[o9 f m o]at e;obtain⟨S,z,c,t,j,i⟩:=HY.out pre ⟨m % 128,jT _ (by decide)⟩ wr d (by rw[e];simp);have P:=M e;have s:=M i;have Q:=M hm;have D:=M o;clear i e hm o;have V:((m:Int) !=0)=true:=(by have:=D.out;rw[bne_iff_ne];omega);have e1:(((⟨m % 128,jT _ (by decide)⟩:Fin 128).val:Nat):Int)=(m:Int) % 128:=(by simp);rw[e1]at j;clear e1;gi_wp2;clear j;refine s.out.mono ?_;rintro e W2(⟨rfl,w,_⟩|⟨rfl,h⟩)
         · gi_wp2;go_roundw;case rel=>have hp:128^(f+1)=128^f*128:=Nat.pow_succ ..;have h1:=Q.out;exact⟨f,_,m/128,by rw[Int.natCast_ediv];rfl,by rw[hp]at h1;exact kx (by rw[kH];exact h1),by omega,M (by rw[P.out];simp),w⟩
           case measure=>have:=D.out;simp[intOf];omega
         {gi_wp2;refine au (results_none A _ _ _) A ?_;exact⟨⟨_,rfl⟩, .inr ⟨_,trivial,h⟩⟩}
   {gi_wp2;refine au (results_none A _ _ _) A ?_;exact⟨⟨_,rfl⟩, .inr ⟨_,trivial,g⟩⟩}
 · rw[K.out,Rq b]at k;have r:=M (show((qm x/64:Nat):Int)=x/64 from by rw[L.out,Rq b];omega);clear K L;refine callsIn_of_wp func114 A trivial ?_ A;simp only[ntmps114,dE,aS,a7,Nat.reduceAdd,Nat.reduceSub,cN,cO,dD,cS,bI,b_];gi_wp2;clear k;refine C.out.mono ?_;rintro e W1(⟨rfl,u,_⟩|⟨rfl,g⟩)
   · gi_wp2;gi_loopw [3] (fun p wr=>∃(f:Nat) (pre:List (Fin 128)) (m:Nat),p=.int .u64 (m:Int)/\m<128^f/\m<9223372036854775808/\Hid (oU x=pre++lG f m)/\a pre wr) (fun p _=>(intOf p).toNat);case atStart=>exact⟨9,[ox x],qm x/64,by rw[r.out],by have:=q;omega,by omega,Y.out,u⟩
     case round=>
      obtain⟨f,pre,m,rfl,hm,H,E,d⟩:=hrel;by_cases o:m=0;{subst o;gi_wp2;go_end0;have e:=E.out;rw[lu,gK]at e;exact⟨⟨_,rfl⟩, .inl ⟨pre,e.symm,d⟩⟩}
      · cases f with
        |zero=>exact absurd hm (by omega)
        |succ f=>
         have e:=E.out;rw[o9 f m o]at e;obtain⟨S,z,c,t,j,i⟩:=HY.out pre ⟨m % 128,jT _ (by decide)⟩ wr d (by rw[e];simp);have P:=M e;have s:=M i;have Q:=M hm;have D:=M o;clear i e hm o;have V:((m:Int) !=0)=true:=(by have:=D.out;rw[bne_iff_ne];omega);have e1:(((⟨m % 128,jT _ (by decide)⟩:Fin 128).val:Nat):Int)=(m:Int) % 128:=(by simp);rw[e1]at j;clear e1;gi_wp2;clear j;refine s.out.mono ?_;rintro e W2(⟨rfl,w,_⟩|⟨rfl,h⟩)
         · gi_wp2;go_roundw;case rel=>have hp:128^(f+1)=128^f*128:=Nat.pow_succ ..;have h1:=Q.out;exact⟨f,_,m/128,by rw[Int.natCast_ediv];rfl,by rw[hp]at h1;exact kx (by rw[kH];exact h1),by omega,M (by rw[P.out];simp),w⟩
           case measure=>have:=D.out;simp[intOf];omega
         {gi_wp2;refine au (results_none A _ _ _) A ?_;exact⟨⟨_,rfl⟩, .inr ⟨_,trivial,h⟩⟩}
   {gi_wp2;refine au (results_none A _ _ _) A ?_;exact⟨⟨_,rfl⟩, .inr ⟨_,trivial,g⟩⟩}
end
end Go.Proofs.YtbcbefpninlfiaaGreatDoor
