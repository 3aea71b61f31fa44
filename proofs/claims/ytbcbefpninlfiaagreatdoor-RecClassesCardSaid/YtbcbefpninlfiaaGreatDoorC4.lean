import Derived.Test.YtbcbefpninlfiaaGreatDoorChecked
import Derived.Test.YtbcbefpninlfiaaGreatDoorC3
import Derived.Stop.Asserts
import Derived.RowKitTokens
import Derived.Test.YtbcbefpninlfiaaGreatDoorC2
set_option maxHeartbeats 64000000
set_option maxRecDepth 100000
set_option linter.all false
open Go renaming Calls->aJ,TypeId->bR,Value->ar,World->ai
open Go.Extern.ReflectliteType renaming typeOf->jH
open Go.Proofs.Tryz renaming prog->ah
open Go.Value renaming agg->Rj,bool->Ri,int->I,pointer->Ru,string->U,tuple->Rx,int->bd
open Option renaming map_eq_some_iff->fM,none->N,some->O
open Go.Instr renaming typeAssert->kF
open Go.Ending renaming returned->Rh
open Go.Obj renaming cells->Ra
open Go.RowKit renaming Below->ay
open Go.IntKind renaming i64->J
open Go.World renaming cell?->fV,cell?_alloc_lt->fu,cell?_of_block->fv,frozen?_alloc_old->jy
open Int renaming eq_ofNat_of_zero_le->jt
open Ne renaming symm->k_
open Go.Region renaming noSelect->jW,ready->dG,wanted->bB
open Go.Code renaming region->iO
open Go.Result renaming andThen->dR
namespace Mor
def dy(s:ByteArray):List UInt8:=az s.size++s.data.toList
def Dy(b:Bool):Int:=if b then 1 else 0
def dZ(f:iF):List UInt8:=dy f.name++(az f.k++(az f.o++az (Dy f.ix)))
def eA(c:pd):List UInt8:=dy c.name++(az c.fs.length++c.fs.flatMap dZ)
theorem aN(n:Int):(az n).length<=10:=by rw[az,jM];exact qJ _
theorem cZ(s:ByteArray):(dy s).length<=10+s.size:=by have:=aN s.size;simp[dy];omega
theorem ff{s:ByteArray}(h:dn s=true):s.size<=20:=by simp[dn,qO]at h;omega
theorem qE{f:iF}(h:ic f=true):(dZ f).length<=60:=by have h1:=cZ f.name;have h2:=aN f.k;have h3:=aN f.o;have h4:=aN (Dy f.ix);have a:f.name.size<=20:=ff (by simp[ic]at h;exact h.1);simp[dZ];omega
theorem gU{α:Type}(g:α ->List UInt8)(m:Nat):∀(l:List α),(∀x∈l,(g x).length<=m) ->(l.flatMap g).length<=m*l.length
 | [],_=>by simp
 |x::l,h=>by have:=gU g m l (fun y hy=>h y (cE _ hy));have h0:=h x (by simp);simp only[dB,aw,aS,Nat.mul_add,Nat.mul_one];omega
theorem oT{α:Type}(g:α ->List UInt8)(l:List α)(k:Nat)(x:α)(h:l[k]? =O x):(l.take (k+1)).flatMap g=(l.take k).flatMap g++g x:=by obtain⟨h1,rfl⟩:=aA.1 h;rw[dF h1,List.flatMap_append];simp
theorem pM{c:pd}(h:dI c=true):∀f∈c.fs,ic f=true:=by intro f hf;obtain⟨k,hk⟩:=List.mem_iff_getElem?.1 hf;simp only[dI,aK]at h;have:=ba.1 h.2.2 k (by simpa using(aA.1 hk).1);unfold FD at this;rw[hk]at this;simp only[aK]at this;exact this.1
theorem BE{f:iF}(h:ic f=true):1<=f.k/\f.k<=5/\0<=f.o/\f.o<=4:=by simp only[ic,gN,aK]at h;have:=h.2.1;split at this<;>simp at this<;>omega
section
structure Wk{α:Type}(c:α ->α ->Int):Prop where
 three:∀a b,c a b= -1\/c a b=0\/c a b=1
 AY:∀a b,c b a= -c a b
 tr:∀a b d,c a b<=0 ->c b d<=0 ->c a d<=0
section
variable {α β:Type} {c d:α ->α ->Int}
theorem Wk.self(h:Wk c)(a:α):c a a=0:=by have:=h.AY a a;omega
theorem Wk.even(h:Wk c){a b e:α}(h1:c a b<=0)(h2:c b e<=0)(h3:c a e=0):c a b=0/\c b e=0:=by have a1:=h.AY a e;have a2:=h.AY a b;have a3:=h.AY b e;have t1:=h.tr b e a h2 (by omega);have t2:=h.tr e a b (by omega) h1;omega
theorem Wk.Pa(h:Wk c){a b e:α}(h1:c a b<0)(h2:c b e<=0):c a e<0:=by have t:=h.tr a b e (by omega) h2;have:=h.even (a:=a) (b:=b) (e:=e) (by omega) h2;omega
theorem Wk.rS(h:Wk c)(f:β ->α):Wk (fun x y=>c (f x) (f y)):=⟨fun _ _=>h.three _ _,fun _ _=>h.AY _ _,fun _ _ _=>h.tr _ _ _⟩
def kp(c d:α ->α ->Int)(a b:α):Int:=if c a b≠0 then c a b else d a b
theorem Wk.kp(h:Wk c)(k:Wk d):Wk (kp c d):=by refine⟨fun a b=> ?_,fun a b=> ?_,fun a b e h1 h2=> ?_⟩;{unfold Mor.kp;split;{exact h.three _ _};{exact k.three _ _}};{unfold Mor.kp;have:=h.AY a b;have:=k.AY a b;by_cases x:c a b=0;{rw[if_neg (by omega),if_neg (by omega)];assumption};{rw[if_pos (by omega),if_pos (by omega)];assumption}};{unfold Mor.kp at*;have q1:c a b<=0:=(by split at h1<;>omega);have q2:c b e<=0:=(by split at h2<;>omega);have q3:=h.tr _ _ _ q1 q2;split;{exact q3};{rename_i x;obtain⟨e1,e2⟩:=h.even q1 q2 (by omega);rw[if_neg (by omega)]at h1 h2;exact k.tr _ _ _ h1 h2}}
theorem n7{a b:α}:kp c d a b=0<->c a b=0/\d a b=0:=by unfold kp;split<;>omega
def jU(c:α ->α ->Int):List α ->List α ->Int
 | [],[]=>0
 | [],_::_=> -1
 |_::_,[]=>1
 |a::l,b::r=>if c a b≠0 then c a b else jU c l r
theorem xg(h:Wk c):∀l r,jU c l r= -1\/jU c l r=0\/jU c l r=1
 | [],[]=>by simp[jU]
 | [],_::_=>by simp[jU]
 |_::_,[]=>by simp[jU]
 |a::l,b::r=>by rw[jU];split;{exact h.three _ _};{exact xg h l r}
theorem yF(h:Wk c):∀l r,jU c r l= -jU c l r
 | [],[]=>by simp[jU]
 | [],_::_=>by simp[jU]
 |_::_,[]=>by simp[jU]
 |a::l,b::r=>by rw[jU,jU];have:=h.AY a b;have d:=yF h l r;by_cases x:c a b=0;{rw[if_neg (by omega),if_neg (by omega)];exact d};{rw[if_pos (by omega),if_pos (by omega)];exact this}
theorem Fv(h:Wk c):∀l m r,jU c l m<=0 ->jU c m r<=0 ->jU c l r<=0
 | [],_,[],_,_=>by simp[jU]
 | [],_,_::_,_,_=>by simp[jU]
 |_::_,[],_,h1,_=>by simp[jU]at h1
 |_::_,_::_,[],_,h2=>by simp[jU]at h2
 |a::l,b::m,e::r,h1,h2=>by
  rw[jU]at*;have q1:c a b<=0:=by split at h1<;>omega
  have q2:c b e<=0:=by split at h2<;>omega
  have q3:=h.tr _ _ _ q1 q2;split;{exact q3};{rename_i x;obtain⟨e1,e2⟩:=h.even q1 q2 (by omega);rw[if_neg (by omega)]at h1 h2;exact Fv h l m r h1 h2}
theorem Wk.jU(h:Wk c):Wk (jU c):=⟨xg h,yF h,Fv h⟩
theorem yG(h:∀a b,c a b=0<->a=b):∀l r,Mor.jU c l r=0<->l=r
 | [],[]=>by simp[Mor.jU]
 | [],_::_=>by simp[Mor.jU]
 |_::_,[]=>by simp[Mor.jU]
 |a::l,b::r=>by have e:=yG h l r;have d:=h a b;rw[Mor.jU,List.cons.injEq];split<;>simp_all
end
theorem pX:Wk eg:=⟨fun a b=>by unfold eg;split<;>(try split)<;>simp,fun a b=>by unfold eg;split<;>(try split)<;>(try split)<;>(try split)<;>omega,fun a b d=>by
 unfold eg;intro h1 h2;have q1:a<=b:=by split at h1<;>(try split at h1)<;>omega
 have q2:b<=d:=by split at h2<;>(try split at h2)<;>omega
 by_cases x:a<d;{rw[if_pos x];omega}
 · rw[if_neg x,if_neg (by omega)];omega⟩
def J4(a b:UInt8):Int:=eg a.toNat b.toNat
theorem MR:Wk J4:=pX.rS fun a:UInt8=>(a.toNat:Int)
theorem Ml(a b:UInt8):J4 a b=if a<b then -1 else if b<a then 1 else 0:=by unfold J4 eg;simp only[UInt8.lt_iff_toNat_lt,Int.ofNat_lt]
theorem Cf:∀l r,iS l r=jU J4 l r
 | [],[]=>rfl
 | [],_::_=>rfl
 |_::_,[]=>rfl
 |a::l,b::r=>by rw[iS,jU,Cf l r,Ml];by_cases h1:a<b;{simp[h1]};{by_cases h2:b<a;{simp[h1,h2]};{simp[h1,h2]}}
theorem F6:Wk iS:=by have:=MR.jU;rwa[show jU J4=iS from funext fun l=>funext fun r=>(Cf l r).symm]at this
theorem yt:sT=kp (fun p q=>eg p.k q.k) (kp (fun p q=>eg p.n q.n) (fun p q=>iS p.s.data.toList q.s.data.toList)):=rfl
theorem MP:Wk sT:=by rw[yt];exact(pX.rS Pv.k).kp ((pX.rS Pv.n).kp (F6.rS fun p:Pv=>p.s.data.toList))
theorem bytes_inj{a b:ByteArray}(h:a.data.toList=b.data.toList):a=b:=by cases a;cases b;simp only[ByteArray.mk.injEq];exact Array.toList_inj.1 h
theorem Gu(p q:Pv):sT p q=0<->p=q:=by rw[yt,n7,n7];constructor;{rintro⟨h1,h2,h3⟩;cases p;cases q;simp only[Pv.mk.injEq];exact⟨ji.1 h1,ji.1 h2,bytes_inj (rD.1 h3)⟩};{rintro rfl;exact⟨nw _,nw _,rC _⟩}
theorem wH:∀l r,cmpL l r=jU sT l r
 | [],[]=>rfl
 | [],_::_=>rfl
 |_::_,[]=>rfl
 |a::l,b::r=>by rw[cmpL,jU,wH l r]
theorem MO:Wk cmpL:=by have:=MP.jU;rwa[show jU sT=cmpL from funext fun l=>funext fun r=>(wH l r).symm]at this
theorem Gy:Gx=kp (kp (fun p q=>eg p.k q.k) (kp (fun p q=>eg p.n q.n) (fun p q=>iS p.s.data.toList q.s.data.toList))) (fun p q=>cmpL p.l q.l):=rfl
theorem Gz(p q:Vl):Gx p q=0<->p=q:=by rw[Gy,n7,n7,n7];constructor;{rintro⟨⟨h1,h2,h3⟩,h4⟩;cases p;cases q;simp only[Vl.mk.injEq];refine⟨ji.1 h1,ji.1 h2,bytes_inj (rD.1 h3), ?_⟩;rw[wH]at h4;exact(yG Gu _ _).1 h4};{rintro rfl;exact⟨⟨nw _,nw _,rC _⟩,MO.self _⟩}
abbrev Pr:=Vl×Int
end
end Mor
namespace Go.Proofs.YtbcbefpninlfiaaGreatDoor
open Go.Proofs.Tryz
section
open Go.RowKit Go.Extern.Stop Go.Stop Go.Extern
theorem BQ(v:ar)(w:ai):(jH #[.iface 371 v]).run ah w=.ok (.iface 263 (Rj #[Ru (O ⟨8,371,N⟩)])) w:=by kernel_rfl
def DC:Array ar ->Sem ar:=Extern.ReflectliteType.method fun t=>do Extern.Rtype.noPackHeld "Comparable" t;pure (Ri (<-typeInfo t).comparable)
theorem ti(w:ai):(DC #[Rj #[Ru (O ⟨8,371,N⟩)]]).run ah w=.ok (Ri true) w:=by kernel_rfl
theorem nV(v:ar)(w:ai):(Go.method 501 263 v "Comparable").run ah w=.ok (311,v) w:=by kernel_rfl
theorem JH:(Tryz.prog.info? 371).map (·.comparable)=O true:=by kernel_rfl
theorem JJ:(Tryz.prog.info? 389).map (·.size)=O 1:=by kernel_rfl
theorem Pg(v:ar)(a:bR)(w:ai):(kF (.iface 371 v) a 265 true).run ah w=.ok (Rx #[.nilIface,Ri false]) w:=run_typeAssert_lacksB underlying265 (by kernel_rfl) (by kernel_rfl) v a w
theorem G_(v:ar)(a:bR)(w:ai):(kF (.iface 371 v) a 267 true).run ah w=.ok (Rx #[.nilIface,Ri false]) w:=run_typeAssert_lacksB underlying267 (by kernel_rfl) (by kernel_rfl) v a w
theorem Em(v:ar)(a:bR)(w:ai):(kF (.iface 371 v) a 269 true).run ah w=.ok (Rx #[.nilIface,Ri false]) w:=run_typeAssert_lacksB underlying269 (by kernel_rfl) (by kernel_rfl) v a w
theorem Fp(a:Addr)(w:ai):aJ ah 120 #[l_ a,l_ a] w fun e w'=>e=Rh (Ri true)/\w=w':=by obtain⟨i,hi,b⟩:=fM.1 JH;obtain⟨j,d,f⟩:=fM.1 JJ;have h:= @run_callFunc_extern ah 158 _ jH func158 (by kernel_rfl) (by kernel_rfl) (by kernel_rfl) (by kernel_rfl);have c:= @run_callFunc_extern ah 311 _ DC func311 (by kernel_rfl) (by kernel_rfl) (by kernel_rfl) (by kernel_rfl);have l:=BQ;have g:=ti;have k:=nV;have heq:=run_eql_iface_ptr_same (P:=ah) w a underlying95 underlying371 hi b d;go_in;go_wp2;refine wp_loop_rounds 1 ?_;rw[rounds_succ];go_wp2;go_ret;exact⟨rfl,rfl⟩
theorem NQ(b:Addr)(w:ai):aJ ah 120 #[.nilIface,l_ b] w fun e w'=>e=Rh (Ri false)/\w=w':=by have hn:=run_eql_iface_nil_left (P:=ah) w 371 (Ru (O b)) underlying95;go_in;go_wp2;go_ret;exact⟨rfl,rfl⟩
theorem JK(a b:Addr)(ca f:Array ar)(ta tb:bR)(w:ai)(hne:a≠b)(ha:w.heap[a.block]? =O (Ra ca ta (0,0)))(hb:w.heap[b.block]? =O (Ra f tb (0,0))):aJ ah 120 #[l_ a,l_ b] w fun e w'=>e=Rh (Ri false)/\w=w':=by obtain⟨i,hi,c⟩:=fM.1 JH;obtain⟨j,h,d⟩:=fM.1 JJ;have l:= @run_callFunc_extern ah 158 _ jH func158 (by kernel_rfl) (by kernel_rfl) (by kernel_rfl) (by kernel_rfl);have g:= @run_callFunc_extern ah 311 _ DC func311 (by kernel_rfl) (by kernel_rfl) (by kernel_rfl) (by kernel_rfl);have o:=BQ;have k:=ti;have m:=nV;have n:=Pg;have p:=G_;have q:=Em;have heq:=run_eql_iface_ptr_other (P:=ah) w underlying95 underlying371 hi c h (by rw[d];decide) hne ha hb;go_in;go_wp2;refine wp_loop_rounds 1 ?_;rw[rounds_succ];go_wp2;go_ret;exact⟨rfl,rfl⟩
structure fW(aE aF:Addr)(w:ai):Prop where
 e:w.cell? ⟨0,0,N⟩=O (l_ aE)
 f:w.cell? ⟨1,0,N⟩=O (l_ aF)
 ne:aE≠aF
 he:∃c t,w.heap[aE.block]? =O (Ra c t (0,0))
 hf:∃c t,w.heap[aF.block]? =O (Ra c t (0,0))
 sz:1<w.heap.size
theorem zj(aE aF:Addr)(w:ai)(h:fW aE aF w):aJ ah 70 #[.nilIface] w fun e w'=>e=Rh (Ri false)/\w=w':=by have h1:=h.e;have h2:=h.f;go_in;go_wp2_with(go_at_call 120;refine(NQ _ _).mono ?_;rintro e w'⟨rfl,rfl⟩);go_ret;exact⟨rfl,rfl⟩
theorem F7(aE aF:Addr)(w:ai)(h:fW aE aF w):aJ ah 70 #[l_ aE] w fun e w'=>e=Rh (Ri true)/\w=w':=by have h1:=h.e;have h2:=h.f;go_in;go_wp2_with(go_at_call 120;refine(Fp _ _).mono ?_;rintro e w'⟨rfl,rfl⟩);go_ret;exact⟨rfl,rfl⟩
theorem F8(aE aF:Addr)(w:ai)(h:fW aE aF w):aJ ah 70 #[l_ aF] w fun e w'=>e=Rh (Ri true)/\w=w':=by have h1:=h.e;have h2:=h.f;obtain⟨c1,t1,hb1⟩:=h.he;obtain⟨c2,t2,hb2⟩:=h.hf;have a:=M h.ne.symm;go_in;go_wp2_with{};refine(JK aF aE c2 c1 t2 t1 _ a.out hb2 hb1).mono ?_;rintro e w'⟨rfl,rfl⟩;go_wp2_with{};refine(Fp _ _).mono ?_;rintro e w'⟨rfl,rfl⟩;go_wp2;go_ret;exact⟨rfl,rfl⟩
end
section
open Go.RowKit Go.Shelf Mor
theorem lt_of_block{w:ai}{b:Nat}{o:Obj}(h:w.heap[b]? =O o):b<w.heap.size:=(bP.1 h).1
theorem fW.below{aE aF:Addr}{w w':ai}(h:fW aE aF w){B:Nat}(hB:ay B w w')(hs:w.heap.size<=B):fW aE aF w':=by obtain⟨c1,t1,h1⟩:=h.he;obtain⟨c2,t2,h2⟩:=h.hf;have l1:=lt_of_block h1;have l2:=lt_of_block h2;have:=h.sz;exact⟨(hB.cell (p:=⟨0,0,N⟩) (by simp;omega)).trans h.e,(hB.cell (p:=⟨1,0,N⟩) (by simp;omega)).trans h.f,h.ne,⟨c1,t1,(hB.block _ (by omega)).trans h1⟩,⟨c2,t2,(hB.block _ (by omega)).trans h2⟩,cJ h.sz hB.size⟩
def valOf(m sg:Nat):Int:=if sg=1 then wrap64 (-1 -wrap64 m)else wrap64 m
structure Reader(s:ByteArray)(p:Int)(b:Nat)(w:ai):Prop where
 aR:w.heap[b]? =O (Ra #[U s,I J p] 140 (0,0))
theorem Reader.lt{s:ByteArray}{p:Int}{b:Nat}{w:ai}(h:Reader s p b w):b<w.heap.size:=lt_of_block h.aR
theorem Reader.c0{s:ByteArray}{p:Int}{b:Nat}{w:ai}(h:Reader s p b w):w.cell? ⟨b,0,N⟩=O (U s):=by simp[fV,h.aR]
theorem Reader.c1{s:ByteArray}{p:Int}{b:Nat}{w:ai}(h:Reader s p b w):w.cell? ⟨b,1,N⟩=O (I J p):=by simp[fV,h.aR]
theorem Reader.f1{s:ByteArray}{p:Int}{b:Nat}{w:ai}(h:Reader s p b w):w.frozen? ⟨b,1,N⟩=false:=by simp[World.frozen?,h.aR]
theorem Reader.new(s:ByteArray)(p:Int)(w:ai):Reader s p w.heap.size (w.alloc (Ra #[U s,I J p] 140)):=⟨dW w _⟩
theorem Reader.set{s:ByteArray}{p:Int}{b:Nat}{w:ai}(h:Reader s p b w)(q:Int):Reader s q b (w.setCell ⟨b,1,N⟩ (I J q)):=
 ⟨heap_setCell_same w b 1 _ _ _ h.aR⟩
theorem Reader.below{s:ByteArray}{p:Int}{b:Nat}{w w':ai}(h:Reader s p b w){B:Nat}(hB:ay B w w')(hb:b<B):Reader s p b w':=⟨(hB.block b hb).trans h.aR⟩
theorem xk(s:ByteArray)(hs:s.size<=281474976710656)(p:Int)(b:Nat)(aE aF:Addr)(w:ai)(hr:Reader s p b w)(he:fW aE aF w)(h:∀m sg size,iR s p≠.num m sg size):aJ ah 69 #[Ru (O ⟨b,0,N⟩)] w fun e w'=>(e=Rh (Rx #[I J 0,l_ aE])\/e=Rh (Rx #[I J 0,l_ aF]))/\ay w.heap.size w w':=by
 by_cases a:hasB s p 1=true
 · have hp:0<=p/\p<=s.size/\1<=s.size -p:=(by simpa[hasB]using a);obtain⟨n,rfl⟩:=jt hp.1;have c:=u_ s hs n b aE aF w hr.lt he.sz hr.c0 hr.c1 hr.f1 he.e he.f (by omega);rw[iR,Rs hp,dS]at h;cases hsc:scan (s.data.toList.drop n) 0 0 0 with
   |ends=>rw[hsc]at c;exact c.mono fun e w'⟨h1,h2⟩=>⟨.inl h1,h2⟩
   |form=>rw[hsc]at c;exact c.mono fun e w'⟨h1,h2⟩=>⟨.inr h1,h2⟩
   |num m sg size=>exact absurd hsc (h m sg size)
 {have d:=he.sz;exact(Cb s hs p b aE w hr.lt (by omega) hr.c0 hr.c1 he.e (by simpa using a)).mono fun e w'⟨h1,h2⟩=>⟨.inl h1,h2⟩}
theorem uz(s:ByteArray)(hs:s.size<=281474976710656)(p:Int)(b:Nat)(aE aF:Addr)(w:ai)(hr:Reader s p b w)(he:fW aE aF w)(m sg size:Nat)(h:iR s p=.num m sg size):aJ ah 69 #[Ru (O ⟨b,0,N⟩)] w fun e w'=>e=Rh (Rx #[I J (valOf m sg), .nilIface])/\ay w.heap.size (w.setCell ⟨b,1,N⟩ (I J (p+size))) w':=by rw[iR]at h;split at h;{rename_i hp;obtain⟨n,rfl⟩:=jt hp.1;have c:=u_ s hs n b aE aF w hr.lt he.sz hr.c0 hr.c1 hr.f1 he.e he.f (by omega);rw[dS]at h;rw[h]at c;exact c.mono fun e w'⟨h1,h2⟩=>⟨h1,by rw[Int.natCast_add]at h2;exact h2⟩};{cases h}
theorem vq(s:ByteArray)(hs:s.size<=281474976710656)(p:Int)(aE aF:Addr)(w:ai)(he:fW aE aF w)(h:∀m sg size,iR s p≠.num m sg size):aJ ah 36 #[U s,I J p] w fun e w'=>e=Rh (Rx #[I J 0,I J 0,I J 10])/\ay w.heap.size w w':=by have H:=M h;have hB0:ay w.heap.size w (w.alloc (Ra #[U s,I J p] 140)):=(ax _ w).alloc (av _) _;have a:=M (he.below hB0 (av _));have c:=Reader.new s p w;clear h;go_in;go_wp2_with{};refine(xk s hs p _ aE aF _ c a.out H.out).mono ?_;rintro e d⟨rfl|rfl,hb⟩;{have b:=M (a.out.below hb (av _));go_wp2_with{};refine(F7 aE aF _ b.out).mono ?_;rintro e w'⟨rfl,rfl⟩;go_wp2;go_ret3;exact⟨rfl,hB0.trans (hb.mono (by simp))⟩};{have b:=M (a.out.below hb (av _));go_wp2_with{};refine(F8 aE aF _ b.out).mono ?_;rintro e w'⟨rfl,rfl⟩;go_wp2;go_ret3;exact⟨rfl,hB0.trans (hb.mono (by simp))⟩}
theorem xv(s:ByteArray)(hs:s.size<=281474976710656)(p:Int)(aE aF:Addr)(w:ai)(he:fW aE aF w)(m sg size:Nat)(h:iR s p=.num m sg size):aJ ah 36 #[U s,I J p] w fun e w'=>e=Rh (Rx #[I J (valOf m sg),I J (p+size),I J 0])/\ay w.heap.size w w':=by
 have H:=M h;have hB0:ay w.heap.size w (w.alloc (Ra #[U s,I J p] 140)):=(ax _ w).alloc (av _) _;have b:=M (he.below hB0 (av _));have a:=Reader.new s p w;clear h;go_in;go_wp2_with{};refine(uz s hs p _ aE aF _ a b.out m sg size H.out).mono ?_;rintro e f⟨rfl,hb⟩;have hB1:ay w.heap.size w f:=(hB0.setCell (p:=⟨w.heap.size,1,N⟩) (av _) (I J (p+size))).trans (hb.mono (by simp));have c:=M (he.below hB1 (av _));have d:=(a.set (p+size)).below hb (by simp);have g:=d.c1;clear a hb;go_wp2_with{};refine(zj aE aF _ c.out).mono ?_;rintro e w'⟨rfl,rfl⟩;go_wp2;refine fY (by kernel_rfl) (by kernel_rfl) ?_;repeat still_step
 refine wpStill_nil ?_;go_wp2;go_ret3;exact⟨rfl,hB1.drew⟩
end
section
open Go.RowKit Go.Shelf Mor
theorem nS{w w':ai}{a:Addr}{v:ar}(h:ay w.heap.size (w.setCell a v) w') :w.grownBy w' (O a.block):=
 ⟨h.os,h.tape,h.output,by have:=h.size;simpa[World.setCell]using this,fun k hk hne=>(h.block k hk).trans (fg _ _ _ _ (fun e=>hne (by rw[e])))⟩
theorem qG{w w':ai}{r:Option Nat}(h:ay w.heap.size w w') :w.grownBy w' r:=⟨h.os,h.tape,h.output,h.size,fun k hk _=>h.block k hk⟩
theorem z_{a b c:ai}{r:Option Nat}(h:a.grownBy b r)(k:b.grownBy c r):a.grownBy c r:=
 ⟨k.os.trans h.os,k.tape.trans h.tape,k.output.trans h.output,bc h.size k.size,fun i hi hne=>(k.block i (cJ hi h.size) hne).trans (h.block i hi hne)⟩
theorem lB{a b:ai}{r:Option Nat}(h:a.grownBy b r):a.grownBy b.drew r:=⟨h.os,h.tape,h.output,h.size,h.block⟩
theorem fW.grown{aE aF:Addr}{w w':ai}{b:Nat}(h:fW aE aF w)(hg:w.grownBy w' (O b))(h0:b≠0)(h1:b≠1)(h2:b≠aE.block)(h3:b≠aF.block):fW aE aF w':=by
 obtain⟨c1,t1,q1⟩:=h.he;obtain⟨c2,t2,q2⟩:=h.hf;have:=h.sz
 exact⟨(fv (w:=w) (hg.block 0 (by omega) (by simpa using k_ h0))).trans h.e,(fv (w:=w) (hg.block 1 (by omega) (by simpa using k_ h1))).trans h.f,h.ne,
  ⟨c1,t1,(hg.block _ (lt_of_block q1) (by simpa using k_ h2)).trans q1⟩,⟨c2,t2,(hg.block _ (lt_of_block q2) (by simpa using k_ h3)).trans q2⟩,cJ h.sz hg.size⟩
theorem xM(s:ByteArray)(hs:s.size<=281474976710656)(p:Int)(b:Nat)(aE aF:Addr)(w:ai)(hr:Reader s p b w)(he:fW aE aF w)(h:∀m sg size,iR s p≠.num m sg size):aJ ah 183 #[Ru (O ⟨b,0,N⟩)] w fun e w'=>(e=Rh (Rx #[U ⟨#[]⟩,l_ aE])\/e=Rh (Rx #[U ⟨#[]⟩,l_ aF]))/\w.grownBy w' (O b):=by have H:=M h;clear h;go_in;go_wp2_with{};refine(xk s hs p b aE aF w hr he H.out).mono ?_;rintro e a⟨rfl|rfl,hb⟩;{go_wp2;go_ret2;exact⟨.inl A,qG hb⟩};{go_wp2;go_ret2;exact⟨.inr A,qG hb⟩}
theorem ID(s:ByteArray)(hs:s.size<=281474976710656)(p:Int)(b:Nat)(aE aF:Addr)(w:ai)(hr:Reader s p b w)(he:fW aE aF w)(m sg size:Nat)(h:iR s p=.num m sg size)(j:b≠0)(hb1:b≠1)(d:¬(0<=valOf m sg/\valOf m sg<=10000/\hasB s (p+size) (valOf m sg)=true)):aJ ah 183 #[Ru (O ⟨b,0,N⟩)] w fun e w'=>(e=Rh (Rx #[U ⟨#[]⟩,l_ aE])\/e=Rh (Rx #[U ⟨#[]⟩,l_ aF]))/\w.grownBy w' (O b):=by
 have H:=M h;have l:=M d;clear h d;go_in;go_wp2_with{};refine(uz s hs p b aE aF w hr he m sg size H.out).mono ?_;rintro e k⟨rfl,hb⟩;have c:=nS hb;have g:=(hr.set (p+size)).below hb hr.lt;have r:=he.sz;have g0:=(fv (w:=w) (w':=k) (a:=⟨0,0,N⟩) (c.block 0 (by omega) (by simpa using k_ j))).trans he.e;have g1:=(fv (w:=w) (w':=k) (a:=⟨1,0,N⟩) (c.block 1 (by omega) (by simpa using k_ hb1))).trans he.f;have u:=g.c0;have x:=g.c1;have i:=M c;clear hb c;generalize valOf m sg=n at*;by_cases o:n<0;{go_wp2;refine fY (by kernel_rfl) (by kernel_rfl) ?_;(repeat still_step);refine wpStill_nil ?_;go_wp2;go_ret2;exact⟨.inr A,lB i.out⟩}
 · by_cases q:10000<n;{go_wp2;refine fY (by kernel_rfl) (by kernel_rfl) ?_;(repeat still_step);refine wpStill_nil ?_;go_wp2;go_ret2;exact⟨.inr A,lB i.out⟩}
   · have t:hasB s (p+size) n=false:=by
      cases hx:hasB s (p+size) n with
      |false=>rfl
      |true=>exact absurd ⟨by omega,by omega,hx⟩ l.out
     go_wp2;refine fY (by kernel_rfl) (by kernel_rfl) ?_;(repeat first|still_step|still_call (rr _ _ _ _ hs));refine wpStill_nil ?_;go_wp2;refine fY (by kernel_rfl) (by kernel_rfl) ?_;(repeat still_step);refine wpStill_nil ?_;go_wp2;go_ret2;exact⟨.inl A,lB (lB i.out)⟩
theorem KP(s:ByteArray)(hs:s.size<=281474976710656)(p:Nat)(b:Nat)(aE aF:Addr)(w:ai)(hr:Reader s (p:Int) b w)(he:fW aE aF w)(m sg size n:Nat)(h:iR s p=.num m sg size)(hn:valOf m sg=n)(y:n<=10000)(k:hasB s (p+size) n=true):aJ ah 183 #[Ru (O ⟨b,0,N⟩)] w fun e w'=>e=Rh (Rx #[U (s.extract (p+size) (p+size+n)), .nilIface])/\w.grownBy w' (O b)/\Reader s ((p+size+n:Nat):Int) b w':=by
 have H:=M h;have x:=M hn;have i:p+size+n<=s.size:=by{have:0<=(p:Int)+size/\(p:Int)+size<=s.size/\(n:Int)<=s.size - (p+size):=(by simpa[hasB]using k);omega};obtain⟨q,hq⟩:∃q:Nat,q=p+size:=⟨_,rfl⟩;have e1:=M (show(p:Int)+(size:Int)=(q:Int) by omega);rw[e1.out]at k;rw[<-hq]at i⊢;clear h hn hq;go_in;go_wp2_with{};refine(uz s hs p b aE aF w hr he m sg size H.out).mono ?_;rintro e B⟨rfl,hb⟩;have d:=nS hb;have a:=(hr.set (p+size)).below hb hr.lt;rw[x.out];rw[e1.out]at a;have C:=a.c0;have D:=a.c1;have E:=a.f1;have u:=M d;clear hb d;go_wp2;refine fY (by kernel_rfl) (by kernel_rfl) ?_;repeat first|still_step|still_call (rr _ _ _ _ hs)
 refine wpStill_nil ?_;obtain⟨r,f⟩:∃r:Nat,r=q+n:=⟨_,rfl⟩;have g:=M f;have z:(q:Int)+(n:Int)=(r:Int):=by omega
 have o:IntKind.i64.wrap ((r:Int) - (n:Int))=(q:Int):=by rw[bo _ (by omega)];omega
 have l:q<=r:=by omega
 have t:r<=s.size:=by omega
 clear f;have c:=a.set (r:Int);have F:=c.c0;have l1:=c.c1;go_wp2;refine fY (by kernel_rfl) (by kernel_rfl) ?_;repeat still_step
 refine wpStill_nil ?_;go_wp2;go_ret2;have j:=z_ u.out (g_ B ⟨b,1,N⟩ (I J (r:Int)));rw[<-g.out];exact⟨rfl,lB (lB j),⟨heap_drew (heap_drew c.aR)⟩⟩
def iM(s:ByteArray)(p:Int):Option (ByteArray×Nat):=match iR s p with
 | .num m sg size=>if 0<=valOf m sg/\valOf m sg<=10000/\hasB s (p+size) (valOf m sg)=true then O (s.extract (p.toNat+size) (p.toNat+size+(valOf m sg).toNat),p.toNat+size+(valOf m sg).toNat)else N
 |_=>N
theorem IC(s:ByteArray)(hs:s.size<=281474976710656)(p:Int)(b:Nat)(aE aF:Addr)(w:ai)(hr:Reader s p b w)(he:fW aE aF w)(h:iM s p=N)(a:b≠0)(hb1:b≠1):aJ ah 183 #[Ru (O ⟨b,0,N⟩)] w fun e w'=>(e=Rh (Rx #[U ⟨#[]⟩,l_ aE])\/e=Rh (Rx #[U ⟨#[]⟩,l_ aF]))/\w.grownBy w' (O b):=by
 cases hn:iR s p with
 |ends=>exact xM s hs p b aE aF w hr he (by rw[hn];intro _ _ _ e;cases e)
 |form=>exact xM s hs p b aE aF w hr he (by rw[hn];intro _ _ _ e;cases e)
 |num m sg size=>refine ID s hs p b aE aF w hr he m sg size hn a hb1 (fun c=> ?_);rw[iM,hn]at h;simp only[c,and_self,if_true]at h;cases h
theorem tC(s:ByteArray)(hs:s.size<=281474976710656)(p:Int)(aE aF:Addr)(w:ai)(he:fW aE aF w)(h:iM s p=N):aJ ah 146 #[U s,I J p] w fun e w'=>e=Rh (Rx #[U ⟨#[]⟩,I J 0,I J 10])/\ay w.heap.size w w':=by have H:=M h;have hB0:ay w.heap.size w (w.alloc (Ra #[U s,I J p] 140)):=(ax _ w).alloc (av _) _;have b:=M (he.below hB0 (av _));have d:=Reader.new s p w;have f:=he.sz;clear h;go_in;go_wp2_with{};refine(IC s hs p _ aE aF _ d b.out H.out (by omega) (by omega)).mono ?_;rintro e g⟨c,hg⟩;have hB1:ay w.heap.size w g:=hB0.grown hg (by simp) (fun k e=>by cases e;exact av _);have a:=M (he.below hB1 (av _));clear hg;rcases c with rfl|rfl;{go_wp2_with{};refine(F7 aE aF _ a.out).mono ?_;rintro e w'⟨rfl,rfl⟩;go_wp2;go_ret3;exact⟨rfl,hB1⟩};{go_wp2_with{};refine(F8 aE aF _ a.out).mono ?_;rintro e w'⟨rfl,rfl⟩;go_wp2;go_ret3;exact⟨rfl,hB1⟩}
theorem vt(s:ByteArray)(hs:s.size<=281474976710656)(p:Int)(aE aF:Addr)(w:ai)(he:fW aE aF w)(t:ByteArray)(q:Nat)(h:iM s p=O (t,q)):aJ ah 146 #[U s,I J p] w fun e w'=>e=Rh (Rx #[U t,I J (q:Int),I J 0])/\ay w.heap.size w w':=by
 have hB0:ay w.heap.size w (w.alloc (Ra #[U s,I J p] 140)):=(ax _ w).alloc (av _) _;have b:=M (he.below hB0 (av _));have a:=Reader.new s p w;have g:=he.sz;have hw:aJ ah 183 #[Ru (O ⟨w.heap.size,0,N⟩)] (w.alloc (Ra #[U s,I J p] 140)) fun e w'=>e=Rh (Rx #[U t, .nilIface])/\(w.alloc (Ra #[U s,I J p] 140)).grownBy w' (O w.heap.size)/\Reader s (q:Int) w.heap.size w':=by{rw[iM]at h;split at h;{rename_i m sg size hn;split at h;{rename_i hc;have hp:0<=p:=by{rw[iR]at hn;split at hn;{rename_i h1;exact h1.1};{cases hn}};obtain⟨n,rfl⟩:=jt hp;obtain⟨v,hv⟩:=jt hc.1;simp only[bu,cu,dS]at h;obtain⟨rfl,rfl⟩:=h;rw[hv]at hc⊢;exact KP s hs n _ aE aF _ a b.out m sg size v hn hv (by omega) hc.2.2};{cases h}};{cases h}};have f:=M hw;clear hw h;go_in;go_wp2_with{};refine f.out.mono ?_;rintro e i⟨rfl,hg,d⟩;have hB1:ay w.heap.size w i:=hB0.grown hg (by simp) (fun k e=>by cases e;exact av _);have c:=M (he.below hB1 (av _));have j:=d.c1;clear hg a;go_wp2_with{};refine(zj aE aF _ c.out).mono ?_;rintro e w'⟨rfl,rfl⟩;go_wp2;refine fY (by kernel_rfl) (by kernel_rfl) ?_;repeat still_step
 refine wpStill_nil ?_;go_wp2;go_ret3;exact⟨rfl,hB1.drew⟩
theorem pV(s:ByteArray)(h:s.size<=10000)(w:ai):aJ ah 182 #[U s] w fun e w'=>e=Rh (Rx #[U (⟨(az s.size).toArray⟩++s),I J 0])/\ay w.heap.size w w':=by
 have a:(az s.size).length<=10:=by rw[az,jM];exact qJ _
 have b:¬9223372036854775807<(az s.size).length+s.size:=by omega
 go_in;go_wp2_with(go_at_call 29;refine(fy _ (by omega) (by omega) _).mono ?_;rintro e w'⟨rfl,hb⟩);go_ret2;exact⟨rfl,hb⟩
end
section
open Go.RowKit Mor
def Nd(base:Nat)(l:List UInt8)(w:ai)(r:Option Nat)(e:Ending)(w':ai):Prop:=∃v,e=Rh v/\iw base v l w'/\w.grownBy w' r
theorem ch{a b c:ai}{r:Option Nat}(h:a.grownBy b r)(k:b.grownBy c r):a.grownBy c r:=
 ⟨k.os.trans h.os,k.tape.trans h.tape,k.output.trans h.output,bc h.size k.size,fun i hi hr=>(k.block i (cJ hi h.size) hr).trans (h.block i hi hr)⟩
theorem eu(l:List UInt8):(⟨l.toArray⟩:ByteArray).size=l.length:=by simp[ByteArray.size]
theorem fX(l:List UInt8):(⟨l.toArray⟩:ByteArray).data.toList=l:=by simp
theorem sI(l:List UInt8)(s:ByteArray):((⟨l.toArray⟩:ByteArray)++s).data.toList=l++s.data.toList:=by simp
theorem uW(base:Nat)(v:ar)(L:List UInt8)(s:ByteArray)(w:ai)(a:iw base v L w)(hs:s.size<=10000)(k:L.length<=1000000)(hb:base<=w.heap.size):aJ ah 169 #[v,U s] w (Nd base (L++dy s) w v.ownBlock):=by
 have h:=M (pV s hs w);have g:=M (sI (az s.size) s);have i:((⟨(az s.size).toArray⟩:ByteArray)++s).size<=10010:=by{have:=aN s.size;rw[fZ,eu];omega};have f:=M (show L++dy s=L++(az s.size++s.data.toList)from rfl);rw[f.out];generalize(⟨(az s.size).toArray⟩:ByteArray)++s=t at*;obtain⟨va,vc,rfl⟩:=a.slice;go_in;go_wp2_with{};refine h.out.mono ?_;rintro e l⟨rfl,b1⟩;have j:=a.below b1;have z1:=b1.size;have c:=M (c_ (r:=(Value.slice va L.length vc).ownBlock) b1);clear b1;go_wp2_with(at_builtin;refine dz A _ _ A base _ L A j t A ?c1 ?c2 ?_);case c1=>omega
 case c2=>omega
 intro v' m b g2;have d:=M (ch c.out g2);rw[g.out]at b;go_wp2_with{};go_ret;exact⟨v', rfl,b,d.out⟩
theorem Bp(c:pd)(v:ar)(w:ai)(hv:qp w v c)(hr:dI c=false):aJ ah 135 #[v] w fun e w'=>e=Rh (Rx #[U ⟨#[]⟩,I J 40])/\ay w.heap.size w w':=by have a:=M (fun(o:Obj)=>(ax w.heap.size w).alloc (av _) o);have b:=M (fun W(f:ay w.heap.size w W)=>mu c v W (hv.below f));rw[hr]at b;obtain⟨sl,rfl,d,hn⟩:=hv;obtain⟨sa,sc,rfl⟩:=cl.slice d;clear hr d;go_in;go_wp2_with{};refine(b.out _ (a.out _)).mono ?_;rintro e g⟨rfl,b1⟩;have B1:=M ((a.out _).trans (b1.mono (by simp)));clear b1;go_wp2_with{};go_ret2;exact⟨rfl,B1.out⟩
theorem DJ(c:pd)(v:ar)(w:ai)(hv:qp w v c)(hr:dI c=true):aJ ah 135 #[v] w fun e w'=>e=Rh (Rx #[U ⟨(eA c).toArray⟩,I J 0])/\ay w.heap.size w w':=by
 have HB:=M (fun(o:Obj)=>(ax w.heap.size w).alloc (av _) o);have HR:=M (fun W(hW:ay w.heap.size w W)=>mu c v W (hv.below hW));have HF:=M (pM hr);have h8:c.fs.length<=8:=by simp only[dI,aK,Rt]at hr;exact hr.2.1
 have bH:c.name.size<=20:=ff (by simp only[dI,aK]at hr;exact hr.1);rw[hr]at HR;obtain⟨sl,rfl,hl,hn⟩:=hv;have HL:=M hl;obtain⟨sa,sc,rfl⟩:=cl.slice hl;clear hr hl;go_in;go_wp2_with{};refine(HR.out _ (HB.out _)).mono ?_;rintro e g⟨rfl,b1⟩;have B1:=M ((HB.out _).trans (b1.mono (by simp)));have q0:g.cell? ⟨w.heap.size,0,N⟩=O (U c.name):=(b1.cell (p:=⟨w.heap.size,0,N⟩) (by simp)).trans (by rw[mh];rfl);have q1:g.cell? ⟨w.heap.size,1,N⟩=O (.slice sa c.fs.length sc):=(b1.cell (p:=⟨w.heap.size,1,N⟩) (by simp)).trans (by rw[mh];rfl);have z1:w.heap.size+1<=g.heap.size:=by have:=b1.size;simpa using this
 clear b1 HR;have bM:=fD q0;go_wp2_with{};refine(uW g.heap.size (.slice N 0 0) [] c.name g (xp _ _) (by omega) (by simp) (av _)).mono ?_;rintro e w2⟨v2,rfl,o2,g2⟩;have B2:=M (show ay g.heap.size g w2 from(ax _ g).grown g2 (av _) (fun k hk=>by cases hk));rw[bI]at o2;have t20:=cZ c.name;have p0:=aU q0 B2.out;have p1:=aU q1 B2.out;have z2:=B2.out.size;clear g2;go_wp2_with{};refine(fy c.fs.length (by omega) (by omega) _).mono ?_;rintro e w3⟨rfl,X⟩;have o3:=o2.below X;have r0:=aU p0 X;have r1:=aU p1 X;have z3:=X.size;have B3:=M (B2.out.trans (X.mono z2));clear X o2 p0 p1;obtain⟨va,vc,rfl⟩:=o3.slice;have n8:=aN c.fs.length;go_wp2_with(at_builtin;refine dz A _ _ A g.heap.size _ (dy c.name) A o3 ⟨(az c.fs.length).toArray⟩ A ?c1 ?c2 ?_);case c1=>rw[eu];omega
 case c2=>omega
 intro v4 w4 o4 g4;try rw[fX]at o4
 have Y:=M (B3.out.trans (dX o3 g4 (by omega)));have s0:=aU q0 Y.out;have s1:=aU q1 Y.out;have z4:=Y.out.size;clear o3 r0 r1 g4 B2 B3;go_wp2_with{};have bE:=M (cZ c.name);go_loopw [4,22] (fun v i wr=>∃k:Nat,k<=c.fs.length/\i=I J k/\iw g.heap.size v (dy c.name++az c.fs.length++(c.fs.take k).flatMap dZ) wr/\ay g.heap.size g wr) (fun _ i _=>c.fs.length - (intOf i).toNat);case atStart=>exact⟨0,by omega,rfl,by simpa using o4,Y.out⟩
 case round=>
  obtain⟨k,hk,rfl,ho,hB⟩:=hrel;have S:=M hB;have zr:=hB.size;clear s0 s1 o4 Y hB;have aX:(dy c.name++az c.fs.length++(c.fs.take k).flatMap dZ).length<=520:=by{have:=gU dZ 60 (c.fs.take k) (fun f hf=>qE (HF.out f (eE hf)));have h2:(c.fs.take k).length<=8:=(by rw[bL];omega);simp only[aw];omega};by_cases a6:k<c.fs.length
  · obtain⟨f,hf⟩:∃f,c.fs[k]? =O f:=⟨_,an a6⟩;have HS:=M (oT dZ c.fs k f hf);have y:=HF.out f (aP hf);have fb:=BE y;have ft:f.name.size<=20:=ff (by simp only[ic,aK]at y;exact y.1);have aT:=M (cZ f.name);obtain⟨b', o', ea,bN,f1,f2,f3,f4⟩:=lP (HL.out.below (B1.out.trans (S.out.mono (by omega)))) hf;subst ea;have i1:(0:Int)<=(k:Int):=(by omega);have i2:(k:Int)<(c.fs.length:Int):=(by omega);have ow:=ho.below (w':=wr.alloc (Ra #[U f.name,I J f.k,I J f.o,Ri f.ix] 131)) ((ax _ _).alloc (av _) _);have db:=cF wr (Ra #[U f.name,I J f.k,I J f.o,Ri f.ix] 131);have Bw:Hid (ay g.heap.size g (wr.alloc (Ra #[U f.name,I J f.k,I J f.o,Ri f.ix] 131))):=M (S.out.alloc (by omega) _);have zw:(wr.alloc (Ra #[U f.name,I J f.k,I J f.o,Ri f.ix] 131)).heap.size=wr.heap.size+1:=(by simp);have Zw:=M zw;clear zw hf y ho;obtain⟨LL,T⟩:∃LL,LL=dy c.name++az c.fs.length++(c.fs.take k).flatMap dZ:=⟨_,rfl⟩;rw[<-T]at ow aX;have aB:=M T;clear T;have zz:wr.heap.size+1<=(wr.alloc (Ra #[U f.name,I J f.k,I J f.o,Ri f.ix] 131)).heap.size:=(by simp);go_wp2_with{};refine(uW g.heap.size _ _ f.name _ ow (by omega) (by omega) (by omega)).mono ?_;rintro e G⟨b2,rfl,aC,r⟩;have b:=gx ow r db (by decide);have aL:=M (Bw.out.trans (dX ow r (by omega)));have ck:=r.size;clear r ow db;have cb:=aV b;have c0:G.cell? ⟨wr.heap.size,0,N⟩=O (U f.name):=(ag b 0).trans A;have c1:G.cell? ⟨wr.heap.size,1,N⟩=O (I J f.k):=(ag b 1).trans A;have c2:G.cell? ⟨wr.heap.size,2,N⟩=O (I J f.o):=(ag b 2).trans A;have c3:G.cell? ⟨wr.heap.size,3,N⟩=O (Ri f.ix):=(ag b 3).trans A;have bY:=aT.out;go_wp2_with{};refine(fy f.k (by omega) (by omega) _).mono ?_;rintro e cc⟨rfl,j⟩;have C:=iw.below aC j;have L:=bl b j;have ct:=j.size;have ad:=M (aL.out.trans (j.mono (by omega)));clear j aC b;have bT:=aN (f.k);go_wp2_with(at_builtin;refine dz A _ _ A g.heap.size _ _ A C ⟨(az (f.k)).toArray⟩ A ?_ ?_ ?_);{rw[eu];(try simp only[aw]);omega};{omega};intro b4 H V s;(try rw[fX]at V);have d:=gx C s L (by decide);have aM:=M (ad.out.trans (dX C s (by omega)));have cn:=s.size;clear C s L ad;clear c0 c1 c2 c3 cb;have cb:=aV d;have c0:H.cell? ⟨wr.heap.size,0,N⟩=O (U f.name):=(ag d 0).trans A;have c1:H.cell? ⟨wr.heap.size,1,N⟩=O (I J f.k):=(ag d 1).trans A;have c2:H.cell? ⟨wr.heap.size,2,N⟩=O (I J f.o):=(ag d 2).trans A;have c3:H.cell? ⟨wr.heap.size,3,N⟩=O (Ri f.ix):=(ag d 3).trans A;go_wp2_with{};refine(fy f.o (by omega) (by omega) _).mono ?_;rintro e cd⟨rfl,l⟩;have D:=iw.below V l;have P:=bl d l;have cv:=l.size;have aj:=M (aM.out.trans (l.mono (by omega)));clear l V d;have bU:=aN (f.o);go_wp2_with(at_builtin;refine dz A _ _ A g.heap.size _ _ A D ⟨(az (f.o)).toArray⟩ A ?_ ?_ ?_);{rw[eu];(try simp only[aw]);omega};{omega};intro b5 K q t;(try rw[fX]at q);have a:=gx D t P (by decide);have aa:=M (aj.out.trans (dX D t (by omega)));have cp:=t.size;clear D t P aj;clear c0 c1 c2 c3 cb;have cb:=aV a;have c0:K.cell? ⟨wr.heap.size,0,N⟩=O (U f.name):=(ag a 0).trans A;have c1:K.cell? ⟨wr.heap.size,1,N⟩=O (I J f.k):=(ag a 1).trans A;have c2:K.cell? ⟨wr.heap.size,2,N⟩=O (I J f.o):=(ag a 2).trans A;have c3:K.cell? ⟨wr.heap.size,3,N⟩=O (Ri f.ix):=(ag a 3).trans A;cases h:f.ix
    · skip;rw[h]at c3;have HE:=M (show LL++(dy f.name++(az f.k++(az f.o++az 0)))=dy c.name++az c.fs.length++(c.fs.take (k+1)).flatMap dZ by rw[HS.out,aB.out];simp[dZ,h,Dy]);clear h;go_wp2_with{};refine(fy 0 (by omega) (by omega) _).mono ?_;rintro e ch⟨rfl,m⟩;have E:=iw.below q m;have Q:=bl a m;have cx:=m.size;have ak:=M (aa.out.trans (m.mono (by omega)));clear m q a;have bW:=aN (0);go_wp2_with(at_builtin;refine dz A _ _ A g.heap.size _ _ A E ⟨(az (0)).toArray⟩ A ?_ ?_ ?_);{rw[eu];(try simp only[aw]);omega};{omega};intro b6 b9 z u;(try rw[fX]at z);have bm:=gx E u Q (by decide);have aO:=M (ak.out.trans (dX E u (by omega)));have cq:=u.size;clear E u Q ak;go_wp2_with{};(try simp only[bg]at z);rw[HE.out]at z;go_roundw;case rel=>exact⟨k+1,by omega,by go_num,z,aO.out⟩
      case measure=>simp[intOf];omega
    · skip;rw[h]at c3;have HE:=M (show LL++(dy f.name++(az f.k++(az f.o++az 1)))=dy c.name++az c.fs.length++(c.fs.take (k+1)).flatMap dZ by rw[HS.out,aB.out];simp[dZ,h,Dy]);clear h;go_wp2_with{};refine(fy 1 (by omega) (by omega) _).mono ?_;rintro e cj⟨rfl,n⟩;have F:=iw.below q n;have R:=bl a n;have cz:=n.size;have al:=M (aa.out.trans (n.mono (by omega)));clear n q a;have bX:=aN (1);go_wp2_with(at_builtin;refine dz A _ _ A g.heap.size _ _ A F ⟨(az (1)).toArray⟩ A ?_ ?_ ?_);{rw[eu];(try simp only[aw]);omega};{omega};intro b7 ca B x;(try rw[fX]at B);have bn:=gx F x R (by decide);have aR:=M (al.out.trans (dX F x (by omega)));have cr:=x.size;clear F x R al;go_wp2_with{};(try simp only[bg]at B);rw[HE.out]at B;go_roundw;case rel=>exact⟨k+1,by omega,by go_num,B,aR.out⟩
      case measure=>simp[intOf];omega
  {have HT:=M (show c.fs.take k=c.fs from fK (by omega));rw[HT.out]at ho;obtain⟨va,vc,rfl⟩:=iw.slice ho;have hcv:=lU ho;have HE:=M (show dy c.name++az c.fs.length++c.fs.flatMap dZ=eA c by simp[eA]);rw[HE.out]at ho hcv⊢;go_wp2_with{};go_ret2;exact⟨rfl,B1.out.trans (S.out.mono (by omega))⟩}
end
section
open Go.RowKit
inductive nd where
 |done
 |R (i:Nat) (r:nd)
 |call (i:Nat) (r:nd)
 |two (i:Nat) (r:nd) (j:Nat) (s:nd)
section
variable {P:Program} {ops:Array Oper} {Q:Exit ->Act ->ai ->Prop}
def nd.ok(ops:Array Oper):nd ->Nat ->Array Bool ->Bool
 | .done,n,listed=>decide (n=0)&&(dG .any ops listed).isEmpty
 | .R i r,n,listed=>decide (0<n)&&(dG .any ops listed).contains i&&Region.free .any ops listed i&&r.ok ops (n - 1) (listed.setIfInBounds i true)
 | .call i r,n,listed=>decide (0<n)&&decide (dG .any ops listed=[i])&&r.ok ops (n - 1) (listed.setIfInBounds i true)
 | .two i r j s,n,listed=>decide (0<n)&&decide (dG .any ops listed=[i,j])&&r.ok ops (n - 1) (listed.setIfInBounds i true)&&s.ok ops (n - 1) (listed.setIfInBounds j true)
def FT(ops:Array Oper)(s:nd):Bool:=jW ops&&s.ok ops ops.size (Array.replicate ops.size false)
def i_(P:Program)(ops:Array Oper)(Q:Exit ->Act ->ai ->Prop):(ai ->Prop) ->nd ->Act ->ai ->Prop
 |_, .done,a,w=>Q .normal a w
 |S, .R i r,a,w=>∃o v,ops[i]? =O o/\YieldsIf P ops S o v a/\i_ P ops Q S r (a.put o.dst v) w
 |S, .call i r,a,w=>wpOp P ops Q i (fun a' w'=>∃b:ai ->Prop,(∀W,b W ->S W)/\b w'/\i_ P ops Q b r a' w') a w
 |S, .two i r j s,a,w=>wpOp P ops Q i (fun a' w'=>∃b:ai ->Prop,(∀W,b W ->S W)/\b w'/\i_ P ops Q b r a' w') a w/\wpOp P ops Q j (fun a' w'=>∃b:ai ->Prop,(∀W,b W ->S W)/\b w'/\i_ P ops Q b s a' w') a w
theorem mD{S c:ai ->Prop}(h:∀W,c W ->S W):∀(fuel:Nat) (listed:Array Bool) (a:Act) (w:ai),wpAnyH P .any ops Q c fuel listed a w ->wpAnyH P .any ops Q S fuel listed a w
 |0,_,_,_,b=>b
 |fuel+1,_,_,_,b=>⟨b.1,fun i hi=>wpOp_mono (fun a' w' d=>⟨h _ d.1,mD h fuel _ a' w' d.2⟩) (b.2 i hi)⟩
theorem xt(b:∀t v c a w,Q (.panic c) (a.put (O t) v) w ->Q (.panic c) a w)(d:Option Tmp)(v:ar)(c:List PanicEntry)(a:Act)(w:ai)(h:Q (.panic c) (a.put d v) w):Q (.panic c) a w:=by
 cases d with
 |none=>exact h
 |some t=>exact b t v c a w h
theorem n9(b:jW ops=true)(d:∀t v c a w,Q (.panic c) (a.put (O t) v) w ->Q (.panic c) a w):∀(s:nd) (n:Nat) (listed:Array Bool) (S:ai ->Prop) (a:Act) (w:ai),s.ok ops n listed=true ->S w ->i_ P ops Q S s a w ->wpAnyH P .any ops Q S n listed a w
 | .done,n,listed,S,a,w,hB,_,h=>by simp only[nd.ok,aK]at hB;exact wpAnyH_done (by simpa using hB.2) h _
 | .R i r,n,listed,S,a,w,hB,hS,h=>by simp only[nd.ok,aK,Rt]at hB;obtain⟨⟨⟨h0,h1⟩,h2⟩,h3⟩:=hB;obtain⟨o,v,ho,hy,e⟩:=h;obtain⟨m,rfl⟩:∃m,n=m+1:=⟨n - 1,by omega⟩;exact wpAnyH_take ho b h2 h1 (fun c a w=>xt d _ _ c a w) hy hS (n9 b d r _ _ S _ _ h3 hS e)
 | .call i r,n,listed,S,a,w,hB,_,h=>by
  simp only[nd.ok,aK,Rt]at hB;obtain⟨⟨h0,h1⟩,h3⟩:=hB;obtain⟨m,rfl⟩:∃m,n=m+1:=⟨n - 1,by omega⟩;refine wpAnyH_all h1 (by simp) fun j g=> ?_;obtain rfl:j=i:=by simpa using g
  exact wpOp_mono (fun a' w'⟨f,s1,s2,e⟩=>⟨s1 _ s2,mD s1 _ _ _ _ (n9 b d r _ _ f _ _ h3 s2 e)⟩) h
 | .two i r j s,n,listed,S,a,w,hB,_,h=>by simp only[nd.ok,aK,Rt]at hB;obtain⟨⟨⟨h0,h1⟩,h3⟩,h4⟩:=hB;obtain⟨m,rfl⟩:∃m,n=m+1:=⟨n - 1,by omega⟩;refine wpAnyH_all h1 (by simp) fun k hk=> ?_;simp only[bh,bV,or_false]at hk;rcases hk with rfl|rfl;{exact wpOp_mono (fun a' w'⟨f,s1,s2,e⟩=>⟨s1 _ s2,mD s1 _ _ _ _ (n9 b d r _ _ f _ _ h3 s2 e)⟩) h.1};{exact wpOp_mono (fun a' w'⟨f,s1,s2,e⟩=>⟨s1 _ s2,mD s1 _ _ _ _ (n9 b d s _ _ f _ _ h4 s2 e)⟩) h.2}
theorem bM{id:Nat}{a:Act}{w:ai}(S:ai ->Prop)(s:nd)(hm:P.follows .mixedOrders=true)(hB:FT ops s=true)(b:∀t v c a w,Q (.panic c) (a.put (O t) v) w ->Q (.panic c) a w)(hS:S w.drew)(h:i_ P ops Q S s a w.drew):(iO id ops true).wp P Q a w:=by simp only[FT,aK]at hB;refine wp_region_held (S:=S) hm ?_;exact n9 hB.1 b s _ _ S a w.drew hB.2 hS h
variable {S:ai ->Prop}
theorem aj{i:Nat}{o:Oper}{r:nd}{a:Act}{w:ai}{v:ar}(h0:ops[i]? =O o)(hy:YieldsIf P ops S o v a)(h:i_ P ops Q S r (a.put o.dst v) w):i_ P ops Q S (.R i r) a w:=⟨o,v,h0,hy,h⟩
theorem we{i:Nat}{o:Oper}{a:Act}{w:ai}{K:Act ->ai ->Prop}(h0:ops[i]? =O o)(h:if bB o (yielded ops a.tmps)=true then o.wp P a w K Q else K (a.put o.dst undef) w):wpOp P ops Q i K a w:=by unfold wpOp;simp only[h0];split;{rename_i hw;rw[Rs hw]at h;exact .inl h};{rename_i hw;rw[Rq hw]at h;exact h}
theorem aH{i:Nat}{o:Oper}{r:nd}{a:Act}{w:ai}(h0:ops[i]? =O o)(h:∀K:Act ->ai ->Prop,(∀a' w', S w' ->i_ P ops Q S r a' w' ->K a' w') ->if bB o (yielded ops a.tmps)=true then o.wp P a w K Q else K (a.put o.dst undef) w):i_ P ops Q S (.call i r) a w:=
 we h0 (h _ fun _ _ h1 h2=>⟨S,fun _ h=>h,h1,h2⟩)
theorem dY{i j:Nat}{r s:nd}{a:Act}{w:ai}(h1:i_ P ops Q S (.call i r) a w)(h2:i_ P ops Q S (.call j s) a w):i_ P ops Q S (.two i r j s) a w:=⟨h1,h2⟩
theorem aM{a:Act}{w:ai}(h:Q .normal a w):i_ P ops Q S .done a w:=h
end
end
section
open Go.RowKit
theorem nr{P:Program}{ops:Array Oper}{S:ai ->Prop}{o:Oper}{a:Act}(T:bR)(x:Operand)(ho:o.op=.load T x)(hw:bB o (yielded ops a.tmps)=true)(g:Nat)(hx:a.eval x=Ru (O ⟨g,0,N⟩))(cs:Array ar)(E:bR)(fr:Nat×Nat)(d:TypeDesc)(hg:∀W,S W ->W.heap[g]? =O (Ra cs E fr))
 (hu:P.underlying T=O d)(hd:(match d with| .struct _| .array _ _=>true|_=>false)=true)(hi:(P.info? T).map (·.size)=O cs.size):YieldsIf P ops S o (Rj cs) a:=
 Or.inl ⟨hw,fun W hS=>by unfold execOp;simp only[ho,hx,Instr.loadAt,Instr.sureAddr,cG,gm,de,run_loadVar_row W g E T cs fr d (hg W hS) hu hd hi]⟩
variable {P:Program} {F:Nat ->Prop} {w0 w:ai} {L L0:List cM} {ops:Array Oper} {rest:List Oper} {o:Oper} {a:Act} {Q:Exit ->Act ->ai ->Prop}
theorem A5(op:Op)(ho:o.op=op)(h:wpList P ops Q (o::rest) a w):wpList P ops Q (o::rest) a w:=by have _:=ho;exact h
theorem uX{T E:bR}{x:Operand}{g:Nat}{cs:Array ar}{fr:Nat×Nat}{fs:Array _}(ho:o.op=.load T x)(hw:bB o (yielded ops a.tmps)=true)(hx:a.eval x=Ru (O ⟨g,0,N⟩))[h:f_ w w0 F L][k:qd L g (Ra cs E fr)]
 (hu:P.underlying T=O (.struct fs))(hi:(P.info? T).map (·.size)=O cs.size)(hK:wpList P ops Q rest (a.put o.dst (Rj cs)) w):wpList P ops Q (o::rest) a w:=
 nq T x ho hw g hx cs E fr _ kR hu A hi hK
theorem Kz{T E:bR}{x y:Operand}{g:Nat}{cs kX:Array ar}(ho:o.op=.store T x y)(hw:bB o (yielded ops a.tmps)=true)(hx:a.eval x=Ru (O ⟨g,0,N⟩))(hy:a.eval y=Rj cs)[h:f_ w w0 F L][k:qd L g (Ra kX E (0,0))]{L':List cM}[p:AW L g (Ra cs E (0,0)) L']
 (hi:(P.info? T).map (·.size)=O cs.size)(hold:kX.size=cs.size)(h1:cs.all (·.oneCell') =true)(hK:∀w', f_ w' w0 F L' ->w.heap.size<=w'.heap.size ->wpList P ops Q rest (a.put o.dst undef) w') :wpList P ops Q (o::rest) a w:=
 kV T x y ho hw g cs hx hy E kX kR hi hold h1 fun w' hc hb=>hK w' (Ky hc hb) hc.size
theorem vN{T:bR}{x:Operand}{cs:Array ar}(ho:o.op=.box T x)(hw:bB o (yielded ops a.tmps)=true)(hx:a.eval x=Rj cs)[h:f_ w w0 F L]
 (hK:∀w', f_ w' w0 F (eH w.heap.size (Ra cs T)::L) ->w.heap.size<w'.heap.size ->wpList P ops Q rest (a.put o.dst (Ru (O ⟨w.heap.size,0,N⟩))) w') :wpList P ops Q (o::rest) a w:=
 vJ T x ho hw cs hx fun w' n=>hK w' ⟨h.st.Ek n A⟩ (by have:=n.size;omega)
theorem I4{T:bR}{cs:Array ar}(ho:o.op=.alloc T)(hw:bB o (yielded ops a.tmps)=true)(b:∀W,(zeroValue T).run P W=.ok (Rj cs) W)[h:f_ w w0 F L]
 (hK:∀w', f_ w' w0 F (eH w.heap.size (Ra cs T)::L) ->w.heap.size<w'.heap.size ->wpList P ops Q rest (a.put o.dst (Ru (O ⟨w.heap.size,0,N⟩))) w') :wpList P ops Q (o::rest) a w:=
 sh T ho hw cs b fun w' n=>hK w' ⟨h.st.Ek n A⟩ (by have:=n.size;omega)
class zC(L0 L:List cM):Prop where
 sub:L0.Sublist L
instance Q7{L:List cM}:zC L L:=⟨.refl _⟩
instance(priority:=low)Q9{L0 L:List cM}{r:cM}[h:zC L0 L]:zC L0 (r::L):=⟨h.sub.cons _⟩
theorem fH [h:f_ w w0 F L][s:zC L0 L]:f_ w w0 F L0:=⟨⟨h.st.low,fun r hr=>h.st.mem r (s.sub.subset hr),h.st.apart.sublist s.sub⟩⟩
theorem kZ{id:Nat}[h:f_ w w0 F L](s:nd)(hm:P.follows .mixedOrders=true)(hB:FT ops s=true)
 (b:∀t v c a w,Q (.panic c) (a.put (O t) v) w ->Q (.panic c) a w)(hK:i_ P ops Q (fun W=>f_ W w0 F L) s a w.drew):(iO id ops true).wp P Q a w:=
 bM _ s hm hB b ⟨h.st.drew⟩ hK
theorem atR{id:Nat}(h:(iO id ops true).wp P Q a w):(iO id ops true).wp P Q a w:=h
theorem IF{S:ai ->Prop}{s:nd}(h:i_ P ops Q S s a w):i_ P ops Q S s a w:=h
theorem p'{i:Nat}{r:nd}{v:ar}(h0:ops[i]? =O o)(hw:bB o (yielded ops a.tmps)=true)(hv:∀W,f_ W w0 F L ->(execOp a.eval o).run P W=.ok (.value v) W)
 (h:i_ P ops Q (fun W=>f_ W w0 F L) r (a.put o.dst v) w):i_ P ops Q (fun W=>f_ W w0 F L) (.R i r) a w:=aj h0 (.inl ⟨hw,hv⟩) h
theorem PB{i:Nat}{r:nd}{S:ai ->Prop}(h0:ops[i]? =O o)(hw:bB o (yielded ops a.tmps)=false)(h:i_ P ops Q S r (a.put o.dst undef) w):i_ P ops Q S (.R i r) a w:=aj h0 (.inr ⟨hw,rfl⟩) h
theorem Nb{i:Nat}{r:nd}{T E:bR}{x:Operand}{g:Nat}{cs:Array ar}{fr:Nat×Nat}{fs:Array _}(h0:ops[i]? =O o)(ho:o.op=.load T x)(hw:bB o (yielded ops a.tmps)=true)(hx:a.eval x=Ru (O ⟨g,0,N⟩))[k:qd L g (Ra cs E fr)]
 (hu:P.underlying T=O (.struct fs))(hi:(P.info? T).map (·.size)=O cs.size)(h:i_ P ops Q (fun W=>f_ W w0 F L) r (a.put o.dst (Rj cs)) w):i_ P ops Q (fun W=>f_ W w0 F L) (.R i r) a w:=
 aj h0 (nr T x ho hw g hx cs E fr _ (fun _(_:f_ _ w0 F L)=>kR) hu A hi) h
end
section
open Go.RowKit Go.Extern.Stop Go.Stop Go.Extern
theorem Ns(t:ar)(w:ai):aJ ah 181 #[.nilIface,t] w fun e w'=>e=Rh (Ri false)/\w'=w:=by go_in;go_wp2;go_ret;exact⟨rfl,rfl⟩
theorem zF(t:Addr)(w:ai):(ReflectliteValue.unpack (.iface 235 (Ru (O t)))).run ah w
 =.ok (Rj #[Ru (O ⟨8,235,N⟩),Ru (O ⟨w.heap.size,0,N⟩), .int .u64 150]) (w.alloc (Ra #[Ru (O t)] 235)):=by kernel_rfl
theorem Gj(a:Addr)(w:ai):(ReflectliteValue.methodAny (ReflectliteValue.valueError "reflectlite.Value.Type" 0) (fun t _ _ _=>ReflectliteType.toType t) #[Rj #[Ru (O ⟨8,235,N⟩),Ru (O a), .int .u64 150]]).run ah w
 =.ok (.iface 263 (Rj #[Ru (O ⟨8,235,N⟩)])) w:=by kernel_rfl
theorem xZ(h:ar)(w:ai):(Go.method 501 263 (Rj #[h]) "Kind").run ah w=.ok (304,h) w:=by kernel_rfl
theorem Gi(w:ai):((ReflectliteType.abiMethod fun t=>Functor.map (fun a:Nat=>bd IntKind.u8 (a:Int)) (Rtype.kind t)) #[Ru (O ⟨8,235,N⟩)]).run ah w=.ok (.int .u8 22) w:=by kernel_rfl
theorem Gh(w:ai):((ReflectliteType.abiMethod fun t=>Functor.map (fun a:Nat=>bd IntKind.u8 (a:Int)) (Rtype.kind t)) #[Ru (O ⟨8,233,N⟩)]).run ah w=.ok (.int .u8 22) w:=by kernel_rfl
theorem Qw(z:Sem ar)(f:bR ->Addr ->Nat ->Nat ->Sem ar)(v:ar):
 ReflectliteValue.method z f #[v]=(do match<-ReflectliteValue.parts v with|none=>z|some (t,a,b)=>f t a b (b % 32)):=rfl
theorem wu(a:Addr)(w:ai):(ReflectliteValue.parts (Rj #[Ru (O ⟨8,235,N⟩),Ru (O a), .int .u64 150])).run ah w=.ok (O (235,a,150)) w:=by kernel_rfl
theorem Dt(a p:Addr)(W:ai)(ha:W.cell? a=O (Ru (O p))):(ReflectliteValue.method (ReflectliteValue.valueError "reflectlite.Value.IsNil" 0) ReflectliteValue.isNil #[Rj #[Ru (O ⟨8,235,N⟩),Ru (O a), .int .u64 150]]).run ah W=.ok (Ri false) W:=by rw[Qw];simp only[cG,wu,dR];simp[ReflectliteValue.isNil,loadVar,isAgg,underlying,underlying235,ha,dR]
theorem xY(h:ar)(w:ai):(Go.method 501 263 (Rj #[h]) "Elem").run ah w=.ok (312,Rj #[h]) w:=by kernel_rfl
theorem rN(h:ar)(w:ai):(Go.method 501 263 (Rj #[h]) "Implements").run ah w=.ok (313,Rj #[h]) w:=by kernel_rfl
theorem qi(h:ar)(w:ai):(Go.method 501 263 (Rj #[h]) "AssignableTo").run ah w=.ok (310,Rj #[h]) w:=by kernel_rfl
theorem Gg(w:ai):(ReflectliteType.method ReflectliteType.elem #[Rj #[Ru (O ⟨8,235,N⟩)]]).run ah w=.ok (.iface 263 (Rj #[Ru (O ⟨8,233,N⟩)])) w:=by kernel_rfl
theorem vL(w:ai):(ReflectliteType.relation "Implements" ReflectliteType.implements_ #[Rj #[Ru (O ⟨8,233,N⟩)], .iface 263 (Rj #[Ru (O ⟨8,95,N⟩)])]).run ah w=.ok (Ri true) w:=by kernel_rfl
theorem A4(v:ar)(w:ai):(ReflectliteType.typeOf #[.iface 233 v]).run ah w=.ok (.iface 263 (Rj #[Ru (O ⟨8,233,N⟩)])) w:=by kernel_rfl
theorem vK(w:ai):(ReflectliteType.relation "AssignableTo" ReflectliteType.assignableTo #[Rj #[Ru (O ⟨8,233,N⟩)], .iface 263 (Rj #[Ru (O ⟨8,233,N⟩)])]).run ah w=.ok (Ri true) w:=by kernel_rfl
theorem zE(e:Addr)(w:ai):(ReflectliteValue.unpack (.iface 233 (Ru (O e)))).run ah w
 =.ok (Rj #[Ru (O ⟨8,233,N⟩),Ru (O ⟨w.heap.size,0,N⟩), .int .u64 150]) (w.alloc (Ra #[Ru (O e)] 233)):=by kernel_rfl
theorem A2(w:ai):(Rtype.elem? 235).run ah w=.ok (O 233) w:=by kernel_rfl
theorem Le(p:Addr)(w:ai):(ReflectliteValue.mk 233 p ReflectliteValue.flagAddr).run ah w=.ok (Rj #[Ru (O ⟨8,233,N⟩),Ru (O p), .int .u64 406]) w:=by kernel_rfl
theorem Ds(a p:Addr)(W:ai)(ha:W.cell? a=O (Ru (O p))):
 (ReflectliteValue.method (ReflectliteValue.valueError "reflectlite.Value.Elem" 0) ReflectliteValue.elem #[Rj #[Ru (O ⟨8,235,N⟩),Ru (O a), .int .u64 150]]).run ah W
  =.ok (Rj #[Ru (O ⟨8,233,N⟩),Ru (O p), .int .u64 406]) W:=by
 rw[Qw]
 simp only[cG,wu,dR]
 simp[ReflectliteValue.elem,loadVar,isAgg,underlying,underlying235,ha,dR,A2,Le]
theorem QV(v x:ar):ReflectliteValue.set #[v,x]=(do
 let(O (dst,a,c),O (src,b,_)):=(<-ReflectliteValue.parts v,<-ReflectliteValue.parts x)
  |unsupported (.noEntry "extern/(internal/reflectlite.Value).Set.zeroValue")
 if c/ReflectliteValue.flagAddr % 2==0 then unsupported (.noEntry "extern/(internal/reflectlite.Value).Set.unaddressable")
 let val<-loadVar src b
 if<-Rtype.directlyAssignable dst src then storeVar dst a val
 else if<-Rtype.implements dst src then
  if(<-Rtype.kind src)==20 then
   match val with
   | .nilIface=>unsupported (.noEntry "extern/reflectlite: a nil value of one interface type handed on as a value of another")
   |_=>storeVar dst a val
  else storeVar dst a (.iface src val)
 else panicString ("reflectlite.Set: value of type " ++(<-Rtype.spelt src)++ " is not assignable to type " ++(<-Rtype.spelt dst))
 pure (Rx #[])):=rfl
theorem A3(a:Addr)(w:ai):(ReflectliteValue.parts (Rj #[Ru (O ⟨8,233,N⟩),Ru (O a), .int .u64 406])).run ah w=.ok (O (233,a,406)) w:=by kernel_rfl
theorem Du(a:Addr)(w:ai):(ReflectliteValue.parts (Rj #[Ru (O ⟨8,233,N⟩),Ru (O a), .int .u64 150])).run ah w=.ok (O (233,a,150)) w:=by kernel_rfl
theorem AZ(w:ai):(Rtype.directlyAssignable 233 233).run ah w=.ok true w:=by kernel_rfl
theorem I6(ta b e:Addr)(kX:ar)(W:ai)(hb:W.cell? b=O (Ru (O e)))(a:W.cell? ta=O kX)(hf:W.frozen? ta=false):
 (ReflectliteValue.set #[Rj #[Ru (O ⟨8,233,N⟩),Ru (O ta), .int .u64 406],Rj #[Ru (O ⟨8,233,N⟩),Ru (O b), .int .u64 150]]).run ah W
  =.ok (Rx #[]) (W.setCell ta (Ru (O e))):=by
 rw[QV]
 simp only[cG,A3,Du,dR]
 simp[ReflectliteValue.flagAddr,loadVar,isAgg,underlying,underlying233,hb,dR,AZ,storeVar,Value.cells,storeCells,Addr.add]
 rw[run_store ah W ta _ _ (by rfl)]
 simp[a,hf]
theorem Nr(e t:Addr)(kX:ar)(w:ai)(hg:w.cell? ⟨2,0,N⟩=O (.iface 263 (Rj #[Ru (O ⟨8,95,N⟩)])))(ht0:w.cell? t=O kX)(b:w.frozen? t=false):aJ ah 181 #[.iface 233 (Ru (O e)), .iface 235 (Ru (O t))] w fun ev w'=>ev=Rh (Ri true)/\w'=((((w.alloc (Ra #[Ru (O t)] 235)).alloc (Ra #[Ru (O ⟨8,235,N⟩),Ru (O ⟨w.heap.size,0,N⟩), .int .u64 150] 287)).alloc (Ra #[Ru (O ⟨8,235,N⟩),Ru (O ⟨w.heap.size,0,N⟩), .int .u64 150] 287)).alloc (Ra #[Ru (O e)] 233)).setCell t (Ru (O e)):=by
 have h6:= @run_callFunc_extern ah 210 _ (fun args=>ReflectliteValue.unpack (args.getD 0 (Rx #[]))) func210 (by kernel_rfl) (by kernel_rfl) (by kernel_rfl) (by kernel_rfl);have h7:= @run_callFunc_extern ah 211 _ (ReflectliteValue.methodAny (ReflectliteValue.valueError "reflectlite.Value.Type" 0) (fun t _ _ _=>ReflectliteType.toType t)) func211 (by kernel_rfl) (by kernel_rfl) (by kernel_rfl) (by kernel_rfl);have x:= @run_callFunc_extern ah 212 _ (ReflectliteValue.method (ReflectliteValue.valueError "reflectlite.Value.IsNil" 0) ReflectliteValue.isNil) func212 (by kernel_rfl) (by kernel_rfl) (by kernel_rfl) (by kernel_rfl);have k:= @run_callFunc_extern ah 304 _ (ReflectliteType.abiMethod fun t=>do pure (.int .u8 (<-Rtype.kind t))) func304 (by kernel_rfl) (by kernel_rfl) (by kernel_rfl) (by kernel_rfl);have m:= @run_callFunc_extern ah 312 _ (ReflectliteType.method ReflectliteType.elem) func312 (by kernel_rfl) (by kernel_rfl) (by kernel_rfl) (by kernel_rfl);have n:= @run_callFunc_extern ah 313 _ (ReflectliteType.relation "Implements" ReflectliteType.implements_) func313 (by kernel_rfl) (by kernel_rfl) (by kernel_rfl) (by kernel_rfl);have g:= @run_callFunc_extern ah 158 _ ReflectliteType.typeOf func158 (by kernel_rfl) (by kernel_rfl) (by kernel_rfl) (by kernel_rfl);have l:= @run_callFunc_extern ah 310 _ (ReflectliteType.relation "AssignableTo" ReflectliteType.assignableTo) func310 (by kernel_rfl) (by kernel_rfl) (by kernel_rfl) (by kernel_rfl);have i:= @run_callFunc_extern ah 242 _ (ReflectliteValue.method (ReflectliteValue.valueError "reflectlite.Value.Elem" 0) ReflectliteValue.elem) func242 (by kernel_rfl) (by kernel_rfl) (by kernel_rfl) (by kernel_rfl);have j:= @run_callFunc_extern ah 243 _ ReflectliteValue.set func243 (by kernel_rfl) (by kernel_rfl) (by kernel_rfl) (by kernel_rfl);have E:=A4;have y:=qi;have d:=vK;have s:=zE;have f6:=zF;have f7:=Gj;have C:=xZ;have z:=xY;have B:=rN;have r:=Gi;have q:=Gh;have f:=Gg;have p:=vL;have D:=Dt ⟨w.heap.size,0,N⟩ t ((w.alloc (Ra #[Ru (O t)] 235)).alloc (Ra #[Ru (O ⟨8,235,N⟩),Ru (O ⟨w.heap.size,0,N⟩), .int .u64 150] 287)) (by simp);have c:2<w.heap.size:=fD hg;have o:((w.alloc (Ra #[Ru (O t)] 235)).alloc (Ra #[Ru (O ⟨8,235,N⟩),Ru (O ⟨w.heap.size,0,N⟩), .int .u64 150] 287)).cell? ⟨2,0,N⟩=O (.iface 263 (Rj #[Ru (O ⟨8,95,N⟩)])):=by{rw[fu _ _ ⟨2,0,N⟩ (by simp;omega),fu _ _ ⟨2,0,N⟩ c];exact hg};have a:t.block<w.heap.size:=by{rcases ed t.block w.heap.size with h|h;{exact h};{simp[fV,Array.getElem?_eq_none h]at ht0}};have u:=Ds ⟨w.heap.size,0,N⟩ t (((w.alloc (Ra #[Ru (O t)] 235)).alloc (Ra #[Ru (O ⟨8,235,N⟩),Ru (O ⟨w.heap.size,0,N⟩), .int .u64 150] 287)).alloc (Ra #[Ru (O ⟨8,235,N⟩),Ru (O ⟨w.heap.size,0,N⟩), .int .u64 150] 287)) (by rw[fu _ _ ⟨w.heap.size,0,N⟩ (by simp;omega)];simp)
 have st:=I6 t ⟨w.heap.size+1+1+1,0,N⟩ e kX ((((w.alloc (Ra #[Ru (O t)] 235)).alloc (Ra #[Ru (O ⟨8,235,N⟩),Ru (O ⟨w.heap.size,0,N⟩), .int .u64 150] 287)).alloc (Ra #[Ru (O ⟨8,235,N⟩),Ru (O ⟨w.heap.size,0,N⟩), .int .u64 150] 287)).alloc (Ra #[Ru (O e)] 233))
  (by rw[World.cell?_alloc_at _ _ _ _ (by simp)];rfl)
  (by rw[fu _ _ t (by simp;omega),fu _ _ t (by simp;omega),fu _ _ t (by simp;omega),fu _ _ t a];exact ht0)
  (by rw[jy _ _ t (by simp;omega),jy _ _ t (by simp;omega),jy _ _ t (by simp;omega),jy _ _ t (Nat.ne_of_lt a)];exact b)
 go_in;go_wp2;refine wp_loop_rounds 1 ?_;rw[rounds_succ];go_wp2;go_ret;exact⟨rfl,rfl⟩
end
section
open Go.RowKit
inductive tV where
 |done
 |R (i:Nat) (r:tV)
 |all (is:List Nat) (f:Nat ->tV)
section
variable {P:Program} {ops:Array Oper} {Q:Exit ->Act ->ai ->Prop}
def tV.ok(ops:Array Oper):tV ->Nat ->Array Bool ->Bool
 | .done,n,listed=>decide (n=0)&&(dG .any ops listed).isEmpty
 | .R i r,n,listed=>decide (0<n)&&(dG .any ops listed).contains i&&Region.free .any ops listed i&&r.ok ops (n - 1) (listed.setIfInBounds i true)
 | .all is f,n,listed=>decide (0<n)&&decide (dG .any ops listed=is)&& !is.isEmpty&&is.all fun i=>(f i).ok ops (n - 1) (listed.setIfInBounds i true)
def Og(ops:Array Oper)(s:tV):Bool:=jW ops&&s.ok ops ops.size (Array.replicate ops.size false)
def ma(P:Program)(ops:Array Oper)(Q:Exit ->Act ->ai ->Prop)(S:ai ->Prop):tV ->Act ->ai ->Prop
 | .done,a,w=>Q .normal a w
 | .R i r,a,w=>∃o v,ops[i]? =O o/\YieldsIf P ops S o v a/\ma P ops Q S r (a.put o.dst v) w
 | .all is f,a,w=>∀i∈is,wpOp P ops Q i (fun a' w'=>S w'/\ma P ops Q S (f i) a' w') a w
theorem uM{S:ai ->Prop}(b:jW ops=true)(d:∀t v c a w,Q (.panic c) (a.put (O t) v) w ->Q (.panic c) a w):∀(s:tV) (n:Nat) (listed:Array Bool) (a:Act) (w:ai),s.ok ops n listed=true ->S w ->ma P ops Q S s a w ->wpAnyH P .any ops Q S n listed a w
 | .done,n,listed,a,w,hB,_,h=>by simp only[tV.ok,aK]at hB;exact wpAnyH_done (by simpa using hB.2) h _
 | .R i r,n,listed,a,w,hB,hS,h=>by simp only[tV.ok,aK,Rt]at hB;obtain⟨⟨⟨h0,h1⟩,h2⟩,h3⟩:=hB;obtain⟨o,v,ho,hy,g⟩:=h;obtain⟨m,rfl⟩:∃m,n=m+1:=⟨n - 1,by omega⟩;exact wpAnyH_take ho b h2 h1 (fun c a w=>xt d _ _ c a w) hy hS (uM b d r _ _ _ _ h3 hS g)
 | .all is f,n,listed,a,w,hB,_,h=>by simp only[tV.ok,aK,Rt]at hB;obtain⟨⟨⟨h0,h1⟩,h2⟩,h3⟩:=hB;obtain⟨m,rfl⟩:∃m,n=m+1:=⟨n - 1,by omega⟩;refine wpAnyH_all h1 (by intro e;rw[e]at h2;cases h2) fun j k=> ?_;exact wpOp_mono (fun a' w'⟨s2,g⟩=>⟨s2,uM b d (f j) _ _ _ _ (ba.1 h3 j k) s2 g⟩) (h j k)
theorem Fa{id:Nat}{a:Act}{w w0:ai}{F:Nat ->Prop}{L:List cM}[d:f_ w w0 F L](s:tV)(hm:P.follows .mixedOrders=true)(hB:Og ops s=true)(b:∀t v c a w,Q (.panic c) (a.put (O t) v) w ->Q (.panic c) a w)(h:ma P ops Q (fun W=>f_ W w0 F L) s a w.drew):(iO id ops true).wp P Q a w:=by simp only[Og,aK]at hB;exact wp_region_held (S:=fun W=>f_ W w0 F L) hm (uM hB.1 b s _ _ a w.drew hB.2 ⟨d.st.drew⟩ h)
variable {S:ai ->Prop} {a:Act} {w:ai} {o:Oper}
theorem Qg{s:tV}(h:ma P ops Q S s a w):ma P ops Q S s a w:=h
theorem mP{i:Nat}{r:tV}{w0:ai}{F:Nat ->Prop}{L:List cM}{v:ar}(h0:ops[i]? =O o)(hw:bB o (yielded ops a.tmps)=true)(hv:∀W,f_ W w0 F L ->(execOp a.eval o).run P W=.ok (.value v) W)
 (h:ma P ops Q (fun W=>f_ W w0 F L) r (a.put o.dst v) w):ma P ops Q (fun W=>f_ W w0 F L) (.R i r) a w:=⟨o,v,h0, .inl ⟨hw,hv⟩,h⟩
theorem Bl{i:Nat}{s:tV}{w0:ai}{F:Nat ->Prop}{L:List cM}(h0:ops[i]? =O o)(h:∀K:Act ->ai ->Prop,(∀a' w', f_ w' w0 F L ->ma P ops Q (fun W=>f_ W w0 F L) s a' w' ->K a' w') ->if bB o (yielded ops a.tmps)=true then o.wp P a w K Q else K (a.put o.dst undef) w):wpOp P ops Q i (fun a' w'=>f_ w' w0 F L/\ma P ops Q (fun W=>f_ W w0 F L) s a' w') a w:=
 we h0 (h _ fun _ _ h1 h2=>⟨h1,h2⟩)
theorem sj{i:Nat}{f:Nat ->tV}(h:wpOp P ops Q i (fun a' w'=>S w'/\ma P ops Q S (f i) a' w') a w):ma P ops Q S (.all [i] f) a w:=fun _ hk=>by rcases cm.1 hk with rfl;exact h
theorem OG{i j:Nat}{f:Nat ->tV}(h:wpOp P ops Q i (fun a' w'=>S w'/\ma P ops Q S (f i) a' w') a w)(h2:wpOp P ops Q j (fun a' w'=>S w'/\ma P ops Q S (f j) a' w') a w):ma P ops Q S (.all [i,j] f) a w:=fun k hk=>by simp only[bh,bV,or_false]at hk;rcases hk with rfl|rfl<;>assumption
theorem PU{i j l:Nat}{f:Nat ->tV}(h:wpOp P ops Q i (fun a' w'=>S w'/\ma P ops Q S (f i) a' w') a w)(h2:wpOp P ops Q j (fun a' w'=>S w'/\ma P ops Q S (f j) a' w') a w)(h3:wpOp P ops Q l (fun a' w'=>S w'/\ma P ops Q S (f l) a' w') a w):ma P ops Q S (.all [i,j,l] f) a w:=fun k hk=>by simp only[bh,bV,or_false]at hk;rcases hk with rfl|rfl|rfl<;>assumption
theorem Nt{i:Nat}{K:Act ->ai ->Prop}(h:wpOp P ops Q i K a w):wpOp P ops Q i K a w:=h
theorem Jo(h:Q .normal a w):ma P ops Q S .done a w:=h
end
end
end Go.Proofs.YtbcbefpninlfiaaGreatDoor
