import Derived.Test.YtbcbefpninlfiaaGreatDoorC1
import Derived.Deep.MidRow
set_option maxHeartbeats 64000000
set_option maxRecDepth 100000
set_option linter.all false
open Go renaming Calls->aJ,TypeId->bR,Value->ar,World->ai
open Go.Proofs.Tryz renaming prog->ah,underlying58->fN
open Go.Value renaming agg->Rj,bool->Ri,int->I,pointer->Ru,slice->Z,string->U,tuple->Rx,int->bd
open Go.IntKind renaming i64->J
open Go.Ending renaming returned->Rh
open Option renaming none->N,some->O
open Go.Obj renaming cells->Ra
open Go.World renaming cell?->fV,cell?_of_block->fv,frozen?->gn,putObj_heap_other->fw,setCell->af
open Go.Fence renaming wide->eN
open List renaming length->fj,mem_of_mem_eraseIdx->iX,pairwise_cons->eF,pairwise_iff_getElem->eK,range->bO,range_succ->fR
open Fin renaming val->ew
open Go.RowKit renaming Below->ay
open Go.Exit renaming noGoto_ret->dp
open Go.Boxed renaming new->h_
open Go.KeepsOthers renaming drew->ju,setCell->aZ
open Array renaming replicate->dP
open Go.Region renaming wanted->bB
namespace Go.Proofs.YtbcbefpninlfiaaGreatDoor
open Go.Proofs.Tryz
section
open Go.RowKit Go.Shelf Mor
attribute [local go_sem] fS jO np
def hasB(s:ByteArray)(p n:Int):Bool:=decide (0<=p/\p<=s.size/\n<=s.size -p)
theorem LB(s:ByteArray)(p n:Int)(w:ai)(hs:s.size<=9223372036854775807):aJ ah 118 #[U s,I J p,I J n] w fun e w'=>e=Rh (Ri (hasB s p n))/\w=w':=by by_cases h1:0<=p;{by_cases h2:p<=s.size;{by_cases h3:n<=s.size -p;{have hb:=M (show hasB s p n=true by simp[hasB,h1,h2,h3]);go_in;go_wp2;go_ret;rw[hb.out];exact⟨rfl,rfl⟩};{have hb:=M (show hasB s p n=false by simp[hasB,h1,h2,h3]);go_in;go_wp2;go_ret;rw[hb.out];exact⟨rfl,rfl⟩}};{have hb:=M (show hasB s p n=false by simp[hasB,h2]);go_in;go_wp2;go_ret;rw[hb.out];exact⟨rfl,rfl⟩}};{have hb:=M (show hasB s p n=false by simp[hasB,h1]);go_in;go_wp2;go_ret;rw[hb.out];exact⟨rfl,rfl⟩}
theorem JD(s:ByteArray)(p:Int)(w:ai):aJ ah 119 #[U s,I J p] w fun e w'=>e=Rh (.func (.func 157) #[] #[Ru (O ⟨w.heap.size+1,0,N⟩),Ru (O ⟨w.heap.size,0,N⟩)])/\(w.alloc (Ra #[U s] 138)).alloc (Ra #[I J p] 3)=w':=by go_in;go_wp2;go_ret;exact⟨rfl,rfl⟩
structure f'(B:Nat)(W W':ai):Prop where
 b0:W'.heap[B]? =W.heap[B]?
 b1:W'.heap[B+1]? =W.heap[B+1]?
theorem f'.refl(B:Nat)(W:ai):f' B W W:=⟨rfl,rfl⟩
theorem f'.trans{B:Nat}{X Y a:ai}(h:f' B X Y)(k:f' B Y a):f' B X a:=⟨k.b0.trans h.b0,k.b1.trans h.b1⟩
theorem f'.cell0{B:Nat}{W W':ai}(h:f' B W W') :W'.cell? ⟨B,0,N⟩=W.cell? ⟨B,0,N⟩:=fv (w:=W) h.b0
theorem f'.OO{B:Nat}{W W':ai}(h:f' B W W') :W'.cell? ⟨B+1,0,N⟩=W.cell? ⟨B+1,0,N⟩:=fv (w:=W) h.b1
theorem f'.setCell{B:Nat}{W W':ai}(h:f' B W W'){p:Addr}(hp:p.block<B)(u:ar):f' B W (W'.setCell p u):=
 ⟨(fg _ _ _ _ (by omega)).trans h.b0,(fg _ _ _ _ (by omega)).trans h.b1⟩
theorem f'.drew{B:Nat}{W W':ai}(h:f' B W W') :f' B W W'.drew:=⟨h.b0,h.b1⟩
theorem f'.putObj{B:Nat}{W:ai}{l:Nat}(h:B+1<l)(o:Obj):f' B W (W.putObj l o):=
 ⟨fw (by omega),fw (by omega)⟩
def vW(s:ByteArray)(p:Nat)(i:Nat):Array ar:= #[I J (i:Int), .int .u8 ((oH s (p+i)).toNat:Int)]
theorem JC(n l B:Nat)(s:ByteArray)(p:Nat)(hp:p<=s.size)(hs:s.size<=9223372036854775807)(a w:List Nat ->ai ->Prop)(d:∀pre W,a pre W ->a pre W.drew)
 (x:∀pre (i:Nat) W,i<s.size -p ->a pre W ->pre.length<s.size -p ->YieldAt eN (n - 1) ah l (vW s p i) W fun e W'=>(e=Rh (Ri true)/\a (pre++[i]) W'/\f' B W W') \/(e=Rh (Ri false)/\w (pre++[i]) W'))
 (W:ai)(hB:W.cell? ⟨B,0,N⟩=O (U s))(hB1:W.cell? ⟨B+1,0,N⟩=O (I J (p:Int)))(h0:a [] W):
 CallsIn eN n ah 157 #[.func (.yield l) #[] #[],Ru (O ⟨B+1,0,N⟩),Ru (O ⟨B,0,N⟩)] W fun e W'=>(∃v,e=Rh v)/\
  ((∃ys,ys=bO (s.size -p)/\a ys W') \/(∃pre,(∃k,k<=s.size -p/\pre=bO k)/\w pre W')) :=by
 have C:=M x
 have m:=M d
 clear x d
 refine callsIn_of_wp func157 A trivial ?_ A
 simp only[ntmps157,dE,aS,a7,Nat.reduceAdd,Nat.reduceSub,cN,cO,dD,cS,bI,b_]
 gi_wp2
 gi_loopw [4] (fun v wr=>∃(j:Nat),p<=j/\j<=s.size/\v=I J (j:Int)/\a (bO (j -p)) wr/\f' B W wr) (fun v _=>s.size - (intOf v).toNat)
 case atStart=>exact⟨p,by omega,by omega,rfl,by rw[Nat.sub_self];exact h0,f'.refl _ _⟩
 case round=>
  obtain⟨j,F,H,rfl,f,hb⟩:=hrel
  have hc0:=hb.cell0.trans hB
  have E:=hb.OO.trans hB1
  by_cases t:j<s.size
  · obtain⟨D,u,c,q,b,h⟩:=C.out (bO (j -p)) (j -p) wr.drew (by omega) (m.out _ _ f) (by simp;omega);have o:=M h;clear h;unfold vW at b;have e1:((j -p:Nat):Int)=IntKind.i64.wrap ((j:Int) - (p:Int)):=(by rw[bo _ (by omega)];omega);have e2:oH s (p+(j -p))=s[j]:=by{rw[show p+(j -p)=j by omega,Gq s j t]};rw[e1,e2]at b;clear e1 e2;have y:(0:Int)<=(j:Int):=(by omega);have z:(j:Int)<(s.size:Int):=(by omega);gi_wp2;refine gS GM 7 (by kernel_rfl) (by kernel_rfl) (by kernel_rfl) ?_;simp only[di,eV,cU,dA];repeat still_step
    refine wpStill_nil ?_;gi_wp2;clear b;refine o.out.mono ?_;rintro e G(⟨rfl,r,hb2⟩|⟨rfl,g⟩)
    · gi_wp2;go_roundw;case rel=>exact⟨j+1,by omega,by omega,by go_num,by rw[show j+1 -p=j -p+1 by omega,fR];exact r,hb.trans (f'.trans (Y:=wr.drew) ⟨rfl,rfl⟩ hb2)⟩
      case measure=>simp[intOf];omega
    {gi_wp2;refine au (results_none A _ _ _) A ?_;exact⟨⟨_,rfl⟩, .inr ⟨_,⟨j -p+1,by omega,by rw[fR]⟩,g⟩⟩}
  · gi_wp2;go_end0;obtain rfl:j=s.size:=(by omega);exact⟨⟨_,rfl⟩, .inl ⟨_,rfl,f⟩⟩
theorem zZ(W:ai):W.grownBy W.drew N:=⟨rfl,rfl,rfl,av _,fun _ _ _=>rfl⟩
theorem BJ(n B:Nat)(s:ByteArray)(p:Nat)(hp:p<=s.size)(hs:s.size<=9223372036854775807)(w:ai)(hB:B+1<w.heap.size)(hc:w.cell? ⟨B,0,N⟩=O (U s))(d:w.cell? ⟨B+1,0,N⟩=O (I J (p:Int))):
 SeqStopsK eN n ah 157 #[Ru (O ⟨B+1,0,N⟩),Ru (O ⟨B,0,N⟩)] (fun i:Fin (s.size -p)=>vW s p i.val) (f' B)
  (fun ys=>ys.map ew=bO (s.size -p)) (fun pre=>∃k,k<=s.size -p/\pre.map ew=bO k) (s.size -p) w:=by
 intro l a g W f h j m h0
 refine(JC n l B s p hp hs (fun pre W=>∃q:List (Fin (s.size -p)),q.map ew=pre/\a q W) (fun pre W=>∃q:List (Fin (s.size -p)),q.map ew=pre/\g q W)
  (fun pre W⟨q,hq,b⟩=>⟨q,hq,h q W _ N b (zZ W) (fun r e=>by cases e)⟩) ?_ W ((f.cell (p:=⟨B,0,N⟩) (by simp;omega)).trans hc) ((f.cell (p:=⟨B+1,0,N⟩) hB).trans d) ⟨[],rfl,h0⟩).mono ?_
 · rintro pre i W1 hi⟨q,rfl,b⟩hlen;refine(m q ⟨i,hi⟩ W1 b (by simpa using hlen)).mono ?_;rintro e W'(⟨he,c,hk⟩|⟨he,c⟩);{exact .inl ⟨he,⟨q++[⟨i,hi⟩],by simp,c⟩,hk⟩};{exact .inr ⟨he,⟨q++[⟨i,hi⟩],by simp,c⟩⟩}
 · rintro e W'⟨hv,⟨ys,rfl,q,hq,b⟩|⟨pre,⟨k,hk,rfl⟩,q,hq,b⟩⟩;{exact⟨hv, .inl ⟨q,hq,b⟩⟩};{exact⟨hv, .inr ⟨q,⟨k,hk,hq⟩,b⟩⟩}
end
section
open Go.RowKit Go.Shelf Mor
attribute [local go_sem] fS jO np
abbrev l_(a:Addr):ar:=.iface 371 (Ru (O a))
theorem rr(s:ByteArray)(p n:Int)(w:ai)(hs:s.size<=281474976710656):
 aJ ah 118 #[U s,I J p,I J n] w fun e w''=>e=Rh (Ri (hasB s p n))/\w''=w:=
 (LB s p n _ (by omega)).mono fun _ _⟨he,hm⟩=>⟨he,hm.symm⟩
theorem Cb(s:ByteArray)(hs:s.size<=281474976710656)(p:Int)(b:Nat)(aE:Addr)(w:ai)(hb:b<w.heap.size)(c:0<w.heap.size)(h0:w.cell? ⟨b,0,N⟩=O (U s))(h1:w.cell? ⟨b,1,N⟩=O (I J p))(hg:w.cell? ⟨0,0,N⟩=O (l_ aE))(a:hasB s p 1=false):aJ ah 69 #[Ru (O ⟨b,0,N⟩)] w fun e w'=>e=Rh (Rx #[I J 0,l_ aE])/\ay w.heap.size w w':=by
 have hb1:b<w.heap.size+1:=by omega
 have hz1:0<w.heap.size+1:=by omega
 go_in;go_wp2;go_step3;go_wp2;refine fY (by kernel_rfl) (by kernel_rfl) ?_;repeat first|still_step|still_call (rr _ _ _ _ hs)
 refine wpStill_nil ?_;go_wp2;go_region;go_wp2;rw[dp];exact au (v:=Rx #[I J 0,l_ aE]) (by simp[results,results69,go_sem]) A ⟨rfl,((((ax _ w).alloc (av _) _).alloc (by simp) _).drew).drew⟩
theorem ME(x:Nat)(a:IntKind)(y:Nat):Op.shift .shl .u64 (x:Int) a (y:Int)=pure (.int .u64 ((x*2^y % 18446744073709551616:Nat):Int)):=by
 have hy:¬((y:Int)<0):=by omega
 have e:∀k,IntKind.u64.wrap ((x:Int)*2^k)=((x*2^k % 18446744073709551616:Nat):Int):=fun k=>by{rw[IntKind.wrap_u64];simp};simp only[Op.shift,hy,if_false,dS,e];by_cases h:y<=64;{rw[Nat.min_eq_left (by simpa[IntKind.bits]using h)]};{rw[Nat.min_eq_right (by simp[IntKind.bits];omega)];have h1:x*2^IntKind.u64.bits % 18446744073709551616=0:=(by simp[IntKind.bits]);have h2:x*2^y % 18446744073709551616=0:=by{obtain⟨d,rfl⟩:∃d,y=64+d:=⟨y - 64,by omega⟩;rw[Nat.pow_add,<-Nat.mul_assoc,Nat.mul_right_comm];simp};rw[h1,h2]}
theorem x9{B:Nat}{w W:ai}(h:ay B w W)(a:Addr)(v:ar):ay B (w.setCell a v) (W.setCell a v):=
 ⟨h.os,h.tape,h.output,by simpa[af]using h.size,fun k hk=>by simp only[af,Array.getElem?_modify];rw[h.block k hk]⟩
theorem mq{a:Nat}(q:List (Fin a))(j:Fin a)(h:(q++[j]).map ew=bO (q++[j]).length):q.map ew=bO q.length/\j.val=q.length:=by rw[fQ,aw,aS,a7,fR]at h;have:=List.append_inj h (by simp);exact⟨this.1,by simpa using this.2⟩
def Oy(w:ai)(s:ByteArray)(p:Nat)(pre:List (Fin (s.size -p)))(W:ai):Prop:=
 (∃m sg:Nat,m<18446744073709551616/\sg<18446744073709551616/\Boxed W (w.heap.size+1+1) 164 (.int .u64 (m:Int))/\Boxed W (w.heap.size+1+1+1) 164 (.int .u64 (sg:Int))/\
  (pre.map ew=bO pre.length ->scan (s.data.toList.drop p) 0 0 0=scan (s.data.toList.drop (p+pre.length)) pre.length m sg))/\
 Boxed W (w.heap.size+1+1+1+1) 3 (I J 0)/\Boxed W w.heap.size 3 (I J 0)/\Boxed W (w.heap.size+1) 95 .nilIface/\ay w.heap.size w W
def Oz(w:ai)(s:ByteArray)(p:Nat)(aF:Addr)(c:Code)(pre:List (Fin (s.size -p)))(W:ai):Prop:=
 ((c=.exit 0/\∃m sg k:Nat,m<18446744073709551616/\sg<18446744073709551616/\k<s.size -p/\Boxed W (w.heap.size+1+1) 164 (.int .u64 (m:Int))/\Boxed W (w.heap.size+1+1+1) 164 (.int .u64 (sg:Int))/\
  Boxed W (w.heap.size+1+1+1+1) 3 (I J ((k+1:Nat):Int))/\Boxed W w.heap.size 3 (I J 0)/\Boxed W (w.heap.size+1) 95 .nilIface/\
  (pre.map ew=bO pre.length ->scan (s.data.toList.drop p) 0 0 0=.num m sg (k+1)))\/
  (c=.ret/\Boxed W w.heap.size 3 (I J 0)/\Boxed W (w.heap.size+1) 95 (l_ aF)/\(pre.map ew=bO pre.length ->scan (s.data.toList.drop p) 0 0 0=.form)))/\
 ay w.heap.size w W
theorem eL{W W':ai}{row:Option Nat}{B k:Nat}{t:bR}{v:ar}(h:Boxed W k t v)(hg:W.grownBy W' row)(hr:∀r,row=O r ->B<=r/\∃o:Obj,W.heap[r]? =O o/\o.isCells=false):Boxed W' k t v:=
 h.kept hg (fun e=>by obtain⟨_,o,ho,hc⟩:=hr k e.symm;rw[show W.heap[k]? =_ from h]at ho;cases ho;cases hc)
theorem IS(w:ai)(s:ByteArray)(p B:Nat)(hB:w.heap.size<=B):OwnFrom B (Oy w s p):=by rintro pre W W' row⟨⟨m,sg,h1,h2,a,b,d⟩,c,b0,b1,hb⟩hg hr;exact⟨⟨m,sg,h1,h2,eL a hg hr,eL b hg hr,d⟩,eL c hg hr,eL b0 hg hr,eL b1 hg hr,hb.grown hg hb.size (fun k e=>bc hB (hr k e).1)⟩
theorem IT(w:ai)(s:ByteArray)(p:Nat)(aF:Addr)(c:Code)(B:Nat)(hB:w.heap.size<=B):OwnFrom B (Oz w s p aF c):=by rintro pre W W' row⟨h,hb⟩hg hr;refine⟨?_,hb.grown hg hb.size (fun k e=>bc hB (hr k e).1)⟩;rcases h with⟨rfl,m,sg,k,h1,h2,h3,b,d,f,b0,b1,a⟩|⟨rfl,b0,b1,a⟩;{exact .inl ⟨rfl,m,sg,k,h1,h2,h3,eL b hg hr,eL d hg hr,eL f hg hr,eL b0 hg hr,eL b1 hg hr,a⟩};{exact .inr ⟨rfl,eL b0 hg hr,eL b1 hg hr,a⟩}
theorem pG{R:Ending ->ai ->Prop}{tmps:Array ar}{W:ai}{D a:Nat}{v0 v1:ar}(h2:tmps.getD 2 undef=Ru (O ⟨a,0,N⟩))(h3:tmps.getD 3 undef=Ru (O ⟨a+1,0,N⟩))(b0:Boxed W a 3 v0)(b1:Boxed W (a+1) 95 v1)(hK:W.heap[D]? =O (.deferred (O [])))(hR:R (Rh (Rx #[v0,v1])) (W.putObj D (.deferred N))):bodyPostM eN 3 ah f69 R .ret {tmps:=tmps,defers:=[{target:=.collected D,args:= #[]}]} W:=by have hc0:=cell_kept b0.cell (grownBy_putObj' W D (.deferred N)) (fun r e=>by cases e;exact⟨_,hK,rfl⟩);have b:=cell_kept b1.cell (grownBy_putObj' W D (.deferred N)) (fun r e=>by cases e;exact⟨_,hK,rfl⟩);refine⟨by simp, .inl ⟨_,_,rfl,run_takeDeferred hK, ?_⟩⟩;refine⟨Rx #[v0,v1], ?_,hR⟩;rw[cw]at h2 h3;simp[results,f69,go_sem,hc0,b,h2,h3]
theorem u_(s:ByteArray)(hs:s.size<=281474976710656)(p b:Nat)(aE aF:Addr)(w:ai)(hb:b<w.heap.size)(hz:1<w.heap.size)
 (h0:w.cell? ⟨b,0,N⟩=O (U s))(h1:w.cell? ⟨b,1,N⟩=O (I J (p:Int)))(bj:w.frozen? ⟨b,1,N⟩=false)(hg:w.cell? ⟨0,0,N⟩=O (l_ aE))(bk:w.cell? ⟨1,0,N⟩=O (l_ aF))(hp:p+1<=s.size):
 aJ ah 69 #[Ru (O ⟨b,0,N⟩)] w fun e w'=>match scan (s.data.toList.drop p) 0 0 0 with
  | .ends=>e=Rh (Rx #[I J 0,l_ aE])/\ay w.heap.size w w'
  | .form=>e=Rh (Rx #[I J 0,l_ aF])/\ay w.heap.size w w'
  | .num m sg size=>e=Rh (Rx #[I J (if sg=1 then wrap64 (-1 -wrap64 m)else wrap64 m), .nilIface])/\ay w.heap.size (w.setCell ⟨b,1,N⟩ (I J ((p+size:Nat):Int))) w':=by
 have bz:hasB s p 1=true:=by simp[hasB];omega
 have hb1:b<w.heap.size+1:=by omega
 have hb2:b<w.heap.size+2:=by omega
 refine(callsIn_wide (n:=3)).1 ?_
 refine callsIn_of_wp_marks func69 A trivial ?_ A
 simp only[ntmps69,dE,aS,a7,Nat.reduceAdd,Nat.reduceSub,cN,cO,dD,cS,bI,b_]
 refine wpIn_wide.2 ?_
 go_wp2
 go_step3
 go_wp2
 refine fY (by kernel_rfl) (by kernel_rfl) ?_
 repeat first|still_step|still_call (rr _ _ _ _ hs)
 refine wpStill_nil ?_
 go_wp2
 go_step3
 go_wp2
 have x0:=h_ w 3 (I J 0)
 have x1:=h_ (w.alloc (Ra #[I J 0] 3)) 95 .nilIface
 have x2:=h_ ((w.alloc (Ra #[I J 0] 3)).alloc (Ra #[.nilIface] 95)) 164 (.int .u64 0)
 have x3:=h_ (((w.alloc (Ra #[I J 0] 3)).alloc (Ra #[.nilIface] 95)).alloc (Ra #[.int .u64 0] 164)) 164 (.int .u64 0)
 have x4:=h_ ((((w.alloc (Ra #[I J 0] 3)).alloc (Ra #[.nilIface] 95)).alloc (Ra #[.int .u64 0] 164)).alloc (Ra #[.int .u64 0] 164)) 3 (I J 0)
 have y0:=(((x0.alloc (Ra #[.nilIface] 95)).alloc (Ra #[.int .u64 0] 164)).alloc (Ra #[.int .u64 0] 164)).alloc (Ra #[I J 0] 3)
 have y1:=((x1.alloc (Ra #[.int .u64 0] 164)).alloc (Ra #[.int .u64 0] 164)).alloc (Ra #[I J 0] 3)
 have y2:=(x2.alloc (Ra #[.int .u64 0] 164)).alloc (Ra #[I J 0] 3)
 have y3:=x3.alloc (Ra #[I J 0] 3)
 have y4:=x4
 simp only[aQ]at y1 y2 y3 y4
 clear x0 x1 x2 x3 x4
 have hB1:ay w.heap.size w (((((w.alloc (Ra #[I J 0] 3)).alloc (Ra #[.nilIface] 95)).alloc (Ra #[.int .u64 0] 164)).alloc (Ra #[.int .u64 0] 164)).alloc (Ra #[I J 0] 3)):=
  (((((ax _ w).alloc (av _) _).alloc (by simp) _).alloc (by simp;omega) _).alloc (by simp;omega) _).alloc (by simp;omega) _
 have al:(((((w.alloc (Ra #[I J 0] 3)).alloc (Ra #[.nilIface] 95)).alloc (Ra #[.int .u64 0] 164)).alloc (Ra #[.int .u64 0] 164)).alloc (Ra #[I J 0] 3)).heap.size=w.heap.size+5:=by simp
 obtain⟨W1,aG⟩:∃W1,(((((w.alloc (Ra #[I J 0] 3)).alloc (Ra #[.nilIface] 95)).alloc (Ra #[.int .u64 0] 164)).alloc (Ra #[.int .u64 0] 164)).alloc (Ra #[I J 0] 3))=W1:=⟨_,rfl⟩
 rw[aG]at y0 y1 y2 y3 y4 hB1 al⊢
 clear aG
 have c0:=(hB1.cell (p:=⟨b,0,N⟩) hb).trans h0
 have c1:=(hB1.cell (p:=⟨b,1,N⟩) hb).trans h1
 have H:=M al
 clear al
 refine jZ 8 (by kernel_rfl) (by kernel_rfl) ?_
 simp only[di,eV,cU,dA]
 repeat still_step
 refine wpStill_nil ?_
 go_wp2_with(go_at_call 119;refine(JD _ _ _).mono ?_;rintro e w'⟨rfl,rfl⟩)
 have z0:=h_ W1 138 (U s)
 have z1:=h_ (W1.alloc (Ra #[U s] 138)) 3 (I J (p:Int))
 rw[aQ]at z1
 have a1:=z0.alloc (Ra #[I J (p:Int)] 3)
 have aT:=(y0.alloc (Ra #[U s] 138)).alloc (Ra #[I J (p:Int)] 3)
 have aU:=(y1.alloc (Ra #[U s] 138)).alloc (Ra #[I J (p:Int)] 3)
 have aV:=(y2.alloc (Ra #[U s] 138)).alloc (Ra #[I J (p:Int)] 3)
 have aW:=(y3.alloc (Ra #[U s] 138)).alloc (Ra #[I J (p:Int)] 3)
 have aX:=(y4.alloc (Ra #[U s] 138)).alloc (Ra #[I J (p:Int)] 3)
 have hB2:ay w.heap.size w ((W1.alloc (Ra #[U s] 138)).alloc (Ra #[I J (p:Int)] 3)).drew.drew:=(((hB1.alloc hB1.size _).alloc (by have:=hB1.size;simp;omega) _).drew).drew
 have V:((W1.alloc (Ra #[U s] 138)).alloc (Ra #[I J (p:Int)] 3)).drew.drew.heap.size=W1.heap.size+2:=by simp
 obtain⟨X,t⟩:∃X,((W1.alloc (Ra #[U s] 138)).alloc (Ra #[I J (p:Int)] 3)).drew.drew=X:=⟨_,rfl⟩
 have v0:Boxed X w.heap.size 3 (I J 0):=by rw[<-t];exact aT
 have v1:Boxed X (w.heap.size+1) 95 .nilIface:=by rw[<-t];exact aU
 have v2:Boxed X (w.heap.size+1+1) 164 (.int .u64 0):=by rw[<-t];exact aV
 have v3:Boxed X (w.heap.size+1+1+1) 164 (.int .u64 0):=by rw[<-t];exact aW
 have v4:Boxed X (w.heap.size+1+1+1+1) 3 (I J 0):=by rw[<-t];exact aX
 have u0:Boxed X W1.heap.size 138 (U s):=by rw[<-t];exact a1
 have u1:Boxed X (W1.heap.size+1) 3 (I J (p:Int)):=by rw[<-t];exact z1
 rw[t]at hB2 V⊢
 clear t z0 z1 a1 aT aU aV aW aX y0 y1 y2 y3 y4
 have F:=M V
 clear V
 refine wpIn_wide.1 (wpIn_rangeFunc_ownG A (n:=3) (by decide) (gf:=157) (lb:= #[Ru (O ⟨W1.heap.size+1,0,N⟩),Ru (O ⟨W1.heap.size,0,N⟩)]) A trivial (enters_of func157 (by kernel_rfl) A)
  (BJ 2 W1.heap.size s p (by omega) (by omega) X (by rw[F.out];omega) u0.cell u1.cell) f'.trans (fun W l o o' hl _ _ _=>f'.putObj (by rw[F.out]at hl;omega) o') (ax _ _) (fun _=>rfl)
  (fun pre W=>Oy w s p pre W)
  (fun c pre W=>Oz w s p aF c pre W)
  (IS w s p _ (by rw[F.out,H.out];omega)) (fun c=>IT w s p aF c _ (by rw[F.out,H.out];omega))
  ⟨⟨0,0,by decide,by decide,v2,v3,fun _=>by simp⟩,v4,v0,v1,hB2⟩
  (fun i=>{tmps:= #[Ru (O ⟨b,0,N⟩),undef,Ru (O ⟨w.heap.size,0,N⟩),Ru (O ⟨w.heap.size+1,0,N⟩),Ru (O ⟨w.heap.size+1+1,0,N⟩),Ru (O ⟨w.heap.size+1+1+1,0,N⟩),Ru (O ⟨w.heap.size+1+1+1+1,0,N⟩),I J (i.val:Int), .int .u8 ((oH s (p+i.val)).toNat:Int),undef,Ru (O ⟨b,0,N⟩),Ru (O ⟨b,0,N⟩),Ru (O ⟨b,0,N⟩),U s,Ru (O ⟨b,0,N⟩),Ru (O ⟨b,0,N⟩),Ru (O ⟨b,1,N⟩),I J (p:Int),Ri true,Ri false,undef,Ru (O ⟨b,0,N⟩),Ru (O ⟨b,0,N⟩),Ru (O ⟨b,0,N⟩),U s,Ru (O ⟨b,0,N⟩),Ru (O ⟨b,0,N⟩),Ru (O ⟨b,1,N⟩),I J (p:Int), .func (.func 157) #[] #[Ru (O ⟨W1.heap.size+1,0,N⟩),Ru (O ⟨W1.heap.size,0,N⟩)],I J (i.val:Int), .int .u8 ((oH s (p+i.val)).toNat:Int),undef,undef,undef,undef,undef,undef,undef,undef,undef,undef,undef,undef,undef,undef,undef,undef,undef,undef,undef,undef,undef,undef,undef,undef,undef,undef,undef,undef,undef,undef,undef,undef,undef,undef,undef,undef,undef,undef,undef,undef,undef,undef,undef,undef,undef,undef,undef,undef,undef],defers:=[]}) ?assign ?body ?done ?stop)
 case assign=>
  intro l i W K hK
  unfold vW
  gi_wp2
  exact hK
 case body=>
  rintro l pre i W⟨⟨m,sg,hm,T,L,P,a⟩,Q,b0,b1,hB⟩aL
  obtain⟨i,hi⟩:=i
  dsimp only
  have HL:=M aL
  have Y:=M a
  clear aL a
  have HG:=M (Bm s (p+i) (by omega))
  have aH:(oH s (p+i)).toNat<256:=UInt8.toNat_lt _
  generalize oH s (p+i)=bt at*
  obtain⟨n,hn⟩:∃n,n=bt.toNat:=⟨_,rfl⟩
  rw[<-hn]at aH⊢
  have HN:=M hn
  clear hn
  have hand:bits .and .u8 (n:Int) 127=((n % 128:Nat):Int):=by rw[show(127:Int)=((127:Nat):Int) by rfl,u8_and_nat n 127 aH (by decide),show n&&&127=n % 128 from Nat.and_two_pow_sub_one_eq_mod n 7]
  have c2:=L.cell
  have c3:=P.cell
  have c4:=Q.cell
  have f2:=L.frozen
  have f3:=P.frozen
  have f4:=Q.frozen
  have B:w.heap.size+1+1≠w.heap.size+1+1+1+1:=by omega
  have C:w.heap.size+1+1+1≠w.heap.size+1+1+1+1:=by omega
  have S:w.heap.size+1+1≠w.heap.size+1+1+1:=by omega
  have aC:f' W1.heap.size W W:=f'.refl _ _
  have aa:Hid (∀(q:List (Fin (s.size -p))) (j:Fin (s.size -p)),(q++[j]).map ew=bO (q++[j]).length ->q.map ew=bO q.length/\j.val=q.length):=mq
  by_cases ak:i=0
  · subst ak;have e1:((n % 128/2:Nat):Int)=(n:Int) % 128/2:=(by omega);have e2:((n % 128 % 2:Nat):Int)=(n:Int) % 2:=(by omega);have E1:=M e1;have E2:=M e2;clear e1 e2;by_cases f:n<128
    · gi_wp2;rw[<-E1.out,<-E2.out]
      refine⟨(((aZ _ _ _).trans (aZ _ _ _)).trans (aZ _ _ _)).from _, .inl ⟨rfl,n % 128/2,n % 128 % 2,0,by omega,by omega,by omega,
       ((L.set _).other S _).other B _,((P.other (by omega) _).set _).other C _,((Q.other (by omega) _).other (by omega) _).set _,((b0.other (by omega) _).other (by omega) _).other (by omega) _,((b1.other (by omega) _).other (by omega) _).other (by omega) _, ?_⟩, ?_⟩
      {intro hr;obtain⟨E,u⟩:=aa.out _ _ hr;have h2:=Y.out E;rw[h2,<-u];have:=HG.out;simp only[Nat.add_zero]at this⊢;rw[this,o8,<-HN.out,Rs f]};{exact((hB.setCell (p:=⟨_,0,N⟩) (by simp;omega) _).setCell (p:=⟨_,0,N⟩) (by simp;omega) _).setCell (p:=⟨_,0,N⟩) (by simp;omega) _}
    · gi_wp2;rw[<-E1.out,<-E2.out]
      refine⟨((aZ _ _ _).trans (aZ _ _ _)).from _,(aC.setCell (p:=⟨_,0,N⟩) (by have:=H.out;simp;omega) _).setCell (p:=⟨_,0,N⟩) (by have:=H.out;simp;omega) _,⟨n % 128/2,n % 128 % 2,by omega,by omega,
       (L.set _).other S _,(P.other (by omega) _).set _, ?_⟩,(Q.other (by omega) _).other (by omega) _,(b0.other (by omega) _).other (by omega) _,(b1.other (by omega) _).other (by omega) _, ?_⟩
      {intro hr;obtain⟨E,u⟩:=aa.out _ _ hr;have h2:=Y.out E;rw[h2,<-u];have:=HG.out;simp only[Nat.add_zero,aw,aS,a7,<-u,bC]at this⊢;rw[this,o8,<-HN.out,Rq f]};{exact(hB.setCell (p:=⟨_,0,N⟩) (by simp;omega) _).setCell (p:=⟨_,0,N⟩) (by simp;omega) _}
  · have bA:((i:Int)==0)=false:=(by rw[Rm];omega);have g1:=(hB.cell (p:=⟨1,0,N⟩) hz).trans bk;have d0:=b0.cell;have d1:=b1.cell;have e0:=b0.frozen;have e1:=b1.frozen;by_cases d:n=0\/(i=9/\1<n)
    · have h:=M (show(pre++[(⟨i,hi⟩:Fin (s.size -p))]).map ew=bO (pre++[(⟨i,hi⟩:Fin (s.size -p))]).length ->scan (s.data.toList.drop p) 0 0 0=.form from by
       intro hr;obtain⟨E,u⟩:=aa.out _ _ hr;rw[Y.out E,<-u,HG.out];exact yZ _ _ _ _ _ ak (by rw[<-HN.out];exact d))
      have bN:Tryz.prog.follows .mixedOrders=true:=(by kernel_rfl);by_cases aM:n=0
      · have aN:((n:Int)==0)=true:=(by rw[beq_iff_eq];omega);clear aM d;gi_wp2;gi_region_with_o (fail);all_goals gi_wp2
        all_goals refine⟨(((aZ _ _ _).trans (aZ _ _ _)).trans (ju _)).from _, .inr ⟨rfl, ?_, ?_,h.out⟩, ?_⟩
        all_goals first
         |exact cR ((b0.set _).other (by omega) _)
         |exact cR ((b1.other (by omega) _).set _)
         |exact((hB.setCell (p:=⟨_,0,N⟩) (by simp) _).setCell (p:=⟨_,0,N⟩) (by simp) _).drew
      · have aN:((n:Int)==0)=false:=(by rw[Rm];omega);have R:((i:Int)==9)=true:=(by rw[beq_iff_eq];omega);have bl:(1:Int)<(n:Int):=(by omega);clear aM d;gi_wp2;gi_region_with_o (fail);all_goals gi_wp2
        all_goals refine⟨(((aZ _ _ _).trans (aZ _ _ _)).trans (ju _)).from _, .inr ⟨rfl, ?_, ?_,h.out⟩, ?_⟩
        all_goals first
         |exact cR ((b0.set _).other (by omega) _)
         |exact cR ((b1.other (by omega) _).set _)
         |exact((hB.setCell (p:=⟨_,0,N⟩) (by simp) _).setCell (p:=⟨_,0,N⟩) (by simp) _).drew
    · have h:=M (show(pre++[(⟨i,hi⟩:Fin (s.size -p))]).map ew=bO (pre++[(⟨i,hi⟩:Fin (s.size -p))]).length ->i=pre.length/\scan (s.data.toList.drop p) 0 0 0=
       (if n<128 then .num (m|||(n % 128*2^(7*i - 1) % 18446744073709551616)) sg (i+1)else scan (s.data.toList.drop (p+(i+1))) (i+1) (m|||(n % 128*2^(7*i - 1) % 18446744073709551616)) sg)from by
       intro hr
       obtain⟨E,u⟩:=aa.out _ _ hr
       refine⟨u, ?_⟩
       rw[Y.out E,<-u,HG.out,HN.out]
       exact rI _ _ _ _ _ ak (by rw[<-HN.out];exact d))
      have aN:((n:Int)==0)=false:=(by rw[Rm];omega);have bU:IntKind.i64.wrap (7*(i:Int))=7*(i:Int):=bo _ (by omega);have bW:IntKind.i64.wrap (7*(i:Int) - 1)=((7*i - 1:Nat):Int):=(by rw[bo _ (by omega)];omega);have bm:=ME (n % 128) .i64 (7*i - 1);have hx2:IntKind.u64.wrap ((n:Int) % 128*2^(7*i - 1))=((n % 128*2^(7*i - 1) % 18446744073709551616:Nat):Int):=(by rw[IntKind.wrap_u64];simp);have aR:n % 128*2^(7*i - 1) % 18446744073709551616<18446744073709551616:=jT _ (by decide);generalize n % 128*2^(7*i - 1) % 18446744073709551616=x at*;have bT:=u64_or_nat m x hm aR;have hor2:m||| x<18446744073709551616:=Nat.or_lt_two_pow (n:=64) hm aR;rw[show((n % 128:Nat):Int)=(n:Int) % 128 by omega]at bm;by_cases f:n<128
      · have aj:(n:Int)<128:=(by omega);have y:=M f;clear f;by_cases R:i=9
        · have ad:((i:Int)==9)=true:=(by rw[beq_iff_eq];omega);have bl:¬(1:Int)<(n:Int):=(by omega);clear R d;gi_wp2;refine gS (sA l) 7 (by kernel_rfl) (by kernel_rfl) (by kernel_rfl) ?_;simp only[di,eV,cU,dA];repeat still_step
          refine wpStill_nil ?_;gi_wp2;refine⟨(((aZ _ _ _).trans (aZ _ _ _)).trans (ju _)).from _, .inl ⟨rfl,m||| x,sg,i,hor2,T,hi,cR ((L.set _).other B _),cR ((P.other (by omega) _).other C _), ?_,cR ((b0.other (by omega) _).other (by omega) _),cR ((b1.other (by omega) _).other (by omega) _), ?_⟩, ?_⟩;{exact cR ((Q.other (by omega) _).set _)};{intro hr;have:=(h.out hr).2;rw[Rs y.out]at this;exact this};{exact((hB.setCell (p:=⟨_,0,N⟩) (by simp;omega) _).setCell (p:=⟨_,0,N⟩) (by simp;omega) _).drew}
        · have ad:((i:Int)==9)=false:=(by rw[Rm];omega);clear R d;gi_wp2;refine gS (sA l) 7 (by kernel_rfl) (by kernel_rfl) (by kernel_rfl) ?_;simp only[di,eV,cU,dA];repeat still_step
          refine wpStill_nil ?_;gi_wp2;refine⟨(((aZ _ _ _).trans (aZ _ _ _)).trans (ju _)).from _, .inl ⟨rfl,m||| x,sg,i,hor2,T,hi,cR ((L.set _).other B _),cR ((P.other (by omega) _).other C _), ?_,cR ((b0.other (by omega) _).other (by omega) _),cR ((b1.other (by omega) _).other (by omega) _), ?_⟩, ?_⟩;{exact cR ((Q.other (by omega) _).set _)};{intro hr;have:=(h.out hr).2;rw[Rs y.out]at this;exact this};{exact((hB.setCell (p:=⟨_,0,N⟩) (by simp;omega) _).setCell (p:=⟨_,0,N⟩) (by simp;omega) _).drew}
      · have aj:¬(n:Int)<128:=(by omega);have y:=M f;clear f;by_cases R:i=9;{exact absurd y.out (by omega)}
        · have ad:((i:Int)==9)=false:=(by rw[Rm];omega);clear R d;gi_wp2;refine gS (sA l) 7 (by kernel_rfl) (by kernel_rfl) (by kernel_rfl) ?_;simp only[di,eV,cU,dA];repeat still_step
          refine wpStill_nil ?_;gi_wp2;refine⟨((aZ _ _ _).trans (ju _)).from _,(aC.setCell (p:=⟨w.heap.size+1+1,0,N⟩) (by have:=H.out;simp;omega) _).drew,⟨m||| x,sg,hor2,T,cR (L.set _),cR (P.other (by omega) _), ?_⟩,cR (Q.other (by omega) _),cR (b0.other (by omega) _),cR (b1.other (by omega) _), ?_⟩;{intro hr;obtain⟨h1,h2⟩:=h.out hr;rw[Rq y.out]at h2;rw[aw,aS,a7,bC,<-h1];exact h2};{exact(hB.setCell (p:=⟨_,0,N⟩) (by simp;omega) _).drew}
 case done=>
  rintro D ys W hD hS⟨⟨m,sg,hm,T,L,P,a⟩,Q,b0,b1,hB⟩hK
  have hlen:ys.length=s.size -p:=by simpa using congrArg fj hS
  have hE:=a (by rw[hlen];exact hS)
  have hdr:s.data.toList.drop (p+ys.length)=[]:=a8 (by rw[hlen];simp;omega)
  rw[hdr]at hE
  clear hdr
  have HE:=M (show scan (s.data.toList.drop p) 0 0 0=.ends from hE)
  clear hE a hS
  have c4:=Q.cell
  have d0:=b0.cell
  have d1:=b1.cell
  have e0:=b0.frozen
  have e1:=b1.frozen
  have g0:=(hB.cell (p:=⟨0,0,N⟩) (by simp;omega)).trans hg
  go_wp2
  go_region
  go_wp2
  rw[dp]
  have z:=((aZ W ⟨w.heap.size,0,N⟩ (I J 0)).trans (aZ _ ⟨w.heap.size+1,0,N⟩ (l_ aE))).same D _ hK A
  refine pG A A (cR ((b0.set _).other (by omega) _)) (cR ((b1.other (by omega) _).set _)) (heap_drew z) ?_
  rw[HE.out]
  exact⟨rfl,(((hB.setCell (p:=⟨_,0,N⟩) (by simp) _).setCell (p:=⟨_,0,N⟩) (by simp) _).drew).trans (belowK_b (w:=w) (av _) _ D _ _ (by have:=hB2.size;omega) (heap_drew z) A A)⟩
 case stop=>
  rintro D c pre W hD⟨k,hk,r⟩⟨hX,hB⟩hK
  have hlen:pre.length=k:=by simpa using congrArg fj r
  rw[<-hlen]at r
  rcases hX with⟨rfl,m,sg,k', hm,T,bH,L,P,Q,b0,b1,a⟩|⟨rfl,b0,b1,a⟩
  · have HE:=M (a r);clear a r;have c2:=L.cell;have c3:=P.cell;have c4:=Q.cell;have d0:=b0.cell;have d1:=b1.cell;have e0:=b0.frozen;have e1:=b1.frozen;have r1:=(hB.cell (p:=⟨b,1,N⟩) hb).trans h1;have rf:=(hB.frozen (p:=⟨b,1,N⟩) hb).trans bj;have bJ:(((k'+1:Nat):Int)==0)=false:=(by rw[Rm];omega);have hw:IntKind.i64.wrap ((p:Int)+((k':Int)+1))=((p+(k'+1):Nat):Int):=(by rw[bo _ (by omega)];omega);have g:=g_ W ⟨b,1,N⟩ (I J ((p+(k'+1):Nat):Int));have k2:=(L.kept g (by simp;omega)).cell;have k3:=(P.kept g (by simp;omega)).cell;have q0:=(b0.kept g (by simp;omega)).cell;have q1:=(b1.kept g (by simp;omega)).cell;have j0:=(b0.kept g (by simp;omega)).frozen;have j1:=(b1.kept g (by simp;omega)).frozen;have aB:ay w.heap.size (w.setCell ⟨b,1,N⟩ (I J ((p+(k'+1):Nat):Int))) (W.setCell ⟨b,1,N⟩ (I J ((p+(k'+1):Nat):Int))):=x9 hB _ _;gi_wp2;go_wp2;refine jZ 8 (by kernel_rfl) (by kernel_rfl) ?_;simp only[di,eV,cU,dA];repeat still_step
    refine wpStill_nil ?_;by_cases G:sg=1;{have aO:((sg:Int)==1)=true:=(by rw[beq_iff_eq];omega);have ag:=M G;clear G;go_wp2;rw[dp,show(p:Int)+((k':Int)+1)=((p+(k'+1):Nat):Int) by omega];have z:=(((aZ W ⟨b,1,N⟩ (I J ((p+(k'+1):Nat):Int))).trans (aZ _ ⟨w.heap.size,0,N⟩ (I J (wrap64 (-1 -wrap64 m))))).trans (aZ _ ⟨w.heap.size+1,0,N⟩ .nilIface)).same D _ hK A;refine pG A A (cR (((b0.kept g (by simp;omega)).set _).other (by omega) _)) (cR (((b1.kept g (by simp;omega)).other (by omega) _).set _)) (heap_drew z) ?_;rw[HE.out];refine⟨?_, ?_⟩;{rw[Rs ag.out]};{exact((((aB.setCell (p:=⟨_,0,N⟩) (by simp) _).setCell (p:=⟨_,0,N⟩) (by simp) _).drew).trans (belowK_b (w:=w) (av _) _ D _ _ (by have:=hB2.size;omega) (heap_drew z) A A))}};{have aO:((sg:Int)==1)=false:=(by rw[Rm];omega);have ag:=M G;clear G;go_wp2;rw[dp,show(p:Int)+((k':Int)+1)=((p+(k'+1):Nat):Int) by omega];have z:=(((aZ W ⟨b,1,N⟩ (I J ((p+(k'+1):Nat):Int))).trans (aZ _ ⟨w.heap.size,0,N⟩ (I J (wrap64 m)))).trans (aZ _ ⟨w.heap.size+1,0,N⟩ .nilIface)).same D _ hK A;refine pG A A (cR (((b0.kept g (by simp;omega)).set _).other (by omega) _)) (cR (((b1.kept g (by simp;omega)).other (by omega) _).set _)) (heap_drew z) ?_;rw[HE.out];refine⟨?_, ?_⟩;{rw[Rq ag.out]};{exact((((aB.setCell (p:=⟨_,0,N⟩) (by simp) _).setCell (p:=⟨_,0,N⟩) (by simp) _).drew).trans (belowK_b (w:=w) (av _) _ D _ _ (by have:=hB2.size;omega) (heap_drew z) A A))}}
  · have HE:=M (a r);clear a r;gi_wp2;rw[dp];refine pG A A b0 b1 hK ?_;rw[HE.out];exact⟨rfl,hB.trans (belowK_b (w:=w) (av _) _ D _ _ (by have:=hB2.size;omega) hK A A)⟩
end
section
open Go.RowKit Go.Shelf Mor
attribute [local go_sem] fS jO np
theorem LD:(Tryz.prog.info? 5).map (fun i=>(i.zero,i.size,i.bytes))=O (O (.int .u8 0),1,1):=by kernel_rfl
def sw(l:List UInt8):List ar:=l.map fun b=>.int .u8 (b.toNat:Int)
theorem Jr(l:List UInt8)(b:UInt8)(v:ar):(sw (l++[b])).set l.length v=sw l++[v]:=by
 have:(sw l).length=l.length:=by simp[sw]
 rw[sw,fQ,<-sw,List.set_append_right _ _ (by omega),this];simp
theorem yf(n B:Nat)(x:Int)(hx1: -9223372036854775808<=x)(hx2:x<9223372036854775808)(w:ai)(hB:B<w.heap.size)(hc:w.cell? ⟨B,0,N⟩=O (I J x)):
 SeqStopsK eN n ah 114 #[Ru (O ⟨B,0,N⟩)] (fun y:Fin 128=> #[bd .u8 (y.val:Int)]) (fun _ _=>True) (fun ys=>ys=oU x) (fun _=>True) (oU x).length w:=
 fun l a b W c _ _ d h0=>DW n l B x hx1 hx2 a b d W ((c.cell (p:=⟨B,0,N⟩) hB).trans hc) h0
theorem fy(x:Int)(hx1: -9223372036854775808<=x)(hx2:x<9223372036854775808)(w:ai):aJ ah 29 #[I J x] w fun e w'=>e=Rh (U ⟨(az x).toArray⟩)/\ay w.heap.size w w':=by
 obtain⟨i0,hi,H,hz1,hz2⟩:=info_parts LD;have aB:∀u:ai,(Instr.makeSlice 58 (I J 0) (I J 10)).run ah u=.ok (Z (O ⟨u.heap.size,0,N⟩) 0 10) (u.alloc (Ra (dP 10 (.int .u8 0)) 5)):=fun _=>by kernel_rfl
 refine(callsIn_wide (n:=3)).1 ?_;refine callsIn_of_wp_marks func29 A trivial ?_ A;simp only[ntmps29,dE,aS,a7,Nat.reduceAdd,Nat.reduceSub,cN,cO,dD,cS,bI,b_];gi_wp2_with (gi_at_call 61;refine(GO _ _ _).mono ?_;rintro e w'⟨rfl,rfl⟩);have b0:=h_ (w.alloc (Ra (dP 10 (.int .u8 0)) 5)) 58 (Z (O ⟨w.heap.size,0,N⟩) 0 10);rw[aQ]at b0;have X:=h_ ((w.alloc (Ra (dP 10 (.int .u8 0)) 5)).alloc (Ra #[Z (O ⟨w.heap.size,0,N⟩) 0 10] 58)) 3 (I J x);rw[aQ,aQ]at X;have r0:(w.alloc (Ra (dP 10 (.int .u8 0)) 5)).ownsRow w.heap.size 5 1 (Z (O ⟨w.heap.size,0,N⟩) 0 10) 0 []:=World.ownsRow_made w _ 10 (av _) (by decide) (by simp)
 have hB0:ay w.heap.size w (((w.alloc (Ra (dP 10 (.int .u8 0)) 5)).alloc (Ra #[Z (O ⟨w.heap.size,0,N⟩) 0 10] 58)).alloc (Ra #[I J x] 3)):=
  (((ax _ w).alloc (av _) _).alloc (by simp) _).alloc (by simp;omega) _
 have Y:=qJ x
 refine wpIn_rangeFunc_ownG A (by decide) (gf:=114) (lb:= #[Ru (O ⟨w.heap.size+1+1,0,N⟩)]) A trivial (enters_of func114 (by kernel_rfl) A)
  (yf 2 (w.heap.size+1+1) x hx1 hx2 _ (by simp) X.cell) (fun _ _=>trivial) (fun _ _ _ _ _ _ _ _=>trivial) (ax _ _) (fun _=>rfl)
  (fun pre W=>(∃v,Boxed W (w.heap.size+1) 58 v/\W.ownsRow w.heap.size 5 1 v pre.length (sw (marks pre))/\(∃g cap,v=Z (O ⟨g,0,N⟩) pre.length cap))/\ay w.heap.size w W)
  (fun _ _ _=>False)
  (OwnFrom.and (Own.from (holdsRow_own w.heap.size (w.heap.size+1) 58 5 1 (fun pre=>pre.length) (fun pre=>sw (marks pre)) (fun pre v=>∃g cap,v=Z (O ⟨g,0,N⟩) pre.length cap)) _) (ownFrom_below (av _) (by simp;omega)))
  (fun _ _ _ _ _ hs _ _=>hs)
  ⟨⟨_,b0.alloc _,(r0.alloc _).alloc _,⟨_,_,rfl⟩⟩,hB0⟩
  (fun y=>{tmps:= #[I J x,undef,U ⟨#[]⟩,Ru (O ⟨w.heap.size+1,0,N⟩), .int .u8 (y.val:Int),undef,Z (O ⟨w.heap.size,0,N⟩) 0 10,I J x, .func (.func 114) #[] #[Ru (O ⟨w.heap.size+1+1,0,N⟩)], .int .u8 (y.val:Int),undef,undef,undef,undef,undef,undef,undef,undef,undef,undef,undef,undef,undef,undef,undef,undef,undef],defers:=[]}) ?assign ?body ?done ?stop
 case assign=>intro l y W K hK;gi_wp2;exact hK
 case body=>
  rintro l pre y W⟨⟨v,hv,a,g,cap,rfl⟩,hB⟩F;have hy:=y.isLt;rcases List.eq_nil_or_concat pre with rfl|⟨q,z,rfl⟩;{have hc:=hv.cell;gi_wp2_with (gi_at_builtin;refine wpListIn_append_own _ A _ _ 58 A w.heap.size 5 i0 (.int .u8 0) 1 1 fN hi H hz1 hz2 A (by decide) _ _ _ A (a.alloc _) ⟨W.heap.size,0,N⟩ 1 1 [.int .u8 (y.val:Int)] rfl A (cell_one_new _ _ _) (by simp[Value.oneCell']) (by decide) (by decide) (by have:=hB.size;simp;omega) ?_;intro v' w1 b d _;obtain⟨g', o,rfl⟩:=ownsRow_succ b;obtain⟨i,s,m,r,hb2⟩:=hv.appended (by decide) a hB.size (by omega) b d;have R:=i.cell;have T:=i.frozen);exact⟨r.from _,trivial,⟨_,s,by rw[bI,<-bI [y],mj];simpa[sw,GW,cont,il (show y.val<256 by omega)]using m,⟨_,_,rfl⟩⟩,hB.trans hb2⟩}
  · rw[List.concat_eq_append]at hv a F⊢;rw[mj]at a;simp only[aw,aS,a7,bC]at hv a F;have hz:=z.isLt;have hc:=hv.cell;have hl:=a.cellAt q.length (by omega);have B:(sw (cont q++[UInt8.ofNat z.val]))[q.length]? =O (.int .u8 (z.val:Int)):=by{simp[sw,oy,il (show z.val<256 by omega)]};rw[B]at hl;clear B;have ak:=a.frozenAt q.length;have G:=a.stored q.length (.int .u8 ((z.val:Int)+128));rw[<-oy q,Jr,oy q]at G;obtain⟨f,C⟩:=G;have hne:O (w.heap.size+1)≠O g:=hv.not_row (by decide) a;have t:=hv.kept C hne;have k:ay w.heap.size W (W.setCell ⟨g,q.length,N⟩ (.int .u8 ((z.val:Int)+128))):=(ax _ W).setCell (p:=⟨g,q.length,N⟩) (a.lt g A).1 _;have E:=aZ W ⟨g,q.length,N⟩ (.int .u8 ((z.val:Int)+128));obtain⟨L,Q⟩:∃L,W.setCell ⟨g,q.length,N⟩ (.int .u8 ((z.val:Int)+128))=L:=⟨_,rfl⟩;rw[Q]at f C t k E;have aj:=t.cell
    have HS:=M (show sw (cont q)++[bd .u8 ((z.val:Int)+128)]++[bd .u8 (y.val:Int)]=sw (marks (q++[z]++[y]))from by
     rw[mj,GA];simp[sw,il (show y.val<256 by omega)];omega)
    gi_wp2_with (gi_at_builtin;refine wpListIn_append_own _ A _ _ 58 A w.heap.size 5 i0 (.int .u8 0) 1 1 fN hi H hz1 hz2 A (by decide) _ _ _ A (f.alloc _) ⟨L.heap.size,0,N⟩ 1 1 [.int .u8 (y.val:Int)] rfl A (cell_one_new _ _ _) (by simp[Value.oneCell']) (by unfold maxLen;omega) (by omega) (by have:=hB.size;have:=k.size;simp;omega) ?_;intro v' w1 b d _;obtain⟨g', o,rfl⟩:=ownsRow_succ b;obtain⟨i,s,m,r,hb2⟩:=t.appended (by decide) f (bc hB.size k.size) (by omega) b d;have R:=i.cell;have T:=i.frozen);rw[HS.out]at m;exact⟨(E.trans r).from _,trivial,⟨_,s,by simpa using m,⟨g', o,by simp⟩⟩,(hB.trans k).trans hb2⟩
 case done=>
  rintro D ys W hD rfl⟨⟨v,hv,a,g,cap,rfl⟩,hB⟩hK;have hc:=hv.cell
  have S:(convert 58 9 (Z (O ⟨g,0,N⟩) (oU x).length cap)).run ah W=.ok (U ⟨(az x).toArray⟩) W:=by
   have:=run_convert_bytes_back (P:=ah) W 58 9 5 ⟨g,0,N⟩ cap (az x) fN underlying5 bQ (fun j V=>by
    have al:j<(oU x).length:=(by simpa[az,jM]using V);have:=a.cellAt j (by omega);rw[wm,bC,this];simp only[sw,az]at V⊢;simp[V])
   rw[show(az x).length=(oU x).length from jM _]at this;exact this
  gi_wp2;refine⟨by simp, .inl ⟨_,_,rfl,run_takeDeferred hK, ?_⟩⟩;exact⟨_,results_tmp A _ _ _,rfl,hB.trans (belowK_b (w:=w) (av _) W D _ _ (by simp at hD;omega) hK A A)⟩
 case stop=>rintro D c pre W _ _ h _;exact h.elim
end
section
open Go.RowKit
structure jI(F:Nat ->Prop)(w w':ai):Prop where
 os:w'.os=w.os
 tape:w'.tape=w.tape
 output:w'.output=w.output
 size:w.heap.size<=w'.heap.size
 block:∀k,k<w.heap.size ->¬F k ->w'.heap[k]? =w.heap[k]?
def ej:Nat ->Prop:=fun _=>False
def du(b:Nat):Nat ->Prop:=fun k=>k=b
theorem jI.refl(F:Nat ->Prop)(w:ai):jI F w w:=⟨rfl,rfl,rfl,av _,fun _ _ _=>rfl⟩
theorem jI.trans{F G:Nat ->Prop}{a b c:ai}(h:jI F a b)(k:jI G b c)(d:∀i,i<a.heap.size ->G i ->F i):jI F a c:=
 ⟨k.os.trans h.os,k.tape.trans h.tape,k.output.trans h.output,bc h.size k.size,fun i hi hn=>(k.block i (cJ hi h.size) fun g=>hn (d i hi g)).trans (h.block i hi hn)⟩
theorem jI.mono{F G:Nat ->Prop}{a b:ai}(h:jI F a b)(c:∀i,F i ->G i):jI G a b:=⟨h.os,h.tape,h.output,h.size,fun i hi hn=>h.block i hi fun f=>hn (c i f)⟩
theorem jI.xo{F:Nat ->Prop}{B:Nat}{w w':ai}(h:ay B w w')(hB:∀k,k<w.heap.size ->B<=k ->F k):jI F w w':=
 ⟨h.os,h.tape,h.output,h.size,fun k hk hn=>h.block k (Nat.lt_of_not_le fun a=>hn (hB k hk a))⟩
theorem jI.eP{F:Nat ->Prop}{w w':ai}(h:ay w.heap.size w w') :jI F w w':=.xo h fun _ h1 h2=>absurd h1 (by omega)
theorem jI.below{F:Nat ->Prop}{B:Nat}{w w':ai}(h:jI F w w')(hB:B<=w.heap.size)(hF:∀k,F k ->B<=k):ay B w w':=
 ⟨h.os,h.tape,h.output,h.size,fun k hk=>h.block k (by omega) fun f=>by have:=hF k f;omega⟩
theorem jI.aC{w w':ai}(h:jI ej w w') :ay w.heap.size w w':=h.below (av _) fun _ f=>f.elim
theorem jI.mL{F:Nat ->Prop}{r:Option Nat}{w w':ai}(h:w.grownBy w' r)(hr:∀k,r=O k ->F k):jI F w w':=
 ⟨h.os,h.tape,h.output,h.size,fun k hk hn=>h.block k hk fun e=>hn (hr k e.symm)⟩
theorem jI.grown{w w':ai}{b:Nat}(h:jI (du b) w w') :w.grownBy w' (O b):=⟨h.os,h.tape,h.output,h.size,fun k hk hn=>h.block k hk fun e=>hn (by rw[show k=b from e])⟩
theorem gX(F:Nat ->Prop)(w:ai)(o:Obj):jI F w (w.alloc o):=⟨rfl,rfl,rfl,by simp,fun k hk _=>Below.heap_alloc w o k hk⟩
theorem nK(F:Nat ->Prop)(w:ai):jI F w w.drew:=⟨rfl,rfl,rfl,av _,fun _ _ _=>rfl⟩
theorem Fl{F:Nat ->Prop}(w:ai)(b j:Nat)(v:ar)(hb:F b):jI F w (w.setCell ⟨b,j,N⟩ v):=
 ⟨rfl,rfl,rfl,by simp[af],fun k _ hn=>fg w ⟨b,j,N⟩ v k fun e=>hn (by rw[show k=b from e];exact hb)⟩
structure cM where
 gY:Nat ->Prop
 hold:ai ->Prop
structure cM.at(r:cM)(W:ai):Prop where
 dom:∀b,r.gY b ->b<W.heap.size
 loc:∀W':ai,(∀b,r.gY b ->W'.heap[b]? =W.heap[b]?) ->r.hold W'
theorem cM.at.hold{r:cM}{W:ai}(h:r.at W):r.hold W:=h.loc W fun _ _=>rfl
theorem cM.at.bF{r:cM}{W W':ai}{G:Nat ->Prop}(h:r.at W)(hc:jI G W W')(hd:∀b,r.gY b ->¬G b):r.at W':=
 ⟨fun b hb=>cJ (h.dom b hb) hc.size,fun a h2=>h.loc a fun b hb=>(h2 b hb).trans (hc.block b (h.dom b hb) (hd b hb))⟩
def eH(b:Nat)(o:Obj):cM:=⟨du b,fun W=>W.heap[b]? =O o⟩
theorem fe{b:Nat}{o:Obj}{W:ai}(h:W.heap[b]? =O o):(eH b o).at W:=
 ⟨fun k hk=>by cases hk;exact(bP.1 h).1,fun W' a=>(a b A).trans h⟩
structure St(F:Nat ->Prop)(w0:ai)(L:List cM)(W:ai):Prop where
 low:jI F w0 W
 mem:∀r∈L,r.at W/\∀b,r.gY b ->b<w0.heap.size ->F b
 apart:L.Pairwise fun r s=>∀b,r.gY b ->¬s.gY b
theorem St.start(F:Nat ->Prop)(w:ai):St F w [] w:=⟨jI.refl _ _,by simp, .nil⟩
theorem St.nth{F:Nat ->Prop}{w0 W:ai}{L:List cM}(h:St F w0 L W)(i:Nat)(r:cM)(hr:L[i]? =O r):r.at W:=(h.mem r (aP hr)).1
theorem St.get{F:Nat ->Prop}{w0 W:ai}{L:List cM}(h:St F w0 L W)(i:Nat)(r:cM)(hr:L[i]? =O r):r.hold W:=(h.nth i r hr).hold
theorem St.keep{F:Nat ->Prop}{w0 W W':ai}{L:List cM}(h:St F w0 L W)(hc:jI ej W W') :St F w0 L W':=
 ⟨h.low.trans hc fun _ _ f=>f.elim,fun r hr=>⟨(h.mem r hr).1.bF hc fun _ _ f=>f.elim,(h.mem r hr).2⟩,h.apart⟩
theorem St.below{F:Nat ->Prop}{w0 W W':ai}{L:List cM}(h:St F w0 L W)(hc:ay W.heap.size W W') :St F w0 L W':=h.keep (.eP hc)
theorem St.drew{F:Nat ->Prop}{w0 W:ai}{L:List cM}(h:St F w0 L W):St F w0 L W.drew:=h.keep (nK _ _)
theorem St.more{F:Nat ->Prop}{w0 W:ai}{L:List cM}(h:St F w0 L W){r:cM}(hr:r.at W)(hn:∀b,r.gY b ->b<w0.heap.size ->F b)(hd:∀s∈L,∀b,s.gY b ->¬r.gY b):St F w0 (r::L) W:=
 ⟨h.low,fun s hs=>(bh.1 hs).elim (fun e=>e▸⟨hr,hn⟩) (fun hs=>h.mem s hs),eF.2 ⟨fun s hs b hb hb2=>hd s hs b hb2 hb,h.apart⟩⟩
theorem St.new{F:Nat ->Prop}{w0 W W':ai}{L:List cM}(h:St F w0 L W)(hc:jI ej W W'){r:cM}(hr:r.at W')(hn:∀b,r.gY b ->W.heap.size<=b):St F w0 (r::L) W':=
 (h.keep hc).more hr (fun b hb a=>absurd a (by have:=h.low.size;have:=hn b hb;omega)) fun s hs b hb hb2=>by have:=(h.mem s hs).1.dom b hb;have:=hn b hb2;omega
theorem St.alloc{F:Nat ->Prop}{w0 W:ai}{L:List cM}(h:St F w0 L W)(o:Obj):St F w0 (eH W.heap.size o::L) (W.alloc o):=
 h.new (gX _ _ _) (fe (dW W o)) fun b hb=>by cases hb;exact av _
theorem St.call{F:Nat ->Prop}{w0 W W':ai}{L:List cM}(h:St F w0 L W)(i:Nat)(r:cM)(hr:L[i]? =O r)(hc:jI r.gY W W'){r':cM}(g:r'.at W')(hn:∀b,r'.gY b ->r.gY b\/W.heap.size<=b):St F w0 (L.set i r') W':=by
 have hm:r∈L:=aP hr;have hi:i<L.length:=(aA.1 hr).1;have c:∀(j k:Nat) (s t:cM),L[j]? =O s ->L[k]? =O t ->j≠k ->∀b,s.gY b ->¬t.gY b:=by{intro j k s t hs m d b hb1 hb2;have hp:=eK.1 h.apart;obtain⟨a,rfl⟩:=aA.1 hs;obtain⟨hk,rfl⟩:=aA.1 m;rcases ed j k with f|hge;{exact hp j k a hk f b hb1 hb2};{exact hp k j hk a (by omega) b hb2 hb1}};have hold:∀(j:Nat) (s:cM),L[j]? =O s ->j≠i ->s.at W'/\∀b,s.gY b ->¬r'.gY b:=by{intro j s hs a;have hs1:=(h.mem s (aP hs)).1;refine⟨hs1.bF hc fun b hb=>c j i s r hs hr a b hb,fun b hb hb2=> ?_⟩;rcases hn b hb2 with h1|h1;{exact c j i s r hs hr a b hb h1};{have:=hs1.dom b hb;omega}};refine⟨h.low.trans hc fun k hk hf=>(h.mem r hm).2 k hf hk,fun s hs=> ?_, ?_⟩
 · obtain⟨j,a⟩:=dC hs;rw[List.getElem?_set]at a;split at a
   · rename_i e;subst e;first|cases a|(rw[Rs hi]at a;cases a)
     refine⟨g,fun b hb l=> ?_⟩;rcases hn b hb with h1|h1;{exact(h.mem r hm).2 b h1 l};{have:=h.low.size;omega}
   {rename_i e;exact⟨(hold j s a (fun e2=>e e2.symm)).1,(h.mem s (aP a)).2⟩}
 {refine eK.2 fun j k a hk d b hb1 hb2=> ?_;simp only[List.length_set]at a hk;rw[List.getElem_set]at hb1 hb2;split at hb1;{rename_i e;subst e;rw[Rq (by omega)]at hb2;exact(hold k _ (an hk) (by omega)).2 b hb2 hb1};{split at hb2;{rename_i e1 e2;subst e2;exact(hold j _ (an a) (by omega)).2 b hb1 hb2};{exact c j k _ _ (an a) (an hk) (by omega) b hb1 hb2}}}
theorem St.set{F:Nat ->Prop}{w0 W:ai}{L:List cM}(h:St F w0 L W)(i:Nat){b:Nat}{cs:Array ar}{T:bR}{fr:Nat×Nat}(hr:L[i]? =O (eH b (Ra cs T fr)))(j:Nat)(v:ar):St F w0 (L.set i (eH b (Ra (cs.setIfInBounds j v) T fr))) (W.setCell ⟨b,j,N⟩ v):=by have hb:W.heap[b]? =O (Ra cs T fr):=h.get i _ hr;refine h.call i _ hr (Fl W b j v A) (fe ?_) fun k hk=>.inl hk;simp[af,Array.getElem?_modify,hb]
theorem St.grown{F:Nat ->Prop}{w0 W W':ai}{L:List cM}(h:St F w0 L W)(i:Nat){b:Nat}{o:Obj}(hr:L[i]? =O (eH b o))(hg:W.grownBy W' (O b))(o':Obj)(hb:W'.heap[b]? =O o') :St F w0 (L.set i (eH b o')) W':=
 h.call i _ hr (.mL hg fun k e=>by cases e;exact rfl) (fe hb) fun _ hk=>.inl hk
theorem St.a6{F:Nat ->Prop}{w0 W:ai}{L:List cM}(h:St F w0 L W)(o:Obj)(n:Nat)(hn:W.heap.size=n):St F w0 (eH n o::L) (W.alloc o):=hn▸h.alloc o
theorem St.aB{F:Nat ->Prop}{w0 W:ai}{L:List cM}(h:St F w0 L W)(i:Nat){b:Nat}{cs:List ar}{T:bR}{fr:Nat×Nat}(hr:L[i]? =O (eH b (Ra cs.toArray T fr)))(j:Nat)(v:ar){L':List cM}(a:L.set i (eH b (Ra (cs.set j v).toArray T fr))=L') :St F w0 L' (W.setCell ⟨b,j,N⟩ v):=by subst a;have:=h.set i hr j v;rwa[aD]at this
theorem St.drop{F:Nat ->Prop}{w0 W:ai}{L:List cM}(h:St F w0 L W)(i:Nat):St F w0 (L.eraseIdx i) W:=
 ⟨h.low,fun r hr=>h.mem r (iX hr),h.apart.sublist (List.eraseIdx_sublist ..)⟩
theorem St.cell{F:Nat ->Prop}{w0 W:ai}{L:List cM}(h:St F w0 L W)(i j:Nat){b:Nat}{cs:Array ar}{T:bR}{v:ar}(hr:L[i]? =O (eH b (Ra cs T (0,0))))(a:cs[j]? =O v):W.cell? ⟨b,j,N⟩=O v/\W.frozen? ⟨b,j,N⟩=false/\b<W.heap.size:=by have hb:W.heap[b]? =O (Ra cs T (0,0)):=h.get i _ hr;refine⟨?_, ?_,(bP.1 hb).1⟩;{simp[fV,hb,a]};{simp[gn,hb]}
theorem St.sR{F:Nat ->Prop}{w0 W:ai}{L:List cM}(h:St F w0 L W)(i j:Nat){b:Nat}{cs:Array ar}{T:bR}{v:ar}(hr:L[i]? =O (eH b (Ra cs T (0,0))))(a:cs[j]? =O v):W.cell? ⟨b,j,N⟩=O v/\W.frozen? ⟨b,j,N⟩=false/\b<W.heap.size:=h.cell i j hr a
theorem St.ne{F:Nat ->Prop}{w0 W:ai}{L:List cM}(h:St F w0 L W)(i j:Nat){b c:Nat}{o o':Obj}(hi:L[i]? =O (eH b o))(m:L[j]? =O (eH c o'))(l:i≠j):b≠c:=by intro e;subst e;have hp:=eK.1 h.apart;obtain⟨a,d⟩:=aA.1 hi;obtain⟨f,g⟩:=aA.1 m;rcases ed i j with k|hge;{exact hp i j a f k b (by rw[d];rfl) (by rw[g];rfl)};{exact hp j i f a (by omega) b (by rw[g];rfl) (by rw[d];rfl)}
theorem St.aR{F:Nat ->Prop}{w0 W:ai}{L:List cM}(h:St F w0 L W)(i:Nat){b:Nat}{o:Obj}(hr:L[i]? =O (eH b o)):W.heap[b]? =O o:=h.get i _ hr
theorem St.kX{F:Nat ->Prop}{w:ai}{b:Nat}{o:Obj}(hb:w.heap[b]? =O o)(hF:F b):St F w [eH b o] w:=
 (St.start F w).more (fe hb) (fun k hk _=>by cases hk;exact hF) fun _ h=>by simp at h
theorem St.first{F:Nat ->Prop}{w0 W:ai}{L:List cM}(h:St F w0 L W){r:cM}(hr:r.at w0)(hd:∀b,r.gY b ->¬F b):r.hold W:=(hr.bF h.low hd).hold
theorem St.base{F:Nat ->Prop}{w0 W:ai}{L:List cM}(h:St F w0 L W):w0.heap.size<=W.heap.size:=h.low.size
theorem St.front{F:Nat ->Prop}{w0 W:ai}{L:List cM}(h:St F w0 L W)(i:Nat)(r:cM)(hr:L[i]? =O r){L':List cM}(f:L.eraseIdx i=L') :St F w0 (r::L') W:=by subst f;have hp:=eK.1 h.apart;obtain⟨hi,rfl⟩:=aA.1 hr;refine⟨h.low,fun s hs=> ?_,eF.2 ⟨fun s hs b hb1 hb2=> ?_,h.apart.sublist (List.eraseIdx_sublist ..)⟩⟩;{rcases bh.1 hs with e|hs;{subst e;exact h.mem _ (jv hi)};{exact h.mem s (iX hs)}};{obtain⟨j,d⟩:=dC hs;rw[List.getElem?_eraseIdx]at d;split at d;{rename_i c;obtain⟨a,rfl⟩:=aA.1 d;exact hp j i a hi c b hb2 hb1};{rename_i c;obtain⟨a,rfl⟩:=aA.1 d;exact hp i (j+1) hi a (by omega) b hb1 hb2}}
theorem St.m8{F:Nat ->Prop}{w0 W:ai}{L:List cM}{r s:cM}(h:St F w0 (r::s::L) W){t:cM}(a:t.at W)(hf:∀b,t.gY b ->r.gY b\/s.gY b):St F w0 (t::L) W:=by have h1:=eF.1 h.apart;have h2:=eF.1 h1.2;refine⟨h.low,fun u hu=> ?_,eF.2 ⟨fun u hu b hb hb2=> ?_,h2.2⟩⟩;{rcases bh.1 hu with e|hu;{subst e;refine⟨a,fun b hb=> ?_⟩;rcases hf b hb with h3|h3;{exact(h.mem r (by simp)).2 b h3};{exact(h.mem s (by simp)).2 b h3}};{exact h.mem u (by simp[hu])}};{rcases hf b hb with h3|h3;{exact h1.1 u (by simp[hu]) b h3 hb2};{exact h2.1 u hu b h3 hb2}}
theorem St.CL{F:Nat ->Prop}{w0 W:ai}{L:List cM}{r:cM}(h:St F w0 (r::L) W){t:cM}(a:t.at W)(hf:∀b,t.gY b ->r.gY b):St F w0 (t::L) W:=by have h1:=eF.1 h.apart;refine⟨h.low,fun u hu=> ?_,eF.2 ⟨fun u hu b hb hb2=>h1.1 u hu b (hf b hb) hb2,h1.2⟩⟩;rcases bh.1 hu with e|hu;{subst e;exact⟨a,fun b hb=>(h.mem r (by simp)).2 b (hf b hb)⟩};{exact h.mem u (by simp[hu])}
theorem St.gi{F:Nat ->Prop}{w0 W W':ai}{L:List cM}(h:St F w0 L W)(i:Nat)(r:cM)(hr:L[i]? =O r)(hc:jI r.gY W W'){r' t:cM}(d:r'.at W')(hn:∀b,r'.gY b ->r.gY b)(g:t.at W')(c:∀b,t.gY b ->W.heap.size<=b){L':List cM}(e:L.set i r'=L') :St F w0 (t::L') W':=by subst e;refine(h.call i r hr hc d fun b hb=>.inl (hn b hb)).more g (fun b hb f=>absurd f (by have:=h.low.size;have:=c b hb;omega)) fun s hs b hb hb2=> ?_;have hge:=c b hb2;obtain⟨j,a⟩:=dC hs;rw[List.getElem?_set]at a;split at a;{split at a;{cases a;have:=(h.nth i r hr).dom b (hn b hb);omega};{cases a}};{have:=(h.mem s (aP a)).1.dom b hb;omega}
theorem St.gu{F:Nat ->Prop}{w0 W W':ai}{L:List cM}{b:Nat}{o o':Obj}(h:St F w0 L W)(i:Nat)(hr:L[i]? =O (eH b o))(hc:jI (du b) W W')(hb:W'.heap[b]? =O o'){L':List cM}(a:L.set i (eH b o') =L') :St F w0 L' W':=by subst a;exact h.call i _ hr hc (fe hb) fun _ hk=>.inl hk
theorem St.fresh{w0 W:ai}{L:List cM}{b:Nat}{o:Obj}{t:cM}(h:St (du b) w0 L W)(i j:Nat)(hi:L[i]? =O t)(l:L[j]? =O (eH b o))(g:i≠j):∀k,t.gY k ->w0.heap.size<=k:=by intro k hk;rcases ed k w0.heap.size with h1|h1;{have e:k=b:=(h.mem t (aP hi)).2 k hk h1;subst e;have hp:=eK.1 h.apart;obtain⟨a,rfl⟩:=aA.1 hi;obtain⟨c,d⟩:=aA.1 l;rcases ed i j with f|hge;{exact(hp i j a c f k hk (by rw[d];rfl)).elim};{exact(hp j i c a (by omega) k (by rw[d];rfl) hk).elim}};{exact h1}
section
variable {P:Program} {F:Nat ->Prop} {w0 W:ai} {L:List cM}
theorem bW{X:ai}(e:W=X)(h:St F w0 L W):Hid (St F w0 L X):=by subst e;exact M h
theorem iD{W X:ai}(e:W=X){n:Nat}(h:n<=W.heap.size):n<=X.heap.size:=by subst e;exact h
def ak(W:ai)(b:Nat):Nat ->List ar ->Prop
 |_,[]=>True
 |j,v::l=>(W.cell? ⟨b,j,N⟩=O v/\W.frozen? ⟨b,j,N⟩=false)/\ak W b (j+1) l
theorem Bb{b:Nat}{cs:Array ar}{T:bR}(h:W.heap[b]? =O (Ra cs T (0,0))):∀(l:List ar) (j:Nat),cs.toList.drop j=l ->ak W b j l
 | [],_,_=>trivial
 |v::l,j,e=>by have a:cs[j]? =O v:=by{have:=congrArg (fun x=>x[0]?) e;rw[List.getElem?_drop]at this;simpa using this};refine⟨⟨by simp[fV,h,a],by simp[gn,h]⟩,Bb h l (j+1) ?_⟩;have:=congrArg (List.drop 1) e;rwa[List.drop_drop,cU,dA]at this
theorem St.cs(H:Hid (St F w0 L W))(i:Nat){b:Nat}{l:List ar}{T:bR}(hr:L[i]? =O (eH b (Ra l.toArray T (0,0)))):ak W b 0 l/\b<W.heap.size:=
 ⟨Bb (H.out.aR i hr) l 0 (by simp),(H.out.nth i _ hr).dom b A⟩
end
end
section
open Go.RowKit
class f_(W:ai)(w0:outParam ai)(F:outParam (Nat ->Prop))(L:outParam (List cM)):Prop where
 st:St F w0 L W
class MX(W:ai)(n:outParam Nat):Prop where
 eq:W.heap.size=n
instance(priority:=low)QA(W:ai):MX W W.heap.size:=⟨rfl⟩
instance PQ{W:ai}{n:Nat}{o:Obj}[h:MX W n]:MX (W.alloc o) (n+1):=⟨by have:=h.eq;simp[this]⟩
instance Qz{W:ai}{n:Nat}{a:Addr}{v:ar}[h:MX W n]:MX (W.setCell a v) n:=⟨by have:=h.eq;simp[af,this]⟩
instance Qa{W:ai}{n:Nat}[h:MX W n]:MX W.drew n:=⟨h.eq⟩
variable {W W' w0:ai} {F:Nat ->Prop} {L L':List cM}
class og(l:List ar)(j:Nat)(v:ar)(l':outParam (List ar)):Prop where
 eq:l.set j v=l'
instance Qt{x v:ar}{l:List ar}:og (x::l) 0 v (v::l):=⟨rfl⟩
instance Qu{x v:ar}{l l':List ar}{j:Nat}[h:og l j v l'] :og (x::l) (j+1) v (x::l') :=⟨by rw[ae,h.eq]⟩
class oe(l:List ar)(j:Nat)(v:outParam ar):Prop where
 eq:l[j]? =O v
instance Qq{x:ar}{l:List ar}:oe (x::l) 0 x:=⟨rfl⟩
instance Qr{x v:ar}{l:List ar}{j:Nat}[h:oe l j v]:oe (x::l) (j+1) v:=⟨h.eq⟩
class qd(L:List cM)(b:Nat)(o:outParam Obj):Prop where
 mem:eH b o∈L
instance QJ{b:Nat}{o:Obj}{L:List cM}:qd (eH b o::L) b o:=⟨df⟩
instance(priority:=low)QK{b:Nat}{o:Obj}{r:cM}{L:List cM}[h:qd L b o]:qd (r::L) b o:=⟨cE _ h.mem⟩
class AW(L:List cM)(b:Nat)(o':Obj)(L':outParam (List cM)):Prop where
 at':∃i o,L[i]? =O (eH b o)/\L.set i (eH b o') =L'
instance QS{b:Nat}{o o':Obj}{L:List cM}:AW (eH b o::L) b o' (eH b o'::L):=⟨0,o,rfl,rfl⟩
instance(priority:=low)QT{b:Nat}{o':Obj}{r:cM}{L L':List cM}[h:AW L b o' L'] :AW (r::L) b o' (r::L') :=by obtain⟨i,o,h1,h2⟩:=h.at'; exact⟨i+1,o,h1,by rw[ae,h2]⟩
class Lc(L:List cM)(b j:Nat)(v:ar)(L':outParam (List cM)):Prop where
 at':∃i cs T fr,L[i]? =O (eH b (Ra cs T fr))/\L.set i (eH b (Ra (cs.setIfInBounds j v) T fr))=L'
instance Q5{b j:Nat}{v:ar}{cs a:List ar}{T:bR}{fr:Nat×Nat}{L:List cM}[h:og cs j v a]:Lc (eH b (Ra cs.toArray T fr)::L) b j v (eH b (Ra a.toArray T fr)::L):=
 ⟨0,_,T,fr,rfl,by rw[aD,h.eq];rfl⟩
instance(priority:=low)Q6{b j:Nat}{v:ar}{r:cM}{L L':List cM}[h:Lc L b j v L'] :Lc (r::L) b j v (r::L') :=by obtain⟨i,cs,T,fr,h1,h2⟩:=h.at'; exact⟨i+1,cs,T,fr,h1,by rw[ae,h2]⟩
instance FV{n:Nat}{o:Obj}[z:MX W n][h:f_ W w0 F L]:f_ (W.alloc o) w0 F (eH n o::L):=⟨h.st.a6 o n z.eq⟩
instance Qx{b j:Nat}{v:ar}[h:f_ W w0 F L][s:Lc L b j v L'] :f_ (W.setCell ⟨b,j,N⟩ v) w0 F L':=by obtain⟨i,cs,T,fr,h1,rfl⟩:=s.at'; exact⟨h.st.set i h1 j v⟩
instance P' [h:f_ W w0 F L]:f_ W.drew w0 F L:=⟨h.st.drew⟩
theorem uJ(w:ai):f_ w w ej []:=⟨.start _ _⟩
theorem CJ{w:ai}{b:Nat}{o:Obj}(h:w.heap[b]? =O o):f_ w w (du b) [eH b o]:=⟨.kX h A⟩
theorem Di [h:f_ W w0 F L](b:ay W.heap.size W W') :f_ W' w0 F L:=⟨h.st.below b⟩
theorem Ky{b:Nat}{o':Obj}[h:f_ W w0 F L](c:jI (du b) W W')(hb:W'.heap[b]? =O o')[p:AW L b o' L'] :f_ W' w0 F L':=by obtain⟨i,o,h1,rfl⟩:=p.at'; exact⟨h.st.call i _ h1 c (fe hb) fun _ hk=>.inl hk⟩
theorem CI{r:cM}[h:f_ W w0 F L](b:ay W.heap.size W W')(hr:r.at W')(hn:∀k,r.gY k ->W.heap.size<=k):f_ W' w0 F (r::L):=⟨h.st.new (.eP b) hr hn⟩
theorem cW [h:f_ W w0 ej L]:ay w0.heap.size w0 W:=h.st.low.aC
@[go_sem]theorem QN [h:f_ W w0 ej L]:ay w0.heap.size w0 W<->True:=iff_true_intro cW
theorem xh [h:f_ W w0 F L]:jI F w0 W:=h.st.low
theorem kR{b:Nat}{o:Obj}[h:f_ W w0 F L][k:qd L b o]:W.heap[b]? =O o:=(h.st.mem _ k.mem).1.hold
theorem OI{r:cM}[h:f_ W w0 F L](i:Nat)(hr:L[i]? =O r):r.at W:=h.st.nth i r hr
class AS(L:List cM)(b j:Nat)(v:outParam ar):Prop where
 ok:∃cs T,eH b (Ra cs T (0,0))∈L/\cs[j]? =O v
instance cell0{b j:Nat}{v:ar}{cs:List ar}{T:bR}{L:List cM}[h:oe cs j v]:AS (eH b (Ra cs.toArray T (0,0))::L) b j v:=⟨_,T,df,by simpa using h.eq⟩
instance(priority:=low)Qi{b j:Nat}{v:ar}{r:cM}{L:List cM}[h:AS L b j v]:AS (r::L) b j v:=by obtain⟨cs,T,h1,h2⟩:=h.ok;exact⟨cs,T,cE _ h1,h2⟩
@[simp high,go_sem high]theorem OP{b j:Nat}{v:ar}[h:f_ W w0 F L][k:AS L b j v]:W.cell? ⟨b,j,N⟩=O v:=by obtain⟨cs,T,h1,h2⟩:=k.ok;have hb:W.heap[b]? =O (Ra cs T (0,0)):=(h.st.mem _ h1).1.hold;simp[fV,hb,h2]
@[simp high,go_sem high]theorem Qk{b j:Nat}{v:ar}[h:f_ W w0 F L][k:AS L b j v]:W.frozen? ⟨b,j,N⟩=false:=by obtain⟨cs,T,h1,h2⟩:=k.ok;have hb:W.heap[b]? =O (Ra cs T (0,0)):=(h.st.mem _ h1).1.hold;simp[gn,hb]
@[go_sem]theorem QI{a b:Int}(h:¬a=b):(a==b)=false:=by simpa using h
end
section
open Go.RowKit
theorem wg{P:Program}{x y:Code}{Q:Exit ->Act ->ai ->Prop}{a:Act}{w:ai}(h:∀K:Act ->ai ->Prop,(∀a w,y.wp P Q a w ->K a w) ->x.wp P (Exit.then K Q) a w):(Code.seq x y).wp P Q a w:=wp_seq (h _ fun _ _ h=>h)
theorem sG(w:ai)(g:Nat)(cs:Array ar):jI (du g) w (w.setRow g cs):=⟨rfl,rfl,rfl,by simp,fun k _ hn=>setRow_other w g k cs fun e=>hn e⟩
theorem wpList_want{P:Program}{ops:Array Oper}{rest:List Oper}{o:Oper}{a:Act}{w:ai}{Q:Exit ->Act ->ai ->Prop}(hw:bB o (yielded ops a.tmps)=true)
 (h:∀K:Act ->ai ->Prop,(∀a w,wpList P ops Q rest a w ->K a w) ->o.wp P a w K Q):wpList P ops Q (o::rest) a w:=
 wpList_step fun K hK=>by rw[Rs hw];exact h K hK
theorem nq{P:Program}{ops:Array Oper}{rest:List Oper}{o:Oper}{a:Act}{w:ai}{Q:Exit ->Act ->ai ->Prop}(T:bR)(x:Operand)(ho:o.op=.load T x)(hw:bB o (yielded ops a.tmps)=true)
 (g:Nat)(hx:a.eval x=Ru (O ⟨g,0,N⟩))(cs:Array ar)(E:bR)(fr:Nat×Nat)(d:TypeDesc)(hg:w.heap[g]? =O (Ra cs E fr))
 (hu:P.underlying T=O d)(hd:(match d with| .struct _| .array _ _=>true|_=>false)=true)(hi:(P.info? T).map (·.size)=O cs.size)
 (h:wpList P ops Q rest (a.put o.dst (Rj cs)) w):wpList P ops Q (o::rest) a w:=
 wpList_want hw fun _ hK=>wp_load_row T x ho g hx E cs fr d hg hu hd hi (hK _ _ h)
theorem kV{P:Program}{ops:Array Oper}{rest:List Oper}{o:Oper}{a:Act}{w:ai}{Q:Exit ->Act ->ai ->Prop}(T:bR)(x y:Operand)(ho:o.op=.store T x y)(hw:bB o (yielded ops a.tmps)=true)
 (g:Nat)(cs:Array ar)(hx:a.eval x=Ru (O ⟨g,0,N⟩))(hy:a.eval y=Rj cs)(E:bR)(kX:Array ar)(hg:w.heap[g]? =O (Ra kX E (0,0)))(hi:(P.info? T).map (·.size)=O cs.size)
 (hold:kX.size=cs.size)(h1:cs.all (·.oneCell') =true)
 (h:∀w', jI (du g) w w' ->w'.heap[g]? =O (Ra cs E (0,0)) ->wpList P ops Q rest (a.put o.dst undef) w') :wpList P ops Q (o::rest) a w:=
 wpList_want hw fun _ hK=>wp_store_row T x y ho g cs hx hy E kX hg hi hold h1 (hK _ _ (h _ (sG w g cs) (setRow_heap w g kX cs E (0,0) hg)))
structure K5(w w':ai)(o:Obj):Prop where
 bF:jI ej w w'
 aR:w'.heap[w.heap.size]? =O o
 size:w'.heap.size=w.heap.size+1
theorem Ek(w:ai)(o:Obj):K5 w (w.alloc o) o:=⟨gX _ _ _,dW w o,by simp⟩
theorem St.Ek{F:Nat ->Prop}{w0 W W':ai}{L:List cM}(h:St F w0 L W){o:Obj}(hn:K5 W W' o){n:Nat}(hw:W.heap.size=n):St F w0 (eH n o::L) W':=by subst hw;exact h.new hn.bF (fe hn.aR) fun b hb=>by cases hb;exact av _
theorem vJ{P:Program}{ops:Array Oper}{rest:List Oper}{o:Oper}{a:Act}{w:ai}{Q:Exit ->Act ->ai ->Prop}(T:bR)(x:Operand)(ho:o.op=.box T x)(hw:bB o (yielded ops a.tmps)=true)(cs:Array ar)(hx:a.eval x=Rj cs)(h:∀w', K5 w w' (Ra cs T) ->wpList P ops Q rest (a.put o.dst (Ru (O ⟨w.heap.size,0,N⟩))) w') :wpList P ops Q (o::rest) a w:=by refine wpList_want hw fun K hK=> ?_;unfold Oper.wp execOp;simp only[ho,hx,cG,Instr.box,newVar,newRow,run_newObj_alloc,gm,de];exact hK _ _ (h _ (Go.Proofs.YtbcbefpninlfiaaGreatDoor.Ek w _))
theorem sh{P:Program}{ops:Array Oper}{rest:List Oper}{o:Oper}{a:Act}{w:ai}{Q:Exit ->Act ->ai ->Prop}(T:bR)(ho:o.op=.alloc T)(hw:bB o (yielded ops a.tmps)=true)(cs:Array ar)(b:∀W,(zeroValue T).run P W=.ok (Rj cs) W)(h:∀w', K5 w w' (Ra cs T) ->wpList P ops Q rest (a.put o.dst (Ru (O ⟨w.heap.size,0,N⟩))) w') :wpList P ops Q (o::rest) a w:=by refine wpList_want hw fun K hK=> ?_;unfold Oper.wp execOp;simp only[ho,cG,Instr.alloc,b,newVar,newRow,run_newObj_alloc,gm,de];exact hK _ _ (h _ (Go.Proofs.YtbcbefpninlfiaaGreatDoor.Ek w _))
theorem oB(W:ai):(zeroValue 53).run ah W=.ok (Rj #[I J 0,I J 0,I J 0,I J 0,Z N 0 0,I J 0,I J 0,U ⟨#[]⟩,U ⟨#[]⟩,Z N 0 0,I J 0,U ⟨#[]⟩,U ⟨#[]⟩,U ⟨#[]⟩,I J 0,I J 0,U ⟨#[]⟩,U ⟨#[]⟩]) W:=by kernel_rfl
theorem ef:Tryz.prog.underlying 53=O (.struct (Tryz.prog.fieldsOf 53)):=by kernel_rfl
theorem e_:(Tryz.prog.info? 53).map (·.size)=O 18:=by kernel_rfl
theorem Mv(fn:Func)(tmps:Array ar)(i g:Nat)(W:ai)(cs:Array ar)(fr:Nat×Nat)(b:fn.results= #[.cell i 53])(h1:tmps.getD i undef=Ru (O ⟨g,0,N⟩))(hg:W.heap[g]? =O (Ra cs 53 fr))(a:cs.size=18):(results fn tmps).run ah W=.ok (Rj cs) W:=by
 have c:=run_loadVar_row (P:=ah) W g 53 53 cs fr _ hg ef A (by rw[e_,a]);have ha:(asAddr (tmps.getD i undef)).run ah W=.ok ⟨g,0,N⟩ W:=by rw[h1];simp[asAddr]
 unfold results;rw[b];simp[-Array.getD_eq_getD_getElem?,cG,ha,c]
end
end Go.Proofs.YtbcbefpninlfiaaGreatDoor
