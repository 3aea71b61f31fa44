import Derived.Test.YtbcbefpninlfiaaGreatDoorC14
set_option maxHeartbeats 64000000
set_option maxRecDepth 100000
set_option linter.all false
open Go.Obj renaming cells->Ra
open Option renaming none->N,some->O
open Go.Value renaming agg->Rj,bool->Ri,int->I,pointer->Ru,slice->Z,string->U,tuple->Rx,int->bd
open Go.IntKind renaming i64->J
open Go renaming Calls->aJ,Value->ar,World->ai
open Go.Proofs.Tryz renaming prog->ah
open Go.Ending renaming returned->Rh
open Go.RowKit renaming Below->ay
open Go.World renaming alloc->aq,putObj_heap_other->fw,setCell->af
open Or renaming inl->aI,inr->dJ
open ByteArray renaming size->gq
open Go.Lib renaming ownsRow_kind->ia
open Go.KeepsOthers renaming drew->ju,setCell->aZ
namespace Go.Proofs.YtbcbefpninlfiaaGreatDoor
open Go.Proofs.Tryz
section
open Go.RowKit Mor
def wF(m:Nat)(c:Int):Obj:=Ra #[.map (O m),I J c] 352 (0,0)
def ki(q m:Nat)(k n:Int)(s:ByteArray)(b:Nat)(r:Bool):Prop:=∀(ka:Option Addr) (a:Nat) (c:Int) (w:ai),w.heap[q]? =O (wF m c) ->w.heap[m]? =O (.map lM 12) ->jJ w ->
 aJ ah 281 #[Ru (O ⟨q,0,N⟩),Rj #[I J k,I J n,U s,Z ka b a]] w fun e w'=>e=Rh (Ri r)/\ay w.heap.size w w'
theorem Mh(q m:Nat)(k n:Int)(s:ByteArray)(a:Nat)(hk:k≠1)(hn:n≠0):ki q m k n s a false:=by
 intro ka b c w hq hm hT;have a1:(k !=1)=true:=by simpa using hk
 have a2:(n !=0)=true:=by simpa using hn
 clear hk hn;have H1:=M (St.start ej w);have d:=M hm;have e:=M hq;have f:=M hT;clear hq hm hT;go_in;go_wp2_with{};replace H1:=M (St.a6 H1.out (Ra #[I J k,I J n,U s,Z ka a b] 204) (w.heap.size) (by simp));go_ret;exact⟨rfl,H1.out.low.aC⟩
theorem Mi(q m:Nat)(k n:Int)(s:ByteArray)(a:Nat)(hk:k<1\/6<k)(hn:n=0):ki q m k n s a false:=by
 intro ka b c w hq hm hT;have a1:(k !=1)=true:=by simp;omega
 have a2:(n !=0)=false:=by simp[hn]
 have e1:(k==1)=false:=by simp;omega
 have e2:(k==2)=false:=by simp;omega
 have e3:(k==3)=false:=by simp;omega
 have e4:(k==4)=false:=by simp;omega
 have g:(k==5)=false:=by simp;omega
 have h:(k==6)=false:=by simp;omega
 clear hk hn;have H1:=M (St.start ej w);have d:=M hm;have e:=M hq;have f:=M hT;clear hq hm hT;go_in;go_wp2_with{};replace H1:=M (St.a6 H1.out (Ra #[I J k,I J n,U s,Z ka a b] 204) (w.heap.size) (by simp));go_ret;exact⟨rfl,H1.out.low.aC⟩
theorem LU(q m:Nat)(k n:Int)(s:ByteArray)(a:Nat)(hk:k=1)(c0:¬(0<=n)):ki q m k n s a false:=by
 intro ka b c w hq hm hT;have a1:(k !=1)=false:=by simp[hk]
 have e1:(k==1)=true:=by simp[hk]
 clear hk;have f0:decide (0<=n)=false:=by simp;omega
 clear c0;have H1:=M (St.start ej w);have d:=M hm;have e:=M hq;have f:=M hT;clear hq hm hT;go_in;go_wp2_with{};replace H1:=M (St.a6 H1.out (Ra #[I J k,I J n,U s,Z ka a b] 204) (w.heap.size) (by simp));go_ret;exact⟨rfl,H1.out.low.aC⟩
theorem LV(q m:Nat)(k n:Int)(s:ByteArray)(a:Nat)(hk:k=1)(c0:0<=n)(c1:¬(n<=1000000000000000)):ki q m k n s a false:=by
 intro ka b c w hq hm hT;have a1:(k !=1)=false:=by simp[hk]
 have e1:(k==1)=true:=by simp[hk]
 clear hk;have f0:decide (0<=n)=true:=by simp;omega
 have f1:decide (n<=1000000000000000)=false:=by simp;omega
 clear c0 c1;have H1:=M (St.start ej w);have d:=M hm;have e:=M hq;have f:=M hT;clear hq hm hT;go_in;go_wp2_with{};replace H1:=M (St.a6 H1.out (Ra #[I J k,I J n,U s,Z ka a b] 204) (w.heap.size) (by simp));go_ret;exact⟨rfl,H1.out.low.aC⟩
theorem LW(q m:Nat)(k n:Int)(s:ByteArray)(a:Nat)(hk:k=1)(c0:0<=n)(c1:n<=1000000000000000)(c2:¬(s.size=0)):ki q m k n s a false:=by
 intro ka b c w hq hm hT;have a1:(k !=1)=false:=by simp[hk]
 have e1:(k==1)=true:=by simp[hk]
 clear hk;have f0:decide (0<=n)=true:=by simp;omega
 have f1:decide (n<=1000000000000000)=true:=by simp;omega
 have f2:s.toList.isEmpty=false:=by rw[toList_empty];exact Rw c2
 clear c0 c1 c2;have H1:=M (St.start ej w);have d:=M hm;have e:=M hq;have f:=M hT;clear hq hm hT;go_in;go_wp2_with{};replace H1:=M (St.a6 H1.out (Ra #[I J k,I J n,U s,Z ka a b] 204) (w.heap.size) (by simp));go_ret;exact⟨rfl,H1.out.low.aC⟩
theorem LX(q m:Nat)(k n:Int)(s:ByteArray)(a:Nat)(hk:k=1)(c0:0<=n)(c1:n<=1000000000000000)(c2:s.size=0)(c3:¬(a=0)):ki q m k n s a false:=by
 intro ka b c w hq hm hT;have a1:(k !=1)=false:=by simp[hk]
 have e1:(k==1)=true:=by simp[hk]
 clear hk;have f0:decide (0<=n)=true:=by simp;omega
 have f1:decide (n<=1000000000000000)=true:=by simp;omega
 have f2:s.toList.isEmpty=true:=by rw[toList_empty];exact Rv c2
 have f3:((a:Int)==0)=false:=by simpa using c3
 clear c0 c1 c2 c3;have H1:=M (St.start ej w);have d:=M hm;have e:=M hq;have f:=M hT;clear hq hm hT;go_in;go_wp2_with{};replace H1:=M (St.a6 H1.out (Ra #[I J k,I J n,U s,Z ka a b] 204) (w.heap.size) (by simp));go_ret;exact⟨rfl,H1.out.low.aC⟩
theorem LY(q m:Nat)(k n:Int)(s:ByteArray)(a:Nat)(hk:k=1)(c0:0<=n)(c1:n<=1000000000000000)(c2:s.size=0)(c3:a=0):ki q m k n s a true:=by
 intro ka b c w hq hm hT;have a1:(k !=1)=false:=by simp[hk]
 have e1:(k==1)=true:=by simp[hk]
 clear hk;have f0:decide (0<=n)=true:=by simp;omega
 have f1:decide (n<=1000000000000000)=true:=by simp;omega
 have f2:s.toList.isEmpty=true:=by rw[toList_empty];exact Rv c2
 have f3:((a:Int)==0)=true:=by simpa using c3
 clear c0 c1 c2 c3;have H1:=M (St.start ej w);have d:=M hm;have e:=M hq;have f:=M hT;clear hq hm hT;go_in;go_wp2_with{};replace H1:=M (St.a6 H1.out (Ra #[I J k,I J n,U s,Z ka a b] 204) (w.heap.size) (by simp));go_ret;exact⟨rfl,H1.out.low.aC⟩
theorem Mb(q m:Nat)(k n:Int)(s:ByteArray)(a:Nat)(hk:k=5)(hn:n=0)(c0:¬(s.data.toList=[45])):ki q m k n s a false:=by
 intro ka b c w hq hm hT;have a1:(k !=1)=true:=by simp[hk]
 have a2:(n !=0)=false:=by simp[hn]
 have e1:(k==1)=false:=by simp[hk]
 have e2:(k==2)=false:=by simp[hk]
 have e3:(k==3)=false:=by simp[hk]
 have e4:(k==4)=false:=by simp[hk]
 have g:(k==5)=true:=by simp[hk]
 clear hk hn;have f0:(s.toList==[45])=false:=by rw[da];simpa using c0
 clear c0;have H1:=M (St.start ej w);have d:=M hm;have e:=M hq;have f:=M hT;clear hq hm hT;go_in;go_wp2_with{};replace H1:=M (St.a6 H1.out (Ra #[I J k,I J n,U s,Z ka a b] 204) (w.heap.size) (by simp));go_ret;exact⟨rfl,H1.out.low.aC⟩
theorem Mc(q m:Nat)(k n:Int)(s:ByteArray)(a:Nat)(hk:k=5)(hn:n=0)(c0:s.data.toList=[45])(c1:¬(a=1)):ki q m k n s a false:=by
 intro ka b c w hq hm hT;have a1:(k !=1)=true:=by simp[hk]
 have a2:(n !=0)=false:=by simp[hn]
 have e1:(k==1)=false:=by simp[hk]
 have e2:(k==2)=false:=by simp[hk]
 have e3:(k==3)=false:=by simp[hk]
 have e4:(k==4)=false:=by simp[hk]
 have g:(k==5)=true:=by simp[hk]
 clear hk hn;have f0:(s.toList==[45])=true:=by rw[da];simpa using c0
 have f1:((a:Int)==1)=false:=by simp;omega
 clear c0 c1;have H1:=M (St.start ej w);have d:=M hm;have e:=M hq;have f:=M hT;clear hq hm hT;go_in;go_wp2_with{};replace H1:=M (St.a6 H1.out (Ra #[I J k,I J n,U s,Z ka a b] 204) (w.heap.size) (by simp));go_ret;exact⟨rfl,H1.out.low.aC⟩
theorem Md(q m:Nat)(k n:Int)(s:ByteArray)(a:Nat)(hk:k=5)(hn:n=0)(c0:s.data.toList=[45])(c1:a=1):ki q m k n s a true:=by
 intro ka b c w hq hm hT;have a1:(k !=1)=true:=by simp[hk]
 have a2:(n !=0)=false:=by simp[hn]
 have e1:(k==1)=false:=by simp[hk]
 have e2:(k==2)=false:=by simp[hk]
 have e3:(k==3)=false:=by simp[hk]
 have e4:(k==4)=false:=by simp[hk]
 have g:(k==5)=true:=by simp[hk]
 clear hk hn;have f0:(s.toList==[45])=true:=by rw[da];simpa using c0
 have f1:((a:Int)==1)=true:=by simp;omega
 clear c0 c1;have H1:=M (St.start ej w);have d:=M hm;have e:=M hq;have f:=M hT;clear hq hm hT;go_in;go_wp2_with{};replace H1:=M (St.a6 H1.out (Ra #[I J k,I J n,U s,Z ka a b] 204) (w.heap.size) (by simp));go_ret;exact⟨rfl,H1.out.low.aC⟩
theorem LZ(q m:Nat)(k n:Int)(s:ByteArray)(g:Nat)(hs:s.size<=9223372036854775807)(hk:k=2)(hn:n=0)(c0:ek s=false):ki q m k n s g false:=by
 intro ka p c w hq hm hT;have a1:(k !=1)=true:=by simp[hk]
 have a2:(n !=0)=false:=by simp[hn]
 have e1:(k==1)=false:=by simp[hk]
 have e2:(k==2)=true:=by simp[hk]
 clear hk hn;have a:=M c0;clear c0;have H1:=M (St.start ej w);have i:=M hm;have j:=M hq;have d:=M hT;clear hq hm hT;go_in;go_wp2_with{};generalize e2:aq w _=X;have z3:=iD e2 (n:=w.heap.size+1) (by simp);replace H1:=bW e2 (St.a6 H1.out _ (w.heap.size) (by simp));clear e2;refine(rJ s X hs (d.out.below H1.out.low.aC)).mono ?_;rintro e r⟨rfl,b1⟩;rw[a.out];have b:=M (H1.out.below b1);clear H1;clear b1;obtain⟨cs,h⟩:=St.cs b 0 A;simp only[ak]at cs;obtain⟨⟨c5,f6⟩,⟨l,f8⟩,⟨o,f10⟩,⟨f,f12⟩, -⟩:=cs;go_wp2_with{};go_ret;exact⟨rfl,b.out.low.aC⟩
theorem L1(q m:Nat)(k n:Int)(s:ByteArray)(b:Nat)(hs:s.size<=9223372036854775807)(hk:k=2)(hn:n=0)(c0:ek s=true)(c1:¬b=0):ki q m k n s b false:=by
 intro ka p c w hq hm hT;have a1:(k !=1)=true:=by simp[hk]
 have a2:(n !=0)=false:=by simp[hn]
 have e1:(k==1)=false:=by simp[hk]
 have e2:(k==2)=true:=by simp[hk]
 clear hk hn;have f1:((b:Int)==0)=false:=by simp;omega
 clear c1;have a:=M c0;clear c0;have H1:=M (St.start ej w);have i:=M hm;have j:=M hq;have f:=M hT;clear hq hm hT;go_in;go_wp2_with{};generalize e2:aq w _=X;have z3:=iD e2 (n:=w.heap.size+1) (by simp);replace H1:=bW e2 (St.a6 H1.out _ (w.heap.size) (by simp));clear e2;refine(rJ s X hs (f.out.below H1.out.low.aC)).mono ?_;rintro e r⟨rfl,b1⟩;rw[a.out];have d:=M (H1.out.below b1);clear H1;clear b1;obtain⟨cs,h⟩:=St.cs d 0 A;simp only[ak]at cs;obtain⟨⟨c5,f6⟩,⟨l,f8⟩,⟨o,f10⟩,⟨g,f12⟩, -⟩:=cs;go_wp2_with{};go_ret;exact⟨rfl,d.out.low.aC⟩
theorem L3(q m:Nat)(k n:Int)(s:ByteArray)(b:Nat)(hs:s.size<=9223372036854775807)(hk:k=2)(hn:n=0)(c0:ek s=true)(c1:b=0):ki q m k n s b true:=by
 intro ka p c w hq hm hT;have a1:(k !=1)=true:=by simp[hk]
 have a2:(n !=0)=false:=by simp[hn]
 have e1:(k==1)=false:=by simp[hk]
 have e2:(k==2)=true:=by simp[hk]
 clear hk hn;have f1:((b:Int)==0)=true:=by simp;omega
 clear c1;have a:=M c0;clear c0;have H1:=M (St.start ej w);have i:=M hm;have j:=M hq;have f:=M hT;clear hq hm hT;go_in;go_wp2_with{};generalize e2:aq w _=X;have z3:=iD e2 (n:=w.heap.size+1) (by simp);replace H1:=bW e2 (St.a6 H1.out _ (w.heap.size) (by simp));clear e2;refine(rJ s X hs (f.out.below H1.out.low.aC)).mono ?_;rintro e r⟨rfl,b1⟩;rw[a.out];have d:=M (H1.out.below b1);clear H1;clear b1;obtain⟨cs,h⟩:=St.cs d 0 A;simp only[ak]at cs;obtain⟨⟨c5,f6⟩,⟨l,f8⟩,⟨o,f10⟩,⟨g,f12⟩, -⟩:=cs;go_wp2_with{};go_ret;exact⟨rfl,d.out.low.aC⟩
theorem L4(q m:Nat)(k n:Int)(s:ByteArray)(f:Nat)(hs:s.size<=9223372036854775807)(hk:k=3)(hn:n=0)(c0:dn s=false):ki q m k n s f false:=by
 intro ka p c w hq hm hT;have a1:(k !=1)=true:=by simp[hk]
 have a2:(n !=0)=false:=by simp[hn]
 have e1:(k==1)=false:=by simp[hk]
 have e2:(k==2)=false:=by simp[hk]
 have e3:(k==3)=true:=by simp[hk]
 clear hk hn;have a:=M c0;clear c0;have H1:=M (St.start ej w);have h:=M hm;have i:=M hq;have j:=M hT;clear hq hm hT;go_in;go_wp2_with{};generalize e2:aq w _=X;have z3:=iD e2 (n:=w.heap.size+1) (by simp);replace H1:=bW e2 (St.a6 H1.out _ (w.heap.size) (by simp));clear e2;refine(ml s X hs).mono ?_;rintro e r⟨rfl,b1⟩;rw[a.out];have b:=M (H1.out.below b1);clear H1;clear b1;obtain⟨cs,g⟩:=St.cs b 0 A;simp only[ak]at cs;obtain⟨⟨c5,f6⟩,⟨l,f8⟩,⟨o,f10⟩,⟨d,f12⟩, -⟩:=cs;go_wp2_with{};go_ret;exact⟨rfl,b.out.low.aC⟩
theorem L6(q m:Nat)(k n:Int)(s:ByteArray)(b:Nat)(hs:s.size<=9223372036854775807)(hk:k=3)(hn:n=0)(c0:dn s=true)(c1:¬b=0):ki q m k n s b false:=by
 intro ka p c w hq hm hT;have a1:(k !=1)=true:=by simp[hk]
 have a2:(n !=0)=false:=by simp[hn]
 have e1:(k==1)=false:=by simp[hk]
 have e2:(k==2)=false:=by simp[hk]
 have e3:(k==3)=true:=by simp[hk]
 clear hk hn;have f1:((b:Int)==0)=false:=by simp;omega
 clear c1;have a:=M c0;clear c0;have H1:=M (St.start ej w);have h:=M hm;have i:=M hq;have j:=M hT;clear hq hm hT;go_in;go_wp2_with{};generalize e2:aq w _=X;have z3:=iD e2 (n:=w.heap.size+1) (by simp);replace H1:=bW e2 (St.a6 H1.out _ (w.heap.size) (by simp));clear e2;refine(ml s X hs).mono ?_;rintro e r⟨rfl,b1⟩;rw[a.out];have d:=M (H1.out.below b1);clear H1;clear b1;obtain⟨cs,g⟩:=St.cs d 0 A;simp only[ak]at cs;obtain⟨⟨c5,f6⟩,⟨l,f8⟩,⟨o,f10⟩,⟨f,f12⟩, -⟩:=cs;go_wp2_with{};go_ret;exact⟨rfl,d.out.low.aC⟩
theorem L7(q m:Nat)(k n:Int)(s:ByteArray)(b:Nat)(hs:s.size<=9223372036854775807)(hk:k=3)(hn:n=0)(c0:dn s=true)(c1:b=0):ki q m k n s b true:=by
 intro ka p c w hq hm hT;have a1:(k !=1)=true:=by simp[hk]
 have a2:(n !=0)=false:=by simp[hn]
 have e1:(k==1)=false:=by simp[hk]
 have e2:(k==2)=false:=by simp[hk]
 have e3:(k==3)=true:=by simp[hk]
 clear hk hn;have f1:((b:Int)==0)=true:=by simp;omega
 clear c1;have a:=M c0;clear c0;have H1:=M (St.start ej w);have h:=M hm;have i:=M hq;have j:=M hT;clear hq hm hT;go_in;go_wp2_with{};generalize e2:aq w _=X;have z3:=iD e2 (n:=w.heap.size+1) (by simp);replace H1:=bW e2 (St.a6 H1.out _ (w.heap.size) (by simp));clear e2;refine(ml s X hs).mono ?_;rintro e r⟨rfl,b1⟩;rw[a.out];have d:=M (H1.out.below b1);clear H1;clear b1;obtain⟨cs,g⟩:=St.cs d 0 A;simp only[ak]at cs;obtain⟨⟨c5,f6⟩,⟨l,f8⟩,⟨o,f10⟩,⟨f,f12⟩, -⟩:=cs;go_wp2_with{};go_ret;exact⟨rfl,d.out.low.aC⟩
end
section
open Go.RowKit Mor
theorem L8(q m:Nat)(k n:Int)(s:ByteArray)(l:Nat)(hk:k=4)(hn:n=0)(c0:iz s.data.toList=0):ki q m k n s l false:=by
 intro ka t c w hq hm hT;have a1:(k !=1)=true:=by simp[hk]
 have a2:(n !=0)=false:=by simp[hn]
 have e1:(k==1)=false:=by simp[hk]
 have e2:(k==2)=false:=by simp[hk]
 have e3:(k==3)=false:=by simp[hk]
 have e4:(k==4)=true:=by simp[hk]
 clear hk hn;have H1:=M (St.start ej w);have g:=M hm;have i:=M hq;have p:=M hT;clear hq hm hT;go_in;go_wp2_with{};generalize e2:aq w _=X;have z3:=iD e2 (n:=w.heap.size+1) (by simp);replace H1:=bW e2 (St.a6 H1.out _ (w.heap.size) (by simp));clear e2;have b:(Instr.lookup 325 (.map (O m)) (U s) false).run ah X.drew=.ok (I J ((iz s.data.toList:Nat):Int)) X.drew:=rH _ _ _ (bl g.out H1.out.drew.low.aC);have e:=bl i.out H1.out.low.aC;have u:X.cell? ⟨q,0,N⟩=O (.map (O m)):=(ag e 0).trans A;have rl:=aV e;rw[c0]at b;have a:=b;simp only[Int.natCast_zero]at a;clear b c0;have b:=a;clear a;obtain⟨cs,o⟩:=St.cs H1 0 A;simp only[ak]at cs;obtain⟨⟨c4,f5⟩,⟨r,f7⟩,⟨c8,f9⟩,⟨j,f11⟩, -⟩:=cs;have f:Hid (ay X.heap.size X X.drew):=(ax _ _).drew;refine bM (fun W=>ay X.heap.size X W) (.R 0 (.R 1 (.R 2 (.R 3 (.R 4 (.R 5 (.call 6 (.R 7 (.R 8 (.R 9 (.R 10 (.R 11 (.R 12 (.R 13 (.R 14 .done))))))))))))))) (by kernel_rfl) (by kernel_rfl) (fun _ _ _ _ _ h=>h) f.out ?_;iterate 6 refine aj A (aI ⟨by rfl,fun W hS=>by obtain⟨d,_⟩:=ey hS;clear hS;go_simp;try with_reducible rfl⟩) ?_;go_simp
 refine aH A (fun K hK=> ?_);go_simp;refine hK _ _ f.out ?_;clear hK K;iterate 2 go_simp;refine aj A (aI ⟨by rfl,fun W hS=>by obtain⟨d,_⟩:=ey hS;clear hS;go_simp;try with_reducible rfl⟩) ?_
 iterate 4 go_simp;refine aj A (dJ ⟨by rfl,rfl⟩) ?_
 iterate 2 go_simp;refine aj A (aI ⟨by rfl,fun W hS=>by obtain⟨d,_⟩:=ey hS;clear hS;go_simp;try with_reducible rfl⟩) ?_
 go_simp;refine aM ?_;go_wp2_with{};go_ret;exact⟨rfl,H1.out.drew.low.aC⟩
theorem L_(q m:Nat)(k n:Int)(s:ByteArray)(d:Nat)(hk:k=4)(hn:n=0)(c0:0<iz s.data.toList)(c1:¬d=2):ki q m k n s d false:=by
 intro ka r c w hq hm hT;have a1:(k !=1)=true:=by simp[hk]
 have a2:(n !=0)=false:=by simp[hn]
 have e1:(k==1)=false:=by simp[hk]
 have e2:(k==2)=false:=by simp[hk]
 have e3:(k==3)=false:=by simp[hk]
 have e4:(k==4)=true:=by simp[hk]
 clear hk hn;have f1:((d:Int)==2)=false:=by simp;omega
 clear c1;have H1:=M (St.start ej w);have f:=M hm;have g:=M hq;have o:=M hT;clear hq hm hT;go_in;go_wp2_with{};generalize e2:aq w _=X;have z3:=iD e2 (n:=w.heap.size+1) (by simp);replace H1:=bW e2 (St.a6 H1.out _ (w.heap.size) (by simp));clear e2;have j:(Instr.lookup 325 (.map (O m)) (U s) false).run ah X.drew=.ok (I J ((iz s.data.toList:Nat):Int)) X.drew:=rH _ _ _ (bl f.out H1.out.drew.low.aC);have a:=bl g.out H1.out.low.aC;have t:X.cell? ⟨q,0,N⟩=O (.map (O m)):=(ag a 0).trans A;have rl:=aV a;generalize iz s.data.toList=B at*;have n0:0<(B:Int):=by omega
 obtain⟨cs,l⟩:=St.cs H1 0 A;simp only[ak]at cs;obtain⟨⟨c4,f5⟩,⟨p,f7⟩,⟨c8,f9⟩,⟨i,f11⟩, -⟩:=cs;have e:Hid (ay X.heap.size X X.drew):=(ax _ _).drew;refine bM (fun W=>ay X.heap.size X W) (.R 0 (.R 1 (.R 2 (.R 3 (.R 4 (.R 5 (.call 6 (.R 7 (.R 8 (.R 9 (.R 10 (.R 11 (.R 12 (.R 13 (.R 14 .done))))))))))))))) (by kernel_rfl) (by kernel_rfl) (fun _ _ _ _ _ h=>h) e.out ?_;iterate 6 refine aj A (aI ⟨by rfl,fun W hS=>by obtain⟨b,_⟩:=ey hS;clear hS;go_simp;try with_reducible rfl⟩) ?_;go_simp
 refine aH A (fun K hK=> ?_);go_simp;refine hK _ _ e.out ?_;clear hK K;iterate 8 go_simp;refine aj A (aI ⟨by rfl,fun W hS=>by obtain⟨b,_⟩:=ey hS;clear hS;go_simp;try with_reducible rfl⟩) ?_
 go_simp;refine aM ?_;go_wp2_with{};go_ret;exact⟨rfl,H1.out.drew.low.aC⟩
theorem Ma(q m:Nat)(k n:Int)(s:ByteArray)(d:Nat)(hk:k=4)(hn:n=0)(c0:0<iz s.data.toList)(c1:d=2):ki q m k n s d true:=by
 intro ka r c w hq hm hT;have a1:(k !=1)=true:=by simp[hk]
 have a2:(n !=0)=false:=by simp[hn]
 have e1:(k==1)=false:=by simp[hk]
 have e2:(k==2)=false:=by simp[hk]
 have e3:(k==3)=false:=by simp[hk]
 have e4:(k==4)=true:=by simp[hk]
 clear hk hn;have f1:((d:Int)==2)=true:=by simp;omega
 clear c1;have H1:=M (St.start ej w);have f:=M hm;have g:=M hq;have o:=M hT;clear hq hm hT;go_in;go_wp2_with{};generalize e2:aq w _=X;have z3:=iD e2 (n:=w.heap.size+1) (by simp);replace H1:=bW e2 (St.a6 H1.out _ (w.heap.size) (by simp));clear e2;have j:(Instr.lookup 325 (.map (O m)) (U s) false).run ah X.drew=.ok (I J ((iz s.data.toList:Nat):Int)) X.drew:=rH _ _ _ (bl f.out H1.out.drew.low.aC);have a:=bl g.out H1.out.low.aC;have t:X.cell? ⟨q,0,N⟩=O (.map (O m)):=(ag a 0).trans A;have rl:=aV a;generalize iz s.data.toList=B at*;have n0:0<(B:Int):=by omega
 obtain⟨cs,l⟩:=St.cs H1 0 A;simp only[ak]at cs;obtain⟨⟨c4,f5⟩,⟨p,f7⟩,⟨c8,f9⟩,⟨i,f11⟩, -⟩:=cs;have e:Hid (ay X.heap.size X X.drew):=(ax _ _).drew;refine bM (fun W=>ay X.heap.size X W) (.R 0 (.R 1 (.R 2 (.R 3 (.R 4 (.R 5 (.call 6 (.R 7 (.R 8 (.R 9 (.R 10 (.R 11 (.R 12 (.R 13 (.R 14 .done))))))))))))))) (by kernel_rfl) (by kernel_rfl) (fun _ _ _ _ _ h=>h) e.out ?_;iterate 6 refine aj A (aI ⟨by rfl,fun W hS=>by obtain⟨b,_⟩:=ey hS;clear hS;go_simp;try with_reducible rfl⟩) ?_;go_simp
 refine aH A (fun K hK=> ?_);go_simp;refine hK _ _ e.out ?_;clear hK K;iterate 8 go_simp;refine aj A (aI ⟨by rfl,fun W hS=>by obtain⟨b,_⟩:=ey hS;clear hS;go_simp;try with_reducible rfl⟩) ?_
 go_simp;refine aM ?_;go_wp2_with{};go_ret;exact⟨rfl,H1.out.drew.low.aC⟩
theorem Me(q m:Nat)(k n:Int)(s:ByteArray)(g:Nat)(hk:k=6)(hn:n=0)(c0:eh s.data.toList=0):ki q m k n s g false:=by
 intro ka u c w hq hm hT;have a1:(k !=1)=true:=by simp[hk]
 have a2:(n !=0)=false:=by simp[hn]
 have e1:(k==1)=false:=by simp[hk]
 have e2:(k==2)=false:=by simp[hk]
 have e3:(k==3)=false:=by simp[hk]
 have e4:(k==4)=false:=by simp[hk]
 have r:(k==5)=false:=by simp[hk]
 have t:(k==6)=true:=by simp[hk]
 clear hk hn;have H1:=M (St.start ej w);have j:=M hm;have l:=M hq;have o:=M hT;clear hq hm hT;go_in;go_wp2_with{};generalize e2:aq w _=X;have z3:=iD e2 (n:=w.heap.size+1) (by simp);replace H1:=bW e2 (St.a6 H1.out _ (w.heap.size) (by simp));clear e2;have a:=M (fun W=>(ny s W).mono fun e w'(h:_/\_)=>(h:e=Rh (I J ((eh s.data.toList:Nat):Int))/\W=w')); rw[c0]at a;clear c0;obtain⟨cs,i⟩:=St.cs H1 0 A;simp only[ak]at cs;obtain⟨⟨c4,f5⟩,⟨p,f7⟩,⟨c8,f9⟩,⟨f,f11⟩, -⟩:=cs;have d:Hid (ay X.heap.size X X.drew):=(ax _ _).drew;refine bM (fun W=>ay X.heap.size X W) (.R 0 (.R 1 (.call 2 (.R 3 (.R 4 (.R 5 (.R 6 (.R 7 (.R 8 (.R 9 (.call 10 (.R 11 (.R 12 (.R 13 .done)))))))))))))) (by kernel_rfl) (by kernel_rfl) (fun _ _ _ _ _ h=>h) d.out ?_;iterate 2 refine aj A (aI ⟨by rfl,fun W hS=>by obtain⟨b,_⟩:=ey hS;clear hS;go_simp;try with_reducible rfl⟩) ?_;go_simp
 refine aH A (fun K hK=> ?_);go_simp;refine(a.out _).mono ?_;rintro e x⟨rfl,rfl⟩;refine hK _ _ d.out ?_;clear hK K;iterate 2 go_simp;refine aj A (aI ⟨by rfl,fun W hS=>by obtain⟨b,_⟩:=ey hS;clear hS;go_simp;try with_reducible rfl⟩) ?_
 iterate 5 go_simp;refine aj A (dJ ⟨by rfl,rfl⟩) ?_
 go_simp;refine aH A (fun K hK=> ?_);go_simp;refine hK _ _ d.out ?_;clear hK K;go_simp;refine aj A (dJ ⟨by rfl,rfl⟩) ?_;iterate 2 go_simp;refine aj A (aI ⟨by rfl,fun W hS=>by obtain⟨b,_⟩:=ey hS;clear hS;go_simp;try with_reducible rfl⟩) ?_
 go_simp;refine aM ?_;go_wp2_with{};go_ret;exact⟨rfl,H1.out.drew.low.aC⟩
theorem Mf(q m:Nat)(k n:Int)(s:ByteArray)(g:Nat)(hk:k=6)(hn:n=0)(c0:0<eh s.data.toList)(c1:¬g=eh s.data.toList):ki q m k n s g false:=by
 intro ka y c w hq hm hT;have a1:(k !=1)=true:=by simp[hk]
 have a2:(n !=0)=false:=by simp[hn]
 have e1:(k==1)=false:=by simp[hk]
 have e2:(k==2)=false:=by simp[hk]
 have e3:(k==3)=false:=by simp[hk]
 have e4:(k==4)=false:=by simp[hk]
 have u:(k==5)=false:=by simp[hk]
 have x:(k==6)=true:=by simp[hk]
 clear hk hn;have f:=M c1;clear c1;have H1:=M (St.start ej w);have o:=M hm;have p:=M hq;have r:=M hT;clear hq hm hT;go_in;go_wp2_with{};generalize e2:aq w _=X;have z3:=iD e2 (n:=w.heap.size+1) (by simp);replace H1:=bW e2 (St.a6 H1.out _ (w.heap.size) (by simp));clear e2;have a:=M (fun W=>(ny s W).mono fun e w'(h:_/\_)=>(h:e=Rh (I J ((eh s.data.toList:Nat):Int))/\W=w')); generalize eh s.data.toList=B at*;have n0:0<(B:Int):=by omega
 have f1:((g:Int)==(B:Int))=false:=by have:=f.out;simp;omega
 obtain⟨cs,j⟩:=St.cs H1 0 A;simp only[ak]at cs;obtain⟨⟨c4,f5⟩,⟨t,f7⟩,⟨c8,f9⟩,⟨i,f11⟩, -⟩:=cs;have d:Hid (ay X.heap.size X X.drew):=(ax _ _).drew;refine bM (fun W=>ay X.heap.size X W) (.R 0 (.R 1 (.call 2 (.R 3 (.R 4 (.R 5 (.R 6 (.R 7 (.R 8 (.R 9 (.call 10 (.R 11 (.R 12 (.R 13 .done)))))))))))))) (by kernel_rfl) (by kernel_rfl) (fun _ _ _ _ _ h=>h) d.out ?_;iterate 2 refine aj A (aI ⟨by rfl,fun W hS=>by obtain⟨b,_⟩:=ey hS;clear hS;go_simp;try with_reducible rfl⟩) ?_;go_simp
 refine aH A (fun K hK=> ?_);go_simp;refine(a.out _).mono ?_;rintro e l⟨rfl,rfl⟩;refine hK _ _ d.out ?_;clear hK K;iterate 7 go_simp;refine aj A (aI ⟨by rfl,fun W hS=>by obtain⟨b,_⟩:=ey hS;clear hS;go_simp;try with_reducible rfl⟩) ?_
 go_simp;refine aH A (fun K hK=> ?_);go_simp;refine(a.out _).mono ?_;rintro e l⟨rfl,rfl⟩;refine hK _ _ d.out ?_;clear hK K;iterate 3 go_simp;refine aj A (aI ⟨by rfl,fun W hS=>by obtain⟨b,_⟩:=ey hS;clear hS;go_simp;try with_reducible rfl⟩) ?_
 go_simp;refine aM ?_;go_wp2_with{};go_ret;exact⟨rfl,H1.out.drew.low.aC⟩
theorem Mg(q m:Nat)(k n:Int)(s:ByteArray)(g:Nat)(hk:k=6)(hn:n=0)(c0:0<eh s.data.toList)(c1:g=eh s.data.toList):ki q m k n s g true:=by
 intro ka y c w hq hm hT;have a1:(k !=1)=true:=by simp[hk]
 have a2:(n !=0)=false:=by simp[hn]
 have e1:(k==1)=false:=by simp[hk]
 have e2:(k==2)=false:=by simp[hk]
 have e3:(k==3)=false:=by simp[hk]
 have e4:(k==4)=false:=by simp[hk]
 have u:(k==5)=false:=by simp[hk]
 have x:(k==6)=true:=by simp[hk]
 clear hk hn;have f:=M c1;clear c1;have H1:=M (St.start ej w);have o:=M hm;have p:=M hq;have r:=M hT;clear hq hm hT;go_in;go_wp2_with{};generalize e2:aq w _=X;have z3:=iD e2 (n:=w.heap.size+1) (by simp);replace H1:=bW e2 (St.a6 H1.out _ (w.heap.size) (by simp));clear e2;have a:=M (fun W=>(ny s W).mono fun e w'(h:_/\_)=>(h:e=Rh (I J ((eh s.data.toList:Nat):Int))/\W=w')); generalize eh s.data.toList=B at*;have n0:0<(B:Int):=by omega
 have f1:((g:Int)==(B:Int))=true:=by have:=f.out;simp;omega
 obtain⟨cs,j⟩:=St.cs H1 0 A;simp only[ak]at cs;obtain⟨⟨c4,f5⟩,⟨t,f7⟩,⟨c8,f9⟩,⟨i,f11⟩, -⟩:=cs;have d:Hid (ay X.heap.size X X.drew):=(ax _ _).drew;refine bM (fun W=>ay X.heap.size X W) (.R 0 (.R 1 (.call 2 (.R 3 (.R 4 (.R 5 (.R 6 (.R 7 (.R 8 (.R 9 (.call 10 (.R 11 (.R 12 (.R 13 .done)))))))))))))) (by kernel_rfl) (by kernel_rfl) (fun _ _ _ _ _ h=>h) d.out ?_;iterate 2 refine aj A (aI ⟨by rfl,fun W hS=>by obtain⟨b,_⟩:=ey hS;clear hS;go_simp;try with_reducible rfl⟩) ?_;go_simp
 refine aH A (fun K hK=> ?_);go_simp;refine(a.out _).mono ?_;rintro e l⟨rfl,rfl⟩;refine hK _ _ d.out ?_;clear hK K;iterate 7 go_simp;refine aj A (aI ⟨by rfl,fun W hS=>by obtain⟨b,_⟩:=ey hS;clear hS;go_simp;try with_reducible rfl⟩) ?_
 go_simp;refine aH A (fun K hK=> ?_);go_simp;refine(a.out _).mono ?_;rintro e l⟨rfl,rfl⟩;refine hK _ _ d.out ?_;clear hK K;iterate 3 go_simp;refine aj A (aI ⟨by rfl,fun W hS=>by obtain⟨b,_⟩:=ey hS;clear hS;go_simp;try with_reducible rfl⟩) ?_
 go_simp;refine aM ?_;go_wp2_with{};go_ret;exact⟨rfl,H1.out.drew.low.aC⟩
theorem JV(q m:Nat)(k n:Int)(s:ByteArray)(a:Nat)(hs:s.size<=9223372036854775807):ki q m k n s a (eC k n s a):=by by_cases b:k=1;{by_cases c0:0<=n;{by_cases c1:n<=1000000000000000;{by_cases c2:s.size=0;{by_cases c3:a=0;{rw[show eC k n s a=true by simp[eC,b,c0,c1,c2,c3]];exact LY q m k n s a b c0 c1 c2 c3};{rw[show eC k n s a=false by simp[eC,b,c3]];exact LX q m k n s a b c0 c1 c2 c3}};{rw[show eC k n s a=false by unfold eC;rw[Rs b,Rw c2];simp];exact LW q m k n s a b c0 c1 c2}};{rw[show eC k n s a=false by simp[eC,b,c1]];exact LV q m k n s a b c0 c1}};{rw[show eC k n s a=false by simp[eC,b,c0]];exact LU q m k n s a b c0}};{by_cases hn:n=0;{by_cases k2:k=2;{cases c0:ek s;{rw[show eC k n s a=false by simp[eC,k2,c0]];exact LZ q m k n s a hs k2 hn c0};{by_cases c1:a=0;{rw[show eC k n s a=true by simp[eC,k2,c0,c1,hn]];exact L3 q m k n s a hs k2 hn c0 c1};{rw[show eC k n s a=false by simp[eC,k2,c1]];exact L1 q m k n s a hs k2 hn c0 c1}}};{by_cases k3:k=3;{cases c0:dn s;{rw[show eC k n s a=false by simp[eC,k3,c0]];exact L4 q m k n s a hs k3 hn c0};{by_cases c1:a=0;{rw[show eC k n s a=true by simp[eC,k3,c0,c1,hn]];exact L7 q m k n s a hs k3 hn c0 c1};{rw[show eC k n s a=false by simp[eC,k3,c1]];exact L6 q m k n s a hs k3 hn c0 c1}}};{by_cases c:k=4;{by_cases c0:iz s.data.toList=0;{rw[show eC k n s a=false by simp[eC,c,c0]];exact L8 q m k n s a c hn c0};{by_cases c1:a=2;{rw[show eC k n s a=true by simp[eC,c,c1,hn];omega];exact Ma q m k n s a c hn (by omega) c1};{rw[show eC k n s a=false by simp[eC,c,c1]];exact L_ q m k n s a c hn (by omega) c1}}};{by_cases d:k=5;{by_cases c0:s.data.toList=[45];{by_cases c1:a=1;{rw[show eC k n s a=true by simp[eC,d,c0,c1,hn]];exact Md q m k n s a d hn c0 c1};{rw[show eC k n s a=false by simp[eC,d,c1]];exact Mc q m k n s a d hn c0 c1}};{rw[show eC k n s a=false by simp[eC,d,c0]];exact Mb q m k n s a d hn c0}};{by_cases e:k=6;{by_cases c0:eh s.data.toList=0;{rw[show eC k n s a=false by simp[eC,e,c0]];exact Me q m k n s a e hn c0};{by_cases c1:a=eh s.data.toList;{rw[show eC k n s a=true by simp[eC,e,c1,hn];omega];exact Mg q m k n s a e hn (by omega) c1};{rw[show eC k n s a=false by simp[eC,e,c1]];exact Mf q m k n s a e hn (by omega) c1}}};{rw[show eC k n s a=false by simp[eC,b,k2,k3,c,d,e]];exact Mi q m k n s a (by omega) hn}}}}}};{rw[show eC k n s a=false by simp[eC,b,hn]];exact Mh q m k n s a b hn}}
end
section
open Go.RowKit Mor
def tX:Nat ->Ex ->Prop
 |0,_=>True
 |d+1,e=>e.s.size<=1000000/\∀k∈e.kids,tX d k
theorem tX.mk{k n:Int}{s:ByteArray}{l:List Ex}(hs:s.size<=1000000)(a:∀x∈l,∀d,tX d x):∀d,tX d (.mk k n s l)
 |0=>trivial
 |d+1=>⟨hs,fun x hx=>a x hx d⟩
theorem rF{l:List Pc}{size:Int}(h:∀p∈l,p.s.size<=1000000)(i:Nat):(bH l size i).s.size<=1000000:=by
 unfold bH;cases hi:l[i]? with
 |none=>simp[gq]
 |some p=>exact h p (aP hi)
theorem Qy(l:List Pc)(size:Int)(h:∀p∈l,p.s.size<=1000000):∀f:Nat,(∀least i E j,jD l size f least i=.ok (E,j) ->∀d,tX d E)/\(∀least a i E j,(∀d,tX d a) ->me l size f least a i=.ok (E,j) ->∀d,tX d E)/\(∀i E j,dm l size f i=.ok (E,j) ->∀d,tX d E)/\(∀n acc i K j,(∀x∈acc,∀d,tX d x) ->fA l size f n acc i=.ok (K,j) ->∀x∈K,∀d,tX d x)
 |0=>⟨fun _ _ _ _ h=>by simp[jD]at h,fun _ _ _ _ _ _ h=>by simp[me]at h,fun _ _ _ h=>by simp[dm]at h,fun _ _ _ _ _ _ h=>by simp[fA]at h⟩
 |f+1=>by
  obtain⟨he,b,c,hk⟩:=Qy l size h f;refine⟨?_, ?_, ?_, ?_⟩;{intro least i E j h;rw[jD]at h;split at h;{cases h};{rename_i e q hq;exact b _ _ _ _ _ (c _ _ _ hq) h}};{intro least a i E j h0 h;rw[me]at h;split at h;{split at h;{cases h};{rename_i e2 q hq;refine b _ _ _ _ _ (tX.mk (rF ‹_› i) fun x hx=> ?_) h;simp at hx;rcases hx with rfl|rfl;{exact h0};{exact he _ _ _ _ hq}}};{cases h;exact h0}};{intro i E j h;rw[dm]at h;split at h;{split at h;{cases h};{rename_i e q hq;split at h;{cases h;exact he _ _ _ _ hq};{cases h}}};{split at h;{split at h;{cases h};{rename_i e q hq;cases h;refine tX.mk (by decide) fun x hx=> ?_;simp at hx;subst hx;exact c _ _ _ hq}};{split at h;{cases h;exact tX.mk (by simp[gq]) (by simp)};{split at h;{cases h;exact tX.mk (rF ‹_› i) (by simp)};{split at h;{split at h;{split at h;{cases h};{rename_i K q hq;cases h;exact tX.mk (rF ‹_› i) (hk _ _ _ _ _ (by simp) hq)}};{cases h;exact tX.mk (rF ‹_› i) (by simp)}};{cases h}}}}}}
  · intro n acc i K j ha h;cases n with
    |zero=>rw[fA]at h;split at h;{cases h;exact ha};{cases h}
    |succ n=>rw[fA]at h;split at h;{split at h;{cases h};{rename_i e q hq;refine hk _ _ _ _ _ (fun x hx=> ?_) h;simp at hx;rcases hx with hx|rfl;{exact ha x hx};{exact he _ _ _ _ hq}}};{cases h}
def tY(q:Nat)(w:ai)(cs:List ar)(e:Ex):Prop:=∀W,jI (du q) w W ->∃d,AU d W cs e
theorem tY.bF{q:Nat}{w w':ai}{cs:List ar}{e:Ex}(h:tY q w cs e)(hc:jI (du q) w w') :tY q w' cs e:=fun W a=>h W (hc.trans a fun _ _ k=>k)
theorem cell_of_block{w w':ai}{b o:Nat}(h:w'.heap[b]? =w.heap[b]?):w'.cell? ⟨b,o,N⟩=w.cell? ⟨b,o,N⟩:=by simp only[World.cell?,h]
theorem AU.cells{d:Nat}{w:ai}{cs:List ar}{e:Ex}(h:AU d w cs e):∃ka b,cs=[I J e.k,I J e.n,U e.s,Z ka e.kids.length b]:=by
 cases d with
 |zero=>exact h.elim
 |succ d=>obtain⟨sl,h1,h2⟩:=h;obtain⟨a,c,rfl⟩:=cl.slice h2;exact⟨a,c,h1⟩
theorem KK{q:Nat}{w:ai}{e k:Ex}{ka:Option Addr}{B z i:Nat}(h:tY q w [I J e.k,I J e.n,U e.s,Z ka B z] e){x y:ar}{T:TypeId}{fr:Nat×Nat}(hq:w.heap[q]? =O (Ra #[x,y] T fr))(hk:e.kids[i]? =O k):
 ∃b o f g,ka=O ⟨b,o,N⟩/\b≠q/\b<w.heap.size/\w.cell? ⟨b,o+i*4,N⟩=O (I J k.k)/\w.cell? ⟨b,o+i*4+1,N⟩=O (I J k.n)/\w.cell? ⟨b,o+i*4+2,N⟩=O (U k.s)/\w.cell? ⟨b,o+i*4+3,N⟩=O (Z f k.kids.length g)/\
  tY q w [I J k.k,I J k.n,U k.s,Z f k.kids.length g] k:=by
 have key:∀W,jI (du q) w W ->∃b o a,ka=O ⟨b,o,N⟩/\(∃d,AU d W a k)/\a.length=4/\∀j y,a[j]? =O y ->W.cell? ⟨b,o+i*4+j,N⟩=O y:=by
  intro W l;obtain⟨d,hd⟩:=h W l;cases d with
  |zero=>exact hd.elim
  |succ d=>
  obtain⟨sl,h1,h2⟩:=hd;simp only[List.cons.injEq,and_true,true_and]at h1;subst h1;obtain⟨b,o,a,g1,g2,g3,g4⟩:=cl.at h2 hk;exact⟨b,o,a,g1,⟨d,g2⟩,g3,g4⟩
 obtain⟨b,o,a,rfl,u,k2,k3⟩:=key w (jI.refl _ _)
 obtain⟨f,g,rfl⟩:=u.choose_spec.cells
 have c:b≠q:=by rintro rfl;have h4:=k3 3 (Z f k.kids.length g) A;rw[ag hq,Array.getElem?_eq_none (by simp)]at h4;cases h4
 have c0:=k3 0 _ A
 refine⟨b,o,f,g,rfl,c,fD c0,c0,k3 1 _ A,k3 2 _ A,k3 3 _ A,fun W l=> ?_⟩
 obtain⟨C,o', m,e1,g1,g2,g3⟩:=key W l
 simp only[bu,Addr.mk.injEq,and_true]at e1
 obtain⟨rfl,rfl⟩:=e1
 obtain⟨r,t,rfl⟩:=g1.choose_spec.cells
 have p:=cell_of_block (o:=o+i*4+3) (l.block b (fD c0) c)
 have x1:=g3 3 _ A
 have x2:=k3 3 _ A
 rw[p,x2]at x1
 simp only[bu]at x1
 rw[x1];exact g1
theorem xI{q:Nat}{w w':ai}(h:jJ w)(hc:jI (du q) w w')(hq:8<=q)(a:q<w.heap.size):jJ w':=
 qZ h (hc.below (B:=q) (by omega) (fun k hk=>by rw[show k=q from hk];exact av _)) hq
def zA(d:Nat):Prop:=∀(q m n:Nat) (D:Int) (e:Ex) (ka:Option Addr) (a:Nat) (w:ai),D+d=9 ->n<=40 ->w.heap[q]? =O (wF m n) ->w.heap[m]? =O (.map lM 12) ->m≠q ->jJ w ->8<=q ->(∀d,tX d e) ->tY q w [I J e.k,I J e.n,U e.s,Z ka e.kids.length a] e ->
 aJ ah 271 #[Ru (O ⟨q,0,N⟩),Rj #[I J e.k,I J e.n,U e.s,Z ka e.kids.length a],I J D] w fun e' w'=>e'=Rh (Ri (ik d e n).1)/\jI (du q) w w'/\w'.heap[q]? =O (wF m (ik d e n).2)
def rV(d:Nat)(x:Bool×Nat)(l:List Ex):Bool×Nat:=l.foldl (fun x k=>if x.1=true then ik d k x.2 else x) x
theorem wZ(d n:Nat):∀l,rV d (false,n) l=(false,n)
 | []=>rfl
 |k::l=>by show rV d (if(false,n).1=true then ik d k n else(false,n)) l=_;rw[Rq (by simp)];exact wZ d n l
theorem D_{d c i:Nat}{l:List Ex}{k:Ex}(hk:l[i]? =O k):rV d (true,c) (l.drop i)=rV d (ik d k c) (l.drop (i+1)):=by obtain⟨h1,rfl⟩:=aA.1 hk;rw[aY h1];show rV d (if(true,c).1=true then ik d l[i] c else(true,c)) _=_;rw[Rs A]
theorem Fs{d:Nat}(h:∀(e:Ex) (n:Nat),(ik d e n).1=true ->(ik d e n).2<=40):∀(l:List Ex) (x:Bool×Nat),(x.1=true ->x.2<=40) ->(rV d x l).1=true ->(rV d x l).2<=40
 | [],x,hx,h1=>hx h1
 |k::l,(true,n),hx,h1=>Fs h l (ik d k n) (h k n) h1
 |k::l,(false,n),hx,h1=>by rw[wZ]at h1;cases h1
theorem yR:∀(d:Nat) (e:Ex) (n:Nat),(ik d e n).1=true ->(ik d e n).2<=40
 |0,e,n,h=>by simp[ik]at h
 |d+1,e,n,h=>by rw[ik]at h⊢;split at h;{cases h};{rename_i hc;rw[Rq hc];exact Fs (yR d) e.kids (true,n+1) (fun _=>by simp only;omega) h}
theorem MB:zA 0:=by
 intro q m n D e ka h w o hn hq hm f hT hg p g;have d:=M hq;clear hq g hT hm;have l:decide ((8:Int)<D)=true:=by simp;omega
 have H1:=M (St.kX (F:=(du q)) d.out A);replace H1:=M (St.a6 H1.out (Ra #[I J e.k,I J e.n,U e.s,Z ka e.kids.length h] 204) (w.heap.size) (by simp));obtain⟨cs,r⟩:=St.cs H1 1 A;simp only[ak]at cs;obtain⟨⟨c2,f3⟩,⟨c4,f5⟩, -⟩:=cs;have i:=H1.out.ne 1 0 (b:=q) (c:=w.heap.size) A A (by decide);have j:=H1.out.ne 0 1 (b:=w.heap.size) (c:=q) A A (by decide);have a:IntKind.i64.wrap ((n:Int)+1)=(n:Int)+1:=bo _ (by omega);go_in;go_wp2_with{};replace H1:=M (St.aB H1.out 1 A 1 (I J ((n:Int)+1)) A);simp only[ab,ae]at H1;go_ret;exact⟨rfl,H1.out.low,H1.out.aR 1 A⟩
theorem EM(d:Nat)(hd:d<8)(q m n:Nat)(D:Int)(e:Ex)(ka:Option Addr)(f:Nat)(w:ai)(p:D+(d+1:Nat)=9)(hn:n<=40)(i:40<n+1)(hq:w.heap[q]? =O (wF m n)):aJ ah 271 #[Ru (O ⟨q,0,N⟩),Rj #[I J e.k,I J e.n,U e.s,Z ka e.kids.length f],I J D] w fun e' w'=>e'=Rh (Ri false)/\jI (du q) w w'/\w'.heap[q]? =O (wF m ((n:Int)+1)):=by
 have g:=M hq;clear hq;have o:decide ((8:Int)<D)=false:=by simp;omega
 have h:decide ((40:Int)<(n:Int)+1)=true:=by simp;omega
 have H1:=M (St.kX (F:=(du q)) g.out A);replace H1:=M (St.a6 H1.out (Ra #[I J e.k,I J e.n,U e.s,Z ka e.kids.length f] 204) (w.heap.size) (by simp));obtain⟨cs,r⟩:=St.cs H1 1 A;simp only[ak]at cs;obtain⟨⟨c2,f3⟩,⟨c4,f5⟩, -⟩:=cs;have j:=H1.out.ne 1 0 (b:=q) (c:=w.heap.size) A A (by decide);have l:=H1.out.ne 0 1 (b:=w.heap.size) (c:=q) A A (by decide);have a:IntKind.i64.wrap ((n:Int)+1)=(n:Int)+1:=bo _ (by omega);go_in;go_wp2_with{};replace H1:=M (St.aB H1.out 1 A 1 (I J ((n:Int)+1)) A);simp only[ab,ae]at H1;go_ret;exact⟨rfl,H1.out.low,H1.out.aR 1 A⟩
theorem right_step(d:Nat)(hd:d<8)(ih:zA d):zA (d+1):=by
 intro q m n D e ka V w hD hn hq hm h hT hg hz T;have HQ:=M hq;by_cases P:40<n+1;{rw[show ik (d+1) e n=(false,n+1) by rw[ik,Rs (.inl P)]];exact EM d hd q m n D e ka V w hD hn P hq};have bA:e.s.size<=1000000:=(hz 1).1;have e8:decide ((8:Int)<D)=false:=by simp;omega
 have bs:decide ((40:Int)<(n:Int)+1)=false:=by simp;omega
 have z:=M (fun X hX=>JV q m e.k e.n e.s e.kids.length (by omega) ka V ((n:Int)+1) X hX);have y:=M hm;have HT:=M hT;have ad:=M T;have x:=aV hq;have t:=M x;have bt:=hD;cases f:eC e.k e.n e.s e.kids.length;{have S:=M (show ik (d+1) e n=(false,n+1) by rw[ik,Rs (.inr f)]);rw[S.out];rw[f]at z;clear f S hq hm T hT x;have H1:=M (St.kX (F:=(du q)) HQ.out A);replace H1:=M (St.a6 H1.out (Ra #[I J e.k,I J e.n,U e.s,Z ka e.kids.length V] 204) (w.heap.size) (by simp));obtain⟨cs,l6⟩:=St.cs H1 1 A;simp only[ak]at cs;obtain⟨⟨c2,f3⟩,⟨c4,f5⟩, -⟩:=cs;have aT:=H1.out.ne 1 0 (b:=q) (c:=w.heap.size) A A (by decide);have aU:=H1.out.ne 0 1 (b:=w.heap.size) (c:=q) A A (by decide);have K:IntKind.i64.wrap ((n:Int)+1)=(n:Int)+1:=bo _ (by omega);go_in;go_wp2_with{};generalize u:af (aq w _) _ _=X;have aW:=iD u (n:=w.heap.size+1) (by simp);replace H1:=bW u (St.aB H1.out 1 A 1 _ A);simp only[ab,ae]at H1;clear u;refine(z.out _ (H1.out.aR 1 A) ((H1.out.low.block m (aV y.out) h).trans y.out) (xI HT.out H1.out.low hg t.out)).mono ?_;rintro e1 w1⟨rfl,b1⟩;have a:=M (H1.out.below b1);clear H1;clear b1 z;obtain⟨cs,aN⟩:=St.cs a 1 A;simp only[ak]at cs;obtain⟨⟨ag,f13⟩,⟨aj,f15⟩, -⟩:=cs;obtain⟨cs,aO⟩:=St.cs a 0 A;simp only[ak]at cs;obtain⟨⟨al,f18⟩,⟨ao,f20⟩,⟨c21,f22⟩,⟨az,f24⟩, -⟩:=cs;go_wp2_with{};go_ret;exact⟨rfl,a.out.low,a.out.aR 1 A⟩}
 · have S:=M (show ik (d+1) e n=rV d (true,n+1) e.kids by rw[ik,Rq (by rw[f];simp;omega)];rfl);generalize aM:ik (d+1) e n=R at*;rw[f]at z;have W:=M ih
   have bf:e.kids.length<=9223372036854775807:=by
    obtain⟨dd,hdd⟩:=T w (jI.refl _ _);cases dd with
    |zero=>exact hdd.elim
    |succ dd=>obtain⟨sl,_,h2⟩:=hdd;exact cl.le h2
   clear f aM hq hm T hT x ih;have H1:=M (St.kX (F:=(du q)) HQ.out A);replace H1:=M (St.a6 H1.out (Ra #[I J e.k,I J e.n,U e.s,Z ka e.kids.length V] 204) (w.heap.size) (by simp));obtain⟨cs,l6⟩:=St.cs H1 1 A;simp only[ak]at cs;obtain⟨⟨c2,f3⟩,⟨c4,f5⟩, -⟩:=cs;have aT:=H1.out.ne 1 0 (b:=q) (c:=w.heap.size) A A (by decide);have aU:=H1.out.ne 0 1 (b:=w.heap.size) (c:=q) A A (by decide);have K:IntKind.i64.wrap ((n:Int)+1)=(n:Int)+1:=bo _ (by omega);go_in;go_wp2_with{};generalize u:af (aq w _) _ _=X;have aW:=iD u (n:=w.heap.size+1) (by simp);replace H1:=bW u (St.aB H1.out 1 A 1 _ A);simp only[ab,ae]at H1;clear u;refine(z.out _ (H1.out.aR 1 A) ((H1.out.low.block m (aV y.out) h).trans y.out) (xI HT.out H1.out.low hg t.out)).mono ?_;rintro e1 w1⟨rfl,b1⟩;have a:=M (H1.out.below b1);clear H1;clear b1 z;obtain⟨cs,aN⟩:=St.cs a 1 A;simp only[ak]at cs;obtain⟨⟨ag,f13⟩,⟨aj,f15⟩, -⟩:=cs;obtain⟨cs,aO⟩:=St.cs a 0 A;simp only[ak]at cs;obtain⟨⟨al,f18⟩,⟨ao,f20⟩,⟨c21,f22⟩,⟨az,f24⟩, -⟩:=cs;go_wp2_with{};have C:=M (a.out.drop 0);clear a;have H:=M (show St (du q) w [eH q (wF m ((n+1:Nat):Int))] w1 from C.out);clear C;have E:=M (show R=rV d (true,n+1) (e.kids.drop 0)from S.out);go_loopw [34] (fun i wr=>∃k c:Nat,k<=e.kids.length/\c<=40/\i=I J k/\Hid (R=rV d (true,c) (e.kids.drop k))/\Hid (St (du q) w [eH q (wF m c)] wr)) (fun i _=>e.kids.length - (intOf i).toNat);case atStart=>exact⟨0,n+1,by omega,by omega,rfl,E,H⟩
   case round=>
    clear H E;obtain⟨i,c,hi,hc,rfl,Q,g⟩:=hrel;by_cases aL:i<e.kids.length
    · obtain⟨k,hk⟩:∃k,e.kids[i]? =O k:=⟨_,an aL⟩;obtain⟨b,o,ja,jc,aG,bz,bx,c0,c1,c2,c3,L⟩:=KK (ad.out.bF g.out.low) (g.out.aR 0 A) hk;have aH:∀d,tX d k:=fun d=>(hz (d+1)).2 k (aP hk);have l:=M (Q.out.trans (D_ hk));subst aG;have G:=M L;clear L hk Q;have i1:(0:Int)<=(i:Int):=(by omega);have i2:(i:Int)<(e.kids.length:Int):=(by omega);have aE:IntKind.i64.wrap (D+1)=D+1:=bo _ (by omega);go_wp2_with{};have p:=M (G.out.bF (gX (du q) wr (Ra #[I J k.k,I J k.n,U k.s,Z ja k.kids.length jc] 204)));generalize e1:aq wr _=Y at p⊢;have z2:=iD e1 (n:=wr.heap.size+1) (by simp);replace g:=bW e1 (St.a6 g.out _ (wr.heap.size) (by simp));clear e1;obtain⟨cs,bE⟩:=St.cs g 0 A;simp only[ak]at cs;obtain⟨⟨c3,f4⟩,⟨c5,f6⟩,⟨c7,f8⟩,⟨c9,f10⟩, -⟩:=cs;go_wp2_with{};refine(W.out q m c (D+1) k ja jc _ (by omega) hc (g.out.aR 1 A) ((g.out.low.block m (aV y.out) h).trans y.out) h (xI HT.out g.out.low hg t.out) hg aH p.out).mono ?_;rintro e1 w2⟨rfl,cc,cq⟩;have B:=M (g.out.gu 1 A cc cq A);clear g;clear cc cq p G;have j:=M (B.out.drop 0);clear B;have hle:=M (yR d k c);generalize ik d k c=r at*;obtain⟨r1,c2⟩:=r;cases r1;{rw[wZ]at l;go_wp2_with{};go_ret;rw[l.out];exact⟨rfl,j.out.low,j.out.aR 0 A⟩}
      · have aF:c2<=40:=hle.out A;clear hle;go_wp2_with{};go_roundw;case rel=>exact⟨i+1,c2,by omega,aF,by go_num,l,j⟩
        case measure=>simp[intOf];omega
    {have aC:=M (show R=(true,c) by rw[Q.out,a8 (by omega)];rfl);clear Q;go_wp2_with{};go_ret;rw[aC.out];exact⟨rfl,g.out.low,g.out.aR 0 A⟩}
theorem yS:∀d,d<=8 ->zA d
 |0,_=>MB
 |d+1,h=>right_step d (by omega) (yS d (by omega))
theorem EL(e:Ex)(cs:List ar)(w:ai)(hg:8<=w.heap.size)(hT:jJ w)(q:∀d,tX d e)(h:∀W,ay w.heap.size w W ->∃d,AU d W cs e):aJ ah 258 #[Rj cs.toArray] w fun e' w'=>e'=Rh (Ri (AE e))/\ay w.heap.size w w':=by
 obtain⟨ka,f,rfl⟩:=(h w (ax _ _)).choose_spec.cells;have l:=M h;have m:=M hT;clear h hT;have H1:=M (St.start ej w);go_in;go_wp2_with{};refine(sQ _).mono ?_;rintro e1 t⟨rfl,rfl⟩;replace H1:=M (St.a6 (St.a6 (St.a6 H1.out (Ra #[I J e.k,I J e.n,U e.s,Z ka e.kids.length f] 204) (w.heap.size) (by simp)) (.map lM 12) (w.heap.size+1) (by simp)) (Ra #[.map (O (w.heap.size+1)),I J 0] 352) (w.heap.size+1+1) (by simp));obtain⟨cs,l10⟩:=St.cs H1 2 A;simp only[ak]at cs;obtain⟨⟨c2,f3⟩,⟨c4,f5⟩,⟨r,f7⟩,⟨c8,f9⟩, -⟩:=cs;have c:(w.alloc (Ra #[I J e.k,I J e.n,U e.s,Z ka e.kids.length f] 204)).heap.size=w.heap.size+1:=by simp
 rw[c];go_wp2_with{};obtain⟨X,b⟩:∃o,(((w.alloc (Ra #[I J e.k,I J e.n,U e.s,Z ka e.kids.length f] 204)).alloc (.map lM 12)).alloc (Ra #[.map (O (w.heap.size+1)),I J 0] 352))=o:=⟨_,rfl⟩;have z12:w.heap.size+1+1+1<=((((w.alloc (Ra #[I J e.k,I J e.n,U e.s,Z ka e.kids.length f] 204)).alloc (.map lM 12)).alloc (Ra #[.map (O (w.heap.size+1)),I J 0] 352))).heap.size:=by simp
 rw[b]at H1 z12⊢;clear b;have a:=M H1.out.low.aC;refine(yS 8 (av _) (w.heap.size+1+1) (w.heap.size+1) 0 1 e ka f X (by decide) (by decide) (H1.out.aR 0 A) (H1.out.aR 1 A) (by omega) (m.out.below a.out) (by omega) q (fun W p=>l.out W (a.out.trans (p.below a.out.size (fun k hk=>by rw[show k=w.heap.size+1+1 from hk];omega))))).mono ?_;rintro e1 u⟨rfl,i,j⟩;have g:=M (H1.out.gu 0 A i j A);clear H1;clear i j;go_wp2_with{};go_ret;exact⟨rfl,g.out.low.aC⟩
end
section
open Go.RowKit Mor
theorem St.zP{F:Nat ->Prop}{w0 W W':ai}{L:List cM}(h:St F w0 L W)(i:Nat){r:cM}(hr:L[i]? =O r)(hc:jI r.gY W W'){L':List cM}(a:L.eraseIdx i=L') :St F w0 L' W':=by subst a;have h1:=(h.call i r hr hc (r':=⟨ej,fun _=>True⟩) ⟨fun _ f=>f.elim,fun _ _=>trivial⟩ fun _ f=>f.elim).drop i;rwa[List.eraseIdx_set_eq]at h1
theorem E9(p q r:Addr)(w:ai):CallsD ah 268 #[Ru (O p),Ru (O q),Ru (O r)] .returning w fun e b w'=>e=Rh (Rx #[])/\b=.returning/\w'=w:=by refine callsD_of_wpS func268 A fun a cs hu=> ?_;apply wpS_seq;apply wpS_region;simp[wpOpsS,go_sem,recoverD,hu,ntmps268,Exit.thenS];apply wpS_seq;apply wpS_region;simp[wpOpsS,go_sem,Exit.thenS];refine wpS_cond (t:=false) (by simp[Act.eval,Array.replicate]) ?_;simp only[Bool.false_eq_true,if_false];refine wpS_of_wp (wp_skip ?_);cases a;simp_all[bodyPostS,results,results268]
def KN(p q r:Nat)(x:Int)(w:ai):ai:=(((((w.setCell ⟨p,0,N⟩ (I J 0)).setCell ⟨p,1,N⟩ (I J 0)).setCell ⟨p,2,N⟩ (U ⟨#[]⟩)).setCell ⟨p,3,N⟩ (Z N 0 0)).setCell ⟨q,0,N⟩ (I J x)).setCell ⟨r,0,N⟩ (Ri false)
theorem vI(p q r:Nat)(x:Int)(a1 a2 a3 a4 b1 c1:ar)(a:List PanicEntry)(w:ai)(hp:w.heap[p]? =O (Ra #[a1,a2,a3,a4] 204 (0,0)))(hq:w.heap[q]? =O (Ra #[b1] 3 (0,0)))(hr:w.heap[r]? =O (Ra #[c1] 4 (0,0)))(h:p≠q)(i:p≠r)(n3:q≠r):
 CallsD ah 268 #[Ru (O ⟨p,0,N⟩),Ru (O ⟨q,0,N⟩),Ru (O ⟨r,0,N⟩)] (.panicking ({v:=.iface 348 (I J x),recovered:=false}::a)) w fun e d w'=>e=Rh (Rx #[])/\d=.panicking ({v:=.iface 348 (I J x),recovered:=true}::a)/\w'=KN p q r x w:=by
 have c:(Instr.typeAssert (.iface 348 (I J x)) 20 348 true).run ah w=.ok (Rx #[I J x,Ri true]) w:=by kernel_rfl
 have k:w.cell? ⟨p,0,N⟩=O a1:=(ag hp 0).trans A
 have l:w.cell? ⟨p,1,N⟩=O a2:=(ag hp 1).trans A
 have m:w.cell? ⟨p,2,N⟩=O a3:=(ag hp 2).trans A
 have n:w.cell? ⟨p,3,N⟩=O a4:=(ag hp 3).trans A
 have q0:w.cell? ⟨q,0,N⟩=O b1:=(ag hq 0).trans A
 have o:w.cell? ⟨r,0,N⟩=O c1:=(ag hr 0).trans A
 have f:∀j,w.frozen? ⟨p,j,N⟩=false:=fun j=>aW hp j
 have g:w.frozen? ⟨q,0,N⟩=false:=aW hq 0
 have fr:w.frozen? ⟨r,0,N⟩=false:=aW hr 0
 refine callsD_of_wpS func268 A fun b cs hu=> ?_
 apply wpS_seq
 apply wpS_region
 simp[wpOpsS,go_sem,recoverD,hu,ntmps268,Exit.thenS]
 apply wpS_seq
 apply wpS_region
 simp[wpOpsS,go_sem,Exit.thenS]
 refine wpS_cond (t:=true) (by simp[Act.eval,Array.replicate]) ?_
 simp only[if_true]
 refine wpS_of_wp ?_
 go_wp2_with{}
 exact⟨rfl,_,rfl,_,by simp[results,results268],rfl,rfl,rfl⟩
def pW(l:List Pc)(size:Int)(f:Nat):Except Int Ex:=match jD l size f 1 0 with
 | .error x=>.error x
 | .ok (e,j)=>if j<l.length then .error (bH l size j).at' else .ok e
def Nj(b:Nat)(r:Except Int Ex)(w:ai)(e:Ending)(w':ai):Prop:=jI (du b) w w'/\match r with
 | .error x=>e=Rh (Rx #[Rj #[I J 0,I J 0,U ⟨#[]⟩,Z N 0 0],I J x,Ri false])
 | .ok E=>∃cs F,e=Rh (Rx #[Rj #[I J E.k,I J E.n,U E.s,cs],I J 0,Ri true])/\(qh F [I J E.k,I J E.n,U E.s,cs] E).at w'/\∀k,F k ->w.heap.size<=k
theorem IA(b m:Nat)(sl:ar)(size:Int)(l:List Pc)(hl:l.length<9000)(w:ai)(hb:w.heap[b]? =O (kU sl 0 size m))(hp:Ps b sl l m w)(f:Nat)(hf:4*(l.length+1)+2<=f):aJ ah 257 #[Ru (O ⟨b,0,N⟩)] w (Nj b (pW l size f) w):=by
 have bN:∀(fn:Fn) (first cap:Array ar) (w:ai),(Instr.makeFunc fn first cap).run ah w=.ok (.func fn first cap) w:=fun _ _ _ _=>rfl;obtain⟨la,lc,rfl⟩:=cl.slice hp.is;have HP:=M hp;have K:=M hb;have HE:=M (Ez (b:=b) (m:=m) (sl:=Z la l.length lc) (size:=size) (l:=l) hl f).2.1
 have HR:=M (show pW l size f=match jD l size f 1 0 with
  | .error x=>.error x
  | .ok (e,j)=>if j<l.length then .error (bH l size j).at' else .ok e from rfl)
 generalize hr:pW l size f=r at*;clear hp hb hr;have H1:=M (St.kX (F:=(du b)) K.out A);go_enter_defers func257,ntmps257;go_wp2_with{};generalize e2:aq (aq (aq w _) _) _=X;have z3:=iD e2 (n:=w.heap.size+1+1+1) (by simp);replace H1:=bW e2 (St.a6 (St.a6 (St.a6 H1.out _ (w.heap.size) (by simp)) _ (w.heap.size+1) (by simp)) _ (w.heap.size+1+1) (by simp));clear e2;refine(HE.out 0 1 _ (by omega) (by decide) (by omega) (H1.out.aR 3 A) (HP.out.bF H1.out.low)).mono ?_;rintro e t⟨c2,h2⟩;cases hx:jD l size f 1 0 with
 |error x=>rw[hx]at h2;simp only at h2;subst h2;have y:=M (show r=.error x by rw[HR.out,hx]);clear hx;have g:=M (H1.out.zP 3 A c2 A);clear H1;unfold jP;refine leaves_cons (f:=268) (args:= #[Ru (O ⟨w.heap.size,0,N⟩),Ru (O ⟨w.heap.size+1,0,N⟩),Ru (O ⟨w.heap.size+1+1,0,N⟩)]) (by simp) (by simp[go_sem]) ?_;refine(vI (w.heap.size) (w.heap.size+1) (w.heap.size+1+1) x _ _ _ _ _ _ [] _ (g.out.aR 2 A) (g.out.aR 1 A) (g.out.aR 0 A) (by omega) (by omega) (by omega)).mono ?_;rintro e u w9⟨rfl,rfl,rfl⟩;unfold KN;replace g:=M (St.aB g.out 2 A 0 (I J 0) A);simp only[ab,ae]at g;replace g:=M (St.aB g.out 2 A 1 (I J 0) A);simp only[ab,ae]at g;replace g:=M (St.aB g.out 2 A 2 (U ⟨#[]⟩) A);simp only[ab,ae]at g;replace g:=M (St.aB g.out 2 A 3 (Z N 0 0) A);simp only[ab,ae]at g;replace g:=M (St.aB g.out 1 A 0 (I J x) A);simp only[ab,ae]at g;replace g:=M (St.aB g.out 0 A 0 (Ri false) A);simp only[ab,ae]at g;obtain⟨a,q⟩:∃a,((((((t.setCell ⟨w.heap.size,0,N⟩ (I J 0)).setCell ⟨w.heap.size,1,N⟩ (I J 0)).setCell ⟨w.heap.size,2,N⟩ (U ⟨#[]⟩)).setCell ⟨w.heap.size,3,N⟩ (Z N 0 0)).setCell ⟨w.heap.size+1,0,N⟩ (I J x)).setCell ⟨w.heap.size+1+1,0,N⟩ (Ri false))=a:=⟨_,rfl⟩;rw[q]at g⊢;clear q;obtain⟨cs,aH⟩:=St.cs g 2 A;simp only[ak]at cs;obtain⟨⟨c5,f6⟩,⟨c7,f8⟩,⟨c9,f10⟩,⟨z,f12⟩, -⟩:=cs;obtain⟨cs,bT⟩:=St.cs g 1 A;simp only[ak]at cs;obtain⟨⟨B,f15⟩, -⟩:=cs;obtain⟨cs,bU⟩:=St.cs g 0 A;simp only[ak]at cs;obtain⟨⟨L,f18⟩, -⟩:=cs;simp[Leaves,settle,results,results257,go_sem,c5,c7,c9,z,B,L];exact⟨g.out.low,by rw[y.out]⟩
 |ok x=>
  obtain⟨E,j⟩:=x;rw[hx]at h2;simp only at h2;obtain⟨ks,Ft,rfl,hb2,ht2,D⟩:=h2;obtain⟨sa,sn,sc,rfl⟩:=iW ht2;have G:=M (show r=if j<l.length then .error (bH l size j).at' else .ok E by rw[HR.out,hx]);clear hx;have g:=M (H1.out.gi 3 _ A c2 (fe hb2) (fun _ h=>h) ht2 D A);clear H1;clear c2 hb2 ht2 D;have z2:w.heap.size+1+1+1<=t.heap.size:=(by have:=g.out.aR 1 A;have:=aV this;omega);obtain⟨cs,aH⟩:=St.cs g 3 A;simp only[ak]at cs;obtain⟨⟨c5,f6⟩,⟨c7,f8⟩,⟨c9,f10⟩,⟨z,f12⟩, -⟩:=cs;obtain⟨cs,bX⟩:=St.cs g 4 A;simp only[ak]at cs;obtain⟨⟨B,f15⟩,⟨c16,f17⟩,⟨bs,f19⟩,⟨bt,f21⟩, -⟩:=cs;have aX:=g.out.ne 4 3 (b:=b) (c:=w.heap.size) A A (by decide);have a1:=g.out.ne 3 4 (b:=w.heap.size) (c:=b) A A (by decide);by_cases H:j<l.length
  · skip;have dj:decide ((j:Int)<(l.length:Int))=true:=(by simpa using H);have y:=M (show r=.error (bH l size j).at' by rw[G.out,Rs H]);clear G;go_wp2_with{};replace g:=M (St.aB g.out 3 A 0 (I J E.k) A);simp only[ab,ae]at g;replace g:=M (St.aB g.out 3 A 1 (I J E.n) A);simp only[ab,ae]at g;replace g:=M (St.aB g.out 3 A 2 (U E.s) A);simp only[ab,ae]at g;generalize o:af (af (af (af t _ _) _ _) _ _) _ _=Y;have aM:=iD o (n:=t.heap.size) (by simp);replace g:=bW o (St.aB g.out 3 A 3 _ A);simp only[ab,ae]at g;clear o;obtain⟨cs,aL⟩:=St.cs g 4 A;simp only[ak]at cs;obtain⟨⟨P,f28⟩,⟨Q,f30⟩,⟨R,f32⟩,⟨S,f34⟩, -⟩:=cs;refine fY (by kernel_rfl) (by kernel_rfl) ?_;repeat still_step
    refine wpStill_nil ?_;have d:=M (g.out.drew);clear g;obtain⟨V,C⟩:∃V,Y.drew=V:=⟨_,rfl⟩;rw[C]at d⊢;clear C;clear dj;go_wp2_with{};refine(kT b j m size _ l _ (d.out.aR 4 A) (HP.out.bF d.out.low)).mono ?_;rintro e w3⟨rfl,b3⟩;have i:=M (d.out.below b3);clear d;clear b3;generalize bH l size j=p at*;simp only[uA];have bJ:∀W,(Instr.field 333 (Rj #[I J p.k,I J p.n,U p.s,I J p.at']) 3).run ah W=.ok (I J p.at') W:=fun _=>rfl;go_wp2_with{};refine leaves_cons (f:=268) (args:= #[Ru (O ⟨w.heap.size,0,N⟩),Ru (O ⟨w.heap.size+1,0,N⟩),Ru (O ⟨w.heap.size+1+1,0,N⟩)]) (by simp) (by simp[go_sem]) ?_;refine(vI (w.heap.size) (w.heap.size+1) (w.heap.size+1+1) p.at' _ _ _ _ _ _ [] _ (i.out.aR 3 A) (i.out.aR 2 A) (i.out.aR 1 A) (by omega) (by omega) (by omega)).mono ?_;rintro e u w9⟨rfl,rfl,rfl⟩;unfold KN;replace i:=M (St.aB i.out 3 A 0 (I J 0) A);simp only[ab,ae]at i;replace i:=M (St.aB i.out 3 A 1 (I J 0) A);simp only[ab,ae]at i;replace i:=M (St.aB i.out 3 A 2 (U ⟨#[]⟩) A);simp only[ab,ae]at i;replace i:=M (St.aB i.out 3 A 3 (Z N 0 0) A);simp only[ab,ae]at i;replace i:=M (St.aB i.out 2 A 0 (I J p.at') A);simp only[ab,ae]at i;replace i:=M (St.aB i.out 1 A 0 (Ri false) A);simp only[ab,ae]at i;obtain⟨a,q⟩:∃a,((((((w3.setCell ⟨w.heap.size,0,N⟩ (I J 0)).setCell ⟨w.heap.size,1,N⟩ (I J 0)).setCell ⟨w.heap.size,2,N⟩ (U ⟨#[]⟩)).setCell ⟨w.heap.size,3,N⟩ (Z N 0 0)).setCell ⟨w.heap.size+1,0,N⟩ (I J p.at')).setCell ⟨w.heap.size+1+1,0,N⟩ (Ri false))=a:=⟨_,rfl⟩;rw[q]at i⊢;clear q;obtain⟨cs,b0⟩:=St.cs i 3 A;simp only[ak]at cs;obtain⟨⟨T,f39⟩,⟨aa,f41⟩,⟨ad,f43⟩,⟨ag,f45⟩, -⟩:=cs;obtain⟨cs,b2⟩:=St.cs i 2 A;simp only[ak]at cs;obtain⟨⟨aj,f48⟩, -⟩:=cs;obtain⟨cs,b5⟩:=St.cs i 1 A;simp only[ak]at cs;obtain⟨⟨al,f51⟩, -⟩:=cs;simp[Leaves,settle,results,results257,go_sem,T,aa,ad,ag,aj,al];exact⟨i.out.low,by rw[y.out]⟩
  · skip;have dj:decide ((j:Int)<(l.length:Int))=false:=(by simpa using H);have y:=M (show r=.ok E by rw[G.out,Rq H]);clear G;go_wp2_with{};replace g:=M (St.aB g.out 3 A 0 (I J E.k) A);simp only[ab,ae]at g;replace g:=M (St.aB g.out 3 A 1 (I J E.n) A);simp only[ab,ae]at g;replace g:=M (St.aB g.out 3 A 2 (U E.s) A);simp only[ab,ae]at g;generalize o:af (af (af (af t _ _) _ _) _ _) _ _=Y;have aM:=iD o (n:=t.heap.size) (by simp);replace g:=bW o (St.aB g.out 3 A 3 _ A);simp only[ab,ae]at g;clear o;obtain⟨cs,aL⟩:=St.cs g 4 A;simp only[ak]at cs;obtain⟨⟨P,f28⟩,⟨Q,f30⟩,⟨R,f32⟩,⟨S,f34⟩, -⟩:=cs;refine fY (by kernel_rfl) (by kernel_rfl) ?_;repeat still_step
    refine wpStill_nil ?_;have d:=M (g.out.drew);clear g;obtain⟨V,C⟩:∃V,Y.drew=V:=⟨_,rfl⟩;rw[C]at d⊢;clear C;obtain⟨cs,bY⟩:=St.cs d 3 A;simp only[ak]at cs;obtain⟨⟨bx,f38⟩,⟨bz,f40⟩,⟨bA,f42⟩,⟨bE,f44⟩, -⟩:=cs;obtain⟨cs,b1⟩:=St.cs d 2 A;simp only[ak]at cs;obtain⟨⟨bG,f47⟩, -⟩:=cs;obtain⟨cs,b4⟩:=St.cs d 1 A;simp only[ak]at cs;obtain⟨⟨c49,f50⟩, -⟩:=cs;have a':=d.out.ne 3 2 (b:=w.heap.size) (c:=w.heap.size+1) A A (by decide);have bb:=d.out.ne 2 3 (b:=w.heap.size+1) (c:=w.heap.size) A A (by decide);have bf:=d.out.ne 3 1 (b:=w.heap.size) (c:=w.heap.size+1+1) A A (by decide);have bj:=d.out.ne 1 3 (b:=w.heap.size+1+1) (c:=w.heap.size) A A (by decide);have bk:=d.out.ne 2 1 (b:=w.heap.size+1) (c:=w.heap.size+1+1) A A (by decide);have bl:=d.out.ne 1 2 (b:=w.heap.size+1+1) (c:=w.heap.size+1) A A (by decide);go_wp2_with{};replace d:=M (St.aB d.out 3 A 0 (I J E.k) A);simp only[ab,ae]at d;replace d:=M (St.aB d.out 3 A 1 (I J E.n) A);simp only[ab,ae]at d;replace d:=M (St.aB d.out 3 A 2 (U E.s) A);simp only[ab,ae]at d;replace d:=M (St.aB d.out 3 A 3 (Z sa sn sc) A);simp only[ab,ae]at d;replace d:=M (St.aB d.out 2 A 0 (I J 0) A);simp only[ab,ae]at d;refine leaves_cons (f:=268) (args:= #[Ru (O ⟨w.heap.size,0,N⟩),Ru (O ⟨w.heap.size+1,0,N⟩),Ru (O ⟨w.heap.size+1+1,0,N⟩)]) (by simp) (by simp[go_sem]) ?_;refine(E9 _ _ _ _).mono ?_;rintro e u w9⟨rfl,rfl,rfl⟩;replace d:=M (St.aB d.out 1 A 0 (Ri true) A);simp only[ab,ae]at d;obtain⟨a,q⟩:∃a,((((((V.setCell ⟨w.heap.size,0,N⟩ (I J E.k)).setCell ⟨w.heap.size,1,N⟩ (I J E.n)).setCell ⟨w.heap.size,2,N⟩ (U E.s)).setCell ⟨w.heap.size,3,N⟩ (Z sa sn sc)).setCell ⟨w.heap.size+1,0,N⟩ (I J 0)).setCell ⟨w.heap.size+1+1,0,N⟩ (Ri true))=a:=⟨_,rfl⟩;rw[q]at d⊢;clear q;obtain⟨cs,b6⟩:=St.cs d 3 A;simp only[ak]at cs;obtain⟨⟨ao,f59⟩,⟨az,f61⟩,⟨aC,f63⟩,⟨aE,f65⟩, -⟩:=cs;obtain⟨cs,b7⟩:=St.cs d 2 A;simp only[ak]at cs;obtain⟨⟨aF,f68⟩, -⟩:=cs;obtain⟨cs,b8⟩:=St.cs d 1 A;simp only[ak]at cs;obtain⟨⟨aG,f71⟩, -⟩:=cs;simp[Leaves,settle,results,results257,go_sem,ao,az,aC,aE,aF,aG];refine⟨d.out.low, ?_⟩;rw[y.out];exact⟨_,_,rfl,d.out.nth 0 _ A,d.out.fresh 0 4 A A (by decide)⟩
end
section
open Go.RowKit Go.Shelf Mor
attribute [local go_sem] fS jO np
theorem pT:∀(f:Nat) (l t:List UInt8) (k:Nat) (r:List UInt8) (m:Nat),eS f l t k=O (r,m) ->ek ⟨r.toArray⟩=true
 |0,_,_,_,_,_,h=>by simp[eS]at h
 |f+1,[],_,_,_,_,h=>by simp[eS]at h
 |f+1,b::l,t,k,r,m,h=>by unfold eS at h;split at h;{split at h;{rename_i hr;cases h;exact hr};{cases h}};{split at h;{split at h;{cases h};{split at h;{exact pT f _ _ _ _ _ h};{cases h}}};{exact pT f _ _ _ _ _ h}}
theorem ux(l:List UInt8):∀(ls:List (List UInt8)) (best:List UInt8),best.length<=2 ->(∀t∈ls,t.length<=2) ->(ig l best ls).length<=2
 | [],best,h,_=>h
 |t::ls,best,h,a=>by unfold ig;split;{exact ux l ls t (a t (by simp)) fun x hx=>a x (by simp[hx])};{exact ux l ls best h fun x hx=>a x (by simp[hx])}
theorem Hy{s:ByteArray}(h:ek s=true):s.size<=60:=by unfold ek at h;simp only[aK,Rt]at h;exact h.1
theorem Fy(l:List UInt8):(⟨l.toArray⟩:ByteArray).size=l.length:=by simp[gq]
theorem Az(l:List UInt8):(fF l).1.s.size<=60:=by
 have h0:(⟨#[]⟩:ByteArray).size<=60:=by decide
 unfold fF;split;{exact h0};{split;{unfold oV;split<;>exact h0};{split;{unfold mm;split;{rename_i hn;unfold qO at hn;simp only[aK,Rt]at hn;show(⟨_⟩:ByteArray).size<=60;rw[Fy];omega};{exact h0}};{split;{unfold jr;split;{exact h0};{rename_i t k a;exact Hy (pT _ _ _ _ _ _ a)}};{unfold pQ;split;{exact h0};{show(⟨_⟩:ByteArray).size<=60;rw[Fy];exact bc (ux _ jq [] (by decide) (by decide)) (by decide)}}}}}
theorem qU(l:List UInt8):∀(f a:Nat),(∀p∈jk l f a,p.s.size<=60)/\(jk l f a).length<=f
 |0,a=>by simp[jk]
 |f+1,a=>by unfold jk;simp only[];split;{simp};{have b:=qU l f;refine⟨fun p hp=> ?_, ?_⟩;{rcases bh.1 hp with e|hp;{subst e;exact Az _};{split at hp;{simp at hp};{exact(b _).1 p hp}}};{simp only[aS];split;{simp};{have:=(b (mZ a (l.drop a)+(fF (l.drop (mZ a (l.drop a)))).2)).2;omega}}}
theorem tA(s:ByteArray):(∀p∈cI s.data.toList,p.s.size<=60)/\(cI s.data.toList).length<=s.size+1:=by
 have:=qU s.data.toList (s.data.toList.length+1) 0;have h2:s.data.toList.length=s.size:=by simp
 rw[h2]at this;unfold cI;rw[h2];exact this
def Dm(r:Except (Int×Int) Ex)(w:ai)(e:Ending)(w':ai):Prop:=ay w.heap.size w w'/\match r with
 | .error x=>e=Rh (Rx #[Rj #[I J 0,I J 0,U ⟨#[]⟩,Z N 0 0],I J x.1,I J x.2])
 | .ok E=>∃cs F,e=Rh (Rx #[Rj #[I J E.k,I J E.n,U E.s,cs],I J 0,I J 0])/\(qh F [I J E.k,I J E.n,U E.s,cs] E).at w'/\∀k,F k ->w.heap.size<=k
theorem Hk(s:ByteArray)(h2:200<s.size)(w:ai):aJ ah 232 #[U s] w (Dm (kP s) w):=by
 have hr:kP s=.error (200,50):=by unfold kP;rw[Rs h2]
 rw[hr];have d2:decide ((200:Int)<(s.size:Int))=true:=by simp;omega
 clear hr h2;have H1:=M (St.start ej w);go_in;go_wp2_with{};replace H1:=M (St.a6 (St.a6 (St.a6 H1.out (Ra #[I J 0,I J 0,U ⟨#[]⟩,Z N 0 0] 204) (w.heap.size) (by simp)) (Ra #[I J 200] 3) (w.heap.size+1) (by simp)) (Ra #[I J 50] 42) (w.heap.size+1+1) (by simp));obtain⟨a,d⟩:∃a,(((w.alloc (Ra #[I J 0,I J 0,U ⟨#[]⟩,Z N 0 0] 204)).alloc (Ra #[I J 200] 3)).alloc (Ra #[I J 50] 42))=a:=⟨_,rfl⟩;rw[d]at H1⊢;clear d;obtain⟨cs,l10⟩:=St.cs H1 2 A;simp only[ak]at cs;obtain⟨⟨c2,f3⟩,⟨c4,f5⟩,⟨e,f7⟩,⟨c8,f9⟩, -⟩:=cs;obtain⟨cs,f⟩:=St.cs H1 1 A;simp only[ak]at cs;obtain⟨⟨b,f12⟩, -⟩:=cs;obtain⟨cs,g⟩:=St.cs H1 0 A;simp only[ak]at cs;obtain⟨⟨c,f15⟩, -⟩:=cs;refine au (v:=Rx #[Rj #[I J 0,I J 0,U ⟨#[]⟩,Z N 0 0],I J 200,I J 50]) (by simp[results,results232,go_sem,c2,c4,e,c8,b,c]) A ?_;exact⟨H1.out.low.aC,rfl⟩
theorem St.QR{F G:Nat ->Prop}{w0 W W':ai}{L:List cM}(h:St F w0 L W)(hc:jI G W W')(hd:∀r∈L,∀b,r.gY b ->¬G b)(hF:∀b,b<w0.heap.size ->G b ->F b):St F w0 L W':=
 ⟨h.low.trans hc fun i hi hg=>hF i hi hg,fun r hr=>⟨(h.mem r hr).1.bF hc (hd r hr),(h.mem r hr).2⟩,h.apart⟩
def tx(p:Pc):List ar:=[I J p.k,I J p.n,U p.s,I J p.at']
theorem NH:Elem ah 322 333 4 40:=ni (z:=Rj #[I J 0,I J 0,U ⟨#[]⟩,I J 0]) underlying322 (by kernel_rfl) (by kernel_rfl) (by decide) (by decide)
def La(w:ai)(T:Nat)(s:ByteArray)(v:ar)(es:List (List ar))(R:Nat):List cM:=
 [mV 333 4 w.heap.size v es,eH T (Ra #[U s] 9 (0,0)),eH R (Ra #[v,I J 0,I J s.size, .map (O (w.heap.size+1+1+1))] 328 (0,0)),eH (w.heap.size+1+1+1) (.map lM 12),eH (w.heap.size+1+1) (Ra #[I J 0] 42 (0,0)),eH (w.heap.size+1) (Ra #[I J 0] 3 (0,0)),eH w.heap.size (Ra #[I J 0,I J 0,U ⟨#[]⟩,Z N 0 0] 204 (0,0))]
def K_(w:ai)(T:Nat)(s:ByteArray)(pre:List (Fin (cI s.data.toList).length))(W:ai):Prop:=
 ∃v es,St ej w (La w T s v es (w.heap.size+1+1+1+1)) W/\es.length=pre.length/\(pre.map Fin.val=List.range pre.length ->es=((cI s.data.toList).take pre.length).map tx/\∀p∈(cI s.data.toList).take pre.length,p.k≠0)
def Nn(w:ai)(s:ByteArray)(c:Code)(pre:List (Fin (cI s.data.toList).length))(W:ai):Prop:=
 c=.ret/\∃x:Int,St ej w [eH (w.heap.size+1+1) (Ra #[I J 50] 42 (0,0)),eH (w.heap.size+1) (Ra #[I J x] 3 (0,0)),eH w.heap.size (Ra #[I J 0,I J 0,U ⟨#[]⟩,Z N 0 0] 204 (0,0))] W/\
  (pre.map Fin.val=List.range pre.length ->∃p,(cI s.data.toList).find? (fun p=>decide (p.k=0))=O p/\p.at'=x)
theorem St.FG{w W W':ai}{L:List cM}{B:Nat}{row:Option Nat}(h:St ej w L W)(hg:W.grownBy W' row)(hr:∀r,row=O r ->B<=r/\∃o:Obj,W.heap[r]? =O o/\o.isCells=false)(a:∀q∈L,∀b,q.gY b ->b<B\/∃cs T fr,W.heap[b]? =O (Ra cs T fr))(hB:w.heap.size<=B):St ej w L W':=by refine h.QR (G:=fun k=>row=O k) (.mL hg fun k e=>e) (fun q hq b hb e=> ?_) fun b hb e=> ?_;{obtain⟨h1,o,h2,h3⟩:=hr b e;rcases a q hq b hb with h4|⟨cs,T,fr,h4⟩;{omega};{rw[h4]at h2;cases h2;cases h3}};{have:=(hr b e).1;omega}
theorem Ch(w:ai)(T:Nat)(s:ByteArray)(B:Nat)(hB:w.heap.size+1+1+1<B):OwnFrom B (K_ w T s):=by rintro pre W W' row⟨v,es,h1,h2,h3⟩hg hr;refine⟨v,es,h1.FG hg hr (fun q hq b hb=> ?_) (by omega),h2,h3⟩;simp only[La,bh,bV,or_false]at hq;rcases hq with rfl|rfl|rfl|rfl|rfl|rfl|rfl;{obtain⟨c,a,hc⟩:=ia (h1.get 0 _ A:cA 333 4 w.heap.size v es W) b hb;exact .inr ⟨_,_,_,hc⟩};{cases hb;exact .inr ⟨_,_,_,h1.aR 1 A⟩};{cases hb;exact .inr ⟨_,_,_,h1.aR 2 A⟩};{cases hb;exact .inl hB};{cases hb;exact .inr ⟨_,_,_,h1.aR 4 A⟩};{cases hb;exact .inr ⟨_,_,_,h1.aR 5 A⟩};{cases hb;exact .inr ⟨_,_,_,h1.aR 6 A⟩}
theorem J_(w:ai)(s:ByteArray)(c:Code)(B:Nat)(hB:w.heap.size<=B):OwnFrom B (Nn w s c):=by rintro pre W W' row⟨hc,x,h1,h2⟩hg hr;refine⟨hc,x,h1.FG hg hr (fun q hq b hb=> ?_) hB,h2⟩;simp only[bh,bV,or_false]at hq;rcases hq with rfl|rfl|rfl;{cases hb;exact .inr ⟨_,_,_,h1.aR 0 A⟩};{cases hb;exact .inr ⟨_,_,_,h1.aR 1 A⟩};{cases hb;exact .inr ⟨_,_,_,h1.aR 2 A⟩}
theorem lh.G'{B:Nat}{W:ai}{l:Nat}{o o':Obj}{n:Nat}(a:n<=l)(_h1:W.heap[l]? =O o)(hB:B<n)(hg:8<=n):lh B W (W.putObj l o') :=
 ⟨fw (by omega),fun t=>qZ t (⟨rfl,rfl,rfl,by simp[World.putObj],fun k hk=>fw (by omega)⟩:ay 8 W (W.putObj l o')) (av _)⟩
theorem xP{F:Fence}{n:Nat}{ops:Array Oper}{rest:List Oper}{o:Oper}{a:Act}{w:ai}{Q:Exit ->Act ->ai ->Prop}{T E size bytes:Nat}(l:o.guard=N)(sl x:Operand)(ho:o.op=.call {callee:=.builtin .append,args:= #[sl,x],argTypes:= #[T,T]})(f:Elem ah T E size bytes)(base:Nat)(v:ar)(es:List (List ar))(e:List ar)(W:ai)(q:w=W.alloc (Ra e.toArray E))(hs:a.eval sl=v)(d:cA E size base v es W)(hx:a.eval x=Z (O ⟨W.heap.size,0,N⟩) 1 1)(he:e.length=size)(h6:∀x∈e,x.oneCell'=true)(p:(es.length+1)*bytes<=140737488355328)(hb:base<=W.heap.size)(h:∀v' w', cA E size base v' (es++[e]) w' ->w.grownBy w' v.ownBlock ->(v'.ownBlock=v.ownBlock\/v'.ownBlock=O w.heap.size) ->wpListIn F n ah ops Q rest (a.put o.dst v') w') :wpListIn F n ah ops Q (o::rest) a w:=by
 subst q;refine wpListIn_plain l fun K hK=> ?_;obtain⟨y,z,hi,m,hz1,hz2,hz3⟩:=f.i;have g:=f.b;have t:es.length+1<=140737488355328:=bc (jx _ g) p;have hg:(W.alloc (Ra e.toArray E)).heap[W.heap.size]? =O (Ra e.toArray E (0,0)):=dW W _
 obtain⟨v', w', hr,h2,h3,_,h4⟩:=run_append_own_at (P:=ah) (W.alloc (Ra e.toArray E)) base T o.type E y z size bytes f.u hi m hz1 hz2 hz3 f.s v es.length _ (cL d _) ⟨W.heap.size,0,N⟩ 1 1 e (by simp[he]) (fun j u r=>by
  rw[show(⟨W.heap.size,0,N⟩:Addr).add j=⟨W.heap.size,0+j,N⟩from iN ..,bC,ag hg j];simpa using r) h6 (by unfold maxLen;omega) p (by simp;omega)
 unfold Oper.wpIn;refine⟨?_, ?_⟩;{simp[Oper.about,ho,resolve,Target.leads,gm]};{rw[Oper.semAt_plain F _ _ (by rw[ho];intro c k;cases k)];simp[execOp,ho,resolve,invoke,builtin,hs,hx,hr,Result.andThen];refine hK _ _ (h v' w' ?_ h3 h4);unfold cA;rw[aw,jb];simpa using h2}
theorem E_{l:List Pc}{size:Int}{f:Nat}(h:∀p∈l,p.s.size<=1000000){E:Ex}(hw:pW l size f=.ok E):∀d,tX d E:=by unfold pW at hw;split at hw;{cases hw};{rename_i e j hx;split at hw;{cases hw};{cases hw;exact(Qy l size h f).1 _ _ _ _ hx}}
theorem Lz{l:List Pc}{n:Nat}{p:Pc}(h:∀q∈l.take n,q.k≠0)(hp:l[n]? =O p)(hk:p.k=0):l.find? (fun p=>decide (p.k=0))=O p:=by obtain⟨a,rfl⟩:=aA.1 hp;rw[List.find?_eq_some_iff_append];refine⟨by simpa using hk,l.take n,l.drop (n+1), ?_,fun q hq=>by simpa using h q hq⟩;rw[<-aY a,iv]
theorem MJ{l:List Pc}{n:Nat}{p:Pc}(hp:l[n]? =O p):l.take (n+1)=l.take n++[p]:=by obtain⟨a,rfl⟩:=aA.1 hp;exact dF a
theorem Ev{E size base:Nat}{v:ar}{es:List (List ar)}{W W':ai}(ho:cA E size base v es W)(hg:W.grownBy W' v.ownBlock):KeepsOthers W W':=
 KeepsOthers.of_grownBy hg fun j o b a=>by obtain⟨c,d,hc⟩:=ia ho j b;rw[a]at hc;cases hc;rfl
theorem zQ{W:ai}{D:Nat}{o:Obj}:jI (du D) W (W.putObj D o):=⟨rfl,rfl,rfl,by simp[World.putObj],fun k _ hn=>fw (fun e=>hn e)⟩
theorem N6{W:ai}{base:Nat}{v:ar}{l:List Pc}(h:cA 333 4 base v (l.map tx) W):F' W v l:=by refine⟨l.map tx, ?_, ?_,by simp, ?_⟩;{intro e he;obtain⟨p,_,rfl⟩:=fJ.1 he;exact⟨rfl,by intro x hx;simp[tx]at hx;rcases hx with rfl|rfl|rfl|rfl<;>rfl⟩};{exact uH h};{intro i e x he hx;rw[dT,hx]at he;simp only[eZ,bu]at he;exact he.symm}
theorem rE{R:Ending ->ai ->Prop}{tmps:Array ar}{W:ai}{D a:Nat}{c r1 r2 d:ar}{x y:Int}(h2:tmps.getD 2 undef=Ru (O ⟨a,0,N⟩))(h3:tmps.getD 3 undef=Ru (O ⟨a+1,0,N⟩))(h4:tmps.getD 4 undef=Ru (O ⟨a+1+1,0,N⟩))(b0:W.heap[a]? =O (Ra #[c,r1,r2,d] 204 (0,0)))(b1:W.heap[a+1]? =O (Ra #[I J x] 3 (0,0)))(f:W.heap[a+1+1]? =O (Ra #[I J y] 42 (0,0)))(hK:W.heap[D]? =O (.deferred (O [])))(hR:R (Rh (Rx #[Rj #[c,r1,r2,d],I J x,I J y])) (W.putObj D (.deferred N))):bodyPostM Fence.wide 3 ah f232 R .ret {tmps:=tmps,defers:=[{target:=.collected D,args:= #[]}]} W:=by have g:=grownBy_putObj' W D (.deferred N);have ne:∀{b:Nat} {cs:Array ar} {T:TypeId},W.heap[b]? =O (Ra cs T (0,0)) ->(W.putObj D (.deferred N)).heap[b]? =O (Ra cs T (0,0)):=fun{b cs T}hb=>(g.block b (aV hb) (fun e=>by cases e;rw[hK]at hb;cases hb)).trans hb;have c0:=(ag (ne b0) 0).trans A;have c1:=(ag (ne b0) 1).trans A;have c2:=(ag (ne b0) 2).trans A;have c3:=(ag (ne b0) 3).trans A;have d0:=(ag (ne b1) 0).trans A;have e0:=(ag (ne f) 0).trans A;refine⟨by simp, .inl ⟨_,_,rfl,run_takeDeferred hK, ?_⟩⟩;refine⟨Rx #[Rj #[c,r1,r2,d],I J x,I J y], ?_,hR⟩;rw[cw]at h2 h3 h4;simp[results,f232,go_sem,c0,c1,c2,c3,d0,e0,h2,h3,h4]
theorem Ci(s:ByteArray)(h2:s.size<=200)(w:ai)(hT:jJ w)(hg:8<=w.heap.size):aJ ah 232 #[U s] w (Dm (kP s) w):=by
 have d2:decide ((200:Int)<(s.size:Int))=false:=by simp;omega
 have HT:=M hT;clear hT;refine(callsIn_wide (n:=3)).1 ?_;refine callsIn_of_wp_marks func232 A trivial ?_ A;simp only[ntmps232,dE,aS,a7,Nat.reduceAdd,Nat.reduceSub,cN,cO,dD,cS,bI,b_];refine wpIn_wide.2 ?_;have H1:=M (St.start ej w);go_wp2_with{};refine(sQ _).mono ?_;rintro e1 w1⟨rfl,rfl⟩;have aa:(((w.alloc (Ra #[I J 0,I J 0,U ⟨#[]⟩,Z N 0 0] 204)).alloc (Ra #[I J 0] 3)).alloc (Ra #[I J 0] 42)).heap.size=w.heap.size+1+1+1:=by simp
 rw[aa];clear aa;go_wp2_with{};generalize e2:aq (aq (aq (aq (aq w _) _) _) _) _=X;have z3:=iD e2 (n:=w.heap.size+1+1+1+1+1) (by simp);replace H1:=bW e2 (St.a6 (St.a6 (St.a6 (St.a6 (St.a6 H1.out _ (w.heap.size) (by simp)) _ (w.heap.size+1) (by simp)) _ (w.heap.size+1+1) (by simp)) _ (w.heap.size+1+1+1) (by simp)) _ (w.heap.size+1+1+1+1) (by simp));clear e2;refine(EC s X).mono ?_;rintro e1 w1⟨rfl,rfl⟩;go_wp2_with{};have bf:=M H1.out.low.aC;have hB2:ay w.heap.size w (X.alloc (Ra #[U s] 9)):=bf.out.alloc bf.out.size _;have aX:(X.alloc (Ra #[U s] 9)).heap[X.heap.size]? =O (Ra #[U s] 9 (0,0)):=cF X _;have P:(X.alloc (Ra #[U s] 9)).heap.size=X.heap.size+1:=by simp
 have H4:=M (H1.out.alloc (Ra #[U s] 9));clear H1;have H5:=M (H4.out.more (j4 (E:=333) (size:=4) (base:=w.heap.size) (v:=Z N 0 0) (es:=[]) (dH _ _ _ _)) (fun _ h=>by cases h) (fun _ _ _ _ h=>by cases h));clear H4;have H6:=M (H5.out.front 6 _ A A);clear H5;have H7:=M (H6.out.front 6 _ A A);clear H6;have H8:=M (H7.out.front 6 _ A A);clear H7;have H9:=M (H8.out.front 6 _ A A);clear H8;have aE:=M (H9.out.front 6 _ A A);clear H9;have aF:=M (aE.out.front 6 _ A A);clear aE;have aG:=M (aF.out.front 6 _ A A);clear aF;have HI:=M (show K_ w X.heap.size s [] (X.alloc (Ra #[U s] 9))from⟨Z N 0 0,[],aG.out,rfl,fun _=>by simp⟩);clear aG;obtain⟨W2,a1⟩:∃W2,X.alloc (Ra #[U s] 9)=W2:=⟨_,rfl⟩;rw[a1]at HI hB2 aX P⊢;have aO:=M P;clear a1 P;obtain⟨l,hl⟩:∃l,cI s.data.toList=l:=⟨_,rfl⟩
 refine wpIn_wide.1 (wpIn_rangeFunc_ownH A (n:=3) (by decide) (gf:=266) (lb:= #[Ru (O ⟨X.heap.size,0,N⟩)]) A trivial (enters_of func266 (by kernel_rfl) A)
  (yi 2 X.heap.size s (by omega) W2 (HT.out.below hB2) aX) lh.trans (fun W l o o' hl h1 h2 h3=>lh.G' hl h1 (by rw[aO.out];omega) (by have:=hB2.size;omega)) (ax _ _) (fun _=>rfl)
  (fun pre W=>K_ w X.heap.size s pre W)
  (fun c pre W=>Nn w s c pre W)
  (Ch w X.heap.size s _ (by rw[aO.out];omega)) (fun c=>J_ w s c _ (by have:=hB2.size;omega)) HI.out
  (fun x a' W=>∃(Q:Nat) (p:Pc),(cI s.data.toList)[x.val]? =O p/\W.heap[Q]? =O (Ra #[I J p.k,I J p.n,U p.s,I J p.at'] 333 (0,0))/\a'={tmps:= #[U s,undef,Ru (O ⟨w.heap.size,0,N⟩),Ru (O ⟨w.heap.size+1,0,N⟩),Ru (O ⟨w.heap.size+1+1,0,N⟩),Ru (O ⟨w.heap.size+1+1+1+1,0,N⟩),Ru (O ⟨Q,0,N⟩),undef,undef,undef,U s,I J s.size,Ri false,undef,U s,I J s.size,Rj #[Z N 0 0,I J 0,I J s.size], .map (O (w.heap.size+1+1+1)),Rj #[Z N 0 0,I J 0,I J s.size, .map (O (w.heap.size+1+1+1))],U s, .func (.func 266) #[] #[Ru (O ⟨X.heap.size,0,N⟩)],Rj #[I J p.k,I J p.n,U p.s,I J p.at'], undef,undef,undef,undef,undef,undef,undef,undef,undef,undef,undef,undef,undef,undef,undef,undef,undef,undef,undef,undef,undef,undef,undef,undef,undef,undef,undef,undef],defers:=[]})
  ?hAx ?assign ?body ?done ?stop)
 case hAx=>rintro x a' _ W W' row⟨Q,p,h1,h2,h3⟩hg hr;exact⟨Q,p,h1,qw h2 hg hr,h3⟩
 case assign=>rintro lp pre x W K hI hK;have hx:(cI s.data.toList)[x.val]? =O (cI s.data.toList)[x.val]:=an x.isLt;simp only[show(cI s.data.toList)[x]=(cI s.data.toList)[x.val]from rfl];generalize(cI s.data.toList)[x.val]=p at*;have aW:K_ w X.heap.size s pre (W.alloc (Ra #[I J p.k,I J p.n,U p.s,I J p.at'] 333)):=Ch w X.heap.size s (w.heap.size+1+1+1+1) (by omega) pre W _ N hI (grownBy_alloc W _) (fun r e=>by cases e);have cp:X.heap.size<W.heap.size:=(by obtain⟨v,es,h1,_,_⟩:=hI;exact aV (h1.aR 1 A));have b6:=M (hK {tmps:= #[U s,undef,Ru (O ⟨w.heap.size,0,N⟩),Ru (O ⟨w.heap.size+1,0,N⟩),Ru (O ⟨w.heap.size+1+1,0,N⟩),Ru (O ⟨w.heap.size+1+1+1+1,0,N⟩),Ru (O ⟨W.heap.size,0,N⟩),undef,undef,undef,U s,I J s.size,Ri false,undef,U s,I J s.size,Rj #[Z N 0 0,I J 0,I J s.size], .map (O (w.heap.size+1+1+1)),Rj #[Z N 0 0,I J 0,I J s.size, .map (O (w.heap.size+1+1+1))],U s, .func (.func 266) #[] #[Ru (O ⟨X.heap.size,0,N⟩)],Rj #[I J p.k,I J p.n,U p.s,I J p.at'], undef,undef,undef,undef,undef,undef,undef,undef,undef,undef,undef,undef,undef,undef,undef,undef,undef,undef,undef,undef,undef,undef,undef,undef,undef,undef,undef,undef],defers:=[]} (W.alloc (Ra #[I J p.k,I J p.n,U p.s,I J p.at'] 333)) ((KeepsOthers.alloc W _).from _) (lh.below ((ax _ W).alloc (av _) _) cp) aW ⟨W.heap.size,p,hx,cF W _,rfl⟩);clear hK hI aW hx;unfold uA;gi_wp2;exact b6.out
 case body=>
  rintro lp pre x a' W dz _⟨v,es,B,S,m⟩⟨Q,p,hx,V,rfl⟩dI;have d:=M B;have dK:Tryz.prog.follows .mixedOrders=true:=(by kernel_rfl);have nQ:∀{b:Nat} {cs:Array ar} {T:TypeId} {fr:Nat×Nat},W.heap[b]? =O (Ra cs T fr) ->T≠333 ->Q≠b:=fun{b cs T fr}hb hT e=>by rw[e,hb]at V;simp only[bu,Obj.cells.injEq]at V;exact hT V.2.1
  have ec:=nQ (B.aR 6 A) (by decide);have eb:=nQ (B.aR 5 A) (by decide);have ee:=nQ (B.aR 4 A) (by decide);have ef:=nQ (B.aR 2 A) (by decide);have q0:W.cell? ⟨Q,0,N⟩=O (I J p.k):=(ag V 0).trans A;have q1:W.cell? ⟨Q,1,N⟩=O (I J p.n):=(ag V 1).trans A;have q2:W.cell? ⟨Q,2,N⟩=O (U p.s):=(ag V 2).trans A;have q3:W.cell? ⟨Q,3,N⟩=O (I J p.at') :=(ag V 3).trans A;have HP:=M m;have HX:=M hx;have aL:=M S;clear B nQ m hx S;by_cases hk:p.k=0
  · have e0:(p.k==0)=true:=(by simp[hk]);clear V;obtain⟨cs,l9⟩:=St.cs d 6 A;simp only[ak]at cs;obtain⟨⟨c1,f2⟩,⟨c3,f4⟩,⟨c5,f6⟩,⟨c7,f8⟩, -⟩:=cs;obtain⟨cs,ct⟩:=St.cs d 5 A;simp only[ak]at cs;obtain⟨⟨b8,f11⟩, -⟩:=cs;obtain⟨cs,dX⟩:=St.cs d 4 A;simp only[ak]at cs;obtain⟨⟨dm,f14⟩, -⟩:=cs;have c_:=d.out.ne 6 5 (b:=w.heap.size) (c:=w.heap.size+1) A A (by decide);have bn:=d.out.ne 5 6 (b:=w.heap.size+1) (c:=w.heap.size) A A (by decide);have bs:=d.out.ne 6 4 (b:=w.heap.size) (c:=w.heap.size+1+1) A A (by decide);have bt:=d.out.ne 4 6 (b:=w.heap.size+1+1) (c:=w.heap.size) A A (by decide);have bx:=d.out.ne 5 4 (b:=w.heap.size+1) (c:=w.heap.size+1+1) A A (by decide);have bz:=d.out.ne 4 5 (b:=w.heap.size+1+1) (c:=w.heap.size+1) A A (by decide);replace d:=M (St.aB d.out 6 A 0 (I J 0) A);simp only[ab,ae]at d;replace d:=M (St.aB d.out 6 A 1 (I J 0) A);simp only[ab,ae]at d;replace d:=M (St.aB d.out 6 A 2 (U ⟨#[]⟩) A);simp only[ab,ae]at d;replace d:=M (St.aB d.out 6 A 3 (Z N 0 0) A);simp only[ab,ae]at d;replace d:=M (St.aB d.out 5 A 0 (I J p.at') A);simp only[ab,ae]at d;replace d:=M (St.aB d.out 4 A 0 (I J 50) A);simp only[ab,ae]at d;have al:=M (d.out.drop 0);clear d;have R:=M (al.out.drop 0);clear al;have ao:=M (R.out.drop 0);clear R;have az:=M (ao.out.drop 0);clear ao
    have aH:=M (show KeepsFrom W2.heap.size W ((((((W.setCell ⟨w.heap.size,0,N⟩ (I J 0)).setCell ⟨w.heap.size,1,N⟩ (I J 0)).setCell ⟨w.heap.size,2,N⟩ (U ⟨#[]⟩)).setCell ⟨w.heap.size,3,N⟩ (Z N 0 0)).setCell ⟨w.heap.size+1,0,N⟩ (I J p.at')).setCell ⟨w.heap.size+1+1,0,N⟩ (I J 50)).drew/\Nn w s .ret (pre++[x]) ((((((W.setCell ⟨w.heap.size,0,N⟩ (I J 0)).setCell ⟨w.heap.size,1,N⟩ (I J 0)).setCell ⟨w.heap.size,2,N⟩ (U ⟨#[]⟩)).setCell ⟨w.heap.size,3,N⟩ (Z N 0 0)).setCell ⟨w.heap.size+1,0,N⟩ (I J p.at')).setCell ⟨w.heap.size+1+1,0,N⟩ (I J 50)).drew from
     ⟨((((((((aZ W _ _).trans (aZ _ _ _)).trans (aZ _ _ _)).trans (aZ _ _ _)).trans (aZ _ _ _)).trans (aZ _ _ _)).trans (ju _)).from _),rfl,p.at', az.out.drew,fun hr=>by obtain⟨r1,r2⟩:=mq _ _ hr;have hx:=HX.out;rw[r2]at hx;exact⟨p,Lz (HP.out r1).2 hx hk,rfl⟩⟩)
    clear az hk;gi_wp2;gi_region_with_o (fail);all_goals gi_wp2
    all_goals exact aH.out
  {skip;obtain⟨cs,dZ⟩:=St.cs d 2 A;simp only[ak]at cs;obtain⟨⟨dn,f23⟩,⟨dq,f25⟩,⟨aU,f27⟩,⟨dr,f29⟩, -⟩:=cs;have e0:(p.k==0)=false:=(by simp[hk]);have b3:=M (d.out.aR 1 A);have L:=(d.out.get 0 _ A:cA 333 4 w.heap.size v es W);have zb:=d.out.base;have hlen:(es.length+1)*40<=140737488355328:=(by have:=aL.out;have:=(tA s).2;omega);gi_wp2_with (gi_at_builtin;refine xP A _ _ A NH w.heap.size _ es [I J p.k,I J p.n,U p.s,I J p.at'] W A A L A A (by intro y hy;simp at hy;rcases hy with rfl|rfl|rfl|rfl<;>rfl) hlen zb ?_);intro v2 w9 o2 g2 a2;obtain⟨xa,xc,rfl⟩:=cA.slice o2;have bj:(es++[[bd .i64 p.k,bd .i64 p.n,Value.string p.s,bd .i64 p.at']]).length=es.length+1:=(by simp);rw[bj]at o2 a2⊢;clear bj;have b5:=M (((KeepsOthers.alloc W (Ra #[I J p.k,I J p.n,U p.s,I J p.at'] 333)).trans (Ev (cL L _) g2)).trans (aZ w9 ⟨w.heap.size+1+1+1+1,0,N⟩ (Z xa (es.length+1) xc)));have t:=M ((d.out.keep (gX _ _ _)).app 0 A o2 g2 (by rw[aQ];exact a2) A);clear d;clear o2 g2 a2 L zb;obtain⟨cs,d'⟩ :=St.cs t 2 A;simp only[ak]at cs;obtain⟨⟨c32,f33⟩,⟨ds,f35⟩,⟨dv,f37⟩,⟨dw,f39⟩, -⟩:=cs;gi_wp2;replace t:=M (St.aB t.out 2 A 0 ((Z xa (es.length+1) xc)) A);simp only[ab,ae]at t;refine⟨b5.out.from _,⟨?_,fun _=>HT.out.below t.out.low.aC⟩,_,_,t.out,by simp[aL.out],fun hr=> ?_⟩;{exact(t.out.aR 1 A).trans b3.out.symm};{obtain⟨r1,r2⟩:=mq _ _ hr;obtain⟨i1,i2⟩:=HP.out r1;have hx:=HX.out;rw[r2]at hx;rw[aw,aS,a7,bC,MJ hx];refine⟨by rw[i1];simp[tx],fun q hq=> ?_⟩;rcases gL.1 hq with hq|hq;{exact i2 q hq};{simp at hq;subst hq;exact hk}}}
 case done=>
  rintro D ys W hD hS⟨v,es,d,S,m⟩hK;have hlen:ys.length=(cI s.data.toList).length:=(by simpa using congrArg List.length hS);obtain⟨H,G⟩:=m (by rw[hlen];exact hS);rw[hlen,fm]at H G;have cq:=tA s
  have bk:kP s=match pW (cI s.data.toList) s.size (wT (cI s.data.toList))with
   | .error x=>.error (x,50)
   | .ok e=>if AE e=true then .ok e else .error (0,51):=by
   unfold kP pW
   rw[Rq (by omega),List.find?_eq_none.2 (fun q hq=>by simpa using G q hq)]
   simp only[]
   cases jD (cI s.data.toList) s.size (wT (cI s.data.toList)) 1 0 with
   |error x=>rfl
   |ok x=>
    obtain⟨e,j⟩:=x
    simp only[]
    split<;>rfl
  have bb:=fun E(h:pW (cI s.data.toList) s.size (wT (cI s.data.toList))=.ok E)=>E_ (fun p hp=>bc (cq.1 p hp) (by decide)) h;have hdd:∀q∈La w X.heap.size s v es (w.heap.size+1+1+1+1),∀b,q.gY b ->¬du D b:=by{intro q hq b hb e;cases e;simp only[La,bh,bV,or_false]at hq;rcases hq with rfl|rfl|rfl|rfl|rfl|rfl|rfl;{obtain⟨c,fz,hc⟩:=ia (d.get 0 _ A:cA 333 4 w.heap.size v es W) _ hb;rw[hK]at hc;cases hc};{cases hb;have:=d.aR 1 A;rw[hK]at this;cases this};{cases hb;have:=d.aR 2 A;rw[hK]at this;cases this};{cases hb;have:=d.aR 3 A;rw[hK]at this;cases this};{cases hb;have:=d.aR 4 A;rw[hK]at this;cases this};{cases hb;have:=d.aR 5 A;rw[hK]at this;cases this};{cases hb;have:=d.aR 6 A;rw[hK]at this;cases this}};have bl:Ps (w.heap.size+1+1+1+1) v (cI s.data.toList) (w.heap.size+1+1+1) W:=by{have ho:=(d.get 0 _ A:cA 333 4 w.heap.size v es W);refine⟨N6 (H▸ho),d.aR 3 A,fun k hk=>(bp ho k hk).2,fun k hk e=> ?_,by omega⟩;exact sD ho (d.aR 2 A) (by decide) (by rw[<-e];exact hk.symm)};have HM:=d.more (fe hK) (fun b hb hl=>by cases hb;have:=hB2.size;omega) hdd;have aN:=M bl;have u:=M HM;have z:=M bk;have ad:=M bb;have cl:(cI s.data.toList).length<9000:=(by omega);generalize cn:kP s=r at*;clear bk cn d HM hdd bl hK H G bb S m hS hlen HI;generalize cI s.data.toList=l at*;go_wp2_with{};refine(IA (w.heap.size+1+1+1+1) (w.heap.size+1+1+1) v s.size l cl W (u.out.aR 3 A) aN.out (wT l) (by unfold wT;omega)).mono ?_;rintro e w3⟨c3,h3⟩;clear aN;cases hx:pW l s.size (wT l)with
  |error x=>rw[hx]at h3 z;simp only at h3 z;subst h3;have HG:=M z.out;clear z hx ad;have g:=M (u.out.zP 3 A c3 A);clear u;clear c3;obtain⟨cs,l10⟩:=St.cs g 6 A;simp only[ak]at cs;obtain⟨⟨c2,f3⟩,⟨c4,f5⟩,⟨c6,f7⟩,⟨c8,f9⟩, -⟩:=cs;obtain⟨cs,dU⟩:=St.cs g 5 A;simp only[ak]at cs;obtain⟨⟨dk,f12⟩, -⟩:=cs;obtain⟨cs,dY⟩:=St.cs g 4 A;simp only[ak]at cs;obtain⟨⟨aT,f15⟩, -⟩:=cs;have bn:=g.out.ne 6 5 (b:=w.heap.size) (c:=w.heap.size+1) A A (by decide);have bs:=g.out.ne 5 6 (b:=w.heap.size+1) (c:=w.heap.size) A A (by decide);have bt:=g.out.ne 6 4 (b:=w.heap.size) (c:=w.heap.size+1+1) A A (by decide);have bx:=g.out.ne 4 6 (b:=w.heap.size+1+1) (c:=w.heap.size) A A (by decide);have bz:=g.out.ne 5 4 (b:=w.heap.size+1) (c:=w.heap.size+1+1) A A (by decide);have c':=g.out.ne 4 5 (b:=w.heap.size+1+1) (c:=w.heap.size+1) A A (by decide);go_wp2_with{};replace g:=M (St.aB g.out 6 A 0 (I J 0) A);simp only[ab,ae]at g;replace g:=M (St.aB g.out 6 A 1 (I J 0) A);simp only[ab,ae]at g;replace g:=M (St.aB g.out 6 A 2 (U ⟨#[]⟩) A);simp only[ab,ae]at g;replace g:=M (St.aB g.out 6 A 3 (Z N 0 0) A);simp only[ab,ae]at g;replace g:=M (St.aB g.out 5 A 0 (I J x) A);simp only[ab,ae]at g;replace g:=M (St.a6 (St.aB g.out 4 A 0 (I J 50) A) (Ra #[I J 0,I J 0,U ⟨#[]⟩,Z N 0 0] 204) (w3.heap.size) (by simp));simp only[ab,ae]at g;refine rE A A A (g.out.aR 7 A) (g.out.aR 6 A) (g.out.aR 5 A) (g.out.aR 1 A) ?_;rw[HG.out];have R:=M (g.out.zP 1 A (zQ (o:=.deferred N)) A);clear g;exact⟨R.out.low.aC,rfl⟩
  |ok E=>skip;have hz:=ad.out _ hx;rw[hx]at h3 z;simp only at h3 z;clear hx ad;obtain⟨cs,Ft,rfl,ht,hf⟩:=h3;obtain⟨sa,sn,sc,rfl⟩:=iW ht;have g:=M ((u.out.zP 3 A c3 A).more ht (fun b hb hl=>absurd hl (by have:=u.out.low.size;have:=hf b hb;omega)) (fun r hr b hb hb2=>by have:=(u.out.mem r (List.mem_of_mem_eraseIdx hr)).1.dom b hb;have:=hf b hb2;omega));clear u;clear c3 ht hf;go_wp2_with{};generalize e2:aq w3 _=Y;have z3:=iD e2 (n:=w3.heap.size+1) (by simp);replace g:=bW e2 (St.a6 g.out _ (w3.heap.size) (by simp));clear e2;obtain⟨cs,ct⟩:=St.cs g 0 A;simp only[ak]at cs;obtain⟨⟨c4,f5⟩,⟨c6,f7⟩,⟨c8,f9⟩,⟨b8,f11⟩, -⟩:=cs;go_wp2_with{};refine(EL E [I J E.k,I J E.n,U E.s,Z sa sn sc] Y (by have:=g.out.low.size;omega) (HT.out.below g.out.low.aC) hz (fun W9 ck=>((g.out.nth 1 _ A).bF (jI.eP (F:=ej) ck) (fun _ _ f=>f.elim)).hold)).mono ?_;rintro e w4⟨rfl,b4⟩;have a:=M (g.out.below b4);clear g;clear b4 hz;cases hr:AE E;{skip;rw[hr]at z;have HG:=M (show r=.error (0,51)from z.out.trans (by simp));clear z hr;obtain⟨cs,cv⟩:=St.cs a 8 A;simp only[ak]at cs;obtain⟨⟨aT,f15⟩,⟨c16,f17⟩,⟨b9,f19⟩,⟨b', f21⟩, -⟩:=cs;obtain⟨cs,cx⟩:=St.cs a 7 A;simp only[ak]at cs;obtain⟨⟨ca,f24⟩, -⟩:=cs;obtain⟨cs,cz⟩:=St.cs a 6 A;simp only[ak]at cs;obtain⟨⟨aU,f27⟩, -⟩:=cs;have bA:=a.out.ne 8 7 (b:=w.heap.size) (c:=w.heap.size+1) A A (by decide);have bE:=a.out.ne 7 8 (b:=w.heap.size+1) (c:=w.heap.size) A A (by decide);have bG:=a.out.ne 8 6 (b:=w.heap.size) (c:=w.heap.size+1+1) A A (by decide);have bH:=a.out.ne 6 8 (b:=w.heap.size+1+1) (c:=w.heap.size) A A (by decide);have bJ:=a.out.ne 7 6 (b:=w.heap.size+1) (c:=w.heap.size+1+1) A A (by decide);have bM:=a.out.ne 6 7 (b:=w.heap.size+1+1) (c:=w.heap.size+1) A A (by decide);have bN:=a.out.ne 0 8 (b:=w3.heap.size) (c:=w.heap.size) A A (by decide);have bT:=a.out.ne 0 7 (b:=w3.heap.size) (c:=w.heap.size+1) A A (by decide);have bU:=a.out.ne 0 6 (b:=w3.heap.size) (c:=w.heap.size+1+1) A A (by decide);have bX:=a.out.ne 8 0 (b:=w.heap.size) (c:=w3.heap.size) A A (by decide);have bY:=a.out.ne 7 0 (b:=w.heap.size+1) (c:=w3.heap.size) A A (by decide);have b0:=a.out.ne 6 0 (b:=w.heap.size+1+1) (c:=w3.heap.size) A A (by decide);obtain⟨cs,cB⟩:=St.cs a 0 A;simp only[ak]at cs;obtain⟨⟨cb,f42⟩,⟨cc,f44⟩,⟨cd,f46⟩,⟨ch,f48⟩, -⟩:=cs;go_wp2_with{};replace a:=M (St.aB a.out 8 A 0 (I J 0) A);simp only[ab,ae]at a;replace a:=M (St.aB a.out 8 A 1 (I J 0) A);simp only[ab,ae]at a;replace a:=M (St.aB a.out 8 A 2 (U ⟨#[]⟩) A);simp only[ab,ae]at a;replace a:=M (St.aB a.out 8 A 3 (Z N 0 0) A);simp only[ab,ae]at a;replace a:=M (St.aB a.out 7 A 0 (I J 0) A);simp only[ab,ae]at a;replace a:=M (St.aB a.out 6 A 0 (I J 51) A);simp only[ab,ae]at a;refine rE A A A (a.out.aR 8 A) (a.out.aR 7 A) (a.out.aR 6 A) (a.out.aR 2 A) ?_;rw[HG.out];have C:=M (a.out.zP 2 A (zQ (o:=.deferred N)) A);clear a;exact⟨C.out.low.aC,rfl⟩};{skip;rw[hr]at z;have HG:=M (show r=.ok E from z.out.trans (by simp));clear z hr;obtain⟨cs,cv⟩:=St.cs a 8 A;simp only[ak]at cs;obtain⟨⟨aT,f15⟩,⟨c16,f17⟩,⟨b9,f19⟩,⟨b', f21⟩, -⟩:=cs;obtain⟨cs,cx⟩:=St.cs a 7 A;simp only[ak]at cs;obtain⟨⟨ca,f24⟩, -⟩:=cs;obtain⟨cs,cz⟩:=St.cs a 6 A;simp only[ak]at cs;obtain⟨⟨aU,f27⟩, -⟩:=cs;have bA:=a.out.ne 8 7 (b:=w.heap.size) (c:=w.heap.size+1) A A (by decide);have bE:=a.out.ne 7 8 (b:=w.heap.size+1) (c:=w.heap.size) A A (by decide);have bG:=a.out.ne 8 6 (b:=w.heap.size) (c:=w.heap.size+1+1) A A (by decide);have bH:=a.out.ne 6 8 (b:=w.heap.size+1+1) (c:=w.heap.size) A A (by decide);have bJ:=a.out.ne 7 6 (b:=w.heap.size+1) (c:=w.heap.size+1+1) A A (by decide);have bM:=a.out.ne 6 7 (b:=w.heap.size+1+1) (c:=w.heap.size+1) A A (by decide);have bN:=a.out.ne 0 8 (b:=w3.heap.size) (c:=w.heap.size) A A (by decide);have bT:=a.out.ne 0 7 (b:=w3.heap.size) (c:=w.heap.size+1) A A (by decide);have bU:=a.out.ne 0 6 (b:=w3.heap.size) (c:=w.heap.size+1+1) A A (by decide);have bX:=a.out.ne 8 0 (b:=w.heap.size) (c:=w3.heap.size) A A (by decide);have bY:=a.out.ne 7 0 (b:=w.heap.size+1) (c:=w3.heap.size) A A (by decide);have b0:=a.out.ne 6 0 (b:=w.heap.size+1+1) (c:=w3.heap.size) A A (by decide);obtain⟨cs,cB⟩:=St.cs a 0 A;simp only[ak]at cs;obtain⟨⟨cb,f42⟩,⟨cc,f44⟩,⟨cd,f46⟩,⟨ch,f48⟩, -⟩:=cs;go_wp2_with{};replace a:=M (St.aB a.out 8 A 0 (I J E.k) A);simp only[ab,ae]at a;replace a:=M (St.aB a.out 8 A 1 (I J E.n) A);simp only[ab,ae]at a;replace a:=M (St.aB a.out 8 A 2 (U E.s) A);simp only[ab,ae]at a;replace a:=M (St.aB a.out 8 A 3 (Z sa sn sc) A);simp only[ab,ae]at a;replace a:=M (St.aB a.out 7 A 0 (I J 0) A);simp only[ab,ae]at a;replace a:=M (St.aB a.out 6 A 0 (I J 0) A);simp only[ab,ae]at a;refine rE A A A (a.out.aR 8 A) (a.out.aR 7 A) (a.out.aR 6 A) (a.out.aR 2 A) ?_;rw[HG.out];have C:=M (a.out.zP 2 A (zQ (o:=.deferred N)) A);clear a;exact⟨C.out.low.aC,_,_,rfl,C.out.nth 1 _ A,fun k hk=>Nat.le_of_not_lt fun hl=>((C.out.mem _ (aP (i:=1) A)).2 k hk hl).elim⟩}
 case stop=>rintro D c pre W hD⟨k,hk,m⟩⟨rfl,x,d,hx⟩hK;have hlen:pre.length=k:=(by simpa using congrArg List.length m);rw[<-hlen]at m;obtain⟨p,hp,rfl⟩:=hx m;have hr:kP s=.error (p.at', 50):=by{unfold kP;rw[Rq (by omega),hp]};have z:=M hr;have d:=M d;have HK:=M hK;clear hx m hp hK hr;gi_wp2;refine rE A A A (d.out.aR 2 A) (d.out.aR 1 A) (d.out.aR 0 A) HK.out ?_;rw[z.out];exact⟨d.out.low.aC.trans (belowK_b (w:=w) (av _) _ D _ _ (by have:=hB2.size;omega) HK.out A A),rfl⟩
theorem Hj(s:ByteArray)(w:ai)(hT:jJ w)(hg:8<=w.heap.size):aJ ah 232 #[U s] w (Dm (kP s) w):=by by_cases h:200<s.size;{exact Hk s h w};{exact Ci s (by omega) w hT hg}
end
end Go.Proofs.YtbcbefpninlfiaaGreatDoor
