import Derived.Test.YtbcbefpninlfiaaGreatDoorC24
set_option maxHeartbeats 64000000
set_option maxRecDepth 100000
set_option linter.all false
open Go renaming Calls->aJ,Value->ar,World->ai
open Go.Proofs.Tryz renaming prog->ah
open Go.Value renaming agg->Rj,bool->Ri,int->I,pointer->Ru,slice->Z,string->U,tuple->Rx
open Option renaming none->N,some->O
open Go.Ending renaming returned->Rh
open Go.Exit renaming thenS->jR
open Go.Obj renaming cells->Ra
open Go.IntKind renaming i64->J
open Go.World renaming alloc->aq,setCell->af
open Go.RowKit renaming Below->ay
open List renaming eraseIdx_cons_zero->dQ
open Int renaming tdiv_eq_ediv_of_nonneg->iq,tmod_eq_emod_of_nonneg->ir
open Nat renaming le_of_ble_eq_true->j9
namespace Mor
def cH(c n:Int):Int:=(if c<0 then -(c+1)else c) % n
theorem cP(c n:Int)(hn:0<n):0<=cH c n/\cH c n<n:=⟨Int.emod_nonneg _ (by omega),Int.emod_lt_of_pos _ hn⟩
end Mor
namespace Go.Proofs.YtbcbefpninlfiaaGreatDoor
open Go.Proofs.Tryz
open Go.RowKit Mor
theorem Bk(p q:Addr)(w:ai):CallsD ah 57 #[Ru (O p),Ru (O q)] .returning w fun e b w'=>e=Rh (Rx #[])/\b=.returning/\w'=w:=by refine callsD_of_wpS func57 A fun a cs hu=> ?_;apply wpS_seq;apply wpS_region;simp[wpOpsS,go_sem,recoverD,hu,ntmps57,jR];apply wpS_seq;apply wpS_seq;apply wpS_region;simp[wpOpsS,go_sem,jR];refine wpS_cond (t:=true) (by simp[Act.eval,Array.replicate]) ?_;simp only[if_true];refine wpS_of_wp ?_;go_wp2_with{};simp only[jR];cases a;simp_all[bodyPostS,results,results57]
def OD(p q:Nat):Nat ->Prop:=fun k=>k=p\/k=q
theorem zV(p q:Nat)(a1 a2 a3 a4 a5 b1:ar)(b:List PanicEntry)(w:ai)(hp:w.heap[p]? =O (Ra #[a1,a2,a3,a4,a5] 38 (0,0)))(hq:w.heap[q]? =O (Ra #[b1] 42 (0,0)))(o:p≠q):
 CallsD ah 57 #[Ru (O ⟨p,0,N⟩),Ru (O ⟨q,0,N⟩)] (.panicking ({v:=.iface 115 (Rj #[I J 110]),recovered:=false}::b)) w fun e B w'=>e=Rh (Rx #[])/\B=.panicking ({v:=.iface 115 (Rj #[I J 110]),recovered:=true}::b)/\jI (OD p q) w w'/\w'.heap[p]? =O (Ra #[I J 0,I J 0,I J 0,Z N 0 0,Z N 0 0] 38 (0,0))/\w'.heap[q]? =O (Ra #[I J 110] 42 (0,0)):=by
 have H:=M ((St.kX (F:=OD p q) hp (.inl A)).more (fe hq) (fun k hk _=>by cases hk;exact .inr A) (by intro r hr k hk g;rcases cm.1 hr;cases hk;exact o g))
 have d:∀W,(Instr.typeAssert (.iface 115 (Rj #[I J 110])) 20 115 true).run ah W=.ok (Rx #[Rj #[I J 110],Ri true]) W:=by intro W;kernel_rfl
 have s:w.cell? ⟨p,0,N⟩=O a1:=(ag hp 0).trans A
 have u:w.cell? ⟨p,1,N⟩=O a2:=(ag hp 1).trans A
 have x:w.cell? ⟨p,2,N⟩=O a3:=(ag hp 2).trans A
 have y:w.cell? ⟨p,3,N⟩=O a4:=(ag hp 3).trans A
 have z:w.cell? ⟨p,4,N⟩=O a5:=(ag hp 4).trans A
 have q0:w.cell? ⟨q,0,N⟩=O b1:=(ag hq 0).trans A
 have i:∀j,w.frozen? ⟨p,j,N⟩=false:=fun j=>aW hp j
 have l:w.frozen? ⟨q,0,N⟩=false:=aW hq 0
 have m:=aV hp
 have n:=aV hq
 refine callsD_of_wpS func57 A fun h cs hu=> ?_
 apply wpS_seq
 apply wpS_region
 simp[wpOpsS,go_sem,recoverD,hu,ntmps57,jR]
 apply wpS_seq
 apply wpS_seq
 apply wpS_region
 simp[wpOpsS,go_sem,jR]
 refine wpS_cond (t:=false) (by simp[Act.eval,Array.replicate]) ?_
 simp only[Bool.false_eq_true,if_false]
 refine wpS_of_wp (wp_skip ?_)
 simp only[jR]
 refine wpS_of_wp ?_
 simp only[cN,cO,dD,bI,b_,aD,ab,ae,cS]
 refine iu fun K c=> ?_
 go_wp2_with{}
 generalize e:af (af (af (af (af (af w _ _) _ _) _ _) _ _) _ _) _ _=V
 replace H:=bW e (St.aB (St.aB (St.aB (St.aB (St.aB (St.aB H.out 1 A 0 _ A) 1 A 1 _ A) 1 A 2 _ A) 1 A 3 _ A) 1 A 4 _ A) 0 A 0 _ A)
 simp only[ab,ae]at H
 clear e s u x y z q0 i l m n hp hq
 refine c.out _ _ ?_
 clear c K
 refine iu fun K c=> ?_
 have f:=d V
 clear d
 go_wp2_with{}
 clear f
 generalize e:aq V _=Y
 replace H:=bW e (St.alloc H.out _)
 clear e
 refine c.out _ _ ?_
 clear c K
 obtain⟨cs,C⟩:=St.cs H 0 A
 simp only[ak]at cs
 obtain⟨⟨a0,b0⟩, -⟩:=cs
 obtain⟨cs,l1⟩:=St.cs H 1 A
 simp only[ak]at cs
 obtain⟨⟨c0,d0⟩, -⟩:=cs
 go_wp2_with{}
 generalize e:af Y _ _=a
 replace H:=bW e (St.aB H.out 1 A 0 _ A)
 simp only[ab,ae]at H
 exact⟨rfl,_,rfl,_,by simp[results,results57],rfl,rfl,H.out.low,H.out.aR 2 A,H.out.aR 1 A⟩
def Oo:ar:=Rj #[I J 0,I J 0,I J 0,Z N 0 0,Z N 0 0]
def KZ(d:Option Bt)(w:ai)(e:Ending)(w':ai):Prop:=ay w.heap.size w w'/\match d with
 |none=>e=Rh (Rx #[Oo,I J 110])
 |some t=>∃a rc va vc,e=Rh (Rx #[Rj #[I J t.kind,I J t.n,I J t.next,Z a t.recs.length rc,Z va t.bj.length vc],I J 0])/\jz w' (Z a t.recs.length rc) t.recs/\lJ w' (Z va t.bj.length vc) t.bj
theorem nM{s:ByteArray}(hs:s.size<=281474976710656){aE aF:Addr}{B:Nat}(w:ai)(he:Env aE aF B w):aJ ah 27 #[U s] w (KZ (rO s) w):=by
 have aa:∀(fn:Fn) (first cap:Array ar) (w:ai),(Instr.makeFunc fn first cap).run ah w=.ok (.func fn first cap) w:=fun _ _ _ _=>rfl;have T:=M he;have p:=M (fun(b:Nat)(X:ai)(hb:X.heap[b]? =O (iZ s 0))(hX:Env aE aF B X)(hB:B<=b)=>Gl hs 0 b X hb hX hB);have hb:=he.b;obtain⟨d,hd⟩:∃d,wy s 0=d:=⟨_,rfl⟩;rw[DE];rw[hd]at p⊢;clear he hd;have H:=M (St.start ej w);go_enter_defers func27,ntmps27;by_cases q:10000<s.size;{rw[Rs q];have d0:decide (10000<(s.size:Int))=true:=Rv (by omega);clear q;go_wp2_with{};generalize e:aq (aq w _) _=X;replace H:=bW e (St.alloc (St.alloc H.out _) _);simp only[aQ]at H;clear e;obtain⟨cs,Q⟩:=St.cs H 1 A;simp only[ak]at cs;obtain⟨⟨h,y⟩,⟨j,C⟩,⟨l,D⟩,⟨m,E⟩,⟨o,F⟩, -⟩:=cs;obtain⟨cs,P⟩:=St.cs H 0 A;simp only[ak]at cs;obtain⟨⟨g,x⟩, -⟩:=cs;simp[bodyPostD,Leaves,results,results27,go_sem,h,j,l,m,o,g];exact⟨H.out.low.aC,rfl⟩}
 · rw[Rq q];have d0:decide (10000<(s.size:Int))=false:=Rw (by omega);clear q;go_wp2_with{};clear d0;generalize e:aq (aq (aq w _) _) _=X;have z:=iD e (n:=w.heap.size+1+1+1) (by simp);replace H:=bW e (St.alloc (St.alloc (St.alloc H.out _) _) _);simp only[aQ]at H;clear e;refine(p.out (w.heap.size+1+1) _ (H.out.aR 0 A) (T.out.below H.out.low.aC) (by omega)).mono ?_;rintro e w2⟨c2,h2⟩;have z2:=c2.size;cases d with
   |none=>
    simp only at h2;subst h2;replace H:=M (H.out.zP 0 A c2 A);simp only[dQ]at H;unfold jL;clear c2 p;go_wp2_with{};refine leaves_cons (f:=57) (args:= #[Ru (O ⟨w.heap.size,0,N⟩),Ru (O ⟨w.heap.size+1,0,N⟩)]) (by simp) (by simp[go_sem]) ?_;refine(zV w.heap.size (w.heap.size+1) _ _ _ _ _ _ [] _ (H.out.aR 1 A) (H.out.aR 0 A) (by omega)).mono ?_;rintro e u w9⟨rfl,rfl,W,a,L⟩;have c:=H.out.low.trans W fun i hi hg=>by rcases hg with rfl|rfl<;>omega
    have r0:=(ag a 0).trans A;have r1:=(ag a 1).trans A;have r2:=(ag a 2).trans A;have r3:=(ag a 3).trans A;have r4:=(ag a 4).trans A;have q0:=(ag L 0).trans A;simp[Leaves,settle,results,results27,go_sem,r0,r1,r2,r3,r4,q0];exact⟨c.aC,rfl⟩
   |some t=>obtain⟨ra,rc,va,vc,G,rfl,hr,R⟩:=h2;replace H:=M ((H.out.zP 0 A c2 A).more hr (fun k hk Y=>absurd Y (by have:=R k hk;omega)) (by intro r hr k hk K;have:=R k K;simp only[dQ]at hr;rcases bh.1 hr with rfl|hr;cases hk;omega;rcases cm.1 hr;cases hk;omega));simp only[dQ]at H;clear c2 p hr;obtain⟨cs,Q⟩:=St.cs H 2 A;simp only[ak]at cs;obtain⟨⟨h,y⟩,⟨j,C⟩,⟨l,D⟩,⟨m,E⟩,⟨o,F⟩, -⟩:=cs;obtain⟨cs,P⟩:=St.cs H 1 A;simp only[ak]at cs;obtain⟨⟨g,x⟩, -⟩:=cs;have n1:=H.out.ne 1 2 A A (by decide);have n2:=H.out.ne 2 1 A A (by decide);go_wp2_with{};generalize e:af (af (af (af (af (af w2 _ _) _ _) _ _) _ _) _ _) _ _=V;replace H:=bW e (St.aB (St.aB (St.aB (St.aB (St.aB (St.aB H.out 2 A 0 _ A) 2 A 1 _ A) 2 A 2 _ A) 2 A 3 _ A) 2 A 4 _ A) 1 A 0 _ A);simp only[ab,ae]at H;clear e Q P n1 n2 h y j C l D m E o F g x;refine leaves_cons (f:=57) (args:= #[Ru (O ⟨w.heap.size,0,N⟩),Ru (O ⟨w.heap.size+1,0,N⟩)]) (by simp) (by simp[go_sem]) ?_;refine(Bk _ _ _).mono ?_;rintro e u w9⟨rfl,rfl,rfl⟩;obtain⟨cs,Q⟩:=St.cs H 2 A;simp only[ak]at cs;obtain⟨⟨h,y⟩,⟨j,C⟩,⟨l,D⟩,⟨m,E⟩,⟨o,F⟩, -⟩:=cs;obtain⟨cs,P⟩:=St.cs H 1 A;simp only[ak]at cs;obtain⟨⟨g,x⟩, -⟩:=cs;simp[Leaves,settle,results,results27,go_sem,h,j,l,m,o,g];refine⟨H.out.low.aC,ra,rc,va,vc, ?_⟩;have S:=H.out.get 0 _ A;exact⟨by simp,S.1,S.2⟩
theorem iT(c n:Int)(hc:ee c)(hn:0<n)(d:n<=1000000)(w:ai):aJ ah 26 #[I J c,I J n] w fun e w'=>e=Rh (I J (cH c n))/\ay w.heap.size w w':=by
 obtain⟨c1,c2⟩:=hc;have a:n≠0:=by omega
 have b:(n==0)=false:=Rm.2 a;by_cases h:c<0;{have E:=M (show cH c n= -((c+1).tmod n) by unfold cH;rw[Rs h,<-Int.neg_tmod,ir (by omega)]);go_in;go_wp2_with{};go_ret;exact⟨by rw[E.out];rfl,ax _ _⟩};{have E:=M (show cH c n=c % n by unfold cH;rw[Rq h]);go_in;go_wp2_with{};go_ret;exact⟨by rw[E.out];rfl,ax _ _⟩}
theorem ij(c n:Int)(hc:ee c)(hn:0<n)(d:n<=1000000)(w:ai):aJ ah 62 #[I J c,I J n] w fun e w'=>e=Rh (I J (cH c n))/\ay w.heap.size w w':=by
 obtain⟨c1,c2⟩:=hc;have a:n≠0:=by omega
 have b:(n==0)=false:=Rm.2 a;by_cases h:c<0;{have E:=M (show cH c n= -((c+1).tmod n) by unfold cH;rw[Rs h,<-Int.neg_tmod,ir (by omega)]);go_in;go_wp2_with{};go_ret;exact⟨by rw[E.out];rfl,ax _ _⟩};{have E:=M (show cH c n=c % n by unfold cH;rw[Rq h]);go_in;go_wp2_with{};go_ret;exact⟨by rw[E.out];rfl,ax _ _⟩}
theorem xr(c n:Int)(hc:ee c)(hn:0<n)(d:n<=1000000)(w:ai):aJ ah 121 #[I J c,I J n] w fun e w'=>e=Rh (I J (cH c n))/\ay w.heap.size w w':=by
 obtain⟨c1,c2⟩:=hc;have a:n≠0:=by omega
 have b:(n==0)=false:=Rm.2 a;by_cases h:c<0;{have E:=M (show cH c n= -((c+1).tmod n) by unfold cH;rw[Rs h,<-Int.neg_tmod,ir (by omega)]);go_in;go_wp2_with{};go_ret;exact⟨by rw[E.out];rfl,ax _ _⟩};{have E:=M (show cH c n=c % n by unfold cH;rw[Rq h]);go_in;go_wp2_with{};go_ret;exact⟨by rw[E.out];rfl,ax _ _⟩}
theorem lj(c n:Int)(hc:ee c)(hn:0<n)(d:n<=1000000)(w:ai):aJ ah 65 #[I J c,I J n] w fun e w'=>e=Rh (I J (cH c n))/\ay w.heap.size w w':=by
 obtain⟨c1,c2⟩:=hc;have a:n≠0:=by omega
 have b:(n==0)=false:=Rm.2 a;by_cases h:c<0;{have E:=M (show cH c n= -((c+1).tmod n) by unfold cH;rw[Rs h,<-Int.neg_tmod,ir (by omega)]);go_in;go_wp2_with{};go_ret;exact⟨by rw[E.out];rfl,ax _ _⟩};{have E:=M (show cH c n=c % n by unfold cH;rw[Rq h]);go_in;go_wp2_with{};go_ret;exact⟨by rw[E.out];rfl,ax _ _⟩}
theorem Ca(n:Int)(hn:ee n)(w:ai):aJ ah 71 #[I J n] w fun e w'=>∃s,e=Rh (U s)/\dn s=true/\s.size<=6/\ay w.heap.size w w':=by have a:=M (fun W=>iT n 4 hn (by decide) (by decide) W);obtain⟨z,c⟩:∃z,cH n 4=z:=⟨_,rfl⟩;have hb:=cP n 4 (by decide);rw[c]at a hb;clear hn c;have H:=M (St.start ej w);go_in;go_wp2_with{};generalize e:aq w _=X;replace H:=bW e (St.alloc H.out _);clear e;refine(a.out _).mono ?_;rintro e f⟨rfl,b⟩;replace H:=M (H.out.below b);clear b a;obtain⟨cs,d⟩:=St.cs H 0 A;simp only[ak]at cs;obtain⟨⟨a0, -⟩,⟨a1, -⟩,⟨a2, -⟩,⟨a3, -⟩, -⟩:=cs;rcases(show z=0\/z=1\/z=2\/z=3 by omega)with rfl|rfl|rfl|rfl;all_goals go_wp2_with{};go_ret;exact⟨_,rfl,by decide,by decide,H.out.low.aC⟩
theorem C_(a b:Int)(ha:ee a)(hb:ee b)(w:ai):aJ ah 73 #[I J a,I J b] w fun e w'=>∃k o,e=Rh (Iu k o)/\gN k o=true/\ay w.heap.size w w':=by have c:=M (fun W=>xr a 6 ha (by decide) (by decide) W);have d:=M (fun W=>xr b 4 hb (by decide) (by decide) W);have h1:=cP a 6 (by decide);have h2:=cP b 4 (by decide);generalize cH a 6=y at*;generalize cH b 4=z at*;clear ha hb;have H:=M (St.start ej w);go_in;go_wp2_with{};generalize e:aq w _=X;replace H:=bW e (St.alloc H.out _);clear e;refine(c.out _).mono ?_;rintro e j⟨rfl,f⟩;replace H:=M (H.out.below f);clear f c;obtain⟨cs,i⟩:=St.cs H 0 A;simp only[ak]at cs;obtain⟨⟨a0,b0⟩,⟨a1,b1⟩, -⟩:=cs;by_cases h:1+y<5;{have d5:decide (1+y<5)=true:=Rv h;go_wp2_with{};generalize e:af (af j _ _) _ _=V;replace H:=bW e (St.aB (St.aB H.out 0 A 0 _ A) 0 A 1 _ A);simp only[ab,ae]at H;exact au (cd _ _ 4 _ 30 _ _ _ A A (H.out.aR 0 A) (by kernel_rfl) (by kernel_rfl)) A ⟨_,_,rfl,by unfold gN;rw[Rq (by omega)];simp;omega,H.out.low.aC⟩};{have d5:decide (1+y<5)=false:=Rw h;go_wp2_with{};refine(d.out _).mono ?_;rintro e w3⟨rfl,g⟩;replace H:=M (H.out.below g);clear g d a0 b0 a1 b1 i;obtain⟨cs,i⟩:=St.cs H 0 A;simp only[ak]at cs;obtain⟨⟨a0,b0⟩,⟨a1,b1⟩, -⟩:=cs;go_wp2_with{};generalize e:af (af w3 _ _) _ _=V;replace H:=bW e (St.aB (St.aB H.out 0 A 0 _ A) 0 A 1 _ A);simp only[ab,ae]at H;exact au (cd _ _ 4 _ 30 _ _ _ A A (H.out.aR 0 A) (by kernel_rfl) (by kernel_rfl)) A ⟨_,_,rfl,by unfold gN;rw[Rs A];simp;omega,H.out.low.aC⟩}
def nZ(p:Pv):Prop:=fG p=true/\(gy p).length<=30/\p.s.size<=8/\(p.k≠3/\p.k≠4\/0<=p.n)
theorem oE{p:Pv}(h:p.s.size<=8):(gy p).length<=30:=by have h1:=aN p.k;have h2:=aN p.n;have h3:=cZ p.s;unfold gy ga;rw[aw];split;{omega};{split;{omega};{simp;omega}}
theorem yI:(⟨#[]⟩:ByteArray).size<=8:=by decide
theorem Io{n:Int}(h: -1000000000000000<=n/\n<=1000000000000000):nZ ⟨1,n,⟨#[]⟩⟩:=⟨by unfold fG gI vO gw;simp[h],oE yI,yI, .inl ⟨show(1:Int)≠3 by decide,show(1:Int)≠4 by decide⟩⟩
theorem y9:nZ ⟨0,0,⟨#[]⟩⟩:=⟨by kernel_rfl,oE yI,yI, .inl ⟨by decide,by decide⟩⟩
theorem y_{k n:Int}(hk:k=3\/k=4)(h:1<=n/\n<=100000):nZ ⟨k,n,⟨#[]⟩⟩:=by refine⟨?_,oE yI,yI, .inr (by show 0<=n;omega)⟩;rcases hk with rfl|rfl<;>(unfold fG gI xS gw;simp[h])
theorem ER{s:ByteArray}(h:ek s=true)(hs:s.size<=8):nZ ⟨2,0,s⟩:=⟨by unfold fG gI;simp[h],oE hs,hs, .inl ⟨show(2:Int)≠3 by decide,show(2:Int)≠4 by decide⟩⟩
theorem vG(k o n many:Int)(hk:1<=k/\k<=4)(hn:ee n)(hm:1<=many/\many<=100000)(w:ai):aJ ah 72 #[Iu k o,I J n,I J many] w fun e w'=>∃p:Pv,e=Rh (Rj #[I J p.k,I J p.n,U p.s,Z N 0 0])/\nZ p/\ay w.heap.size w w':=by unfold Iu;have H:=M (St.start ej w);have d0:decide (many<1)=false:=Rw (by omega);rcases(show k=1\/k=2\/k=3\/k=4 by omega)with rfl|rfl|rfl|rfl;{skip;have m:=M (fun W=>ij n 41 hn (by omega) (by omega) W);have C:=cP n 41 (by omega);generalize cH n 41=z at*;go_in;go_wp2_with{};generalize e:aq (aq (aq w _) _) _=X;replace H:=bW e (St.alloc (St.alloc (St.alloc H.out _) _) _);simp only[aQ]at H;clear e;refine(m.out _).mono ?_;rintro e B⟨rfl,a⟩;replace H:=M (H.out.below a);clear a m;obtain⟨cs,D⟩:=St.cs H 1 A;simp only[ak]at cs;obtain⟨⟨b,g⟩,⟨c,i⟩,⟨d,j⟩,⟨f,l⟩, -⟩:=cs;go_wp2_with{};generalize e:af (af (af (af B _ _) _ _) _ _) _ _=V;replace H:=bW e (St.aB (St.aB (St.aB (St.aB H.out 1 A 0 _ A) 1 A 1 _ A) 1 A 2 _ A) 1 A 3 _ A);simp only[ab,ae]at H;exact au (cd _ _ 6 _ 83 _ _ _ A A (H.out.aR 1 A) (by kernel_rfl) (by kernel_rfl)) A ⟨⟨1,_,⟨#[]⟩⟩,rfl,Io (by omega),H.out.low.aC⟩};{skip;have m:=M (fun W=>ij n 8 hn (by omega) (by omega) W);have C:=cP n 8 (by omega);generalize cH n 8=z at*;go_in;go_wp2_with{};generalize e:aq (aq (aq w _) _) _=X;replace H:=bW e (St.alloc (St.alloc (St.alloc H.out _) _) _);simp only[aQ]at H;clear e;refine(m.out _).mono ?_;rintro e B⟨rfl,a⟩;replace H:=M (H.out.below a);clear a m;obtain⟨cs,D⟩:=St.cs H 1 A;simp only[ak]at cs;obtain⟨⟨b,g⟩,⟨c,i⟩,⟨d,j⟩,⟨f,l⟩, -⟩:=cs;obtain⟨cs,lt⟩:=St.cs H 0 A;simp only[ak]at cs;obtain⟨⟨r,u⟩,⟨t,x⟩,⟨L,Y⟩,⟨P,aa⟩,⟨Q,ad⟩,⟨R,aj⟩,⟨S,al⟩,⟨T,ao⟩, -⟩:=cs;rcases(show z=0\/z=1\/z=2\/z=3\/z=4\/z=5\/z=6\/z=7 by omega)with rfl|rfl|rfl|rfl|rfl|rfl|rfl|rfl;all_goals go_wp2_with{};generalize e:af (af (af (af B _ _) _ _) _ _) _ _=V;replace H:=bW e (St.aB (St.aB (St.aB (St.aB H.out 1 A 0 _ A) 1 A 1 _ A) 1 A 2 _ A) 1 A 3 _ A);simp only[ab,ae]at H;exact au (cd _ _ 6 _ 83 _ _ _ A A (H.out.aR 1 A) (by kernel_rfl) (by kernel_rfl)) A ⟨⟨2,0,_⟩,rfl,ER (by kernel_rfl) (by decide),H.out.low.aC⟩};{skip;have m:=M (fun W=>ij n 5 hn (by omega) (by omega) W);have C:=cP n 5 (by omega);generalize cH n 5=z at*;have F:=M (fun W=>ij n many hn (by omega) (by omega) W);have G:=cP n many (by omega);generalize cH n many=y at*;go_in;go_wp2_with{};generalize e:aq (aq (aq w _) _) _=X;replace H:=bW e (St.alloc (St.alloc (St.alloc H.out _) _) _);simp only[aQ]at H;clear e;refine(m.out _).mono ?_;rintro e B⟨rfl,a⟩;replace H:=M (H.out.below a);clear a m;obtain⟨cs,D⟩:=St.cs H 1 A;simp only[ak]at cs;obtain⟨⟨b,g⟩,⟨c,i⟩,⟨d,j⟩,⟨f,l⟩, -⟩:=cs;obtain⟨cs,lt⟩:=St.cs H 2 A;simp only[ak]at cs;obtain⟨⟨r,u⟩,⟨t,x⟩, -⟩:=cs;by_cases q:z=4;{have d1:(z==4)=true:=(by simp[q]);clear q;go_wp2_with{};generalize e:af (af (af (af B _ _) _ _) _ _) _ _=V;replace H:=bW e (St.aB (St.aB (St.aB (St.aB H.out 1 A 0 _ A) 1 A 1 _ A) 1 A 2 _ A) 1 A 3 _ A);simp only[ab,ae]at H;exact au (cd _ _ 6 _ 83 _ _ _ A A (H.out.aR 1 A) (by kernel_rfl) (by kernel_rfl)) A ⟨⟨0,0,⟨#[]⟩⟩,rfl,y9,H.out.low.aC⟩};{have d1:(z==4)=false:=(by simp[q]);clear q;go_wp2_with{};have hw:IntKind.i64.wrap (1+y)=1+y:=bo _ (by omega);have E:(fun W:ai=>W.heap[w.heap.size]? =O (Ra #[I J 3,I J o] 30 (0,0))) B.drew:=H.out.aR 2 A;replace H:=M H.out.drew;refine kh (fun W:ai=>W.heap[w.heap.size]? =O (Ra #[I J 3,I J o] 30 (0,0))) 7 (vZ 0 4 (.call 4 (vZ 5 2 (.call 7 .done)))) (by kernel_rfl) (by kernel_rfl) (fun _ _ _ _ _ h=>h) E ?_;clear E;(iterate 4 refine cD A (Or.inl ⟨by rfl,fun W hS=>by have h0:=(ag hS 0).trans A;clear hS;go_simp;try with_reducible rfl⟩) ?_;go_simp);refine cj A (fun K hK=> ?_);go_simp;refine(F.out _).mono ?_;rintro e w3⟨rfl,a⟩;replace H:=M (H.out.below a);clear a F;refine hK _ _ (H.out.aR 2 A) ?_;clear hK K D lt b g c i d j f l;clear r u t x;go_simp;(iterate 2 refine cD A (Or.inl ⟨by rfl,fun W hS=>by have h0:=(ag hS 0).trans A;clear hS;go_simp;try with_reducible rfl⟩) ?_;go_simp);refine iK A (fun K hK=> ?_);obtain⟨cs,D⟩:=St.cs H 1 A;simp only[ak]at cs;obtain⟨⟨b,g⟩,⟨c,i⟩,⟨d,j⟩,⟨f,l⟩, -⟩:=cs;go_simp;generalize e:af (af (af (af w3 _ _) _ _) _ _) _ _=V;replace H:=bW e (St.aB (St.aB (St.aB (St.aB H.out 1 A 0 _ A) 1 A 1 _ A) 1 A 2 _ A) 1 A 3 _ A);simp only[ab,ae]at H;clear e;refine hK _ _ ?_;clear hK K;go_simp;refine gB ?_;go_wp2_with{};exact au (cd _ _ 6 _ 83 _ _ _ A A (H.out.aR 1 A) (by kernel_rfl) (by kernel_rfl)) A ⟨⟨3,_,⟨#[]⟩⟩,rfl,y_ (by omega) (by omega),H.out.low.aC⟩}};{skip;have m:=M (fun W=>ij n 5 hn (by omega) (by omega) W);have C:=cP n 5 (by omega);generalize cH n 5=z at*;have F:=M (fun W=>ij n many hn (by omega) (by omega) W);have G:=cP n many (by omega);generalize cH n many=y at*;go_in;go_wp2_with{};generalize e:aq (aq (aq w _) _) _=X;replace H:=bW e (St.alloc (St.alloc (St.alloc H.out _) _) _);simp only[aQ]at H;clear e;refine(m.out _).mono ?_;rintro e B⟨rfl,a⟩;replace H:=M (H.out.below a);clear a m;obtain⟨cs,D⟩:=St.cs H 1 A;simp only[ak]at cs;obtain⟨⟨b,g⟩,⟨c,i⟩,⟨d,j⟩,⟨f,l⟩, -⟩:=cs;obtain⟨cs,lt⟩:=St.cs H 2 A;simp only[ak]at cs;obtain⟨⟨r,u⟩,⟨t,x⟩, -⟩:=cs;by_cases q:z=4;{have d1:(z==4)=true:=(by simp[q]);clear q;go_wp2_with{};generalize e:af (af (af (af B _ _) _ _) _ _) _ _=V;replace H:=bW e (St.aB (St.aB (St.aB (St.aB H.out 1 A 0 _ A) 1 A 1 _ A) 1 A 2 _ A) 1 A 3 _ A);simp only[ab,ae]at H;exact au (cd _ _ 6 _ 83 _ _ _ A A (H.out.aR 1 A) (by kernel_rfl) (by kernel_rfl)) A ⟨⟨0,0,⟨#[]⟩⟩,rfl,y9,H.out.low.aC⟩};{have d1:(z==4)=false:=(by simp[q]);clear q;go_wp2_with{};have hw:IntKind.i64.wrap (1+y)=1+y:=bo _ (by omega);have E:(fun W:ai=>W.heap[w.heap.size]? =O (Ra #[I J 4,I J o] 30 (0,0))) B.drew:=H.out.aR 2 A;replace H:=M H.out.drew;refine kh (fun W:ai=>W.heap[w.heap.size]? =O (Ra #[I J 4,I J o] 30 (0,0))) 7 (vZ 0 4 (.call 4 (vZ 5 2 (.call 7 .done)))) (by kernel_rfl) (by kernel_rfl) (fun _ _ _ _ _ h=>h) E ?_;clear E;(iterate 4 refine cD A (Or.inl ⟨by rfl,fun W hS=>by have h0:=(ag hS 0).trans A;clear hS;go_simp;try with_reducible rfl⟩) ?_;go_simp);refine cj A (fun K hK=> ?_);go_simp;refine(F.out _).mono ?_;rintro e w3⟨rfl,a⟩;replace H:=M (H.out.below a);clear a F;refine hK _ _ (H.out.aR 2 A) ?_;clear hK K D lt b g c i d j f l;clear r u t x;go_simp;(iterate 2 refine cD A (Or.inl ⟨by rfl,fun W hS=>by have h0:=(ag hS 0).trans A;clear hS;go_simp;try with_reducible rfl⟩) ?_;go_simp);refine iK A (fun K hK=> ?_);obtain⟨cs,D⟩:=St.cs H 1 A;simp only[ak]at cs;obtain⟨⟨b,g⟩,⟨c,i⟩,⟨d,j⟩,⟨f,l⟩, -⟩:=cs;go_simp;generalize e:af (af (af (af w3 _ _) _ _) _ _) _ _=V;replace H:=bW e (St.aB (St.aB (St.aB (St.aB H.out 1 A 0 _ A) 1 A 1 _ A) 1 A 2 _ A) 1 A 3 _ A);simp only[ab,ae]at H;clear e;refine hK _ _ ?_;clear hK K;go_simp;refine gB ?_;go_wp2_with{};exact au (cd _ _ 6 _ 83 _ _ _ A A (H.out.aR 1 A) (by kernel_rfl) (by kernel_rfl)) A ⟨⟨4,_,⟨#[]⟩⟩,rfl,y_ (by omega) (by omega),H.out.low.aC⟩}}
def VV(W:ai)(v:ar)(V:Vl):Prop:=∃e,v=Rj e.toArray/\IX W e V
def uI(V:Vl):Prop:=iV V=true/\(fB V).length<=120/\sq V=false
theorem JU{q:Int}{l:List Pv}(hq:q=3\/q=4)(h:∀p∈l,nZ p):(qR q l).any pE=false:=by rw[Bool.eq_false_iff];intro a;obtain⟨n,hn,hb⟩:=List.any_eq_true.1 a;obtain⟨p,hp,rfl⟩:=fJ.1 hn;obtain⟨h1,h2⟩:=List.mem_filter.1 hp;have h3:=(h p h1).2.2.2;have h4:p.k=q:=of_decide_eq_true h2;have b:p.n<0:=of_decide_eq_true hb;omega
theorem Im{p:Pv}(h:nZ p):uI ⟨p.k,p.n,p.s,[]⟩:=by have h1:=h.1;unfold fG at h1;simp only[aK,Rt]at h1;refine⟨by rw[mT _ h1.1];exact h1.2, ?_, ?_⟩;{unfold fB;rw[Rq h1.1];exact bc h.2.1 (by omega)};{have hn:=h.2.2.2;have key:∀q:Int,q=3\/q=4 ->(lF q ⟨p.k,p.n,p.s,[]⟩).any pE=false:=by{intro q hq;unfold lF;split;{split;{rename_i e;have e2:p.k=q:=e;simp only[List.any_cons,List.any_nil,Bool.or_false];exact Rw (by omega)};{rfl}};{rfl}};unfold sq;rw[key 3 (.inl A),key 4 (.inr A)];rfl}
theorem y':∀(l:List Pv),(∀p∈l,nZ p) ->(l.flatMap gy).length<=l.length*30
 | [],_=>by simp
 |p::l,h=>by have h1:=(h p (by simp)).2.1;have h2:=y' l fun q hq=>h q (by simp[hq]);rw[dB,aw,aS,Nat.succ_mul];omega
theorem CG{l:List Pv}(h:∀p∈l,nZ p)(h3:l.length<=3):uI ⟨5,0,⟨#[]⟩,l⟩:=by refine⟨?_, ?_, ?_⟩;{rw[mU _ A];simp only[aK,Rt,ba];exact⟨trivial,by kernel_rfl,by omega,fun p hp=>(h p hp).1⟩};{unfold fB;rw[Rs A];have h1:=aN 5;have h2:=aN l.length;have h4:=y' l h;have a:l.length*30<=3*30:=dV _ h3;simp only[aw];omega};{have key:∀q:Int,q=3\/q=4 ->(lF q ⟨5,0,⟨#[]⟩,l⟩).any pE=false:=by{intro q hq;unfold lF;split;{rw[Rq (by show¬(5:Int)=q;omega)];exact JU hq h};{rfl}};unfold sq;rw[key 3 (.inl A),key 4 (.inr A)];rfl}
theorem MM{p:Pv}(h:nZ p)(W:ai):VV W (Rj #[I J p.k,I J p.n,U p.s,Z N 0 0]) ⟨p.k,p.n,p.s,[]⟩:=
 ⟨[_,_,_,_],rfl,_,rfl, .inl ⟨rfl,rfl⟩,by have:=h.2.2.1;exact⟨by show p.s.size<=_;omega,fun q hq=>by cases hq⟩⟩
def Ff(w:ai)(e:Ending)(w':ai):Prop:=ay w.heap.size w w'/\∃V v G,e=Rh v/\(⟨G,fun W=>VV W v V⟩:cM).at w'/\(∀k,G k ->w.heap.size<=k)/\uI V
theorem PE{n:Int}(h:ee n): -4611686018427387904<=n.tdiv 4/\n.tdiv 4<4611686018427387904:=by unfold ee at h;by_cases h0:0<=n;{rw[iq h0];omega};{obtain⟨m,rfl⟩:∃m,n= -m:=⟨-n,by omega⟩;rw[Int.neg_tdiv,iq (by omega)];omega}
def PT(w:ai)(o:Int)(T:Array ar)(x:ar)(wr:ai):Prop:=∃(i:Nat) (l:List Pv) (v:ar),x=I J i/\i<=3/\l.length=i/\(∀p∈l,nZ p)/\(l=[] ->v=Z N 0 0)/\
 Hid (St ej w [mV 83 4 w.heap.size v (l.map oJ),eH (w.heap.size+1+1+1) (Ra #[I J 5,I J 0,U ⟨#[]⟩,v] 83),eH (w.heap.size+1+1) (Ra T 9),eH (w.heap.size+1) (Ra #[I J 0,I J 0,U ⟨#[]⟩,Z N 0 0] 83),eH w.heap.size (Ra #[I J 5,I J o] 30)] wr)
theorem CY(o n many:Int)(ho:1<=o/\o<=4)(hn:ee n)(hm:1<=many/\many<=100000)(w:ai):aJ ah 72 #[Iu 5 o,I J n,I J many] w (Ff w):=by
 unfold Iu;have H:=M (St.start ej w);have HP:=M (fun W=>ij n 4 hn (by omega) (by omega) W);have aj:=cP n 4 (by omega);generalize cH n 4=z at*;have j:=hn;unfold ee at j;have G:=M (fun m g W=>vG o 0 m many ho g hm W);unfold Iu at G;go_in;go_wp2_with{};generalize e:aq (aq (aq (aq w _) _) _) _=X;replace H:=bW e (St.alloc (St.alloc (St.alloc (St.alloc H.out _) _) _) _);simp only[aQ]at H;clear e;replace H:=M (H.out.more (j4 (jj 83 4 w.heap.size _)) (fun k hk=>(by cases hk)) (fun _ _ _ _ hk=>(by cases hk)));obtain⟨T,hT⟩:∃T:Array ar, #[U ⟨#[]⟩,U ⟨#[97]⟩,U ⟨#[98,99]⟩,U ⟨#[195,169,116,195,169]⟩,U ⟨#[97,32,98]⟩,U ⟨#[122,122,32,116,111,112]⟩,U ⟨#[48]⟩,U ⟨#[45,55]⟩]=T:=⟨_,rfl⟩;rw[hT]at H;clear hT;go_loopw [9] (fun x wr=>PT w o T x wr) (fun x _=>3 - (intOf x).toNat);case atStart=>unfold PT;exact⟨0,[],_,rfl,by omega,rfl,fun p hp=>((by cases hp)),fun _=>rfl,H⟩
 case round=>
  clear H;obtain⟨i,l,v,rfl,hi,Q,hs,a,H⟩:=hrel;have f:=M hs;have c:=M Q;clear hs Q;obtain⟨R,lc,rfl⟩:=cA.slice (H.out.get 0 _ A:cA _ _ _ v _ wr);simp only[bq]at H a;have d:=M a;clear a;have i0:(0:Int)<=(i:Int):=(by omega);go_wp2_with{};refine(HP.out _).mono ?_;rintro e S⟨rfl,L⟩;replace H:=M (H.out.below L);clear L;by_cases al:(i:Int)<z
  · obtain⟨q,hq⟩:∃q:Int,n.tdiv 4=q:=⟨_,rfl⟩;have ao: -4611686018427387904<=q/\q<4611686018427387904:=(by rw[<-hq];exact PE hn);have az:IntKind.i64.wrap q=q:=bo _ (by omega);have hw:IntKind.i64.wrap (q+(i:Int))=q+(i:Int):=bo _ (by omega);have b:ee (q+(i:Int)):=(by unfold ee;omega);go_wp2_with{};have F:(fun W:ai=>W.heap[w.heap.size+1+1+1]? =O (Ra #[I J 5,I J 0,U ⟨#[]⟩,Z R l.length lc] 83 (0,0))/\W.heap[w.heap.size]? =O (Ra #[I J 5,I J o] 30 (0,0))) S.drew:=⟨H.out.aR 1 A,H.out.aR 4 A⟩;replace H:=M H.out.drew;refine kh (fun W:ai=>W.heap[w.heap.size+1+1+1]? =O (Ra #[I J 5,I J 0,U ⟨#[]⟩,Z R l.length lc] 83 (0,0))/\W.heap[w.heap.size]? =O (Ra #[I J 5,I J o] 30 (0,0))) 14 (vZ 0 10 (.call 10 (.call 11 (.call 12 (.R 13 (.call 14 .done)))))) (by kernel_rfl) (by kernel_rfl) (fun _ _ _ _ _ h=>h) F ?_;clear F;(iterate 10 refine cD A (Or.inl ⟨by rfl,fun W hS=>by have h3:=(ag hS.1 3).trans A;have h1:=(ag hS.2 1).trans A;clear hS;go_simp;try with_reducible rfl⟩) ?_;go_simp);refine cj A (fun K hK=> ?_);go_simp;refine(G.out _ b _).mono ?_;rintro e w3⟨p,rfl,hp,P⟩;replace H:=M (H.out.below P);clear P;refine hK _ _ ⟨H.out.aR 1 A,H.out.aR 4 A⟩ ?_;clear hK K;go_simp;refine cj A (fun K hK=> ?_);go_simp;generalize e:aq w3 _=Y;replace H:=bW e (St.alloc H.out _);clear e;refine hK _ _ ⟨H.out.aR 2 A,H.out.aR 5 A⟩ ?_;clear hK K;go_simp;refine cj A (fun K hK=> ?_);refine jN (by rfl) _ _ A elemV w.heap.size _ _ (oJ p) w3.heap.size (by simp[Act.eval]) (by simp[Act.eval]) (H.out.get 1 _ A) (H.out.aR 0 A) A (by unfold oJ;intro x hx;simp at hx;rcases hx with rfl|rfl|rfl|rfl<;>rfl) (by have:=c.out;simp;omega) H.out.base ?_;intro v2 w4 E g2 a2 _;replace H:=M (H.out.app 1 A E g2 a2 A);simp only[ab,ae]at H;replace H:=M H.out.wO;obtain⟨aE,aF,rfl⟩:=cA.slice E;rw[show l.map oJ++[oJ p]=(l++[p]).map oJ from by simp]at H;simp only[aw,bq,aS,a7,bC]at H;clear E g2 a2;refine hK _ _ ⟨H.out.aR 1 A,H.out.aR 4 A⟩ ?_;clear hK K;go_simp;refine cD A (Or.inl ⟨by rfl,fun W hS=>by have h3:=(ag hS.1 3).trans A;have h1:=(ag hS.2 1).trans A;clear hS;go_simp;try with_reducible rfl⟩) ?_;go_simp;refine iK A (fun K hK=> ?_);obtain⟨cs,ln⟩:=St.cs H 1 A;simp only[ak]at cs;obtain⟨⟨r,y⟩,⟨s,B⟩,⟨t,C⟩,⟨u,D⟩, -⟩:=cs;go_simp;generalize e:af w4 _ _=V;replace H:=bW e (St.aB H.out 1 A 3 _ A);simp only[ab,ae]at H;clear e;refine hK _ _ ?_;clear hK K;go_simp;refine gB ?_;go_wp2_with{};go_roundw;case rel=>unfold PT;exact⟨i+1,l++[p],_,by go_num,by omega,by simp[c.out],fun x hx=>by rcases gL.1 hx with h|h;exact f.out x h;rw[cm.1 h];exact hp,fun h=>by simp at h,H⟩
    case measure=>simp[intOf];omega
  {skip;obtain⟨cs,ln⟩:=St.cs H 1 A;simp only[ak]at cs;obtain⟨⟨r,y⟩,⟨s,B⟩,⟨t,C⟩,⟨u,D⟩, -⟩:=cs;obtain⟨cs,lr⟩:=St.cs H 3 A;simp only[ak]at cs;obtain⟨⟨aH,aO⟩,⟨aL,aT⟩,⟨aM,aU⟩,⟨aN,aV⟩, -⟩:=cs;have n1:=H.out.ne 1 3 A A (by decide);have n2:=H.out.ne 3 1 A A (by decide);go_wp2_with{};generalize e:af (af (af (af S _ _) _ _) _ _) _ _=V;replace H:=bW e (St.aB (St.aB (St.aB (St.aB H.out 3 A 0 _ A) 3 A 1 _ A) 3 A 2 _ A) 3 A 3 _ A);simp only[ab,ae]at H;have hr:=H.out.nth 0 _ A;have h3:l.length<=3:=(by have:=c.out;omega);refine au (cd _ _ 6 _ 83 _ _ _ A A (H.out.aR 3 A) (by kernel_rfl) (by kernel_rfl)) A ⟨H.out.low.aC,⟨5,0,⟨#[]⟩,l⟩,_,_,rfl,⟨hr.dom,fun W hW=> ?_⟩,fun k hk=>(bp (hr.hold:cA _ _ _ _ _ _) k hk).1,CG f.out h3⟩;have ho:cA _ _ _ _ _ W:=hr.loc W hW;refine⟨[_,_,_,_],rfl,_,rfl,fO.Qn ⟨ho,d.out⟩ (show l.length<1000000 by omega),(show(⟨#[]⟩:ByteArray).size<=9223372036854775807 by decide),fun q hq=>by have:=(f.out q hq).2.2;omega⟩}
theorem Iv(k o n many:Int)(hk:gN k o=true)(hn:ee n)(hm:1<=many/\many<=100000)(w:ai):aJ ah 72 #[Iu k o,I J n,I J many] w (Ff w):=by unfold gN at hk;split at hk;{rename_i a;subst a;exact CY o n many (by simpa using hk) hn hm w};{simp only[Rt]at hk;exact(vG k o n many (by omega) hn hm w).mono fun e w'⟨p,h1,h2,h3⟩=>⟨h3,_,_,ej,h1,⟨fun _ f=>f.elim,fun W _=>MM h2 W⟩,fun _ f=>f.elim,Im h2⟩}
theorem sy(s:ByteArray)(f:iF):∀(l:List iF) (k:Nat),findF s k (l++[f])=if findF s k l<0 then(if f.name=s then((k+l.length:Nat):Int)else -1)else findF s k l
 | [],k=>by simp[findF]
 |g::l,k=>by rw[b_,findF,findF,sy s f l (k+1)];by_cases h:g.name=s;{rw[Rs h,Rs h,Rq (by omega)]};{rw[Rq h,Rq h,aS];split;{split;{omega};{rfl}};{rfl}}
theorem J0{l:List iF}{f:iF}{k:Nat}(hk:k<l.length)(h:FD l k=true):FD (l++[f]) k=true:=by
 obtain⟨g,hg⟩:∃g,l[k]? =O g:=⟨_,an hk⟩;unfold FD at h⊢;rw[bS hk];rw[hg]at h⊢;simp only[aK,Rt]at h⊢;refine⟨h.1, ?_⟩;have h2:=h.2;have hbd:=s_ g.name 0 l;unfold Dh at h2⊢;rw[sy];by_cases hn:findF g.name 0 l<0
 · exfalso
   have:∀(l:List iF) (j k:Nat),l[k]? =O g ->0<=findF g.name j l:=by
    intro l;induction l with
    |nil=>intro j k h;simp at h
    |cons a l b=>
     intro j k h;unfold findF;split;{omega}
     · rename_i hne;cases k with
       |zero=>simp at h;subst h;exact absurd A hne
       |succ k=>exact b (j+1) k (by simpa using h)
   have:=this l 0 k hg;omega
 {rw[Rq hn,Rq hn];rw[Rq hn]at h2;exact h2}
theorem Hd{l:List iF}{f:iF}(h:tt l=true)(hf:ic f=true)(hn:pC f.name l=false):tt (l++[f])=true:=by refine Cd fun k hk=> ?_;rw[aw,dN]at hk;by_cases a:k<l.length;{exact J0 a (ba.1 h k (by simpa using a))};{obtain rfl:k=l.length:=(by omega);unfold FD;rw[bZ (av _),Nat.sub_self];simp only[List.getElem?_cons_zero,hf,cY,Rt];unfold pC at hn;rw[decide_eq_false_iff_not]at hn;unfold Dh;have e:findF f.name 0 (l++[f])=(l.length:Int):=(by rw[sy,Rs (show findF f.name 0 l<0 by omega),Rs A];simp);rw[e,Rq (by omega)]}
def xj:List ByteArray:=[⟨#[97]⟩,⟨#[98,50]⟩,⟨#[110,97,109,101]⟩,⟨#[110,101,120,116,95,111,110,101]⟩,⟨#[107,105,100,115]⟩,⟨#[120]⟩]
theorem qP:∀s∈xj,dn s=true/\s.size<=8:=by intro s hs;simp only[xj,bh,bV,or_false]at hs;rcases hs with rfl|rfl|rfl|rfl|rfl|rfl<;>exact⟨by decide,by decide⟩
structure tW(c:pd):Prop where
 name:dn c.name=true/\c.name.size<=8
 len:c.fs.length<=6
 ok:tt c.fs=true
 names:∀f∈c.fs,f.name∈xj
theorem tW.right{c:pd}(h:tW c):dI c=true:=by unfold dI;rw[h.name.1,Rv (show c.fs.length<=8 by have:=h.len;omega),h.ok];rfl
theorem BF{f:iF}(h:f.name.size<=8):(dZ f).length<=48:=by have h1:=cZ f.name;have h2:=aN f.k;have h3:=aN f.o;have h4:=aN (Dy f.ix);simp only[dZ,aw];omega
theorem s9:∀(l:List iF),(∀f∈l,f.name.size<=8) ->(l.flatMap dZ).length<=l.length*48
 | [],_=>by simp
 |f::l,h=>by have h1:=BF (h f (by simp));have h2:=s9 l fun g hg=>h g (by simp[hg]);rw[dB,aw,aS,Nat.succ_mul];omega
theorem tW.bytes{c:pd}(h:tW c):(eA c).length<=320:=by have h1:=cZ c.name;have h2:=aN c.fs.length;have h3:=s9 c.fs fun f hf=>(qP _ (h.names f hf)).2;have h4:=h.name.2;have a:c.fs.length*48<=6*48:=dV _ h.len;simp only[eA,aw];omega
structure Rf where
 n:Int
 k:Int
 o:Int
 ix:Bool
def PR(_:ai)(e:List ar)(r:Rf):Prop:=e=[I J r.n,I J r.k,I J r.o,Ri r.ix]/\ee r.n/\ee r.k/\ee r.o
def oO(w:ai)(v:ar)(l:List Rf):Prop:=cl 4 PR w v l
theorem oO.below{w w':ai}{v:ar}{l:List Rf}(h:oO w v l)(hb:ay w.heap.size w w') :oO w' v l:=cl.below (w:=w) (fun _ _ h=>h) h hb
def AJ(kind:Int):List Rc ->List Int ->Nat
 | [],_=>0
 |r::l,[]=>(fC r).length+AJ kind l []
 |r::l,v::vs=>(if kind=2 then(az v).length else 0)+((fC r).length+AJ kind l vs)
theorem wD(kind:Int):∀(l:List Rc) (vs:List Int),(iy kind l vs).length=AJ kind l vs
 | [],_=>rfl
 |r::l,[]=>by rw[iy,AJ,aw,wD kind l []]
 |r::l,v::vs=>by rw[iy,AJ,aw,aw,wD kind l vs];split<;>simp
theorem AK(kind:Int){k:Nat}:∀(l:List Rc) (vs:List Int),(∀r∈l,(fC r).length<=k) ->AJ kind l vs<=l.length*(k+10)
 | [],_,_=>by simp[AJ]
 |r::l,[],h=>by have h1:=h r (by simp);have h2:=AK kind l [] fun x hx=>h x (by simp[hx]);rw[AJ,aS,Nat.succ_mul];omega
 |r::l,v::vs,h=>by have h1:=h r (by simp);have h2:=AK kind l vs fun x hx=>h x (by simp[hx]);have h3:=aN v;rw[AJ,aS,Nat.succ_mul];split<;>omega
theorem GQ(b:Bt):(mb b).length<=40:=by have h1:=aN b.kind;have h2:=aN b.n;have h3:=aN b.next;have h4:=aN b.recs.length;simp only[mb,aw];omega
theorem uT{b:Bt}(h:dU b=true)(a:b.recs.length<=14)(hs:∀r∈b.recs,(fC r).length<=700):mG b=O (aT b):=by
 have h1:=GQ b;have h2:=AK b.kind b.recs b.bj hs;have h3:b.recs.length*(700+10)<=14*710:=dV _ a;have key:(aT b).length<=10000:=by unfold aT;rw[aw,wD];omega
 exact Rs ⟨h,key⟩
def OX:ByteArray:=⟨#[104,111,109,101]⟩
def OJ:Vl:=⟨1,5,iY,[]⟩
def oQ:Rc:=⟨1,⟨7,0,0,[OJ]⟩,0,0,iY,iA,nJ⟩
def sL:Rc:=⟨2,oz,7,0,OX,iA,nJ⟩
def vM:Bt:=⟨1,3,9,[oQ,sL],[]⟩
def zG:Bt:=⟨2,3,9,[sL,oQ],[1,3]⟩
theorem tZ:(jA oQ).isSome=true/\(jA sL).isSome=true/\jA vm=N/\(fC sL).length=7/\(fC oQ).length<=700:=⟨by kernel_rfl,by kernel_rfl,by kernel_rfl,by kernel_rfl,j9 (by kernel_rfl)⟩
theorem sM:dU vM=true/\dU zG=true/\dU ⟨2,3,9,[],[]⟩=true/\dU Qh=false/\dU ⟨1,1,1,[],[]⟩=false:=⟨by kernel_rfl,by kernel_rfl,by kernel_rfl,by kernel_rfl,by kernel_rfl⟩
theorem sN:se vM vM=true/\se zG zG=true/\se vM zG=false/\oC oQ oQ=true/\oC oQ sL=false:=⟨by kernel_rfl,by kernel_rfl,by kernel_rfl,by kernel_rfl,by kernel_rfl⟩
theorem I8:JM oQ=⟨#[111,55]⟩/\JM sL=⟨#[114,104,111,109,101]⟩:=⟨by kernel_rfl,by kernel_rfl⟩
theorem pf:mG vM=O (aT vM)/\mG zG=O (aT zG)/\mG ⟨1,1,1,[],[]⟩=N/\(aT vM).length<=100/\(aT zG).length<=100:=⟨by kernel_rfl,by kernel_rfl,by kernel_rfl,j9 (by kernel_rfl),j9 (by kernel_rfl)⟩
theorem Dv:rO (bs (aT vM))=O vM/\rO (bs (aT zG))=O zG/\rO (bs (aT vM++[97]))=N:=by
 have h1:mG vM=O (bs (aT vM)).data.toList:=by rw[pf.1];rfl
 have h2:mG zG=O (bs (aT zG)).data.toList:=by rw[pf.2.1];rfl
 have a:ee (3:Int):=⟨by omega,by omega⟩;refine⟨oS a h1,oS a h2,su a h1 ?_ (.inl ⟨[97],rfl⟩)⟩;rw[fx,fx,aw];simp
theorem JP(s t:ByteArray):Op.bytesLess s.toList t.toList=decide (iS s.data.toList t.data.toList<0):=by rw[show Op.bytesLess s.toList t.toList=decide (iS s.data.toList t.data.toList= -1) by rw[da,da,xf]];rcases sC s.data.toList t.data.toList with h|h|h<;>rw[h]<;>rfl
theorem M'(r:Rc)(h:1<=r.kind/\r.kind<=5)(w:ai):aJ ah 133 #[I J r.kind] w fun e w'=>e=Rh (I J (gz r))/\ay w.heap.size w w':=by have H:=M (St.start ej w);have a:=M (show gz r=if r.kind=3 then 1 else if r.kind=4 then 2 else if r.kind=1 then 3 else if r.kind=2 then 4 else if r.kind=5 then 5 else 0 from rfl);generalize gz r=q at*;generalize r.kind=k at*;rcases(show k=1\/k=2\/k=3\/k=4\/k=5 by omega)with rfl|rfl|rfl|rfl|rfl;all_goals go_in;go_wp2_with{};generalize e:aq w _=X;replace H:=bW e (St.alloc H.out _);go_ret;exact⟨by rw[a.out];rfl,H.out.low.aC⟩
theorem Nq(a b:Rc)(va f vb g:ar)(ha:1<=a.kind/\a.kind<=5)(hb:1<=b.kind/\b.kind<=5)(w:ai):aJ ah 84 #[Rj (aL a va f).toArray,Rj (aL b vb g).toArray] w fun e w'=>e=Rh (Ri (gQ a b))/\ay w.heap.size w w':=by
 have _:=uJ w;have d:=M (JP a.name b.name);by_cases hk:a.kind=b.kind;by_cases k:b.kind=1;rotate_left;by_cases k3:b.kind=3;rotate_left;by_cases l:b.kind=4;by_cases i:a.id<b.id;rotate_left;by_cases j:a.id=b.id
 all_goals
  go_in
  go_wp2_with(first
   |(with_reducible refine vN (T:=53) (by with_reducible rfl) A A fun c _ _=> ?_)
   |((with_reducible refine atR ?_);refine kZ (.R 0 (.R 1 (.R 3 (.R 4 (.call 2 (.call 5 (.R 6 (.R 7 .done)))))))) (by kernel_rfl) (by kernel_rfl) (fun _ _ _ _ _ h=>h) ?_)
   |(go_at_call 133;first
     |((with_reducible refine fh (M' a ha _) fun c _ _=> ?_);refine hK _ _ fH ?_;clear hK K;go_simp)
     |((with_reducible refine fh (M' b hb _) fun c _ _=> ?_);refine hK _ _ fH ?_;clear hK K;go_simp))
   |((with_reducible refine IF ?_);first
     |(refine p' A A (fun W _=>by go_simp;try with_reducible rfl) ?_;go_simp)
     |(refine aH A (fun K hK=> ?_);go_simp)
     |refine aM ?_))
  go_ret;exact⟨by simp[gQ,d.out, *],cW⟩
theorem I1(a b:Rc)(va c vb d:ar)(n m:Int)(ha:1<=a.kind/\a.kind<=5)(hb:1<=b.kind/\b.kind<=5)(w:ai):aJ ah 64 #[Rj (aL a va c).toArray,I J n,Rj (aL b vb d).toArray,I J m] w fun e w'=>e=Rh (Ri (decide (n<m)||(decide (n=m)&&gQ a b)))/\ay w.heap.size w w':=by
 have _:=uJ w;have f:=M (Nq a b va c vb d ha hb);clear ha hb;by_cases h1:n<m;rotate_left;by_cases h2:n=m
 all_goals
  go_in
  go_wp2_with(first
   |(with_reducible refine vN (T:=53) (by with_reducible rfl) A A fun g _ _=> ?_)
   |(with_reducible refine uX (T:=53) (by with_reducible rfl) A A ef (ql _ _ _) ?_)
   |(go_at_call 84;refine fh (f.out _) fun g _ _=> ?_))
  go_ret;exact⟨by simp[*],cW⟩
theorem GU(i:Nat)(hi:i<13)(w:ai):aJ ah 225 #[I J i] w fun e w'=>e=Rh (U (mc i))/\w'=w:=by rcases(show i=0\/i=1\/i=2\/i=3\/i=4\/i=5\/i=6\/i=7\/i=8\/i=9\/i=10\/i=11\/i=12 by omega)with rfl|rfl|rfl|rfl|rfl|rfl|rfl|rfl|rfl|rfl|rfl|rfl|rfl;all_goals go_in;go_wp2_with{};go_ret;exact⟨by kernel_rfl,rfl⟩
theorem NR(i:Nat)(hi:i<13)(w:ai):aJ ah 134 #[I J i] w fun e w'=>e=Rh (U (mc i))/\w'=w:=by
 have h0:(0:Int)<=i:=by omega
 have h1:(i:Int)<100:=by omega
 have c:=M fun W=>GU i hi W;clear hi;have a:∀W,aJ ah 196 #[I J i,I J 10] W fun e w'=>e=Rh (U (mc i))/\w'=W:=by{intro W;go_in;go_wp2_with(go_at_call 225;refine(c.out _).mono ?_;rintro e b⟨rfl,rfl⟩);go_ret;exact⟨rfl,rfl⟩};have a:=M a;have HI:∀W,aJ ah 167 #[I J i] W fun e w'=>e=Rh (U (mc i))/\w'=W:=by{intro W;go_in;go_wp2_with(go_at_call 196;refine(a.out _).mono ?_;rintro e b⟨rfl,rfl⟩);go_ret;exact⟨rfl,rfl⟩};have HI:=M HI;go_in;go_wp2_with(go_at_call 167;refine(HI.out _).mono ?_;rintro e b⟨rfl,rfl⟩);go_ret;exact⟨rfl,rfl⟩
theorem Fq(n:Int)(h0:0<=n)(h1:n<13)(w:ai):p5 n w:=by obtain⟨i,rfl⟩:∃i:Nat,n=i:=⟨n.toNat,by omega⟩;refine⟨?_,fun W _=>(NR i (by omega) W).mono fun e w'⟨h,h2⟩=>⟨h,h2▸ax _ _⟩⟩;rcases(show i=0\/i=1\/i=2\/i=3\/i=4\/i=5\/i=6\/i=7\/i=8\/i=9\/i=10\/i=11\/i=12 by omega)with rfl|rfl|rfl|rfl|rfl|rfl|rfl|rfl|rfl|rfl|rfl|rfl|rfl;all_goals exact j9 (by kernel_rfl)
theorem D8{r:Rc}{w:ai}(h3:r.kind=3 ->0<=r.id/\r.id<13)(h4:r.kind=4 ->(0<=r.id/\r.id<13)/\0<=r.bY/\r.bY<13)(h1:r.kind=1 ->0<=r.obj.id/\r.obj.id<13):zv r w:=
 ⟨fun e=>Fq _ (h3 e).1 (h3 e).2 _,fun e=>⟨Fq _ (h4 e).1.1 (h4 e).1.2 _,Fq _ (h4 e).2.1 (h4 e).2.2 _⟩,fun e=>Fq _ (h1 e).1 (h1 e).2 _⟩
end Go.Proofs.YtbcbefpninlfiaaGreatDoor
