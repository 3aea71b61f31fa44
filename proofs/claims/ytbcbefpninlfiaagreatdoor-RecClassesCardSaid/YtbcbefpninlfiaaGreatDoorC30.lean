import Derived.Test.YtbcbefpninlfiaaGreatDoorC29
import Derived.Test.YtbcbefpninlfiaaGreatDoorC27
set_option maxHeartbeats 64000000
set_option maxRecDepth 100000
set_option linter.all false
open Go renaming Calls->aJ,Value->ar,World->ai
open Option renaming none->N,some->O
open Go.Value renaming agg->Rj,bool->Ri,int->I,slice->Z,int->bd,slice->dO
open Go.IntKind renaming i64->J
open Go.RowKit renaming Below->ay
open Go.Ending renaming returned->Rh
open Go.Proofs.Tryz renaming prog->ah
open Go.Obj renaming cells->Ra
open Or renaming inl->aI,inr->dJ
open List renaming mem_of_mem_drop->gr,pairwise_cons->eF
open Go.Act renaming eval->bK
open Go.World renaming alloc->aq,drew->bD,setCell->af
namespace Go.Proofs.YtbcbefpninlfiaaGreatDoor
open Go.RowKit Mor
def qn(G:Nat ->Prop)(es:List (List ar))(b:Bt)(sr sv:ar):cM:=⟨G,fun W=>es.length=b.recs.length/\Sl W 18 sr es.length es.flatten/\(∀(i:Nat) (e:List ar) (q:Rc),es[i]? =O e ->b.recs[i]? =O q ->Gd W e q)/\lJ W sv b.bj⟩
def x8(b:Bt)(sr sv:ar):Array ar:= #[I J b.kind,I J b.n,I J b.next,sr,sv]
def IK(b:Bt)(F:Nat ->Prop)(w:ai)(e:Ending)(w':ai):Prop:=ay w.heap.size w w'/\∃es sr sv G,e=Rh (Rj (x8 b sr sv))/\(qn G es b sr sv).at w'/\∀k,G k ->F k\/w.heap.size<=k
theorem M1(W:ai):(zeroValue 38).run ah W=.ok (Rj #[I J 0,I J 0,I J 0,Z N 0 0,Z N 0 0]) W:=by kernel_rfl
theorem tv{r:Rc}(h:Ce r):1<=r.kind/\r.kind<=5:=by rcases h with⟨k,_⟩|⟨k,_⟩|⟨k,_⟩|⟨k,_⟩;{omega};{omega};{omega};{rcases k with k|k<;>omega}
theorem I2(q r:Rc)(v f a fr:ar)(z n:Int)(x:It)(hq:Ce q)(hr:Ce r)(hx:x=(n,r))(w:ai):aJ ah 64 #[Rj (aL q v f).toArray,I J z,Rj (aL r a fr).toArray,I J n] w fun e w'=>e=Rh (Ri (decide (qy (z,q) x<0)))/\ay w.heap.size w w':=by subst hx;rw[show decide (qy (z,q) (n,r)<0)=(decide (z<n)||(decide (z=n)&&gQ q r)) by rw[wq hq hr,eY];simp[vU]];exact I1 q r v f a fr z n (tv hq) (tv hr) w
theorem I3(q r:Rc)(v f a fr:ar)(z n:Int)(x:It)(hq:Ce q)(hr:Ce r)(hx:x=(n,r))(w:ai):aJ ah 64 #[Rj (aL r a fr).toArray,I J n,Rj (aL q v f).toArray,I J z] w fun e w'=>e=Rh (Ri (decide (qy x (z,q)<0)))/\ay w.heap.size w w':=by subst hx;rw[show decide (qy (n,r) (z,q)<0)=(decide (n<z)||(decide (n=z)&&gQ r q)) by rw[wq hr hq,eY];simp[vU]];exact I1 r q a fr v f n z (tv hr) (tv hq) w
theorem tL{P:Program}{ops:Array Oper}{Q:Exit ->Act ->ai ->Prop}{S:ai ->Prop}{e i j:Nat}{r s:nd}{a:Act}{w:ai}(h1:kQ P ops Q S e (.call i r) a w)(h2:kQ P ops Q S e (.call j s) a w):kQ P ops Q S e (.two i r j s) a w:=⟨h1,h2⟩
theorem tM{X:Prop}(Φ:ar ->Nat ->ai ->Prop)(G:ar ->Nat ->ai ->Prop)(h1:(∀v B W,Φ v B W ->G v B W) ->X)(h2:∀v B W,Φ v B W ->G v B W):X:=h1 h2
theorem AH{W:ai}{B size E:Nat}{cs:List ar}(h:W.heap[B]? =O (Ra cs.toArray E (0,0)))(hs:cs.length=size):Sl W size (Z (O ⟨B,0,N⟩) 1 1) 1 cs:=
 ⟨O ⟨B,0,N⟩,1,rfl,av _,by unfold maxLen;omega,(fun e=>(by cases e)),by omega,fun _=>⟨B,0,rfl,fun j x hx=>by rw[ag h (0+j),bC];simpa using hx⟩⟩
theorem BH{size:Nat}{es:List (List ar)}(a:∀e∈es,e.length=size/\∀x∈e,x.oneCell'=true)(c:List ar)(k:Nat):(eG es k c).flatten=es.flatten.take (k*size)++(c++es.flatten.drop (k*size)):=by unfold eG;rw[jb,List.flatten_cons,ui a,uh a]
theorem NN{G:Nat ->Prop}{es:List (List ar)}{b:Bt}{sr sv:ar}{W:ai}(h:(qn G es b sr sv).hold W):∀e∈es,e.length=18/\∀y∈e,y.oneCell'=true:=by obtain⟨h1,h2,h3,_⟩:=h;intro e he;obtain⟨i,hi⟩:=dC he;have a:=(aA.1 hi).1;exact v_ (h3 i e _ hi (an (by omega:i<b.recs.length)))
theorem th(l:List Int):∀y∈l.map fun n=>bd .i64 n,y.oneCell'=true:=by intro y hy;obtain⟨z,_,rfl⟩:=fJ.1 hy;rfl
theorem Fx(l:List Int)(k:Nat)(n:Int):(eG l k n).map (fun n=>bd .i64 n)=(l.map fun n=>bd .i64 n).take (k*1)++(bd .i64 n::(l.map fun n=>bd .i64 n).drop (k*1)):=by unfold eG;rw[fQ,gj,List.map_take,List.map_drop,Nat.mul_one]
theorem A7{G:Nat ->Prop}{es:List (List ar)}{b:Bt}{sr sv:ar}{w W:ai}(h:(qn G es b sr sv).at w)(hb:ay w.heap.size w W):(⟨G,fun W=>lJ W sv b.bj⟩:cM).at W:=
 ⟨fun x hx=>cJ (h.dom x hx) hb.size,fun W' a=>(h.loc W' fun x hx=>(a x hx).trans (hb.block x (h.dom x hx))).2.2.2⟩
theorem vS{b g:Bt}{es:List (List ar)}{r:Rc}{m fr:ar}{k a:Nat}{sr sv j l:ar}{n o Gv:Nat ->Prop}{w W:ai}(hB:(qn n es b j l).at w)(hR:(⟨o,fun W=>Gd W (aL r m fr) r⟩:cM).at w)(hb:ay w.heap.size w W)(hk:k<=b.recs.length)(c:(mV 53 18 a sr (eG es k (aL r m fr))).at W)(hv:(⟨Gv,fun W=>lJ W sv g.bj⟩:cM).at W)(d:g.recs=eG b.recs k r):(qn (fun x=>(n x\/o x)\/(sr.ownBlock=O x\/Gv x)) (eG es k (aL r m fr)) g sr sv).at W:=by have h:=hB.hold.1;refine⟨fun x hx=> ?_,fun W' f=>⟨?_, ?_,fun i e q he hq=> ?_,hv.loc W' fun x hx=>f x (.inr (.inr hx))⟩⟩;{rcases hx with(hx|hx)|(hx|hx);{exact cJ (hB.dom x hx) hb.size};{exact cJ (hR.dom x hx) hb.size};{exact c.dom x hx};{exact hv.dom x hx}};{rw[d,hH hk,hH (by omega),h]};{exact uH (c.loc W' fun x hx=>f x (.inr (.inl hx)))};{have h1:=(hB.loc W' fun x hx=>(f x (.inl (.inl hx))).trans (hb.block x (hB.dom x hx))).2.2.1;have h2:=hR.loc W' fun x hx=>(f x (.inl (.inr hx))).trans (hb.block x (hR.dom x hx));rw[d]at hq;rcases Nat.lt_trichotomy i k with hi|rfl|hi;{rw[mJ (by omega) hi]at he;rw[mJ hk hi]at hq;exact h1 i e q he hq};{rw[nT (by omega)]at he;rw[nT hk]at hq;cases he;cases hq;exact h2};{rw[nU (by omega) hi]at he;rw[nU hk hi]at hq;exact h1 _ e q he hq}}
def MW(b:Bt)(r:Rc)(n:Int)(k:Nat):Prop:=mM b r n={b with recs:=eG b.recs k r,bj:=if b.kind=2 then eG b.bj k n else b.bj}
theorem Ck{b:Bt}{r:Rc}{n:Int}{k:Nat}{x:It}(hx:(if b.kind=2 then n else 0,r)=x)(hk:kl x 0 (gH b)=k)(h:¬∃y,(gH b)[k]? =O y/\¬qy x y<0):MW b r n k:=by unfold MW mM;simp only[hx,hk];exact Rq h
theorem BZ{G:Nat ->Prop}{es:List (List ar)}{b:Bt}{sr sv:ar}{W:ai}(h:(qn G es b sr sv).hold W):jz W sr b.recs:=by obtain⟨h1,h2,h3,_⟩:=h;refine⟨es,fun e he=> ?_,h2,h1,h3⟩;obtain⟨i,hi⟩:=dC he;have a:=(aA.1 hi).1;exact v_ (h3 i e _ hi (an (by omega:i<b.recs.length)))
theorem Sl.cap{W:ai}{size n m c:Nat}{a:Option Addr}{xs:List ar}(h:Sl W size (Z a m c) n xs):m<=c:=by obtain⟨a', b,e,h2,_⟩:=h;cases e;exact h2
def O_:ar ->Nat
 |Z _ n _=>n
 |_=>0
def Gc(b:Bt)(l:List Int):Prop:=(b.kind=2 ->l=b.bj)/\(b.kind=1 ->l=List.replicate l.length 0)/\l.length<=b.recs.length
theorem Hl{b:Bt}{l:List Int}(hF:xV b)(h:Gc b l)(a:l.length<b.recs.length):Gc b (l++[0]):=
 ⟨fun k=>by have h1:=h.1 k;have h2:=hF.len k;rw[h1]at a;omega,fun k=>by rw[aw,dN,List.replicate_succ', <-h.2.1 k],by rw[aw,dN];omega⟩
theorem D7{b:Bt}{l:List Int}(hF:xV b)(h:Gc b l)(a:l.length=b.recs.length):gH b=List.zipWith (fun v r=>(v,r)) l b.recs:=by unfold gH;by_cases k:b.kind=2;{rw[Rs k,h.1 k]};{by_cases c:b.kind=1;{rw[Rq k,h.2.1 c,a,List.map_const']}; {rcases hF.kind with h|h<;>omega}}
theorem JL{b:Bt}{l:List Int}{k:Nat}{z:Int}{q:Rc}(h:gH b=List.zipWith (fun v r=>(v,r)) l b.recs)(a:l[k]? =O z)(hq:b.recs[k]? =O q):(gH b)[k]? =O (z,q):=by rw[h,List.getElem?_zipWith,a,hq]
theorem FJ(b:Bt)(es:List (List ar))(hF:xV b)(hl:b.recs.length<=14)(ra:Option Addr)(rc:Nat)(va:Option Addr)(vc:Nat)(Gb:Nat ->Prop)(r:Rc)(hr:(jA r).isSome=true)(P fr:ar)(Gr:Nat ->Prop)(n:Int)(w:ai)(hb:(qn Gb es b (Z ra b.recs.length rc) (Z va b.bj.length vc)).at w)(cq:(⟨Gr,fun W=>Gd W (aL r P fr) r⟩:cM).at w):aJ ah 31 #[Rj (x8 b (Z ra b.recs.length rc) (Z va b.bj.length vc)),Rj (aL r P fr).toArray,I J n] w (IK (mM b r n) (fun k=>Gb k\/Gr k) w):=by
 have HB:=M hb;have bU:=M cq;have bN:=M hF;obtain⟨c7,db,b8,dj⟩:=hb.hold;have bl:=M db;have c0:=M (BZ hb.hold);have bk:=M (NN hb.hold);have b7:=M (v_ cq.hold).2;have eA:=M b8;have dy:=M dj;have X:=M c7;have bT:=M (nI hr).1;have dw:=M (fun q hq=>(nI (hF.recs q hq).1).1);obtain⟨x,hx⟩:∃x:It,(if b.kind=2 then n else 0,r)=x:=⟨_,rfl⟩;have HX:=M hx;clear hb cq c7 db b8 dj;have H:=M (St.start ej w);go_in;refine iu fun K HK=> ?_;refine wp_region_lit ?_;with_reducible apply DA H
 exact⟨rfl,rfl,rfl⟩;clear H;intro w1 H z1;with_reducible apply DA H
 exact⟨rfl,rfl,rfl⟩;clear H;intro w2 H z2;with_reducible refine mf H ?_ M1 ?_
 exact⟨rfl,rfl⟩;clear H;intro w3 H z3;rw[z2,z1]at H;try rw[z1]at H
 try rw[z2,z1]
 clear z1 z2 z3;refine wpList_nil ?_;refine HK.out _ _ ?_;clear HK K;replace H:=M (show St ej w [eH (w.heap.size+1+1) (Ra #[I J 0,I J 0,I J 0,Z N 0 0,Z N 0 0] 38 (0,0)),eH (w.heap.size+1) (Ra (aL r P fr).toArray 53 (0,0)),eH w.heap.size (Ra #[I J b.kind,I J b.n,I J b.next,Z ra b.recs.length rc,Z va b.bj.length vc] 38 (0,0))] w3 from H.out);obtain⟨cs,T⟩:=St.cs H 2 A;simp only[ak]at cs;obtain⟨⟨V,c⟩,⟨p,d⟩,⟨F,g⟩,⟨E,m⟩,⟨Q,o⟩, -⟩:=cs;by_cases hk:b.kind=1;case' pos=>have e1:(b.kind==1)=true:=beq_iff_eq.2 hk;have S:=M hk;have e2:(b.kind==2)=false:=Rm.2 (by omega);have cW:=M (fun q v f z(hq:Ce q)W=>I2 q r v f P fr z 0 x hq bT.out (by rw[<-HX.out,Rq (by omega)]) W);have cZ:=M (fun q v f z(hq:Ce q)W=>I3 q r v f P fr z 0 x hq bT.out (by rw[<-HX.out,Rq (by omega)]) W);have al:=M (show Gc b b.bj from⟨fun h=>absurd h (by omega),fun _=>by rcases bN.out.kind with h|h;rw[h.2];rfl;omega,by rcases bN.out.kind with h|h;rw[h.2];exact bw _;omega⟩)
 case' neg=>have bY:b.kind=2:=(by rcases bN.out.kind with h|h;exact absurd h.1 hk;exact h.1);have e1:(b.kind==1)=false:=Rm.2 hk;have S:=M bY;have e2:(b.kind==2)=true:=beq_iff_eq.2 bY;have cW:=M (fun q v f z(hq:Ce q)W=>I2 q r v f P fr z n x hq bT.out (by rw[<-HX.out,Rs bY]) W);have cZ:=M (fun q v f z(hq:Ce q)W=>I3 q r v f P fr z n x hq bT.out (by rw[<-HX.out,Rs bY]) W);have al:=M (show Gc b b.bj from⟨fun _=>rfl,fun h=>absurd h hk,by rcases bN.out.kind with h|h;omega;exact Nat.le_of_eq h.2.1⟩)
 all_goals
  have eC:b.bj.length<=14:=(by have:=al.out.2.2;omega);have c_:=M (show(w3.alloc (Ra #[] 3)).ownsRow w3.heap.size 3 1 (Z (O ⟨w3.heap.size,0,N⟩) 0 0) 0 []from World.ownsRow_made w3 #[] 0 (av _) (by unfold maxLen;omega) A);have dd:=M ((dy.out.below H.out.low.aC).below ((ax _ _).alloc (av _) (Ra #[] 3)));go_wp2_with(at_builtin;refine ri A _ _ A ou w3.heap.size _ _ 0 b.bj.length [] _ A A c_.out dd.out (by intro y hy;obtain⟨z,_,rfl⟩:=fJ.1 hy;rfl) (by omega) (by simp) ?_);intro v4 w4 o4 b4 g4;clear g4 c_ dd;have B4:=((ax w3.heap.size w3).alloc (av _) (Ra #[] 3)).trans b4;have o5:cA 3 1 w3.heap.size v4 (b.bj.map fun n=>[I J n]) w4:=(by unfold cA;rw[rm,bq];simpa using o4);obtain⟨a,hM⟩:∃a,w3.heap.size=a:=⟨_,rfl⟩;replace H:=M (H.out.new (.eP B4) (j4 o5) (fun k hk=>(bp o5 k hk).1));have zM:=B4.size;rw[hM]at H zM;clear b4 B4 o4 o5 hM T V c p d F g E m Q o;go_wp2_with{};go_loopw [7] (fun v wr=>∃l:List Int,a<=wr.heap.size/\Hid (Gc b l)/\Hid (St ej w [mV 3 1 a v (l.map fun n=>[I J n]),eH (w.heap.size+1+1) (Ra #[I J 0,I J 0,I J 0,Z N 0 0,Z N 0 0] 38 (0,0)),eH (w.heap.size+1) (Ra (aL r P fr).toArray 53 (0,0)),eH w.heap.size (Ra #[I J b.kind,I J b.n,I J b.next,Z ra b.recs.length rc,Z va b.bj.length vc] 38 (0,0))] wr)) (fun v _=>b.recs.length -O_ v);case' atStart=>exact⟨b.bj,zM,al,H⟩
  case' round=>
   clear H al zM;obtain⟨l,zM,al,H⟩:=hrel;obtain⟨la,lc,rfl⟩:=cA.slice (H.out.get 0 _ A);rw[bq]at H;rw[bq];obtain⟨cs,T⟩:=St.cs H 3 A;simp only[ak]at cs;obtain⟨⟨V,c⟩,⟨p,d⟩,⟨F,g⟩,⟨E,m⟩,⟨Q,o⟩, -⟩:=cs;have et:l.length<=14:=(by have:=al.out.2.2;omega);by_cases a':l.length<b.recs.length
   case' pos=>
    have i1:(l.length:Int)<(b.recs.length:Int):=(by omega);have ow:=H.out.get 0 _ A;go_wp2_with(at_builtin;refine lZ A _ _ A ou a _ (l.map fun n=>[I J n]) [I J 0] wr A A ow A A (by intro y hy;simp at hy;subst hy;rfl) (by rw[bq];omega) zM ?_);intro v5 w5 o5 g5 a5;replace H:=M ((H.out.keep (gX _ _ _)).app 0 A o5 g5 (by rw[aQ];exact a5) A);simp only[ab]at H;have el:a<=w5.heap.size:=bc zM (bc (by simp) g5.size);obtain⟨l5,c5,rfl⟩:=cA.slice o5;clear o5 g5 a5 ow zM;go_wp2_with{};go_roundw;case rel=>exact⟨l++[0],el,M (Hl hF al.out a'), by rw[fQ];exact H⟩
    case measure=>simp[O_];omega
   case' neg=>
    have cn:l.length=b.recs.length:=(by have:=al.out.2.2;omega);have dv:=M (D7 hF al.out cn);have i1:¬(l.length:Int)<(b.recs.length:Int):=(by omega);go_wp2_with{};clear T V c p d F g E m Q o i1 a'; have G:=M cn;clear cn;go_loopw [8] (fun i ek=>∃k:Nat,i=I J k/\k<=b.recs.length/\Hid (kl x 0 (gH b)=kl x k ((gH b).drop k))/\Hid (St ej w [mV 3 1 a (Z la l.length lc) (l.map fun n=>[I J n]),eH (w.heap.size+1+1) (Ra #[I J 0,I J 0,I J 0,Z N 0 0,Z N 0 0] 38 (0,0)),eH (w.heap.size+1) (Ra (aL r P fr).toArray 53 (0,0)),eH w.heap.size (Ra #[I J b.kind,I J b.n,I J b.next,Z ra b.recs.length rc,Z va b.bj.length vc] 38 (0,0))] ek)) (fun i _=>b.recs.length - (intOf i).toNat);case' atStart=>exact⟨0,rfl,bw _,M (by rw[dA]),H⟩
    case' round=>
     clear H;obtain⟨k,rfl,hk,cc,H⟩:=hrel;have k0:(0:Int)<=(k:Int):=(by omega);by_cases a':k<b.recs.length
     case' pos=>
      have i2:(k:Int)<(b.recs.length:Int):=(by omega);obtain⟨q,hq⟩:∃q,b.recs[k]? =O q:=⟨_,an a'⟩; obtain⟨z,hz⟩:∃z,l[k]? =O z:=⟨_,an (by have:=G.out;omega)⟩;have bX:=M (JL dv.out hz hq);have HQ:=M (dw.out q (aP hq));obtain⟨qb,qo,qe,ea,cp, -,bJ⟩:=cl.at (jz.below c0.out H.out.low.aC) hq;obtain⟨cC,cH,cF,cx,cB,cz,rfl, -⟩:=cp;obtain⟨vb,vo,ck,aT⟩:=lJ.at (si.KS (H.out.get 0 _ A)) hz;cases ea;cases ck;have aO:w.heap.size+1<wr.heap.size:=(H.out.nth 2 _ A).dom _ A;obtain⟨cs,T⟩:=St.cs H 3 A;simp only[ak]at cs;obtain⟨⟨V,c⟩,⟨p,d⟩,⟨F,g⟩,⟨E,m⟩,⟨Q,o⟩, -⟩:=cs;go_wp2_with{};refine bM (fun W:ai=>ay wr.heap.size wr W) (.R 0 (.R 1 (.R 2 (.R 3 (.R 4 (.R 5 (.R 6 (.R 7 (.R 8 (.R 9 (.R 10 (.R 11 (.R 12 (.R 13 (.R 14 (.R 15 (.R 16 (.call 17 (.R 18 .done))))))))))))))))))) (by kernel_rfl) (by kernel_rfl) (fun _ _ _ _ _ h=>h) (ax _ _).drew ?_;(iterate 10 refine aj A (aI ⟨by rfl,fun W hS=>by have g3:=aU E hS;have gv:=aU aT hS;clear hS;go_simp;try with_reducible rfl⟩) ?_;go_simp);refine aj A (yieldsIf_load_mid A 53 _ A qb (qo+k*18) A (aL q (Z cC cH cF) (Z cx cB cz)) _ (fun W hS j y hj=>aU (bJ j y hj) hS) ef A e_) ?_;go_simp;(iterate 4 refine aj A (aI ⟨by rfl,fun W hS=>by have g3:=aU E hS;have gv:=aU aT hS;clear hS;go_simp;try with_reducible rfl⟩) ?_;go_simp);refine aj A (nr 53 _ A A (w.heap.size+1) A (aL r P fr).toArray 53 (0,0) _ (fun W hS=>(hS.block _ aO).trans (H.out.aR 2 A)) ef A (ql _ _ _)) ?_;go_simp;(iterate 1 refine aj A (aI ⟨by rfl,fun W hS=>by have g3:=aU E hS;have gv:=aU aT hS;clear hS;go_simp;try with_reducible rfl⟩) ?_;go_simp);refine aH A (fun K hK=> ?_);go_simp;refine(cW.out q _ _ z HQ.out _).mono ?_;rintro e W5⟨rfl,b3⟩;have BB:ay wr.heap.size wr W5:=(ax wr.heap.size wr).drew.trans (b3.mono (by simp));refine hK _ _ BB ?_;clear hK K;go_simp;replace H:=M (H.out.below BB);clear b3 BB bJ aT aO T V c p d F g E m Q o;(iterate 1 refine aj A (aI ⟨by rfl,fun W hS=>by clear hS;go_simp;try with_reducible rfl⟩) ?_;go_simp);refine aM ?_;cases hc:decide (qy (z,q) x<0)
      case' true=>
       go_wp2_with{};go_roundw;case rel=>exact⟨k+1,by go_num,a', M (by rw[cc.out,vj bX.out,Rs (of_decide_eq_true hc)]),H⟩
       case measure=>simp[intOf];omega
      case' false=>
       have HK:=M (show kl x 0 (gH b)=k by rw[cc.out,vj bX.out,Rq (of_decide_eq_false hc)]);clear hc;obtain⟨cs,T⟩:=St.cs H 3 A;simp only[ak]at cs;obtain⟨⟨V,c⟩,⟨p,d⟩,⟨F,g⟩,⟨E,m⟩,⟨Q,o⟩, -⟩:=cs;obtain⟨vb,vo,ck,aT⟩:=lJ.at (si.KS (H.out.get 0 _ A)) hz;cases ck;obtain⟨eQ,eS,qe,ea,cp, -,bJ⟩:=cl.at (jz.below c0.out H.out.low.aC) hq;cases ea;obtain⟨cC,cH,cF,cx,cB,cz,rfl, -⟩:=cp;have aO:w.heap.size+1<W5.heap.size:=(H.out.nth 2 _ A).dom _ A;go_wp2_with{};refine bM (fun W:ai=>ay W5.heap.size W5 W) (.R 0 (.R 1 (.R 2 (.R 3 (.R 4 (.R 5 (.R 6 (.R 7 (.R 8 (.R 9 (.R 10 (.R 11 (.R 12 (.R 13 (.R 14 (.R 15 (.R 16 (.call 17 (.R 18 (.R 19 .done)))))))))))))))))))) (by kernel_rfl) (by kernel_rfl) (fun _ _ _ _ _ h=>h) (ax _ _).drew ?_;(iterate 6 refine aj A (aI ⟨by rfl,fun W hS=>by have g3:=aU E hS;have gv:=aU aT hS;clear hS;go_simp;try with_reducible rfl⟩) ?_;go_simp);refine aj A (nr 53 _ A A (w.heap.size+1) A (aL r P fr).toArray 53 (0,0) _ (fun W hS=>(hS.block _ aO).trans (H.out.aR 2 A)) ef A (ql _ _ _)) ?_;go_simp;(iterate 5 refine aj A (aI ⟨by rfl,fun W hS=>by have g3:=aU E hS;have gv:=aU aT hS;clear hS;go_simp;try with_reducible rfl⟩) ?_;go_simp);refine aj A (yieldsIf_load_mid A 53 _ A qb (qo+k*18) A (aL q (Z cC cH cF) (Z cx cB cz)) _ (fun W hS j y hj=>aU (bJ j y hj) hS) ef A e_) ?_;go_simp;(iterate 4 refine aj A (aI ⟨by rfl,fun W hS=>by have g3:=aU E hS;have gv:=aU aT hS;clear hS;go_simp;try with_reducible rfl⟩) ?_;go_simp);refine aH A (fun K hK=> ?_);go_simp;refine(cZ.out q _ _ z HQ.out _).mono ?_;rintro e t⟨rfl,b3⟩;have BB:ay W5.heap.size W5 t:=(ax W5.heap.size W5).drew.trans (b3.mono (by simp));refine hK _ _ BB ?_;clear hK K;go_simp;replace H:=M (H.out.below BB);clear b3 BB bJ aT aO T V c p d F g E m Q o;(iterate 2 refine aj A (aI ⟨by rfl,fun W hS=>by clear hS;go_simp;try with_reducible rfl⟩) ?_;go_simp);refine aM ?_;cases hc:decide (qy x (z,q)<0)
       case' true=>
        have bE:=M (Ck HX.out HK.out (fun⟨y,h1,h2⟩=>by rw[bX.out]at h1;cases h1;exact h2 (of_decide_eq_true hc)));clear hc i2 a'; have eB:k<=b.recs.length:=hk;go_wp2_with{};have c':b.recs.length<=rc:=bl.out.cap;have dY:(k:Int)<=(rc:Int):=(by omega);have dZ:(k:Int)<=(b.recs.length:Int):=(by omega);have eb:(b.recs.length:Int)<=(rc:Int):=(by omega);obtain⟨cs,T⟩:=St.cs H 3 A;simp only[ak]at cs;obtain⟨⟨V,c⟩,⟨p,d⟩,⟨F,g⟩,⟨E,m⟩,⟨Q,o⟩, -⟩:=cs;have aO:w.heap.size+1<t.heap.size:=(H.out.nth 2 _ A).dom _ A;have bG:=M (fun W(hW:ay t.heap.size t W)=>Sl.take (k:=k) (bl.out.below (H.out.low.aC.trans (hW.mono H.out.base))) (by have:=X.out;omega));have aX:=M (fun W(hW:ay t.heap.size t W)=>Sl.drop (k:=k) (bl.out.below (H.out.low.aC.trans (hW.mono H.out.base))) (by have:=X.out;omega));have bt:=M (fun y(hy:y∈es.flatten.take (k*18))=>tf bk.out y (eE hy));have b9:=M (fun y(hy:y∈es.flatten.drop (k*18))=>tf bk.out y (gr hy));refine kh (fun W:ai=>ay t.heap.size t W) 15 (.R 0 (.R 1 (.R 2 (.R 3 (.R 4 (.R 6 (.R 9 (.R 10 (.R 11 (.R 12 (.two 5 (.call 7 (.call 8 (.call 13 (.R 14 (.call 15 .done))))) 7 (.call 5 (.call 8 (.call 13 (.R 14 (.call 15 .done)))))))))))))))) (by kernel_rfl) (by kernel_rfl) (fun _ _ _ _ _ h=>h) (ax _ _).drew ?_;(iterate 5 refine cD A (aI ⟨by rfl,fun W hS=>by have g3:=aU E hS;have g4:=aU Q hS;clear hS;go_simp;try with_reducible rfl⟩) ?_;go_simp);refine cD A (nr 53 _ A A (w.heap.size+1) A (aL r P fr).toArray 53 (0,0) _ (fun W hS=>(hS.block _ aO).trans (H.out.aR 2 A)) ef A (ql _ _ _)) ?_;go_simp;(iterate 4 refine cD A (aI ⟨by rfl,fun W hS=>by have g3:=aU E hS;have g4:=aU Q hS;clear hS;go_simp;try with_reducible rfl⟩) ?_;go_simp);generalize aF:(ite (rc=k) _ _:Option Addr)=sd;replace aX:=M (fun W hW=>(by have h:=aX.out W hW;simpa[iN,aF]using h:Sl W 18 (Z sd (es.length -k) (rc -k)) (es.length -k) (es.flatten.drop (k*18))));clear aF;apply tM (fun(v:ar)(B:Nat)(W:ai)=>Hid (ay t.heap.size t W)/\Hid (W.ownsRow t.heap.size 53 18 v k (es.flatten.take (k*18)))/\Hid (W.heap[B]? =O (Ra (aL r P fr).toArray 53 (0,0))));case' h1=>intro C;refine tL ?_ ?_;{skip;refine cj A (fun K hK=> ?_);refine step_append (by rfl) _ _ A kg t.heap.size (Z N 0 0) _ 0 k [] (es.flatten.take (k*18)) (by simp[bK]) (by simp[bK]) (dH _ _ _ _) (bG.out _ (ax t.heap.size t).drew) bt.out (by omega) ((ax t.heap.size t).drew).size ?_;intro v1 Y1 Y c1 g1;rw[bC,bI]at Y;have R:=M ((ax t.heap.size t).drew.trans c1);refine hK _ _ R.out ?_;clear hK K;go_simp;clear g1 c1;refine cj A (fun K hK=> ?_);rw[Rs (by rfl)];obtain⟨i0,z0,az,aG,L,bb,bf⟩:=kg.i;refine wp_buildSlice 36 53 1 _ A (aL r P fr).toArray i0 z0 kg.u az aG (by rw[L];decide) (by rw[L];decide) (by rw[L];kernel_rfl) ?_;clear az aG L bb bf;have p:=heap_alloc_new Y1 (Ra (aL r P fr).toArray 53);have o2:=cL Y (Ra (aL r P fr).toArray 53);have D:=M (R.out.alloc R.out.size (Ra (aL r P fr).toArray 53));generalize e:aq Y1 _=Y2 at*;obtain⟨B,hB⟩:∃B,Y1.heap.size=B:=⟨_,rfl⟩;rw[hB]at p⊢;clear hB;refine hK _ _ D.out ?_;clear hK K;go_simp;all_goals exact C v1 B Y2 ⟨D,M o2,M p⟩};{skip;refine cj A (fun K hK=> ?_);rw[Rs (by rfl)];obtain⟨i0,z0,az,aG,L,bb,bf⟩:=kg.i;refine wp_buildSlice 36 53 1 _ A (aL r P fr).toArray i0 z0 kg.u az aG (by rw[L];decide) (by rw[L];decide) (by rw[L];kernel_rfl) ?_;clear az aG L bb bf;have p:=heap_alloc_new t.drew (Ra (aL r P fr).toArray 53);have R:=M ((ax t.heap.size t).drew.alloc (av _) (Ra (aL r P fr).toArray 53));generalize e:aq t.drew _=Y1 at*;obtain⟨B,hB⟩:∃B,t.drew.heap.size=B:=⟨_,rfl⟩;rw[hB]at p⊢;refine hK _ _ R.out ?_;clear hK K;go_simp;refine cj A (fun K hK=> ?_);refine step_append (by rfl) _ _ A kg t.heap.size (Z N 0 0) _ 0 k [] (es.flatten.take (k*18)) (by simp[bK]) (by simp[bK]) (dH _ _ _ _) (bG.out _ R.out) bt.out (by omega) (R.out).size ?_;intro v1 Y2 Y c1 g1;rw[bC,bI]at Y;have F:=(g1.block B (aV p) (fun h=>by cases h)).trans p;have D:=M (R.out.trans c1);refine hK _ _ D.out ?_;clear hK K;go_simp;all_goals exact C v1 B Y2 ⟨D,M Y,M F⟩}
        case' h2=>
         intro v1 B W7⟨BB,HO,HP⟩;refine cj A (fun K hK=> ?_);refine step_append (by rfl) _ _ A kg t.heap.size v1 (Z (O ⟨B,0,N⟩) 1 1) k 1 _ (aL r P fr) (by simp[bK]) (by simp[bK]) HO.out (AH HP.out A) b7.out (by omega) BB.out.size ?_;intro v2 W8 o2 c2 g2;have D:=M (BB.out.trans c2);refine hK _ _ D.out ?_;clear hK K;go_simp;clear g2 c2 HP HO BB;refine cj A (fun K hK=> ?_);refine step_append (by rfl) _ _ A kg t.heap.size v2 _ (k+1) (es.length -k) _ _ (by simp[bK]) (by have:=X.out;simp[bK];omega) o2 (aX.out _ D.out) b9.out (by have:=X.out;omega) D.out.size ?_;intro v3 W9 o3 c3 g3;have B3:=M (D.out.trans c3);refine hK _ _ B3.out ?_;clear hK K;go_simp;have o4:cA 53 18 t.heap.size v3 (eG es k (aL r P fr)) W9:=(by unfold cA;rw[BH bk.out,hH (by have:=X.out;omega),show es.length+1=k+1+(es.length -k) by have:=X.out;omega];simpa[bg]using o3);replace H:=M (H.out.new (.eP B3.out) (j4 o4) (fun x hx=>(bp o4 x hx).1));obtain⟨eg,eh,rfl⟩:=cA.slice o4;rw[hH (by have:=X.out;omega)]at H⊢;clear o2 o3 g3 c3 o4 D T V c p d F g E m Q o;(iterate 1 refine cD A (aI ⟨by rfl,fun W hS=>by clear hS;go_simp;try with_reducible rfl⟩) ?_;go_simp);refine iK A (fun K hK=> ?_);obtain⟨cs,T⟩:=St.cs H 4 A;simp only[ak]at cs;obtain⟨⟨V,c⟩,⟨p,d⟩,⟨F,g⟩,⟨E,m⟩,⟨Q,o⟩, -⟩:=cs;go_simp;generalize e:af W9 _ _=s;replace H:=bW e (St.aB H.out 4 A 3 _ A);simp only[ab,ae]at H;clear e;clear T V c p d F g E m Q o;refine hK _ _ ?_;clear hK K;go_simp;refine gB ?_;rcases hF.kind with⟨aE, -⟩|⟨aE, -, -⟩
         · first
            |exact absurd (aE.symm.trans S.out) (by decide)
            |(clear aE
              obtain⟨cs,T⟩:=St.cs H 4 A
              simp only[ak]at cs
              obtain⟨⟨V,c⟩,⟨p,d⟩,⟨F,g⟩,⟨E,m⟩,⟨Q,o⟩, -⟩:=cs
              obtain⟨cs,lo⟩:=St.cs H 2 A
              simp only[ak]at cs
              obtain⟨⟨o0,b0⟩,⟨Y,b1⟩,⟨o2,b2⟩,⟨o3,b5⟩,⟨o4,b6⟩, -⟩:=cs
              have nb:=H.out.ne 4 2 A A (by decide)
              have ct:=H.out.ne 2 4 A A (by decide)
              go_wp2_with{}
              generalize e:af (af (af (af (af s _ _) _ _) _ _) _ _) _ _=V9
              replace H:=bW e (St.aB (St.aB (St.aB (St.aB (St.aB H.out 2 A 0 _ A) 2 A 1 _ A) 2 A 2 _ A) 2 A 3 _ A) 2 A 4 _ A)
              simp only[ab,ae]at H
              clear e
              exact au (cd _ _ 6 _ 38 _ _ _ A A (H.out.aR 2 A) (by kernel_rfl) (by kernel_rfl)) A (by rw[show mM b r n={b with recs:=eG b.recs k r,bj:=if b.kind=2 then eG b.bj k n else b.bj}from bE.out];exact⟨H.out.low.aC,eG es k (aL r P fr),_,_,_,by(unfold x8;simp only[S.out];rfl),vS (Gv:=Gb) HB.out bU.out H.out.low.aC hk (H.out.nth 0 _ A) (by rw[Rq (by rw[S.out];decide)];exact A7 (b:=b) HB.out H.out.low.aC) A,fun x hx=>hx.elim .inl (fun h=>h.elim (fun h=>.inr (nP H 0 A x h)) (fun h=>.inl (.inl h)))⟩))
         · first
            |exact absurd (aE.symm.trans S.out) (by decide)
            |(clear aE
              have c9:l.length<=lc:=(Sl.cap (si.KS (H.out.get 1 _ A)))
              have dX:(k:Int)<=(lc:Int):=by have:=G.out;omega
              have c8:(k:Int)<=(l.length:Int):=by have:=G.out;omega
              have d':(l.length:Int)<=(lc:Int):=by omega
              have bH:=M (fun W(hW:ay s.heap.size s W)=>Sl.take (k:=k) ((si.KS (H.out.get 1 _ A)).below hW) (by have:=G.out;omega))
              have a1:=M (fun W(hW:ay s.heap.size s W)=>Sl.drop (k:=k) ((si.KS (H.out.get 1 _ A)).below hW) (by have:=G.out;omega))
              have bx:=M (fun y(hy:y∈(l.map fun n=>bd .i64 n).take (k*1))=>th l y (eE hy))
              have ca:=M (fun y(hy:y∈(l.map fun n=>bd .i64 n).drop (k*1))=>th l y (gr hy))
              obtain⟨cs,T⟩:=St.cs H 4 A
              simp only[ak]at cs
              obtain⟨⟨V,c⟩,⟨p,d⟩,⟨F,g⟩,⟨E,m⟩,⟨Q,o⟩, -⟩:=cs
              go_wp2_with{}
              clear T V c p d F g E m Q o
              refine kh (fun W:ai=>ay s.heap.size s W) 13 (.R 0 (.R 1 (.R 2 (.R 3 (.R 5 (.R 8 (.R 9 (.R 10 (.two 4 (.call 6 (.call 7 (.call 11 (.R 12 (.call 13 .done))))) 6 (.call 4 (.call 7 (.call 11 (.R 12 (.call 13 .done)))))))))))))) (by kernel_rfl) (by kernel_rfl) (fun _ _ _ _ _ h=>h) (ax _ _).drew ?_
              iterate 8
               refine cD A (aI ⟨by rfl,fun W hS=>by clear hS;go_simp;try with_reducible rfl⟩) ?_;go_simp
              generalize aF:(ite (lc=k) _ _:Option Addr)=cR
              replace a1:=M (fun W hW=>(by have h:=a1.out W hW;simpa[iN,aF]using h:Sl W 1 (Z cR (l.length -k) (lc -k)) (l.length -k) ((l.map fun n=>bd .i64 n).drop (k*1))))
              clear aF
              apply tM (fun(v:ar)(B:Nat)(W:ai)=>Hid (ay s.heap.size s W)/\Hid (W.ownsRow s.heap.size 3 1 v k ((l.map fun n=>bd .i64 n).take (k*1)))/\Hid (W.heap[B]? =O (Ra #[I J n] 3 (0,0))))
              case' h1=>
               intro C
               refine tL ?_ ?_
               · skip;refine cj A (fun K hK=> ?_);refine step_append (by rfl) _ _ A ou s.heap.size (Z N 0 0) _ 0 k [] ((l.map fun n=>bd .i64 n).take (k*1)) (by simp[bK]) (by simp[bK]) (dH _ _ _ _) (bH.out _ (ax s.heap.size s).drew) bx.out (by omega) ((ax s.heap.size s).drew).size ?_;intro v1 Y1 Y c1 g1;rw[bC,bI]at Y;have R:=M ((ax s.heap.size s).drew.trans c1);refine hK _ _ R.out ?_;clear hK K;go_simp;clear g1 c1;refine cj A (fun K hK=> ?_);go_simp;have p:=heap_alloc_new Y1 (Ra #[I J n] 3);have o2:=cL Y (Ra #[I J n] 3);have D:=M (R.out.alloc R.out.size (Ra #[I J n] 3));generalize e:aq Y1 _=Y2 at*;obtain⟨B,hB⟩:∃B,Y1.heap.size=B:=⟨_,rfl⟩;rw[hB]at p⊢;clear hB;refine hK _ _ D.out ?_;clear hK K;go_simp;all_goals exact C v1 B Y2 ⟨D,M o2,M p⟩
               · skip;refine cj A (fun K hK=> ?_);go_simp;have p:(bD (s.alloc (Ra #[I J n] 3))).heap[s.heap.size]? =O (Ra #[I J n] 3):=heap_alloc_new s (Ra #[I J n] 3);have R:=M ((ax s.heap.size s).alloc (av _) (Ra #[I J n] 3)).drew;generalize e:bD (aq s _)=Y1 at*;obtain⟨B,hB⟩:∃B,s.heap.size=B:=⟨_,rfl⟩;have pB:Y1.heap[B]? =O (Ra #[I J n] 3):=hB▸p;clear p;have p:=pB;clear pB;rw[hB];clear hB;refine hK _ _ R.out ?_;clear hK K;go_simp;refine cj A (fun K hK=> ?_);refine step_append (by rfl) _ _ A ou s.heap.size (Z N 0 0) _ 0 k [] ((l.map fun n=>bd .i64 n).take (k*1)) (by simp[bK]) (by simp[bK]) (dH _ _ _ _) (bH.out _ R.out) bx.out (by omega) (R.out).size ?_;intro v1 Y2 Y c1 g1;rw[bC,bI]at Y;have F:=(g1.block B (aV p) (fun h=>by cases h)).trans p;have D:=M (R.out.trans c1);refine hK _ _ D.out ?_;clear hK K;go_simp;all_goals exact C v1 B Y2 ⟨D,M Y,M F⟩
              case' h2=>
               intro v1 B W7⟨BB,HO,HP⟩
               refine cj A (fun K hK=> ?_)
               refine step_append (by rfl) _ _ A ou s.heap.size v1 (Z (O ⟨B,0,N⟩) 1 1) k 1 _ [I J n] (by simp[bK]) (by simp[bK]) HO.out (AH HP.out A) (by intro y hy;simp at hy;subst hy;rfl) (by omega) BB.out.size ?_
               intro v2 W8 o2 c2 g2
               have D:=M (BB.out.trans c2)
               refine hK _ _ D.out ?_
               clear hK K
               go_simp
               clear g2 c2 HP HO BB
               refine cj A (fun K hK=> ?_)
               refine step_append (by rfl) _ _ A ou s.heap.size v2 _ (k+1) (l.length -k) _ _ (by simp[bK]) (by have:=G.out;simp[bK];try omega) o2 (a1.out _ D.out) ca.out (by have:=G.out;omega) D.out.size ?_
               intro v3 W9 o3 c3 g3
               have B3:=M (D.out.trans c3)
               refine hK _ _ B3.out ?_
               clear hK K
               go_simp
               have o4:cA 3 1 s.heap.size v3 ((eG l k n).map fun n=>[I J n]) W9:=by unfold cA;rw[rm,bq,hH (by have:=G.out;omega),show l.length+1=k+1+(l.length -k) by have:=G.out;omega,Fx];simpa[bg]using o3
               replace H:=M (H.out.new (.eP B3.out) (j4 o4) (fun x hx=>(bp o4 x hx).1))
               obtain⟨cI,cP,rfl⟩:=cA.slice o4
               rw[bq,hH (by have:=G.out;omega)]at H⊢
               clear o2 o3 g3 c3 o4 D
               iterate 1
                refine cD A (aI ⟨by rfl,fun W hS=>by clear hS;go_simp;try with_reducible rfl⟩) ?_;go_simp
               refine iK A (fun K hK=> ?_)
               obtain⟨cs,T⟩:=St.cs H 5 A
               simp only[ak]at cs
               obtain⟨⟨V,c⟩,⟨p,d⟩,⟨F,g⟩,⟨E,m⟩,⟨Q,o⟩, -⟩:=cs
               go_simp
               generalize e:af W9 _ _=V2
               replace H:=bW e (St.aB H.out 5 A 4 _ A)
               simp only[ab,ae]at H
               clear e
               clear T V c p d F g E m Q o
               refine hK _ _ ?_
               clear hK K
               go_simp
               refine gB ?_
               obtain⟨cs,T⟩:=St.cs H 5 A
               simp only[ak]at cs
               obtain⟨⟨V,c⟩,⟨p,d⟩,⟨F,g⟩,⟨E,m⟩,⟨Q,o⟩, -⟩:=cs
               obtain⟨cs,lo⟩:=St.cs H 3 A
               simp only[ak]at cs
               obtain⟨⟨o0,b0⟩,⟨Y,b1⟩,⟨o2,b2⟩,⟨o3,b5⟩,⟨o4,b6⟩, -⟩:=cs
               have nb:=H.out.ne 5 3 A A (by decide)
               have ct:=H.out.ne 3 5 A A (by decide)
               go_wp2_with{}
               generalize e:af (af (af (af (af V2 _ _) _ _) _ _) _ _) _ _=V9
               replace H:=bW e (St.aB (St.aB (St.aB (St.aB (St.aB H.out 3 A 0 _ A) 3 A 1 _ A) 3 A 2 _ A) 3 A 3 _ A) 3 A 4 _ A)
               simp only[ab,ae]at H
               clear e
               exact au (cd _ _ 6 _ 38 _ _ _ A A (H.out.aR 3 A) (by kernel_rfl) (by kernel_rfl)) A (by rw[show mM b r n={b with recs:=eG b.recs k r,bj:=if b.kind=2 then eG b.bj k n else b.bj}from bE.out];exact⟨H.out.low.aC,eG es k (aL r P fr),_,_,_,by(unfold x8;simp only[S.out];rfl),vS (Gv:=fun x=>(dO cI (l.length+1) cP).ownBlock=O x) HB.out bU.out H.out.low.aC hk (H.out.nth 1 _ A) (by rw[Rs S.out,<-al.out.1 S.out];exact Ab (H.out.nth 0 _ A)) A,fun x hx=>hx.elim .inl (fun h=>h.elim (fun h=>.inr (nP H 1 A x h)) (fun h=>.inr (nP H 0 A x h)))⟩))
       case' false=>have dx:=M (show mM b r n=b by unfold mM;simp only[HX.out,HK.out];exact Rs ⟨_,bX.out,of_decide_eq_false hc⟩);clear hc;obtain⟨cs,T⟩:=St.cs H 3 A;simp only[ak]at cs;obtain⟨⟨V,c⟩,⟨p,d⟩,⟨F,g⟩,⟨E,m⟩,⟨Q,o⟩, -⟩:=cs;obtain⟨cs,lo⟩:=St.cs H 1 A;simp only[ak]at cs;obtain⟨⟨o0,b0⟩,⟨Y,b1⟩,⟨o2,b2⟩,⟨o3,b5⟩,⟨o4,b6⟩, -⟩:=cs;have n13:=H.out.ne 1 3 A A (by decide);have eL:=H.out.ne 3 1 A A (by decide);go_wp2_with{};generalize e:af (af (af (af (af t _ _) _ _) _ _) _ _) _ _=W9;replace H:=bW e (St.aB (St.aB (St.aB (St.aB (St.aB H.out 1 A 0 _ A) 1 A 1 _ A) 1 A 2 _ A) 1 A 3 _ A) 1 A 4 _ A);simp only[ab,ae]at H;clear e;exact au (cd _ _ 6 _ 38 _ _ _ A A (H.out.aR 1 A) (by kernel_rfl) (by kernel_rfl)) A (by rw[dx.out];exact⟨H.out.low.aC,es,_,_,Gb,by(unfold x8;try rw[S.out]),HB.out.bF H.out.low (fun _ _ f=>f.elim),fun k hk=>.inl (.inl hk)⟩)
     case' neg=>
      have i2:¬(k:Int)<(b.recs.length:Int):=(by omega);have d2:decide ((k:Int)<(b.recs.length:Int))=false:=Rw i2;have HK:=M (show kl x 0 (gH b)=k by rw[cc.out,d_ (by rw[uu hF.len];omega)];rfl);obtain⟨cs,T⟩:=St.cs H 3 A;simp only[ak]at cs;obtain⟨⟨V,c⟩,⟨p,d⟩,⟨F,g⟩,⟨E,m⟩,⟨Q,o⟩, -⟩:=cs;go_wp2_with{};refine bM (fun W:ai=>ay wr.heap.size wr W) (.R 0 (.R 1 (.R 2 (.R 3 (.R 4 (.R 5 (.R 6 (.R 7 (.R 8 (.R 9 (.R 10 (.R 11 (.R 12 (.R 13 (.R 14 (.R 15 (.R 16 (.call 17 (.R 18 .done))))))))))))))))))) (by kernel_rfl) (by kernel_rfl) (fun _ _ _ _ _ h=>h) (ax _ _).drew ?_
      iterate 17
       first
        |refine aj A (dJ ⟨by rfl,rfl⟩) ?_
        |refine aj A (aI ⟨by rfl,fun W hS=>by have g3:=aU E hS;clear hS;go_simp;try with_reducible rfl⟩) ?_
       go_simp
      refine aH A (fun K hK=> ?_);go_simp;refine hK _ _ (ax _ _).drew ?_;clear hK K;go_simp
      iterate 1
       first
        |refine aj A (dJ ⟨by rfl,rfl⟩) ?_
        |refine aj A (aI ⟨by rfl,fun W hS=>by have g3:=aU E hS;clear hS;go_simp;try with_reducible rfl⟩) ?_
       go_simp
      refine aM ?_;replace H:=M H.out.drew;clear T V c p d F g E m Q o;generalize wr.drew=t at*;generalize t=W5 at*;obtain⟨cs,T⟩:=St.cs H 3 A;simp only[ak]at cs;obtain⟨⟨V,c⟩,⟨p,d⟩,⟨F,g⟩,⟨E,m⟩,⟨Q,o⟩, -⟩:=cs;go_wp2_with{};refine bM (fun W:ai=>ay W5.heap.size W5 W) (.R 0 (.R 1 (.R 2 (.R 3 (.R 4 (.R 5 (.R 6 (.R 7 (.R 8 (.R 9 (.R 10 (.R 11 (.R 12 (.R 13 (.R 14 (.R 15 (.R 16 (.call 17 (.R 18 (.R 19 .done)))))))))))))))))))) (by kernel_rfl) (by kernel_rfl) (fun _ _ _ _ _ h=>h) (ax _ _).drew ?_
      iterate 17
       first
        |refine aj A (dJ ⟨by rfl,rfl⟩) ?_
        |refine aj A (aI ⟨by rfl,fun W hS=>by have g3:=aU E hS;clear hS;go_simp;try with_reducible rfl⟩) ?_
       go_simp
      refine aH A (fun K hK=> ?_);go_simp;refine hK _ _ (ax _ _).drew ?_;clear hK K;go_simp
      iterate 2
       first
        |refine aj A (dJ ⟨by rfl,rfl⟩) ?_
        |refine aj A (aI ⟨by rfl,fun W hS=>by have g3:=aU E hS;clear hS;go_simp;try with_reducible rfl⟩) ?_
       go_simp
      refine aM ?_;replace H:=M H.out.drew;clear T V c p d F g E m Q o;generalize W5.drew=t at*;have bE:=M (Ck HX.out HK.out (fun⟨y,h1,_⟩=>by have:=(aA.1 h1).1;rw[uu hF.len]at this;omega));clear d2 i2 a'; go_wp2_with{};have c':b.recs.length<=rc:=bl.out.cap;have dY:(k:Int)<=(rc:Int):=(by omega);have dZ:(k:Int)<=(b.recs.length:Int):=(by omega);have eb:(b.recs.length:Int)<=(rc:Int):=(by omega);obtain⟨cs,T⟩:=St.cs H 3 A;simp only[ak]at cs;obtain⟨⟨V,c⟩,⟨p,d⟩,⟨F,g⟩,⟨E,m⟩,⟨Q,o⟩, -⟩:=cs;have aO:w.heap.size+1<t.heap.size:=(H.out.nth 2 _ A).dom _ A;have bG:=M (fun W(hW:ay t.heap.size t W)=>Sl.take (k:=k) (bl.out.below (H.out.low.aC.trans (hW.mono H.out.base))) (by have:=X.out;omega));have aX:=M (fun W(hW:ay t.heap.size t W)=>Sl.drop (k:=k) (bl.out.below (H.out.low.aC.trans (hW.mono H.out.base))) (by have:=X.out;omega));have bt:=M (fun y(hy:y∈es.flatten.take (k*18))=>tf bk.out y (eE hy));have b9:=M (fun y(hy:y∈es.flatten.drop (k*18))=>tf bk.out y (gr hy));refine kh (fun W:ai=>ay t.heap.size t W) 15 (.R 0 (.R 1 (.R 2 (.R 3 (.R 4 (.R 6 (.R 9 (.R 10 (.R 11 (.R 12 (.two 5 (.call 7 (.call 8 (.call 13 (.R 14 (.call 15 .done))))) 7 (.call 5 (.call 8 (.call 13 (.R 14 (.call 15 .done)))))))))))))))) (by kernel_rfl) (by kernel_rfl) (fun _ _ _ _ _ h=>h) (ax _ _).drew ?_;(iterate 5 refine cD A (aI ⟨by rfl,fun W hS=>by have g3:=aU E hS;have g4:=aU Q hS;clear hS;go_simp;try with_reducible rfl⟩) ?_;go_simp);refine cD A (nr 53 _ A A (w.heap.size+1) A (aL r P fr).toArray 53 (0,0) _ (fun W hS=>(hS.block _ aO).trans (H.out.aR 2 A)) ef A (ql _ _ _)) ?_;go_simp;(iterate 4 refine cD A (aI ⟨by rfl,fun W hS=>by have g3:=aU E hS;have g4:=aU Q hS;clear hS;go_simp;try with_reducible rfl⟩) ?_;go_simp);generalize aF:(ite (rc=k) _ _:Option Addr)=sd;replace aX:=M (fun W hW=>(by have h:=aX.out W hW;simpa[iN,aF]using h:Sl W 18 (Z sd (es.length -k) (rc -k)) (es.length -k) (es.flatten.drop (k*18))));clear aF;apply tM (fun(v:ar)(B:Nat)(W:ai)=>Hid (ay t.heap.size t W)/\Hid (W.ownsRow t.heap.size 53 18 v k (es.flatten.take (k*18)))/\Hid (W.heap[B]? =O (Ra (aL r P fr).toArray 53 (0,0))));case' h1=>intro C;refine tL ?_ ?_;{skip;refine cj A (fun K hK=> ?_);refine step_append (by rfl) _ _ A kg t.heap.size (Z N 0 0) _ 0 k [] (es.flatten.take (k*18)) (by simp[bK]) (by simp[bK]) (dH _ _ _ _) (bG.out _ (ax t.heap.size t).drew) bt.out (by omega) ((ax t.heap.size t).drew).size ?_;intro v1 Y1 Y c1 g1;rw[bC,bI]at Y;have R:=M ((ax t.heap.size t).drew.trans c1);refine hK _ _ R.out ?_;clear hK K;go_simp;clear g1 c1;refine cj A (fun K hK=> ?_);rw[Rs (by rfl)];obtain⟨i0,z0,az,aG,L,bb,bf⟩:=kg.i;refine wp_buildSlice 36 53 1 _ A (aL r P fr).toArray i0 z0 kg.u az aG (by rw[L];decide) (by rw[L];decide) (by rw[L];kernel_rfl) ?_;clear az aG L bb bf;have p:=heap_alloc_new Y1 (Ra (aL r P fr).toArray 53);have o2:=cL Y (Ra (aL r P fr).toArray 53);have D:=M (R.out.alloc R.out.size (Ra (aL r P fr).toArray 53));generalize e:aq Y1 _=Y2 at*;obtain⟨B,hB⟩:∃B,Y1.heap.size=B:=⟨_,rfl⟩;rw[hB]at p⊢;clear hB;refine hK _ _ D.out ?_;clear hK K;go_simp;all_goals exact C v1 B Y2 ⟨D,M o2,M p⟩};{skip;refine cj A (fun K hK=> ?_);rw[Rs (by rfl)];obtain⟨i0,z0,az,aG,L,bb,bf⟩:=kg.i;refine wp_buildSlice 36 53 1 _ A (aL r P fr).toArray i0 z0 kg.u az aG (by rw[L];decide) (by rw[L];decide) (by rw[L];kernel_rfl) ?_;clear az aG L bb bf;have p:=heap_alloc_new t.drew (Ra (aL r P fr).toArray 53);have R:=M ((ax t.heap.size t).drew.alloc (av _) (Ra (aL r P fr).toArray 53));generalize e:aq t.drew _=Y1 at*;obtain⟨B,hB⟩:∃B,t.drew.heap.size=B:=⟨_,rfl⟩;rw[hB]at p⊢;refine hK _ _ R.out ?_;clear hK K;go_simp;refine cj A (fun K hK=> ?_);refine step_append (by rfl) _ _ A kg t.heap.size (Z N 0 0) _ 0 k [] (es.flatten.take (k*18)) (by simp[bK]) (by simp[bK]) (dH _ _ _ _) (bG.out _ R.out) bt.out (by omega) (R.out).size ?_;intro v1 Y2 Y c1 g1;rw[bC,bI]at Y;have F:=(g1.block B (aV p) (fun h=>by cases h)).trans p;have D:=M (R.out.trans c1);refine hK _ _ D.out ?_;clear hK K;go_simp;all_goals exact C v1 B Y2 ⟨D,M Y,M F⟩}
      case' h2=>
       intro v1 B W7⟨BB,HO,HP⟩;refine cj A (fun K hK=> ?_);refine step_append (by rfl) _ _ A kg t.heap.size v1 (Z (O ⟨B,0,N⟩) 1 1) k 1 _ (aL r P fr) (by simp[bK]) (by simp[bK]) HO.out (AH HP.out A) b7.out (by omega) BB.out.size ?_;intro v2 W8 o2 c2 g2;have D:=M (BB.out.trans c2);refine hK _ _ D.out ?_;clear hK K;go_simp;clear g2 c2 HP HO BB;refine cj A (fun K hK=> ?_);refine step_append (by rfl) _ _ A kg t.heap.size v2 _ (k+1) (es.length -k) _ _ (by simp[bK]) (by have:=X.out;simp[bK];omega) o2 (aX.out _ D.out) b9.out (by have:=X.out;omega) D.out.size ?_;intro v3 W9 o3 c3 g3;have B3:=M (D.out.trans c3);refine hK _ _ B3.out ?_;clear hK K;go_simp;have o4:cA 53 18 t.heap.size v3 (eG es k (aL r P fr)) W9:=(by unfold cA;rw[BH bk.out,hH (by have:=X.out;omega),show es.length+1=k+1+(es.length -k) by have:=X.out;omega];simpa[bg]using o3);replace H:=M (H.out.new (.eP B3.out) (j4 o4) (fun x hx=>(bp o4 x hx).1));obtain⟨eg,eh,rfl⟩:=cA.slice o4;rw[hH (by have:=X.out;omega)]at H⊢;clear o2 o3 g3 c3 o4 D T V c p d F g E m Q o;(iterate 1 refine cD A (aI ⟨by rfl,fun W hS=>by clear hS;go_simp;try with_reducible rfl⟩) ?_;go_simp);refine iK A (fun K hK=> ?_);obtain⟨cs,T⟩:=St.cs H 4 A;simp only[ak]at cs;obtain⟨⟨V,c⟩,⟨p,d⟩,⟨F,g⟩,⟨E,m⟩,⟨Q,o⟩, -⟩:=cs;go_simp;generalize e:af W9 _ _=s;replace H:=bW e (St.aB H.out 4 A 3 _ A);simp only[ab,ae]at H;clear e;clear T V c p d F g E m Q o;refine hK _ _ ?_;clear hK K;go_simp;refine gB ?_;rcases hF.kind with⟨aE, -⟩|⟨aE, -, -⟩
       · first
          |exact absurd (aE.symm.trans S.out) (by decide)
          |(clear aE
            obtain⟨cs,T⟩:=St.cs H 4 A
            simp only[ak]at cs
            obtain⟨⟨V,c⟩,⟨p,d⟩,⟨F,g⟩,⟨E,m⟩,⟨Q,o⟩, -⟩:=cs
            obtain⟨cs,lo⟩:=St.cs H 2 A
            simp only[ak]at cs
            obtain⟨⟨o0,b0⟩,⟨Y,b1⟩,⟨o2,b2⟩,⟨o3,b5⟩,⟨o4,b6⟩, -⟩:=cs
            have nb:=H.out.ne 4 2 A A (by decide)
            have ct:=H.out.ne 2 4 A A (by decide)
            go_wp2_with{}
            generalize e:af (af (af (af (af s _ _) _ _) _ _) _ _) _ _=V9
            replace H:=bW e (St.aB (St.aB (St.aB (St.aB (St.aB H.out 2 A 0 _ A) 2 A 1 _ A) 2 A 2 _ A) 2 A 3 _ A) 2 A 4 _ A)
            simp only[ab,ae]at H
            clear e
            exact au (cd _ _ 6 _ 38 _ _ _ A A (H.out.aR 2 A) (by kernel_rfl) (by kernel_rfl)) A (by rw[show mM b r n={b with recs:=eG b.recs k r,bj:=if b.kind=2 then eG b.bj k n else b.bj}from bE.out];exact⟨H.out.low.aC,eG es k (aL r P fr),_,_,_,by(unfold x8;simp only[S.out];rfl),vS (Gv:=Gb) HB.out bU.out H.out.low.aC hk (H.out.nth 0 _ A) (by rw[Rq (by rw[S.out];decide)];exact A7 (b:=b) HB.out H.out.low.aC) A,fun x hx=>hx.elim .inl (fun h=>h.elim (fun h=>.inr (nP H 0 A x h)) (fun h=>.inl (.inl h)))⟩))
       · first
          |exact absurd (aE.symm.trans S.out) (by decide)
          |(clear aE
            have c9:l.length<=lc:=(Sl.cap (si.KS (H.out.get 1 _ A)))
            have dX:(k:Int)<=(lc:Int):=by have:=G.out;omega
            have c8:(k:Int)<=(l.length:Int):=by have:=G.out;omega
            have d':(l.length:Int)<=(lc:Int):=by omega
            have bH:=M (fun W(hW:ay s.heap.size s W)=>Sl.take (k:=k) ((si.KS (H.out.get 1 _ A)).below hW) (by have:=G.out;omega))
            have a1:=M (fun W(hW:ay s.heap.size s W)=>Sl.drop (k:=k) ((si.KS (H.out.get 1 _ A)).below hW) (by have:=G.out;omega))
            have bx:=M (fun y(hy:y∈(l.map fun n=>bd .i64 n).take (k*1))=>th l y (eE hy))
            have ca:=M (fun y(hy:y∈(l.map fun n=>bd .i64 n).drop (k*1))=>th l y (gr hy))
            obtain⟨cs,T⟩:=St.cs H 4 A
            simp only[ak]at cs
            obtain⟨⟨V,c⟩,⟨p,d⟩,⟨F,g⟩,⟨E,m⟩,⟨Q,o⟩, -⟩:=cs
            go_wp2_with{}
            clear T V c p d F g E m Q o
            refine kh (fun W:ai=>ay s.heap.size s W) 13 (.R 0 (.R 1 (.R 2 (.R 3 (.R 5 (.R 8 (.R 9 (.R 10 (.two 4 (.call 6 (.call 7 (.call 11 (.R 12 (.call 13 .done))))) 6 (.call 4 (.call 7 (.call 11 (.R 12 (.call 13 .done)))))))))))))) (by kernel_rfl) (by kernel_rfl) (fun _ _ _ _ _ h=>h) (ax _ _).drew ?_
            iterate 8
             refine cD A (aI ⟨by rfl,fun W hS=>by clear hS;go_simp;try with_reducible rfl⟩) ?_;go_simp
            generalize aF:(ite (lc=k) _ _:Option Addr)=cR
            replace a1:=M (fun W hW=>(by have h:=a1.out W hW;simpa[iN,aF]using h:Sl W 1 (Z cR (l.length -k) (lc -k)) (l.length -k) ((l.map fun n=>bd .i64 n).drop (k*1))))
            clear aF
            apply tM (fun(v:ar)(B:Nat)(W:ai)=>Hid (ay s.heap.size s W)/\Hid (W.ownsRow s.heap.size 3 1 v k ((l.map fun n=>bd .i64 n).take (k*1)))/\Hid (W.heap[B]? =O (Ra #[I J n] 3 (0,0))))
            case' h1=>
             intro C
             refine tL ?_ ?_
             · skip;refine cj A (fun K hK=> ?_);refine step_append (by rfl) _ _ A ou s.heap.size (Z N 0 0) _ 0 k [] ((l.map fun n=>bd .i64 n).take (k*1)) (by simp[bK]) (by simp[bK]) (dH _ _ _ _) (bH.out _ (ax s.heap.size s).drew) bx.out (by omega) ((ax s.heap.size s).drew).size ?_;intro v1 Y1 Y c1 g1;rw[bC,bI]at Y;have R:=M ((ax s.heap.size s).drew.trans c1);refine hK _ _ R.out ?_;clear hK K;go_simp;clear g1 c1;refine cj A (fun K hK=> ?_);go_simp;have p:=heap_alloc_new Y1 (Ra #[I J n] 3);have o2:=cL Y (Ra #[I J n] 3);have D:=M (R.out.alloc R.out.size (Ra #[I J n] 3));generalize e:aq Y1 _=Y2 at*;obtain⟨B,hB⟩:∃B,Y1.heap.size=B:=⟨_,rfl⟩;rw[hB]at p⊢;clear hB;refine hK _ _ D.out ?_;clear hK K;go_simp;all_goals exact C v1 B Y2 ⟨D,M o2,M p⟩
             · skip;refine cj A (fun K hK=> ?_);go_simp;have p:(bD (s.alloc (Ra #[I J n] 3))).heap[s.heap.size]? =O (Ra #[I J n] 3):=heap_alloc_new s (Ra #[I J n] 3);have R:=M ((ax s.heap.size s).alloc (av _) (Ra #[I J n] 3)).drew;generalize e:bD (aq s _)=Y1 at*;obtain⟨B,hB⟩:∃B,s.heap.size=B:=⟨_,rfl⟩;have pB:Y1.heap[B]? =O (Ra #[I J n] 3):=hB▸p;clear p;have p:=pB;clear pB;rw[hB];clear hB;refine hK _ _ R.out ?_;clear hK K;go_simp;refine cj A (fun K hK=> ?_);refine step_append (by rfl) _ _ A ou s.heap.size (Z N 0 0) _ 0 k [] ((l.map fun n=>bd .i64 n).take (k*1)) (by simp[bK]) (by simp[bK]) (dH _ _ _ _) (bH.out _ R.out) bx.out (by omega) (R.out).size ?_;intro v1 Y2 Y c1 g1;rw[bC,bI]at Y;have F:=(g1.block B (aV p) (fun h=>by cases h)).trans p;have D:=M (R.out.trans c1);refine hK _ _ D.out ?_;clear hK K;go_simp;all_goals exact C v1 B Y2 ⟨D,M Y,M F⟩
            case' h2=>
             intro v1 B W7⟨BB,HO,HP⟩
             refine cj A (fun K hK=> ?_)
             refine step_append (by rfl) _ _ A ou s.heap.size v1 (Z (O ⟨B,0,N⟩) 1 1) k 1 _ [I J n] (by simp[bK]) (by simp[bK]) HO.out (AH HP.out A) (by intro y hy;simp at hy;subst hy;rfl) (by omega) BB.out.size ?_
             intro v2 W8 o2 c2 g2
             have D:=M (BB.out.trans c2)
             refine hK _ _ D.out ?_
             clear hK K
             go_simp
             clear g2 c2 HP HO BB
             refine cj A (fun K hK=> ?_)
             refine step_append (by rfl) _ _ A ou s.heap.size v2 _ (k+1) (l.length -k) _ _ (by simp[bK]) (by have:=G.out;simp[bK];try omega) o2 (a1.out _ D.out) ca.out (by have:=G.out;omega) D.out.size ?_
             intro v3 W9 o3 c3 g3
             have B3:=M (D.out.trans c3)
             refine hK _ _ B3.out ?_
             clear hK K
             go_simp
             have o4:cA 3 1 s.heap.size v3 ((eG l k n).map fun n=>[I J n]) W9:=by unfold cA;rw[rm,bq,hH (by have:=G.out;omega),show l.length+1=k+1+(l.length -k) by have:=G.out;omega,Fx];simpa[bg]using o3
             replace H:=M (H.out.new (.eP B3.out) (j4 o4) (fun x hx=>(bp o4 x hx).1))
             obtain⟨cI,cP,rfl⟩:=cA.slice o4
             rw[bq,hH (by have:=G.out;omega)]at H⊢
             clear o2 o3 g3 c3 o4 D
             iterate 1
              refine cD A (aI ⟨by rfl,fun W hS=>by clear hS;go_simp;try with_reducible rfl⟩) ?_;go_simp
             refine iK A (fun K hK=> ?_)
             obtain⟨cs,T⟩:=St.cs H 5 A
             simp only[ak]at cs
             obtain⟨⟨V,c⟩,⟨p,d⟩,⟨F,g⟩,⟨E,m⟩,⟨Q,o⟩, -⟩:=cs
             go_simp
             generalize e:af W9 _ _=V2
             replace H:=bW e (St.aB H.out 5 A 4 _ A)
             simp only[ab,ae]at H
             clear e
             clear T V c p d F g E m Q o
             refine hK _ _ ?_
             clear hK K
             go_simp
             refine gB ?_
             obtain⟨cs,T⟩:=St.cs H 5 A
             simp only[ak]at cs
             obtain⟨⟨V,c⟩,⟨p,d⟩,⟨F,g⟩,⟨E,m⟩,⟨Q,o⟩, -⟩:=cs
             obtain⟨cs,lo⟩:=St.cs H 3 A
             simp only[ak]at cs
             obtain⟨⟨o0,b0⟩,⟨Y,b1⟩,⟨o2,b2⟩,⟨o3,b5⟩,⟨o4,b6⟩, -⟩:=cs
             have nb:=H.out.ne 5 3 A A (by decide)
             have ct:=H.out.ne 3 5 A A (by decide)
             go_wp2_with{}
             generalize e:af (af (af (af (af V2 _ _) _ _) _ _) _ _) _ _=V9
             replace H:=bW e (St.aB (St.aB (St.aB (St.aB (St.aB H.out 3 A 0 _ A) 3 A 1 _ A) 3 A 2 _ A) 3 A 3 _ A) 3 A 4 _ A)
             simp only[ab,ae]at H
             clear e
             exact au (cd _ _ 6 _ 38 _ _ _ A A (H.out.aR 3 A) (by kernel_rfl) (by kernel_rfl)) A (by rw[show mM b r n={b with recs:=eG b.recs k r,bj:=if b.kind=2 then eG b.bj k n else b.bj}from bE.out];exact⟨H.out.low.aC,eG es k (aL r P fr),_,_,_,by(unfold x8;simp only[S.out];rfl),vS (Gv:=fun x=>(dO cI (l.length+1) cP).ownBlock=O x) HB.out bU.out H.out.low.aC hk (H.out.nth 1 _ A) (by rw[Rs S.out,<-al.out.1 S.out];exact Ab (H.out.nth 0 _ A)) A,fun x hx=>hx.elim .inl (fun h=>h.elim (fun h=>.inr (nP H 1 A x h)) (fun h=>.inr (nP H 0 A x h)))⟩))
theorem St.JA{F:Nat ->Prop}{w0 W W':ai}{L:List cM}{r s:cM}(h:St F w0 (r::s::L) W)(hb:ay W.heap.size W W'){t:cM}(e:t.at W')(hf:∀b,t.gY b ->(r.gY b\/s.gY b)\/W.heap.size<=b):St F w0 (t::L) W':=by have h1:=eF.1 h.apart;have h2:=eF.1 h1.2;have h3:St F w0 L W':=((h.drop 0).drop 0:St F w0 L W).below hb;refine h3.more e (fun b a d=> ?_) fun u hu b a c=> ?_;{rcases hf b a with(h4|h4)|h4;{exact(h.mem r (by simp)).2 b h4 d};{exact(h.mem s (by simp)).2 b h4 d};{have:=h.low.size;omega}};{rcases hf b c with(h4|h4)|h4;{exact h1.1 u (by simp[hu]) b h4 a};{exact h2.1 u hu b h4 a};{have:=(h.mem u (by simp[hu])).1.dom b a;omega}}
theorem Lf(k n x:Int)(W:ai):(qn ej [] ⟨k,n,x,[],[]⟩ (Z N 0 0) (Z N 0 0)).at W:=
 ⟨fun _ h=>h.elim,fun W' _=>⟨rfl,xF _ _,fun i e q h _=>by simp at h,xF _ _⟩⟩
theorem so{G:Nat ->Prop}{es:List (List ar)}{b:Bt}{sr sv:ar}{W:ai}(h:(qn G es b sr sv).hold W):∃a rc va vc,sr=Z a b.recs.length rc/\sv=Z va b.bj.length vc:=by obtain⟨h1,h2,_,h4⟩:=h;obtain⟨a,rc,rfl⟩:=h2.slice;obtain⟨va,vc,rfl⟩:=h4.slice;exact⟨a,rc,va,vc,by rw[h1],rfl⟩
structure Ga(k:Nat)(kd n x:Int)(b:Bt):Prop where
 fine:xV b
 kind:b.kind=kd
 n:b.n=n
 next:b.next=x
 len:b.recs.length<=k
 Q_:∀r∈b.recs,sK r
 pos:0<k ->b.recs≠[]
theorem Ga.small{k:Nat}{kd n x:Int}{b:Bt}(h:Ga k kd n x b):∀r∈b.recs,(fC r).length<=700:=fun r hr=>(h.Q_ r hr).small
theorem JZ{kd n x:Int}(hk:kd=1\/kd=2)(hn:1<=n)(hx:13<=x/\x<=600):Ga 0 kd n x ⟨kd,n,x,[],[]⟩:=
 ⟨⟨⟨by show 1<=x;omega,by show x<=100001;omega,hn⟩,by rcases hk with rfl|rfl;exact .inl ⟨rfl,rfl⟩;exact .inr ⟨rfl,rfl,fun v hv=>by simp at hv⟩,fun r hr=>by simp at hr,fun i y z h _=>by unfold gH at h;simp at h⟩,rfl,rfl,rfl,av _,fun r hr=>by simp at hr,fun h=>absurd h (by decide)⟩
theorem Kb(b:Bt)(r:Rc)(m:Int):b.recs.length<=(mM b r m).recs.length:=by have h:∀(p:Prop) [Decidable p] (c:Bt),b.recs.length<=c.recs.length ->b.recs.length<=(if p then b else c).recs.length:=by{intro p _ c hc;by_cases hp:p;{rw[Rs hp];exact av _};{rw[Rq hp];exact hc}};unfold mM;refine h _ _ ?_;simp only[eG,aw,aS,bL,dt];omega
theorem qS{k:Nat}{kd n x m:Int}{b:Bt}{r:Rc}(h:Ga k kd n x b)(hr:sK r)(hx:13<=x)(hm:kd=2 ->1<=m/\m<=n):Ga (k+1) kd n x (mM b r m):=by obtain⟨f1,f2,f3,f4,f5,f6,f7⟩:=Jz (n:=m) h.fine hr.some (by rw[h.next];have:=hr.id;omega) (fun e=>by rw[h.n];exact hm (h.kind▸e));refine⟨f1,f2.trans h.kind,f3.trans h.n,f4.trans h.next,bc f5 (by have:=h.len;omega),fun q hq=> ?_,fun _ e=> ?_⟩;{rcases f7 q hq with rfl|hq;{exact hr};{exact h.Q_ q hq}};{by_cases hb:b.recs=[];{rw[f6 hb]at e;simp at e};{have:b.recs.length<=(mM b r m).recs.length:=Kb b r m;rw[e]at this;exact hb (cy (by simpa using this))}}
theorem Pp:Tryz.prog.underlying 87=O (.struct (Tryz.prog.fieldsOf 87)):=by kernel_rfl
theorem Na{G:Nat ->Prop}{e:List ar}{r:Rc}{W:ai}(h:(⟨G,fun W=>rM W (Rj e.toArray) r⟩:cM).at W):(⟨G,fun W=>Gd W e r⟩:cM).at W:=⟨h.dom,fun W' a=>by
 obtain⟨e2,h1,h2⟩:=h.loc W' a;obtain rfl:e=e2:=by simpa using h1
 exact h2⟩
def CA:Rc:=⟨2,oz,1,0,⟨#[104,111,109,101]⟩,iA,nJ⟩
theorem xA:sK CA:=yA (by decide) (by decide) ⟨by decide,by decide⟩
theorem Kp:Gf CA:=⟨by decide,FX,CM⟩
def II(x:Rb)(w:ai)(e:Ending)(w':ai):Prop:=ay w.heap.size w w'/\∃b es sr sv G kd n y,e=Rh (Rj (x8 b sr sv))/\(qn G es b sr sv).at w'/\(∀k,G k ->w.heap.size<=k)/\Ga 12 kd n y b/\kd=(if x.copy then 2 else 1)/\1<=n/\n<=300/\13<=y/\y<=600
theorem MG{F:Nat ->Prop}{w0 W W':ai}{L:List cM}{r t:cM}[h:f_ W w0 F (r::L)](hb:ay W.heap.size W W')(a:t.at W')(hf:∀k,t.gY k ->r.gY k\/W.heap.size<=k):f_ W' w0 F (t::L):=
 ⟨St.JA (h.st.more (r:=⟨ej,fun _=>True⟩) ⟨fun _ f=>f.elim,fun _ _=>trivial⟩ (fun _ f=>f.elim) fun _ _ _ _ f=>f.elim) hb a fun k hk=>(hf k hk).imp .inr id⟩
theorem MH{F:Nat ->Prop}{w0 W W':ai}{L:List cM}{x r s t:cM}[h:f_ W w0 F (x::r::s::L)](hb:ay W.heap.size W W')(a:t.at W')(hf:∀k,t.gY k ->(r.gY k\/s.gY k)\/W.heap.size<=k):f_ W' w0 F (t::L):=⟨St.JA (h.st.drop 0) hb a hf⟩
theorem JB{w0 W:ai}{L:List cM}{r:cM}[h:f_ W w0 ej (r::L)]:∀k,r.gY k ->w0.heap.size<=k:=fun k hk=>Nat.le_of_not_lt fun a=>(h.st.mem r (by simp)).2 k hk a
theorem A8(x:Rb)(ra va:Option Addr)(rc vc:Nat)(w:ai)(hr:rQ w (Z ra x.recs.length rc) x.recs)(hv:xX w (Z va x.bj.length vc) x.bj)(hn:ee x.n)(bt:ee x.next):aJ ah 12 #[Rj #[Ri x.copy,I J x.n,I J x.next,Z ra x.recs.length rc,Z va x.bj.length vc]] w (II x w):=by
 have _:=uJ w;have HR:=M fun W(h:ay w.heap.size w W)=>rQ.below hr h;have HV:=M fun W(h:ay w.heap.size w W)=>xX.below hv h;have bn:=cP x.n 300 (by omega);have bx:=cP x.next 500 (by omega);have hmx:=cl.le hr;have cd:=cl.le hv;clear hr hv;obtain⟨cp,n,nx,recs,bj⟩:=x;simp only at*;go_in;go_wp2_with{};apply PV (F:=ej) (w0:=w)
 case' h1=>
  intro C
  go_wp2_with(first
   |((with_reducible refine atR ?_);refine Fa (.R 0 (.R 1 (.R 4 (.R 5 (.all [2,9] fun i=>if i=2 then .R 3 (.all [6,9] fun i=>if i=6 then .R 7 (.R 8 (.all [9] fun _=>.all [10] fun _=>.done))else .all [6] fun _=>.R 7 (.R 8 (.all [10] fun _=>.done)))else .all [2] fun _=>.R 3 (.all [6] fun _=>.R 7 (.R 8 (.all [10] fun _=>.done)))))))) (by kernel_rfl) (by kernel_rfl) (fun _ _ _ _ _ h=>h) ?_)
   |(go_at_call 26;first
     |((with_reducible refine fh (iT n 300 hn (by omega) (by omega) _) fun wz _ _=> ?_);refine hK _ _ fH ?_;clear hK K;go_simp)
     |((with_reducible refine fh (iT nx 500 bt (by omega) (by omega) _) fun wz _ _=> ?_);refine hK _ _ fH ?_;clear hK K;go_simp))
   |((with_reducible refine Qg ?_);first
     |(refine mP A A (fun W _=>by go_simp;try with_reducible rfl) ?_;go_simp)
     |refine sj ?_
     |refine OG ?_ ?_)
   |((with_reducible refine Nt ?_);first
     |((with_reducible refine Nt (i:=10) ?_);exact C D wz inferInstance)
     |((with_reducible refine Nt (i:=9) ?_);(refine I5 (i:=9) A A A M1 fun D wz _ _ _=> ?_);go_simp)
     |(refine Bl A fun K hK=> ?_;go_simp)))
 case h2=>
 intro D wz _;refine KA (T:=38) (g:=D) A A A A A (by kernel_rfl) (by rfl) (by kernel_rfl) fun w1 _ _=> ?_;go_simp;refine Jo ?_;have X:1<=IntKind.i64.wrap (1+cH n 300)/\IntKind.i64.wrap (1+cH n 300)<=300:=by rw[bo _ (by omega)];omega
 have L:13<=IntKind.i64.wrap (13+cH nx 500)/\IntKind.i64.wrap (13+cH nx 500)<=600:=by rw[bo _ (by omega)];omega
 generalize IntKind.i64.wrap (1+cH n 300)=Y at*;generalize IntKind.i64.wrap (13+cH nx 500)=X0 at*;clear bn bx;obtain⟨kd,aj⟩:∃kd:Int,(if cp=true then(2:Int)else 1)=kd:=⟨_,rfl⟩;have c:=M aj;clear aj;cases cp
 all_goals
  go_wp2_with{};go_loopw [4] (fun i wr=>∃(k:Nat) (b:Bt) (es:List (List ar)) (sa ta:Option Addr) (sc tc:Nat) (G:Nat ->Prop),i=I J k/\k<=12/\k<=recs.length/\Hid (Ga k kd Y X0 b)/\f_ wr w ej [qn G es b (Z sa b.recs.length sc) (Z ta b.bj.length tc),eH D (Ra #[I J b.kind,I J b.n,I J b.next,Z sa b.recs.length sc,Z ta b.bj.length tc] 38 (0,0)),eH (w.heap.size+1) (Ra #[I J 0,I J 0,I J 0,Z N 0 0,Z N 0 0] 38 (0,0)),eH w.heap.size (Ra #[Ri _,I J n,I J nx,Z ra recs.length rc,Z va bj.length vc] 25 (0,0))]) (fun i _=>12 - (intOf i).toNat);case atStart=>exact⟨0,⟨_,Y,X0,[],[]⟩,[],N,N,0,0,ej,rfl,by omega,by omega,M (by rw[<-c.out];exact JZ (by simp) X.1 L),CI (ax _ _) (Lf _ _ _ _) (fun _ f=>f.elim)⟩
  case round=>
   obtain⟨k,b,es,sa,ta,sc,tc,G,rfl,bT,cc,a,_⟩:=hrel;have k0:(0:Int)<=(k:Int):=(by omega);have b':b.recs.length<=k:=a.out.len;have a6:=M (JB (W:=wr) (r:=qn G es b _ _));by_cases hc:k<recs.length/\k<12
   case neg=>
    have ca:¬((k:Int)<(recs.length:Int)/\(k:Int)<12):=(by omega);by_cases P:b.recs.length=0
    case pos=>
     have bl:((b.recs.length:Int)==0)=true:=(by rw[P];rfl);have aX:=M P;clear P
     go_wp2_with(first
      |((with_reducible refine A5 (.build 53 #[(0,_),(4,_),(2,_)]) A ?_);refine gV _ _ A A (aL CA (Z N 0 0) (Z N 0 0)).toArray (fun _=>by kernel_rfl) ?_)
      |(go_at_call 31;refine Calls.mono (FJ b es a.out.fine (by omega) sa sc ta tc G CA xA.some (Z N 0 0) (Z N 0 0) ej 1 _ (OI 0 A) (Na (vY A A Kp _))) ?_;rintro e W5⟨b5,l,bF,bH,Q,rfl,h5,f5⟩;obtain⟨u,B,E,H,rfl,rfl⟩:=so h5.hold;have _:=MG b5 h5 (fun k hk=>(f5 k hk).imp (fun h=>h.elim id fun f=>f.elim) id);have a1:=M (JB (W:=W5) (r:=qn Q l _ _ _));unfold x8))
     all_goals(try simp only[Exit.inBlock,Exit.then]);have d:=qS (k:=0) ⟨a.out.fine,a.out.kind,a.out.n,a.out.next,Nat.le_of_eq aX.out,a.out.Q_,fun h=>absurd h (by decide)⟩ xA L.1 (m:=1) (fun _=>⟨by omega,X.1⟩);exact Nc A A A (by kernel_rfl) (by kernel_rfl) ⟨cW,mM b CA 1,l,_,_,Q,kd,Y,X0,rfl,OI 0 A,a1.out,⟨d.fine,d.kind,d.n,d.next,bc d.len (by omega),d.Q_,fun _=>d.pos (by omega)⟩,c.out.symm,X.1,X.2,L.1,L.2⟩
    case neg=>have bl:((b.recs.length:Int)==0)=false:=Rm.2 (by omega);go_wp2_with{};all_goals(try simp only[Exit.inBlock,Exit.then]);exact Nc A A A (by kernel_rfl) (by kernel_rfl) ⟨cW,b,es,_,_,G,kd,Y,X0,rfl,OI 0 A,a6.out,⟨a.out.fine,a.out.kind,a.out.n,a.out.next,bc a.out.len (by omega),a.out.Q_,fun _ e=>P (by rw[e];rfl)⟩,c.out.symm,X.1,X.2,L.1,L.2⟩
   case pos=>
    obtain⟨bs,b8⟩:=hc;have i2:(k:Int)<(recs.length:Int):=(by omega);have i3:(k:Int)<12:=(by omega);obtain⟨q,hq⟩:∃q,recs[k]? =O q:=⟨_,an bs⟩;obtain⟨qb,qo,qe,ea,⟨qv,qf,rfl,R,S,aC,aB,ao,aE,al,az⟩, -,aF⟩:=cl.at (HR.out wr cW) hq;cases ea;obtain⟨aT,aU,rfl⟩:=cl.slice R;obtain⟨aO,aR,rfl⟩:=cl.slice S;have bb:=M (Hu q aT aO aU aR _ R S aC aB ao aE al az);have a':=M aF;clear R S aC aB ao aE al az aF hq;by_cases bz:bj.length=0;case' pos=>have bA:¬(0:Int)<(bj.length:Int):=(by omega);clear bz
    case' neg=>have bA:(0:Int)<(bj.length:Int):=(by omega);obtain⟨j,hj⟩:∃j:Nat,k % bj.length=j:=⟨_,rfl⟩;have bm:j<bj.length:=hj▸jT _ (by omega);have cb:((k:Int).tmod (bj.length:Int))=(j:Int):=(by rw[<-hj];exact(Int.ofNat_tmod k bj.length).symm);obtain⟨z,hz⟩:∃z,bj[j]? =O z:=⟨_,an bm⟩;obtain⟨vb,vo,ve,eb,⟨rfl,aG⟩, -,V⟩:=cl.at (HV.out _ (ax _ _)) hz;cases eb;have HZ:∀W,ay w.heap.size w W ->W.cell? ⟨vb,vo+j,N⟩=O (I J z):=fun W hW=>(hW.cell (p:=⟨vb,vo+j,N⟩) (fD (o:=vo+j) (by simpa using V 0 _ A))).trans (by simpa using V 0 _ A);have bf:=M aG;clear V aG hz hj;have j2:(j:Int)<(bj.length:Int):=(by omega);have ak:0<min b.n 4/\min b.n 4<=4/\min b.n 4<=Y:=(by have:=a.out.n;omega);have ch:=cP z (min b.n 4) ak.1
    all_goals
     go_wp2_with(first
      |((with_reducible refine A5 (.load 87 _) A ?_);refine kE 87 _ A A qb (qo+k*15) A (tG q (Z aT q.bG.length aU) (Z aO q.p7.length aR)) (.struct (Tryz.prog.fieldsOf 87)) (fun j y hj=>a'.out j y hj) Pp A (by kernel_rfl) ?_)
      |(go_at_call 37;refine bb.out.mono ?_;rintro e W2⟨b2,r,v,Gr,rfl,hv,ad,t⟩;obtain⟨b4,rfl,ct,cx,cv,cn,cr,cq,rfl, -⟩:=hv.hold;have s:=M t;have _:=CI b2 (Na hv) ad;clear b2 hv ad t)
      |(with_reducible refine I4 (T:=53) (by with_reducible rfl) A oB fun W3 _ z3=> ?_)
      |((with_reducible refine A5 (.store 53 _ _) A ?_);refine Kz A A A A (ql _ _ _) (by rfl) As fun W4 _ z4=> ?_)
      |(with_reducible refine uX (T:=53) (by with_reducible rfl) A A ef (ql _ _ _) ?_)
      |((with_reducible refine atR ?_);refine kZ (.R 0 (.R 1 (.R 2 (.R 3 (.R 4 (.R 5 (.R 6 (.R 7 (.R 8 (.R 9 (.R 10 (.R 11 (.call 12 (.R 13 (.R 14 .done))))))))))))))) (by kernel_rfl) (by kernel_rfl) (fun _ _ _ _ _ h=>h) ?_)
      |((with_reducible refine IF ?_);first
        |(refine p' A A (fun W _=>by go_simp;try with_reducible rfl) ?_;go_simp)
        |(refine aH A (fun K hK=> ?_);go_simp)
        |refine aM ?_)
      |(go_at_call 26;(with_reducible refine fh (iT z (min b.n 4) bf.out ak.1 (by omega) _) fun W4 _ _=> ?_);refine hK _ _ fH ?_;clear hK K;go_simp)
      |(go_at_call 31;refine Calls.mono (FJ b es a.out.fine (by omega) sa sc ta tc G r s.out.some _ _ Gr _ _ (OI 2 A) (OI 1 A)) ?_;rintro e W5⟨b5,l,bF,bH,Q,rfl,h5,f5⟩;obtain⟨u,B,E,H,rfl,rfl⟩:=so h5.hold;have _:=MH b5 h5 (fun k hk=>(f5 k hk).imp Or.symm id);unfold x8))
     all_goals
      go_roundw
      case rel=>first
       |exact⟨k+1,mM b r 0,l,u,E,B,H,Q,by go_num,by omega,by omega,M (qS a.out s.out L.1 (by intro h2;have e2:=c.out;simp at e2;first|omega|(unfold wrap64;omega)|(rw[bo _ (by omega)];omega))),inferInstance⟩
       |exact⟨k+1,mM b r 1,l,u,E,B,H,Q,by go_num,by omega,by omega,M (qS a.out s.out L.1 (by intro h2;have e2:=c.out;simp at e2;first|omega|(unfold wrap64;omega)|(rw[bo _ (by omega)];omega))),inferInstance⟩
       |exact⟨k+1,mM b r (wrap64 (1+cH z (min b.n 4))),l,u,E,B,H,Q,by go_num,by omega,by omega,M (qS a.out s.out L.1 (by intro h2;have e2:=c.out;simp at e2;first|omega|(unfold wrap64;omega)|(rw[bo _ (by omega)];omega))),inferInstance⟩
       |exact⟨k+1,mM b r (1+cH z (min b.n 4)),l,u,E,B,H,Q,by go_num,by omega,by omega,M (qS a.out s.out L.1 (by intro h2;have e2:=c.out;simp at e2;first|omega|(unfold wrap64;omega)|(rw[bo _ (by omega)];omega))),inferInstance⟩
      case measure=>simp[intOf];omega
section
theorem NS(w:ai):zv oQ w:=D8 (fun h=>absurd h (by decide)) (fun h=>absurd h (by decide)) fun _=>⟨by decide,by decide⟩
class IH(L:List cM)(sr:ar)(b:outParam Bt)(sv:outParam ar):Prop where
 mem:∃G es,qn G es b sr sv∈L
instance QE{L:List cM}{G:Nat ->Prop}{es:List (List ar)}{b:Bt}{sr sv:ar}:IH (qn G es b sr sv::L) sr b sv:=⟨G,es,df⟩
instance(priority:=low)QF{L:List cM}{r:cM}{b:Bt}{sr sv:ar}[h:IH L sr b sv]:IH (r::L) sr b sv:=by obtain⟨G,es,h⟩:=h.mem;exact⟨G,es,cE _ h⟩
section
variable {W w0:ai} {F:Nat ->Prop} {L:List cM} {b:Bt} {sr sv:ar}
theorem Fj [h:f_ W w0 F L][k:IH L sr b sv]:jz W sr b.recs:=by obtain⟨G,es,k⟩:=k.mem;exact BZ (h.st.mem _ k).1.hold
theorem Fi [h:f_ W w0 F L][k:IH L sr b sv]:lJ W sv b.bj:=by obtain⟨G,es,k⟩:=k.mem;exact(h.st.mem _ k).1.hold.2.2.2
structure Made(cp:Bool)(b:Bt):Prop where
 ok:Ga 12 (if cp then 2 else 1) b.n b.next b
 n:1<=b.n/\b.n<=300
 next:13<=b.next/\b.next<=600
theorem Made.kind{cp:Bool}{b:Bt}(h:Made cp b):b.kind=if cp then 2 else 1:=h.ok.kind
theorem Made.some{cp:Bool}{b:Bt}(h:Made cp b):b.recs≠[]:=h.ok.pos (by decide)
theorem Made.right{cp:Bool}{b:Bt}(h:Made cp b):dU b=true:=h.ok.fine.right (by have:=h.ok.len;omega) (eO.2 h.some)
theorem Made.enc{cp:Bool}{b:Bt}(h:Made cp b):mG b=.some (aT b):=uT h.right (by have:=h.ok.len;omega) h.ok.small
theorem Made.len{cp:Bool}{b:Bt}(h:Made cp b):(aT b).length<=10000:=(sx h.enc).2.2
theorem Made.pos{cp:Bool}{b:Bt}(h:Made cp b):0<(aT b).length:=by
 have h1:=h.kind;have e1:(az 1).length=1:=by kernel_rfl
 have e2:(az 2).length=1:=by kernel_rfl
 simp only[aT,mb,aw];split at h1<;>rw[h1]<;>omega
theorem Made.i64{cp:Bool}{b:Bt}(h:Made cp b):ee b.kind/\ee b.n/\ee b.next/\ee (b.recs.length:Int):=by have h1:=h.kind;have h2:=h.n;have h3:=h.next;have h4:=h.ok.len;unfold ee;split at h1<;>omega
theorem NK{cp:Bool}{a va:Option Addr}{rc vc:Nat}{B:Nat}{aE aF:Addr}(hm:Made cp b)(he:Env aE aF B W)(hR:jz W (Z a b.recs.length rc) b.recs)(c:lJ W (Z va b.bj.length vc) b.bj):aJ ah 14 #[Rj #[I J b.kind,I J b.n,I J b.next,Z a b.recs.length rc,Z va b.bj.length vc]] W fun e w'=>e=Rh (.tuple #[.string (bs (aT b)),I J 0])/\ay W.heap.size W w':=by have:=pz b a va rc vc W he hR c hm.i64.2.1;rw[hm.enc]at this;exact this
theorem JQ(x:Rb)(d va:Option Addr)(rc vc:Nat)(hr:rQ W (Z d x.recs.length rc) x.recs)(hv:xX W (Z va x.bj.length vc) x.bj)(hn:ee x.n)(c:ee x.next):aJ ah 12 #[Rj #[Ri x.copy,I J x.n,I J x.next,Z d x.recs.length rc,Z va x.bj.length vc]] W fun e w'=>ay W.heap.size W w'/\∃b es sa sc ta tc G,e=Rh (Rj #[I J b.kind,I J b.n,I J b.next,Z sa b.recs.length sc,Z ta b.bj.length tc])/\(qn G es b (Z sa b.recs.length sc) (Z ta b.bj.length tc)).at w'/\(∀k,G k ->W.heap.size<=k)/\Made x.copy b:=by refine(A8 x d va rc vc W hr hv hn c).mono ?_;rintro e w'⟨h1,b,es,sr,sv,G,kd,n,y,rfl,hB,f,a,rfl,g,h,i,j⟩;obtain⟨sa,sc,ta,tc,rfl,rfl⟩:=so hB.hold;obtain rfl:=a.n;obtain rfl:=a.next;exact⟨h1,b,es,sa,sc,ta,tc,G,rfl,hB,f,a,⟨g,h⟩,⟨i,j⟩⟩
end
theorem ng(l:List UInt8):(bs l).data.toList=l:=by simp[bs]
theorem LC{b:Bt}(h1:ee b.kind)(h2:ee b.n)(h3:ee b.next)(h4:ee (b.recs.length:Int)):∃c d f g:Nat,rn (bs (aT b)) 0=.some (b.kind,(c:Int))/\rn (bs (aT b)) c=.some (b.n,(d:Int))/\rn (bs (aT b)) d=.some (b.next,(f:Int))/\rn (bs (aT b)) f=.some ((b.recs.length:Int),(g:Int))/\g<=(aT b).length:=by
 have e:aT b=az b.kind++(az b.n++(az b.next++(az b.recs.length++iy b.kind b.recs b.bj))):=by simp[aT,mb]
 have r1:=uF (s:=bs (aT b)) (a:=[]) (b:=az b.n++(az b.next++(az b.recs.length++iy b.kind b.recs b.bj))) h1 (by rw[ng,e];simp);have r2:=uF (s:=bs (aT b)) (a:=az b.kind) (b:=az b.next++(az b.recs.length++iy b.kind b.recs b.bj)) h2 (by rw[ng,e];simp);have h:=uF (s:=bs (aT b)) (a:=az b.kind++az b.n) (b:=az b.recs.length++iy b.kind b.recs b.bj) h3 (by rw[ng,e];simp);have i:=uF (s:=bs (aT b)) (a:=az b.kind++az b.n++az b.next) (b:=iy b.kind b.recs b.bj) h4 (by rw[ng,e];simp);rw[aw]at h;rw[aw,aw]at i;refine⟨_,_,_,_,r1, ?_,h,i, ?_⟩;{rw[a7,bC];exact r2};{rw[e];simp only[aw];omega}
end
end Go.Proofs.YtbcbefpninlfiaaGreatDoor
