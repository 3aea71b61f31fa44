import Derived.Test.YtbcbefpninlfiaaGreatDoorC18
import Derived.Test.YtbcbefpninlfiaaGreatDoorC17
set_option maxHeartbeats 64000000
set_option maxRecDepth 100000
set_option linter.all false
open Go renaming Calls->aJ,TypeId->bR,Value->ar,World->ai
open Go.Value renaming agg->Rj,int->I,slice->Z,string->U
open Go.IntKind renaming i64->J
open Option renaming none->N,some->O
open Go.Instr renaming findNow->eU,lookup->eI,mapUpdate->cf
open Go.Proofs.Tryz renaming prog->ah,underlying106->gh,underlying3->eJ
open Go.MapKept renaming run_checkKey->ku,run_findKey->gO,run_getObj_map->fL
namespace Go.Proofs.YtbcbefpninlfiaaGreatDoor
open Go.Proofs.Tryz
open Go.RowKit Mor
def aL(r:Rc)(vs fs:ar):List ar:=[I J r.kind,I J r.obj.id,I J r.obj.cls,I J r.obj.bY,vs,I J r.id,I J r.bY,U r.name,U r.cls.name,fs,I J r.bF.k,U r.bF.field,U r.bF.name,U r.bF.more,I J r.bF.tk,I J r.bF.fP,U r.bF.expr,U r.bF.other]
def Gf(r:Rc):Prop:=r.name.size<=9223372036854775807/\r.cls.name.size<=9223372036854775807/\AR r.bF
def Gd(w:ai)(e:List ar)(r:Rc):Prop:=∃va c vc a fn b,e=aL r (Z va c vc) (Z a fn b)/\qg w (Z va c vc) r.obj.bG/\je w (Z a fn b) r.cls.fs/\Gf r
theorem Gd.below{w w':ai}{e:List ar}{r:Rc}(h:Gd w e r)(hb:Below w.heap.size w w') :Gd w' e r:=by obtain⟨va,c,vc,a,fn,b,h1,h2,h3,h4⟩:=h;exact⟨va,c,vc,a,fn,b,h1,h2.below hb,h3.below hb,h4⟩
def rM(w:ai)(v:ar)(r:Rc):Prop:=∃e,v=Rj e.toArray/\Gd w e r
theorem rM.below{w w':ai}{v:ar}{r:Rc}(h:rM w v r)(hb:Below w.heap.size w w') :rM w' v r:=by obtain⟨e,h1,h2⟩:=h;exact⟨e,h1,h2.below hb⟩
theorem qH(t a et:bR)(b:Tryz.prog.underlying t=O (.map a et))(hk:Tryz.prog.underlying a=O (.int .i64))(W:ai)(es:Array MapEntry)(c:Nat)(key:Int)(v:ar)(hf:eU (.int .i64) (I J key) es.toList 0=O N):(cf t (.map (O W.heap.size)) (I J key) v).run ah (W.alloc (.map es c))=.ok () (W.alloc (.map (es.push ⟨I J key,v,c⟩) (c+1))):=by have hb:(W.alloc (.map es c)).heap[W.heap.size]? =O (.map es c):=dW W _;have hc:(Instr.checkKey false 10000 a (I J key)).run ah (W.alloc (.map es c))=.ok () (W.alloc (.map es c)):=ku (k:=I J key) hk (by simp[MapKept.IsKey]) false 9999;simp only[cf,cG,run_underlying b,de,fL hb,hc,gO hk hf,MapKept.run_setObj_map _ hb];refine congrArg (Result.ok ()) ?_;have e:(W.heap.push (.map es c)).setIfInBounds W.heap.size (.map (es.push ⟨I J key,v,c⟩) (c+1))=W.heap.push (.map (es.push ⟨I J key,v,c⟩) (c+1)):=by{apply Array.ext_getElem?;intro i;simp only[Array.getElem?_setIfInBounds,Array.getElem?_push];by_cases h:W.heap.size=i;{subst h;simp};{rw[Rq h,Rq (fun e=>h e.symm),Rq (fun e=>h e.symm)]}};show({heap:=_,tape:=_,drawn:=_,os:=_,output:=_}:ai)={heap:=_,tape:=_,drawn:=_,os:=_,output:=_};simp only[World.mk.injEq];exact⟨e,rfl,rfl,rfl,rfl⟩
def Ec:ar:=Rj #[I J 1, .func (.func 85) #[] #[], .func (.func 86) #[] #[], .func (.func 87) #[] #[], .func (.func 88) #[] #[]]
def Ed:ar:=Rj #[I J 2, .func (.func 89) #[] #[], .func (.func 90) #[] #[], .func (.func 91) #[] #[], .func (.func 92) #[] #[]]
def Ea:ar:=Rj #[I J 3, .func (.func 93) #[] #[], .func (.func 94) #[] #[], .func (.func 95) #[] #[], .func (.func 96) #[] #[]]
def Eb:ar:=Rj #[I J 4, .func (.func 97) #[] #[], .func (.func 98) #[] #[], .func (.func 99) #[] #[], .func (.func 100) #[] #[]]
def Ee:ar:=Rj #[I J 5, .func (.func 97) #[] #[], .func (.func 101) #[] #[], .func (.func 102) #[] #[], .func (.func 103) #[] #[]]
def lT:Array MapEntry:= #[⟨I J 3,Ec,0⟩,⟨I J 4,Ed,1⟩,⟨I J 1,Ea,2⟩,⟨I J 2,Eb,3⟩,⟨I J 5,Ee,4⟩]
def iQ(n:Int):ar:=if n=3 then Ec else if n=4 then Ed else if n=1 then Ea else if n=2 then Eb else if n=5 then Ee else Rj #[I J 0, .nilFunc, .nilFunc, .nilFunc, .nilFunc]
theorem ru(w:ai):aJ ah 52 #[] w fun e w'=>e=.returned (.map (O w.heap.size))/\w.alloc (.map lT 5)=w':=by have a:= @run_makeMap ah;have b:(cf 106 (.map (O w.heap.size)) (I J 3) (Rj #[I J 1, .func (.func 85) #[] #[], .func (.func 86) #[] #[], .func (.func 87) #[] #[], .func (.func 88) #[] #[]])).run ah (w.alloc (.map #[] 0))=.ok () (w.alloc (.map #[⟨I J 3,Rj #[I J 1, .func (.func 85) #[] #[], .func (.func 86) #[] #[], .func (.func 87) #[] #[], .func (.func 88) #[] #[]],0⟩] 1)):=qH _ _ _ gh eJ w #[] 0 _ _ (by rfl);have c:(cf 106 (.map (O w.heap.size)) (I J 4) (Rj #[I J 2, .func (.func 89) #[] #[], .func (.func 90) #[] #[], .func (.func 91) #[] #[], .func (.func 92) #[] #[]])).run ah (w.alloc (.map #[⟨I J 3,Rj #[I J 1, .func (.func 85) #[] #[], .func (.func 86) #[] #[], .func (.func 87) #[] #[], .func (.func 88) #[] #[]],0⟩] 1))=.ok () (w.alloc (.map #[⟨I J 3,Rj #[I J 1, .func (.func 85) #[] #[], .func (.func 86) #[] #[], .func (.func 87) #[] #[], .func (.func 88) #[] #[]],0⟩,⟨I J 4,Rj #[I J 2, .func (.func 89) #[] #[], .func (.func 90) #[] #[], .func (.func 91) #[] #[], .func (.func 92) #[] #[]],1⟩] 2)):=qH _ _ _ gh eJ w #[⟨I J 3, .agg #[I J 1, .func (.func 85) #[] #[], .func (.func 86) #[] #[], .func (.func 87) #[] #[], .func (.func 88) #[] #[]],0⟩] 1 _ _ (by rfl);have d:(cf 106 (.map (O w.heap.size)) (I J 1) (Rj #[I J 3, .func (.func 93) #[] #[], .func (.func 94) #[] #[], .func (.func 95) #[] #[], .func (.func 96) #[] #[]])).run ah (w.alloc (.map #[⟨I J 3,Rj #[I J 1, .func (.func 85) #[] #[], .func (.func 86) #[] #[], .func (.func 87) #[] #[], .func (.func 88) #[] #[]],0⟩,⟨I J 4,Rj #[I J 2, .func (.func 89) #[] #[], .func (.func 90) #[] #[], .func (.func 91) #[] #[], .func (.func 92) #[] #[]],1⟩] 2))=.ok () (w.alloc (.map #[⟨I J 3,Rj #[I J 1, .func (.func 85) #[] #[], .func (.func 86) #[] #[], .func (.func 87) #[] #[], .func (.func 88) #[] #[]],0⟩,⟨I J 4,Rj #[I J 2, .func (.func 89) #[] #[], .func (.func 90) #[] #[], .func (.func 91) #[] #[], .func (.func 92) #[] #[]],1⟩,⟨I J 1,Rj #[I J 3, .func (.func 93) #[] #[], .func (.func 94) #[] #[], .func (.func 95) #[] #[], .func (.func 96) #[] #[]],2⟩] 3)):=qH _ _ _ gh eJ w #[⟨I J 3, .agg #[I J 1, .func (.func 85) #[] #[], .func (.func 86) #[] #[], .func (.func 87) #[] #[], .func (.func 88) #[] #[]],0⟩,⟨I J 4,Rj #[I J 2, .func (.func 89) #[] #[], .func (.func 90) #[] #[], .func (.func 91) #[] #[], .func (.func 92) #[] #[]],1⟩] 2 _ _ (by rfl);have f:(cf 106 (.map (O w.heap.size)) (I J 2) (Rj #[I J 4, .func (.func 97) #[] #[], .func (.func 98) #[] #[], .func (.func 99) #[] #[], .func (.func 100) #[] #[]])).run ah (w.alloc (.map #[⟨I J 3,Rj #[I J 1, .func (.func 85) #[] #[], .func (.func 86) #[] #[], .func (.func 87) #[] #[], .func (.func 88) #[] #[]],0⟩,⟨I J 4,Rj #[I J 2, .func (.func 89) #[] #[], .func (.func 90) #[] #[], .func (.func 91) #[] #[], .func (.func 92) #[] #[]],1⟩,⟨I J 1,Rj #[I J 3, .func (.func 93) #[] #[], .func (.func 94) #[] #[], .func (.func 95) #[] #[], .func (.func 96) #[] #[]],2⟩] 3))=.ok () (w.alloc (.map #[⟨I J 3,Rj #[I J 1, .func (.func 85) #[] #[], .func (.func 86) #[] #[], .func (.func 87) #[] #[], .func (.func 88) #[] #[]],0⟩,⟨I J 4,Rj #[I J 2, .func (.func 89) #[] #[], .func (.func 90) #[] #[], .func (.func 91) #[] #[], .func (.func 92) #[] #[]],1⟩,⟨I J 1,Rj #[I J 3, .func (.func 93) #[] #[], .func (.func 94) #[] #[], .func (.func 95) #[] #[], .func (.func 96) #[] #[]],2⟩,⟨I J 2,Rj #[I J 4, .func (.func 97) #[] #[], .func (.func 98) #[] #[], .func (.func 99) #[] #[], .func (.func 100) #[] #[]],3⟩] 4)):=qH _ _ _ gh eJ w #[⟨I J 3, .agg #[I J 1, .func (.func 85) #[] #[], .func (.func 86) #[] #[], .func (.func 87) #[] #[], .func (.func 88) #[] #[]],0⟩,⟨I J 4,Rj #[I J 2, .func (.func 89) #[] #[], .func (.func 90) #[] #[], .func (.func 91) #[] #[], .func (.func 92) #[] #[]],1⟩,⟨I J 1,Rj #[I J 3, .func (.func 93) #[] #[], .func (.func 94) #[] #[], .func (.func 95) #[] #[], .func (.func 96) #[] #[]],2⟩] 3 _ _ (by rfl);have g:(cf 106 (.map (O w.heap.size)) (I J 5) (Rj #[I J 5, .func (.func 97) #[] #[], .func (.func 101) #[] #[], .func (.func 102) #[] #[], .func (.func 103) #[] #[]])).run ah (w.alloc (.map #[⟨I J 3,Rj #[I J 1, .func (.func 85) #[] #[], .func (.func 86) #[] #[], .func (.func 87) #[] #[], .func (.func 88) #[] #[]],0⟩,⟨I J 4,Rj #[I J 2, .func (.func 89) #[] #[], .func (.func 90) #[] #[], .func (.func 91) #[] #[], .func (.func 92) #[] #[]],1⟩,⟨I J 1,Rj #[I J 3, .func (.func 93) #[] #[], .func (.func 94) #[] #[], .func (.func 95) #[] #[], .func (.func 96) #[] #[]],2⟩,⟨I J 2,Rj #[I J 4, .func (.func 97) #[] #[], .func (.func 98) #[] #[], .func (.func 99) #[] #[], .func (.func 100) #[] #[]],3⟩] 4))=.ok () (w.alloc (.map #[⟨I J 3,Rj #[I J 1, .func (.func 85) #[] #[], .func (.func 86) #[] #[], .func (.func 87) #[] #[], .func (.func 88) #[] #[]],0⟩,⟨I J 4,Rj #[I J 2, .func (.func 89) #[] #[], .func (.func 90) #[] #[], .func (.func 91) #[] #[], .func (.func 92) #[] #[]],1⟩,⟨I J 1,Rj #[I J 3, .func (.func 93) #[] #[], .func (.func 94) #[] #[], .func (.func 95) #[] #[], .func (.func 96) #[] #[]],2⟩,⟨I J 2,Rj #[I J 4, .func (.func 97) #[] #[], .func (.func 98) #[] #[], .func (.func 99) #[] #[], .func (.func 100) #[] #[]],3⟩,⟨I J 5,Rj #[I J 5, .func (.func 97) #[] #[], .func (.func 101) #[] #[], .func (.func 102) #[] #[], .func (.func 103) #[] #[]],4⟩] 5)):=qH _ _ _ gh eJ w #[⟨I J 3, .agg #[I J 1, .func (.func 85) #[] #[], .func (.func 86) #[] #[], .func (.func 87) #[] #[], .func (.func 88) #[] #[]],0⟩,⟨I J 4,Rj #[I J 2, .func (.func 89) #[] #[], .func (.func 90) #[] #[], .func (.func 91) #[] #[], .func (.func 92) #[] #[]],1⟩,⟨I J 1,Rj #[I J 3, .func (.func 93) #[] #[], .func (.func 94) #[] #[], .func (.func 95) #[] #[], .func (.func 96) #[] #[]],2⟩,⟨I J 2,Rj #[I J 4, .func (.func 97) #[] #[], .func (.func 98) #[] #[], .func (.func 99) #[] #[], .func (.func 100) #[] #[]],3⟩] 4 _ _ (by rfl);go_in;go_wp2;go_ret;exact⟨rfl,rfl⟩
theorem nN(q k:Int)(v:ar)(b:Nat)(es:List MapEntry)(i:Nat):eU (.int .i64) (I J q) (⟨I J k,v,b⟩::es) i=if q=k then O (O (i,v))else eU (.int .i64) (I J q) es (i+1):=by
 have e:Instr.sameNow (.int .i64) (I J q) (I J k)=O (q==k):=rfl
 show(match Instr.sameNow (.int .i64) (I J q) (I J k)with
  |some true=>O (O (i,v))
  |some false=>eU (.int .i64) (I J q) es (i+1)
  |none=>N)=_
 rw[e];by_cases h:q=k;{rw[Rs h,show(q==k)=true by simpa using h]};{rw[Rq h,show(q==k)=false by simpa using h]}
theorem Ef(q:Int):∃r,eU (.int .i64) (I J q) lT.toList 0=O r/\(match r with|some (_,v)=>iQ q=v/\(1<=q/\q<=5)|none=>iQ q=Rj #[I J 0, .nilFunc, .nilFunc, .nilFunc, .nilFunc]/\¬(1<=q/\q<=5)):=by show∃r,eU (.int .i64) (I J q) [⟨I J 3,Ec,0⟩,⟨I J 4,Ed,1⟩,⟨I J 1,Ea,2⟩,⟨I J 2,Eb,3⟩,⟨I J 5,Ee,4⟩] 0=O r/\_;rw[nN,nN,nN,nN,nN];unfold iQ;by_cases h3:q=3;{rw[Rs h3];exact⟨_,rfl,by rw[Rs h3],by omega⟩};by_cases h4:q=4;{rw[Rq h3,Rs h4];exact⟨_,rfl,by rw[Rq h3,Rs h4],by omega⟩};by_cases h1:q=1;{rw[Rq h3,Rq h4,Rs h1];exact⟨_,rfl,by rw[Rq h3,Rq h4,Rs h1],by omega⟩};by_cases h2:q=2;{rw[Rq h3,Rq h4,Rq h1,Rs h2];exact⟨_,rfl,by rw[Rq h3,Rq h4,Rq h1,Rs h2],by omega⟩};by_cases a:q=5;{rw[Rq h3,Rq h4,Rq h1,Rq h2,Rs a];exact⟨_,rfl,by rw[Rq h3,Rq h4,Rq h1,Rq h2,Rs a],by omega⟩};rw[Rq h3,Rq h4,Rq h1,Rq h2,Rq a];exact⟨N,rfl,by rw[Rq h3,Rq h4,Rq h1,Rq h2,Rq a],by omega⟩
theorem o7(w:ai)(r:Nat)(q:Int)(h:w.heap[r]? =O (.map lT 5)):(eI 106 (.map (O r)) (I J q) false).run ah w=.ok (iQ q) w/\(eI 106 (.map (O r)) (I J q) true).run ah w=.ok (.tuple #[iQ q, .bool (decide (1<=q/\q<=5))]) w:=by
 obtain⟨x,hf,hx⟩:=Ef q;have hk:=eJ;have hc:∀b,(Instr.checkKey b 10000 3 (I J q)).run ah w=.ok () w:=fun b=>ku (k:=I J q) hk (by simp[MapKept.IsKey]) b 9999;cases x with
 |none=>simp only at hx;rw[Rw hx.2];constructor<;>simp[eI,run_underlying gh,fL h,hc,gO hk hf,Tryz.zeroValue112,hx.1,Result.andThen]
 |some y=>obtain⟨i,v⟩:=y;simp only at hx;rw[Rv hx.2,hx.1];constructor<;>simp[eI,run_underlying gh,fL h,hc,gO hk hf,Result.andThen]
theorem xm(l:List Int)(v:ar)(w:ai)(h:lJ w v l)(hi:∀x∈l,ee x)(D:l.length<=1000):aJ ah 41 #[v] w fun e w'=>e=.returned (U ⟨(l.flatMap az).toArray⟩)/\Below w.heap.size w w':=by
 have y:=M h;have HI:=M hi;have d:=M (zJ w);have g:=M ((ax w.heap.size w).alloc (av _) (.cells #[.pointer N,Z N 0 0] 93));obtain⟨a,c,rfl⟩:=h.slice;clear h hi;go_in;go_wp2_with{};obtain⟨G,j⟩:∃X,w.alloc (.cells #[.pointer N,Z N 0 0] 93)=X:=⟨_,rfl⟩;rw[j]at d g⊢;clear j;go_loopw [8] (fun i wr=>∃k:Nat,k<=l.length/\i=I J k/\Hid (rP w.heap.size w.heap.size ((l.take k).flatMap az) wr)/\Below w.heap.size w wr) (fun i _=>l.length - (intOf i).toNat);case atStart=>exact⟨0,by omega,rfl,by simpa using d,g.out⟩
 case round=>
  obtain⟨k,hk,rfl,n,hB⟩:=hrel;have f:=M hB;have s:=hB.size;have hlen:((l.take k).flatMap az).length<=10000:=by{have h1:=gU az 10 (l.take k) (fun x _=>aN x);have h2:(l.take k).length<=1000:=(by rw[bL];omega);omega};by_cases q:k<l.length
  · obtain⟨x,hx⟩:∃x,l[k]? =O x:=⟨_,an q⟩;have u:=M (oT az l k x hx);have m:=HI.out x (aP hx);obtain⟨C,o', z,c0⟩:=(y.out.below hB).at hx;cases z;have E:(0:Int)<=(k:Int):=(by omega);have F:(k:Int)<(l.length:Int):=(by omega);clear hx hB;go_wp2_with{};refine(fy x m.1 m.2 _).mono ?_;rintro e B⟨rfl,b⟩;have r:=M (mg n.out b);have B2:=M (f.out.trans (b.mono s));have z2:=b.size;clear b n;go_wp2_with{};refine(o_ _ _ _ _ _ r.out (by rw[eu];have:=aN x;omega) (by omega)).mono ?_;rintro e w3⟨rfl,h3,o⟩;have t:=M (show rP w.heap.size w.heap.size ((l.take (k+1)).flatMap az) w3 by rw[u.out];rw[fX]at h3;exact h3);have B3:=M (B2.out.trans o);have z3:=o.size;clear h3 o r;go_wp2_with{};go_roundw;case rel=>exact⟨k+1,by omega,by go_num,t,B3.out⟩
    case measure=>simp[intOf];omega
  {have p:k=l.length:=(by omega);subst p;rw[fm]at n;clear hB;go_wp2_with{};refine(xH _ _ _ _ n.out s).mono ?_;rintro e B⟨rfl,b⟩;have B2:=M (f.out.trans b);clear b;go_wp2_with{};go_ret;exact⟨rfl,B2.out⟩}
section
section
variable {r:Rc} {v f:ar}
instance:oe (aL r v f) 0 (I J r.kind):=⟨rfl⟩
instance:oe (aL r v f) 1 (I J r.obj.id):=⟨rfl⟩
instance:oe (aL r v f) 2 (I J r.obj.cls):=⟨rfl⟩
instance:oe (aL r v f) 3 (I J r.obj.bY):=⟨rfl⟩
instance:oe (aL r v f) 4 v:=⟨rfl⟩
instance:oe (aL r v f) 5 (I J r.id):=⟨rfl⟩
instance:oe (aL r v f) 6 (I J r.bY):=⟨rfl⟩
instance:oe (aL r v f) 7 (U r.name):=⟨rfl⟩
instance:oe (aL r v f) 8 (U r.cls.name):=⟨rfl⟩
instance:oe (aL r v f) 9 f:=⟨rfl⟩
instance:oe (aL r v f) 10 (I J r.bF.k):=⟨rfl⟩
instance:oe (aL r v f) 11 (U r.bF.field):=⟨rfl⟩
instance:oe (aL r v f) 12 (U r.bF.name):=⟨rfl⟩
instance:oe (aL r v f) 13 (U r.bF.more):=⟨rfl⟩
instance:oe (aL r v f) 14 (I J r.bF.tk):=⟨rfl⟩
instance:oe (aL r v f) 15 (I J r.bF.fP):=⟨rfl⟩
instance:oe (aL r v f) 16 (U r.bF.expr):=⟨rfl⟩
instance:oe (aL r v f) 17 (U r.bF.other):=⟨rfl⟩
end
theorem ql(r:Rc)(v f:ar):(Tryz.prog.info? 53).map (·.size)=O (aL r v f).toArray.size:=e_
def zy(w:ai)(r:Rc)(v f:ar):Prop:=qg w v r.obj.bG/\je w f r.cls.fs/\Gf r
theorem zy.below{w w':ai}{r:Rc}{v f:ar}(h:zy w r v f)(hb:Below w.heap.size w w') :zy w' r v f:=⟨h.1.below hb,h.2.1.below hb,h.2.2⟩
@[go_sem]theorem QM{a b:ByteArray}(h:¬a=b):(a.toList==b.toList)=false:=by rw[Lx];simpa using h
def l7(v:ar)(w:ai)(e:Ending)(w':ai):Prop:=e=.returned v/\Below w.heap.size w w'
variable {F:Nat ->Prop} {w0 W:ai} {L:List cM}
theorem j'{f:FuncId}{args:Array ar}{R:Ending ->ai ->Prop}{v:ar}(c:aJ ah f args W (l7 v W))[h:f_ W w0 F L](k:∀w', f_ w' w0 F L ->W.heap.size<=w'.heap.size ->R (.returned v) w') :aJ ah f args W R:=
 c.mono fun _ w'⟨he,hb⟩=>he▸k w' (Di hb) hb.size
theorem FU{g n size:Nat}{cs:Array ar}{T:bR}(h:W.heap[g]? =O (.cells cs T (0,0)))(hs:cs.size=n*size)(hn:n<=maxLen):Sl W size (Z (O ⟨g,0,N⟩) n n) n cs.toList:=
 ⟨_,_,rfl,av _,hn,(fun h=>by cases h),by simpa using hs,fun _=>⟨g,0,rfl,fun j x a=>by rw[bC];unfold World.cell?;simp only[h];simpa using a⟩⟩
theorem NO{g:Nat}{n:Int}{T:bR}[h:f_ W w0 F L][k:qd L g (.cells #[I J n] T (0,0))]:lJ W (Z (O ⟨g,0,N⟩) 1 1) [n]:=FU kR A (by unfold maxLen;omega)
theorem JI{g:Nat}{n m:Int}{T:bR}[h:f_ W w0 F L][k:qd L g (.cells #[I J n,I J m] T (0,0))]:lJ W (Z (O ⟨g,0,N⟩) 2 2) [n,m]:=FU kR A (by unfold maxLen;omega)
def bs(l:List UInt8):ByteArray:=⟨l.toArray⟩
theorem fx(l:List UInt8):(bs l).size=l.length:=by simp[bs,ByteArray.size]
@[go_sem]theorem Nw(a b:List UInt8):bs a++bs b=bs (a++b):=by apply eT;apply Array.ext'; simp[bs]
theorem FC(l:List Int){v:ar}(h:lJ W v l)(hi:∀x∈l,ee x)(a:l.length<=1000):aJ ah 41 #[v] W (l7 (U (bs (l.flatMap az))) W):=xm l v W h hi a
end
end Go.Proofs.YtbcbefpninlfiaaGreatDoor
