import Derived.Test.YtbcbefpninlfiaaGreatDoorC16
import Derived.Test.YtbcbefpninlfiaaGreatDoorC15
set_option maxHeartbeats 64000000
set_option maxRecDepth 100000
set_option linter.all false
open Go renaming Value->ar,World->ai
open Option renaming none->N,some->O
open Go.Value renaming int->I,pointer->Ru,slice->Z,string->U,tuple->Rx
open Go.Obj renaming cells->Ra
open Go.IntKind renaming i64->J
open Go.World renaming alloc->aq,drew->bD,setCell->af
open Or renaming inl->aI,inr->dJ
open List renaming getElem?_eq_none->j8,length->fj,length_eq_zero_iff->gD
namespace Go.Proofs.YtbcbefpninlfiaaGreatDoor
open Go.Proofs.Tryz
open Go.RowKit Mor
theorem Ld(e t:Nat)(w:ai)(hg:w.cell? ⟨2,0,N⟩=O (.iface 263 (.agg #[Ru (O ⟨8,95,N⟩)])))(a:w.heap[t]? =O (Ra #[Ru N] 233 (0,0))):Calls Tryz.prog 181 #[.iface 233 (Ru (O ⟨e,0,N⟩)), .iface 235 (Ru (O ⟨t,0,N⟩))] w fun ev w'=>ev=.returned (.bool true)/\jI (du t) w w'/\w'.heap[t]? =O (Ra #[Ru (O ⟨e,0,N⟩)] 233 (0,0)):=by refine(Nr ⟨e,0,N⟩ ⟨t,0,N⟩ (Ru N) w hg ((ag a 0).trans A) (aW a 0)).mono ?_;rintro ev w'⟨rfl,rfl⟩;refine⟨rfl,((((gX (du t) w _).trans (gX _ _ _) fun _ _ h=>h).trans (gX _ _ _) fun _ _ h=>h).trans (gX _ _ _) fun _ _ h=>h).trans (Fl (F:=du t) _ t 0 _ A) fun _ _ h=>h, ?_⟩;exact aX (bE (bE (bE (bE a _) _) _) _) 0 _
def K3(d:Option (Ob×Int))(w:ai)(e:Ending)(w':ai):Prop:=Below w.heap.size w w'/\match d with
 |none=>e=.returned (Rx #[pZ,I J 0,I J 90])
 |some (o,q)=>∃sl es,e=.returned (Rx #[.agg #[I J o.id,I J o.cls,I J o.bY,sl],I J q,I J 0])/\rL w.heap.size sl es o.bG w'
theorem Bi(s:ByteArray)(hs:s.size<=281474976710656)(p:Int)(B:Nat)(aE aF:Addr)(w:ai)(he:Env aE aF B w):Calls Tryz.prog 143 #[U s,I J p] w (K3 (oh s p) w):=by
 have Q:=M (fun b X hb hX hB=>Es s hs p b B aE aF X hb hX hB);have HE:=M he;obtain⟨d,hd⟩:∃d,oh s p=d:=⟨_,rfl⟩;rw[hd]at Q⊢;have hB:=he.b;clear he hd hs;have H1:=M (St.start ej w);go_in;go_wp2_with{};generalize e2:aq (aq w _) _=X;have z3:=iD e2 (n:=w.heap.size+1+1) (by simp);replace H1:=bW e2 (St.a6 (St.a6 H1.out _ (w.heap.size) (by simp)) _ (w.heap.size+1) (by simp));clear e2;refine(Q.out (w.heap.size+1) _ (H1.out.aR 0 A) (HE.out.low (H1.out.low.aC.mono hB)) (by omega)).mono ?_;rintro e c⟨g2,h2⟩;clear Q;cases d with
 |none=>obtain⟨v,rfl,F,hF,rfl,C⟩:=h2;unfold pZ;have a:=M ((H1.out.zP 0 A (jI.mL g2 fun k e=>by cases e;rfl) A).more (fe C) (fun b hb hl=>absurd hl (by cases hb;omega)) (fun r hr b hb hb2=>by cases hb2;have:=(H1.out.mem r (List.mem_of_mem_eraseIdx hr)).1.dom F hb;omega));clear H1;clear g2 C;go_wp2_with{};generalize t:aq (aq c _) _=Y;have z6:=iD t (n:=c.heap.size+1+1) (by simp);replace a:=bW t (St.a6 (St.a6 a.out _ (c.heap.size) (by simp)) _ (c.heap.size+1) (by simp));clear t;refine(Ld F (c.heap.size+1) _ (HE.out.low (a.out.low.aC.mono hB)).et (a.out.aR 0 A)).mono ?_;rintro e w3⟨rfl,c3,t3⟩;have f:=M (a.out.gu 0 A c3 t3 A);clear a;clear c3 t3;go_wp2_with{};obtain⟨cs,a1⟩:=St.cs f 3 A;simp only[ak]at cs;obtain⟨⟨c8,f9⟩,⟨aN,f11⟩,⟨aT,f13⟩,⟨aV,f15⟩, -⟩:=cs;have y:(fun W:ai=>W.heap[c.heap.size+1]? =O (Ra #[Ru (O ⟨F,0,N⟩)] 233 (0,0))/\W.heap[F]? =O (Ra #[I J 90] 237 (0,0))) w3.drew:=⟨f.out.aR 0 A,f.out.aR 2 A⟩;refine bM (fun W:ai=>W.heap[c.heap.size+1]? =O (Ra #[Ru (O ⟨F,0,N⟩)] 233 (0,0))/\W.heap[F]? =O (Ra #[I J 90] 237 (0,0))) (.R 0 (.R 1 (.R 2 (.R 3 (.R 4 (.call 5 (.R 6 (.R 7 .done)))))))) (by kernel_rfl) (by kernel_rfl) (fun _ _ _ _ _ h=>h) y ?_;(iterate 5 refine aj A (aI ⟨by rfl,fun W hS=>by have l:W.cell? ⟨c.heap.size+1,0,N⟩=O (Ru (O ⟨F,0,N⟩)):=(ag hS.1 0).trans A;have m:W.cell? ⟨F,0,N⟩=O (I J 90):=(ag hS.2 0).trans A;clear hS;go_simp;try with_reducible rfl⟩) ?_;go_simp);refine aH A (fun K hK=> ?_);go_simp;replace f:=M (St.aB f.out 3 A 0 (I J 0) A);simp only[ab,ae]at f;replace f:=M (St.aB f.out 3 A 1 (I J 0) A);simp only[ab,ae]at f;replace f:=M (St.aB f.out 3 A 2 (I J 0) A);simp only[ab,ae]at f;replace f:=M (St.aB f.out 3 A 3 (Z N 0 0) A);simp only[ab,ae]at f;have i:=M (f.out.drew);clear f;refine hK _ _ ⟨i.out.aR 0 A,i.out.aR 2 A⟩ ?_;clear hK K;(iterate 2 go_simp;refine aj A (aI ⟨by rfl,fun W hS=>by have l:W.cell? ⟨c.heap.size+1,0,N⟩=O (Ru (O ⟨F,0,N⟩)):=(ag hS.1 0).trans A;have m:W.cell? ⟨F,0,N⟩=O (I J 90):=(ag hS.2 0).trans A;clear hS;go_simp;try with_reducible rfl⟩) ?_);go_simp;refine aM ?_;go_wp2_with{};obtain⟨V,D⟩:∃V,((((w3.setCell ⟨w.heap.size,0,N⟩ (I J 0)).setCell ⟨w.heap.size,1,N⟩ (I J 0)).setCell ⟨w.heap.size,2,N⟩ (I J 0)).setCell ⟨w.heap.size,3,N⟩ (Z N 0 0)).drew=V:=⟨_,rfl⟩;rw[D]at i⊢;clear D;obtain⟨cs,bb⟩:=St.cs i 3 A;simp only[ak]at cs;obtain⟨⟨S,f20⟩,⟨c21,f22⟩,⟨ad,f24⟩,⟨ao,f26⟩, -⟩:=cs;refine au (v:=Rx #[.agg #[I J 0,I J 0,I J 0,Z N 0 0],I J 0,I J 90]) (by simp[results,results143,go_sem,S,c21,ad,ao]) A ⟨i.out.low.aC, ?_⟩;rfl
 |some x=>obtain⟨o,E⟩:=x;obtain⟨⟨sl,es,rfl,j⟩,hr⟩:=h2;obtain⟨sa,sc,rfl⟩:=cl.slice j.NP;have a:=M (H1.out.gu 0 A (jI.mL g2 fun k e=>by cases e;rfl) hr A);clear H1;clear g2 hr;have q:=M ((j.alloc (Ra #[I J o.id,I J o.cls,I J o.bY,Z sa o.bG.length sc] 51)).alloc (Ra #[Ru N] 233));clear j;go_wp2_with{};generalize t:aq (aq c _) _=Y at q⊢;have z6:=iD t (n:=c.heap.size+1+1) (by simp);replace a:=bW t (St.a6 (St.a6 a.out _ (c.heap.size) (by simp)) _ (c.heap.size+1) (by simp));clear t;refine(Ns _ _).mono ?_;rintro e w3⟨rfl,rfl⟩;obtain⟨Y2,az⟩:∃Y2,w3=Y2:=⟨_,rfl⟩;subst az;go_wp2_with{};obtain⟨cs,aX⟩:=St.cs a 3 A;simp only[ak]at cs;obtain⟨⟨c7,f8⟩,⟨c9,f10⟩,⟨aO,f12⟩,⟨aU,f14⟩, -⟩:=cs;have u:(fun W:ai=>W.heap[c.heap.size]? =O (Ra #[I J o.id,I J o.cls,I J o.bY,Z sa o.bG.length sc] 51 (0,0))/\W.heap[w.heap.size+1]? =O (Ra #[U s,I J E] 230 (0,0))) w3.drew:=⟨a.out.aR 1 A,a.out.aR 2 A⟩;refine bM (fun W:ai=>W.heap[c.heap.size]? =O (Ra #[I J o.id,I J o.cls,I J o.bY,Z sa o.bG.length sc] 51 (0,0))/\W.heap[w.heap.size+1]? =O (Ra #[U s,I J E] 230 (0,0))) (.R 0 (.R 1 (.R 2 (.R 3 (.call 4 (.R 5 (.R 6 .done))))))) (by kernel_rfl) (by kernel_rfl) (fun _ _ _ _ _ h=>h) u ?_;(iterate 4 refine aj A (aI ⟨by rfl,fun W hS=>by have l:W.cell? ⟨c.heap.size,0,N⟩=O (I J o.id):=(ag hS.1 0).trans A;have G:W.cell? ⟨c.heap.size,1,N⟩=O (I J o.cls):=(ag hS.1 1).trans A;have H:W.cell? ⟨c.heap.size,2,N⟩=O (I J o.bY):=(ag hS.1 2).trans A;have L:W.cell? ⟨c.heap.size,3,N⟩=O (Z sa o.bG.length sc):=(ag hS.1 3).trans A;have m:W.cell? ⟨w.heap.size+1,0,N⟩=O (U s):=(ag hS.2 0).trans A;have P:W.cell? ⟨w.heap.size+1,1,N⟩=O (I J E):=(ag hS.2 1).trans A;clear hS;go_simp;try with_reducible rfl⟩) ?_;go_simp);refine aH A (fun K hK=> ?_);go_simp;replace a:=M (St.aB a.out 3 A 0 (I J o.id) A);simp only[ab,ae]at a;replace a:=M (St.aB a.out 3 A 1 (I J o.cls) A);simp only[ab,ae]at a;replace a:=M (St.aB a.out 3 A 2 (I J o.bY) A);simp only[ab,ae]at a;replace a:=M (St.aB a.out 3 A 3 (Z sa o.bG.length sc) A);simp only[ab,ae]at a;have g:=M (a.out.drew);clear a;refine hK _ _ ⟨g.out.aR 1 A,g.out.aR 2 A⟩ ?_;clear hK K;(iterate 2 go_simp;refine aj A (aI ⟨by rfl,fun W hS=>by have l:W.cell? ⟨c.heap.size,0,N⟩=O (I J o.id):=(ag hS.1 0).trans A;have G:W.cell? ⟨c.heap.size,1,N⟩=O (I J o.cls):=(ag hS.1 1).trans A;have H:W.cell? ⟨c.heap.size,2,N⟩=O (I J o.bY):=(ag hS.1 2).trans A;have L:W.cell? ⟨c.heap.size,3,N⟩=O (Z sa o.bG.length sc):=(ag hS.1 3).trans A;have m:W.cell? ⟨w.heap.size+1,0,N⟩=O (U s):=(ag hS.2 0).trans A;have P:W.cell? ⟨w.heap.size+1,1,N⟩=O (I J E):=(ag hS.2 1).trans A;clear hS;go_simp;try with_reducible rfl⟩) ?_);go_simp;refine aM ?_;go_wp2_with{};have z:=M (((((q.out.set w.heap.size 0 (I J o.id) (by omega)).set w.heap.size 1 (I J o.cls) (by omega)).set w.heap.size 2 (I J o.bY) (by omega)).set w.heap.size 3 (Z sa o.bG.length sc) (by omega)).drew);clear q;obtain⟨V,D⟩:∃V,((((w3.setCell ⟨w.heap.size,0,N⟩ (I J o.id)).setCell ⟨w.heap.size,1,N⟩ (I J o.cls)).setCell ⟨w.heap.size,2,N⟩ (I J o.bY)).setCell ⟨w.heap.size,3,N⟩ (Z sa o.bG.length sc)).drew=V:=⟨_,rfl⟩;rw[D]at g z⊢;clear D;obtain⟨cs,a'⟩ :=St.cs g 3 A;simp only[ak]at cs;obtain⟨⟨R,f19⟩,⟨T,f21⟩,⟨aa,f23⟩,⟨al,f25⟩, -⟩:=cs;refine au (v:=Rx #[.agg #[I J o.id,I J o.cls,I J o.bY,Z sa o.bG.length sc],I J E,I J 0]) (by simp[results,results143,go_sem,R,T,aa,al]) A ⟨g.out.low.aC, ?_⟩;exact⟨_,_,rfl,z.out.mono (by omega)⟩
theorem Mu(kind:Int)(n:Nat):p6 (fun s p=>er s kind n p) (fun x=>iC kind x.1 x.2) (yL kind n):=
 ⟨fun s x a b h hs=>MC s kind n x.1 x.2 a b h hs,fun s p q x h0 h1 hp=>MD s kind n x.1 x.2 p q h0 h1 hp⟩
def Ar(b:Bt):List UInt8:=mb b++iC b.kind b.recs b.bj
def okB(b:Bt):Prop:=ee b.kind/\ee b.n/\ee b.next/\b.recs.length<=700/\yL b.kind b.recs.length (b.recs,b.bj)
def J9:Pr Bt:=.bind rn fun kind=>.bind rn fun n=>.bind rn fun next=>.bind (uZ 0 700) fun cnt=>.gd (decide (0<=cnt)) (.bind (fun s p=>er s kind cnt.toNat p) fun x=>.pure (Bt.mk kind n next x.1 x.2))
theorem FL:p6 J9 Ar okB:=by
 refine(bU (fun b:Bt=>b.kind) gA (fun kind _=>bU (fun b:Bt=>b.n) gA (fun n _=>bU (fun b:Bt=>b.next) gA (fun next _=>bU (f:=fun cnt=>.gd (decide (0<=cnt)) (.bind (fun s p=>er s kind cnt.toNat p) fun x=>.pure (Bt.mk kind n next x.1 x.2))) (fun b:Bt=>(b.recs.length:Int)) (uB 0 700 (by omega) (by omega)) (fun cnt _=>mY (decide (0<=cnt))
  (bU (f:=fun x=>.pure (Bt.mk kind n next x.1 x.2)) (fun b:Bt=>(b.recs,b.bj)) (Mu kind cnt.toNat) (fun x _=>eQ (Bt.mk kind n next x.1 x.2)) fun x y h=>by rw[h])) fun x y h=> ?_) fun x y h=> ?_) fun x y h=> ?_) fun x y h=> ?_).congr (fun _ _=>rfl) (fun b=> ?_) fun b _=>by simp[Ar,mb]
 {have h1:=h.1;have h2:=h.2.1.1;simp only[Rt]at h1 h2;omega};{rw[h.2.2.2]};{rw[h.2.2.2.2]};{rw[h.2.2.2.2.2]};{obtain⟨kind,n,next,l,vs⟩:=b;simp only[okB,Rt,dS,and_true];constructor;{rintro⟨h1,h2,h3,h4,a⟩;exact⟨h1,h2,h3,⟨by omega,by omega⟩,by omega,a⟩};{rintro⟨h1,h2,h3,h4,_,a⟩;exact⟨h1,h2,h3,by omega,a⟩}}
theorem Jg(s:ByteArray):rO s=if 10000<s.size then N else match J9 s 0 with
 |none=>N
 |some (b,q)=>if q=s.size/\dU b=true then O b else N:=by
 unfold rO J9 Pr.bind
 split
 · rfl
 · cases rn s 0 with
   |none=>rfl
   |some x=>
    obtain⟨kind,p⟩:=x;simp only[];cases rn s p with
    |none=>rfl
    |some x=>
     obtain⟨n,p⟩:=x;simp only[];cases rn s p with
     |none=>rfl
     |some x=>
      obtain⟨next,p⟩:=x;simp only[uZ,Pr.bind,Pr.gd,Pr.pure];cases rn s p with
      |none=>rfl
      |some x=>obtain⟨cnt,p⟩:=x;simp only[];by_cases h:cnt<0\/700<cnt;{rw[Rs h,Rq (by simp;omega)]};{rw[Rq h,Rs (by simp;omega)];simp only[];rw[Rs (by simp;omega)];cases er s kind cnt.toNat p<;>rfl}
theorem mr{b:Bt}(h:dU b=true):kB b=true/\∀i,i<b.recs.length ->qk b i=true:=by unfold dU at h;rw[aK,ba]at h;exact⟨h.1,fun i hi=>h.2 i (by simpa using hi)⟩
theorem mS{b:Bt}(h:dU b=true):∀r∈b.recs,(jA r).isSome=true/\r.obj.id<b.next:=by intro r hr;obtain⟨i,hi,rfl⟩:=List.mem_iff_getElem.1 hr;have:=(mr h).2 i hi;unfold qk at this;rw[an hi]at this;simp only[aK,Rt]at this;exact⟨this.1,this.2.1⟩
theorem jE{b:Bt}(h:kB b=true):(1<=b.next/\b.next<=100001/\1<=b.n/\b.recs.length<=700)/\((b.kind=1/\0<b.recs.length/\b.bj=[])\/(b.kind=2/\b.bj.length=b.recs.length/\∀v∈b.bj,1<=v/\v<=b.n)):=by unfold kB at h;rw[aK,Rt]at h;refine⟨h.1, ?_⟩;have h2:=h.2;split at h2;{rename_i hk;rw[aK,Rt,Rt]at h2;exact .inl ⟨hk,h2.1,gD.1 h2.2⟩};{split at h2;{rename_i hk;rw[aK,Rt,ba]at h2;exact .inr ⟨hk,h2.1,fun v hv=>by simpa using h2.2 v hv⟩};{cases h2}}
theorem wC(kind:Int):∀(l:List Rc) (vs:List Int),(∀r∈l,(jA r).isSome=true) ->iy kind l vs=iC kind l vs
 | [],_,_=>by simp[iy,iC]
 |r::l,[],h=>by rw[iy,iC,(nI (h r (by simp))).2,wC kind l [] fun x hx=>h x (by simp[hx])]
 |r::l,v::vs,h=>by rw[iy,iC,(nI (h r (by simp))).2,wC kind l vs fun x hx=>h x (by simp[hx])]
theorem yU{b:Bt}(h:dU b=true):aT b=Ar b:=by unfold aT Ar;rw[wC _ _ _ fun r hr=>(mS h r hr).1]
theorem xz{b:Bt}(h:dU b=true)(hn:ee b.n):okB b:=by obtain⟨⟨f1,f2,f3,f4⟩,f5⟩:=jE (mr h).1;unfold ee at hn;refine⟨?_,hn,by unfold ee;omega,f4,rfl,fun r hr=>(nI (mS h r hr).1).1, ?_⟩;{unfold ee;rcases f5 with f5|f5<;>omega};{rcases f5 with⟨k,k2,k3⟩|⟨k,k2,k3⟩;{rw[Rq (by omega)];exact k3};{rw[Rs k];exact⟨k2,fun v hv=>by have:=k3 v hv;unfold ee;omega⟩}}
theorem sx{b:Bt}{l:List UInt8}(h:mG b=O l):dU b=true/\l=Ar b/\l.length<=10000:=by unfold mG at h;split at h;{rename_i hc;cases h;exact⟨hc.1,yU hc.1,hc.2⟩};{cases h}
theorem oR{b:Bt}(hb:okB b){s:ByteArray}{r:List UInt8}(hs:s.data.toList=Ar b++r):J9 s 0=O (b,((Ar b).length:Int)):=by have:=FL.fwd s b [] r hb (by simpa using hs);simpa using this
theorem oS{b:Bt}{s:ByteArray}(hn:ee b.n)(h:mG b=O s.data.toList):rO s=O b:=by
 obtain⟨h1,h2,h3⟩:=sx h;have a:s.data.toList.length=s.size:=by simp
 rw[Jg,Rq (by omega),oR (xz h1 hn) (r:=[]) (by rw[<-h2];simp)];simp only[];rw[Rs ⟨by rw[<-h2];omega,h1⟩]
theorem Jf{b:Bt}{s:ByteArray}(h:rO s=O b):mG b=O s.data.toList/\dU b=true/\okB b/\s.data.toList=Ar b:=by
 rw[Jg]at h;have f:s.data.toList.length=s.size:=by simp
 split at h;{cases h}
 · rename_i c;cases hp:J9 s 0 with
   |none=>rw[hp]at h;cases h
   |some x=>obtain⟨d,q⟩:=x;rw[hp]at h;simp only at h;split at h;{rename_i hc;cases h;obtain⟨h1,a,r,h2,h3,h4⟩:=FL.inv s 0 q b (by omega) (by omega) hp;have ha:a=[]:=gD.1 (by omega);subst ha;have hr:r=[]:=by{have:=congrArg fj h2;simp only[aw,a7]at this h4;exact gD.1 (by omega)};subst hr;have e:s.data.toList=Ar b:=(by rw[h2];simp);refine⟨?_,hc.2,h1,e⟩;unfold mG;rw[yU hc.2,<-e,Rs ⟨hc.2,by omega⟩]};{cases h}
theorem su{b:Bt}{t s:ByteArray}(hn:ee b.n)(h:mG b=O t.data.toList)(hne:s.size≠t.size)(hp:(∃r,s.data.toList=t.data.toList++r)\/∃r,t.data.toList=s.data.toList++r):rO s=N:=by
 obtain⟨h1,h2,h3⟩:=sx h;cases hd:rO s with
 |none=>rfl
 |some e=>exfalso;obtain⟨g,i,c,a⟩:=Jf hd;have f:s.data.toList.length=s.size:=(by simp);have d:t.data.toList.length=t.size:=(by simp);rcases hp with⟨r,hr⟩|⟨r,hr⟩;{have e1:=oR (xz h1 hn) (s:=s) (r:=r) (by rw[hr,h2]);have e2:=oR c (s:=s) (r:=[]) (by rw[a];simp);rw[e1]at e2;simp only[bu,cu]at e2;obtain⟨rfl,_⟩:=e2;have:=congrArg fj (h2.trans a.symm);omega};{have e1:=oR (xz h1 hn) (s:=t) (r:=[]) (by rw[h2];simp);have e2:=oR c (s:=t) (r:=r) (by rw[hr,a]);rw[e1]at e2;simp only[bu,cu]at e2;obtain⟨rfl,_⟩:=e2;have:=congrArg fj (h2.trans a.symm);omega}
theorem Gw:kz=kp (fun a b=>eg (gz a) (gz b)) (kp (fun a b=>eg (qQ a) (qQ b)) (kp (fun a b=>eg a.bY b.bY) (fun a b=>iS a.name.data.toList b.name.data.toList))):=rfl
theorem MQ:Wk kz:=by rw[Gw];exact(pX.rS gz).kp ((pX.rS qQ).kp ((pX.rS Rc.bY).kp (F6.rS fun r:Rc=>r.name.data.toList)))
abbrev It:=Int×Rc
def qy:It ->It ->Int:=kp (fun x y=>eg x.1 y.1) (fun x y=>kz x.2 y.2)
theorem MN:Wk qy:=(pX.rS Prod.fst).kp (MQ.rS Prod.snd)
theorem rB{a b:Int}:eg a b<0<->a<b:=by unfold eg;split<;>(try split)<;>omega
theorem vU{x y:It}:qy x y<0<->x.1<y.1\/(x.1=y.1/\kz x.2 y.2<0):=by unfold qy kp;by_cases h:eg x.1 y.1=0;{rw[Rq (by simpa using h)];have:=ji.1 h;constructor;{intro h2;exact .inr ⟨this,h2⟩};{rintro(h2|h2);{omega};{exact h2.2}}};{rw[Rs h,rB];have:x.1≠y.1:=fun e=>h (ji.2 e);constructor;{exact .inl};{rintro(h2|h2);{exact h2};{exact absurd h2.1 this}}}
def gH(b:Bt):List It:=List.zipWith (fun v r=>(v,r)) (if b.kind=2 then b.bj else b.recs.map fun _=>0) b.recs
def Asc(l:List It):Prop:=∀i x y,l[i]? =O x ->l[i+1]? =O y ->qy x y<0
theorem Asc.lt{l:List It}(h:Asc l):∀(d i:Nat) (x y:It),l[i]? =O x ->l[i+(d+1)]? =O y ->qy x y<0
 |0,i,x,y,hx,hy=>h i x y hx hy
 |d+1,i,x,y,hx,hy=>by obtain⟨b,e⟩:=aA.1 hy;have a:l[i+(d+1)]? =O l[i+(d+1)]:=an (by omega);have h1:=Asc.lt h d i x _ hx a;have h2:=h (i+(d+1)) _ y a hy;exact MN.Pa h1 (by omega)
theorem nv{b:Bt}{i:Nat}{x:It}(hk:b.kind=2 ->b.bj.length=b.recs.length):(gH b)[i]? =O x<->b.recs[i]? =O x.2/\x.1=(if b.kind=2 then b.bj[i]?.getD 0 else 0):=by unfold gH;rw[List.getElem?_zipWith];by_cases h:b.kind=2;{simp only[Rs h];have a:=hk h;by_cases hi:i<b.recs.length;{rw[an hi,an (by omega)];obtain⟨v,r⟩:=x;simp only[bu,cu,kI];constructor;{rintro⟨h1,h2⟩;exact⟨h2,h1.symm⟩};{rintro⟨h1,h2⟩;exact⟨h2.symm,h1⟩}};{rw[j8 (by omega),j8 (by omega)];simp}};{simp only[Rq h,dT];by_cases hi:i<b.recs.length;{rw[an hi];obtain⟨v,r⟩:=x;simp only[eZ,bu,cu];constructor;{rintro⟨h1,h2⟩;exact⟨h2,h1.symm⟩};{rintro⟨h1,h2⟩;exact⟨h2.symm,h1⟩}};{rw[j8 (by omega)];simp}}
theorem uu{b:Bt}(hk:b.kind=2 ->b.bj.length=b.recs.length):(gH b).length=b.recs.length:=by unfold gH;by_cases h:b.kind=2;{simp[h,hk h]};{simp[h]}
theorem Hz{b:Bt}:dU b=true<->kB b=true/\(∀r∈b.recs,(jA r).isSome=true/\r.obj.id<b.next)/\Asc (gH b):=by
 constructor
 · intro h;obtain⟨h1,h2⟩:=mr h;obtain⟨_,hf⟩:=jE h1;have hk:b.kind=2 ->b.bj.length=b.recs.length:=fun k=>by rcases hf with hf|hf<;>omega
   refine⟨h1,mS h,fun i x y hx hy=> ?_⟩;rw[nv hk]at hx hy;obtain⟨x1,x2⟩:=hx;obtain⟨c,d⟩:=hy;have:=h2 (i+1) (aA.1 c).1;unfold qk at this;rw[c]at this;simp only[x1,aK,Rt]at this;have hs:=this.2.2;rw[vU,x2,d];unfold tQ at hs;by_cases k:b.kind=2;{simp only[k,true_and,if_true]at hs⊢;split at hs;{rename_i h3;exact .inl h3};{split at hs;{cases hs};{exact .inr ⟨by omega,of_decide_eq_true hs⟩}}};{simp only[k,false_and,if_false]at hs⊢;exact .inr ⟨trivial,of_decide_eq_true hs⟩}
 · rintro⟨h1,h2,h3⟩;obtain⟨_,hf⟩:=jE h1;have hk:b.kind=2 ->b.bj.length=b.recs.length:=fun k=>by rcases hf with hf|hf<;>omega
   unfold dU;rw[h1,cY,ba];intro i hi;have hi:i<b.recs.length:=(by simpa using hi);have hr:=h2 b.recs[i] (jv hi);unfold qk;rw[an hi];simp only[hr.1,cY,hr.2,decide_true];cases i with
   |zero=>rfl
   |succ i=>have a:i<b.recs.length:=(by omega);simp only[an a];have:=h3 i (if b.kind=2 then b.bj[i]?.getD 0 else 0,b.recs[i]) (if b.kind=2 then b.bj[i+1]?.getD 0 else 0,b.recs[i+1]) ((nv hk).2 ⟨an a,rfl⟩) ((nv hk).2 ⟨an hi,rfl⟩);rw[vU]at this;unfold tQ;by_cases k:b.kind=2;{simp only[k,true_and,if_true]at this⊢;rcases this with h4|h4;{rw[Rs h4]};{rw[Rq (by omega),Rq (by omega),Rv h4.2]}};{simp only[k,false_and,if_false]at this⊢;rcases this with h4|h4;{omega};{exact Rv h4.2}}
def gQ(a b:Rc):Bool:=
 if a.kind≠b.kind then decide (gz a<gz b)
 else if a.kind=1 then decide (a.obj.id<b.obj.id)
 else if a.kind=3 then decide (a.id<b.id)
 else if a.kind=4 then decide (a.id<b.id)||(decide (a.id=b.id)&&decide (a.bY<b.bY))
 else decide (iS a.name.data.toList b.name.data.toList<0)
theorem wq{a b:Rc}(ha:Ce a)(hb:Ce b):gQ a b=decide (kz a b<0):=by have key:gQ a b=true<->kz a b<0:=by{have f:∀z:Int,eg z z=0:=nw;have hs:∀l:List UInt8,iS l l=0:=rC;have g:∀x y:Int,eg x y≠0 ->(eg x y<0<->x<y):=fun x y _=>rB;rcases ha with⟨ka,_,_,c⟩|⟨ka,_,_,_,c⟩|⟨ka,_,c⟩|⟨ka,_,_,c⟩<;>rcases hb with⟨kb,_,_,d⟩|⟨kb,_,_,_,d⟩|⟨kb,_,d⟩|⟨kb,_,_,d⟩<;>rw[c,d];{simp[gQ,kz,gz,qQ,f,hs];by_cases h:eg a.id b.id=0;{rw[Rs h];have:=ji.1 h;simp;omega};{rw[Rq h,rB]}};{simp[gQ,kz,gz,eg]};{simp[gQ,kz,gz,eg]};{rcases kb with kb|kb<;>simp[gQ,kz,gz,eg,kb]};{simp[gQ,kz,gz,eg]};{simp[gQ,kz,gz,qQ,f,hs];by_cases h:eg a.id b.id=0;{rw[Rs h];have:=ji.1 h;by_cases h2:eg a.bY b.bY=0;{rw[Rs h2];have:=ji.1 h2;simp;omega};{rw[Rq h2,rB];omega}};{rw[Rq h,rB];have:a.id≠b.id:=fun e=>h (ji.2 e);omega}};{simp[gQ,kz,gz,eg]};{rcases kb with kb|kb<;>simp[gQ,kz,gz,eg,kb]};{simp[gQ,kz,gz,eg]};{simp[gQ,kz,gz,eg]};{simp[gQ,kz,gz,qQ,f,hs];by_cases h:eg a.obj.id b.obj.id=0;{rw[Rs h];have:=ji.1 h;simp;omega};{rw[Rq h,rB]}};{rcases kb with kb|kb<;>simp[gQ,kz,gz,eg,kb]};{rcases ka with ka|ka<;>simp[gQ,kz,gz,eg,ka]};{rcases ka with ka|ka<;>simp[gQ,kz,gz,eg,ka]};{rcases ka with ka|ka<;>simp[gQ,kz,gz,eg,ka]};{rcases ka with ka|ka<;>rcases kb with kb|kb<;>simp[gQ,kz,gz,qQ,f,ka,kb,oz]<;>simp[eg]}};cases h:gQ a b;{exact(Rw fun h2=>by rw[key.2 h2]at h;cases h).symm};{exact(Rv (key.1 h)).symm}
abbrev qs(sl:ar)(i:Nat)(a bad:Int):Obj:=Ra #[sl,I J (i:Nat),I J a,I J bad] 252 (0,0)
def QD(_:ai)(e:List ar)(p:Pc):Prop:=e=[I J p.k,I J p.n,U p.s,I J p.at'] /\p.s.size<=1000000
def Dn(b:Nat)(sl:ar)(l:List Pc)(w:ai):Prop:=∀W,jI (du b) w W ->cl 4 QD W sl l
theorem Dn.bF{b:Nat}{sl:ar}{l:List Pc}{w w':ai}(h:Dn b sl l w)(c:jI (du b) w w') :Dn b sl l w':=fun W a=>h W (c.trans a fun _ _ k=>k)
theorem Dn.slice{b:Nat}{sl:ar}{l:List Pc}{w:ai}(h:Dn b sl l w):∃a c,sl=Z a l.length c:=cl.slice (h w (jI.refl _ _))
theorem Dn.at{b:Nat}{a:Option Addr}{c i:Nat}{l:List Pc}{w:ai}{p:Pc}(h:Dn b (Z a l.length c) l w)(hi:l[i]? =O p):∃d o', a=O ⟨d,o', N⟩/\p.s.size<=1000000/\∀W,jI (du b) w W ->W.cell? ⟨d,o'+i*4,N⟩=O (I J p.k)/\W.cell? ⟨d,o'+i*4+1,N⟩=O (I J p.n)/\W.cell? ⟨d,o'+i*4+1+1,N⟩=O (U p.s)/\W.cell? ⟨d,o'+i*4+1+1+1,N⟩=O (I J p.at') :=by obtain⟨d,o', e,rfl,⟨_,g⟩,_,_⟩:=cl.at (h w (jI.refl _ _)) hi;refine⟨d,o', rfl,g,fun W f=> ?_⟩;obtain⟨j,m,e,h1,⟨rfl,_⟩,_,h2⟩:=cl.at (h W f) hi;cases h1;exact⟨h2 0 _ A,h2 1 _ A,h2 2 _ A,h2 3 _ A⟩
def QB(i n:Nat)(e:Ending):Prop:=∃x,e=.returned (.bool x)/\(x=true ->i<n)
theorem Qo(b i:Nat)(m bad:Int)(sl:ar)(l:List Pc)(t:ByteArray)(w:ai)(hi:i<=l.length)(hb:w.heap[b]? =O (qs sl i m bad))(hp:Dn b sl l w):Calls Tryz.prog 244 #[Ru (O ⟨b,0,N⟩),U t] w fun e w'=>QB i l.length e/\Below w.heap.size w w':=by
 obtain⟨a,c,rfl⟩:=hp.slice;have n:=M hb;have o:=M (ax w.heap.size w).drew;by_cases d:i<l.length
 · obtain⟨p,g⟩:∃p,l[i]? =O p:=⟨_,an d⟩;obtain⟨f,o', rfl,_,hq⟩:=hp.at g;have j:=M (hq _ (nK _ w));have r:(i:Int)<(l.length:Int):=(by omega);have u:(0:Int)<=(i:Int):=(by omega);clear hq hp g hb;by_cases hk:p.k=0
   · have q:(p.k==0)=true:=(by rw[hk];rfl);go_in;go_wp2_with{};refine bM (fun W:ai=>W.heap[b]? =O (qs (Z (O ⟨f,o', N⟩) l.length c) i m bad)/\W.cell? ⟨f,o'+i*4,N⟩=O (I J p.k)/\W.cell? ⟨f,o'+i*4+1+1,N⟩=O (U p.s)) (.R 0 (.R 1 (.R 2 (.R 3 (.R 4 (.R 5 (.R 6 (.R 7 (.R 8 (.R 9 (.R 10 (.R 11 (.R 12 (.R 13 (.R 14 (.R 15 (.R 16 (.R 17 (.R 18 (.R 19 (.R 20 (.R 21 (.R 22 (.R 23 (.R 24 (.R 25 (.R 26 (.R 27 (.R 28 (.R 29 (.R 30 (.R 31 (.R 32 (.R 33 (.R 34 (.R 35 (.R 36 (.R 37 (.R 38 (.R 39 .done)))))))))))))))))))))))))))))))))))))))) (by kernel_rfl) (by kernel_rfl) (fun _ _ _ _ _ h=>h) ⟨n.out,j.out.1,j.out.2.2.1⟩ ?_
     iterate 40
      first
       |refine aj A (dJ ⟨by rfl,rfl⟩) ?_
       |refine aj A (aI ⟨by rfl,fun W hS=>by have g0:=(ag hS.1 0).trans A;have g1:=(ag hS.1 1).trans A;have g2:=hS.2.1;have g3:=hS.2.2;clear hS;go_simp;try with_reducible rfl⟩) ?_
      go_simp
     refine aM ?_;go_wp2_with{};go_ret;exact⟨⟨_,rfl,fun _=>d⟩,o.out⟩
   · have q:(p.k==0)=false:=Rm.2 hk;go_in;go_wp2_with{};refine bM (fun W:ai=>W.heap[b]? =O (qs (Z (O ⟨f,o', N⟩) l.length c) i m bad)/\W.cell? ⟨f,o'+i*4,N⟩=O (I J p.k)/\W.cell? ⟨f,o'+i*4+1+1,N⟩=O (U p.s)) (.R 0 (.R 1 (.R 2 (.R 3 (.R 4 (.R 5 (.R 6 (.R 7 (.R 8 (.R 9 (.R 10 (.R 11 (.R 12 (.R 13 (.R 14 (.R 15 (.R 16 (.R 17 (.R 18 (.R 19 (.R 20 (.R 21 (.R 22 (.R 23 (.R 24 (.R 25 (.R 26 (.R 27 (.R 28 (.R 29 (.R 30 (.R 31 (.R 32 (.R 33 (.R 34 (.R 35 (.R 36 (.R 37 (.R 38 (.R 39 .done)))))))))))))))))))))))))))))))))))))))) (by kernel_rfl) (by kernel_rfl) (fun _ _ _ _ _ h=>h) ⟨n.out,j.out.1,j.out.2.2.1⟩ ?_
     iterate 40
      first
       |refine aj A (dJ ⟨by rfl,rfl⟩) ?_
       |refine aj A (aI ⟨by rfl,fun W hS=>by have g0:=(ag hS.1 0).trans A;have g1:=(ag hS.1 1).trans A;have g2:=hS.2.1;have g3:=hS.2.2;clear hS;go_simp;try with_reducible rfl⟩) ?_
      go_simp
     refine aM ?_;go_wp2_with{};go_ret;exact⟨⟨_,rfl,fun _=>d⟩,o.out⟩
 · have r:¬(i:Int)<(l.length:Int):=(by omega);clear hp hb;go_in;go_wp2_with{};refine bM (fun W:ai=>W.heap[b]? =O (qs (Z a l.length c) i m bad)) (.R 0 (.R 1 (.R 2 (.R 3 (.R 4 (.R 5 (.R 6 (.R 7 (.R 8 (.R 9 (.R 10 (.R 11 (.R 12 (.R 13 (.R 14 (.R 15 (.R 16 (.R 17 (.R 18 (.R 19 (.R 20 (.R 21 (.R 22 (.R 23 (.R 24 (.R 25 (.R 26 (.R 27 (.R 28 (.R 29 (.R 30 (.R 31 (.R 32 (.R 33 (.R 34 (.R 35 (.R 36 (.R 37 (.R 38 (.R 39 .done)))))))))))))))))))))))))))))))))))))))) (by kernel_rfl) (by kernel_rfl) (fun _ _ _ _ _ h=>h) n.out ?_
   iterate 40
    first
     |refine aj A (dJ ⟨by rfl,rfl⟩) ?_
     |refine aj A (aI ⟨by rfl,fun W hS=>by have g0:=(ag hS 0).trans A;have g1:=(ag hS 1).trans A;clear hS;go_simp;try with_reducible rfl⟩) ?_
    go_simp
   refine aM ?_;go_wp2_with{};go_ret;exact⟨⟨_,rfl,fun h=>(by cases h)⟩,o.out⟩
def MU(b:Nat)(sl:ar)(i:Nat)(a:Int)(w:ai)(e:Ending)(w':ai):Prop:=e=.returned (.agg #[I J 0,I J 0,U ⟨#[]⟩,Z N 0 0])/\jI (du b) w w'/\∃bad,w'.heap[b]? =O (qs sl i a bad)
theorem BC(b i:Nat)(d bad:Int)(sl:ar)(l:List Pc)(w:ai)(hi:i<=l.length)(hb:w.heap[b]? =O (qs sl i d bad))(hp:Dn b sl l w):Calls Tryz.prog 192 #[Ru (O ⟨b,0,N⟩)] w (MU b sl i d w):=by
 unfold MU;obtain⟨a,c,rfl⟩:=hp.slice;have H:=M (St.kX (F:=du b) hb A);have E:=M hp;clear hb hp;obtain⟨cs,x⟩:=St.cs H 0 A;simp only[ak]at cs;obtain⟨⟨y,g⟩,⟨z,j⟩,⟨B,k⟩,⟨C,m⟩, -⟩:=cs;by_cases u:bad<0;case neg=>go_in;go_wp2_with{};generalize e:aq w _=t;replace H:=bW e (St.alloc H.out _);exact au (cd _ _ 2 _ 204 _ _ _ A A (H.out.aR 0 A) (by kernel_rfl) (by kernel_rfl)) A ⟨rfl,H.out.low,_,H.out.aR 1 A⟩
 go_in;go_wp2_with{};generalize e:aq (af w _ _) _=Y;replace H:=bW e (St.alloc (St.aB H.out 0 A 3 _ A) _);simp only[ab,ae,size_set]at H;clear e y g z j B k C m x;by_cases n:i<l.length
 · obtain⟨p,f⟩:∃p,l[i]? =O p:=⟨_,an n⟩;obtain⟨Q,o', rfl,_,hq⟩:=(E.out.bF H.out.low).at f;have G:=M (fun W R=>(hq W R).2.2.2);have S:(i:Int)<(l.length:Int):=(by omega);have i0:(0:Int)<=(i:Int):=(by omega);clear hq f;replace H:=M H.out.drew;refine bM (fun W:ai=>W.heap[b]? =O (qs (Z (O ⟨Q,o', N⟩) l.length c) i d d)) (.R 0 (.R 1 (.R 2 (.R 3 (.R 4 (.R 5 (.R 6 (.R 7 (.R 8 (.R 9 .done)))))))))) (by kernel_rfl) (by kernel_rfl) (fun _ _ _ _ _ h=>h) (H.out.aR 1 A) ?_
   iterate 10
    first
     |refine aj A (dJ ⟨by rfl,rfl⟩) ?_
     |refine aj A (aI ⟨by rfl,fun W hS=>by have g0:=(ag hS 0).trans A;have g1:=(ag hS 1).trans A;clear hS;go_simp;try with_reducible rfl⟩) ?_
    go_simp
   refine aM ?_;go_wp2_with{};have D:=M (nK (du b) Y);generalize bD Y=L at*;refine jZ 14 (by kernel_rfl) (by kernel_rfl) ?_;simp only[di,eV,cU,dA];replace H:=M H.out.drew;have K:=G.out _ (D.out.trans (nK _ _) fun _ _ h=>h);generalize bD L=P at*;obtain⟨cs,x⟩:=St.cs H 1 A;simp only[ak]at cs;obtain⟨⟨y,g⟩,⟨z,j⟩,⟨B,k⟩,⟨C,m⟩, -⟩:=cs;obtain⟨cs,T⟩:=St.cs H 0 A;simp only[ak]at cs;obtain⟨⟨X,o⟩,⟨r1,q⟩,⟨r2,r⟩,⟨r3,s⟩, -⟩:=cs;have n1:=H.out.ne 0 1 A A (by decide);have n2:=H.out.ne 1 0 A A (by decide);repeat still_step
   refine wpStill_nil ?_;go_wp2_with{};generalize e:af (af (af (af (af P _ _) _ _) _ _) _ _) _ _=t;replace H:=bW e (St.aB (St.aB (St.aB (St.aB (St.aB H.out 1 A 3 _ A) 0 A 0 _ A) 0 A 1 _ A) 0 A 2 _ A) 0 A 3 _ A);simp only[ab,ae]at H;exact au (cd _ _ 2 _ 204 _ _ _ A A (H.out.aR 0 A) (by kernel_rfl) (by kernel_rfl)) A ⟨rfl,H.out.low,_,H.out.aR 1 A⟩
 · have S:¬(i:Int)<(l.length:Int):=(by omega);replace H:=M H.out.drew;refine bM (fun W:ai=>W.heap[b]? =O (qs (Z a l.length c) i d d)) (.R 0 (.R 1 (.R 2 (.R 3 (.R 4 (.R 5 (.R 6 (.R 7 (.R 8 (.R 9 .done)))))))))) (by kernel_rfl) (by kernel_rfl) (fun _ _ _ _ _ h=>h) (H.out.aR 1 A) ?_
   iterate 10
    first
     |refine aj A (dJ ⟨by rfl,rfl⟩) ?_
     |refine aj A (aI ⟨by rfl,fun W hS=>by have g0:=(ag hS 0).trans A;have g1:=(ag hS 1).trans A;clear hS;go_simp;try with_reducible rfl⟩) ?_
    go_simp
   refine aM ?_;generalize bD Y=V at*;obtain⟨cs,T⟩:=St.cs H 0 A;simp only[ak]at cs;obtain⟨⟨X,o⟩,⟨r1,q⟩,⟨r2,r⟩,⟨r3,s⟩, -⟩:=cs;go_wp2_with{};generalize e:af (af (af (af V _ _) _ _) _ _) _ _=t;replace H:=bW e (St.aB (St.aB (St.aB (St.aB H.out 0 A 0 _ A) 0 A 1 _ A) 0 A 2 _ A) 0 A 3 _ A);simp only[ab,ae]at H;exact au (cd _ _ 2 _ 204 _ _ _ A A (H.out.aR 0 A) (by kernel_rfl) (by kernel_rfl)) A ⟨rfl,H.out.low,_,H.out.aR 1 A⟩
end Go.Proofs.YtbcbefpninlfiaaGreatDoor
