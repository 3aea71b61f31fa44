import Derived.Test.YtbcbefpninlfiaaGreatDoorC7
import Derived.Test.YtbcbefpninlfiaaGreatDoorC6
set_option maxHeartbeats 64000000
set_option maxRecDepth 100000
set_option linter.all false
open Go.Obj renaming cells->Ra
open Go.Value renaming agg->Rj,bool->Ri,int->I,pointer->Ru,slice->Z,string->U,tuple->Rx
open Go.IntKind renaming i64->J
open Go renaming Calls->aJ,Value->ar,World->ai
open Option renaming none->N,some->O
open Go.Ending renaming returned->Rh
open Go.Proofs.Tryz renaming prog->ah
open Go.RowKit renaming Below->ay
open Go.Calls renaming mono->im
open List renaming range->bO,range_succ->fR
namespace Mor
def yY(a b:Vl):Bool:=decide (Gx a b=0)
def qj:List Vl ->List Vl ->Bool
 | [],[]=>true
 | [],_::_=>false
 |_::_,[]=>false
 |a::l,b::r=>yY a b&&qj l r
theorem Bu:∀{l r:List Vl},l.length≠r.length ->qj l r=false
 | [],[],h=>absurd rfl h
 | [],_::_,_=>rfl
 |_::_,[],_=>rfl
 |a::l,b::r,h=>by rw[qj,Bu (l:=l) (r:=r) (by simpa using h),Bool.and_false]
theorem GI(l r:List Vl)(k:Nat)(p q:Vl)(hp:l[k]? =O p)(hq:r[k]? =O q):qj (l.drop k) (r.drop k)=(yY p q&&qj (l.drop (k+1)) (r.drop (k+1))):=by obtain⟨h1,rfl⟩:=aA.1 hp;obtain⟨h2,rfl⟩:=aA.1 hq;rw[aY h1,aY h2,qj]
structure Ob where
 id:Int
 cls:Int
 bY:Int
 bG:List Vl
def tI(a b:Ob):Bool:=decide (a.id=b.id)&&(decide (a.cls=b.cls)&&(decide (a.bY=b.bY)&&qj a.bG b.bG))
end Mor
namespace Go.Proofs.YtbcbefpninlfiaaGreatDoor
open Go.Proofs.Tryz
section
open Go.RowKit Mor
abbrev lO(s:ByteArray)(p:Int):Obj:=Ra #[U s,I J p] 340 (0,0)
def gp(s:ByteArray)(a hi p:Int):Except Int (Int×Int):=match rn s p with
 |none=>.error 10
 |some (n,q)=>if n<a\/hi<n then .error 30 else .ok (n,q)
def mw(s:ByteArray)(p:Int):Except Int (ByteArray×Int):=match rt s p with
 |none=>.error 10
 |some (t,q)=>if ek t=true then .ok (t,q)else .error 30
def Dl{α:Type}(s:ByteArray)(b:Nat)(enc:α ->ar)(zero:ar)(d:Except Int (α×Int))(w:ai)(e:Ending)(w':ai):Prop:=
 w.grownBy w' (O b)/\match d with
 | .ok (n,q)=>e=Rh (Rx #[enc n,I J 0])/\w'.heap[b]? =O (lO s q)
 | .error x=>e=Rh (Rx #[zero,I J x])/\x≠0/\∃q,w'.heap[b]? =O (lO s q)
theorem QW{s:ByteArray}(hs:s.size<=281474976710656)(p:Int)(aE aF:Addr):∃n q x,(∀w,fW aE aF w ->aJ ah 36 #[U s,I J p] w fun e w'=>e=Rh (Rx #[I J n,I J q,I J x])/\ay w.heap.size w w') /\(x=0/\rn s p=O (n,q)\/x=10/\rn s p=N):=by
 cases h:rn s p with
 |some y=>exact⟨_,_,_,fun w he=>lX hs h aE aF w he, .inl ⟨rfl,rfl⟩⟩
 |none=>exact⟨_,_,_,fun w he=>AF hs h aE aF w he, .inr ⟨rfl,rfl⟩⟩
theorem Q4{s:ByteArray}(hs:s.size<=281474976710656)(p:Int)(aE aF:Addr):∃n q x,(∀w,fW aE aF w ->aJ ah 146 #[U s,I J p] w fun e w'=>e=Rh (Rx #[U n,I J q,I J x])/\ay w.heap.size w w') /\(x=0/\rt s p=O (n,q)\/x=10/\rt s p=N):=by
 cases h:rt s p with
 |some y=>exact⟨_,_,_,fun w he=>FQ hs h aE aF w he, .inl ⟨rfl,rfl⟩⟩
 |none=>exact⟨_,_,_,fun w he=>FP hs h aE aF w he, .inr ⟨rfl,rfl⟩⟩
theorem px(s:ByteArray)(hs:s.size<=281474976710656)(c hi p:Int)(b:Nat)(aE aF:Addr)(w:ai)(hb:w.heap[b]? =O (lO s p))(he:fW aE aF w):aJ ah 273 #[Ru (O ⟨b,0,N⟩),I J c,I J hi] w (Dl s b (fun n:Int=>I J n) (I J 0) (gp s c hi p) w):=by
 have a:w.heap[b]? =O (Ra #[U s,I J p] 340 (0,0)):=hb;have _:=CJ a;have f:=M he.drew;obtain⟨n,q,x,hc,hr⟩:=QW hs p aE aF;have d:=M hc;clear hb a he hc hs;rcases hr with⟨rfl,hr⟩|⟨rfl,hr⟩
 all_goals
  have g:=M hr;clear hr;go_in
  go_wp2_with(first
   |((with_reducible refine atR ?_);refine kZ (.R 0 (.R 1 (.R 2 (.R 3 (.R 4 (.R 5 (.R 6 (.R 7 (.call 8 (.R 9 (.R 10 (.R 11 (.R 12 (.R 13 (.R 14 (.R 15 .done)))))))))))))))) (by kernel_rfl) (by kernel_rfl) (fun _ _ _ _ _ h=>h) ?_)
   |(go_at_call 36;refine(d.out _ f.out).mono ?_;rintro e i⟨rfl,b1⟩;have _:=Di b1;refine hK _ _ fH ?_;clear hK K;go_simp)
   |((with_reducible refine IF ?_);first
     |(refine p' A A (fun W _=>by go_simp;try with_reducible rfl) ?_;go_simp)
     |(refine aH A (fun K hK=> ?_);go_simp)
     |refine aM ?_))
  all_goals go_ret2;refine⟨xh.grown, ?_⟩;unfold gp;rw[g.out];by_cases hc:n<c\/hi<n<;>simp only[Rs,Rq,hc,not_false_eq_true]<;>first|exact⟨rfl,by decide,_,kR⟩|exact⟨rfl,kR⟩|(exfalso;omega)
theorem Be(s:ByteArray)(hs:s.size<=281474976710656)(p:Int)(b:Nat)(aE aF:Addr)(w:ai)(hb:w.heap[b]? =O (lO s p))(he:fW aE aF w)(hT:jJ w):aJ ah 274 #[Ru (O ⟨b,0,N⟩)] w (Dl s b (fun t:ByteArray=>U t) (U ⟨#[]⟩) (mw s p) w):=by
 have a:w.heap[b]? =O (Ra #[U s,I J p] 340 (0,0)):=hb;have _:=CJ a;have g:=M he.drew;obtain⟨n,q,x,hc,hr⟩:=Q4 hs p aE aF;have f:=M hc;have j:=M (hT.below (ax _ w).drew)
 have c:rt s p=O (n,q) ->n.size<=9223372036854775807:=by
  intro hn;unfold rt at hn;cases hx:iM s p with
  |none=>rw[hx]at hn;cases hn
  |some y=>rw[hx]at hn;simp only[eZ,bu,cu]at hn;have:=(pU (t:=y.1) (q:=y.2) hx).2;rw[hn.1]at this;omega
 have i:=M c;clear hb a he hc hT hs c;rcases hr with⟨rfl,hr⟩|⟨rfl,hr⟩
 all_goals
  have d:=M hr;clear hr;go_in
  go_wp2_with(first
   |((with_reducible refine atR ?_);refine kZ (.R 0 (.R 1 (.R 2 (.R 3 (.R 4 (.R 5 (.R 6 (.R 7 (.call 8 (.R 9 (.R 10 (.R 11 (.R 12 (.R 13 (.R 14 (.R 15 .done)))))))))))))))) (by kernel_rfl) (by kernel_rfl) (fun _ _ _ _ _ h=>h) ?_)
   |(go_at_call 146;refine(f.out _ g.out).mono ?_;rintro e k⟨rfl,b1⟩;have hb1:=M b1;have _:=Di b1;refine hK _ _ fH ?_;clear hK K;go_simp)
   |((with_reducible refine IF ?_);first
     |(refine p' A A (fun W _=>by go_simp;try with_reducible rfl) ?_;go_simp)
     |(refine aH A (fun K hK=> ?_);go_simp)
     |refine aM ?_)
   |(go_at_call 234;refine fh (oM n _ (i.out d.out) (j.out.below hb1.out)) fun l _ _=> ?_;cases hq:ek n))
  all_goals go_ret2;refine⟨xh.grown, ?_⟩;unfold mw;rw[d.out];simp only[*];first|exact⟨rfl,by decide,_,kR⟩|exact⟨rfl,kR⟩
end
section
open Go.RowKit Mor
def i'(s:ByteArray)(k p:Int):Except Int ((Int×ByteArray)×Int):=
 if k=1 then(match gp s (-1000000000000000) 1000000000000000 p with| .ok (n,q)=>.ok ((n,⟨#[]⟩),q)| .error x=>.error x)
 else if k=2 then(match mw s p with| .ok (t,q)=>.ok ((0,t),q)| .error x=>.error x)
 else if k=3\/k=4 then(match gp s (-20) 100000 p with| .ok (n,q)=>if n=0 then .error 30 else .ok ((n,⟨#[]⟩),q)| .error x=>.error x)
 else .ok ((0,⟨#[]⟩),p)
def oq(s:ByteArray)(most p:Int):Except Int (Pv×Int):=match gp s 0 most p with
 | .error x=>.error x
 | .ok (k,q)=>match i' s k q with
  | .error x=>.error x
  | .ok (x,r)=>.ok (⟨k,x.1,x.2⟩,r)
def ns:ar:=Rj #[I J 0,I J 0,U ⟨#[]⟩,Z N 0 0]
structure Env(aE aF:Addr)(B:Nat)(w:ai):Prop where
 errs:fW aE aF w
 tabs:jJ w
 et:w.cell? ⟨2,0,N⟩=O (.iface 263 (Rj #[Ru (O ⟨8,95,N⟩)]))
 pow:∀i:Nat,i<20 ->w.cell? ⟨3,i,N⟩=O (.int .u64 ((10^i:Nat):Int))
 g:8<=B
 e:aE.block<B
 f:aF.block<B
 b:B<=w.heap.size
theorem qZ{B:Nat}{w w':ai}(h:jJ w)(hB:ay B w w')(hg:8<=B):jJ w':=by refine⟨fun c hc=> ?_,fun i hi=>⟨?_, ?_⟩⟩;{exact(hB.cell (p:=⟨Tryz.laysValid_ren.g 3,c,N⟩) (by show Tryz.laysValid_ren.g 3<B;have:Tryz.laysValid_ren.g 3<8:=(by decide);omega)).trans (h.1 c hc)};{exact(hB.cell (p:=⟨Tryz.laysValid_ren.g 4,2*i,N⟩) (by show Tryz.laysValid_ren.g 4<B;have:Tryz.laysValid_ren.g 4<8:=(by decide);omega)).trans (h.2 i hi).1};{exact(hB.cell (p:=⟨Tryz.laysValid_ren.g 4,2*i+1,N⟩) (by show Tryz.laysValid_ren.g 4<B;have:Tryz.laysValid_ren.g 4<8:=(by decide);omega)).trans (h.2 i hi).2}
theorem Env.low{aE aF:Addr}{B:Nat}{w w':ai}(h:Env aE aF B w)(hB:ay B w w') :Env aE aF B w':=
 ⟨h.errs.low hB (by have:=h.g;omega) h.e h.f,qZ h.tabs hB h.g,(hB.cell (p:=⟨2,0,N⟩) (by show 2<B;have:=h.g;omega)).trans h.et,fun i hi=>(hB.cell (p:=⟨3,i,N⟩) (by show 3<B;have:=h.g;omega)).trans (h.pow i hi),h.g,h.e,h.f,by have:=h.b;have:=hB.size;omega⟩
theorem Env.below{aE aF:Addr}{B:Nat}{w w':ai}(h:Env aE aF B w)(hB:ay w.heap.size w w') :Env aE aF B w':=h.low (hB.mono h.b)
theorem A9{B b:Nat}{w w':ai}(hg:w.grownBy w' (O b))(hb:B<=b)(hB:B<=w.heap.size):ay B w w':=(ax B w).grown hg hB fun k hk=>by cases hk;exact hb
theorem Env.grown{aE aF:Addr}{B b:Nat}{w w':ai}(h:Env aE aF B w)(hg:w.grownBy w' (O b))(hb:B<=b):Env aE aF B w':=h.low (A9 hg hb h.b)
theorem Env.alloc{aE aF:Addr}{B:Nat}{w:ai}(h:Env aE aF B w)(o:Obj):Env aE aF B (w.alloc o):=h.below ((ax _ _).alloc (av _) o)
theorem Env.apart{aE aF:Addr}{B b:Nat}{w:ai}(h:Env aE aF B w)(hb:B<=b):b≠0/\b≠1/\b≠aE.block/\b≠aF.block:=by have:=h.g;have:=h.e;have:=h.f;omega
theorem uj{a b c:ai}{r:Option Nat}{E size base:Nat}{v:ar}{es:List (List ar)}(h:a.grownBy b r)(ho:cA E size base v es b)(hb:a.heap.size<=base)(g:b.grownBy c v.ownBlock):a.grownBy c r:=by refine⟨g.os.trans h.os,g.tape.trans h.tape,g.output.trans h.output,bc h.size g.size,fun k hk hne=> ?_⟩;refine(g.block k (cJ hk h.size) (fun e=> ?_)).trans (h.block k hk hne);have:=(bp ho k e.symm).1;omega
theorem nh{s:ByteArray}{a hi p k q:Int}(h:gp s a hi p=.ok (k,q)):a<=k/\k<=hi:=by unfold gp at h;split at h;{cases h};{split at h;{cases h};{cases h;omega}}
theorem mi{s:ByteArray}{a hi p x:Int}(h:gp s a hi p=.error x):x≠0:=by unfold gp at h;split at h;{cases h;decide};{split at h;{cases h;decide};{cases h}}
theorem Bg{s:ByteArray}{p x:Int}(h:mw s p=.error x):x≠0:=by unfold mw at h;split at h;{cases h;decide};{split at h;{cases h};{cases h;decide}}
end
section
open Go.RowKit Mor
def eB(s:ByteArray):Nat ->Int ->Except Int (List Pv×Int)
 |0,p=>.ok ([],p)
 |n+1,p=>match oq s 4 p with
  | .error x=>.error x
  | .ok (v,q)=>match eB s n q with
   | .error x=>.error x
   | .ok (l,r)=>.ok (v::l,r)
def jK(s:ByteArray)(p:Int):Except Int (List Pv×Int):=match gp s 0 12 p with
 | .error x=>.error x
 | .ok (n,q)=>eB s n.toNat q
def yC(acc:List Pv):Except Int (List Pv×Int) ->Except Int (List Pv×Int)
 | .error x=>.error x
 | .ok (l,r)=>.ok (acc++l,r)
theorem yd{s:ByteArray}{n k:Nat}{a p:Int}{acc:List Pv}(hk:k<n)(h:eB s n a=yC acc (eB s (n -k) p)):(∀x,oq s 4 p=.error x ->eB s n a=.error x)/\∀v q,oq s 4 p=.ok (v,q) ->eB s n a=yC (acc++[v]) (eB s (n - (k+1)) q):=by
 rw[show n -k=(n - (k+1))+1 by omega,eB]at h;refine⟨fun x hx=>by rw[h,hx];rfl,fun v q hv=> ?_⟩;rw[h];simp only[hv];cases eB s (n - (k+1)) q with
 |error x=>rfl
 |ok y=>simp[yC]
theorem ue{s:ByteArray}{m p x:Int}(h:oq s m p=.error x):x≠0:=by unfold oq at h;split at h;{rename_i e;cases h;exact mi e};{split at h;{rename_i e2;cases h;unfold i' at e2;split at e2;{split at e2;{cases e2};{rename_i e3;cases e2;exact mi e3}};{split at e2;{split at e2;{cases e2};{rename_i e3;cases e2;exact Bg e3}};{split at e2;{split at e2;{split at e2;{cases e2;decide};{cases e2}};{rename_i e3;cases e2;exact mi e3}};{cases e2}}}};{cases h}}
theorem sV{s:ByteArray}:∀{n:Nat} {p x:Int},eB s n p=.error x ->x≠0
 |0,p,x,h=>by cases h
 |n+1,p,x,h=>by unfold eB at h;split at h;{rename_i e;cases h;exact ue e};{split at h;{rename_i e;cases h;exact sV e};{cases h}}
def oJ(p:Pv):List ar:=[I J p.k,I J p.n,U p.s,Z N 0 0]
theorem elemV:Elem ah 49 83 4 56:=ni (z:=Rj #[I J 0,I J 0,U ⟨#[]⟩,Z N 0 0]) underlying49 (by kernel_rfl) (by kernel_rfl) (by decide) (by decide)
def fO(base:Nat)(v:ar)(l:List Pv)(w:ai):Prop:=cA 83 4 base v (l.map oJ) w/\(l=[] ->v=Z N 0 0)
theorem fO.Qn{base:Nat}{v:ar}{l:List Pv}{w:ai}(h:fO base v l w)(k:l.length<1000000):IE w v l:=by
 have hm:cl 4 (fun _ e p=>e=oJ p) w v l:=cA.many h.1 (by
  intro e he;obtain⟨p,hp,rfl⟩:=fJ.1 he;exact⟨rfl,by intro x hx;simp[oJ]at hx;rcases hx with rfl|rfl|rfl|rfl<;>rfl⟩) (by simp) (by
  intro i e x he hx;rw[dT,hx]at he;simpa using he.symm)
 by_cases h0:l=[];{subst h0;left;exact⟨rfl,h.2 A⟩};{right;obtain⟨a,c,rfl⟩:=hm.slice;have d:=eO.2 h0;obtain⟨n,g⟩:∃p,l[0]? =O p:=⟨_,an d⟩;obtain⟨b,o,e,rfl,_⟩:=hm.at g;refine⟨h0,k,b,o,c,rfl,fun i p hp=> ?_⟩;obtain⟨m,o', e', j,f,hle,hc⟩:=hm.at hp;cases j;subst f;exact⟨hc 0 _ A,hc 1 _ A,hc 2 _ A,hc 3 _ A⟩}
theorem fO.alloc{base:Nat}{v:ar}{l:List Pv}{w:ai}(h:fO base v l w)(o:Obj):fO base v l (w.alloc o):=⟨cL h.1 o,h.2⟩
theorem fO.kept{base b:Nat}{v:ar}{l:List Pv}{w w':ai}(h:fO base v l w)(g:w.grownBy w' (O b))(hb:b<base):fO base v l w':=⟨World.ownsRow.kept h.1 g (by right;intro e;have:=(bp h.1 b e).1;omega),h.2⟩
def IJ(s:ByteArray)(b:Nat)(d:Except Int (List Pv×Int))(w:ai)(e:Ending)(w':ai):Prop:=
 w.grownBy w' (O b)/\match d with
 | .ok (l,q)=>(∃v,e=Rh (Rx #[v,I J 0])/\fO w.heap.size v l w') /\w'.heap[b]? =O (lO s q)
 | .error x=>e=Rh (Rx #[Z N 0 0,I J x])/\x≠0/\∃q,w'.heap[b]? =O (lO s q)
theorem ph{w w':ai}{E size base D:Nat}{v:ar}{es:List (List ar)}{o:Obj}(ho:cA E size base v es w)(hg:w.grownBy w' v.ownBlock)(a:w.heap[D]? =O o)(hne:D<base):w'.heap[D]? =O o:=
 (hg.block D (aV a) (fun e=>by have:=(bp ho D e.symm).1;omega)).trans a
def IU(base:Nat)(v:ar)(V:Vl)(w:ai):Prop:=∃sl,v=Rj #[I J V.k,I J V.n,U V.s,sl]/\fO base sl V.l w
theorem fO.set{base:Nat}{v:ar}{l:List Pv}{w:ai}(h:fO base v l w)(D j:Nat)(u:ar)(a:D<base):fO base v l (w.setCell ⟨D,j,N⟩ u):=⟨ownsRow_setCell_below h.1 a u,h.2⟩
theorem fO.mono{base base':Nat}{v:ar}{l:List Pv}{w:ai}(h:fO base v l w)(hb:base'<=base):fO base' v l w:=⟨⟨h.1.1,h.1.2.imp id fun⟨g,cap,cur,e,hg,r⟩=>⟨g,cap,cur,e,bc hb hg,r⟩⟩,h.2⟩
theorem fO.slice{base:Nat}{v:ar}{l:List Pv}{w:ai}(h:fO base v l w):∃a c,v=Z a l.length c:=by obtain⟨a,c,e⟩:=cA.slice h.1;exact⟨a,c,by rw[e,bq]⟩
theorem fO.below{base:Nat}{v:ar}{l:List Pv}{w w':ai}(h:fO base v l w)(hb:ay w.heap.size w w') :fO base v l w':=⟨cA.below h.1 hb,h.2⟩
def sZ(s:ByteArray)(p:Int):Except Int (Vl×Int):=match gp s 0 5 p with
 | .error x=>.error x
 | .ok (k,q)=>if k=5 then(match jK s q with| .ok (l,r)=>.ok (⟨5,0,⟨#[]⟩,l⟩,r)| .error x=>.error x)
  else match i' s k q with
  | .error x=>.error x
  | .ok (x,r)=>.ok (⟨k,x.1,x.2,[]⟩,r)
def Fg(s:ByteArray)(b:Nat)(d:Except Int (Vl×Int))(w:ai)(e:Ending)(w':ai):Prop:=
 w.grownBy w' (O b)/\match d with
 | .ok (V,q)=>(∃v,e=Rh (Rx #[v,I J 0])/\IU w.heap.size v V w') /\w'.heap[b]? =O (lO s q)
 | .error x=>e=Rh (Rx #[ns,I J x])/\x≠0/\∃q,w'.heap[b]? =O (lO s q)
def Jk(s:ByteArray)(most p:Int):Except Int (Vl×Int):=match gp s 0 most p with
 | .error x=>.error x
 | .ok (k,q)=>if k=5 then(match jK s q with| .ok (l,r)=>.ok (⟨5,0,⟨#[]⟩,l⟩,r)| .error x=>.error x)
  else match i' s k q with
  | .error x=>.error x
  | .ok (x,r)=>.ok (⟨k,x.1,x.2,[]⟩,r)
theorem FH{base:Nat}{v:ar}{l:List Pv}{W:ai}(h:fO base v l W):(⟨fun k=>v.ownBlock=O k,fO base v l⟩:cM).at W:=
 ⟨fun k hk=>(bp h.1 k hk).2,fun W' a=>⟨(j4 h.1).loc W' a,h.2⟩⟩
theorem J8(base:Nat)(W:ai):fO base (Z N 0 0) [] W:=⟨jj _ _ _ _,fun _=>rfl⟩
theorem F4(s:ByteArray)(hs:s.size<=281474976710656)(most p:Int)(hm:most<=5)(b B:Nat)(aE aF:Addr)(w:ai)(hb:w.heap[b]? =O (lO s p))(he:Env aE aF B w)(hB:B<=b)(d:most=5 ->∀q W,W.heap[b]? =O (lO s q) ->Env aE aF B W ->aJ ah 275 #[Ru (O ⟨b,0,N⟩)] W (IJ s b (jK s q) W)):aJ ah 263 #[Ru (O ⟨b,0,N⟩),I J most] w (Fg s b (Jk s most p) w):=by
 have _:=CJ hb;have a:=M fun W(g:w.grownBy W (O b))=>he.grown g hB;have HI:=M d;clear hb he d;go_in
 go_wp2_with(first
  |(go_at_call 273
    first
    |((with_reducible refine im (px s hs 0 most p b aE aF _ kR (a.out _ xh.grown).errs) ?_)
      rintro e f⟨g1,h1⟩
      rcases hk:gp s 0 most p with x|⟨k,q⟩<;>rw[hk]at h1<;>simp only at h1<;>first|(obtain⟨rfl,hb1⟩:=h1;have _:=mC g1 hb1;have z1:=g1.size;have hr:=nh hk;obtain rfl|rfl|rfl|rfl|rfl|rfl:k=0\/k=1\/k=2\/k=3\/k=4\/k=5:=by omega)|(obtain⟨rfl,hx,q1,hb1⟩:=h1;have _:=mC g1 hb1;have z1:=g1.size))
    |((with_reducible refine im (px s hs (-1000000000000000) 1000000000000000 q b aE aF _ kR (a.out _ xh.grown).errs) ?_)
      rintro e c⟨g2,h2⟩
      rcases hn:gp s (-1000000000000000) 1000000000000000 q with x|⟨n,r⟩<;>rw[hn]at h2<;>simp only at h2<;>first|(obtain⟨rfl,hb2⟩:=h2;have _:=mC g2 hb2;have z2:=g2.size)|(obtain⟨rfl,hx,q1,hb2⟩:=h2;have _:=mC g2 hb2;have z2:=g2.size))
    |((with_reducible refine im (px s hs (-20) 100000 q b aE aF _ kR (a.out _ xh.grown).errs) ?_)
      rintro e c⟨g2,h2⟩
      rcases hn:gp s (-20) 100000 q with x|⟨n,r⟩<;>rw[hn]at h2<;>simp only at h2<;>first|(obtain⟨rfl,hb2⟩:=h2;have _:=mC g2 hb2;have z2:=g2.size;by_cases h0:n=0)|(obtain⟨rfl,hx,q1,hb2⟩:=h2;have _:=mC g2 hb2;have z2:=g2.size)))
  |(go_at_call 274
    (with_reducible refine im (Be s hs q b aE aF _ kR (a.out _ xh.grown).errs (a.out _ xh.grown).tabs) ?_)
    rintro e c⟨g2,h2⟩
    rcases hn:mw s q with x|⟨n,r⟩<;>rw[hn]at h2<;>simp only at h2<;>first|(obtain⟨rfl,hb2⟩:=h2;have _:=mC g2 hb2;have z2:=g2.size)|(obtain⟨rfl,hx,q1,hb2⟩:=h2;have _:=mC g2 hb2;have z2:=g2.size))
  |(go_at_call 275
    (with_reducible refine im (HI.out (by omega) q _ kR (a.out _ xh.grown)) ?_)
    rintro e c⟨g2,h2⟩
    rcases hn:jK s q with x|⟨l,r⟩<;>rw[hn]at h2<;>simp only at h2<;>first|(obtain⟨⟨v,rfl,ho⟩,hb2⟩:=h2;obtain⟨va,vc,rfl⟩:=ho.slice;have _:=CH (.mL g2 fun _ e=>(dc e).symm) hb2 (FH ho) fun k hk=>(bp ho.1 k hk).1;have z2:=g2.size;clear ho)|(obtain⟨rfl,hx,q1,hb2⟩:=h2;have _:=mC g2 hb2;have z2:=g2.size)))
 all_goals
  (try simp only[Exit.inBlock,Exit.then]);refine Pt A A A A (by kernel_rfl) (by kernel_rfl) ⟨xh.grown, ?_⟩;simp only[Jk,i', if_true, *];first
  |exact⟨rfl,by assumption,_,kR⟩
  |exact⟨rfl,by decide,_,kR⟩
  |exact⟨⟨_,rfl,_,rfl,J8 _ _⟩,kR⟩
  |exact⟨⟨_,rfl,_,rfl,fO.mono (M7 (v:=Z va l.length vc)) (by simp only[aQ]at*;omega)⟩,kR⟩
theorem EZ(s:ByteArray)(hs:s.size<=281474976710656)(most p:Int)(hm:most<=4)(b B:Nat)(aE aF:Addr)(w:ai)(hb:w.heap[b]? =O (lO s p))(he:Env aE aF B w)(hB:B<=b):aJ ah 263 #[Ru (O ⟨b,0,N⟩),I J most] w (Dl s b DI ns (oq s most p) w):=by refine(F4 s hs most p (by omega) b B aE aF w hb he hB fun e=>by omega).mono ?_;rintro e w'⟨g,h⟩;refine⟨g, ?_⟩;unfold Jk at h;unfold oq;rcases hk:gp s 0 most p with x|⟨k,q⟩<;>simp only[hk]at h⊢;{exact h};{have:=nh hk;rw[Rq (by omega)]at h;rcases hf:i' s k q with x|⟨x,r⟩<;>simp only[hf]at h⊢;{exact h};{obtain⟨⟨v,rfl,sl,rfl,ho⟩,hb⟩:=h;obtain rfl:=ho.2 A;exact⟨rfl,hb⟩}}
theorem GR(s:ByteArray)(hs:s.size<=281474976710656)(p:Int)(b B:Nat)(aE aF:Addr)(w:ai)(hb:w.heap[b]? =O (lO s p))(he:Env aE aF B w)(hB:B<=b):aJ ah 275 #[Ru (O ⟨b,0,N⟩)] w (IJ s b (jK s p) w):=by
 have H:=aV hb;have z:=M hb;have T:=M he;have t:=M (px s hs 0 12 p b aE aF w hb he.errs);clear hb he;cases hk:gp s 0 12 p with
 |error x=>have hx:=mi hk;have E:=M (show jK s p=.error x by simp[jK,hk]);rw[E.out];rw[hk]at t;have ad:(x==0)=false:=(by simp[hx]);clear hk E;go_in;go_wp2_with{};refine t.out.mono ?_;rintro e w1⟨g1,rfl,_,q1,hb1⟩;have HG:=M g1;have j:=M hb1;clear g1 hb1;go_wp2_with{};go_ret2;exact⟨HG.out,rfl,hx,_,j.out⟩
 |ok y=>
  obtain⟨n,q0⟩:=y;have hr:=nh hk;obtain⟨a,rfl⟩:∃a:Nat,n=a:=⟨n.toNat,by omega⟩;have hN:a<=12:=(by omega);have E:=M (show jK s p=eB s a q0 by simp[jK,hk]);rw[E.out];rw[hk]at t;clear hk E hr;obtain⟨d,hd⟩:∃d,eB s a q0=d:=⟨_,rfl⟩;rw[hd];have HD:=M hd;clear hd;go_in;go_wp2_with{};refine t.out.mono ?_;rintro e w1⟨g1,rfl,hb1⟩;have D:=M g1;have j:=M hb1;have z1:=g1.size;clear g1 hb1;go_wp2_with{};go_loopw [6,18] (fun v i wr=>∃(k:Nat) (q:Int) (acc:List Pv),k<=a/\i=I J k/\acc.length=k/\Hid (eB s a q0=yC acc (eB s (a -k) q))/\wr.heap[b]? =O (lO s q)/\fO w.heap.size v acc wr/\w.grownBy wr (O b)/\Env aE aF B wr) (fun _ i _=>a - (intOf i).toNat);case atStart=>exact⟨0,q0,[],by omega,rfl,rfl,(by show eB s a q0=_;cases eB s (a - 0) q0<;>simp_all[yC]),j.out,⟨jj _ _ _ _,fun _=>rfl⟩,D.out,T.out.grown D.out hB⟩
  case round=>
   obtain⟨k,q,acc,hk,rfl,G,HJ,f,ho,hg,P⟩:=hrel;have g:=M hg;have zr:=hg.size;have aC:=aV f;by_cases K:k<a
   · have Y:=M (yd K HJ.out);have F:=M (EZ s hs 4 q (by omega) b B aE aF wr f P hB);have C:=M P;have L:=M ho;clear f P hg ho t T z;cases hp:oq s 4 q with
     |error x=>rw[hp]at F;have hx:=ue hp;have ad:(x==0)=false:=(by simp[hx]);have S:=M (show d=.error x from HD.out.symm.trans (Y.out.1 x hp));clear hp;go_wp2_with{};refine F.out.mono ?_;rintro e w2⟨g2,rfl,_,q2,hb2⟩;have o:=M (ch g.out g2);have l:=M hb2;clear g2 hb2;simp only[ns];go_wp2_with{};go_ret2;rw[S.out];exact⟨cB o.out _,rfl,hx,_,bE l.out _⟩
     |ok y=>
      obtain⟨u,q2⟩:=y;rw[hp]at F;have X:=M (Y.out.2 u q2 hp);clear hp Y;unfold DI at F;go_wp2_with{};refine F.out.mono ?_;rintro e w2⟨g2,rfl,hb2⟩;have o:=M (cB (ch g.out g2) (Ra #[I J u.k,I J u.n,U u.s,Z N 0 0] 83));have l:=M (bE hb2 (Ra #[I J u.k,I J u.n,U u.s,Z N 0 0] 83));have m:=M ((C.out.grown g2 hB).alloc (Ra #[I J u.k,I J u.n,U u.s,Z N 0 0] 83));have r:=(L.out.kept g2 H).alloc (Ra #[I J u.k,I J u.n,U u.s,Z N 0 0] 83);have z2:=g2.size;have zz:w.heap.size<=(w2.alloc (Ra #[I J u.k,I J u.n,U u.s,Z N 0 0] 83)).heap.size:=(by simp;omega);clear g2 hb2 L C g;go_wp2_with(at_builtin;refine rh A _ _ A elemV w.heap.size _ (acc.map oJ) [I J u.k,I J u.n,U u.s,Z N 0 0] (w2.alloc (Ra #[I J u.k,I J u.n,U u.s,Z N 0 0] 83)) A A r.1 (by simp;rfl) A (by intro x hx;simp at hx;rcases hx with rfl|rfl|rfl|rfl<;>rfl) ?_ ?_ ?_);{rw[bq];omega};{exact zz};intro v3 w3 o3 g3 b3;have ag:fO w.heap.size v3 (acc++[u]) w3:=⟨by rw[fQ];exact o3,fun h=>by simp at h⟩;have c:=r.alloc (Ra #[I J u.k,I J u.n,U u.s,Z N 0 0] 83);have Q:=M (ph c.1 g3 (bE l.out (Ra #[I J u.k,I J u.n,U u.s,Z N 0 0] 83)) H);have W:=M (uj (cB o.out (Ra #[I J u.k,I J u.n,U u.s,Z N 0 0] 83)) c.1 (av _) g3);have V:=M ((m.out.alloc (Ra #[I J u.k,I J u.n,U u.s,Z N 0 0] 83)).low (b3.mono (by have:=m.out.b;have:=m.out.e;omega)));clear o3 g3 b3 c r;go_wp2_with{};go_roundw;case rel=>exact⟨k+1,q2,acc++[u],by omega,by go_num,by simp[G],X.out,Q.out,ag,W.out,V.out⟩
      case measure=>simp[intOf];omega
   · have aa:=M (show d=.ok (acc,q) by
      have:=HJ.out;rw[HD.out,show a -k=0 by omega]at this;simpa[eB,yC]using this)
     have L:=M ho;have R:=M f;clear f P hg ho t T z;go_wp2_with{};go_ret2;rw[aa.out];exact⟨g.out,⟨_,rfl,L.out⟩,R.out⟩
end
section
open Go.RowKit Mor
theorem Iy(s:ByteArray)(hs:s.size<=281474976710656)(p:Int)(b B:Nat)(aE aF:Addr)(w:ai)(hb:w.heap[b]? =O (lO s p))(he:Env aE aF B w)(hB:B<=b):
 aJ ah 263 #[Ru (O ⟨b,0,N⟩),I J 5] w (Fg s b (sZ s p) w):=
 F4 s hs 5 p (Int.le_refl _) b B aE aF w hb he hB fun _ q W h1 h2=>GR s hs q b B aE aF W h1 h2 hB
theorem GC{s:ByteArray}{p x:Int}(h:sZ s p=.error x):x≠0:=by
 unfold sZ at h;cases hk:gp s 0 5 p with
 |error y=>rw[hk]at h;cases h;exact mi hk
 |ok y=>
  obtain⟨k,q⟩:=y;simp only[hk]at h;by_cases b:k=5
  · rw[Rs b]at h;cases a:jK s q with
    |error z=>rw[a]at h;cases h;unfold jK at a;split at a;{rename_i e2;cases a;exact mi e2};{exact sV a}
    |ok z=>rw[a]at h;cases h
  · rw[Rq b]at h;cases hf:i' s k q with
    |error z=>rw[hf]at h;cases h;exact ue (s:=s) (m:=5) (p:=p) (by simp only[oq,hk,hf])
    |ok z=>rw[hf]at h;cases h
theorem fO.drew{base:Nat}{v:ar}{l:List Pv}{w:ai}(h:fO base v l w):fO base v l w.drew:=h
def ke(s:ByteArray)(p:Int):Except Int (Vl×Int):=if p<0\/(s.size:Int)<p then .error 2 else sZ s p
def zq(d:Except Int (Vl×Int))(w:ai)(e:Ending)(w':ai):Prop:=ay w.heap.size w w'/\match d with
 | .ok (V,q)=>∃v,e=Rh (Rx #[v,I J q,I J 0])/\IU w.heap.size v V w'
 | .error x=>e=Rh (Rx #[ns,I J 0,I J x])/\x≠0
theorem Bj(s:ByteArray)(hs:s.size<=281474976710656)(p:Int)(B:Nat)(aE aF:Addr)(w:ai)(he:Env aE aF B w):aJ ah 241 #[U s,I J p] w (zq (ke s p) w):=by
 have _:=uJ w;have d:=M he;have f:=he.b;clear he;have a:Hid ((p<0\/(s.size:Int)<p) ->ke s p=.error 2):=M fun h=>Rs h;have c:Hid (¬(p<0\/(s.size:Int)<p) ->ke s p=sZ s p):=M fun h=>Rq h;by_cases h0:p<0;rotate_left;by_cases h1:(s.size:Int)<p
 all_goals
  go_in
  go_wp2_with(first
   |(go_at_call 263
     (with_reducible refine im (Iy s hs p _ B aE aF _ kR (d.out.below cW) (by omega)) ?_)
     rintro e g⟨g1,h2⟩
     rcases hd:sZ s p with x|⟨V,q⟩<;>rw[hd]at h2<;>simp only at h2<;>first|(obtain⟨⟨v,rfl,sl,rfl,ho⟩,hb2⟩:=h2;obtain⟨va,vc,rfl⟩:=ho.slice;simp only[aQ]at ho;have _:=CH (.mL g1 fun _ e=>(dc e).symm) hb2 (FH ho) fun k hk=>(by have:=(bp ho.1 k hk).1;simp only[aQ];omega);have z2:=g1.size;clear ho)|(obtain⟨rfl,hx,q1,hb2⟩:=h2;have _:=mC g1 hb2;have z2:=g1.size;unfold ns))
   |((with_reducible refine atR ?_);refine MS w.heap.size (.R 0 (.R 1 (.R 2 (.call 3 (.R 4 (.R 5 .done)))))) (by kernel_rfl) (by kernel_rfl) (fun _ _ _ _ _ h=>h) ?_)
   |((with_reducible refine IF ?_);first
     |(refine p' A A (fun W _=>by go_simp;try with_reducible rfl) ?_;go_simp)
     |(refine aH A (fun K hK=> ?_);go_simp;try(refine hK _ _ fH ?_;clear hK K;go_simp))
     |refine aM ?_))
  all_goals
   (try simp only[Exit.inBlock,Exit.then]);refine Pu A A A A A (by kernel_rfl) (by kernel_rfl) ⟨cW, ?_⟩;first|rw[a.out (by omega)]|rw[c.out (by omega),hd]
   simp only;first
   |exact⟨rfl,by assumption⟩
   |exact⟨rfl,by decide⟩
   |exact⟨_,rfl,_,rfl,fO.mono (M7 (v:=Z va V.l.length vc)) (by omega)⟩
end
section
open Go.RowKit Mor
def IX(w:ai)(e:List ar)(V:Vl):Prop:=∃sl,e=[I J V.k,I J V.n,U V.s,sl]/\IE w sl V.l/\Dg V
theorem IX.below{w w':ai}{e:List ar}{V:Vl}(h:IX w e V)(hB:ay w.heap.size w w') :IX w' e V:=by obtain⟨sl,h1,h2,h3⟩:=h;exact⟨sl,h1,h2.below hB,h3⟩
def qg(w:ai)(v:ar)(l:List Vl):Prop:=cl 4 IX w v l
theorem qg.below{w w':ai}{v:ar}{l:List Vl}(h:qg w v l)(hB:ay w.heap.size w w') :qg w' v l:=cl.below (fun _ _ hR=>hR.below hB) h hB
theorem KM{w:ai}{a:Option Addr}{n c i:Nat}{l:List Vl}{V:Vl}(h:qg w (Z a n c) l)(hx:l[i]? =O V):∃b o sa sn sc,a=O ⟨b,o,N⟩/\xW w (Rj #[I J V.k,I J V.n,U V.s,Z sa sn sc]) V/\Dg V/\w.cell? ⟨b,o+i*4,N⟩=O (I J V.k)/\w.cell? ⟨b,o+i*4+1,N⟩=O (I J V.n)/\w.cell? ⟨b,o+i*4+1+1,N⟩=O (U V.s)/\w.cell? ⟨b,o+i*4+1+1+1,N⟩=O (Z sa sn sc):=by obtain⟨b,o,e,ha,⟨sl,rfl,d,f⟩,_,hc⟩:=cl.at h hx;obtain⟨sa,sn,sc,rfl⟩:=d.slice;exact⟨b,o,sa,sn,sc,ha,⟨_,rfl,d⟩,f,hc 0 _ A,hc 1 _ A,hc 2 _ A,hc 3 _ A⟩
def K4(w:ai)(v:ar)(o:Ob):Prop:=∃sl,v=Rj #[I J o.id,I J o.cls,I J o.bY,sl]/\qg w sl o.bG
theorem K4.below{w w':ai}{v:ar}{o:Ob}(h:K4 w v o)(hB:ay w.heap.size w w') :K4 w' v o:=by obtain⟨sl,h1,h2⟩:=h;exact⟨sl,h1,h2.below hB⟩
theorem Ii(V b:Vl)(v u:ar)(w:ai)(hv:xW w v V)(hu:xW w u b):aJ ah 105 #[v,u] w fun e w'=>e=Rh (Ri (yY V b))/\ay w.heap.size w w':=by have g:=M (fun(o o':Obj)=>((ax w.heap.size w).alloc (av _) o).alloc (o:=o') (by simp));have j:=M (fun W(h:ay w.heap.size w W)=>Bd V b v u W (hv.below h) (hu.below h));obtain⟨sl,rfl,i⟩:=hv;obtain⟨a,n,c,rfl⟩:=i.slice;obtain⟨k,rfl,f⟩:=hu;obtain⟨a2,l,c2,rfl⟩:=f.slice;have E:=M (show yY V b=decide (Gx V b=0)from rfl);rw[E.out];clear i f E;generalize Gx V b=d at*;go_in;go_wp2_with{};refine(j.out _ (g.out _ _)).mono ?_;rintro e m⟨rfl,b1⟩;have B1:=M ((g.out _ _).trans (b1.mono (by simp;omega)));clear b1;go_wp2_with{};go_ret;exact⟨by simp;rfl,B1.out⟩
theorem Bz(l r:List Vl)(v u:ar)(w:ai)(hv:qg w v l)(hu:qg w u r):aJ ah 104 #[v,u, .func (.func 105) #[] #[]] w fun e w'=>e=Rh (Ri (qj l r))/\ay w.heap.size w w':=by
 have z:=cl.le hv;have D:=cl.le hu;obtain⟨a,c,rfl⟩:=cl.slice hv;obtain⟨a', Q,rfl⟩:=cl.slice hu;have H:=M hv;have G:=M hu;clear hv hu;by_cases hlen:l.length=r.length
 · obtain⟨d,hd⟩:∃d,qj l r=d:=⟨_,rfl⟩;rw[hd];have x:=M hd;clear hd;have hb1:((l.length:Int) !=(r.length:Int))=false:=(by simp[hlen]);have B:r.length<=l.length:=(by omega);have C:l.length<=r.length:=(by omega);clear hlen;go_in;go_wp2_with{};go_loopw [17] (fun i wr=>∃k:Nat,k<=l.length/\i=I J k/\Hid (qj l r=qj (l.drop k) (r.drop k))/\ay w.heap.size w wr) (fun i _=>l.length - (intOf i).toNat);case atStart=>exact⟨0,by omega,rfl,rfl,ax _ _⟩
   case round=>
    obtain⟨k,hk,rfl,s,hB⟩:=hrel;have f:=M hB;have F:=hB.size;clear hB;by_cases t:k<l.length
    · obtain⟨p,hp⟩:∃p,l[k]? =O p:=⟨_,an t⟩;obtain⟨q,hq⟩:∃q,r[k]? =O q:=⟨_,an (by omega)⟩;have h:=M (GI l r k p q hp hq);obtain⟨b,o,sa,sn,sc,rfl,hp1,_,K,Y,p3,p4⟩:=KM (H.out.below f.out) hp;obtain⟨P,o', ta,tn,tc,rfl,m,_,q1,q2,q3,q4⟩:=KM (G.out.below f.out) hq;have n:=M (fun W(y:ay wr.heap.size wr W)=>Ii p q _ _ W (hp1.below y) (m.below y));have g:=M (fun(o o':Obj)=>((ax wr.heap.size wr).alloc (av _) o).alloc (o:=o') (by simp));have R:(0:Int)<=(k:Int):=(by omega);have S:(k:Int)<(l.length:Int):=(by omega);have T:(k:Int)<(r.length:Int):=(by omega);have V:=fD K;have X:=fD q1;clear hp hq hp1 m;cases hs:yY p q;{rw[hs]at n h;clear hs;have j:=M (show d=false by rw[<-x.out,s.out,h.out];rfl);go_wp2_with{};refine(n.out _ (g.out _ _)).mono ?_;rintro e L⟨rfl,b1⟩;have B1:=M (f.out.trans (((g.out _ _).trans (b1.mono (by simp;omega))).mono F));clear b1;go_wp2_with{};go_ret;rw[j.out];exact⟨rfl,B1.out⟩}
      · rw[hs]at n h;clear hs;go_wp2_with{};refine(n.out _ (g.out _ _)).mono ?_;rintro e L⟨rfl,b1⟩;have B1:=M (f.out.trans (((g.out _ _).trans (b1.mono (by simp;omega))).mono F));clear b1;go_wp2_with{};go_roundw;case rel=>exact⟨k+1,by omega,by go_num,s.out.trans (by rw[h.out,cY]),B1.out⟩
        case measure=>simp[intOf];omega
    · have j:=M (show d=true by
       rw[<-x.out,s.out,a8 (by omega),a8 (by omega)];rfl)
      go_wp2_with{};go_ret;rw[j.out];exact⟨rfl,f.out⟩
 {have E:=M (show qj l r=false from Bu hlen);rw[E.out];have hb1:((l.length:Int) !=(r.length:Int))=true:=(by simp;omega);clear E;go_in;go_wp2_with{};go_ret;exact⟨rfl,ax _ _⟩}
theorem Ie(o u:Ob)(v x:ar)(w:ai)(hv:K4 w v o)(hu:K4 w x u):aJ ah 54 #[v,x] w fun e w'=>e=Rh (Ri (tI o u))/\ay w.heap.size w w':=by have i:=M (fun(o o':Obj)=>((ax w.heap.size w).alloc (av _) o).alloc (o:=o') (by simp));obtain⟨sl,rfl,l⟩:=hv;obtain⟨m,rfl,f⟩:=hu;have s:=M (fun W(n:ay w.heap.size w W)=>Bz o.bG u.bG sl m W (l.below n) (f.below n));obtain⟨a,c,rfl⟩:=cl.slice l;obtain⟨a2,c2,rfl⟩:=cl.slice f;clear l f;obtain⟨d,hd⟩:∃d,tI o u=d:=⟨_,rfl⟩;rw[hd];have g:=M hd;clear hd;unfold tI at g;by_cases h1:o.id=u.id;{have h:decide (o.id=u.id)=true:=(by simp[h1]);have p:(o.id==u.id)=true:=(by simp[h1]);clear h1;by_cases h2:o.cls=u.cls;{have j:decide (o.cls=u.cls)=true:=(by simp[h2]);have q:(o.cls==u.cls)=true:=(by simp[h2]);clear h2;by_cases h3:o.bY=u.bY;{have k:decide (o.bY=u.bY)=true:=(by simp[h3]);have r:(o.bY==u.bY)=true:=(by simp[h3]);clear h3;rw[h,j,k,cY,cY,cY]at g;go_in;go_wp2_with{};refine(s.out _ (i.out _ _)).mono ?_;rintro e t⟨rfl,b1⟩;have B1:=M ((i.out _ _).trans (b1.mono (by simp;omega)));clear b1;go_wp2_with{};go_ret;exact⟨by rw[<-g.out];simp,B1.out⟩};{have k:decide (o.bY=u.bY)=false:=(by simp[h3]);have r:(o.bY==u.bY)=false:=(by simp[h3]);have b:=M (show d=false by rw[<-g.out];simp[h,j,k]);clear h3;go_in;go_wp2_with{};go_ret;rw[b.out];exact⟨rfl,i.out _ _⟩}};{have j:decide (o.cls=u.cls)=false:=(by simp[h2]);have q:(o.cls==u.cls)=false:=(by simp[h2]);have b:=M (show d=false by rw[<-g.out];simp[h,j]);clear h2;go_in;go_wp2_with{};go_ret;rw[b.out];exact⟨rfl,i.out _ _⟩}};{have h:decide (o.id=u.id)=false:=(by simp[h1]);have p:(o.id==u.id)=false:=(by simp[h1]);have b:=M (show d=false by rw[<-g.out];simp[h]);clear h1;go_in;go_wp2_with{};go_ret;rw[b.out];exact⟨rfl,i.out _ _⟩}
end
section
open Go.RowKit Go.Shelf Mor
attribute [local go_sem] fS jO np
theorem Bn(a:Option Addr)(n c:Nat)(w:ai):aJ ah 178 #[Z a n c] w fun e w'=>e=Rh (.func (.func 206) #[] #[Ru (O ⟨w.heap.size,0,N⟩)])/\w.alloc (Ra #[Z a n c] 49)=w':=by go_in;go_wp2;go_ret;exact⟨rfl,rfl⟩
structure IM(wb:ai)(sl:ar)(l:List Vl)(vs:Nat ->ar):Prop where
 is:qg wb sl l
 at_:∀(i:Nat) (V:Vl),l[i]? =O V ->∃b o n c sa sn sc,sl=Z (O ⟨b,o,N⟩) n c/\vs i=Rj #[I J V.k,I J V.n,U V.s,Z sa sn sc]/\xW wb (vs i) V/\Dg V/\
  wb.cell? ⟨b,o+i*4,N⟩=O (I J V.k)/\wb.cell? ⟨b,o+i*4+1,N⟩=O (I J V.n)/\wb.cell? ⟨b,o+i*4+1+1,N⟩=O (U V.s)/\wb.cell? ⟨b,o+i*4+1+1+1,N⟩=O (Z sa sn sc)
theorem BN{wb:ai}{sl:ar}{l:List Vl}(h:qg wb sl l):∃vs,IM wb sl l vs:=by
 have g:=h;obtain⟨a,c,rfl⟩:=cl.slice h
 have hx:∀i:Nat,∃v:ar,∀V,l[i]? =O V ->∃b o n f sa sn sc,Value.slice a l.length c=Z (O ⟨b,o,N⟩) n f/\v=Rj #[I J V.k,I J V.n,U V.s,Z sa sn sc]/\xW wb v V/\Dg V/\
  wb.cell? ⟨b,o+i*4,N⟩=O (I J V.k)/\wb.cell? ⟨b,o+i*4+1,N⟩=O (I J V.n)/\wb.cell? ⟨b,o+i*4+1+1,N⟩=O (U V.s)/\wb.cell? ⟨b,o+i*4+1+1+1,N⟩=O (Z sa sn sc):=by
  intro i
  cases d:l[i]? with
  |none=>exact⟨Ri true,fun V h=>by cases h⟩
  |some V=>
   obtain⟨b,o,sa,sn,sc,rfl,hi,j,c0,c1,c2,c3⟩:=KM h d
   exact⟨_,fun m e=>by cases e;exact⟨b,o,_,_,sa,sn,sc,rfl,rfl,hi,j,c0,c1,c2,c3⟩⟩
 exact⟨fun i=>(hx i).choose,g,fun i V d=>(hx i).choose_spec V d⟩
theorem Jp(n Q B:Nat)(wb:ai)(sl:ar)(l:List Vl)(vs:Nat ->ar)(t:IM wb sl l vs)(d F:List Nat ->ai ->Prop)(g:∀pre W o,d pre W ->d pre (W.alloc o))
 (H:∀pre (i:Nat) W,i<l.length ->d pre W ->pre.length<l.length ->YieldAt Fence.wide (n - 1) ah Q #[vs i] W fun e W'=>(e=Rh (Ri true)/\d (pre++[i]) W'/\ay wb.heap.size W W') \/(e=Rh (Ri false)/\F (pre++[i]) W'))
 (W:ai)(Y:ay wb.heap.size wb W)(hB:W.cell? ⟨B,0,N⟩=O sl)(h0:d [] W):
 CallsIn Fence.wide n ah 206 #[.func (.yield Q) #[] #[],Ru (O ⟨B,0,N⟩)] W fun e W'=>(∃v,e=Rh v)/\
  ((∃ys,ys=bO l.length/\d ys W') \/(∃pre,(∃k,k<=l.length/\pre=bO k)/\F pre W')) :=by
 have S:=M H
 have x:=M g
 have R:=M t
 have K:=cl.le t.is
 obtain⟨a,c,rfl⟩:=cl.slice t.is
 clear H g t
 refine callsIn_of_wp func206 A trivial ?_ A
 simp only[ntmps206,dE,aS,a7,Nat.reduceAdd,Nat.reduceSub,cN,cO,dD,cS,bI,b_]
 gi_wp2
 gi_loopw [7] (fun v wr=>∃(j:Nat),j<=l.length/\v=I J (j:Int)/\d (bO j) wr/\ay wb.heap.size wb wr) (fun v _=>l.length - (intOf v).toNat)
 case atStart=>exact⟨0,by omega,rfl,h0,Y⟩
 case round=>
  obtain⟨j,hj,rfl,h,hb⟩:=hrel
  by_cases D:j<l.length
  · obtain⟨V,G⟩:∃V,l[j]? =O V:=⟨_,an D⟩;obtain⟨b,o,n', c', sa,sn,sc,T,ev,_,_,c0,c1,c2,c3⟩:=R.out.at_ j V G;cases T;have u:b<wb.heap.size:=fD c0;have k0:=(hb.cell (p:=⟨b,_,N⟩) u).trans c0;have k1:=(hb.cell (p:=⟨b,_,N⟩) u).trans c1;have k2:=(hb.cell (p:=⟨b,_,N⟩) u).trans c2;have k3:=(hb.cell (p:=⟨b,_,N⟩) u).trans c3;obtain⟨X,E,f,z,r,q⟩:=S.out (bO j) j (wr.alloc (Ra #[I J V.k,I J V.n,U V.s,Z sa sn sc] 83)) (by omega) (x.out _ _ _ h) (by simp;omega);have y:=M q;rw[ev]at r;have zb:=hb.size;have w:=M (hb.alloc zb (Ra #[I J V.k,I J V.n,U V.s,Z sa sn sc] 83));clear q c0 c1 c2 c3 ev G;have L:(0:Int)<=(j:Int):=(by omega);have P:(j:Int)<(l.length:Int):=(by omega);gi_wp2;clear r;refine y.out.mono ?_;rintro e W2(⟨rfl,C,hb2⟩|⟨rfl,m⟩)
    · gi_wp2;go_roundw;case rel=>exact⟨j+1,by omega,by go_num,by rw[fR];exact C,w.out.trans hb2⟩
      case measure=>simp[intOf];omega
    {gi_wp2;refine au (results_none A _ _ _) A ?_;exact⟨⟨_,rfl⟩, .inr ⟨_,⟨j+1,by omega,by rw[fR]⟩,m⟩⟩}
  · gi_wp2;go_end0;obtain rfl:j=l.length:=(by omega);exact⟨⟨_,rfl⟩, .inl ⟨_,rfl,h⟩⟩
theorem grownBy_alloc(W:ai)(o:Obj):W.grownBy (W.alloc o) N:=cB (c_ (ax _ _)) o
theorem uS(n B:Nat)(wb:ai)(sl:ar)(l:List Vl)(vs:Nat ->ar)(s:IM wb sl l vs)(w:ai)(d:ay wb.heap.size wb w)(hB:B<w.heap.size)(hc:w.cell? ⟨B,0,N⟩=O sl):
 SeqStopsK Fence.wide n ah 206 #[Ru (O ⟨B,0,N⟩)] (fun i:Fin l.length=> #[vs i.val]) (fun W W'=>ay wb.heap.size W W')
  (fun ys=>ys.map Fin.val=bO l.length) (fun pre=>∃k,k<=l.length/\pre.map Fin.val=bO k) l.length w:=by
 intro t a g W f h j m h0
 refine(Jp n t B wb sl l vs s (fun pre W=>∃q:List (Fin l.length),q.map Fin.val=pre/\a q W) (fun pre W=>∃q:List (Fin l.length),q.map Fin.val=pre/\g q W)
  (fun pre W o⟨q,hq,b⟩=>⟨q,hq,h q W _ N b (grownBy_alloc W o) (fun r e=>by cases e)⟩) ?_ W (d.trans (f.mono d.size)) ((f.cell (p:=⟨B,0,N⟩) hB).trans hc) ⟨[],rfl,h0⟩).mono ?_
 · rintro pre i W1 hi⟨q,rfl,b⟩hlen;refine(m q ⟨i,hi⟩ W1 b (by simpa using hlen)).mono ?_;rintro e W'(⟨he,c,hk⟩|⟨he,c⟩);{exact .inl ⟨he,⟨q++[⟨i,hi⟩],by simp,c⟩,hk⟩};{exact .inr ⟨he,⟨q++[⟨i,hi⟩],by simp,c⟩⟩}
 · rintro e W'⟨hv,⟨ys,rfl,q,hq,b⟩|⟨pre,⟨k,hk,rfl⟩,q,hq,b⟩⟩;{exact⟨hv, .inl ⟨q,hq,b⟩⟩};{exact⟨hv, .inr ⟨q,⟨k,hk,hq⟩,b⟩⟩}
end
end Go.Proofs.YtbcbefpninlfiaaGreatDoor
