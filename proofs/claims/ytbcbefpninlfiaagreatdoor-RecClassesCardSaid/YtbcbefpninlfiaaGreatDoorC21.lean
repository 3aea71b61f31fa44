import Derived.Test.YtbcbefpninlfiaaGreatDoorC19
set_option maxHeartbeats 64000000
set_option maxRecDepth 100000
set_option linter.all false
open Go.Value renaming agg->Rj,int->I,pointer->Ru,slice->Z,string->U
open Go.IntKind renaming i64->J
open Go renaming Calls->aJ,Value->ar,World->ai
open Go.Proofs.Tryz renaming prog->ah
open Go.RowKit renaming Below->ay
open Go.Ending renaming returned->Rh
open Option renaming none->N,some->O
namespace Go.Proofs.YtbcbefpninlfiaaGreatDoor
open Go.RowKit Mor
section
def iZ(s:ByteArray)(p:Int):Obj:=.cells #[U s,I J p] 119 (0,0)
def jL:Ending:=.panicked [{v:=.iface 115 (Rj #[I J 110]),recovered:=false}]
abbrev AX{α:Type}(V:ai ->ar ->α ->Prop)(G:Nat ->Prop)(v:ar)(x:α):cM:=⟨G,fun W=>V W v x⟩
def Dq{α:Type}(f:FuncId)(z:ar)(V:ai ->ar ->α ->Prop)(s:ByteArray)(p:Int)(d:Option (α×Int))(w:ai):Prop:=
 aJ ah f #[U s,I J p] w fun e w'=>ay w.heap.size w w'/\match d with
 |none=>∃q n,e=Rh (.tuple #[z,I J q,I J n])/\(n==0)=false
 |some (x,q)=>∃v G,e=Rh (.tuple #[v,I J q,I J 0])/\(AX V G v x).at w'/\∀k,G k ->w.heap.size<=k
def nB{α:Type}(V:ai ->ar ->α ->Prop)(s:ByteArray)(d:Option (α×Int))(b:Nat)(w:ai)(e:Ending)(w':ai):Prop:=jI (du b) w w'/\match d with
 |none=>e=jL
 |some (x,q)=>∃v G,e=Rh v/\(AX V G v x).at w'/\(∀k,G k ->w.heap.size<=k)/\w'.heap[b]? =O (iZ s q)
def VN(_:ai)(v:ar)(n:Int):Prop:=v=I J n
def VT(_:ai)(v:ar)(t:ByteArray):Prop:=v=U t/\t.size<=9223372036854775807
def VG(_:ai)(v:ar)(g:Cg):Prop:=v=ss g/\AR g
def VO(W:ai)(v:ar)(o:Ob):Prop:=∃sl,v=Rj #[I J o.id,I J o.cls,I J o.bY,sl]/\qg W sl o.bG
theorem mv{α:Type}{V:ai ->ar ->α ->Prop}{v:ar}{x:α}{W:ai}(h:∀W,V W v x):(AX V ej v x).at W:=⟨fun _ f=>f.elim,fun _ _=>h _⟩
theorem Ap{E size base:Nat}{v:ar}{es:List (List ar)}{W W':ai}(h:cA E size base v es W)(hs:∀k,base<=k/\k<W.heap.size ->W'.heap[k]? =W.heap[k]?):cA E size base v es W':=
 (j4 h).loc W' fun k hk=>hs k (bp h k hk)
theorem NJ{base:Nat}{v:ar}{es:List (List ar)}{l:List Vl}{W:ai}(h:rL base v es l W):(⟨fun k=>base<=k/\k<W.heap.size,fun W=>qg W v l⟩:cM).at W:=
 ⟨fun _ hk=>hk.2,fun _ hs=>(h.map (base':=base) (Ap h.own hs) fun _ _ k _=>⟨Ap k.1 hs,k.2⟩).NP⟩
theorem Eu{base:Nat}{v:ar}{l:List iF}{w:ai}:qq base v l w<->cA 131 4 base v (l.map ug) w:=by unfold qq cA;rw[bq,List.flatMap_def]
theorem NM{base:Nat}{v:ar}{l:List iF}{W:ai}(h:qq base v l W)(hs:∀f∈l,f.name.size<=9223372036854775807):(⟨fun k=>base<=k/\k<W.heap.size,fun W=>je W v l⟩:cM).at W:=
 ⟨fun _ hk=>hk.2,fun _ a=>tj (Eu.2 (Ap (Eu.1 h) a)) hs⟩
theorem JE{w:ai}{a:Option Addr}{n c:Nat}{l:List iF}(h:je w (Z a n c) l):∀f∈l,f.name.size<=9223372036854775807:=by intro f hf;obtain⟨i,hi⟩:=List.mem_iff_getElem?.1 hf;obtain⟨_,_,_,h1,_⟩:=lP h hi;exact h1
theorem Py{s:ByteArray}{p q:Int}{t:ByteArray}(h:rt s p=O (t,q)):t.size<=9223372036854775807:=by
 unfold rt at h;cases hx:iM s p with
 |none=>rw[hx]at h;cases h
 |some x=>rw[hx]at h;cases h;have:=(pU hx).2;omega
theorem Lp{s:ByteArray}{p q:Int}{g:Cg}(h:qB s p=O (g,q)):AR g:=by
 unfold qB at h;split at h;{cases h}
 · rename_i hc;simp only[bu,cu]at h;obtain⟨rfl,_⟩:=h
   have hw:ep (oY s p).1=true:=by cases hx:ep (oY s p).1 with
    |true=>rfl
    |false=>exact absurd (.inr hx) hc
   have:=AR.of hw;unfold AR;omega
section
variable {s:ByteArray} (hs:s.size<=281474976710656) (p:Int) {aE aF:Addr} {B:Nat} {w:ai} (he:Env aE aF B w)
include hs he
theorem kY:Dq 36 (I J 0) VN s p (rn s p) w:=by
 unfold Dq;cases h:rn s p with
 |none=>exact(AF hs h aE aF w he.errs).mono fun e w'⟨h1,h2⟩=>⟨h2,_,_,h1,rfl⟩
 |some x=>exact(lX hs h aE aF w he.errs).mono fun e w'⟨h1,h2⟩=>⟨h2,_,ej,h1,mv fun _=>rfl,fun _ f=>f.elim⟩
theorem Cn:Dq 146 (U ⟨#[]⟩) VT s p (rt s p) w:=by
 unfold Dq;cases h:rt s p with
 |none=>exact(FP hs h aE aF w he.errs).mono fun e w'⟨h1,h2⟩=>⟨h2,_,_,h1,rfl⟩
 |some x=>exact(FQ hs h aE aF w he.errs).mono fun e w'⟨h1,h2⟩=>⟨h2,_,ej,h1,mv fun _=>⟨rfl,Py h⟩,fun _ f=>f.elim⟩
theorem Mp:Dq 137 (Rj #[U ⟨#[]⟩,Z N 0 0]) qp s p (jg s p) w:=by
 unfold Dq;have h:=Bh s hs p aE aF w he.errs;cases hd:jg s p with
 |none=>rw[hd]at h;exact h.mono fun e w'⟨h1,h2⟩=>⟨h2,_,_,h1,rfl⟩
 |some x=>rw[hd]at h;refine h.mono fun e w'⟨sl,h1,⟨h2,h3,h4⟩,d⟩=>⟨d,_,fun k=>w.heap.size+1<=k/\k<w'.heap.size,h1, ?_,fun k hk=>by omega⟩;obtain⟨a,c,rfl⟩:=cl.slice h3;have b:=NM h2 (JE h3);exact⟨b.dom,fun W f=>⟨_,rfl,b.loc W f,h4⟩⟩
theorem Mo:Dq 140 Df VG s p (qB s p) w:=by
 unfold Dq;have h:=Jh s hs p aE aF w he.errs he.tabs (bc he.g he.b);cases hd:qB s p with
 |none=>rw[hd]at h;exact h.mono fun e w'⟨h2,h1⟩=>⟨h2,_,_,h1,rfl⟩
 |some x=>rw[hd]at h;exact h.mono fun e w'⟨h2,h1⟩=>⟨h2,_,ej,h1,mv fun _=>⟨rfl,Lp hd⟩,fun _ f=>f.elim⟩
theorem Mq:Dq 143 pZ VO s p (oh s p) w:=by
 unfold Dq;have h:=Bi s hs p B aE aF w he;cases hd:oh s p with
 |none=>rw[hd]at h;exact h.mono fun e w'⟨h2,h1⟩=>⟨h2,_,_,h1,rfl⟩
 |some x=>rw[hd]at h;refine h.mono fun e w'⟨h2,sl,es,h1,h3⟩=>⟨h2,_,fun k=>w.heap.size<=k/\k<w'.heap.size,h1, ?_,fun k hk=>hk.1⟩;have a:=NJ h3;exact⟨a.dom,fun W b=>⟨_,rfl,a.loc W b⟩⟩
end
theorem eD{s:ByteArray}{p:Int}{b:Nat}{W:ai}(h:W.heap[b]? =O (iZ s p)):W.cell? ⟨b,0,N⟩=O (U s)/\W.cell? ⟨b,1,N⟩=O (I J p)/\W.frozen? ⟨b,1,N⟩=false/\b<W.heap.size:=⟨(ag h 0).trans A,(ag h 1).trans A,aW h 1,aV h⟩
theorem Rn{P:Program}{f:FuncId}{args:Array ar}{W:ai}{R:Ending ->ai ->Prop}(h:aJ P f args W R):aJ P f args W R:=h
set_option synthInstance.maxHeartbeats 400000 in
set_option synthInstance.maxSize 2000 in
theorem Re{s:ByteArray}{p:Int}(b:Nat)(w:ai)(hb:w.heap[b]? =O (iZ s p)):(∀d:Option (Int×Int),(∀W,ay w.heap.size w W ->Dq 36 (I J 0) VN s p d W) ->aJ ah 107 #[Ru (O ⟨b,0,N⟩), .func (.func 36) #[] #[]] w (nB VN s d b w))/\(∀d:Option (ByteArray×Int),(∀W,ay w.heap.size w W ->Dq 146 (U ⟨#[]⟩) VT s p d W) ->aJ ah 145 #[Ru (O ⟨b,0,N⟩), .func (.func 146) #[] #[]] w (nB VT s d b w))/\(∀d:Option (pd×Int),(∀W,ay w.heap.size w W ->Dq 137 (Rj #[U ⟨#[]⟩,Z N 0 0]) qp s p d W) ->aJ ah 136 #[Ru (O ⟨b,0,N⟩), .func (.func 137) #[] #[]] w (nB qp s d b w))/\(∀d:Option (Cg×Int),(∀W,ay w.heap.size w W ->Dq 140 Df VG s p d W) ->aJ ah 139 #[Ru (O ⟨b,0,N⟩), .func (.func 140) #[] #[]] w (nB VG s d b w))/\(∀d:Option (Ob×Int),(∀W,ay w.heap.size w W ->Dq 143 pZ VO s p d W) ->aJ ah 142 #[Ru (O ⟨b,0,N⟩), .func (.func 143) #[] #[]] w (nB VO s d b w)):=by
 have f:w.heap[b]? =O (.cells #[U s,I J p] 119 (0,0)):=hb;have _:=CJ f;clear hb f;refine⟨?_, ?_, ?_, ?_, ?_⟩<;>intro d hR<;>(try unfold Df at hR)<;>(try unfold pZ at hR)<;>have g:=M hR<;>clear hR
 case refine_1|refine_2=>
  go_in
  go_wp2_with(first
   |((with_reducible refine atR ?_);refine kZ (vZ 0 9 (.call 9 (vZ 10 7 .done))) (by kernel_rfl) (by kernel_rfl) (fun _ _ _ _ _ h=>h) ?_)
   |((with_reducible refine IF ?_);first
     |(refine p' A A (fun W _=>by go_simp;try with_reducible rfl) ?_;go_simp)
     |(refine dY ?_ ?_)
     |(refine aH A (fun K hK=> ?_);go_simp;try(refine hK _ _ fH ?_;clear hK K;go_simp))
     |refine aM ?_)
   |((with_reducible refine Rn ?_);refine(g.out _ jd.b).mono ?_;rintro e i⟨a,h2⟩;rcases d with _|⟨y,q⟩<;>(first|(obtain⟨v,G,rfl,hv,c⟩:=h2;have hf:∀k,G k ->w.heap.size<=k:=(fun k hk=>bc jd.b.size (c k hk));(first|obtain rfl:=hv.hold|obtain⟨rfl, -⟩:=hv.hold);have _:=CI a hv c)|(obtain⟨q,n,rfl,h3⟩:=h2;have _:=Di a))<;>(refine hK _ _ fH ?_;clear hK K;go_simp)))
  all_goals first
   |exact⟨rfl,xh,rfl⟩
   |(go_ret;exact⟨xh,_,_,rfl,OI 0 A,hf,kR⟩)
 case refine_3|refine_4|refine_5=>
  go_in
  go_wp2_with(first
   |((with_reducible refine atR ?_);refine kZ (vZ 0 9 (.two 9 (vZ 10 4 (.call 14 (.call 15 (.R 16 (.R 17 .done))))) 14 (.call 9 (vZ 10 4 (.call 15 (.R 16 (.R 17 .done))))))) (by kernel_rfl) (by kernel_rfl) (fun _ _ _ _ _ h=>h) ?_)
   |((with_reducible refine IF ?_);first
     |(refine p' A A (fun W _=>by go_simp;try with_reducible rfl) ?_;go_simp)
     |(refine dY ?_ ?_)
     |(refine aH A (fun K hK=> ?_);go_simp;try(refine hK _ _ fH ?_;clear hK K;go_simp))
     |refine aM ?_)
   |((with_reducible refine Rn ?_);refine(g.out _ jd.b).mono ?_;rintro e i⟨a,h2⟩;rcases d with _|⟨y,q⟩<;>(first|(obtain⟨v,G,rfl,hv,c⟩:=h2;have hf:∀k,G k ->w.heap.size<=k:=(fun k hk=>bc jd.b.size (c k hk));(first|(obtain⟨rfl, -⟩:=hv.hold;unfold ss at*)|(obtain⟨sl,rfl,hs⟩:=hv.hold;(first|obtain⟨sa,sc,rfl⟩:=cl.slice hs|obtain⟨sa,sc,rfl⟩:=cl.slice hs.1);clear hs));have _:=CI a hv c)|(obtain⟨q,n,rfl,h3⟩:=h2;have _:=Di a))<;>(refine hK _ _ fH ?_;clear hK K;go_simp)))
  all_goals first
   |exact⟨rfl,xh,rfl⟩
   |(refine au (cd _ _ 4 _ _ _ _ (0,0) A A kR (by kernel_rfl) (by kernel_rfl)) A ?_;exact⟨xh,_,G,rfl,(by first|exact OI 0 A|exact OI 1 A|exact OI 2 A),hf,kR⟩)
section
variable {s:ByteArray} {p:Int} (b:Nat) (w:ai) (hb:w.heap[b]? =some (iZ s p))
include hb
theorem p_{d:Option (Int×Int)}(hR:∀W,ay w.heap.size w W ->Dq 36 (I J 0) VN s p d W):aJ ah 107 #[Ru (O ⟨b,0,N⟩), .func (.func 36) #[] #[]] w (nB VN s d b w):=(Re b w hb).1 _ hR
theorem M9{d:Option (ByteArray×Int)}(hR:∀W,ay w.heap.size w W ->Dq 146 (U ⟨#[]⟩) VT s p d W):aJ ah 145 #[Ru (O ⟨b,0,N⟩), .func (.func 146) #[] #[]] w (nB VT s d b w):=(Re b w hb).2.1 _ hR
theorem Pd{d:Option (pd×Int)}(hR:∀W,ay w.heap.size w W ->Dq 137 (Rj #[U ⟨#[]⟩,Z N 0 0]) qp s p d W):aJ ah 136 #[Ru (O ⟨b,0,N⟩), .func (.func 137) #[] #[]] w (nB qp s d b w):=(Re b w hb).2.2.1 _ hR
theorem Pe{d:Option (Cg×Int)}(hR:∀W,ay w.heap.size w W ->Dq 140 Df VG s p d W):aJ ah 139 #[Ru (O ⟨b,0,N⟩), .func (.func 140) #[] #[]] w (nB VG s d b w):=(Re b w hb).2.2.2.1 _ hR
theorem Pf{d:Option (Ob×Int)}(hR:∀W,ay w.heap.size w W ->Dq 143 pZ VO s p d W):aJ ah 142 #[Ru (O ⟨b,0,N⟩), .func (.func 143) #[] #[]] w (nB VO s d b w):=(Re b w hb).2.2.2.2 _ hR
end
end
def A6(a n:Int):Bool:=decide (n<1)|| decide (a<n)
def nO(a:Int):Nat ->List Int ->Int
 |_,[]=> -1
 |k,n::l=>if A6 a n=true then k else nO a (k+1) l
theorem DT(a:Int)(l:List Int)(k:Nat)(n:Int)(h:l[k]? =O n):nO a k (l.drop k)=if A6 a n=true then(k:Int)else nO a (k+1) (l.drop (k+1)):=by obtain⟨h1,rfl⟩:=aA.1 h;rw[aY h1,nO]
theorem yy(a:Int):∀(k:Nat) (l:List Int),decide (0<=nO a k l)= !(l.all fun n=>decide (1<=n/\n<=a))
 |k,[]=>rfl
 |k,n::l=>by rw[nO,List.all_cons];by_cases h:A6 a n=true;{rw[Rs h];have h2:¬(1<=n/\n<=a):=(by unfold A6 at h;simp only[Bool.or_eq_true,Rt]at h;omega);rw[Rw h2,Rv (by omega)];rfl};{rw[Rq h];have h2:1<=n/\n<=a:=(by unfold A6 at h;simp only[Bool.or_eq_true,Rt]at h;omega);rw[Rv h2,cY];exact yy a (k+1) l}
theorem BI(n a:Int)(p:Nat)(w:ai)(hc:w.cell? ⟨p,1,N⟩=O (I J a)):aJ ah 123 #[I J n,Ru (O ⟨p,0,N⟩)] w fun e w'=>e=Rh (.bool (A6 a n))/\ay w.heap.size w w':=by have b:=M (ax w.heap.size w);by_cases d0:n<1;rotate_left;by_cases d1:a<n;all_goals go_in;go_wp2_with{};go_ret;exact⟨by simp[A6, *],b.out⟩
theorem BP(l:List Int)(a:Int)(p b o c:Nat)(w:ai)(hc:w.cell? ⟨p,1,N⟩=O (I J a))(r:lJ w (Z (O ⟨b,o,N⟩) l.length c) l)(z:l.length<=9223372036854775807):aJ ah 160 #[Z (O ⟨b,o,N⟩) l.length c, .func (.func 123) #[] #[Ru (O ⟨p,0,N⟩)]] w fun e w'=>e=Rh (I J (nO a 0 l))/\ay w.heap.size w w':=by
 have u:=M r;have x:=M hc;clear r hc;go_in;go_wp2_with{};go_loopw [8] (fun i wr=>∃k:Nat,k<=l.length/\i=I J k/\Hid (nO a 0 l=nO a k (l.drop k))/\ay w.heap.size w wr) (fun i _=>l.length - (intOf i).toNat);case atStart=>exact⟨0,by omega,rfl,rfl,ax _ _⟩
 case round=>
  obtain⟨k,hk,rfl,m,hB⟩:=hrel;by_cases q:k<l.length
  · obtain⟨n,hn⟩:∃n,l[k]? =O n:=⟨_,an q⟩;have g:=M (DT a l k n hn);obtain⟨C,o', y,c0⟩:=(u.out.below hB).at hn;cases y;have D:(0:Int)<=(k:Int):=(by omega);have E:(k:Int)<(l.length:Int):=(by omega);have h:=M (BI n a p wr (aU x.out hB));have d:=M hB;have s:=hB.size;clear hn hB;cases hr:A6 a n
    · rw[hr]at h;have f:=M (show nO a k (l.drop k)=nO a (k+1) (l.drop (k+1)) by rw[g.out,hr];rfl);clear hr g;go_wp2_with{};refine h.out.mono ?_;rintro e B⟨rfl,b1⟩;have j:=M (d.out.trans (b1.mono s));clear b1;go_wp2_with{};go_roundw;case rel=>exact⟨k+1,by omega,by go_num,m.out.trans f.out,j.out⟩
      case measure=>simp[intOf];omega
    {rw[hr]at h;have f:=M (show nO a k (l.drop k)=k by rw[g.out,hr];rfl);clear hr g;go_wp2_with{};refine h.out.mono ?_;rintro e B⟨rfl,b1⟩;have j:=M (d.out.trans (b1.mono s));clear b1;go_wp2_with{};go_ret;rw[m.out,f.out];exact⟨by simp,j.out⟩}
  {have t:=M (show nO a k (l.drop k)= -1 by rw[a8 (by omega)];rfl);have d:=M hB;clear hB;go_wp2_with{};go_ret;rw[m.out,t.out];exact⟨rfl,d.out⟩}
theorem D1(a:Option Addr)(c:Nat)(g:ar)(w:ai):aJ ah 160 #[Z a 0 c,g] w fun e w'=>e=Rh (I J (-1))/\ay w.heap.size w w':=by go_in;go_wp2_with{};refine wp_loop_rounds 1 ?_;rw[rounds_succ];go_wp2_with{};go_ret;exact⟨rfl,ax _ _⟩
theorem D0(l:List Int)(sl:ar)(d:Int)(p:Nat)(w:ai)(hc:w.cell? ⟨p,1,N⟩=O (I J d))(f:lJ w sl l):aJ ah 160 #[sl, .func (.func 123) #[] #[Ru (O ⟨p,0,N⟩)]] w fun e w'=>e=Rh (I J (nO d 0 l))/\ay w.heap.size w w':=by
 obtain⟨a,c,rfl⟩:=f.slice;cases l with
 |nil=>exact D1 _ _ _ _
 |cons n l=>obtain⟨b,o,rfl,_⟩:=f.at (i:=0) (x:=n) A;exact BP _ d p b o c w hc f (Sl.le f)
theorem x_(l:List Int)(sl:ar)(b:Int)(p:Nat)(w:ai)(hc:w.cell? ⟨p,1,N⟩=O (I J b))(d:lJ w sl l):aJ ah 122 #[sl, .func (.func 123) #[] #[Ru (O ⟨p,0,N⟩)]] w fun e w'=>e=Rh (.bool (!(l.all fun n=>decide (1<=n/\n<=b))))/\ay w.heap.size w w':=by have h:=M (D0 l sl b p w hc d);have g:=M (yy b 0 l);obtain⟨a,c,rfl⟩:=d.slice;clear d hc;generalize nO b 0 l=z at*;go_in;go_wp2_with{};refine h.out.mono ?_;rintro e i⟨rfl,b1⟩;have f:=M b1;clear b1;go_wp2_with{};go_ret;exact⟨by rw[g.out];rfl,f.out⟩
theorem wS(b:Bt)(f va:Option Addr)(rc vc:Nat)(w:ai)(c:lJ w (Z va b.bj.length vc) b.bj):aJ ah 74 #[Rj #[I J b.kind,I J b.n,I J b.next,Z f b.recs.length rc,Z va b.bj.length vc]] w fun e w'=>e=Rh (.bool (kB b))/\ay w.heap.size w w':=by have _:=uJ w;have a:=M c;clear c;by_cases d0:b.next<1;rotate_left;by_cases d1:100001<b.next;rotate_left;by_cases d2:b.n<1;rotate_left;by_cases d3:700<b.recs.length;rotate_left;by_cases g:b.kind=1;by_cases i:b.recs.length=0;rotate_left 2;by_cases h:b.kind=2;by_cases d:b.bj.length=b.recs.length;all_goals(try rw[d]at a);go_in;go_wp2_with(go_at_call 122;refine fh (x_ b.bj _ b.n _ _ OP (a.out.below cW)) fun j _ _=> ?_);all_goals go_ret;refine⟨?_,cW⟩;unfold kB;simp[*];try first|omega|(rw[Rv (by omega:b.recs.length<=700),cY];cases b.bj<;>simp<;>omega)
def eG{α:Type}(l:List α)(k:Nat)(x:α):List α:=l.take k++x::l.drop k
theorem mJ{α:Type}{l:List α}{k i:Nat}{x:α}(hk:k<=l.length)(h:i<k):(eG l k x)[i]? =l[i]? :=by unfold eG;rw[bS (by simp;omega),List.getElem?_take_of_lt h]
theorem nT{α:Type}{l:List α}{k:Nat}{x:α}(hk:k<=l.length):(eG l k x)[k]? =O x:=by unfold eG;rw[bZ (by simp;omega)];simp[Nat.min_eq_left hk]
theorem nU{α:Type}{l:List α}{k i:Nat}{x:α}(hk:k<=l.length)(h:k<i):(eG l k x)[i]? =l[i - 1]? :=by unfold eG;rw[bZ (by simp;omega),bL,Nat.min_eq_left hk];obtain⟨d,rfl⟩:∃d,i=k+(d+1):=⟨i -k - 1,by omega⟩;rw[Nat.add_sub_cancel_left,List.getElem?_cons_succ,List.getElem?_drop];congr 1
theorem hH{α:Type}{l:List α}{k:Nat}{x:α}(hk:k<=l.length):(eG l k x).length=l.length+1:=by unfold eG;simp;omega
theorem um{α:Type}{l:List α}{k:Nat}{x y:α}(h:y∈eG l k x):y=x\/y∈l:=by unfold eG at h;rcases gL.1 h with h|h;{exact .inr (eE h)};{rcases bh.1 h with h|h;{exact .inl h};{exact .inr (List.mem_of_mem_drop h)}}
def kl(x:It):Nat ->List It ->Nat
 |k,[]=>k
 |k,y::l=>if qy y x<0 then kl x (k+1) l else k
theorem yM(x:It):∀(l:List It) (k:Nat),k<=kl x k l/\kl x k l<=k+l.length
 | [],k=>by simp[kl]
 |y::l,k=>by unfold kl;have:=yM x l (k+1);split<;>simp only[aS]<;>omega
theorem yN(x:It):∀(l:List It) (k i:Nat) (y:It),i<kl x k l -k ->l[i]? =O y ->qy y x<0
 | [],k,i,y,h,hy=>by simp at hy
 |z::l,k,i,y,h,hy=>by
  unfold kl at h;split at h
  · rename_i a;cases i with
    |zero=>simp at hy;subst hy;exact a
    |succ i=>exact yN x l (k+1) i y (by omega) (by simpa using hy)
  {omega}
theorem vj{x:It}{l:List It}{k:Nat}{y:It}(hy:l[k]? =O y):kl x k (l.drop k)=if qy y x<0 then kl x (k+1) (l.drop (k+1))else k:=by obtain⟨h1,rfl⟩:=aA.1 hy;rw[aY h1,kl]
def mM(b:Bt)(r:Rc)(n:Int):Bt:=
 let x:It:=(if b.kind=2 then n else 0,r)
 let k:=kl x 0 (gH b)
 if∃y,(gH b)[k]? =O y/\¬qy x y<0 then b
 else{b with recs:=eG b.recs k r,bj:=if b.kind=2 then eG b.bj k n else b.bj}
structure xV(b:Bt):Prop where
 head:1<=b.next/\b.next<=100001/\1<=b.n
 kind:(b.kind=1/\b.bj=[])\/(b.kind=2/\b.bj.length=b.recs.length/\∀v∈b.bj,1<=v/\v<=b.n)
 recs:∀r∈b.recs,(jA r).isSome=true/\r.obj.id<b.next
 Qf:Asc (gH b)
theorem xV.len{b:Bt}(h:xV b):b.kind=2 ->b.bj.length=b.recs.length:=fun k=>by rcases h.kind with h|h<;>omega
theorem xV.right{b:Bt}(h:xV b)(c:b.recs.length<=700)(a:0<b.recs.length):dU b=true:=by obtain⟨h1,h2,h3,h4⟩:=h;refine Hz.2 ⟨?_,h3,h4⟩;unfold kB;rw[Rv (show 1<=b.next/\b.next<=100001/\1<=b.n/\b.recs.length<=700 from⟨h1.1,h1.2.1,h1.2.2,c⟩),cY];rcases h2 with⟨k,e⟩|⟨k,e1,e2⟩;{rw[Rs k,e];simp[a]};{rw[Rq (by omega),Rs k,Rv e1,cY,ba];intro v hv;exact Rv (e2 v hv)}
theorem Jz{b:Bt}{r:Rc}{n:Int}(h:xV b)(hr:(jA r).isSome=true)(hi:r.obj.id<b.next)(hn:b.kind=2 ->1<=n/\n<=b.n):xV (mM b r n)/\(mM b r n).kind=b.kind/\(mM b r n).n=b.n/\(mM b r n).next=b.next/\(mM b r n).recs.length<=b.recs.length+1/\(b.recs=[] ->(mM b r n).recs=[r])/\∀q∈(mM b r n).recs,q=r\/q∈b.recs:=by
 obtain⟨x,hx⟩:∃x:It,(if b.kind=2 then n else 0,r)=x:=⟨_,rfl⟩;obtain⟨k,hk⟩:∃k,kl x 0 (gH b)=k:=⟨_,rfl⟩;have g:=uu h.len;have a:k<=b.recs.length:=by have:=(yM x (gH b) 0).2;omega
 unfold mM;simp only[hx,hk];by_cases hc:∃y,(gH b)[k]? =O y/\¬qy x y<0;{rw[Rs hc];refine⟨h,rfl,rfl,rfl,by omega,fun e=> ?_,fun q hq=>.inr hq⟩;obtain⟨y,hy,_⟩:=hc;have:=(aA.1 hy).1;rw[g,e]at this;simp at this};{rw[Rq hc];have hlen:b.kind=2 ->(eG b.bj k n).length=(eG b.recs k r).length:=fun e=>by{have:=h.len e;rw[hH a,hH (by omega)];omega};refine⟨⟨h.head, ?_, ?_, ?_⟩,rfl,rfl,rfl,by simp only;rw[hH a];omega,fun e=> ?_,fun q hq=>um hq⟩;{rcases h.kind with⟨e,e2⟩|⟨e,e1,e2⟩;{left;exact⟨e,by simp only;rw[Rq (by omega)];exact e2⟩};{right;refine⟨e,by simp only;rw[Rs e];exact hlen e, ?_⟩;simp only;rw[Rs e];intro v hv;rcases um hv with rfl|hv;{exact hn e};{exact e2 v hv}}};{intro q hq;rcases um hq with rfl|hq;{exact⟨hr,hi⟩};{exact h.recs q hq}};{have f:∀(i:Nat) (y:It),(gH {b with recs:=eG b.recs k r,bj:=if b.kind=2 then eG b.bj k n else b.bj})[i]? =O y<->(eG (gH b) k x)[i]? =O y:=by{intro i y;rw[nv (b:={b with recs:=eG b.recs k r,bj:=if b.kind=2 then eG b.bj k n else b.bj}) (fun e=>by simp only;rw[Rs e];exact hlen e)];simp only;rcases Nat.lt_trichotomy i k with c|rfl|hgt;{rw[mJ a c,mJ (by omega) c,nv h.len];by_cases e:b.kind=2;{simp only[Rs e];rw[mJ (by have:=h.len e;omega) c]};{simp only[Rq e]}};{rw[nT a,nT (by omega)];obtain⟨v,q⟩:=y;by_cases e:b.kind=2;{simp only[Rs e]at hx⊢;rw[nT (by have:=h.len e;omega),<-hx];simp only[bu,kI,cu];exact⟨fun h=>⟨h.2.symm,h.1⟩,fun h=>⟨h.2,h.1.symm⟩⟩};{simp only[Rq e]at hx⊢;rw[<-hx];simp only[bu,cu];exact⟨fun h=>⟨h.2.symm,h.1⟩,fun h=>⟨h.2,h.1.symm⟩⟩}};{rw[nU a hgt,nU (by omega) hgt,nv h.len];by_cases e:b.kind=2;{simp only[Rs e];rw[nU (by have:=h.len e;omega) hgt]};{simp only[Rq e]}}};intro i y z hy d;rw[f]at hy d;rcases Nat.lt_trichotomy (i+1) k with c|he|hgt;{rw[mJ (by omega) (by omega)]at hy;rw[mJ (by omega) c]at d;exact h.Qf i y z hy d};{rw[mJ (by omega) (by omega)]at hy;rw[he,nT (by omega)]at d;cases d;exact yN x (gH b) 0 i y (by omega) hy};{rw[nU (by omega) hgt,Nat.add_sub_cancel]at d;by_cases he:i=k;{rw[he,nT (by omega)]at hy;cases hy;rw[he]at d;exact Classical.byContradiction fun hn=>hc ⟨z,d,hn⟩};{rw[nU (by omega) (by omega)]at hy;have:=h.Qf (i - 1) y z hy (by rw[show i - 1+1=i by omega];exact d);exact this}}};{have:k=0:=(by rw[e]at a;simpa using a);simp[e,this,eG]}}
end Go.Proofs.YtbcbefpninlfiaaGreatDoor
