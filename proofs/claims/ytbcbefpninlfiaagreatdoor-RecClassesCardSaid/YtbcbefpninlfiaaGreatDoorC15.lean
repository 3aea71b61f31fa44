import Derived.Test.YtbcbefpninlfiaaGreatDoorC14
import Derived.Test.YtbcbefpninlfiaaGreatDoorC12
import Derived.Test.YtbcbefpninlfiaaGreatDoorC11
set_option maxHeartbeats 64000000
set_option maxRecDepth 100000
set_option linter.all false
open Bool renaming or_eq_true->k7
open Go renaming Calls->aJ,World->ai
open Go.Proofs.Tryz renaming prog->ah
open Go.Value renaming bool->Ri,int->I,slice->Z,string->U,tuple->Rx
open Go.Ending renaming returned->Rh
open Go.IntKind renaming i64->J
open Go.World renaming alloc->aq,setCell->af
open Option renaming none->N,some->O
open Array renaming eq_empty_of_size_eq_zero->gb
namespace Go.Proofs.YtbcbefpninlfiaaGreatDoor
open Go.RowKit Mor
def kO(i:Nat)(b:Nat):Bool:=eR b||(decide (i≠0)&&nc b)
theorem yH{s:ByteArray}{k:Nat}(hk:k<s.size)(h:∀i (hi:i<s.size),i<k ->kO i s[i].toNat=true)(h2:kO k s[k].toNat=true):∀i (hi:i<s.size),i<k+1 ->kO i s[i].toNat=true:=by intro i hi a;by_cases e:i=k;{subst e;exact h2};{exact h i hi (by omega)}
theorem Cc{i b:Nat}(h:kO i b=true):nc b=true:=by unfold kO at h;rcases k7 _ _▸h with h|h;{unfold nc;rw[h];rfl};{exact(aK _ _▸h).2}
theorem JR{s:ByteArray}(h1:0<s.size)(c:s.size<=20)(h:∀i (hi:i<s.size),i<s.size ->kO i s[i].toNat=true):dn s=true:=by
 have h0:=h 0 h1 h1;rw[qN h1 c (by unfold kO at h0;simpa using h0)];unfold oN;rw[ba];intro b hb;obtain⟨i,hi,rfl⟩:=List.mem_iff_getElem.1 hb;have a:i<s.size:=by simpa using hi
 exact Cc (h i a a)
theorem Fz{s:ByteArray}{k:Nat}(hk:k<s.size)(h:kO k s[k].toNat=false):dn s=false:=by unfold kO at h;rw[Bool.or_eq_false_iff,Bool.and_eq_false_iff]at h;by_cases hx:s.size<1\/20<s.size;{exact tp hx};by_cases hf:eR s[0].toNat=false;{exact uY (by omega) hf};rw[qN (by omega) (by omega) (by simpa using hf)];by_cases h0:k=0;{subst h0;exact absurd h.1 hf};{refine zi s.data.toList k s[k] (vT hk) ?_;rcases h.2 with h2|h2;{simp[h0]at h2};{exact h2}}
theorem jG(s:ByteArray)(w:ai)(hs:s.size<=9223372036854775807):aJ ah 82 #[U s] w fun e w'=>e=Rh (Ri (dn s))/\Below w.heap.size w w':=by
 by_cases hx:s.size<1\/20<s.size;{have E:=M (tp hx);rw[E.out];clear E;rcases hx with hx|hx;{skip;have d0:decide ((s.size:Int)<1)=true:=Rv (by omega);clear hx;go_in;go_wp2_with{};go_ret;exact⟨rfl,ax _ _⟩};{skip;have d0:decide ((s.size:Int)<1)=false:=Rw (by omega);have d1:decide (20<(s.size:Int))=true:=Rv (by omega);clear hx;go_in;go_wp2_with{};go_ret;exact⟨rfl,ax _ _⟩}};have h1:0<s.size:=by omega
 have o:s.size<=20:=by omega
 have d0:decide ((s.size:Int)<1)=false:=Rw (by omega);have d1:decide (20<(s.size:Int))=false:=Rw (by omega);clear hx;obtain⟨p,ha⟩:∃x,dn s=x:=⟨_,rfl⟩;have n:=M ha;rw[ha];clear ha;go_in;go_wp2_with{};clear d0 d1;go_loop [3] (fun i=>∃k:Nat,k<=s.size/\i=I J k/\Hid (∀i (hi:i<s.size),i<k ->kO i s[i].toNat=true)) (fun i=>s.size - (intOf i).toNat);case atStart=>exact⟨0,by omega,rfl,M fun i _ h=>absurd h (by omega)⟩
 case round=>
  obtain⟨k,hk,rfl,m⟩:=hrel;by_cases j:k<s.size
  · by_cases l:k=0
    · skip;subst l;have c:=M (fun h=>n.out.symm.trans (Fz j h));have f:=M (yH j m.out);have a:=M (show kO 0 s[0].toNat=(decide ((97:Int)<=(s[0].toNat:Int)/\(s[0].toNat:Int)<=(122:Int))||(decide (0≠0)&&nc s[0].toNat))from by unfold kO eR;congr 1;exact decide_eq_decide.2 (by omega));have d:=M (rK s[0].toNat);obtain⟨x,hx⟩:∃x:Int,(s[0].toNat:Int)=x:=⟨_,rfl⟩;rw[hx]at a d;have r:0<=x/\x<256:=(by have:=s[0].toNat_lt;omega);obtain⟨ok,g⟩:∃ok,kO 0 s[0].toNat=ok:=⟨_,rfl⟩;rw[g]at c f a;clear g m;rcases(show x<48\/(48<=x/\x<=57)\/(57<x/\x≠95/\x<97)\/x=95\/(97<=x/\x<=122)\/122<x by omega)with h|h|h|h|h|h;{obtain⟨d1,d2,d3,d4,d5⟩:decide (97<=x)=false/\decide (x<=122)=true/\decide (48<=x)=false/\decide (x<=57)=true/\(x==95)=false:=(by simp;omega);have b:=M (c.out (a.out.trans (by rw[Rw (show¬(97<=x/\x<=122) by omega)];rfl)));clear a d f c h;go_wp2_with{};go_ret;exact⟨by rw[b.out];rfl,ax _ _⟩};{obtain⟨d1,d2,d3,d4,d5⟩:decide (97<=x)=false/\decide (x<=122)=true/\decide (48<=x)=true/\decide (x<=57)=true/\(x==95)=false:=(by simp;omega);have b:=M (c.out (a.out.trans (by rw[Rw (show¬(97<=x/\x<=122) by omega)];rfl)));clear a d f c h;go_wp2_with{};go_ret;exact⟨by rw[b.out];rfl,ax _ _⟩};{obtain⟨d1,d2,d3,d4,d5⟩:decide (97<=x)=false/\decide (x<=122)=true/\decide (48<=x)=true/\decide (x<=57)=false/\(x==95)=false:=(by simp;omega);have b:=M (c.out (a.out.trans (by rw[Rw (show¬(97<=x/\x<=122) by omega)];rfl)));clear a d f c h;go_wp2_with{};go_ret;exact⟨by rw[b.out];rfl,ax _ _⟩};{obtain⟨d1,d2,d3,d4,d5⟩:decide (97<=x)=false/\decide (x<=122)=true/\decide (48<=x)=true/\decide (x<=57)=false/\(x==95)=true:=(by simp;omega);have b:=M (c.out (a.out.trans (by rw[Rw (show¬(97<=x/\x<=122) by omega)];rfl)));clear a d f c h;go_wp2_with{};go_ret;exact⟨by rw[b.out];rfl,ax _ _⟩}
      · obtain⟨d1,d2,d3,d4,d5⟩:decide (97<=x)=true/\decide (x<=122)=true/\decide (48<=x)=true/\decide (x<=57)=false/\(x==95)=false:=(by simp;omega);have b:=M (f.out (a.out.trans (by rw[Rv (show 97<=x/\x<=122 by omega)];rfl)));clear a d f c h;go_wp2_with{};go_round;case rel=>exact⟨0+1,by omega,by go_num,b⟩
        case measure=>simp[intOf];omega
      {obtain⟨d1,d2,d3,d4,d5⟩:decide (97<=x)=true/\decide (x<=122)=false/\decide (48<=x)=true/\decide (x<=57)=false/\(x==95)=false:=(by simp;omega);have b:=M (c.out (a.out.trans (by rw[Rw (show¬(97<=x/\x<=122) by omega)];rfl)));clear a d f c h;go_wp2_with{};go_ret;exact⟨by rw[b.out];rfl,ax _ _⟩}
    · skip;have t:(0:Int)<=(k:Int):=(by omega);have q:(k:Int)<(s.size:Int):=(by omega);have d6:((k:Int)==0)=false:=(by simp[l]);have hz3:¬(k:Int)=0:=(by omega);have c:=M (fun h=>n.out.symm.trans (Fz j h));have f:=M (yH j m.out);have a:=M (show kO k s[k].toNat=(decide ((97:Int)<=(s[k].toNat:Int)/\(s[k].toNat:Int)<=(122:Int))||(decide (k≠0)&&nc s[k].toNat))from by unfold kO eR;congr 1;exact decide_eq_decide.2 (by omega));have d:=M (rK s[k].toNat);obtain⟨x,hx⟩:∃x:Int,(s[k].toNat:Int)=x:=⟨_,rfl⟩;rw[hx]at a d;have r:0<=x/\x<256:=(by have:=s[k].toNat_lt;omega);obtain⟨ok,g⟩:∃ok,kO k s[k].toNat=ok:=⟨_,rfl⟩;rw[g]at c f a;clear g m;rcases(show x<48\/(48<=x/\x<=57)\/(57<x/\x≠95/\x<97)\/x=95\/(97<=x/\x<=122)\/122<x by omega)with h|h|h|h|h|h;{obtain⟨d1,d2,d3,d4,d5⟩:decide (97<=x)=false/\decide (x<=122)=true/\decide (48<=x)=false/\decide (x<=57)=true/\(x==95)=false:=(by simp;omega);have b:=M (c.out (a.out.trans (by rw[d.out,Rw (show¬(97<=x/\x<=122) by omega),Rv l,show eR s[k].toNat=false from Rw (by omega)];simp;omega)));clear a d f c h;go_wp2_with{};go_ret;exact⟨by rw[b.out];rfl,ax _ _⟩}
      · obtain⟨d1,d2,d3,d4,d5⟩:decide (97<=x)=false/\decide (x<=122)=true/\decide (48<=x)=true/\decide (x<=57)=true/\(x==95)=false:=(by simp;omega);have b:=M (f.out (a.out.trans (by rw[d.out,Rw (show¬(97<=x/\x<=122) by omega),Rv l,show eR s[k].toNat=false from Rw (by omega)];simp;omega)));clear a d f c h;go_wp2_with{};go_round;case rel=>exact⟨k+1,by omega,by go_num,b⟩
        case measure=>simp[intOf];omega
      {obtain⟨d1,d2,d3,d4,d5⟩:decide (97<=x)=false/\decide (x<=122)=true/\decide (48<=x)=true/\decide (x<=57)=false/\(x==95)=false:=(by simp;omega);have b:=M (c.out (a.out.trans (by rw[d.out,Rw (show¬(97<=x/\x<=122) by omega),Rv l,show eR s[k].toNat=false from Rw (by omega)];simp;omega)));clear a d f c h;go_wp2_with{};go_ret;exact⟨by rw[b.out];rfl,ax _ _⟩}
      · obtain⟨d1,d2,d3,d4,d5⟩:decide (97<=x)=false/\decide (x<=122)=true/\decide (48<=x)=true/\decide (x<=57)=false/\(x==95)=true:=(by simp;omega);have b:=M (f.out (a.out.trans (by rw[d.out,Rw (show¬(97<=x/\x<=122) by omega),Rv l,show eR s[k].toNat=false from Rw (by omega)];simp;omega)));clear a d f c h;go_wp2_with{};go_round;case rel=>exact⟨k+1,by omega,by go_num,b⟩
        case measure=>simp[intOf];omega
      · obtain⟨d1,d2,d3,d4,d5⟩:decide (97<=x)=true/\decide (x<=122)=true/\decide (48<=x)=true/\decide (x<=57)=false/\(x==95)=false:=(by simp;omega);have b:=M (f.out (a.out.trans (by rw[Rv (show 97<=x/\x<=122 by omega)];rfl)));clear a d f c h;go_wp2_with{};go_round;case rel=>exact⟨k+1,by omega,by go_num,b⟩
        case measure=>simp[intOf];omega
      {obtain⟨d1,d2,d3,d4,d5⟩:decide (97<=x)=true/\decide (x<=122)=false/\decide (48<=x)=true/\decide (x<=57)=false/\(x==95)=false:=(by simp;omega);have b:=M (c.out (a.out.trans (by rw[d.out,Rw (show¬(97<=x/\x<=122) by omega),Rv l,show eR s[k].toNat=false from Rw (by omega)];simp;omega)));clear a d f c h;go_wp2_with{};go_ret;exact⟨by rw[b.out];rfl,ax _ _⟩}
  {have b:=M (n.out.symm.trans (JR h1 o fun i hi _=>m.out i hi (by omega)));have q:¬(k:Int)<(s.size:Int):=(by omega);clear m;go_wp2_with{};go_ret;exact⟨by rw[b.out];rfl,ax _ _⟩}
def pS(n:Int):Bool:=decide (1<=n)&&decide (n<=4)
theorem rZ(n:Int)(w:ai):aJ ah 166 #[I J n] w fun e w'=>e=Rh (Ri (pS n))/\Below w.heap.size w w':=by unfold pS;cases d1:decide (1<=n)<;>cases d2:decide (n<=4);all_goals go_in;go_wp2_with{};go_ret;exact⟨rfl,ax _ _⟩
theorem vu(k o:Int)(w:ai):aJ ah 132 #[Iu k o] w fun e w'=>e=Rh (Ri (gN k o))/\Below w.heap.size w w':=by
 have c:=M (rZ k);have d:=M (rZ o)
 have a:=M (show gN k o=(pS k&&(o==0)||((k==5)&&pS o))from by
  unfold gN pS;by_cases h:k=5;{subst h;simp}
  · rw[Rq h,show(k==5)=false by simpa using h];simp only[Bool.false_and,Bool.or_false];by_cases h2:o=0<;>simp[h2])
 obtain⟨g,ha⟩:∃x,gN k o=x:=⟨_,rfl⟩;rw[ha]at a⊢;clear ha;unfold Iu;have H1:=M (St.start ej w);cases s1:pS k<;>cases s2:pS o<;>cases d1:(o==0)<;>cases d2:(k==5)
 all_goals
  rw[s1,s2,d1,d2]at a;rw[s1]at c;rw[s2]at d;clear s1 s2;go_in;go_wp2_with{}
  first
   |(refine(c.out _).mono ?_;rintro e i⟨rfl,b⟩;have B2:=M (((ax w.heap.size w).alloc (av _) _).trans (b.mono (by simp)));have c0:=aU (mh w #[I J k,I J o] 30 0) b;have c1:=aU (mh w #[I J k,I J o] 30 1) b;clear b;go_wp2_with{})
   |skip
  first
   |(refine(d.out _).mono ?_;rintro e w3⟨rfl,f⟩;have B3:=M (B2.out.trans (f.mono (B2.out.size)));clear f;go_wp2_with{};go_ret;exact⟨by rw[a.out];rfl,B3.out⟩)
   |(go_ret;exact⟨by rw[a.out];rfl,B2.out⟩)
theorem kD(nm s:ByteArray)(fs:List iF)(n:Option Addr)(p:Nat)(w:ai)(hf:je w (Z n fs.length p) fs):aJ ah 63 #[.agg #[U nm,Z n fs.length p],U s] w fun e w'=>e=Rh (Rx #[I J (Dh s fs),Ri (pC s fs)])/\Below w.heap.size w w':=by
 have q:=M hf;have hmx:=cl.le hf;obtain⟨x,hx⟩:∃x,findF s 0 fs=x:=⟨_,rfl⟩;have l:=M (show Dh s fs=if x<0 then 0 else x by unfold Dh;rw[hx]);have m:=M (show pC s fs=decide (0<=x) by unfold pC;rw[hx]);have r:=M hx;clear hf hx;have H:=M (St.start ej w);go_in;go_wp2_with{};generalize e:aq w _=X;replace H:=bW e (St.alloc H.out _);clear e;obtain⟨cs,z⟩:=St.cs H 0 A;simp only[ak]at cs;obtain⟨⟨a0,b0⟩,⟨a1,b1⟩, -⟩:=cs;have h:=M (q.out.below H.out.low.aC);go_loop [6] (fun i=>∃k:Nat,k<=fs.length/\i=I J k/\Hid (findF s k (fs.drop k)=x)) (fun i=>fs.length - (intOf i).toNat);case atStart=>exact⟨0,by omega,rfl,M (by simpa using r.out)⟩
 case round=>
  obtain⟨k,hk,rfl,d⟩:=hrel;by_cases j:k<fs.length
  · have y:(0:Int)<=(k:Int):=(by omega);have u:(k:Int)<(fs.length:Int):=(by omega);obtain⟨f,a⟩:∃f,fs[k]? =O f:=⟨_,an j⟩;obtain⟨b,o,t,_,q0,q1,q2,q3⟩:=lP h.out a;cases t;have g:=M (d.out.symm.trans (wP s fs k f a));clear a d q1 q2 q3;have hb:((f.name.toList==s.toList):Bool)=decide (f.name=s):=Lx _ _;by_cases he:f.name=s;{have c:=M (show x=(k:Int) by rw[g.out,Rs he]);rw[Rv he]at hb;clear he g;go_wp2_with{};go_ret2;exact⟨by rw[l.out,m.out,c.out,Rq (by omega),Rv (show(0:Int)<=(k:Int) by omega)];rfl,H.out.low.aC⟩}
    · have c:=M (show findF s (k+1) (fs.drop (k+1))=x by rw[g.out,Rq he]);rw[Rw he]at hb;clear he g;go_wp2_with{};go_round;case rel=>exact⟨k+1,by omega,by go_num,c⟩
      case measure=>simp[intOf];omega
  {have u:¬(k:Int)<(fs.length:Int):=(by omega);have c:=M (show x= -1 by rw[<-d.out,d_ (by omega)];rfl);clear d;go_wp2_with{};go_ret2;exact⟨by rw[l.out,m.out,c.out];rfl,H.out.low.aC⟩}
def FY{α:Type}:Except Int (α×Int) ->Option (α×Int)
 | .ok x=>O x
 | .error _=>N
def oo(a hi:Int):Pr Int:=fun s p=>FY (gp s a hi p)
theorem Ji(a hi:Int):∀s p,oo a hi s p=uZ a hi s p:=by
 intro s p;unfold oo gp uZ Pr.bind Pr.gd Pr.pure;cases rn s p with
 |none=>rfl
 |some x=>obtain⟨n,q⟩:=x;simp only[];by_cases h:n<a\/hi<n;{rw[Rs h,Rq (by simp;omega)];rfl};{rw[Rq h,Rs (by simp;omega)];rfl}
theorem nY(a hi:Int)(h1: -9223372036854775808<=a)(h2:hi<9223372036854775808):p6 (oo a hi) az (fun n=>a<=n/\n<=hi):=(uB a hi h1 h2).congr (Ji a hi) (fun _=>Iff.rfl) fun _ _=>rfl
def wN:Pr ByteArray:=fun s p=>FY (mw s p)
theorem Cx{t:ByteArray}(h:ek t=true):t.size<=60:=by unfold ek at h;simp only[aK,Rt]at h;exact h.1
theorem Cp:p6 wN dy (fun t=>ek t=true):=by
 refine(bU (f:=fun t=>.gd (ek t) (.pure t)) id lV (fun x _=>mY _ (eQ x)) fun x y h=>h.2).congr (fun s p=> ?_) (fun x=> ?_) fun x _=>by simp
 · unfold wN mw Pr.bind Pr.gd Pr.pure;cases rt s p with
   |none=>rfl
   |some x=>obtain⟨t,q⟩:=x;simp only[];split<;>rfl
 {simp only[id,and_true];exact⟨fun h=>⟨by have:=Cx h;omega,h⟩,fun h=>h.2⟩}
def lN(k:Int):Pr (Int×ByteArray):=fun s p=>FY (i' s k p)
def mH(k:Int)(x:Int×ByteArray):List UInt8:=if k=1\/k=3\/k=4 then az x.1 else if k=2 then dy x.2 else []
def qT(k:Int)(x:Int×ByteArray):Prop:=if k=1 then x.2=⟨#[]⟩/\vO x.1=true else if k=2 then x.1=0/\ek x.2=true else if k=3\/k=4 then x.2=⟨#[]⟩/\xS x.1=true else x=(0,⟨#[]⟩)
theorem vp(k:Int):p6 (lN k) (mH k) (qT k):=by
 by_cases a:k=1
 · refine(bU (f:=fun n=>.pure (n,⟨#[]⟩)) (fun y:Int×ByteArray=>y.1) (nY (-1000000000000000) 1000000000000000 (by omega) (by omega)) (fun x _=>eQ _) fun x y h=>by rw[h]).congr (fun s p=> ?_) (fun x=> ?_) fun x _=>by simp[mH,a]
   {unfold lN i' Pr.bind Pr.pure oo;rw[Rs a];cases gp s (-1000000000000000) 1000000000000000 p<;>rfl};{obtain⟨n,t⟩:=x;simp only[qT,Rs a,vO,Rt,cu];constructor;{rintro⟨h1,h2⟩;exact⟨h2,trivial,h1⟩};{rintro⟨h1,h2,h3⟩;exact⟨h3,h1⟩}}
 · by_cases k2:k=2
   · refine(bU (f:=fun t=>.pure (0,t)) (fun y:Int×ByteArray=>y.2) Cp (fun x _=>eQ _) fun x y h=>by rw[h]).congr (fun s p=> ?_) (fun x=> ?_) fun x _=>by simp[mH,k2]
     {unfold lN i' Pr.bind Pr.pure wN;rw[Rq a,Rs k2];cases mw s p<;>rfl};{obtain⟨n,t⟩:=x;simp only[qT,Rq a,Rs k2,cu];constructor;{rintro⟨h1,h2⟩;exact⟨h2,h1,trivial⟩};{rintro⟨h1,h2,h3⟩;exact⟨h2,h1⟩}}
   · by_cases k3:k=3\/k=4
     · refine(bU (f:=fun n=>.gd (!decide (n=0)) (.pure (n,⟨#[]⟩))) (fun y:Int×ByteArray=>y.1) (nY (-20) 100000 (by omega) (by omega)) (fun x _=>mY _ (eQ _)) fun x y h=>by rw[h.2]).congr (fun s p=> ?_) (fun x=> ?_) fun x _=>by{have:k=1\/k=3\/k=4:=.inr k3;simp only[mH,Rs this,gK]}
       · unfold lN i' Pr.bind Pr.gd Pr.pure oo;rw[Rq a,Rq k2,Rs k3];cases gp s (-20) 100000 p with
         |error x=>rfl
         |ok x=>obtain⟨n,q⟩:=x;by_cases h0:n=0<;>simp[FY,h0]
       {obtain⟨n,t⟩:=x;simp only[qT,Rq a,Rq k2,Rs k3,xS,Rt,cu,Bool.not_eq_true', decide_eq_false_iff_not,true_and];constructor;{rintro⟨h1,h2⟩;exact⟨by omega,by omega,h1⟩};{rintro⟨h1,h2,h3⟩;exact⟨h3,by omega⟩}}
     {refine(eQ (0,⟨#[]⟩)).congr (fun s p=> ?_) (fun x=> ?_) fun x _=> ?_;{unfold lN i'; rw[Rq a,Rq k2,Rq k3];rfl};{simp only[qT,Rq a,Rq k2,Rq k3]};{have:¬(k=1\/k=3\/k=4):=(by omega);simp only[mH,Rq this,Rq k2]}}
def Am(most k n:Int)(s:ByteArray):Prop:=0<=k/\k<=most/\qT k (n,s)
theorem tu(k n:Int)(s:ByteArray):Am 4 k n s<->gI (ek s) k n s 0=true:=by
 unfold Am qT gI gw;have e1:∀t:ByteArray,t=(⟨#[]⟩:ByteArray)<->t.toList.isEmpty=true:=fun t=>by rw[toList_empty,Rt];exact⟨fun h=>by subst h;rfl,fun h=>eT (gb h)⟩
 by_cases a:k=0;{subst a;simp only[Rs,aK,Rt,cu,e1];simp;exact And.comm};by_cases b:k=1;{subst b;simp only[Rs,e1];simp};by_cases k2:k=2;{subst k2;simp};by_cases k3:k=3;{subst k3;simp only[e1];simp};by_cases c:k=4;{subst c;simp only[e1];simp};simp only[Rq a,Rq b,Rq k2,Rq k3,Rq c];exact⟨fun h=>by omega,fun h=>by simp at h⟩
def wM(most:Int):Pr Pv:=fun s p=>FY (oq s most p)
theorem Hq:p6 (wM 4) gy (fun v=>fG v=true):=by
 refine(bU (f:=fun k=>.bind (lN k) fun x=>.pure ⟨k,x.1,x.2⟩) (fun y:Pv=>y.k) (nY 0 4 (by omega) (by omega)) (fun k _=>bU (fun y:Pv=>(y.n,y.s)) (vp k) (fun x _=>eQ _) fun x y h=>by rw[h]) fun x y h=>by rw[h.2]).congr (fun s p=> ?_) (fun x=> ?_) fun x _=> ?_
 · unfold wM oq Pr.bind oo lN Pr.pure;cases gp s 0 4 p with
   |error x=>rfl
   |ok x=>
    obtain⟨k,q⟩:=x;simp only[FY];cases i' s k q with
    |error x=>rfl
    |ok x=>obtain⟨y,r⟩:=x;rfl
 {obtain⟨k,n,t⟩:=x;have:=tu k n t;simp only[fG,aK,Rt,and_true];rw[<-this];unfold Am;constructor;{rintro⟨h1,h2,h3,h4⟩;exact⟨⟨h2,h3⟩,h4⟩};{rintro⟨⟨h1,h2⟩,h3⟩;exact⟨by omega,h1,h2,h3⟩}};{simp[gy,ga,mH]}
def sX:Pr (List Pv):=fun s p=>FY (jK s p)
theorem rv{α:Type}(d:Pr α)(n:Nat)(s:ByteArray)(p:Int):Pr.many d (n+1) s p=match d s p with
 |none=>N
 |some (x,q)=>match Pr.many d n s q with
  |none=>N
  |some (l,r)=>O (x::l,r):=by
 simp only[Pr.many,Pr.bind,Pr.pure]
 cases d s p with
 |none=>rfl
 |some x=>
  obtain⟨x,q⟩:=x
  simp only[]
  cases Pr.many d n s q<;>rfl
theorem wL(s:ByteArray):∀(n:Nat) (p:Int),FY (eB s n p)=Pr.many (wM 4) n s p
 |0,p=>rfl
 |n+1,p=>by
  rw[rv,eB,wM];cases oq s 4 p with
  |error x=>rfl
  |ok x=>
   obtain⟨v,q⟩:=x;simp only[FY];rw[<-wL s n q];cases eB s n q with
   |error x=>rfl
   |ok x=>rfl
theorem Co:p6 sX (fun l=>az l.length++l.flatMap gy) (fun l=>l.length<=12/\∀v∈l,fG v=true):=by
 refine(bU (f:=fun n=>.gd (decide (0<=n)) (Pr.many (wM 4) n.toNat)) (fun l:List Pv=>(l.length:Int)) (nY 0 12 (by omega) (by omega)) (fun n _=>mY (decide (0<=n)) (oZ Hq n.toNat)) fun x y h=> ?_).congr (fun s p=> ?_) (fun l=> ?_) fun l _=>rfl;{have h1:=h.1;have h2:=h.2.1;simp only[Rt]at h1;omega}
 · unfold sX jK Pr.bind oo Pr.gd;cases hd:gp s 0 12 p with
   |error x=>rfl
   |ok x=>obtain⟨n,q⟩:=x;have h0:0<=n:=by{unfold gp at hd;split at hd;{cases hd};{split at hd;{cases hd};{cases hd;omega}}};simp only[FY];rw[Rs (by simpa using h0),<-wL];rfl
 {simp only[Rt,dS,true_and];constructor;{rintro⟨h1,h2⟩;exact⟨⟨by omega,by omega⟩,by omega,h2⟩};{rintro⟨h1,h2,h3⟩;exact⟨by omega,h3⟩}}
theorem Kn(k n:Int)(s:ByteArray)(m:Nat)(h:gI (ek s) k n s m=true):m=0/\0<=k/\k<=4:=by unfold gI gw at h;by_cases a:k=0;{rw[Rs a]at h;simp at h;omega};by_cases b:k=1;{rw[Rq a,Rs b]at h;simp at h;omega};by_cases k2:k=2;{rw[Rq a,Rq b,Rs k2]at h;simp at h;omega};by_cases k3:k=3;{rw[Rq a,Rq b,Rq k2,Rs k3]at h;simp at h;omega};by_cases c:k=4;{rw[Rq a,Rq b,Rq k2,Rq k3,Rs c]at h;simp at h;omega};simp[a,b,k2,k3,c]at h
def zU:Pr Vl:=fun s p=>FY (sZ s p)
def FE(k:Int)(v:Vl):Prop:=if k=5 then v.n=0/\v.s=⟨#[]⟩/\v.l.length<=12/\∀u∈v.l,fG u=true else v.l=[]/\qT k (v.n,v.s)
def AP(k:Int)(v:Vl):List UInt8:=if k=5 then az v.l.length++v.l.flatMap gy else mH k (v.n,v.s)
def tS(k:Int):Pr Vl:=if k=5 then .bind sX fun l=>.pure ⟨5,0,⟨#[]⟩,l⟩else .bind (lN k) fun x=>.pure ⟨k,x.1,x.2,[]⟩
theorem ED(k:Int):p6 (tS k) (AP k) (fun v=>v.k=k/\FE k v):=by
 by_cases h:k=5
 · refine(bU (f:=fun l=>.pure ⟨5,0,⟨#[]⟩,l⟩) (fun v:Vl=>v.l) Co (fun l _=>eQ _) fun x y h=>by rw[h]).congr (fun s p=>by rw[tS,Rs h]) (fun v=> ?_) fun v _=>by simp[AP,h]
   obtain⟨a,n,t,l⟩:=v;simp only[FE,Rs h,Vl.mk.injEq,and_true];constructor;{rintro⟨h1,h2,h3,h4⟩;exact⟨h4,h1.trans h,h2,h3⟩};{rintro⟨h1,h2,h3,h4⟩;exact⟨h2.trans h.symm,h3,h4,h1⟩}
 · refine(bU (f:=fun x=>.pure ⟨k,x.1,x.2,[]⟩) (fun v:Vl=>(v.n,v.s)) (vp k) (fun l _=>eQ _) fun x y h=>by rw[h]).congr (fun s p=>by rw[tS,Rq h]) (fun v=> ?_) fun v _=>by simp[AP,h]
   obtain⟨a,n,t,l⟩:=v;simp only[FE,Rq h,Vl.mk.injEq,true_and];constructor;{rintro⟨h1,h2,h3⟩;exact⟨h3,h1,h2⟩};{rintro⟨h1,h2,h3⟩;exact⟨h2,h3,h1⟩}
theorem yP:p6 zU fB (fun v=>iV v=true):=by
 refine(bU (f:=tS) (fun v:Vl=>v.k) (nY 0 5 (by omega) (by omega)) (fun k _=>ED k) fun x y h=>h.1).congr (fun s p=> ?_) (fun v=> ?_) fun v _=> ?_
 · unfold zU sZ Pr.bind oo tS;cases gp s 0 5 p with
   |error x=>rfl
   |ok x=>
    obtain⟨k,q⟩:=x;simp only[FY];by_cases h:k=5
    · rw[Rs h,Rs h];unfold Pr.bind sX;cases jK s q with
      |error x=>rfl
      |ok x=>rfl
    · rw[Rq h,Rq h];unfold Pr.bind lN;cases i' s k q with
      |error x=>rfl
      |ok x=>rfl
 · obtain⟨k,n,t,l⟩:=v;have e1:∀t:ByteArray,t=(⟨#[]⟩:ByteArray)<->t.toList.isEmpty=true:=fun t=>by rw[toList_empty,Rt];exact⟨fun h=>by subst h;rfl,fun h=>eT (gb h)⟩
   unfold iV FE;by_cases h:k=5;{simp only[Rs h,aK,Rt,ba,true_and,e1];constructor;{rintro⟨h1,h2,h3,h4⟩;exact⟨by omega,h1,h2,h3,h4⟩};{rintro⟨_,h1,h2,h3,h4⟩;exact⟨h1,h2,h3,h4⟩}};{simp only[Rq h,true_and];have h2:=tu k n t;unfold Am at h2;constructor;{intro hr;obtain⟨r1,r2,a⟩:=Kn _ _ _ _ hr;rw[r1]at hr;exact⟨⟨r2,by omega⟩,List.length_eq_zero_iff.1 r1,(h2.2 hr).2.2⟩};{rintro⟨⟨r1,r2⟩,a,b⟩;subst a;exact h2.1 ⟨r1,by omega,b⟩}}
 {obtain⟨k,n,t,l⟩:=v;simp only[fB,AP,ga,mH];by_cases h:k=5;{subst h;rw[Rs A,Rs A]};{simp only[Rq h]}}
def nL:Pr Vl:=fun s p=>FY (ke s p)
theorem Cq:p6 nL fB (fun v=>iV v=true):=by have key:∀(s:ByteArray) (p:Int),0<=p ->p<=s.size ->nL s p=zU s p:=fun s p h0 h1=>by{unfold nL zU ke;rw[Rq (by omega)]};refine⟨fun s x a b hx hs=> ?_,fun s p q x h0 h1 hp=> ?_⟩;{have c:s.size=(a++fB x++b).length:=(by rw[<-hs];simp);simp only[aw]at c;rw[key _ _ (by omega) (by omega)];exact yP.fwd s x a b hx hs};{rw[key _ _ h0 h1]at hp;exact yP.inv s p q x h0 h1 hp}
theorem yv(s:ByteArray):∀(n:Nat) (p:Int),gR s n p=Pr.many nL n s p
 |0,p=>rfl
 |n+1,p=>by
  rw[rv,gR,nL];cases ke s p with
  |error x=>rfl
  |ok x=>
   obtain⟨v,q⟩:=x;simp only[FY];rw[<-yv s n q];cases gR s n q with
   |none=>rfl
   |some x=>rfl
def N5(id cls bY cnt:Int):Pr Ob:=.gd (decide (0<=cnt)&&decide (cnt<=8)) (.bind (Pr.many nL cnt.toNat) fun l=>.gd (dv ⟨id,cls,bY,l⟩) (.pure ⟨id,cls,bY,l⟩))
def pO:Pr Ob:=.bind rn fun id=>.bind rn fun cls=>.bind rn fun bY=>.bind rn fun cnt=>N5 id cls bY cnt
theorem NC(s:ByteArray)(p:Int):oh s p=pO s p:=by
 unfold oh pO Pr.bind;cases rn s p with
 |none=>rfl
 |some x=>
  obtain⟨id,a⟩:=x;simp only[];cases rn s a with
  |none=>rfl
  |some x=>
   obtain⟨cls,b⟩:=x;simp only[];cases rn s b with
   |none=>rfl
   |some x=>
    obtain⟨bY,c⟩:=x;simp only[];cases rn s c with
    |none=>rfl
    |some x=>
     obtain⟨cnt,d⟩:=x;simp only[];unfold N5 Pr.gd Pr.bind Pr.pure;by_cases h:cnt<0\/8<cnt;{rw[Rs h,Rq (by simp;omega)]}
     · rw[Rq h,Rs (by simp;omega),yv];cases Pr.many nL cnt.toNat s d with
       |none=>rfl
       |some x=>rfl
theorem Mt(id cls bY cnt:Int):p6 (N5 id cls bY cnt) (fun o=>o.bG.flatMap fB) (fun o=>(o.id=id/\o.cls=cls/\o.bY=bY/\(o.bG.length:Int)=cnt)/\dv o=true):=by
 refine(mY _ (bU (f:=fun l=>.gd (dv ⟨id,cls,bY,l⟩) (.pure ⟨id,cls,bY,l⟩)) (fun o:Ob=>o.bG) (oZ Cq cnt.toNat) (fun l _=>mY _ (eQ _)) fun x y h=>by rw[h.2])).congr (fun s p=>rfl) (fun o=> ?_) fun o _=>by simp
 obtain⟨a,b,c,l⟩:=o;simp only[Ob.mk.injEq,aK,Rt,and_true];constructor;{rintro⟨⟨rfl,rfl,rfl,rfl⟩,hc⟩;have h2:=hc;unfold dv m_ at h2;simp only[aK,Rt,ba]at h2;refine⟨⟨by omega,by omega⟩,⟨by omega,fun v hv=> ?_⟩,hc,rfl,rfl,rfl⟩;have:=h2.2 v hv;unfold lQ at this;simp only[aK]at this;exact this.1};{rintro⟨⟨h1,h2⟩,⟨h3,h4⟩,hc,rfl,rfl,rfl⟩;exact⟨⟨rfl,rfl,rfl,by omega⟩,hc⟩}
theorem Ke:p6 oh fE (fun o=>dv o=true):=by
 refine(bU (f:=fun id=>.bind rn fun cls=>.bind rn fun bY=>.bind rn fun cnt=>N5 id cls bY cnt) (fun o:Ob=>o.id) gA (fun id _=>
  bU (f:=fun cls=>.bind rn fun bY=>.bind rn fun cnt=>N5 id cls bY cnt) (fun o:Ob=>o.cls) gA (fun cls _=>
  bU (f:=fun bY=>.bind rn fun cnt=>N5 id cls bY cnt) (fun o:Ob=>o.bY) gA (fun bY _=>
  bU (f:=fun cnt=>N5 id cls bY cnt) (fun o:Ob=>(o.bG.length:Int)) gA (fun cnt _=>Mt id cls bY cnt) fun x y h=>h.1.2.2.2) fun x y h=>h.2.1.2.2.1) fun x y h=>h.2.2.1.2.1) fun x y h=>h.2.2.2.1.1).congr (fun s p=>NC s p) (fun o=> ?_) fun o _=> ?_
 {simp only[true_and];constructor;{intro hc;have h2:=hc;unfold dv m_ at h2;simp only[aK,Rt]at h2;unfold ee;exact⟨by omega,by omega,by omega,by omega,hc⟩};{rintro⟨_,_,_,_,h⟩;exact h}};{simp[fE,gG]}
structure Cg where
 k:Int
 field:ByteArray
 name:ByteArray
 more:ByteArray
 tk:Int
 fP:Int
 expr:ByteArray
 other:ByteArray
def iY:ByteArray:=⟨#[]⟩
def nJ:Cg:=⟨0,iY,iY,iY,0,0,iY,iY⟩
def tU(n:Nl)(c:Cg):Bool:=
 m' c.field n.field&&(m' c.name n.name&&(m' c.more n.more&&((n.kind==gN c.tk c.fP)&&((n.kind||(decide (c.tk=0)&&decide (c.fP=0)))&&(dK c.expr n.expr&&dK c.other n.other)))))
def ep(c:Cg):Bool:=(nW c.k).2&&tU (nW c.k).1 c
def fi(c:Cg):List UInt8:=az c.k++(dy c.field++(dy c.name++(dy c.more++(az c.tk++(az c.fP++(dy c.expr++dy c.other))))))
def vB(a b:Cg):Bool:=decide (a.k=b.k)&&(decide (a.field=b.field)&&(decide (a.name=b.name)&&(decide (a.more=b.more)&&(decide (a.tk=b.tk)&&(decide (a.fP=b.fP)&&(decide (a.expr=b.expr)&&decide (a.other=b.other)))))))
theorem yX{a b:Cg}:vB a b=true<->a=b:=by cases a;cases b;simp[vB]
def oY(s:ByteArray)(p:Int):Cg×Rd:=
 let a:=rdNum s ⟨p,false⟩
 let r1:=bT s a.2
 let r2:=bT s r1.2
 let b:=bT s r2.2
 let c:=rdNum s b.2
 let d:=rdNum s c.2
 let e:=bT s d.2
 let f:=bT s e.2
 (⟨a.1,r1.1,r2.1,b.1,c.1,d.1,e.1,f.1⟩,f.2)
def qB(s:ByteArray)(p:Int):Option (Cg×Int):=if(oY s p).2.bad=true\/ep (oY s p).1=false then N else O ((oY s p).1,(oY s p).2.pos)
structure Rc where
 kind:Int
 obj:Ob
 id:Int
 bY:Int
 name:ByteArray
 cls:pd
 bF:Cg
def oz:Ob:=⟨0,0,0,[]⟩
def iA:pd:=⟨iY,[]⟩
def vm:Rc:=⟨0,oz,0,0,iY,iA,nJ⟩
def oC(a b:Rc):Bool:=decide (a.kind=b.kind)&&(decide (a.id=b.id)&&(decide (a.bY=b.bY)&&(decide (a.name=b.name)&&(tI a.obj b.obj&&(tH a.cls b.cls&&vB a.bF b.bF)))))
def uO(r:Rc):Rc:=
 if r.kind=3 then{r with kind:=0,id:=0,cls:=iA}
 else if r.kind=4 then{r with kind:=0,id:=0,bY:=0,bF:=nJ}
 else if r.kind=1 then{r with kind:=0,obj:=oz}
 else{r with kind:=0,id:=0,name:=iY}
def uv(r:Rc):Bool:=decide (1<=r.kind)&&decide (r.kind<=5)
def qI(r:Rc):Option (List UInt8):=
 if r.kind=3 then(if dI r.cls=true/\0<=r.id/\r.id<8 then O (az r.id++eA r.cls)else N)
 else if r.kind=4 then(if ep r.bF=true/\0<=r.id/\r.id<8/\1<=r.bY/\r.bY<=12 then O (az r.id++az r.bY++fi r.bF)else N)
 else if r.kind=1 then(if dv r.obj=true then O (fE r.obj)else N)
 else if r.kind=2 then(if 0<=r.id/\r.id<=100000/\dn r.name=true then O (dy r.name++az r.id)else N)
 else if r.kind=5 then(if 0<=r.id/\r.id<=1/\dn r.name=true then O (dy r.name++az r.id)else N)
 else N
def jA(r:Rc):Option (List UInt8):=if uv r=true/\oC (uO r) vm=true then(qI r).map (az r.kind++ ·)else N
def gz(r:Rc):Int:=if r.kind=3 then 1 else if r.kind=4 then 2 else if r.kind=1 then 3 else if r.kind=2 then 4 else if r.kind=5 then 5 else 0
def qQ(r:Rc):Int:=if r.kind=3\/r.kind=4 then r.id else r.obj.id
def kz(a b:Rc):Int:=
 if eg (gz a) (gz b)≠0 then eg (gz a) (gz b)
 else if eg (qQ a) (qQ b)≠0 then eg (qQ a) (qQ b)
 else if eg a.bY b.bY≠0 then eg a.bY b.bY
 else iS a.name.data.toList b.name.data.toList
structure Bt where
 kind:Int
 n:Int
 next:Int
 recs:List Rc
 bj:List Int
def Qh:Bt:=⟨0,0,0,[],[]⟩
def kB(b:Bt):Bool:=decide (1<=b.next/\b.next<=100001/\1<=b.n/\b.recs.length<=700)&&(
 if b.kind=1 then decide (0<b.recs.length)&&decide (b.bj.length=0)
 else if b.kind=2 then decide (b.bj.length=b.recs.length)&&b.bj.all fun n=>decide (1<=n/\n<=b.n)
 else false)
def tQ(b:Bt)(i:Nat)(r q:Rc):Bool:=
 if b.kind=2/\b.bj[i]?.getD 0<b.bj[i+1]?.getD 0 then true
 else if b.kind=2/\b.bj[i+1]?.getD 0<b.bj[i]?.getD 0 then false
 else decide (kz r q<0)
def qk(b:Bt)(i:Nat):Bool:=match b.recs[i]? with
 |none=>false
 |some r=>(jA r).isSome&&(decide (r.obj.id<b.next)&&(match i with
  |0=>true
  |i+1=>match b.recs[i]? with
   |none=>false
   |some q=>tQ b i q r))
def dU(b:Bt):Bool:=kB b&&(List.range b.recs.length).all (qk b)
def fC(r:Rc):List UInt8:=(jA r).getD []
def sE(b:Bt):List (List UInt8):=b.recs.map fC
def mb(b:Bt):List UInt8:=az b.kind++(az b.n++(az b.next++az b.recs.length))
def iy(kind:Int):List Rc ->List Int ->List UInt8
 | [],_=>[]
 |r::l,[]=>fC r++iy kind l []
 |r::l,v::vs=>(if kind=2 then az v else [])++(fC r++iy kind l vs)
def aT(b:Bt):List UInt8:=mb b++iy b.kind b.recs b.bj
def mG(b:Bt):Option (List UInt8):=if dU b=true/\(aT b).length<=10000 then O (aT b)else N
def j5:List Rc ->List Rc ->Bool
 | [],[]=>true
 | [],_::_=>false
 |_::_,[]=>false
 |a::l,b::r=>oC a b&&j5 l r
def se(a b:Bt):Bool:=decide (a.kind=b.kind)&&(decide (a.n=b.n)&&(decide (a.next=b.next)&&(j5 a.recs b.recs&&decide (a.bj=b.bj))))
def kN(s:ByteArray)(p:Int):Option (Rc×Int):=match rn s p with
 |none=>N
 |some (k,p)=>
  if k=3 then(match rn s p with
   |none=>N
   |some (id,p)=>match jg s p with
    |none=>N
    |some (c,p)=>O (⟨3,oz,id,0,iY,c,nJ⟩,p))
  else if k=4 then(match rn s p with
   |none=>N
   |some (id,p)=>match rn s p with
    |none=>N
    |some (bY,p)=>match qB s p with
     |none=>N
     |some (g,p)=>O (⟨4,oz,id,bY,iY,iA,g⟩,p))
  else if k=1 then(match oh s p with
   |none=>N
   |some (o,p)=>O (⟨1,o,0,0,iY,iA,nJ⟩,p))
  else if k=2\/k=5 then(match rt s p with
   |none=>N
   |some (t,p)=>match rn s p with
    |none=>N
    |some (id,p)=>O (⟨k,oz,id,0,t,iA,nJ⟩,p))
  else N
def er(s:ByteArray)(kind:Int):Nat ->Int ->Option ((List Rc×List Int)×Int)
 |0,p=>O (([],[]),p)
 |n+1,p=>
  if kind=2 then(match rn s p with
   |none=>N
   |some (v,p)=>match kN s p with
    |none=>N
    |some (r,p)=>match er s kind n p with
     |none=>N
     |some ((l,vs),p)=>O ((r::l,v::vs),p))
  else match kN s p with
   |none=>N
   |some (r,p)=>match er s kind n p with
    |none=>N
    |some ((l,vs),p)=>O ((r::l,vs),p)
def rO(s:ByteArray):Option Bt:=
 if 10000<s.size then N else match rn s 0 with
 |none=>N
 |some (kind,p)=>match rn s p with
  |none=>N
  |some (n,p)=>match rn s p with
   |none=>N
   |some (next,p)=>match rn s p with
    |none=>N
    |some (cnt,p)=>if cnt<0\/700<cnt then N else match er s kind cnt.toNat p with
     |none=>N
     |some ((l,vs),p)=>if p=s.size/\dU ⟨kind,n,next,l,vs⟩=true then O ⟨kind,n,next,l,vs⟩else N
theorem lk(s:ByteArray)(p:Int):rdNum s ⟨p,false⟩=match rn s p with
 |none=>(0,⟨p,true⟩)
 |some (n,q)=>(n,⟨q,false⟩):=by
 unfold rdNum rn
 cases iR s p<;>rfl
theorem iU(s:ByteArray)(p:Int):rdNum s ⟨p,true⟩=(0,⟨p,true⟩):=by unfold rdNum;cases iR s p<;>rfl
theorem km(s:ByteArray)(p:Int):bT s ⟨p,false⟩=match rt s p with
 |none=>(⟨#[]⟩,⟨p,true⟩)
 |some (t,q)=>(t,⟨q,false⟩):=by
 unfold bT rt
 cases iM s p<;>rfl
theorem jF(s:ByteArray)(p:Int):bT s ⟨p,true⟩=(⟨#[]⟩,⟨p,true⟩):=by unfold bT;cases iM s p<;>rfl
def vP:Pr iF:=.bind rt fun nm=>.bind rn fun k=>.bind rn fun o=>.bind rn fun i=>.gd (i==0|| i==1) (.pure ⟨nm,k,o,i==1⟩)
theorem Ms:p6 vP dZ (fun f=>f.name.size<=10000/\ee f.k/\ee f.o):=by
 refine(bU (f:=fun nm=>.bind rn fun k=>.bind rn fun o=>.bind rn fun i=>.gd (i==0|| i==1) (.pure ⟨nm,k,o,i==1⟩)) (fun f:iF=>f.name) lV (fun nm _=>
  bU (f:=fun k=>.bind rn fun o=>.bind rn fun i=>.gd (i==0|| i==1) (.pure ⟨nm,k,o,i==1⟩)) (fun f:iF=>f.k) gA (fun k _=>
  bU (f:=fun o=>.bind rn fun i=>.gd (i==0|| i==1) (.pure ⟨nm,k,o,i==1⟩)) (fun f:iF=>f.o) gA (fun o _=>
  bU (f:=fun i=>.gd (i==0|| i==1) (.pure ⟨nm,k,o,i==1⟩)) (fun f:iF=>Dy f.ix) gA (fun i _=>mY _ (eQ _)) fun x y h=> ?_) fun x y h=> ?_) fun x y h=> ?_) fun x y h=> ?_).congr (fun _ _=>rfl) (fun f=> ?_) fun f _=>by simp[dZ]
 {obtain⟨h1,rfl⟩:=h;simp at h1;rcases h1 with rfl|rfl<;>rfl};{rw[h.2.2]};{rw[h.2.2.2]};{rw[h.2.2.2.2]};{obtain⟨nm,k,o,b⟩:=f;simp only[iF.mk.injEq,true_and];constructor;{rintro⟨h1,h2,h3⟩;refine⟨h1,h2,h3, ?_, ?_, ?_⟩<;>cases b<;>simp[Dy,ee]};{rintro⟨h1,h2,h3,_⟩;exact⟨h1,h2,h3⟩}}
theorem Au(s:ByteArray)(p:Int):(∀f q,vP s p=O (f,q) ->rdField s ⟨p,false⟩=((f,true),⟨q,false⟩))/\(vP s p=N ->(rdField s ⟨p,false⟩).1.2=false\/(rdField s ⟨p,false⟩).2.bad=true):=by
 simp only[vP,Pr.bind,Pr.gd,Pr.pure,rdField,km];cases rt s p with
 |none=>simp[iU]
 |some x=>
  obtain⟨nm,a⟩:=x;simp only[lk];cases rn s a with
  |none=>simp[iU]
  |some x=>
   obtain⟨k,b⟩:=x;simp only[lk];cases rn s b with
   |none=>simp[iU]
   |some x=>
    obtain⟨o,c⟩:=x;simp only[lk];cases rn s c with
    |none=>simp
    |some x=>obtain⟨i,d⟩:=x;simp only[];by_cases h:(i==0|| i==1)=true;{simp[h]};{simp[h]}
theorem Av(s:ByteArray)(p:Int):(rdField s ⟨p,true⟩).2=⟨p,true⟩:=by simp[rdField,jF,iU]
theorem rY(s:ByteArray):∀(n:Nat) (r:Rd),r.bad=true ->∀l r', dM s n r=O (l,r') ->r'.bad=true
 |0,r,h,l,r', e=>by simp[dM]at e;rw[<-e.2];exact h
 |n+1,⟨p,true⟩,_,l,r', e=>by
  rw[dM]at e;split at e
  · rw[Av]at e;cases hx:dM s n ⟨p,true⟩with
    |none=>rw[hx]at e;simp at e
    |some x=>rw[hx]at e;simp at e;have:=rY s n ⟨p,true⟩ A x.1 x.2 hx;rw[<-e.2];exact this
  {cases e}
theorem rX(s:ByteArray):∀(n:Nat) (p:Int),(∀l q,Pr.many vP n s p=O (l,q) ->dM s n ⟨p,false⟩=O (l,⟨q,false⟩))/\(Pr.many vP n s p=N ->∀l r,dM s n ⟨p,false⟩=O (l,r) ->r.bad=true)
 |0,p=>by simp[Pr.many,Pr.pure,dM]
 |n+1,p=>by
  obtain⟨g1,g2⟩:=Au s p;rw[rv];cases hf:vP s p with
  |none=>
   refine⟨fun l q h=>by simp at h,fun _ l r h=> ?_⟩;rw[dM]at h;rcases g2 hf with h1|h1;{rw[h1]at h;simp at h}
   · split at h
     · cases hx:dM s n (rdField s ⟨p,false⟩).2 with
       |none=>rw[hx]at h;simp at h
       |some x=>rw[hx]at h;simp at h;rw[<-h.2];exact rY s n _ h1 x.1 x.2 hx
     {cases h}
  |some x=>
   obtain⟨f,q1⟩:=x;have e1:=g1 f q1 hf;obtain⟨a,b⟩:=rX s n q1;simp only[];cases hm:Pr.many vP n s q1 with
   |none=>
    refine⟨fun l q h=>by simp at h,fun _ l r h=> ?_⟩;rw[dM,e1]at h;simp only[if_true]at h;cases hx:dM s n ⟨q1,false⟩with
    |none=>rw[hx]at h;simp at h
    |some x=>rw[hx]at h;simp at h;rw[<-h.2];exact b hm x.1 x.2 hx
   |some x=>obtain⟨l', q2⟩:=x;refine⟨fun l q h=> ?_,fun h=>by simp at h⟩;simp only[bu,cu]at h;obtain⟨rfl,rfl⟩:=h;rw[dM,e1];simp only[if_true,a l' q2 hm,eZ]
def Pm:Pr pd:=.bind rt fun nm=>.bind (uZ 0 8) fun n=>.gd (decide (0<=n)) (.bind (Pr.many vP n.toNat) fun fs=>.gd (dI (pd.mk nm fs)) (.pure (pd.mk nm fs)))
theorem DF(s:ByteArray)(p:Int):jg s p=Pm s p:=by
 simp only[jg,Pm,uZ,Pr.bind,Pr.gd,Pr.pure,km];cases rt s p with
 |none=>simp only[iU];rw[Rq (by omega)];simp[dM]
 |some x=>
  obtain⟨nm,d⟩:=x;simp only[lk];cases rn s d with
  |none=>simp only[];rw[Rq (by omega)];simp[dM]
  |some x=>
   obtain⟨n,a⟩:=x;simp only[];by_cases h:n<0\/8<n;{rw[Rs h,Rq (by simp;omega)]}
   · rw[Rq h,Rs (by simp;omega)];simp only[];rw[Rs (by simp;omega)];obtain⟨b,c⟩:=rX s n.toNat a;cases hm:Pr.many vP n.toNat s a with
     |none=>
      simp only[];cases hx:dM s n.toNat ⟨a,false⟩with
      |none=>rfl
      |some x=>simp[c hm x.1 x.2 hx]
     |some x=>obtain⟨l,q⟩:=x;simp only[b l q hm];cases dI ⟨nm,l⟩<;>simp
theorem EK{c:pd}(h:dI c=true):c.fs.length<=8/\c.name.size<=20:=by unfold dI at h;simp only[aK,Rt]at h;exact⟨h.2.1,ff h.1⟩
theorem GK{f:iF}(h:ic f=true):f.name.size<=10000/\ee f.k/\ee f.o:=by have:=BE h;unfold ic at h;simp only[aK]at h;have:=ff h.1;unfold ee;omega
theorem Hn:p6 jg eA (fun c=>dI c=true):=by
 refine(bU (f:=fun nm=>.bind (uZ 0 8) fun n=>.gd (decide (0<=n)) (.bind (Pr.many vP n.toNat) fun fs=>.gd (dI (pd.mk nm fs)) (.pure (pd.mk nm fs)))) (fun c:pd=>c.name) lV (fun nm _=>
  bU (f:=fun n=>.gd (decide (0<=n)) (.bind (Pr.many vP n.toNat) fun fs=>.gd (dI (pd.mk nm fs)) (.pure (pd.mk nm fs)))) (fun c:pd=>(c.fs.length:Int)) (uB 0 8 (by omega) (by omega)) (fun n _=>mY _
  (bU (f:=fun fs=>.gd (dI (pd.mk nm fs)) (.pure (pd.mk nm fs))) (fun c:pd=>c.fs) (oZ Ms n.toNat) (fun fs _=>mY _ (eQ _)) fun x y h=> ?_)) fun x y h=> ?_) fun x y h=> ?_).congr DF (fun c=> ?_) fun c _=>by simp[eA]
 {rw[h.2]};{have h1:=h.1;have h2:=h.2.1.1;simp only[Rt]at h1;omega};{rw[h.2.2.2.2]};{obtain⟨nm,fs⟩:=c;simp only[and_true];constructor;{intro h;obtain⟨h1,h2⟩:=EK h;simp only at h1 h2;exact⟨by omega,⟨by omega,by omega⟩,by simp,⟨by omega,fun f hf=>GK (pM h f hf)⟩,h⟩};{rintro⟨_,_,_,_,h⟩;exact h}}
def An(c:Cg):Prop:=ee c.k/\c.field.size<=10000/\c.name.size<=10000/\c.more.size<=10000/\ee c.tk/\ee c.fP/\c.expr.size<=10000/\c.other.size<=10000
def Pk:Pr Cg:=.bind rn fun k=>.bind rt fun field=>.bind rt fun name=>.bind rt fun more=>.bind rn fun tk=>.bind rn fun fP=>.bind rt fun expr=>.bind rt fun other=>.gd (ep ⟨k,field,name,more,tk,fP,expr,other⟩) (.pure ⟨k,field,name,more,tk,fP,expr,other⟩)
theorem NA(s:ByteArray)(p:Int):qB s p=Pk s p:=by
 simp only[qB,oY,Pk,Pr.bind,Pr.gd,Pr.pure,lk];cases rn s p with
 |none=>simp[jF,iU]
 |some x=>
  obtain⟨k,p⟩:=x;simp only[km];cases rt s p with
  |none=>simp[jF,iU]
  |some x=>
   obtain⟨a,p⟩:=x;simp only[km];cases rt s p with
   |none=>simp[jF,iU]
   |some x=>
    obtain⟨b,p⟩:=x;simp only[km];cases rt s p with
    |none=>simp[jF,iU]
    |some x=>
     obtain⟨c,p⟩:=x;simp only[lk];cases rn s p with
     |none=>simp[jF,iU]
     |some x=>
      obtain⟨d,p⟩:=x;simp only[lk];cases rn s p with
      |none=>simp[jF]
      |some x=>
       obtain⟨e,p⟩:=x;simp only[km];cases rt s p with
       |none=>simp[jF]
       |some x=>
        obtain⟨f,p⟩:=x;simp only[km];cases rt s p with
        |none=>simp
        |some x=>obtain⟨g,p⟩:=x;simp only[];cases ep ⟨k,a,b,c,d,e,f,g⟩<;>simp
theorem Kd:p6 qB fi (fun c=>An c/\ep c=true):=by
 refine(bU (fun c:Cg=>c.k) gA (fun k _=>bU (fun c:Cg=>c.field) lV (fun field _=>bU (fun c:Cg=>c.name) lV (fun name _=>bU (fun c:Cg=>c.more) lV (fun more _=>
  bU (fun c:Cg=>c.tk) gA (fun tk _=>bU (fun c:Cg=>c.fP) gA (fun fP _=>bU (fun c:Cg=>c.expr) lV (fun expr _=>bU (fun c:Cg=>c.other) lV (fun other _=>mY (ep ⟨k,field,name,more,tk,fP,expr,other⟩) (eQ _))
  fun x y h=> ?_) fun x y h=> ?_) fun x y h=> ?_) fun x y h=> ?_) fun x y h=> ?_) fun x y h=> ?_) fun x y h=> ?_) fun x y h=> ?_).congr NA (fun c=> ?_) fun c _=>by simp[fi]
 {rw[h.2]};{rw[h.2.2]};{rw[h.2.2.2]};{rw[h.2.2.2.2]};{rw[h.2.2.2.2.2]};{rw[h.2.2.2.2.2.2]};{rw[h.2.2.2.2.2.2.2]};{rw[h.2.2.2.2.2.2.2.2]};{simp only[An,and_true];constructor;{rintro⟨⟨h1,h2,h3,h4,a,h6,h7,b⟩,d⟩;exact⟨h1,h2,h3,h4,a,h6,h7,b,d⟩};{rintro⟨h1,h2,h3,h4,a,h6,h7,b,d⟩;exact⟨⟨h1,h2,h3,h4,a,h6,h7,b⟩,d⟩}}
theorem my{s:ByteArray}{b:Bool}(h:dK s b=true):s.size<=200:=by unfold dK kP at h;by_cases hs:200<s.size;{rw[Rs hs,k7,Rt]at h;rcases h with h|h;{omega};{simp at h}};{omega}
theorem sB{s:ByteArray}{b:Bool}(h:m' s b=true):s.size<=20:=by unfold m' at h;split at h;{exact ff h};{have:=of_decide_eq_true h;omega}
theorem CW{k o:Int}(h:gN k o=true):1<=k/\k<=5/\0<=o/\o<=4:=by unfold gN at h;split at h;{simp at h;omega};{simp at h;omega}
theorem JT{k:Int}(h:(nW k).2=true):1<=k/\k<=6:=by unfold nW at h;split at h;{omega};{split at h;{omega};{split at h;{omega};{split at h;{omega};{split at h;{omega};{cases h}}}}}
theorem q_{c:Cg}(h:ep c=true):ee c.k/\c.field.size<=20/\c.name.size<=20/\c.more.size<=20/\(0<=c.tk/\c.tk<=5)/\(0<=c.fP/\c.fP<=4)/\c.expr.size<=200/\c.other.size<=200:=by unfold ep tU at h;simp only[aK,k7,beq_iff_eq,Rt]at h;obtain⟨h1,h2,h3,h4,a,h6,h7,b⟩:=h;have d:=JT h1;refine⟨by unfold ee;omega,sB h2,sB h3,sB h4, ?_, ?_,my h7,my b⟩;{rcases h6 with h6|h6;{have:=CW (a.symm.trans h6);omega};{omega}};{rcases h6 with h6|h6;{have:=CW (a.symm.trans h6);omega};{omega}}
theorem Mr:p6 qB fi (fun c=>ep c=true):=Kd.congr (fun _ _=>rfl) (fun c=>⟨fun h=>⟨by have:=q_ h;unfold An ee;unfold ee at this;omega,h⟩,fun h=>h.2⟩) fun _ _=>rfl
def vQ(r:Rc):List UInt8:=az r.kind++
 (if r.kind=3 then az r.id++eA r.cls else if r.kind=4 then az r.id++(az r.bY++fi r.bF)else if r.kind=1 then fE r.obj else if r.kind=2\/r.kind=5 then dy r.name++az r.id else [])
def Ce(r:Rc):Prop:=
 (r.kind=3/\ee r.id/\dI r.cls=true/\r=⟨3,oz,r.id,0,iY,r.cls,nJ⟩)\/
 (r.kind=4/\ee r.id/\ee r.bY/\ep r.bF=true/\r=⟨4,oz,r.id,r.bY,iY,iA,r.bF⟩)\/
 (r.kind=1/\dv r.obj=true/\r=⟨1,r.obj,0,0,iY,iA,nJ⟩)\/
 ((r.kind=2\/r.kind=5)/\ee r.id/\r.name.size<=10000/\r=⟨r.kind,oz,r.id,0,r.name,iA,nJ⟩)
def Ew(k:Int):Pr Rc:=
 if k=3 then .bind rn fun id=>.bind jg fun c=>.pure (Rc.mk 3 oz id 0 iY c nJ)
 else if k=4 then .bind rn fun id=>.bind rn fun bY=>.bind qB fun g=>.pure (Rc.mk 4 oz id bY iY iA g)
 else if k=1 then .bind oh fun o=>.pure (Rc.mk 1 o 0 0 iY iA nJ)
 else .gd (decide (k=2\/k=5)) (.bind rt fun t=>.bind rn fun id=>.pure (Rc.mk k oz id 0 t iA nJ))
theorem Jj(s:ByteArray)(p:Int):kN s p=Pr.bind rn Ew s p:=by
 unfold kN Ew Pr.bind;cases rn s p with
 |none=>rfl
 |some x=>
  obtain⟨k,p⟩:=x;simp only[];by_cases k3:k=3
  · simp only[Rs k3,Pr.pure];cases rn s p with
    |none=>rfl
    |some x=>obtain⟨a,p⟩:=x;simp only[];cases jg s p<;>rfl
  · by_cases b:k=4
    · simp only[Rq k3,Rs b,Pr.pure];cases rn s p with
      |none=>rfl
      |some x=>
       obtain⟨a,p⟩:=x;simp only[];cases rn s p with
       |none=>rfl
       |some x=>obtain⟨a,p⟩:=x;simp only[];cases qB s p<;>rfl
    · by_cases c:k=1;{simp only[Rq k3,Rq b,Rs c,Pr.pure];cases oh s p<;>rfl}
      · simp only[Rq k3,Rq b,Rq c,Pr.pure,Pr.gd];by_cases k2:k=2\/k=5
        · rw[Rs k2,Rs (by simpa using k2)];cases rt s p with
          |none=>rfl
          |some x=>obtain⟨a,p⟩:=x;simp only[];cases rn s p<;>rfl
        {rw[Rq k2,Rq (by simpa using k2)]}
theorem Kh:p6 (.bind rn fun id=>.bind jg fun c=>.pure (Rc.mk 3 oz id 0 iY c nJ)) (fun r=>az r.id++eA r.cls) (fun r=>ee r.id/\dI r.cls=true/\r=⟨3,oz,r.id,0,iY,r.cls,nJ⟩):=by
 refine(bU (fun r:Rc=>r.id) gA (fun id _=>bU (fun r:Rc=>r.cls) Hn (fun c _=>eQ (Rc.mk 3 oz id 0 iY c nJ)) fun x y h=>by rw[h]) fun x y h=>by rw[h.2]).congr (fun _ _=>rfl) (fun r=> ?_) fun r _=>by simp
 exact Iff.rfl
theorem Ki:p6 (.bind rn fun id=>.bind rn fun bY=>.bind qB fun g=>.pure (Rc.mk 4 oz id bY iY iA g)) (fun r=>az r.id++(az r.bY++fi r.bF)) (fun r=>ee r.id/\ee r.bY/\ep r.bF=true/\r=⟨4,oz,r.id,r.bY,iY,iA,r.bF⟩):=by
 refine(bU (fun r:Rc=>r.id) gA (fun id _=>bU (fun r:Rc=>r.bY) gA (fun bY _=>bU (fun r:Rc=>r.bF) Mr (fun c _=>eQ (Rc.mk 4 oz id bY iY iA c)) fun x y h=>by rw[h]) fun x y h=>by rw[h.2]) fun x y h=>by rw[h.2.2]).congr (fun _ _=>rfl) (fun r=> ?_) fun r _=>by simp
 exact Iff.rfl
theorem Kf:p6 (.bind oh fun o=>.pure (Rc.mk 1 o 0 0 iY iA nJ)) (fun r=>fE r.obj) (fun r=>dv r.obj=true/\r=⟨1,r.obj,0,0,iY,iA,nJ⟩):=by
 refine(bU (fun r:Rc=>r.obj) Ke (fun o _=>eQ (Rc.mk 1 o 0 0 iY iA nJ)) fun x y h=>by rw[h]).congr (fun _ _=>rfl) (fun r=> ?_) fun r _=>by simp
 exact Iff.rfl
theorem Kg(k:Int):p6 (.bind rt fun t=>.bind rn fun id=>.pure (Rc.mk k oz id 0 t iA nJ)) (fun r=>dy r.name++az r.id) (fun r=>r.name.size<=10000/\ee r.id/\r=⟨k,oz,r.id,0,r.name,iA,nJ⟩):=by
 refine(bU (fun r:Rc=>r.name) lV (fun t _=>bU (fun r:Rc=>r.id) gA (fun id _=>eQ (Rc.mk k oz id 0 t iA nJ)) fun x y h=>by rw[h]) fun x y h=>by rw[h.2]).congr (fun _ _=>rfl) (fun r=> ?_) fun r _=>by simp
 exact Iff.rfl
theorem FM:p6 kN vQ Ce:=by
 refine(bU (f:=Ew) (enc2:=fun k r=>if k=3 then az r.id++eA r.cls else if k=4 then az r.id++(az r.bY++fi r.bF)else if k=1 then fE r.obj else dy r.name++az r.id)
  (ok2:=fun k r=>r.kind=k/\Ce r) (fun r:Rc=>r.kind) gA (fun k _=> ?_) fun x y h=>h.1).congr Jj (fun r=> ?_) fun r h=> ?_
 · by_cases k3:k=3
   · refine Kh.congr (fun s p=>by rw[Ew,Rs k3]) (fun r=> ?_) fun r _=>by rw[Rs k3]
     subst k3;constructor;{rintro⟨hk,h|h|h|h⟩;{exact h.2};{omega};{omega};{omega}};{intro h;have:r.kind=3:=(by rw[h.2.2]);exact⟨this, .inl ⟨this,h⟩⟩}
   by_cases a:k=4
   · refine Ki.congr (fun s p=>by rw[Ew,Rq k3,Rs a]) (fun r=> ?_) fun r _=>by rw[Rq k3,Rs a]
     subst a;constructor;{rintro⟨hk,h|h|h|h⟩;{omega};{exact h.2};{omega};{omega}};{intro h;have:r.kind=4:=(by rw[h.2.2.2]);exact⟨this, .inr (.inl ⟨this,h⟩)⟩}
   by_cases b:k=1
   · refine Kf.congr (fun s p=>by rw[Ew,Rq k3,Rq a,Rs b]) (fun r=> ?_) fun r _=>by rw[Rq k3,Rq a,Rs b]
     subst b;constructor;{rintro⟨hk,h|h|h|h⟩;{omega};{omega};{exact h.2};{omega}};{intro h;have:r.kind=1:=(by rw[h.2]);exact⟨this, .inr (.inr (.inl ⟨this,h⟩))⟩}
   · refine(mY (decide (k=2\/k=5)) (Kg k)).congr (fun s p=>by rw[Ew,Rq k3,Rq a,Rq b]) (fun r=> ?_) fun r _=>by rw[Rq k3,Rq a,Rq b]
     simp only[Rt];constructor;{rintro⟨hk,h|h|h|h⟩;{omega};{omega};{omega};{obtain⟨h1,h2,h3,h4⟩:=h;rw[hk]at h1 h4;exact⟨h1,h3,h2,h4⟩}};{rintro⟨h1,h2,h3,h4⟩;have:r.kind=k:=(by rw[h4]);exact⟨this, .inr (.inr (.inr ⟨by rw[this];exact h1,h3,h2,by rw[this];exact h4⟩))⟩}
 {simp only[true_and];constructor;{intro h;refine⟨?_,h⟩;unfold ee;rcases h with h|h|h|h<;>omega};{rintro⟨_,h⟩;exact h}};{unfold vQ;rcases h.2.2 with h|h|h|h;{simp only[Rs h.1]};{simp[h.1]};{simp[h.1]};{rcases h.1 with h1|h1<;>simp[h1]}}
theorem EO{o:Ob}(h:tI o oz=true):o=oz:=by
 obtain⟨a,b,c,l⟩:=o;simp only[tI,aK,Rt]at h;simp only[oz]at h⊢;obtain⟨rfl,rfl,rfl,h⟩:=h;cases l with
 |nil=>rfl
 |cons x l=>simp[qj]at h
theorem yW{a b:pd}:tH a b=true<->a=b:=by cases a;cases b;simp[tH,sF]
theorem EP{r:Rc}(h:oC r vm=true):r=vm:=by obtain⟨k,o,id,bY,nm,c,g⟩:=r;simp only[oC,aK,Rt,yW,yX]at h;simp only[vm]at h⊢;obtain⟨rfl,rfl,rfl,rfl,h1,rfl,rfl⟩:=h;rw[EO h1]
theorem wV{x:Int}(h0:0<=x)(h1:x<=100000):ee x:=⟨by omega,by omega⟩
theorem yQ{r:Rc}{l:List UInt8}(h:jA r=O l):Ce r/\l=vQ r/\1<=r.kind/\r.kind<=5:=by
 unfold jA at h;split at h
 · rename_i hc;obtain⟨hk,hb⟩:=hc;have hb:=EP hb;simp only[uv,aK,Rt]at hk;cases a:qI r with
   |none=>rw[a]at h;simp at h
   |some m=>rw[a]at h;simp only[eZ,bu]at h;subst h;obtain⟨k,o,id,bY,nm,c,g⟩:=r;simp only at hk;unfold qI at a;unfold uO at hb;simp only at a hb;by_cases k3:k=3;{subst k3;simp only[Rs]at a hb;split at a;{rename_i h1;cases a;simp only[vm,Rc.mk.injEq]at hb;obtain⟨_,rfl,_,rfl,rfl,_,rfl⟩:=hb;exact⟨.inl ⟨rfl,wV (x:=id) (by omega) (by omega),h1.1,rfl⟩,by simp[vQ],hk⟩};{cases a}};by_cases b:k=4;{subst b;simp only[Rq k3,Rs]at a hb;split at a;{rename_i h1;cases a;simp only[vm,Rc.mk.injEq]at hb;obtain⟨_,rfl,_,_,rfl,rfl,_⟩:=hb;exact⟨.inr (.inl ⟨rfl,wV (x:=id) (by omega) (by omega),wV (x:=bY) (by omega) (by omega),h1.1,rfl⟩),by simp[vQ],hk⟩};{cases a}};by_cases d:k=1;{subst d;simp only[Rq k3,Rq b,Rs]at a hb;split at a;{rename_i h1;cases a;simp only[vm,Rc.mk.injEq]at hb;obtain⟨_,_,rfl,rfl,rfl,rfl,rfl⟩:=hb;exact⟨.inr (.inr (.inl ⟨rfl,h1,rfl⟩)),by simp[vQ],hk⟩};{cases a}};simp only[Rq k3,Rq b,Rq d]at a hb;simp only[vm,Rc.mk.injEq]at hb;obtain⟨_,rfl,_,rfl,_,rfl,rfl⟩:=hb;by_cases k2:k=2;{subst k2;simp only[Rs]at a;split at a;{rename_i h1;cases a;have:=ff h1.2.2;exact⟨.inr (.inr (.inr ⟨.inl A,wV (x:=id) (by omega) (by omega),by show nm.size<=10000;omega,rfl⟩)),by simp[vQ],hk⟩};{cases a}};{rw[Rq k2]at a;by_cases e:k=5;{subst e;simp only[Rs]at a;split at a;{rename_i h1;cases a;have:=ff h1.2.2;exact⟨.inr (.inr (.inr ⟨.inr A,wV (x:=id) (by omega) (by omega),by show nm.size<=10000;omega,rfl⟩)),by simp[vQ],hk⟩};{cases a}};{rw[Rq e]at a;cases a}}
 {cases h}
theorem nI{r:Rc}(h:(jA r).isSome=true):Ce r/\fC r=vQ r:=by
 cases hr:jA r with
 |none=>rw[hr]at h;cases h
 |some l=>obtain⟨h1,h2,_⟩:=yQ hr;exact⟨h1,by rw[fC,hr];exact h2⟩
def iC(kind:Int):List Rc ->List Int ->List UInt8
 | [],_=>[]
 |r::l,[]=>vQ r++iC kind l []
 |r::l,v::vs=>(if kind=2 then az v else [])++(vQ r++iC kind l vs)
def yL(kind:Int)(n:Nat)(x:List Rc×List Int):Prop:=x.1.length=n/\(∀r∈x.1,Ce r)/\(if kind=2 then x.2.length=n/\∀v∈x.2,ee v else x.2=[])
def vh(kind:Int):Pr (Rc×Option Int):=if kind=2 then .bind rn fun v=>.bind kN fun r=>.pure (r,O v)else .bind kN fun r=>.pure (r,N)
def iE:List (Rc×Option Int) ->List Rc×List Int
 | []=>([],[])
 |(r,O v)::l=>(r::(iE l).1,v::(iE l).2)
 |(r,N)::l=>(r::(iE l).1,(iE l).2)
theorem uf(s:ByteArray)(kind:Int):∀(n:Nat) (p:Int),er s kind n p=(Pr.many (vh kind) n s p).map fun x=>(iE x.1,x.2)
 |0,p=>rfl
 |n+1,p=>by
  have b:=uf s kind n;rw[rv];unfold er vh;by_cases hk:kind=2
  · simp only[Rs hk,Pr.bind,Pr.pure];cases rn s p with
    |none=>rfl
    |some x=>
     obtain⟨v,c⟩:=x;simp only[];cases kN s c with
     |none=>rfl
     |some x=>obtain⟨r,a⟩:=x;simp only[b];unfold vh;simp only[Rs hk];cases Pr.many _ n s a<;>rfl
  · simp only[Rq hk,Pr.bind,Pr.pure];cases kN s p with
    |none=>rfl
    |some x=>obtain⟨r,a⟩:=x;simp only[b];unfold vh;simp only[Rq hk];cases Pr.many _ n s a<;>rfl
def mx(kind:Int)(x:Rc×Option Int):List UInt8:=(if kind=2 then az (x.2.getD 0)else [])++vQ x.1
def Al(kind:Int)(x:Rc×Option Int):Prop:=Ce x.1/\(if kind=2 then∃v,x.2=O v/\ee v else x.2=N)
theorem Cr(kind:Int):p6 (vh kind) (mx kind) (Al kind):=by
 by_cases hk:kind=2
 · refine(bU (f:=fun v=>.bind kN fun r=>.pure (r,O v)) (fun x:Rc×Option Int=>x.2.getD 0) gA (fun v _=>bU (f:=fun r=>.pure (r,O v)) (fun x:Rc×Option Int=>x.1) FM (fun r _=>eQ (r,O v)) fun x y h=>by rw[h]) fun x y h=>by rw[h.2];rfl).congr (fun s p=>by rw[vh,Rs hk]) (fun x=> ?_) fun x _=>by simp[mx,hk]
   obtain⟨r,o⟩:=x;simp only[Al,Rs hk,cu,true_and];constructor;{rintro⟨h1,v,rfl,h2⟩;exact⟨h2,h1,rfl⟩};{rintro⟨h1,h2,h3⟩;exact⟨h2,_,h3,h1⟩}
 · refine(bU (f:=fun r=>.pure (r,N)) (fun x:Rc×Option Int=>x.1) FM (fun r _=>eQ (r,N)) fun x y h=>by rw[h]).congr (fun s p=>by rw[vh,Rq hk]) (fun x=> ?_) fun x _=>by simp[mx,hk]
   obtain⟨r,o⟩:=x;simp only[Al,Rq hk,cu,true_and]
theorem vF(kind:Int)(hk:kind≠2):∀l:List Rc,iE (l.map fun r=>(r,N))=(l,[])
 | []=>rfl
 |r::l=>by rw[gj,iE,vF kind hk l]
theorem unzip_zip:∀(l:List Rc) (vs:List Int),vs.length=l.length ->iE (List.zipWith (fun r v=>(r,O v)) l vs)=(l,vs)
 | [],[],_=>rfl
 | [],_::_,h=>by simp at h
 |_::_,[],h=>by simp at h
 |r::l,v::vs,h=>by rw[List.zipWith_cons_cons,iE,unzip_zip l vs (by simpa using h)]
theorem MC(s:ByteArray)(kind:Int)(n:Nat)(l:List Rc)(vs:List Int)(a b:List UInt8)(h:yL kind n (l,vs))(hs:s.data.toList=a++iC kind l vs++b):er s kind n a.length=O ((l,vs),((a.length+(iC kind l vs).length:Nat):Int)):=by
 obtain⟨h1,h2,h3⟩:=h;simp only at h1 h2 h3;rw[uf];have hm:=oZ (Cr kind) n;by_cases hk:kind=2
 · rw[Rs hk]at h3
   have e:∀(l:List Rc) (vs:List Int),vs.length=l.length ->(List.zipWith (fun r v=>(r,O v)) l vs).flatMap (mx kind)=iC kind l vs:=by
    intro l;induction l with
    |nil=>intro vs _;simp[iC]
    |cons r l c=>
     intro vs hv;cases vs with
     |nil=>simp at hv
     |cons v vs=>rw[List.zipWith_cons_cons,dB,c vs (by simpa using hv),iC,mx];simp
   have d:vs.length=l.length:=(by omega);rw[<-e l vs d]at hs⊢;rw[hm.fwd s _ a b ⟨by simp;omega, ?_⟩ hs,eZ,unzip_zip l vs d];intro x hx;obtain⟨i,hi,rfl⟩:=List.mem_iff_getElem.1 hx;rw[List.getElem_zipWith];refine⟨h2 _ (jv _), ?_⟩;rw[Rs hk];exact⟨_,rfl,h3.2 _ (jv _)⟩
 · rw[Rq hk]at h3;subst h3
   have e:∀l:List Rc,(l.map fun r=>(r,N)).flatMap (mx kind)=iC kind l []:=by
    intro l;induction l with
    |nil=>simp[iC]
    |cons r l c=>rw[gj,dB,c,iC,mx];simp[hk]
   rw[<-e l]at hs⊢;rw[hm.fwd s _ a b ⟨by simp;omega, ?_⟩ hs,eZ,vF kind hk];intro x hx;obtain⟨r,hr,rfl⟩:=fJ.1 hx;refine⟨h2 r hr, ?_⟩;rw[Rq hk]
theorem CX(kind:Int):∀x:List (Rc×Option Int),(∀y∈x,Al kind y) ->yL kind x.length (iE x)/\x.flatMap (mx kind)=iC kind (iE x).1 (iE x).2
 | [],_=>by simp[iE,yL,iC]
 |(r,o)::x,h=>by obtain⟨⟨b,c,a⟩,d⟩:=CX kind x fun y hy=>h y (by simp[hy]);obtain⟨h1,h2⟩:=h (r,o) (by simp);by_cases hk:kind=2;{rw[Rs hk]at h2 a;obtain⟨v,rfl,hv⟩:=h2;refine⟨⟨by simp[iE,b],fun y hy=> ?_, ?_⟩, ?_⟩;{simp only[iE,bh]at hy;rcases hy with rfl|hy;{exact h1};{exact c y hy}};{rw[Rs hk];refine⟨by simp[iE,a.1],fun y hy=> ?_⟩;simp only[iE,bh]at hy;rcases hy with rfl|hy;{exact hv};{exact a.2 y hy}};{rw[dB,d,iE,iC,mx];simp}};{rw[Rq hk]at h2 a;subst h2;refine⟨⟨by simp[iE,b],fun y hy=> ?_, ?_⟩, ?_⟩;{simp only[iE,bh]at hy;rcases hy with rfl|hy;{exact h1};{exact c y hy}};{rw[Rq hk];simpa[iE]using a};{rw[dB,d,iE];simp only[a];rw[iC,mx];simp[hk]}}
theorem MD(s:ByteArray)(kind:Int)(n:Nat)(l:List Rc)(vs:List Int)(p q:Int)(h0:0<=p)(h1:p<=s.size)(h:er s kind n p=O ((l,vs),q)):yL kind n (l,vs)/\∃a b,s.data.toList=a++iC kind l vs++b/\p=(a.length:Int)/\q=((a.length+(iC kind l vs).length:Nat):Int):=by
 rw[uf]at h;cases hm:Pr.many (vh kind) n s p with
 |none=>rw[hm]at h;cases h
 |some x=>obtain⟨x,q'⟩ :=x;rw[hm]at h;simp only[eZ,bu,cu]at h;obtain⟨e1,rfl⟩:=h;obtain⟨⟨m1,m2⟩,a,b,m3,m4,m5⟩:=(oZ (Cr kind) n).inv s p q' x h0 h1 hm;obtain⟨u1,u2⟩:=CX kind x m2;rw[e1]at u1 u2;rw[u2]at m3 m5;exact⟨m1▸u1,a,b,m3,m4,m5⟩
theorem FO(nm:ByteArray)(fs:List iF)(n:Option Addr)(j:Nat)(w:ai)(hs:nm.size<=9223372036854775807)(hf:je w (Z n fs.length j) fs):aJ ah 83 #[.agg #[U nm,Z n fs.length j]] w fun e w'=>yq e/\Below w.heap.size w w':=by
 have s:=M hf;have t:=M (fun W=>jG nm W hs);have H:=M (St.start ej w);clear hf;cases s1:dn nm;all_goals rw[s1]at t;clear s1;go_in;go_wp2_with{};generalize e:aq w _=X;replace H:=bW e (St.alloc H.out _);clear e;refine(t.out _).mono ?_;rintro e Q⟨rfl,c⟩;replace H:=M (H.out.below c);clear c;obtain⟨cs,a⟩:=St.cs H 0 A;simp only[ak]at cs;obtain⟨⟨a0,b0⟩,⟨a1,b1⟩, -⟩:=cs
 {go_wp2_with{};go_ret;exact⟨yn _,H.out.low.aC⟩};by_cases G:8<fs.length;{have i8:(8:Int)<(fs.length:Int):=(by omega);go_wp2_with{};go_ret;exact⟨yn _,H.out.low.aC⟩};have i8:¬(8:Int)<(fs.length:Int):=by omega
 go_wp2_with{};go_loopw [3] (fun i wr=>∃k:Nat,k<=fs.length/\i=I J k/\Hid (St ej w [eH w.heap.size (.cells #[U nm,Z n fs.length j] 28 (0,0))] wr)) (fun i _=>fs.length - (intOf i).toNat);case atStart=>exact⟨0,by omega,rfl,H⟩
 case round=>
  clear H a0 b0 a1 b1 a;obtain⟨i,hi,rfl,H⟩:=hrel;obtain⟨cs,a⟩:=St.cs H 0 A;simp only[ak]at cs;obtain⟨⟨a0,b0⟩,⟨a1,b1⟩, -⟩:=cs;have K:(0:Int)<=(i:Int):=(by omega);by_cases r:i<fs.length;case neg=>have C:¬(i:Int)<(fs.length:Int):=(by omega);go_wp2_with{};go_ret;exact⟨yn _,H.out.low.aC⟩
  have C:(i:Int)<(fs.length:Int):=(by omega);obtain⟨f,h⟩:∃f,fs[i]? =O f:=⟨_,an r⟩;obtain⟨b,o,m,B,q0,q1,q2,q3⟩:=lP (je.below s.out H.out.low.aC) h;cases m;go_wp2_with{};generalize e:aq wr _=Y;obtain⟨D,p⟩:∃D,wr.heap.size=D:=⟨_,rfl⟩;replace H:=bW e (St.a6 H.out _ D p);rw[p];clear e p q0 q1 q2 q3 a0 b0 a1 b1 a h;have l:=M (fun W=>jG f.name W B);have y:=M (vu f.k f.o);refine(l.out _).mono ?_;rintro e w3⟨rfl,d⟩;replace H:=M (H.out.below d);clear d;obtain⟨cs,a⟩:=St.cs H 0 A;simp only[ak]at cs;obtain⟨⟨a0,b0⟩,⟨a1,b1⟩,⟨a2,c⟩,⟨a3,d⟩, -⟩:=cs;cases s1:dn f.name;{go_wp2_with{};go_ret;exact⟨yn _,H.out.low.aC⟩};go_wp2_with{};refine(y.out _).mono ?_;rintro e R⟨rfl,u⟩;replace H:=M (H.out.below u);clear u a0 b0 a1 b1 a2 c a3 d a s1;obtain⟨cs,a⟩:=St.cs H 0 A;simp only[ak]at cs;obtain⟨⟨a0,b0⟩,⟨a1,b1⟩,⟨a2,c⟩,⟨a3,d⟩, -⟩:=cs;cases s1:gN f.k f.o;{go_wp2_with{};go_ret;exact⟨yn _,H.out.low.aC⟩};clear s1;rcases(show f.ix=false\/f.ix=true/\3<f.k\/f.ix=true/\¬3<f.k by cases f.ix<;>simp;omega)with hx|⟨hx,h3⟩|⟨hx,h3⟩;case' inr.inl=>go_wp2_with{};go_ret;exact⟨yn _,H.out.low.aC⟩
  all_goals
   go_wp2_with{};go_loopw [5] (fun x wr=>∃k:Nat,k<=i/\x=I J k/\Hid (St ej w [eH D (.cells #[U f.name,I J f.k,I J f.o,Ri f.ix] 131 (0,0)),eH w.heap.size (.cells #[U nm,Z (O ⟨b,o,N⟩) fs.length j] 28 (0,0))] wr)) (fun x _=>i - (intOf x).toNat);case atStart=>exact⟨0,by omega,rfl,H⟩
   case round=>
    clear H a0 b0 a1 b1 a2 c a3 d a;obtain⟨k,hk,rfl,H⟩:=hrel;by_cases z:k<i
    · have E:(k:Int)<(i:Int):=(by omega);have L:(0:Int)<=(k:Int):=(by omega);have P:(k:Int)<(fs.length:Int):=(by omega);obtain⟨g,q⟩:∃g,fs[k]? =O g:=⟨_,an (by omega)⟩;obtain⟨F,o', m, -,q0, -, -, -⟩:=lP (je.below s.out H.out.low.aC) q;cases m;obtain⟨cs,a⟩:=St.cs H 0 A;simp only[ak]at cs;obtain⟨⟨a0,b0⟩, -⟩:=cs;obtain⟨cs,l1⟩:=St.cs H 1 A;simp only[ak]at cs;obtain⟨-,⟨c1,d1⟩, -⟩:=cs;go_wp2_with{};refine fY (by kernel_rfl) (by kernel_rfl) ?_;repeat still_step
      refine wpStill_nil ?_;go_wp2_with{}
      all_goals first
       |exact⟨⟨k+1,by omega,by go_num,M H.out.drew⟩,by simp[intOf];omega⟩
       |(go_ret;exact⟨yn _,H.out.drew.low.aC⟩)
    · have E:¬(k:Int)<(i:Int):=(by omega);go_wp2_with{};go_roundw;case rel=>exact⟨i+1,by omega,by go_num,M (H.out.drop 0)⟩
      case measure=>simp[intOf];omega
def Dr(k:Nat)(e:Ending):Prop:=∃n:Nat,n<=k/\e=Rh (I J n)
theorem eR{k:Nat}(n:Nat)(h:n<=k):Dr k (Rh (I J (n:Int))):=⟨n,h,rfl⟩
theorem zD(s:ByteArray)(w:ai):aJ ah 245 #[U s] w fun e w'=>Dr 3 e/\w=w':=by go_in;go_wp2_with{};all_goals go_ret;exact⟨⟨_,by first|exact(show(0:Nat)<=3 by decide)|exact(show(1:Nat)<=3 by decide)|exact(show(2:Nat)<=3 by decide)|exact(show(3:Nat)<=3 by decide),rfl⟩,rfl⟩
theorem zI(s:ByteArray)(w:ai):aJ ah 219 #[U s] w fun e w'=>Dr 4 e/\w=w':=by
 go_in;go_wp2_with{}
 all_goals
  go_ret
  first
   |exact⟨eR 0 (by decide),rfl⟩
   |exact⟨eR 1 (by decide),rfl⟩
   |exact⟨eR 2 (by decide),rfl⟩
   |exact⟨eR 3 (by decide),rfl⟩
   |exact⟨eR 4 (by decide),rfl⟩
def Jn(x:Int):Bool:=decide (48<=x)&&decide (x<=57)
theorem yw(x:Int)(w:ai):aJ ah 216 #[.int .u8 x] w fun e w'=>e=Rh (Ri (Jn x))/\w=w':=by unfold Jn;cases d1:decide (48<=x)<;>cases d2:decide (x<=57);all_goals go_in;go_wp2_with{};go_ret;exact⟨rfl,rfl⟩
def KO(x:Int):Bool:=decide (97<=x)&&decide (x<=122)||(decide (48<=x)&&decide (x<=57)||(x==95))
theorem Db(x:Int)(w:ai):aJ ah 218 #[.int .u8 x] w fun e w'=>e=Rh (Ri (KO x))/\w=w':=by
 obtain⟨b,hb⟩:∃b,KO x=b:=⟨_,rfl⟩;have a:=M hb;rw[hb];clear hb;rcases(show x<48\/(48<=x/\x<=57)\/(57<x/\x≠95/\x<97)\/x=95\/(97<=x/\x<=122)\/122<x by omega)with h|h|h|h|h|h
 all_goals
  first|have d1:decide (97<=x)=true:=Rv (by omega)|have d1:decide (97<=x)=false:=Rw (by omega)
  first|have d2:decide (x<=122)=true:=Rv (by omega)|have d2:decide (x<=122)=false:=Rw (by omega)
  first|have d3:decide (48<=x)=true:=Rv (by omega)|have d3:decide (48<=x)=false:=Rw (by omega)
  first|have d4:decide (x<=57)=true:=Rv (by omega)|have d4:decide (x<=57)=false:=Rw (by omega)
  first|have d5:(x==95)=true:=beq_iff_eq.2 (by omega)|have d5:(x==95)=false:=Rm.2 (by omega)
  have hb:=a.out;unfold KO at hb;rw[d1,d2,d3,d4,d5]at hb;subst hb;clear a h;go_in;go_wp2_with{};go_ret;exact⟨rfl,rfl⟩
def MZ(s:ByteArray)(at':Nat)(e:Ending):Prop:=∃(t:ByteArray) (q:Nat),e=Rh (Rx #[U t,I J q])/\t.size<=s.size/\(q=0\/at'<q/\q<=s.size)
theorem AM(s:ByteArray)(at':Nat):MZ s at' (Rh (Rx #[U ⟨#[]⟩,I J 0])):=⟨⟨#[]⟩,0,rfl,bw _, .inl A⟩
theorem MK(s:ByteArray)(at':Nat)(ha:at'<s.size)(hs:s.size<=1000000)(w:ai):aJ ah 217 #[U s,I J at'] w fun e w'=>MZ s at' e/\Below w.heap.size w w':=by
 go_in;go_wp2_with{};go_loopw [6,7] (fun t x wr=>∃(k:Nat) (u:ByteArray),t=U u/\x=I J k/\at'+1<=k/\k<=s.size/\u.size<k/\Hid (Below w.heap.size w wr)) (fun _ x _=>s.size - (intOf x).toNat);case atStart=>exact⟨at'+1,⟨#[]⟩,rfl,by go_num,by omega,by omega,by simp[ByteArray.size],M (ax _ _)⟩
 case round=>
  obtain⟨k,u,rfl,rfl,n,hk,hu,a⟩:=hrel;have q:(0:Int)<=(k:Int):=(by omega);by_cases h:k<s.size;case neg=>have o:¬(k:Int)<(s.size:Int):=(by omega);go_wp2_with{};go_ret2;exact⟨AM _ _,a.out⟩
  have o:(k:Int)<(s.size:Int):=(by omega);obtain⟨x,hx⟩:∃x:Int,(s[k].toNat:Int)=x:=⟨_,rfl⟩;by_cases d:x=34;{subst d;go_wp2_with{};refine(Cw u (by omega) _).mono ?_;rintro e y⟨⟨b,rfl⟩,i⟩;have B2:=M (a.out.trans (i.mono a.out.size));clear i;cases b;{go_wp2_with{};go_ret2;exact⟨AM _ _,B2.out⟩};{go_wp2_with{};go_ret2;exact⟨⟨u,k+1,by go_num,by omega, .inr ⟨by omega,by omega⟩⟩,B2.out⟩}};have d34:(x==34)=false:=Rm.2 d;have app:∀j:Nat,j<s.size ->∃c,s.extract j (j+1)=c/\c.size=1:=fun j l=>⟨_,rfl,by simp;omega⟩;by_cases f:x=92
  · subst f;by_cases l:k+1<s.size;case neg=>have p:decide ((s.size:Int)<=(k:Int)+1)=true:=Rv (by omega);go_wp2_with{};go_ret2;exact⟨AM _ _,a.out⟩
    have p:decide ((s.size:Int)<=(k:Int)+1)=false:=Rw (by omega);have r:(k:Int)+1<(s.size:Int):=(by omega);obtain⟨c,hc,g⟩:=app (k+1) l;have m:=M g;clear app;go_wp2_with{}
    all_goals first
     |exact⟨⟨k+2,u++c,rfl,by go_num,by omega,by omega,by have:=m.out;simp;omega,a⟩,by simp[intOf];omega⟩
     |(go_ret2;exact⟨AM _ _,a.out⟩)
  · have d92:(x==92)=false:=Rm.2 f;obtain⟨c,hc,g⟩:=app k h;clear app;go_wp2_with{};go_roundw;case rel=>exact⟨k+1,u++c,rfl,by go_num,by omega,by omega,by simp;omega,a⟩
    case measure=>simp[intOf];omega
theorem dx{P:Program}(fn:Func)(tmps:Array Value)(i j g:Nat)(T:TypeId)(W:ai)(cs:Array Value)(v:Value)(fr:Nat×Nat)(a:fn.results= #[.cell i T, .tmp j])(h1:tmps.getD i undef=.pointer (O ⟨g,0,N⟩))(h2:tmps.getD j undef=v)(hg:W.heap[g]? =O (.cells cs T fr))(hu:P.underlying T=O (.struct (P.fieldsOf T)))(hi:(P.info? T).map (·.size)=O cs.size):(results fn tmps).run P W=.ok (Rx #[.agg cs,v]) W:=by
 have b:=run_loadVar_row (P:=P) W g T T cs fr _ hg hu A hi;have ha:(asAddr (tmps.getD i undef)).run P W=.ok ⟨g,0,N⟩ W:=by rw[h1];simp[asAddr]
 unfold results;rw[a];simp[-Array.getD_eq_getD_getElem?,cG,ha,b,h2]
def Ow(s:ByteArray)(at':Nat)(e:Ending):Prop:=∃(k n:Int) (t:ByteArray) (q:Nat),e=Rh (Rx #[.agg #[I J k,I J n,U t,I J at'], I J q])/\t.size<=s.size/\(q=0\/at'<q/\q<=s.size)
theorem LR(s:ByteArray)(at':Nat)(ha:at'<s.size)(hs:s.size<=1000000)(w:ai):aJ ah 190 #[U s,I J at'] w fun e w'=>Ow s at' e/\Below w.heap.size w w':=by
 have H:=M (St.start ej w);have i0:(0:Int)<=(at':Int):=by omega
 have i1:(at':Int)<(s.size:Int):=by omega
 obtain⟨x,hx⟩:∃x:Int,(s[at'].toNat:Int)=x:=⟨_,rfl⟩;go_in;go_wp2_with{};generalize e:aq (aq w _) _=X;replace H:=bW e (St.alloc (St.alloc H.out _) _);simp only[aQ]at H;clear e;refine(yw x _).mono ?_;rintro e w1⟨rfl,rfl⟩;cases hd:Jn x
 case' true=>
  have S:=M hd;clear hd;go_wp2_with{};go_loopw [7] (fun x wr=>∃(q:Nat) (n:Int),x=I J q/\at'<=q/\q<=s.size/\0<=n/\n<=1000000000000000/\Hid (St ej w [eH (w.heap.size+1) (.cells #[I J 0,I J n,U ⟨#[]⟩,I J at'] 254 (0,0)),eH w.heap.size (.cells #[I J 0,I J 0,U ⟨#[]⟩,I J 0] 254 (0,0))] wr)) (fun x _=>s.size - (intOf x).toNat);case atStart=>exact⟨at', 0,rfl,by omega,by omega,by omega,by omega,H⟩
  case round=>
   clear H;obtain⟨q,n,rfl,W,hq,ag,aj,H⟩:=hrel;have j0:(0:Int)<=(q:Int):=(by omega);by_cases V:q<s.size;case neg=>have j1:¬(q:Int)<(s.size:Int):=(by omega);obtain⟨cs,m⟩:=St.cs H 0 A;simp only[ak]at cs;obtain⟨⟨o,b⟩,⟨p,c⟩,⟨r,d⟩,⟨u,f⟩, -⟩:=cs;obtain⟨cs,z⟩:=St.cs H 1 A;simp only[ak]at cs;obtain⟨⟨D,g⟩,⟨r1,i⟩,⟨r2,j⟩,⟨E,k⟩, -⟩:=cs;have B:=H.out.ne 0 1 A A (by decide);have C:=H.out.ne 1 0 A A (by decide);go_wp2_with{};generalize e:af (af (af (af (af wr _ _) _ _) _ _) _ _) _ _=F;replace H:=bW e (St.aB (St.aB (St.aB (St.aB (St.aB H.out 0 A 0 _ A) 1 A 0 _ A) 1 A 1 _ A) 1 A 2 _ A) 1 A 3 _ A);simp only[ab,ae]at H;exact au (dx _ _ 4 5 _ 254 _ _ _ _ A A A (H.out.aR 1 A) (by kernel_rfl) (by kernel_rfl)) A ⟨⟨_,_,_,q,rfl,bw _, .inr ⟨by omega,by omega⟩⟩,H.out.low.aC⟩
   have j1:(q:Int)<(s.size:Int):=(by omega);obtain⟨y,hy⟩:∃y:Int,(s[q].toNat:Int)=y:=⟨_,rfl⟩;go_wp2_with{};refine(yw y _).mono ?_;rintro e K⟨rfl,rfl⟩;cases l:Jn y;{have G:at'<q:=by{rcases ed at' q with h|h;{exact h};{obtain rfl:q=at':=(by omega);rw[<-hy,hx,S.out]at l;cases l}};clear l;obtain⟨cs,m⟩:=St.cs H 0 A;simp only[ak]at cs;obtain⟨⟨o,b⟩,⟨p,c⟩,⟨r,d⟩,⟨u,f⟩, -⟩:=cs;obtain⟨cs,z⟩:=St.cs H 1 A;simp only[ak]at cs;obtain⟨⟨D,g⟩,⟨r1,i⟩,⟨r2,j⟩,⟨E,k⟩, -⟩:=cs;have B:=H.out.ne 0 1 A A (by decide);have C:=H.out.ne 1 0 A A (by decide);go_wp2_with{};generalize e:af (af (af (af (af wr _ _) _ _) _ _) _ _) _ _=F;replace H:=bW e (St.aB (St.aB (St.aB (St.aB (St.aB H.out 0 A 0 _ A) 1 A 0 _ A) 1 A 1 _ A) 1 A 2 _ A) 1 A 3 _ A);simp only[ab,ae]at H;exact au (dx _ _ 4 5 _ 254 _ _ _ _ A A A (H.out.aR 1 A) (by kernel_rfl) (by kernel_rfl)) A ⟨⟨_,_,_,q,rfl,bw _, .inr ⟨G,hq⟩⟩,H.out.low.aC⟩};have aF:48<=y/\y<=57:=(by unfold Jn at l;simpa using l);have aE:IntKind.u8.wrap (y - 48)=y - 48:=(by simp[IntKind.wrap_u8];omega);have al:IntKind.i64.wrap (y - 48)=y - 48:=bo _ (by omega);have ao:IntKind.i64.wrap (10*n)=10*n:=bo _ (by omega);have az:IntKind.i64.wrap (10*n+(y - 48))=10*n+(y - 48):=bo _ (by omega);clear l;obtain⟨cs,m⟩:=St.cs H 0 A;simp only[ak]at cs;obtain⟨⟨o,b⟩,⟨p,c⟩,⟨r,d⟩,⟨u,f⟩, -⟩:=cs;go_wp2_with{};refine jZ 10 (by kernel_rfl) (by kernel_rfl) ?_;simp only[di,eV,cU,dA];replace H:=M H.out.drew;clear m o b p c r d u f;generalize World.drew wr=a at*;obtain⟨cs,m⟩:=St.cs H 0 A;simp only[ak]at cs;obtain⟨⟨o,b⟩,⟨p,c⟩,⟨r,d⟩,⟨u,f⟩, -⟩:=cs;obtain⟨cs,z⟩:=St.cs H 1 A;simp only[ak]at cs;obtain⟨⟨D,g⟩,⟨r1,i⟩,⟨r2,j⟩,⟨E,k⟩, -⟩:=cs;have B:=H.out.ne 0 1 A A (by decide);have C:=H.out.ne 1 0 A A (by decide);repeat still_step
   refine wpStill_nil ?_;by_cases hv:1000000000000000<10*n+(y - 48);{go_wp2_with{};generalize e:af (af (af (af (af a _ _) _ _) _ _) _ _) _ _=F;replace H:=bW e (St.aB (St.aB (St.aB (St.aB (St.aB H.out 0 A 1 _ A) 1 A 0 _ A) 1 A 1 _ A) 1 A 2 _ A) 1 A 3 _ A);simp only[ab,ae]at H;exact au (dx _ _ 4 5 _ 254 _ _ _ _ A A A (H.out.aR 1 A) (by kernel_rfl) (by kernel_rfl)) A ⟨⟨_,_,_,0,rfl,bw _, .inl A⟩,H.out.low.aC⟩}
   · go_wp2_with{};generalize e:af a _ _=F;replace H:=bW e (St.aB H.out 0 A 1 _ A);simp only[ab,ae]at H;go_roundw;case rel=>exact⟨q+1,_,by go_num,by omega,by omega,by omega,by omega,H⟩
     case measure=>simp[intOf];omega
 case' false=>
  clear hd;by_cases Q:x=34;{subst Q;obtain⟨cs,m⟩:=St.cs H 0 A;simp only[ak]at cs;obtain⟨⟨o,b⟩,⟨p,c⟩,⟨r,d⟩,⟨u,f⟩, -⟩:=cs;obtain⟨cs,z⟩:=St.cs H 1 A;simp only[ak]at cs;obtain⟨⟨D,g⟩,⟨r1,i⟩,⟨r2,j⟩,⟨E,k⟩, -⟩:=cs;have B:=H.out.ne 0 1 A A (by decide);have C:=H.out.ne 1 0 A A (by decide);go_wp2_with{};generalize e:af X _ _=R;replace H:=bW e (St.aB H.out 0 A 0 _ A);simp only[ab,ae]at H;clear e m o b p c r d u f z D g r1 i r2 j E k B C;refine(MK s at' ha hs _).mono ?_;rintro e K⟨⟨t,q,rfl,Y,hq⟩,L⟩;replace H:=M (H.out.below L);clear L;obtain⟨cs,m⟩:=St.cs H 0 A;simp only[ak]at cs;obtain⟨⟨o,b⟩,⟨p,c⟩,⟨r,d⟩,⟨u,f⟩, -⟩:=cs;obtain⟨cs,z⟩:=St.cs H 1 A;simp only[ak]at cs;obtain⟨⟨D,g⟩,⟨r1,i⟩,⟨r2,j⟩,⟨E,k⟩, -⟩:=cs;have B:=H.out.ne 0 1 A A (by decide);have C:=H.out.ne 1 0 A A (by decide);go_wp2_with{};generalize e:af (af (af (af (af K _ _) _ _) _ _) _ _) _ _=F;replace H:=bW e (St.aB (St.aB (St.aB (St.aB (St.aB H.out 0 A 2 _ A) 1 A 0 _ A) 1 A 1 _ A) 1 A 2 _ A) 1 A 3 _ A);simp only[ab,ae]at H;exact au (dx _ _ 4 5 _ 254 _ _ _ _ A A A (H.out.aR 1 A) (by kernel_rfl) (by kernel_rfl)) A ⟨⟨_,_,_,q,rfl,Y,hq⟩,H.out.low.aC⟩};have d34:(x==34)=false:=Rm.2 Q;clear Q;go_wp2_with{};refine(Db x _).mono ?_;rintro e K⟨rfl,rfl⟩;cases hd:KO x
  case' true=>
   have S:=M hd;clear hd;go_wp2_with{};go_loopw [7] (fun y wr=>∃q:Nat,y=I J q/\at'<=q/\q<=s.size/\wr=X) (fun y _=>s.size - (intOf y).toNat);case atStart=>exact⟨at', rfl,by omega,by omega,rfl⟩
   case round=>
    obtain⟨q,rfl,W,hq,rfl⟩:=hrel;have j0:(0:Int)<=(q:Int):=(by omega);by_cases V:q<s.size;case neg=>have G:at'<q:=(by omega);have j1:¬(q:Int)<(s.size:Int):=(by omega);obtain⟨cs,m⟩:=St.cs H 0 A;simp only[ak]at cs;obtain⟨⟨o,b⟩,⟨p,c⟩,⟨r,d⟩,⟨u,f⟩, -⟩:=cs;obtain⟨cs,z⟩:=St.cs H 1 A;simp only[ak]at cs;obtain⟨⟨D,g⟩,⟨r1,i⟩,⟨r2,j⟩,⟨E,k⟩, -⟩:=cs;have B:=H.out.ne 0 1 A A (by decide);have C:=H.out.ne 1 0 A A (by decide);obtain⟨t,Y,hts⟩:∃t,s.extract at' q=t/\t.size<=s.size:=⟨_,rfl,by simp;omega⟩;have k1:(at':Int)<=(q:Int):=(by omega);have k2:(q:Int)<=(s.size:Int):=(by omega);go_wp2_with{};generalize e:af (af wr _ _) _ _=R;replace H:=bW e (St.aB (St.aB H.out 0 A 0 _ A) 0 A 2 _ A);simp only[ab,ae]at H;clear e m o b p c r d u f z D g r1 i r2 j E k B C;refine(jG t _ (by omega)).mono ?_;rintro e K⟨rfl,L⟩;replace H:=M (H.out.below L);clear L;obtain⟨cs,m⟩:=St.cs H 0 A;simp only[ak]at cs;obtain⟨⟨o,b⟩,⟨p,c⟩,⟨r,d⟩,⟨u,f⟩, -⟩:=cs;obtain⟨cs,z⟩:=St.cs H 1 A;simp only[ak]at cs;obtain⟨⟨D,g⟩,⟨r1,i⟩,⟨r2,j⟩,⟨E,k⟩, -⟩:=cs;have B:=H.out.ne 0 1 A A (by decide);have C:=H.out.ne 1 0 A A (by decide);cases hb:dn t;{go_wp2_with{};generalize e:af (af (af (af K _ _) _ _) _ _) _ _=F;replace H:=bW e (St.aB (St.aB (St.aB (St.aB H.out 1 A 0 _ A) 1 A 1 _ A) 1 A 2 _ A) 1 A 3 _ A);simp only[ab,ae]at H;exact au (dx _ _ 4 5 _ 254 _ _ _ _ A A A (H.out.aR 1 A) (by kernel_rfl) (by kernel_rfl)) A ⟨⟨_,_,_,0,by go_num,hts, .inl A⟩,H.out.low.aC⟩};{go_wp2_with{};generalize e:af (af (af (af K _ _) _ _) _ _) _ _=F;replace H:=bW e (St.aB (St.aB (St.aB (St.aB H.out 1 A 0 _ A) 1 A 1 _ A) 1 A 2 _ A) 1 A 3 _ A);simp only[ab,ae]at H;exact au (dx _ _ 4 5 _ 254 _ _ _ _ A A A (H.out.aR 1 A) (by kernel_rfl) (by kernel_rfl)) A ⟨⟨_,_,_,q,by go_num,hts, .inr ⟨G,hq⟩⟩,H.out.low.aC⟩}
    have j1:(q:Int)<(s.size:Int):=(by omega);obtain⟨y,hy⟩:∃y:Int,(s[q].toNat:Int)=y:=⟨_,rfl⟩;go_wp2_with{};refine(Db y _).mono ?_;rintro e w3⟨rfl,rfl⟩;cases l:KO y;{have G:at'<q:=by{rcases ed at' q with h|h;{exact h};{obtain rfl:q=at':=(by omega);rw[<-hy,hx,S.out]at l;cases l}};clear l;obtain⟨cs,m⟩:=St.cs H 0 A;simp only[ak]at cs;obtain⟨⟨o,b⟩,⟨p,c⟩,⟨r,d⟩,⟨u,f⟩, -⟩:=cs;obtain⟨cs,z⟩:=St.cs H 1 A;simp only[ak]at cs;obtain⟨⟨D,g⟩,⟨r1,i⟩,⟨r2,j⟩,⟨E,k⟩, -⟩:=cs;have B:=H.out.ne 0 1 A A (by decide);have C:=H.out.ne 1 0 A A (by decide);obtain⟨t,Y,hts⟩:∃t,s.extract at' q=t/\t.size<=s.size:=⟨_,rfl,by simp;omega⟩;have k1:(at':Int)<=(q:Int):=(by omega);have k2:(q:Int)<=(s.size:Int):=(by omega);go_wp2_with{};generalize e:af (af wr _ _) _ _=R;replace H:=bW e (St.aB (St.aB H.out 0 A 0 _ A) 0 A 2 _ A);simp only[ab,ae]at H;clear e m o b p c r d u f z D g r1 i r2 j E k B C;refine(jG t _ (by omega)).mono ?_;rintro e K⟨rfl,L⟩;replace H:=M (H.out.below L);clear L;obtain⟨cs,m⟩:=St.cs H 0 A;simp only[ak]at cs;obtain⟨⟨o,b⟩,⟨p,c⟩,⟨r,d⟩,⟨u,f⟩, -⟩:=cs;obtain⟨cs,z⟩:=St.cs H 1 A;simp only[ak]at cs;obtain⟨⟨D,g⟩,⟨r1,i⟩,⟨r2,j⟩,⟨E,k⟩, -⟩:=cs;have B:=H.out.ne 0 1 A A (by decide);have C:=H.out.ne 1 0 A A (by decide);cases hb:dn t;{go_wp2_with{};generalize e:af (af (af (af K _ _) _ _) _ _) _ _=F;replace H:=bW e (St.aB (St.aB (St.aB (St.aB H.out 1 A 0 _ A) 1 A 1 _ A) 1 A 2 _ A) 1 A 3 _ A);simp only[ab,ae]at H;exact au (dx _ _ 4 5 _ 254 _ _ _ _ A A A (H.out.aR 1 A) (by kernel_rfl) (by kernel_rfl)) A ⟨⟨_,_,_,0,by go_num,hts, .inl A⟩,H.out.low.aC⟩};{go_wp2_with{};generalize e:af (af (af (af K _ _) _ _) _ _) _ _=F;replace H:=bW e (St.aB (St.aB (St.aB (St.aB H.out 1 A 0 _ A) 1 A 1 _ A) 1 A 2 _ A) 1 A 3 _ A);simp only[ab,ae]at H;exact au (dx _ _ 4 5 _ 254 _ _ _ _ A A A (H.out.aR 1 A) (by kernel_rfl) (by kernel_rfl)) A ⟨⟨_,_,_,q,by go_num,hts, .inr ⟨G,hq⟩⟩,H.out.low.aC⟩}}
    · go_wp2_with{};go_roundw;case rel=>exact⟨q+1,by go_num,by omega,by omega,by trivial⟩
      case measure=>simp[intOf];omega
  case' false=>
   clear hd;obtain⟨t2,ht2,hs2⟩:∃t,s.extract at' (at'+2)=t/\t.size<=s.size:=⟨_,rfl,by simp;omega⟩;obtain⟨t1,ht1,hs1⟩:∃t,s.extract at' (at'+1)=t/\t.size<=s.size:=⟨_,rfl,by simp;omega⟩;have T:=M hs2;have P:=M hs1;clear hs1 hs2;have k1:(at':Int)+1<=(s.size:Int):=(by omega);obtain⟨cs,m⟩:=St.cs H 0 A;simp only[ak]at cs;obtain⟨⟨o,b⟩,⟨p,c⟩,⟨r,d⟩,⟨u,f⟩, -⟩:=cs;obtain⟨cs,z⟩:=St.cs H 1 A;simp only[ak]at cs;obtain⟨⟨D,g⟩,⟨r1,i⟩,⟨r2,j⟩,⟨E,k⟩, -⟩:=cs;have B:=H.out.ne 0 1 A A (by decide);have C:=H.out.ne 1 0 A A (by decide);by_cases h2:at'+1<s.size;case' pos=>have k2:(at':Int)+1<(s.size:Int):=(by omega);have k3:(at':Int)+2<=(s.size:Int):=(by omega);go_wp2_with{};any_goals(generalize e:af (af (af (af (af X _ _) _ _) _ _) _ _) _ _=F;replace H:=bW e (St.aB (St.aB (St.aB (St.aB (St.aB H.out 0 A 2 _ A) 1 A 0 _ A) 1 A 1 _ A) 1 A 2 _ A) 1 A 3 _ A);simp only[ab,ae]at H;exact au (dx _ _ 4 5 _ 254 _ _ _ _ A A A (H.out.aR 1 A) (by kernel_rfl) (by kernel_rfl)) A ⟨⟨_,_,_,(at'+2),by go_num,T.out, .inr ⟨by omega,by omega⟩⟩,H.out.low.aC⟩)
   case' neg=>have k2:¬(at':Int)+1<(s.size:Int):=(by omega);go_wp2_with{}
   all_goals
    generalize e:af X _ _=R;replace H:=bW e (St.aB H.out 0 A 2 _ A);simp only[ab,ae]at H;clear e m o b p c r d u f z D g r1 i r2 j E k B C;refine(zI t1 _).mono ?_;rintro e w4⟨⟨n,hn,rfl⟩,rfl⟩;obtain⟨cs,m⟩:=St.cs H 0 A;simp only[ak]at cs;obtain⟨⟨o,b⟩,⟨p,c⟩,⟨r,d⟩,⟨u,f⟩, -⟩:=cs;obtain⟨cs,z⟩:=St.cs H 1 A;simp only[ak]at cs;obtain⟨⟨D,g⟩,⟨r1,i⟩,⟨r2,j⟩,⟨E,k⟩, -⟩:=cs;have B:=H.out.ne 0 1 A A (by decide);have C:=H.out.ne 1 0 A A (by decide);by_cases h0:0<n;{have h0':(0:Int)<(n:Int):=(by omega);go_wp2_with{};generalize e:af (af (af (af R _ _) _ _) _ _) _ _=F;replace H:=bW e (St.aB (St.aB (St.aB (St.aB H.out 1 A 0 _ A) 1 A 1 _ A) 1 A 2 _ A) 1 A 3 _ A);simp only[ab,ae]at H;exact au (dx _ _ 4 5 _ 254 _ _ _ _ A A A (H.out.aR 1 A) (by kernel_rfl) (by kernel_rfl)) A ⟨⟨_,_,_,(at'+1),by go_num,P.out, .inr ⟨by omega,by omega⟩⟩,H.out.low.aC⟩}
    · have h0':¬(0:Int)<(n:Int):=(by omega);go_wp2_with{}
      all_goals first
       |(generalize e:af (af (af (af R _ _) _ _) _ _) _ _=F;replace H:=bW e (St.aB (St.aB (St.aB (St.aB H.out 1 A 0 _ A) 1 A 1 _ A) 1 A 2 _ A) 1 A 3 _ A);simp only[ab,ae]at H;exact au (dx _ _ 4 5 _ 254 _ _ _ _ A A A (H.out.aR 1 A) (by kernel_rfl) (by kernel_rfl)) A ⟨⟨_,_,_,(at'+1),by go_num,P.out, .inr ⟨by omega,by omega⟩⟩,H.out.low.aC⟩)
       |(generalize e:af (af (af (af R _ _) _ _) _ _) _ _=F;replace H:=bW e (St.aB (St.aB (St.aB (St.aB H.out 1 A 0 _ A) 1 A 1 _ A) 1 A 2 _ A) 1 A 3 _ A);simp only[ab,ae]at H;exact au (dx _ _ 4 5 _ 254 _ _ _ _ A A A (H.out.aR 1 A) (by kernel_rfl) (by kernel_rfl)) A ⟨⟨_,_,_,0,by go_num,P.out, .inl A⟩,H.out.low.aC⟩)
end Go.Proofs.YtbcbefpninlfiaaGreatDoor
