import Derived.Test.YtbcbefpninlfiaaGreatDoorC2
import Derived.BigGuardPart
import Derived.Test.YtbcbefpninlfiaaGreatDoorC3
set_option maxHeartbeats 64000000
set_option maxRecDepth 100000
set_option linter.all false
open Go renaming Calls->aJ,Value->ar,World->ai
open Option renaming none->N,some->O
open Go.Value renaming agg->Rj,bool->Ri,int->I,slice->Z,string->U,tuple->Rx
open Go.IntKind renaming i64->J
open Go.Proofs.Tryz renaming prog->ah,results276->jY,results277->gM
open Go.Ending renaming returned->Rh
open Go.RowKit renaming Below->ay
open Bool renaming false_and->js
namespace Mor
def gw(s:ByteArray)(n:Nat):Bool:=s.toList.isEmpty&&(n==0)
def xS(n:Int):Bool:=decide ((1<=n/\n<=100000)\/(-20<=n/\n<= -1))
def vO(n:Int):Bool:=decide (-1000000000000000<=n/\n<=1000000000000000)
def gI(rt:Bool)(k n:Int)(s:ByteArray)(len:Nat):Bool:=
 if k=0 then gw s len&&decide (n=0)
 else if k=1 then gw s len&&vO n
 else if k=2 then decide (n=0)&&(decide (len=0)&&rt)
 else if k=3 then gw s len&&xS n
 else if k=4 then gw s len&&xS n
 else false
section
open Go.Lib
def pI(n:Nat):Bool:=decide (32<=n/\n≠127)
def pH:Nat ->List UInt8 ->Bool
 |0,_=>true
 |n+1,l=>if l=[]then true else if pI (decodeL l).1=true then pH n (l.drop (decodeL l).2)else false
def oL(l:List UInt8):Bool:=pH l.length l
theorem tB:∀(n m:Nat) (l:List UInt8),l.length<=n ->l.length<=m ->pH n l=pH m l
 |0,0,_,_,_=>rfl
 |0,m+1,l,h,_=>by have:l=[]:=cy (by omega);subst this;simp[pH]
 |n+1,0,l,_,h=>by have:l=[]:=cy (by omega);subst this;simp[pH]
 |n+1,m+1,l,h1,h2=>by unfold pH;by_cases hne:l=[];{simp[hne]};{have hw:=decodeL_width l;have a:0<l.length:=eO.2 hne;rw[if_neg hne,if_neg hne,tB n m (l.drop (decodeL l).2) (by rw[dt];omega) (by rw[dt];omega)]}
theorem Cj(l:List UInt8)(hne:l≠[]):oL l=if pI (decodeL l).1=true then oL (l.drop (decodeL l).2)else false:=by have a:0<l.length:=eO.2 hne;have hw:=decodeL_width l;obtain⟨n,hn⟩:∃n,l.length=n+1:=⟨l.length - 1,by omega⟩;unfold oL;rw[hn];show(if l=[]then true else _)=_;rw[if_neg hne,tB n (l.drop (decodeL l).2).length _ (by rw[dt];omega) (av _)]
def ek(s:ByteArray):Bool:=decide (s.size<=60)&&(validD s.data.toList&&oL s.data.toList)
end
def fG(p:Pv):Bool:=decide (p.k≠5)&&gI (ek p.s) p.k p.n p.s 0
def iV(v:Vl):Bool:=if v.k=5 then decide (v.n=0)&&(v.s.toList.isEmpty&&(decide (v.l.length<=12)&&v.l.all fG))else gI (ek v.s) v.k v.n v.s v.l.length
theorem mU(v:Vl)(h:v.k=5):iV v=(decide (v.n=0)&&(v.s.toList.isEmpty&&(decide (v.l.length<=12)&&v.l.all fG))):=by unfold iV;rw[if_pos h]
theorem mT(v:Vl)(h:v.k≠5):iV v=gI (ek v.s) v.k v.n v.s v.l.length:=by unfold iV;rw[if_neg h]
def M6(f g:iF):Bool:=decide (f.name=g.name)&&(decide (f.k=g.k)&&(decide (f.o=g.o)&&(f.ix==g.ix)))
theorem Lw{f g:iF}:M6 f g=true<->f=g:=by obtain⟨a,b,c,d⟩:=f;obtain⟨a', e,h,i⟩:=g;simp[M6]
def jo:List iF ->List iF ->Bool
 | [],[]=>true
 |f::l,g::r=>M6 f g&&jo l r
 |_,_=>false
theorem sF:∀{l r:List iF},jo l r=true<->l=r
 | [],[]=>by simp[jo]
 | [],_::_=>by simp[jo]
 |_::_,[]=>by simp[jo]
 |f::l,g::r=>by simp[jo,Lw,sF (l:=l) (r:=r)]
theorem EN{l r:List iF}(h:l.length≠r.length):jo l r=false:=by rw[Bool.eq_false_iff];intro a;exact h (by rw[sF.1 a])
theorem CC{l r:List iF}{k:Nat}{f g:iF}(hf:l[k]? =O f)(hg:r[k]? =O g):jo (l.drop k) (r.drop k)=(M6 f g&&jo (l.drop (k+1)) (r.drop (k+1))):=by obtain⟨h1,rfl⟩:=aA.1 hf;obtain⟨h2,rfl⟩:=aA.1 hg;rw[aY h1,aY h2,jo]
def tH(a b:pd):Bool:=decide (a.name=b.name)&&jo a.fs b.fs
end Mor
namespace Go.Proofs.YtbcbefpninlfiaaGreatDoor
open Go.Proofs.Tryz
open Go.RowKit Mor
structure zx(w:ai)(b o:Nat)(p:Pv):Prop where
 k:w.cell? ⟨b,o,N⟩=O (I J p.k)
 n:w.cell? ⟨b,o+1,N⟩=O (I J p.n)
 s:w.cell? ⟨b,o+1+1,N⟩=O (U p.s)
 l:w.cell? ⟨b,o+1+1+1,N⟩=O (Z N 0 0)
theorem Bc(p q:Pv)(w:ai):aJ ah 147 #[DI p,DI q] w fun e w'=>e=Rh (I J (sT p q))/\ay w.heap.size w w':=
 (wJ p.k p.n q.k q.n p.s q.s _ _ ⟨_,_,_,rfl⟩ ⟨_,_,_,rfl⟩ 0 w (fun W _=>(Ba W).mono fun e w'⟨h1,h2⟩=>⟨h1,h2▸ax _ _⟩)).mono fun e w'⟨h1,h2⟩=>⟨by
  rw[h1];unfold sT;split;{rfl}
  · rename_i h;simp only[ne_eq,Decidable.not_not]at h;rw[h],h2⟩
theorem zx.below{w w':ai}{b o:Nat}{p:Pv}(h:zx w b o p)(hB:ay w.heap.size w w') :zx w' b o p:=by have hb:b<w.heap.size:=by{obtain⟨o', ho,_⟩:=cells_of_cell h.k;exact(bP.1 ho).1};exact⟨(hB.cell (p:=⟨b,o,N⟩) hb).trans h.k,(hB.cell (p:=⟨b,o+1,N⟩) hb).trans h.n,(hB.cell (p:=⟨b,o+1+1,N⟩) hb).trans h.s,(hB.cell (p:=⟨b,o+1+1+1,N⟩) hb).trans h.l⟩
theorem Gt(l r:List Pv)(k:Nat)(p q:Pv)(hp:l[k]? =O p)(hq:r[k]? =O q):cmpL (l.drop k) (r.drop k)=if sT p q≠0 then sT p q else cmpL (l.drop (k+1)) (r.drop (k+1)):=by obtain⟨h1,rfl⟩:=aA.1 hp;obtain⟨h2,rfl⟩:=aA.1 hq;rw[aY h1,aY h2,cmpL]
theorem wG(l r:List Pv)(k:Nat)(h:k=min l.length r.length):cmpL (l.drop k) (r.drop k)=eg l.length r.length:=by
 by_cases h1:l.length<r.length
 · have e1:l.drop k=[]:=a8 (by omega);have e2:r.drop k≠[]:=(by intro e;have:=congrArg List.length e;simp at this;omega);rw[e1];cases hr:r.drop k with
   |nil=>exact absurd hr e2
   |cons x y=>unfold eg;rw[Rs (by omega)];rfl
 · by_cases h2:r.length<l.length
   · have e1:r.drop k=[]:=a8 (by omega);have e2:l.drop k≠[]:=(by intro e;have:=congrArg List.length e;simp at this;omega);rw[e1];cases hr:l.drop k with
     |nil=>exact absurd hr e2
     |cons x y=>unfold eg;rw[Rq (by omega),Rs (by omega)];rfl
   {have e1:r.drop k=[]:=a8 (by omega);have e2:l.drop k=[]:=a8 (by omega);rw[e1,e2];unfold eg;rw[Rq (by omega),Rq (by omega)];rfl}
theorem zN(l r:List Pv)(b o c u o' D:Nat)(w:ai)(x:∀i p,l[i]? =O p ->zx w b (o+i*4) p)(hr:∀i p,r[i]? =O p ->zx w u (o'+i*4) p)(y:l.length<1000000):aJ ah 184 #[Z (O ⟨b,o,N⟩) l.length c,Z (O ⟨u,o', N⟩) r.length D, .func (.func 147) #[] #[]] w fun e w'=>e=Rh (I J (cmpL l r))/\ay w.heap.size w w':=by
 obtain⟨m,e1⟩:∃m:Nat,(if r.length<l.length then(r.length:Int)else(l.length:Int))=(m:Int):=⟨min l.length r.length,by split<;>omega⟩;have hm:=M (show m=min l.length r.length by split at e1<;>omega);have F:m<=l.length:=by have:=hm.out;omega
 have G:m<=r.length:=by have:=hm.out;omega
 have B:=M x;have C:=M hr;clear x hr;go_in;go_wp2;go_loopw [14] (fun i wr=>∃k:Nat,k<=m/\i=I J k/\Hid (cmpL l r=cmpL (l.drop k) (r.drop k))/\ay w.heap.size w wr) (fun i _=>m - (intOf i).toNat);case atStart=>exact⟨0,by omega,rfl,rfl,ax _ _⟩
 case round=>
  obtain⟨k,hk,rfl,d,hB⟩:=hrel;by_cases E:k<m
  · have g:k<l.length:=(by omega);have h:k<r.length:=(by omega);obtain⟨p,hp⟩:∃p,l[k]? =O p:=⟨_,an g⟩;obtain⟨q,hq⟩:∃q,r[k]? =O q:=⟨_,an h⟩;have t:=M (Gt l r k p q hp hq);have f0:=(B.out k p hp).below hB;have g0:=(C.out k q hq).below hB;have f1:=f0.k;have f2:=f0.n;have f3:=f0.s;have f4:=f0.l;have g1:=g0.k;have g2:=g0.n;have g3:=g0.s;have g4:=g0.l;have H:(0:Int)<=(k:Int):=(by omega);have K:(k:Int)<(l.length:Int):=(by omega);have L:(k:Int)<(r.length:Int):=(by omega);clear hp hq f0 g0;go_wp2;refine jZ 9 (by kernel_rfl) (by kernel_rfl) ?_;simp only[di,eV,cU,dA];repeat still_step
    refine wpStill_nil ?_;by_cases a:sT p q=0
    · have j:(sT p q !=0)=false:=(by rw[a];rfl);have f:=M a;clear a;go_wp2_with(go_at_call 147;refine(Bc p q _).mono ?_;rintro e w'⟨rfl,hX⟩);go_roundw;case rel=>exact⟨k+1,by omega,by go_num,d.out.trans (by rw[t.out,f.out];rfl),hB.trans ((ax _ _).drew.trans (hX.mono hB.size))⟩
      case measure=>simp[intOf];omega
    {have j:(sT p q !=0)=true:=(by rw[bne_iff_ne];exact a);have f:=M a;clear a;go_wp2_with(go_at_call 147;refine(Bc p q _).mono ?_;rintro e w'⟨rfl,hX⟩);go_ret;rw[d.out,t.out,Rs f.out];exact⟨rfl,hB.trans ((ax _ _).drew.trans (hX.mono hB.size))⟩}
  {have z:=M (wG l r k (by have:=hm.out;omega));go_wp2_with(go_at_call 126;refine(pv _ _ _).mono ?_;rintro e w'⟨rfl,rfl⟩);go_ret;rw[d.out,z.out];exact⟨rfl,hB⟩}
theorem zK(a:Option Addr)(n c:Nat)(w:ai):aJ ah 184 #[Z N 0 0,Z a n c, .func (.func 147) #[] #[]] w fun e w'=>e=Rh (I J (eg 0 n))/\w=w':=by
 have e1:¬(n:Int)<0:=by omega
 go_in;go_wp2;refine wp_loop_rounds 1 ?_;rw[rounds_succ];go_wp2_with(go_at_call 126;refine(pv _ _ _).mono ?_;rintro e w'⟨rfl,rfl⟩);go_ret;exact⟨rfl,rfl⟩
theorem zL(a:Option Addr)(n c:Nat)(hn:0<n)(w:ai):aJ ah 184 #[Z a n c,Z N 0 0, .func (.func 147) #[] #[]] w fun e w'=>e=Rh (I J (eg n 0))/\w=w':=by
 have e1:(0:Int)<(n:Int):=by omega
 go_in;go_wp2;refine wp_loop_rounds 1 ?_;rw[rounds_succ];go_wp2_with(go_at_call 126;refine(pv _ _ _).mono ?_;rintro e w'⟨rfl,rfl⟩);go_ret;exact⟨rfl,rfl⟩
def IE(w:ai)(sl:ar)(l:List Pv):Prop:=
 (l=[]/\sl=Z N 0 0)\/(l≠[]/\l.length<1000000/\∃b o c,sl=Z (O ⟨b,o,N⟩) l.length c/\∀i p,l[i]? =O p ->zx w b (o+i*4) p)
theorem IE.slice{w:ai}{sl:ar}{l:List Pv}(h:IE w sl l):∃a n c,sl=Z a n c:=by rcases h with⟨_,rfl⟩|⟨_,_,b,o,c,rfl,_⟩;{exact⟨_,_,_,rfl⟩};{exact⟨_,_,_,rfl⟩}
theorem IE.below{w w':ai}{sl:ar}{l:List Pv}(h:IE w sl l)(hB:ay w.heap.size w w') :IE w' sl l:=by rcases h with h|⟨h1,h2,b,o,c,h3,h4⟩;{exact .inl h};{exact .inr ⟨h1,h2,b,o,c,h3,fun i p hp=>(h4 i p hp).below hB⟩}
theorem A'(l r:List Pv)(sl sr:ar)(w:ai)(i:IE w sl l)(hr:IE w sr r):aJ ah 184 #[sl,sr, .func (.func 147) #[] #[]] w fun e w'=>e=Rh (I J (cmpL l r))/\ay w.heap.size w w':=by rcases i with⟨rfl,rfl⟩|⟨h1,h2,b,o,c,rfl,h4⟩;{obtain⟨a,n,c,hs⟩:=hr.slice;have hn:r.length=n:=by{rcases hr with⟨rfl,h⟩|⟨_,_,b,o,f,h,_⟩;{rw[h]at hs;cases hs;rfl};{rw[h]at hs;cases hs;rfl}};subst hs;refine(zK a n c w).mono fun e w'⟨he,hw⟩=>⟨?_,hw▸ax _ _⟩;rw[he,<-hn];have:=wG [] r 0 (by simp);simp only[dA,a7]at this;rw[this];rfl};{rcases hr with⟨rfl,rfl⟩|⟨k,k2,g,o', f,rfl,j⟩;{have d:0<l.length:=eO.2 h1;refine(zL _ _ _ d w).mono fun e w'⟨he,hw⟩=>⟨?_,hw▸ax _ _⟩;rw[he];have:=wG l [] 0 (by simp);simp only[dA,a7]at this;rw[this];rfl};{exact zN l r b o c g o' f w h4 j h2}}
def xW(w:ai)(v:ar)(V:Vl):Prop:=∃sl,v=Rj #[I J V.k,I J V.n,U V.s,sl]/\IE w sl V.l
theorem xW.below{w w':ai}{v:ar}{V:Vl}(h:xW w v V)(hB:ay w.heap.size w w') :xW w' v V:=by obtain⟨sl,h1,h2⟩:=h;exact⟨sl,h1,h2.below hB⟩
theorem Bd(V a:Vl)(v u:ar)(w:ai)(hv:xW w v V)(hu:xW w u a):aJ ah 147 #[v,u] w fun e w'=>e=Rh (I J (Gx V a))/\ay w.heap.size w w':=by obtain⟨sl,rfl,b⟩:=hv;obtain⟨sr,rfl,hr⟩:=hu;exact wJ V.k V.n a.k a.n V.s a.s sl sr b.slice hr.slice _ w (fun W hB=>A' V.l a.l sl sr W (b.below hB) (hr.below hB))
theorem sO(k n:Int)(s:ByteArray)(a:Option Addr)(l c:Nat)(w:ai):aJ ah 233 #[Rj #[I J k,I J n,U s,Z a l c]] w fun e w'=>e=Rh (Ri (gw s l))/\ay w.heap.size w w':=by by_cases h1:s.toList.isEmpty=true;{by_cases h2:l=0;{subst h2;have E:=M (show gw s 0=true by simp[gw,h1]);rw[E.out];clear E;go_in;go_wp2;go_ret;exact⟨by simp,(ax _ w).alloc (av _) _⟩};{have E:=M (show gw s l=false by simp[gw,h2]);have d:((l:Int)==0)=false:=Rm.2 (by omega);rw[E.out];clear E;go_in;go_wp2;go_ret;exact⟨by simp,(ax _ w).alloc (av _) _⟩}};{have b:s.toList.isEmpty=false:=(by simpa using h1);have E:=M (show gw s l=false by simp[gw,b]);rw[E.out];clear E h1;go_in;go_wp2;go_ret;exact⟨by simp,(ax _ w).alloc (av _) _⟩}
theorem vw(n:Int)(w:ai):aJ ah 235 #[I J n] w fun e w'=>e=Rh (Ri (xS n))/\w=w':=by by_cases h1:1<=n;{by_cases h2:n<=100000;{have E:=M (show xS n=true by simp[xS];omega);rw[E.out];clear E;go_in;go_wp2;go_ret;exact⟨by simp,rfl⟩};{have E:=M (show xS n=false by simp[xS];omega);have h3: -20<=n:=(by omega);have h4:¬n<= -1:=(by omega);rw[E.out];clear E;go_in;go_wp2;go_ret;exact⟨by simp,rfl⟩}};{by_cases h2: -20<=n;{by_cases h3:n<= -1;{have E:=M (show xS n=true by simp[xS];omega);rw[E.out];clear E;go_in;go_wp2;go_ret;exact⟨by simp,rfl⟩};{have E:=M (show xS n=false by simp[xS];omega);rw[E.out];clear E;go_in;go_wp2;go_ret;exact⟨by simp,rfl⟩}};{have E:=M (show xS n=false by simp[xS];omega);rw[E.out];clear E;go_in;go_wp2;go_ret;exact⟨by simp,rfl⟩}}
theorem vz(rt:Bool)(k n:Int)(s:ByteArray)(a:Option Addr)(l c:Nat)(w:ai)(hk:k≠5)(h:k=2 ->∀W,ay w.heap.size w W ->aJ ah 234 #[U s] W fun e w'=>e=Rh (Ri rt)/\ay W.heap.size W w') :aJ ah 204 #[Rj #[I J k,I J n,U s,Z a l c]] w fun e w'=>e=Rh (Ri (gI rt k n s l))/\ay w.heap.size w w':=by have f:=M (fun(o:Obj)=>(ax w.heap.size w).alloc (av _) o);by_cases m:k=0;{subst m;clear hk h;rw[show gI rt 0 n s l=(gw s l&&decide (n=0))from rfl];have g:=M (fun W=>sO 0 n s a l c W);generalize gw s l=p at*;cases p;{go_in;go_wp2_with{};refine(g.out _).mono ?_;rintro e j⟨rfl,b1⟩;obtain⟨b,d⟩:=ey b1;have B1:=M ((f.out _).trans (b1.mono (by simp)));clear b1;go_wp2_with{};go_ret;exact⟨by simp,B1.out⟩};{by_cases hn:n=0;{subst hn;go_in;go_wp2_with{};refine(g.out _).mono ?_;rintro e j⟨rfl,b1⟩;obtain⟨b,d⟩:=ey b1;have B1:=M ((f.out _).trans (b1.mono (by simp)));clear b1;go_wp2_with{};go_ret;exact⟨by simp,B1.out⟩};{have u:(n==0)=false:=Rm.2 hn;have i:=M (Rw hn);rw[i.out];clear hn;go_in;go_wp2_with{};refine(g.out _).mono ?_;rintro e j⟨rfl,b1⟩;obtain⟨b,d⟩:=ey b1;have B1:=M ((f.out _).trans (b1.mono (by simp)));clear b1;go_wp2_with{};go_ret;exact⟨by simp,B1.out⟩}}};by_cases q:k=1;{subst q;clear hk h m;rw[show gI rt 1 n s l=(gw s l&&vO n)from rfl];have g:=M (fun W=>sO 1 n s a l c W);generalize gw s l=p at*;cases p;{go_in;go_wp2_with{};refine(g.out _).mono ?_;rintro e j⟨rfl,b1⟩;obtain⟨b,d⟩:=ey b1;have B1:=M ((f.out _).trans (b1.mono (by simp)));clear b1;go_wp2_with{};go_ret;exact⟨by simp,B1.out⟩};{by_cases h1: -1000000000000000<=n;{by_cases h2:n<=1000000000000000;{have i:=M (show vO n=true by simp[vO];omega);rw[i.out];go_in;go_wp2_with{};refine(g.out _).mono ?_;rintro e j⟨rfl,b1⟩;obtain⟨b,d⟩:=ey b1;have B1:=M ((f.out _).trans (b1.mono (by simp)));clear b1;go_wp2_with{};go_ret;exact⟨by simp,B1.out⟩};{have i:=M (show vO n=false by simp[vO];omega);rw[i.out];go_in;go_wp2_with{};refine(g.out _).mono ?_;rintro e j⟨rfl,b1⟩;obtain⟨b,d⟩:=ey b1;have B1:=M ((f.out _).trans (b1.mono (by simp)));clear b1;go_wp2_with{};go_ret;exact⟨by simp;omega,B1.out⟩}};{have i:=M (show vO n=false by simp[vO];omega);rw[i.out];go_in;go_wp2_with{};refine(g.out _).mono ?_;rintro e j⟨rfl,b1⟩;obtain⟨b,d⟩:=ey b1;have B1:=M ((f.out _).trans (b1.mono (by simp)));clear b1;go_wp2_with{};go_ret;exact⟨by simp,B1.out⟩}}};by_cases k2:k=2;{subst k2;clear hk m q;have g:=M (h A);clear h;rw[show gI rt 2 n s l=(decide (n=0)&&(decide (l=0)&&rt))from rfl];by_cases hn:n=0;{subst hn;by_cases t:l=0;{subst t;go_in;go_wp2_with{};refine(g.out _ (f.out _)).mono ?_;rintro e j⟨rfl,b1⟩;have B1:=M ((f.out _).trans (b1.mono (by simp)));clear b1;go_wp2_with{};go_ret;exact⟨by simp,B1.out⟩};{have u:((l:Int)==0)=false:=Rm.2 (by omega);have i:=M (Rw t);rw[i.out];clear t;go_in;go_wp2_with{};go_ret;exact⟨by simp,f.out _⟩}};{have u:(n==0)=false:=Rm.2 hn;have i:=M (Rw hn);rw[i.out];clear hn;go_in;go_wp2_with{};go_ret;exact⟨by simp,f.out _⟩}};by_cases k3:k=3;{subst k3;clear hk h m q k2;rw[show gI rt 3 n s l=(gw s l&&xS n)from rfl];have g:=M (fun W=>sO 3 n s a l c W);have HI:=M (fun W=>vw n W);generalize gw s l=p at*;generalize xS n=ii at*;cases p;{go_in;go_wp2_with{};refine(g.out _).mono ?_;rintro e j⟨rfl,b1⟩;obtain⟨b,d⟩:=ey b1;have B1:=M ((f.out _).trans (b1.mono (by simp)));clear b1;go_wp2_with{};go_ret;exact⟨by simp,B1.out⟩};{go_in;go_wp2_with{};refine(g.out _).mono ?_;rintro e j⟨rfl,b1⟩;obtain⟨b,d⟩:=ey b1;have B1:=M ((f.out _).trans (b1.mono (by simp)));clear b1;go_wp2_with{};refine(HI.out _).mono ?_;rintro e x⟨rfl,rfl⟩;go_wp2_with{};go_ret;exact⟨by simp,B1.out⟩}};by_cases r:k=4;{subst r;clear hk h m q k2;rw[show gI rt 4 n s l=(gw s l&&xS n)from rfl];have g:=M (fun W=>sO 4 n s a l c W);have HI:=M (fun W=>vw n W);generalize gw s l=p at*;generalize xS n=ii at*;cases p;{go_in;go_wp2_with{};refine(g.out _).mono ?_;rintro e j⟨rfl,b1⟩;obtain⟨b,d⟩:=ey b1;have B1:=M ((f.out _).trans (b1.mono (by simp)));clear b1;go_wp2_with{};go_ret;exact⟨by simp,B1.out⟩};{go_in;go_wp2_with{};refine(g.out _).mono ?_;rintro e j⟨rfl,b1⟩;obtain⟨b,d⟩:=ey b1;have B1:=M ((f.out _).trans (b1.mono (by simp)));clear b1;go_wp2_with{};refine(HI.out _).mono ?_;rintro e x⟨rfl,rfl⟩;go_wp2_with{};go_ret;exact⟨by simp,B1.out⟩}};{have e0:(k==0)=false:=Rm.2 m;have e1:(k==1)=false:=Rm.2 q;have e2:(k==2)=false:=Rm.2 k2;have e3:(k==3)=false:=Rm.2 k3;have e4:(k==4)=false:=Rm.2 r;have y:(k==5)=false:=Rm.2 hk;have i:=M (show gI rt k n s l=false by simp[gI,m,q,k2,k3,r]);rw[i.out];clear m q k2 k3 r hk h;go_in;go_wp2_with{};go_ret;exact⟨by simp,f.out _⟩}
theorem yO(n:Nat)(hn:n<=2147483647)(w:ai):aJ ah 260 #[.int .i32 (n:Int)] w fun e w'=>e=Rh (Ri (pI n))/\w=w':=by by_cases h1:32<=n;{have a:(32:Int)<=(n:Int):=(by omega);by_cases h2:n=127;{subst h2;go_in;go_wp2;go_ret;exact⟨by simp[pI],rfl⟩};{have E:=M (show pI n=true by simp[pI,h1,h2]);have b:((n:Int) !=127)=true:=(by rw[bne_iff_ne];omega);rw[E.out];clear E h2;go_in;go_wp2;go_ret;exact⟨by simp,rfl⟩}};{have a:¬(32:Int)<=(n:Int):=(by omega);have E:=M (show pI n=false by simp[pI,h1]);rw[E.out];clear E;go_in;go_wp2;go_ret;exact⟨by simp,rfl⟩}
def jJ(w:ai):Prop:=Lib.Utf8Tabs (Tryz.laysValid_ren.g 3) (Tryz.laysValid_ren.g 4) w
theorem jJ.below{w w':ai}(h:jJ w)(hb:ay w.heap.size w w') :jJ w':=Utf8Tabs_below h hb
theorem Iw(s:ByteArray)(w:ai)(hs:s.size<=9223372036854775807)(hT:jJ w):aJ ah 259 #[U s] w fun e w'=>e=Rh (Ri (Lib.validD s.data.toList))/\ay w.heap.size w w':=
 Any.utf8_ValidString Tryz.laysValid s w hs hT
theorem oM(s:ByteArray)(w:ai)(hs:s.size<=9223372036854775807)(hT:jJ w):aJ ah 234 #[U s] w fun e w'=>e=Rh (Ri (ek s))/\ay w.heap.size w w':=by
 have l:=Iw s w hs hT;unfold ek;by_cases h0:s.size<=60
 · have h0z:¬(60:Int)<(s.size:Int):=(by omega);rw[Rv h0,cY];cases hv:Lib.validD s.data.toList;{rw[hv]at l;rw[js];have u:=M l;clear l hv hT;go_in;go_wp2_with(go_at_call 259;refine u.out.mono ?_;rintro e w'⟨rfl,hb⟩);go_ret;exact⟨rfl,hb⟩}
   · rw[hv]at l;rw[cY];have u:=M l;clear l hv hT;go_in;go_wp2_with{};refine u.out.mono ?_;rintro e f⟨rfl,b1⟩;have B1:=M b1;have z1:=b1.size;clear b1;go_wp2_with{};go_loopg [4] s.size (fun g s4 wr=>∃pos:Nat,g=s.size -pos/\wr.heap[f.heap.size]? =O (.stringIter s pos)/\ay f.heap.size f wr/\Hid (oL s.data.toList=oL (s.data.toList.drop pos)));case atStart=>exact⟨0,rfl,World.iter_heap f s 0,(ax _ _).alloc (av _) _,rfl⟩
     case round=>
      obtain⟨pos,hg,hit,hbw,y⟩:=hrel;have B:=M hg;clear hg;by_cases hp:pos<s.size
      · have m:∀ty,(Instr.next (.pointer (O ⟨f.heap.size,0,N⟩)) true ty).run ah wr=_:=fun ty=>Lib.run_next_any_at wr f.heap.size s pos ty hit hp;have b:=Lib.iterAt_heap wr f.heap.size s pos (pos+(Utf8.decode s pos).2) hit;have a:=Lib.below_iterAt hbw (k:=f.heap.size) (av _) s (pos+(Utf8.decode s pos).2);have q:=Lib.decodeL_drop s pos;have r:=Lib.decodeL_width (s.data.toList.drop pos);have hne:s.data.toList.drop pos≠[]:=by{intro h;have:=congrArg List.length h;rw[dt,<-Lib.size_eq,a7]at this;omega};have j:=Cj _ hne;rw[q]at j r;rw[List.drop_drop]at j;have hle:=decode_le s pos;generalize hd:Utf8.decode s pos=d at*;obtain⟨z,t⟩:=d;have n:=M j;obtain⟨W1,p⟩:∃W1,W1=wr.iterAt f.heap.size s (pos+t):=⟨_,rfl⟩;simp only at m b a hle r;rw[<-p]at m b a;have x:=M b;have i:=M a;clear p hit hbw b a j q hd hne;cases c:pI z;{have o:=M (fun W=>yO z hle W);rw[c]at o;have E:=M (show oL s.data.toList=false by rw[y.out,n.out];simp[c]);clear c;go_wp2_with(go_at_call 260;refine(o.out _).mono ?_;rintro e w'⟨rfl,rfl⟩);go_ret;rw[E.out];exact⟨rfl,B1.out.trans (i.out.mono z1)⟩}
        · have o:=M (fun W=>yO z hle W);rw[c]at o;have E:=M (show oL s.data.toList=oL (s.data.toList.drop (pos+t)) by rw[y.out,n.out];simp[c]);clear c;go_wp2_with(go_at_call 260;refine(o.out _).mono ?_;rintro e w'⟨rfl,rfl⟩);go_roundg (s.size - (pos+t));case measure=>rw[B.out];omega
          case rel=>exact⟨pos+t,rfl,x.out,i.out,E.out⟩
      · have m:∀ty,(Instr.next (.pointer (O ⟨f.heap.size,0,N⟩)) true ty).run ah wr=_:=fun ty=>Lib.run_next_end_at wr f.heap.size s pos ty hit hp
        have E:=M (show oL s.data.toList=true by
         rw[y.out,a8 (by rw[<-Lib.size_eq];omega)];rfl)
        have i:=M hbw;clear hit hbw;go_wp2_with{};go_ret;rw[E.out];exact⟨rfl,B1.out.trans (i.out.mono z1)⟩
 {have h0z:(60:Int)<(s.size:Int):=(by omega);rw[Rw h0,js];clear l hT;go_in;go_wp2_with{};go_ret;exact⟨rfl,ax _ _⟩}
theorem El(p:Pv)(w:ai)(hs:p.s.size<=9223372036854775807)(hT:jJ w):aJ ah 237 #[DI p] w fun e w'=>e=Rh (Ri (!fG p))/\ay w.heap.size w w':=by have a:=M (fun(o:Obj)=>(ax w.heap.size w).alloc (av _) o);unfold DI;by_cases hk:p.k=5;{have E:=M (show(!fG p)=true by simp[fG,hk]);have f:(p.k==5)=true:=(by rw[hk];rfl);rw[E.out];clear E hk;go_in;go_wp2_with{};go_ret;exact⟨by simp,a.out _⟩};{have E:=M (show(!fG p)= !gI (ek p.s) p.k p.n p.s 0 by simp[fG,hk]);have f:(p.k==5)=false:=Rm.2 hk;have c:=M (fun W(d:ay w.heap.size w W)=>vz (ek p.s) p.k p.n p.s N 0 0 W hk (fun _ W' b=>oM p.s W' hs ((hT.below d).below b)));rw[E.out];clear E hk;go_in;go_wp2_with{};refine(c.out _ (a.out _)).mono ?_;rintro e g⟨rfl,b1⟩;have B1:=M ((a.out _).trans (b1.mono (by simp)));clear b1;go_wp2_with{};go_ret;exact⟨by simp,B1.out⟩}
def jh:Nat ->List Pv ->Int
 |_,[]=> -1
 |k,p::l=>if fG p=true then jh (k+1) l else k
theorem td:∀(k:Nat) (l:List Pv),decide (0<=jh k l)= !l.all fG
 |k,[]=>by simp[jh]
 |k,p::l=>by unfold jh;cases h:fG p;{simp[h]};{simp[h,td (k+1) l]}
theorem ye(l:List Pv)(k:Nat)(p:Pv)(hp:l[k]? =O p):jh k (l.drop k)=if fG p=true then jh (k+1) (l.drop (k+1))else k:=by obtain⟨h1,rfl⟩:=aA.1 hp;rw[aY h1,jh]
theorem wW(l:List Pv)(b o c:Nat)(w:ai)(hT:jJ w)(hs:∀p∈l,p.s.size<=9223372036854775807)(j:∀i p,l[i]? =O p ->zx w b (o+i*4) p)(m:l.length<1000000):aJ ah 261 #[Z (O ⟨b,o,N⟩) l.length c, .func (.func 237) #[] #[]] w fun e w'=>e=Rh (I J (jh 0 l))/\ay w.heap.size w w':=by
 have t:=M j;have u:=M hs;have x:=M hT;clear j hs hT;go_in;go_wp2_with{};go_loopw [8] (fun i wr=>∃k:Nat,k<=l.length/\i=I J k/\Hid (jh 0 l=jh k (l.drop k))/\ay w.heap.size w wr) (fun i _=>l.length - (intOf i).toNat);case atStart=>exact⟨0,by omega,rfl,rfl,ax _ _⟩
 case round=>
  obtain⟨k,hk,rfl,g,hB⟩:=hrel;by_cases h:k<l.length
  · obtain⟨p,hp⟩:∃p,l[k]? =O p:=⟨_,an h⟩;have f:=M (ye l k p hp);have f0:=(t.out k p hp).below hB;have f1:=f0.k;have f2:=f0.n;have f3:=f0.s;have f4:=f0.l;have z:(0:Int)<=(k:Int):=(by omega);have B:(k:Int)<(l.length:Int):=(by omega);have d:=M (El p wr (u.out p (aP hp)) (x.out.below hB));have a:=M hB;have q:=hB.size;unfold DI at d;clear hp f0 hB;cases hr:fG p;{rw[hr]at d f;clear hr;go_wp2_with{};refine d.out.mono ?_;rintro e y⟨rfl,b1⟩;have B1:=M (a.out.trans (b1.mono q));clear b1;go_wp2_with{};go_ret;rw[g.out,f.out];exact⟨by simp,B1.out⟩}
    · rw[hr]at d f;clear hr;go_wp2_with{};refine d.out.mono ?_;rintro e y⟨rfl,b1⟩;have B1:=M (a.out.trans (b1.mono q));clear b1;go_wp2_with{};go_roundw;case rel=>exact⟨k+1,by omega,by go_num,g.out.trans (by rw[f.out];rfl),B1.out⟩
      case measure=>simp[intOf];omega
  {have r:=M (show jh k (l.drop k)= -1 by rw[a8 (by omega)];rfl);have a:=M hB;clear hB;go_wp2_with{};go_ret;rw[g.out,r.out];exact⟨rfl,a.out⟩}
theorem yg(w:ai):aJ ah 261 #[Z N 0 0, .func (.func 237) #[] #[]] w fun e w'=>e=Rh (I J (-1))/\ay w.heap.size w w':=by go_in;go_wp2_with{};refine wp_loop_rounds 1 ?_;rw[rounds_succ];go_wp2_with{};go_ret;exact⟨rfl,ax _ _⟩
theorem zR(l:List Pv)(sl:ar)(w:ai)(hT:jJ w)(hs:∀p∈l,p.s.size<=9223372036854775807)(d:IE w sl l):aJ ah 236 #[sl, .func (.func 237) #[] #[]] w fun e w'=>e=Rh (Ri (!l.all fG))/\ay w.heap.size w w':=by have key:aJ ah 261 #[sl, .func (.func 237) #[] #[]] w fun e w'=>e=Rh (I J (jh 0 l))/\ay w.heap.size w w':=by{rcases d with⟨rfl,rfl⟩|⟨_,h2,b,o,c,rfl,h4⟩;{exact yg w};{exact wW l b o c w hT hs h4 h2}};have K:=M key;have E:=M (td 0 l);obtain⟨f,g,lc,rfl⟩:=d.slice;clear key d hs hT;by_cases h:0<=jh 0 l;{have a:=E.out;rw[Rv h]at a;rw[<-a];clear a E;go_in;go_wp2_with(go_at_call 261;refine K.out.mono ?_;rintro e w'⟨rfl,hb⟩);go_ret;exact⟨by simp,hb⟩};{have a:=E.out;rw[Rw h]at a;rw[<-a];clear a E;go_in;go_wp2_with(go_at_call 261;refine K.out.mono ?_;rintro e w'⟨rfl,hb⟩);go_ret;exact⟨by simp;omega,hb⟩}
def Dg(v:Vl):Prop:=v.s.size<=9223372036854775807/\∀p∈v.l,p.s.size<=9223372036854775807
theorem rG(V:Vl)(v:ar)(w:ai)(hT:jJ w)(p:Dg V)(hv:xW w v V):aJ ah 204 #[v] w fun e w'=>e=Rh (Ri (iV V))/\ay w.heap.size w w':=by obtain⟨sl,rfl,j⟩:=hv;have hlen:∃a c,sl=Z a V.l.length c:=by{rcases j with⟨h,rfl⟩|⟨_,h2,b,o,c,rfl,h4⟩;{exact⟨N,0,by rw[h];rfl⟩};{exact⟨_,_,rfl⟩}};by_cases hk:V.k=5;{rw[mU V hk];have d:=M (fun(o:Obj)=>(ax w.heap.size w).alloc (av _) o);have t:=M (fun W(i:ay w.heap.size w W)=>zR V.l sl W (hT.below i) p.2 (j.below i));obtain⟨r,lc,rfl⟩:=hlen;rw[hk];clear j p hT hk;by_cases hn:V.n=0;{have m:(V.n==0)=true:=(by rw[hn];rfl);rw[Rv hn,cY];clear hn;cases he:V.s.toList.isEmpty;{rw[js];go_in;go_wp2_with{};go_ret;exact⟨by simp,d.out _⟩};{rw[cY];by_cases f:V.l.length<=12;{have q:(V.l.length:Int)<=12:=(by omega);rw[Rv f,cY];generalize V.l.all fG=g at*;go_in;go_wp2_with{};refine(t.out _ (d.out _)).mono ?_;rintro e u⟨rfl,b1⟩;have B1:=M ((d.out _).trans (b1.mono (by simp)));clear b1;go_wp2_with{};go_ret;exact⟨by simp,B1.out⟩};{have q:¬(V.l.length:Int)<=12:=(by omega);rw[Rw f,js];go_in;go_wp2_with{};go_ret;exact⟨by simp,d.out _⟩}}};{have m:(V.n==0)=false:=Rm.2 hn;rw[Rw hn,js];clear hn;go_in;go_wp2_with{};go_ret;exact⟨by simp,d.out _⟩}};{rw[mT V hk];obtain⟨r,lc,rfl⟩:=hlen;exact vz (ek V.s) V.k V.n V.s r V.l.length lc w hk (fun _ W i=>oM V.s W p.1 (hT.below i))}
structure Pc where
 k:Int
 n:Int
 s:ByteArray
 at':Int
def pF:Pc:=⟨0,0,⟨#[]⟩,0⟩
def NG(b:UInt8):Bool:=decide (48<=b.toNat/\b.toNat<=57)
def m7:Int ->Nat ->List UInt8 ->Int×Nat
 |n,k,[]=>(n,k)
 |n,k,b::l=>if NG b=true then m7 (min (10*n+((b.toNat:Int) - 48)) 1000000000000001) (k+1) l else(n,k)
def oV(l:List UInt8):Pc×Nat:=if 1000000000000000<(m7 0 0 l).1 then(pF,0)else(⟨1,(m7 0 0 l).1,⟨#[]⟩,0⟩,(m7 0 0 l).2)
def j7:Nat ->List UInt8 ->Nat
 |k,[]=>k
 |k,b::l=>if nc b.toNat=true then j7 (k+1) l else k
def mm(l:List UInt8):Pc×Nat:=if qO (l.take (j7 0 l))=true then(⟨3,0,⟨(l.take (j7 0 l)).toArray⟩,0⟩,j7 0 l)else(pF,0)
def eS:Nat ->List UInt8 ->List UInt8 ->Nat ->Option (List UInt8×Nat)
 |0,_,_,_=>N
 |_+1,[],_,_=>N
 |f+1,b::l,t,k=>
  if b.toNat=34 then(if ek ⟨t.toArray⟩=true then O (t,k+1)else N)
  else if b.toNat=92 then match l with
   | []=>N
   |c::l=>if c.toNat=34\/c.toNat=92 then eS f l (t++[c]) (k+2)else N
  else eS f l (t++[b]) (k+1)
def jr(l:List UInt8):Pc×Nat:=match eS l.length (l.drop 1) [] 1 with
 |none=>(pF,0)
 |some (t,k)=>(⟨2,0,⟨t.toArray⟩,0⟩,k)
def jq:List (List UInt8):=[[61],[60,62],[60],[60,61],[62],[62,61],[38],[43],[45],[42],[47],[37],[40],[41],[44]]
def ig(l:List UInt8):List UInt8 ->List (List UInt8) ->List UInt8
 |best,[]=>best
 |best,t::r=>if t.isPrefixOf l/\best.length<t.length then ig l t r else ig l best r
def pQ(l:List UInt8):Pc×Nat:=if ig l [] jq=[]then(pF,0)else(⟨4,0,⟨(ig l [] jq).toArray⟩,0⟩,(ig l [] jq).length)
def fF(l:List UInt8):Pc×Nat:=match l with
 | []=>(pF,0)
 |b::_=>if 48<=b.toNat/\b.toNat<=57 then oV l else if 97<=b.toNat/\b.toNat<=122 then mm l else if b.toNat=34 then jr l else pQ l
def mZ:Nat ->List UInt8 ->Nat
 |k,[]=>k
 |k,b::l=>if b.toNat=32 then mZ (k+1) l else k
def jk(l:List UInt8):Nat ->Nat ->List Pc
 |0,_=>[]
 |f+1,at'=>
  let a:=mZ at' (l.drop at')
  if l.length<=a then []else
  let p:=fF (l.drop a)
  {p.1 with at':=a}::if p.2=0 then []else jk l f (a+p.2)
def cI(l:List UInt8):List Pc:=jk l (l.length+1) 0
inductive Ex where
 |mk (k n:Int) (s:ByteArray) (kids:List Ex)
def Ex.k:Ex ->Int| .mk k _ _ _=>k
def Ex.n:Ex ->Int| .mk _ n _ _=>n
def Ex.s:Ex ->ByteArray| .mk _ _ s _=>s
def Ex.kids:Ex ->List Ex| .mk _ _ _ l=>l
def MI(l:List Nat):ByteArray:=⟨(l.map UInt8.ofNat).toArray⟩
def eh(l:List UInt8):Nat:=
 if l=[108,101,110]\/l=[116,101,120,116]\/l=[110,117,109]then 1
 else if l=[108,101,102,116]\/l=[114,105,103,104,116]\/l=[102,114,111,109]\/l=[102,105,110,100]\/l=[109,105,110]\/l=[109,97,120]then 2
 else if l=[105,102]then 3 else 0
def iz(l:List UInt8):Nat:=
 if l=[42]\/l=[47]\/l=[37]then 4 else if l=[43]\/l=[45]then 3 else if l=[38]then 2
 else if l=[61]\/l=[60,62]\/l=[60]\/l=[60,61]\/l=[62]\/l=[62,61]then 1 else 0
def bH(l:List Pc)(size:Int)(i:Nat):Pc:=(l[i]?).getD ⟨0,0,⟨#[]⟩,size⟩
def dk(p:Pc)(t:List UInt8):Bool:=decide (p.k=4)&&decide (p.s.data.toList=t)
abbrev PM:=Except Int (Ex×Nat)
mutual
def jD (l:List Pc) (size:Int):Nat ->Nat ->Nat ->PM
 |0,_,_=>.error 0
 |f+1,least,i=>match dm l size f i with
  | .error x=>.error x
  | .ok (e,j)=>me l size f least e j
def me (l:List Pc) (size:Int):Nat ->Nat ->Ex ->Nat ->PM
 |0,_,_,_=>.error 0
 |f+1,least,e,i=>
  if(bH l size i).k=4/\least<=iz (bH l size i).s.data.toList then
   match jD l size f (iz (bH l size i).s.data.toList+1) (i+1)with
   | .error x=>.error x
   | .ok (e2,j)=>me l size f least (.mk 4 0 (bH l size i).s [e,e2]) j
  else .ok (e,i)
def dm (l:List Pc) (size:Int):Nat ->Nat ->PM
 |0,_=>.error 0
 |f+1,i=>
  if dk (bH l size i) [40]=true then match jD l size f 1 (i+1)with
   | .error x=>.error x
   | .ok (e,j)=>if dk (bH l size j) [41]=true then .ok (e,j+1)else .error (bH l size j).at'
  else if dk (bH l size i) [45]=true then match dm l size f (i+1)with
   | .error x=>.error x
   | .ok (e,j)=>.ok (.mk 5 0 (MI [45]) [e],j)
  else if(bH l size i).k=1 then .ok (.mk 1 (bH l size i).n ⟨#[]⟩ [],i+1)
  else if(bH l size i).k=2 then .ok (.mk 2 0 (bH l size i).s [],i+1)
  else if(bH l size i).k=3 then
   if 0<eh (bH l size i).s.data.toList/\dk (bH l size (i+1)) [40]=true then
    match fA l size f (eh (bH l size i).s.data.toList) [] (i+2)with
    | .error x=>.error x
    | .ok (kids,j)=>.ok (.mk 6 0 (bH l size i).s kids,j)
   else .ok (.mk 3 0 (bH l size i).s [],i+1)
  else .error (bH l size i).at'
def fA (l:List Pc) (size:Int):Nat ->Nat ->List Ex ->Nat ->Except Int (List Ex×Nat)
 |0,_,_,_=>.error 0
 |f+1,0,acc,i=>if dk (bH l size i) [41]=true then .ok (acc,i+1)else .error (bH l size i).at'
 |f+1,n+1,acc,i=>
  if acc=[]\/dk (bH l size i) [44]=true then
   match jD l size f 1 (if acc=[]then i else i+1)with
   | .error x=>.error x
   | .ok (e,j)=>fA l size f n (acc++[e]) j
  else .error (bH l size i).at'
end
def eC(k n:Int)(s:ByteArray)(m:Nat):Bool:=
 if k=1 then decide (0<=n)&&(decide (n<=1000000000000000)&&(decide (s.size=0)&&decide (m=0)))
 else decide (n=0)&&(
  if k=2 then ek s&&decide (m=0)
  else if k=3 then dn s&&decide (m=0)
  else if k=4 then decide (0<iz s.data.toList)&&decide (m=2)
  else if k=5 then decide (s.data.toList=[45])&&decide (m=1)
  else if k=6 then decide (0<eh s.data.toList)&&decide (m=eh s.data.toList)
  else false)
def ik:Nat ->Ex ->Nat ->Bool×Nat
 |0,_,n=>(false,n+1)
 |d+1,e,n=>if 40<n+1\/eC e.k e.n e.s e.kids.length=false then(false,n+1)else e.kids.foldl (fun x k=>if x.1=true then ik d k x.2 else x) (true,n+1)
def AE(e:Ex):Bool:=(ik 8 e 0).1
def wT(l:List Pc):Nat:=8*l.length+16
def kP(s:ByteArray):Except (Int×Int) Ex:=
 if 200<s.size then .error (200,50)else
 match(cI s.data.toList).find? fun p=>decide (p.k=0)with
 |some p=>.error (p.at', 50)
 |none=>match jD (cI s.data.toList) s.size (wT (cI s.data.toList)) 1 0 with
  | .error x=>.error (x,50)
  | .ok (e,j)=>if j<(cI s.data.toList).length then .error ((bH (cI s.data.toList) s.size j).at', 50)else if AE e=true then .ok e else .error (0,51)
def dK(s:ByteArray)(a:Bool):Bool:=decide (s.size=0)||(a&&match kP s with| .ok _=>true| .error _=>false)
def uA(p:Pc):ar:=Rj #[I J p.k,I J p.n,U p.s,I J p.at']
theorem drop_byte{s:ByteArray}{k:Nat}(h:k<s.size):s.data.toList.drop k=s[k]::s.data.toList.drop (k+1):=by
 have a:k<s.data.toList.length:=by simpa using h
 rw[aY a];rfl
theorem qC{s:ByteArray}{k:Nat}(h:s.size<=k):s.data.toList.drop k=[]:=d_ (by simpa using h)
theorem GD{n:Int}{k:Nat}{b:UInt8}{l:List UInt8}(h:48<=(b.toNat:Int)/\(b.toNat:Int)<=57):m7 n k (b::l)=m7 (min (10*n+((b.toNat:Int) - 48)) 1000000000000001) (k+1) l:=by rw[m7,Rs (by simp[NG];omega)]
theorem Jm{n:Int}{k:Nat}{b:UInt8}{l:List UInt8}(h:¬(48<=(b.toNat:Int)/\(b.toNat:Int)<=57)):m7 n k (b::l)=(n,k):=by rw[m7,Rq (by simp[NG];omega)]
theorem E'{k:Nat}{b:UInt8}{l:List UInt8}(h:nc b.toNat=true):j7 k (b::l)=j7 (k+1) l:=by rw[j7,Rs h]
theorem IB{k:Nat}{b:UInt8}{l:List UInt8}(h:nc b.toNat=false):j7 k (b::l)=k:=by rw[j7,Rq (by simp[h])]
def Reads(f:FuncId)(s:ByteArray)(p:Pc)(k:Nat):Prop:=∀w:ai,aJ ah f #[U s] w fun e w'=>e=Rh (Rx #[uA p,I J k])/\ay w.heap.size w w'
theorem xw(s:ByteArray)(hs:s.size<=9223372036854775807):Reads 276 s (oV s.data.toList).1 (oV s.data.toList).2:=by
 intro w;obtain⟨R,hR⟩:∃R,m7 0 0 s.data.toList=R:=⟨_,rfl⟩;have u:=M (show oV s.data.toList=if 1000000000000000<R.1 then(pF,0)else(⟨1,R.1,⟨#[]⟩,0⟩,R.2) by rw[oV,hR]);have y:=M hR;clear hR;have H1:=M (St.start ej w);go_in;go_wp2;generalize e2:World.alloc w _=X;have z3:=iD e2 (n:=w.heap.size+1) (by simp);replace H1:=bW e2 (St.a6 H1.out _ (w.heap.size) (by simp));clear e2;go_loop [4,5] (fun t i=>∃(k:Nat) (n:Int),k<=s.size/\i=I J k/\t=I J n/\0<=n/\n<=1000000000000001/\Hid (R=m7 n k (s.data.toList.drop k))) (fun _ i=>s.size - (intOf i).toNat);case atStart=>exact⟨0,0,by omega,rfl,rfl,by omega,by omega,by rw[<-y.out];rfl⟩
 case round=>
  obtain⟨k,n,hk,rfl,rfl,z,B,q⟩:=hrel;have fin (hd:m7 n k (s.data.toList.drop k)=(n,k)):Hid (oV s.data.toList=if 1000000000000000<n then(pF,0)else(⟨1,n,⟨#[]⟩,0⟩,k)):=(by rw[u.out,q.out,hd];exact M A);have h:=M fin;clear fin;by_cases p:k<s.size
  · have m:=M (drop_byte p);have E:(0:Int)<=(k:Int):=(by omega);have C:(k:Int)<(s.size:Int):=(by omega);have D:0<=(s[k].toNat:Int)/\(s[k].toNat:Int)<256:=(by have:=s[k].toNat_lt;omega);have r:=M (@GD n k s[k] (s.data.toList.drop (k+1)));have o:=M (@Jm n k s[k] (s.data.toList.drop (k+1)));obtain⟨x,hx⟩:∃x:Int,(s[k].toNat:Int)=x:=⟨_,rfl⟩;rw[hx]at r o D;by_cases c1:x<48;{have d1:decide (48<=x)=false:=(by simpa using c1);have F:=h.out (by rw[m.out];exact o.out (by omega));by_cases c3:1000000000000000<n;{rw[Rs c3]at F;obtain⟨cs,f⟩:=St.cs H1 0 A;simp only[ak]at cs;obtain⟨⟨c4,f5⟩,⟨j,f7⟩,⟨c8,f9⟩,⟨e,f11⟩, -⟩:=cs;go_wp2_with{};replace H1:=M (St.aB H1.out 0 A 0 (I J 0) A);simp only[ab,ae]at H1;replace H1:=M (St.aB H1.out 0 A 1 (I J 0) A);simp only[ab,ae]at H1;replace H1:=M (St.aB H1.out 0 A 2 (U ⟨#[]⟩) A);simp only[ab,ae]at H1;replace H1:=M (St.aB H1.out 0 A 3 (I J 0) A);simp only[ab,ae]at H1;obtain⟨cs,g⟩:=St.cs H1 0 A;simp only[ak]at cs;obtain⟨⟨a,f14⟩,⟨b,f16⟩,⟨c,f18⟩,⟨d,f20⟩, -⟩:=cs;exact au (v:=Rx #[Rj #[I J 0,I J 0,U ⟨#[]⟩,I J 0],I J 0]) (by simp[results,jY,go_sem,a,b,c,d]) A ⟨by rw[F.out];rfl,H1.out.low.aC⟩};{rw[Rq c3]at F;obtain⟨cs,f⟩:=St.cs H1 0 A;simp only[ak]at cs;obtain⟨⟨c4,f5⟩,⟨j,f7⟩,⟨c8,f9⟩,⟨e,f11⟩, -⟩:=cs;go_wp2_with{};replace H1:=M (St.aB H1.out 0 A 0 (I J 1) A);simp only[ab,ae]at H1;replace H1:=M (St.aB H1.out 0 A 1 (I J n) A);simp only[ab,ae]at H1;replace H1:=M (St.aB H1.out 0 A 2 (U ⟨#[]⟩) A);simp only[ab,ae]at H1;replace H1:=M (St.aB H1.out 0 A 3 (I J 0) A);simp only[ab,ae]at H1;obtain⟨cs,g⟩:=St.cs H1 0 A;simp only[ak]at cs;obtain⟨⟨a,f14⟩,⟨b,f16⟩,⟨c,f18⟩,⟨d,f20⟩, -⟩:=cs;exact au (v:=Rx #[Rj #[I J 1,I J n,U ⟨#[]⟩,I J 0],I J k]) (by simp[results,jY,go_sem,a,b,c,d]) A ⟨by rw[F.out];rfl,H1.out.low.aC⟩}}
    · have d1:decide (48<=x)=true:=(by simpa using c1);by_cases c2:57<x;{have d2:decide (x<=57)=false:=(by simpa using c2);have F:=h.out (by rw[m.out];exact o.out (by omega));by_cases c3:1000000000000000<n;{rw[Rs c3]at F;obtain⟨cs,f⟩:=St.cs H1 0 A;simp only[ak]at cs;obtain⟨⟨c4,f5⟩,⟨j,f7⟩,⟨c8,f9⟩,⟨e,f11⟩, -⟩:=cs;go_wp2_with{};replace H1:=M (St.aB H1.out 0 A 0 (I J 0) A);simp only[ab,ae]at H1;replace H1:=M (St.aB H1.out 0 A 1 (I J 0) A);simp only[ab,ae]at H1;replace H1:=M (St.aB H1.out 0 A 2 (U ⟨#[]⟩) A);simp only[ab,ae]at H1;replace H1:=M (St.aB H1.out 0 A 3 (I J 0) A);simp only[ab,ae]at H1;obtain⟨cs,g⟩:=St.cs H1 0 A;simp only[ak]at cs;obtain⟨⟨a,f14⟩,⟨b,f16⟩,⟨c,f18⟩,⟨d,f20⟩, -⟩:=cs;exact au (v:=Rx #[Rj #[I J 0,I J 0,U ⟨#[]⟩,I J 0],I J 0]) (by simp[results,jY,go_sem,a,b,c,d]) A ⟨by rw[F.out];rfl,H1.out.low.aC⟩};{rw[Rq c3]at F;obtain⟨cs,f⟩:=St.cs H1 0 A;simp only[ak]at cs;obtain⟨⟨c4,f5⟩,⟨j,f7⟩,⟨c8,f9⟩,⟨e,f11⟩, -⟩:=cs;go_wp2_with{};replace H1:=M (St.aB H1.out 0 A 0 (I J 1) A);simp only[ab,ae]at H1;replace H1:=M (St.aB H1.out 0 A 1 (I J n) A);simp only[ab,ae]at H1;replace H1:=M (St.aB H1.out 0 A 2 (U ⟨#[]⟩) A);simp only[ab,ae]at H1;replace H1:=M (St.aB H1.out 0 A 3 (I J 0) A);simp only[ab,ae]at H1;obtain⟨cs,g⟩:=St.cs H1 0 A;simp only[ak]at cs;obtain⟨⟨a,f14⟩,⟨b,f16⟩,⟨c,f18⟩,⟨d,f20⟩, -⟩:=cs;exact au (v:=Rx #[Rj #[I J 1,I J n,U ⟨#[]⟩,I J 0],I J k]) (by simp[results,jY,go_sem,a,b,c,d]) A ⟨by rw[F.out];rfl,H1.out.low.aC⟩}}
      · have d2:decide (x<=57)=true:=(by simpa using c2);have l:Hid (R=m7 (min (10*n+(x - 48)) 1000000000000001) (k+1) (s.data.toList.drop (k+1))):=(by rw[q.out,m.out];exact M (r.out (by omega)));go_wp2;go_round;case rel=>exact⟨k+1,_,by omega,by go_num,rfl,by omega,by omega,l⟩
        case measure=>simp[intOf];omega
  {have C:¬(k:Int)<(s.size:Int):=(by omega);have F:=h.out (by rw[qC (by omega)];rfl);by_cases c3:1000000000000000<n;{rw[Rs c3]at F;obtain⟨cs,f⟩:=St.cs H1 0 A;simp only[ak]at cs;obtain⟨⟨c4,f5⟩,⟨j,f7⟩,⟨c8,f9⟩,⟨e,f11⟩, -⟩:=cs;go_wp2_with{};replace H1:=M (St.aB H1.out 0 A 0 (I J 0) A);simp only[ab,ae]at H1;replace H1:=M (St.aB H1.out 0 A 1 (I J 0) A);simp only[ab,ae]at H1;replace H1:=M (St.aB H1.out 0 A 2 (U ⟨#[]⟩) A);simp only[ab,ae]at H1;replace H1:=M (St.aB H1.out 0 A 3 (I J 0) A);simp only[ab,ae]at H1;obtain⟨cs,g⟩:=St.cs H1 0 A;simp only[ak]at cs;obtain⟨⟨a,f14⟩,⟨b,f16⟩,⟨c,f18⟩,⟨d,f20⟩, -⟩:=cs;exact au (v:=Rx #[Rj #[I J 0,I J 0,U ⟨#[]⟩,I J 0],I J 0]) (by simp[results,jY,go_sem,a,b,c,d]) A ⟨by rw[F.out];rfl,H1.out.low.aC⟩};{rw[Rq c3]at F;obtain⟨cs,f⟩:=St.cs H1 0 A;simp only[ak]at cs;obtain⟨⟨c4,f5⟩,⟨j,f7⟩,⟨c8,f9⟩,⟨e,f11⟩, -⟩:=cs;go_wp2_with{};replace H1:=M (St.aB H1.out 0 A 0 (I J 1) A);simp only[ab,ae]at H1;replace H1:=M (St.aB H1.out 0 A 1 (I J n) A);simp only[ab,ae]at H1;replace H1:=M (St.aB H1.out 0 A 2 (U ⟨#[]⟩) A);simp only[ab,ae]at H1;replace H1:=M (St.aB H1.out 0 A 3 (I J 0) A);simp only[ab,ae]at H1;obtain⟨cs,g⟩:=St.cs H1 0 A;simp only[ak]at cs;obtain⟨⟨a,f14⟩,⟨b,f16⟩,⟨c,f18⟩,⟨d,f20⟩, -⟩:=cs;exact au (v:=Rx #[Rj #[I J 1,I J n,U ⟨#[]⟩,I J 0],I J k]) (by simp[results,jY,go_sem,a,b,c,d]) A ⟨by rw[F.out];rfl,H1.out.low.aC⟩}}
theorem ml(s:ByteArray)(w:ai)(hs:s.size<=9223372036854775807):aJ ah 282 #[U s] w fun e w'=>e=Rh (Ri (dn s))/\ay w.heap.size w w':=by have a:=M (mu ⟨s,[]⟩ _ w ⟨_,rfl,dL _ _ _,hs⟩);have E:=M (show dI ⟨s,[]⟩=dn s by simp[dI,tt]);go_in;go_wp2_with{};refine a.out.mono ?_;rintro e b⟨rfl,b1⟩;rw[E.out];go_wp2_with{};go_ret;exact⟨rfl,b1⟩
theorem qA(s:ByteArray)(k:Nat):s.extract 0 k=⟨(s.data.toList.take k).toArray⟩:=by apply eT;apply Array.toList_inj.1;simp
theorem lE(s:ByteArray)(k:Nat):dn (s.extract 0 k)=qO (s.data.toList.take k):=by rw[qA];rfl
theorem Ay(s:ByteArray)(hs:s.size<=9223372036854775807):Reads 277 s (mm s.data.toList).1 (mm s.data.toList).2:=by
 intro w;obtain⟨K,hK⟩:∃K,j7 0 s.data.toList=K:=⟨_,rfl⟩;have E:=M (show mm s.data.toList=if qO (s.data.toList.take K)=true then(⟨3,0,⟨(s.data.toList.take K).toArray⟩,0⟩,K)else(pF,0) by rw[mm,hK]);have D:=M hK;clear hK;have H1:=M (St.start ej w);go_in;go_wp2;generalize e2:World.alloc w _=X;have z3:=iD e2 (n:=w.heap.size+1) (by simp);replace H1:=bW e2 (St.a6 H1.out _ (w.heap.size) (by simp));clear e2;go_loop [4] (fun i=>∃k:Nat,k<=s.size/\i=I J k/\Hid (K=j7 k (s.data.toList.drop k))) (fun i=>s.size - (intOf i).toNat);case atStart=>exact⟨0,by omega,rfl,by rw[<-D.out];rfl⟩
 case round=>
  obtain⟨k,hk,rfl,t⟩:=hrel;have fin (hd:j7 k (s.data.toList.drop k)=k):Hid (mm s.data.toList=if qO (s.data.toList.take k)=true then(⟨3,0,⟨(s.data.toList.take k).toArray⟩,0⟩,k)else(pF,0)):=(by rw[E.out,t.out,hd];exact M A);have l:=M fin;clear fin;by_cases B:k<s.size
  · have r:=M (drop_byte B);have L:(0:Int)<=(k:Int):=(by omega);have G:(k:Int)<(s.size:Int):=(by omega);have H:0<=(s[k].toNat:Int)/\(s[k].toNat:Int)<256:=(by have:=s[k].toNat_lt;omega);have z:=M (@E' k s[k] (s.data.toList.drop (k+1)));have u:=M (@IB k s[k] (s.data.toList.drop (k+1)))
    have m:=M (show nc s[k].toNat=(decide (97<=(s[k].toNat:Int)/\(s[k].toNat:Int)<=122)||(decide (48<=(s[k].toNat:Int)/\(s[k].toNat:Int)<=57)|| decide ((s[k].toNat:Int)=95))) by
     rw[rK];congr 1;unfold eR;rw[eY];simp;omega)
    obtain⟨x,hx⟩:∃x:Int,(s[k].toNat:Int)=x:=⟨_,rfl⟩;rw[hx]at m H;by_cases c1:x<97
    · by_cases c2:x<48;{have e3:(x==95)=false:=(by simp;omega);have d1:decide (97<=x)=false:=(by simp;omega);have d2:decide (48<=x)=false:=(by simp;omega);have F:=l.out (by rw[r.out];exact u.out (by rw[m.out];simp;omega));go_wp2_with{};have o:=M (show(s.extract 0 k).size<=9223372036854775807 by simp[cX];omega);refine(ml _ _ o.out).mono ?_;rintro e C⟨rfl,b1⟩;have a:=M (H1.out.below b1);clear H1;clear b1;cases hn:dn (s.extract 0 k);{rw[<-lE,hn,Rq (by decide)]at F;obtain⟨cs,g⟩:=St.cs a 0 A;simp only[ak]at cs;obtain⟨⟨c5,f6⟩,⟨p,f8⟩,⟨q,f10⟩,⟨f,f12⟩, -⟩:=cs;go_wp2_with{};replace a:=M (St.aB a.out 0 A 0 (I J 0) A);simp only[ab,ae]at a;replace a:=M (St.aB a.out 0 A 1 (I J 0) A);simp only[ab,ae]at a;replace a:=M (St.aB a.out 0 A 2 (U ⟨#[]⟩) A);simp only[ab,ae]at a;replace a:=M (St.aB a.out 0 A 3 (I J 0) A);simp only[ab,ae]at a;obtain⟨cs,h⟩:=St.cs a 0 A;simp only[ak]at cs;obtain⟨⟨b,f15⟩,⟨c16,f17⟩,⟨c,f19⟩,⟨d,f21⟩, -⟩:=cs;exact au (v:=Rx #[Rj #[I J 0,I J 0,U ⟨#[]⟩,I J 0],I J 0]) (by simp[results,gM,go_sem,b,c16,c,d]) A ⟨by rw[F.out];rfl,a.out.low.aC⟩};{rw[<-lE,hn,Rs A,<-qA]at F;obtain⟨cs,g⟩:=St.cs a 0 A;simp only[ak]at cs;obtain⟨⟨c5,f6⟩,⟨p,f8⟩,⟨q,f10⟩,⟨f,f12⟩, -⟩:=cs;go_wp2_with{};replace a:=M (St.aB a.out 0 A 0 (I J 3) A);simp only[ab,ae]at a;replace a:=M (St.aB a.out 0 A 1 (I J 0) A);simp only[ab,ae]at a;replace a:=M (St.aB a.out 0 A 2 (U (s.extract 0 k)) A);simp only[ab,ae]at a;replace a:=M (St.aB a.out 0 A 3 (I J 0) A);simp only[ab,ae]at a;obtain⟨cs,h⟩:=St.cs a 0 A;simp only[ak]at cs;obtain⟨⟨b,f15⟩,⟨c16,f17⟩,⟨c,f19⟩,⟨d,f21⟩, -⟩:=cs;exact au (v:=Rx #[Rj #[I J 3,I J 0,U (s.extract 0 k),I J 0],I J k]) (by simp[results,gM,go_sem,b,c16,c,d]) A ⟨by rw[F.out];rfl,a.out.low.aC⟩}}
      · by_cases c3:x<=57
        · skip;have d1:decide (97<=x)=false:=(by simp;omega);have d2:decide (48<=x)=true:=(by simp;omega);have d3:decide (x<=57)=true:=(by simp;omega);have j:Hid (K=j7 (k+1) (s.data.toList.drop (k+1))):=(by rw[t.out,r.out];exact M (z.out (by rw[m.out];simp;omega)));go_wp2;go_round;case rel=>exact⟨k+1,by omega,by go_num,j⟩
          case measure=>simp[intOf];omega
        · by_cases c4:x=95
          · have e3:(x==95)=true:=(by simp;omega);have d1:decide (97<=x)=false:=(by simp;omega);have d2:decide (48<=x)=true:=(by simp;omega);have d3:decide (x<=57)=false:=(by simp;omega);have y:=M c4;clear c4;have j:Hid (K=j7 (k+1) (s.data.toList.drop (k+1))):=(by rw[t.out,r.out];exact M (z.out (by rw[m.out];simp;have:=y.out;omega)));go_wp2;go_round;case rel=>exact⟨k+1,by omega,by go_num,j⟩
            case measure=>simp[intOf];omega
          {have e3:(x==95)=false:=(by simp;omega);have d1:decide (97<=x)=false:=(by simp;omega);have d2:decide (48<=x)=true:=(by simp;omega);have d3:decide (x<=57)=false:=(by simp;omega);have F:=l.out (by rw[r.out];exact u.out (by rw[m.out];simp;omega));go_wp2_with{};have o:=M (show(s.extract 0 k).size<=9223372036854775807 by simp[cX];omega);refine(ml _ _ o.out).mono ?_;rintro e C⟨rfl,b1⟩;have a:=M (H1.out.below b1);clear H1;clear b1;cases hn:dn (s.extract 0 k);{rw[<-lE,hn,Rq (by decide)]at F;obtain⟨cs,g⟩:=St.cs a 0 A;simp only[ak]at cs;obtain⟨⟨c5,f6⟩,⟨p,f8⟩,⟨q,f10⟩,⟨f,f12⟩, -⟩:=cs;go_wp2_with{};replace a:=M (St.aB a.out 0 A 0 (I J 0) A);simp only[ab,ae]at a;replace a:=M (St.aB a.out 0 A 1 (I J 0) A);simp only[ab,ae]at a;replace a:=M (St.aB a.out 0 A 2 (U ⟨#[]⟩) A);simp only[ab,ae]at a;replace a:=M (St.aB a.out 0 A 3 (I J 0) A);simp only[ab,ae]at a;obtain⟨cs,h⟩:=St.cs a 0 A;simp only[ak]at cs;obtain⟨⟨b,f15⟩,⟨c16,f17⟩,⟨c,f19⟩,⟨d,f21⟩, -⟩:=cs;exact au (v:=Rx #[Rj #[I J 0,I J 0,U ⟨#[]⟩,I J 0],I J 0]) (by simp[results,gM,go_sem,b,c16,c,d]) A ⟨by rw[F.out];rfl,a.out.low.aC⟩};{rw[<-lE,hn,Rs A,<-qA]at F;obtain⟨cs,g⟩:=St.cs a 0 A;simp only[ak]at cs;obtain⟨⟨c5,f6⟩,⟨p,f8⟩,⟨q,f10⟩,⟨f,f12⟩, -⟩:=cs;go_wp2_with{};replace a:=M (St.aB a.out 0 A 0 (I J 3) A);simp only[ab,ae]at a;replace a:=M (St.aB a.out 0 A 1 (I J 0) A);simp only[ab,ae]at a;replace a:=M (St.aB a.out 0 A 2 (U (s.extract 0 k)) A);simp only[ab,ae]at a;replace a:=M (St.aB a.out 0 A 3 (I J 0) A);simp only[ab,ae]at a;obtain⟨cs,h⟩:=St.cs a 0 A;simp only[ak]at cs;obtain⟨⟨b,f15⟩,⟨c16,f17⟩,⟨c,f19⟩,⟨d,f21⟩, -⟩:=cs;exact au (v:=Rx #[Rj #[I J 3,I J 0,U (s.extract 0 k),I J 0],I J k]) (by simp[results,gM,go_sem,b,c16,c,d]) A ⟨by rw[F.out];rfl,a.out.low.aC⟩}}
    · by_cases c2:x<=122
      · skip;have d1:decide (97<=x)=true:=(by simp;omega);have d2:decide (x<=122)=true:=(by simp;omega);have j:Hid (K=j7 (k+1) (s.data.toList.drop (k+1))):=(by rw[t.out,r.out];exact M (z.out (by rw[m.out];simp;omega)));go_wp2;go_round;case rel=>exact⟨k+1,by omega,by go_num,j⟩
        case measure=>simp[intOf];omega
      {have e3:(x==95)=false:=(by simp;omega);have d1:decide (97<=x)=true:=(by simp;omega);have d2:decide (x<=122)=false:=(by simp;omega);have d3:decide (48<=x)=true:=(by simp;omega);have d4:decide (x<=57)=false:=(by simp;omega);have F:=l.out (by rw[r.out];exact u.out (by rw[m.out];simp;omega));go_wp2_with{};have o:=M (show(s.extract 0 k).size<=9223372036854775807 by simp[cX];omega);refine(ml _ _ o.out).mono ?_;rintro e C⟨rfl,b1⟩;have a:=M (H1.out.below b1);clear H1;clear b1;cases hn:dn (s.extract 0 k);{rw[<-lE,hn,Rq (by decide)]at F;obtain⟨cs,g⟩:=St.cs a 0 A;simp only[ak]at cs;obtain⟨⟨c5,f6⟩,⟨p,f8⟩,⟨q,f10⟩,⟨f,f12⟩, -⟩:=cs;go_wp2_with{};replace a:=M (St.aB a.out 0 A 0 (I J 0) A);simp only[ab,ae]at a;replace a:=M (St.aB a.out 0 A 1 (I J 0) A);simp only[ab,ae]at a;replace a:=M (St.aB a.out 0 A 2 (U ⟨#[]⟩) A);simp only[ab,ae]at a;replace a:=M (St.aB a.out 0 A 3 (I J 0) A);simp only[ab,ae]at a;obtain⟨cs,h⟩:=St.cs a 0 A;simp only[ak]at cs;obtain⟨⟨b,f15⟩,⟨c16,f17⟩,⟨c,f19⟩,⟨d,f21⟩, -⟩:=cs;exact au (v:=Rx #[Rj #[I J 0,I J 0,U ⟨#[]⟩,I J 0],I J 0]) (by simp[results,gM,go_sem,b,c16,c,d]) A ⟨by rw[F.out];rfl,a.out.low.aC⟩};{rw[<-lE,hn,Rs A,<-qA]at F;obtain⟨cs,g⟩:=St.cs a 0 A;simp only[ak]at cs;obtain⟨⟨c5,f6⟩,⟨p,f8⟩,⟨q,f10⟩,⟨f,f12⟩, -⟩:=cs;go_wp2_with{};replace a:=M (St.aB a.out 0 A 0 (I J 3) A);simp only[ab,ae]at a;replace a:=M (St.aB a.out 0 A 1 (I J 0) A);simp only[ab,ae]at a;replace a:=M (St.aB a.out 0 A 2 (U (s.extract 0 k)) A);simp only[ab,ae]at a;replace a:=M (St.aB a.out 0 A 3 (I J 0) A);simp only[ab,ae]at a;obtain⟨cs,h⟩:=St.cs a 0 A;simp only[ak]at cs;obtain⟨⟨b,f15⟩,⟨c16,f17⟩,⟨c,f19⟩,⟨d,f21⟩, -⟩:=cs;exact au (v:=Rx #[Rj #[I J 3,I J 0,U (s.extract 0 k),I J 0],I J k]) (by simp[results,gM,go_sem,b,c16,c,d]) A ⟨by rw[F.out];rfl,a.out.low.aC⟩}}
  {have G:¬(k:Int)<(s.size:Int):=(by omega);have F:=l.out (by rw[qC (by omega)];rfl);go_wp2_with{};have o:=M (show(s.extract 0 k).size<=9223372036854775807 by simp[cX];omega);refine(ml _ _ o.out).mono ?_;rintro e C⟨rfl,b1⟩;have a:=M (H1.out.below b1);clear H1;clear b1;cases hn:dn (s.extract 0 k);{rw[<-lE,hn,Rq (by decide)]at F;obtain⟨cs,g⟩:=St.cs a 0 A;simp only[ak]at cs;obtain⟨⟨c5,f6⟩,⟨p,f8⟩,⟨q,f10⟩,⟨f,f12⟩, -⟩:=cs;go_wp2_with{};replace a:=M (St.aB a.out 0 A 0 (I J 0) A);simp only[ab,ae]at a;replace a:=M (St.aB a.out 0 A 1 (I J 0) A);simp only[ab,ae]at a;replace a:=M (St.aB a.out 0 A 2 (U ⟨#[]⟩) A);simp only[ab,ae]at a;replace a:=M (St.aB a.out 0 A 3 (I J 0) A);simp only[ab,ae]at a;obtain⟨cs,h⟩:=St.cs a 0 A;simp only[ak]at cs;obtain⟨⟨b,f15⟩,⟨c16,f17⟩,⟨c,f19⟩,⟨d,f21⟩, -⟩:=cs;exact au (v:=Rx #[Rj #[I J 0,I J 0,U ⟨#[]⟩,I J 0],I J 0]) (by simp[results,gM,go_sem,b,c16,c,d]) A ⟨by rw[F.out];rfl,a.out.low.aC⟩};{rw[<-lE,hn,Rs A,<-qA]at F;obtain⟨cs,g⟩:=St.cs a 0 A;simp only[ak]at cs;obtain⟨⟨c5,f6⟩,⟨p,f8⟩,⟨q,f10⟩,⟨f,f12⟩, -⟩:=cs;go_wp2_with{};replace a:=M (St.aB a.out 0 A 0 (I J 3) A);simp only[ab,ae]at a;replace a:=M (St.aB a.out 0 A 1 (I J 0) A);simp only[ab,ae]at a;replace a:=M (St.aB a.out 0 A 2 (U (s.extract 0 k)) A);simp only[ab,ae]at a;replace a:=M (St.aB a.out 0 A 3 (I J 0) A);simp only[ab,ae]at a;obtain⟨cs,h⟩:=St.cs a 0 A;simp only[ak]at cs;obtain⟨⟨b,f15⟩,⟨c16,f17⟩,⟨c,f19⟩,⟨d,f21⟩, -⟩:=cs;exact au (v:=Rx #[Rj #[I J 3,I J 0,U (s.extract 0 k),I J 0],I J k]) (by simp[results,gM,go_sem,b,c16,c,d]) A ⟨by rw[F.out];rfl,a.out.low.aC⟩}}
theorem Ly(k o k' o':Int)(d:Nat)(w:ai):(Op.equalIn (d+1+1) 30 (Rj #[I J k,I J o]) (Rj #[I J k', I J o'])).run ah w=.ok (decide (k=k') &&decide (o=o')) w:=by
 have u3:=underlying3;have a3:=Tryz.isAgg3;have z3:=Tryz.sizeOf3;have hS:Tryz.prog.underlying 30=O (.struct (Tryz.prog.fieldsOf 30)):=by kernel_rfl
 have hp:Tryz.prog.stoodInHeld 30=false:=by kernel_rfl
 rw[run_equalIn_agg w (d+1) 30 _ _ hS hp];simp only[Program.fieldsOf,underlying30];go_simp;by_cases h1:k=k'<;>by_cases h2:o=o'<;>simp[h1,h2]
theorem P9(f g:iF)(w:ai):(Op.equalIn 10000 131 (Rj #[U f.name,I J f.k,I J f.o,Ri f.ix]) (Rj #[U g.name,I J g.k,I J g.o,Ri g.ix])).run ah w=.ok (M6 f g) w:=by
 have u3:=bQ;have a3:=Tryz.isAgg9;have z3:=Tryz.sizeOf9;have u4:=underlying4;have a4:=Tryz.isAgg4;have z4:=Tryz.sizeOf4;have a5:=Tryz.isAgg30;have z5:=Tryz.sizeOf30;have hS:Tryz.prog.underlying 131=O (.struct (Tryz.prog.fieldsOf 131)):=by kernel_rfl
 have hp:Tryz.prog.stoodInHeld 131=false:=by kernel_rfl
 have hT:=Ly f.k f.o g.k g.o 9997;rw[show(10000:Nat)=9999+1 from rfl,run_equalIn_agg w 9999 131 _ _ hS hp];simp only[Program.fieldsOf,underlying131];go_simp;unfold M6;have hn:(f.name.toList=g.name.toList)=(f.name=g.name):=by{have:=Lx f.name g.name;rw[eY]at this;simp only[beq_iff_eq,Rt]at this;exact propext this};simp only[hn];by_cases h1:f.name=g.name<;>by_cases h2:f.k=g.k<;>by_cases h3:f.o=g.o<;>cases h4:f.ix<;>cases a:g.ix<;>simp[h1,h2,h3]
theorem QL:Tryz.prog.eqGuardType Tryz.prog.depth 131=false:=by kernel_rfl
theorem By(l r:List iF)(b o c p o' q:Nat)(w:ai)(t:je w (Z (O ⟨b,o,N⟩) l.length c) l)(hr:je w (Z (O ⟨p,o', N⟩) r.length q) r)(hlen:l.length=r.length)(C:l.length<=9223372036854775807):aJ ah 68 #[Z (O ⟨b,o,N⟩) l.length c,Z (O ⟨p,o', N⟩) l.length q] w fun e w'=>e=Rh (Ri (jo l r))/\ay w.heap.size w w':=by
 have x:=M t;have y:=M hr;have n:=M hlen;clear t hr hlen;go_in;go_wp2_with{};go_loopw [13] (fun i wr=>∃k:Nat,k<=l.length/\i=I J k/\Hid (jo l r=jo (l.drop k) (r.drop k))/\ay w.heap.size w wr) (fun i _=>l.length - (intOf i).toNat);case atStart=>exact⟨0,by omega,rfl,rfl,ax _ _⟩
 case round=>
  obtain⟨k,hk,rfl,m,hB⟩:=hrel;by_cases j:k<l.length
  · obtain⟨f,hf⟩:∃f,l[k]? =O f:=⟨_,an j⟩;obtain⟨g,hg⟩:∃g,r[k]? =O g:=⟨_,an (by rw[<-n.out];exact j)⟩;have d:=M (CC hf hg);obtain⟨b1,H,z,D,f1,f2,f3,f4⟩:=lP (x.out.below hB) hf;cases z;obtain⟨E,K,B,u,g1,g2,g3,g4⟩:=lP (y.out.below hB) hg;cases B;have F:(0:Int)<=(k:Int):=(by omega);have G:(k:Int)<(l.length:Int):=(by omega);have a:=M hB;have hq:∀W:ai,(binOp .neq 131 (Rj #[U f.name,I J f.k,I J f.o,Ri f.ix]) (Rj #[U g.name,I J g.k,I J g.o,Ri g.ix])).run ah W=.ok (Ri (!M6 f g)) W:=fun W=>by rw[run_neq_struct,P9];rfl
    have hm:Tryz.prog.eqGuardType Tryz.prog.depth 131=false:=QL;clear hf hg hB;go_wp2_with{};refine fY (by kernel_rfl) (by kernel_rfl) ?_;repeat still_step
    refine wpStill_nil ?_;cases s:M6 f g;{rw[s]at d;have h:=M (show jo l r=false by rw[m.out,d.out];rfl);clear d;go_wp2_with{};go_ret;exact⟨by rw[h.out];rfl,a.out.drew⟩}
    · rw[s]at d;have h:=M (show jo l r=jo (l.drop (k+1)) (r.drop (k+1)) by rw[m.out,d.out];rfl);clear d;go_wp2_with{};go_roundw;case rel=>exact⟨k+1,by omega,by go_num,h.out,a.out.drew⟩
      case measure=>simp[intOf];omega
  {have h:=M (show jo l r=true by rw[m.out,a8 (by omega),a8 (by rw[<-n.out];omega)];rfl);have a:=M hB;clear hB;go_wp2_with{};go_ret;exact⟨by rw[h.out];rfl,a.out⟩}
theorem DO(a a':Option Addr)(n b c d:Nat)(hn:n≠b)(w:ai):aJ ah 68 #[Z a n c,Z a' b d] w fun e w'=>e=Rh (Ri false)/\ay w.heap.size w w':=by
 have hb:((n:Int) !=(b:Int))=true:=by simp;omega
 go_in;go_wp2_with{};go_ret;exact⟨rfl,ax _ _⟩
theorem DP(a a':Option Addr)(c b:Nat)(w:ai):aJ ah 68 #[Z a 0 c,Z a' 0 b] w fun e w'=>e=Rh (Ri true)/\ay w.heap.size w w':=by go_in;go_wp2_with{};refine wp_loop_rounds 1 ?_;rw[rounds_succ];go_wp2_with{};go_ret;exact⟨rfl,ax _ _⟩
theorem DN(l r:List iF)(sl sr:ar)(w:ai)(d:je w sl l)(hr:je w sr r):aJ ah 68 #[sl,sr] w fun e w'=>e=Rh (Ri (jo l r))/\ay w.heap.size w w':=by
 obtain⟨a,c,rfl⟩:=cl.slice d;obtain⟨a', j,rfl⟩:=cl.slice hr;by_cases hn:l.length=r.length
 · cases l with
   |nil=>
    cases r with
    |nil=>exact DP _ _ _ _ _
    |cons g r=>simp at hn
   |cons f l=>
    cases r with
    |nil=>simp at hn
    |cons g r=>obtain⟨b,o,rfl,_⟩:=lP d (i:=0) (f:=f) A;obtain⟨h,o', rfl,_⟩:=lP hr (i:=0) (f:=g) A;have:=By _ _ b o c h o' j w d hr hn (cl.le d);rw[<-hn];exact this
 {rw[EN hn];exact DO _ _ _ _ _ _ hn w}
theorem Ib(a b:pd)(v u:ar)(w:ai)(hv:qp w v a)(hu:qp w u b):aJ ah 33 #[v,u] w fun e w'=>e=Rh (Ri (tH a b))/\ay w.heap.size w w':=by obtain⟨sl,rfl,d,_⟩:=hv;obtain⟨sr,rfl,hr,_⟩:=hu;have c:=M (fun(o o':Obj)=>((ax w.heap.size w).alloc (av _) o).alloc (by simp) o'); have HI:=M (fun W(f:ay w.heap.size w W)=>DN a.fs b.fs sl sr W (d.below f) (hr.below f));obtain⟨sa,sc,rfl⟩:=cl.slice d;obtain⟨g,rc,rfl⟩:=cl.slice hr;clear d hr;by_cases hn:a.name=b.name;{have E:=M (show tH a b=jo a.fs b.fs by simp[tH,hn]);have hq:(a.name.toList==b.name.toList)=true:=(by rw[Lx];simpa using hn);rw[E.out];clear hn E;go_in;go_wp2_with{};refine(HI.out _ (c.out _ _)).mono ?_;rintro e h⟨rfl,b1⟩;have B1:=M ((c.out _ _).trans (b1.mono (by simp;omega)));clear b1;go_wp2_with{};go_ret;exact⟨by simp,B1.out⟩};{have E:=M (show tH a b=false by simp[tH,hn]);have hq:(a.name.toList==b.name.toList)=false:=(by rw[Lx];simpa using hn);rw[E.out];clear hn E;go_in;go_wp2_with{};go_ret;exact⟨by simp,c.out _ _⟩}
end Go.Proofs.YtbcbefpninlfiaaGreatDoor
