import Derived.Test.YtbcbefpninlfiaaGreatDoorC1
import Derived.Test.YtbcbefpninlfiaaGreatDoorShelf
import Derived.Lib.OwnKind
set_option maxHeartbeats 64000000
set_option maxRecDepth 100000
set_option linter.all false
open Option renaming map_eq_some_iff->fM,none->N,some->O
open Go renaming Calls->aJ,Value->ar,World->ai
open Go.Proofs.Tryz renaming prog->ah,underlying58->fN
open Go.Ending renaming returned->Rh
open Go.Value renaming agg->Rj,bool->Ri,int->I,pointer->Ru,slice->Z,string->U,tuple->Rx
open Go.IntKind renaming i64->J
open Go.RowKit renaming Below->ay
open Go.Obj renaming cells->Ra
open Go.Lib renaming byteCells->cQ,cell_of_heap->gg,wpList_append_own_string->jV
namespace Mor
structure iF where
 name:ByteArray
 k:Int
 o:Int
 ix:Bool
structure pd where
 name:ByteArray
 fs:List iF
def eR(b:Nat):Bool:=decide (97<=b/\b<=122)
def nc(b:Nat):Bool:=eR b||(decide (48<=b/\b<=57)|| decide (b=95))
def oN(l:List UInt8):Bool:=l.all fun b=>nc b.toNat
def zW(l:List UInt8):Bool:=match l with
 | []=>false
 |b::_=>eR b.toNat
def qO(l:List UInt8):Bool:=decide (l.length<=20)&&(zW l&&oN l)
def dn(s:ByteArray):Bool:=qO s.data.toList
def gN(k o:Int):Bool:=if k=5 then decide (1<=o/\o<=4)else decide (1<=k/\k<=4/\o=0)
def ic(f:iF):Bool:=dn f.name&&(gN f.k f.o&&(!f.ix|| decide (f.k<=3)))
def findF(s:ByteArray):Nat ->List iF ->Int
 |_,[]=> -1
 |k,f::l=>if f.name=s then(k:Int)else findF s (k+1) l
theorem wP(s:ByteArray)(l:List iF)(k:Nat)(f:iF)(h:l[k]? =O f):findF s k (l.drop k)=if f.name=s then(k:Int)else findF s (k+1) (l.drop (k+1)):=by obtain⟨h1,rfl⟩:=aA.1 h;rw[aY h1,findF]
theorem s_(s:ByteArray):∀(k:Nat) (l:List iF),findF s k l= -1\/(k<=findF s k l/\findF s k l<k+l.length)
 |k,[]=>.inl rfl
 |k,f::l=>by unfold findF;have:=s_ s (k+1) l;split;{right;simp only[aS,Int.natCast_add];omega};{rcases this with h|h;{exact .inl h};{right;simp only[aS,Int.natCast_add]at h⊢;omega}}
def Dh(s:ByteArray)(l:List iF):Int:=if findF s 0 l<0 then 0 else findF s 0 l
def pC(s:ByteArray)(l:List iF):Bool:=decide (0<=findF s 0 l)
def FD(l:List iF)(k:Nat):Bool:=match l[k]? with
 |none=>false
 |some f=>ic f&&decide (Dh f.name l=k)
def tt(l:List iF):Bool:=(List.range l.length).all (FD l)
def dI(c:pd):Bool:=dn c.name&&(decide (c.fs.length<=8)&&tt c.fs)
theorem Mj{l:List iF}{k:Nat}(hk:k<l.length)(h:FD l k=false):tt l=false:=by rw[Bool.eq_false_iff];intro a;have:=ba.1 a k (by simpa using hk);rw[h]at this;cases this
theorem Cd{l:List iF}(h:∀k,k<l.length ->FD l k=true):tt l=true:=
 ba.2 fun k hk=>h k (by simpa using hk)
theorem Dc(l:List UInt8)(k:Nat)(b:UInt8)(h:l[k]? =O b):oN (l.take (k+1))=(oN (l.take k)&&nc b.toNat):=by obtain⟨h1,rfl⟩:=aA.1 h;unfold oN;rw[dF h1,List.all_append];simp
theorem zi(l:List UInt8)(k:Nat)(b:UInt8)(h:l[k]? =O b)(hb:nc b.toNat=false):oN l=false:=by rw[Bool.eq_false_iff];intro a;have:=ba.1 a b (aP h);rw[hb]at this;cases this
end Mor
namespace Go.Proofs.YtbcbefpninlfiaaGreatDoor
open Go.Proofs.Tryz
section
open Go.RowKit Mor
theorem y8(b:UInt8)(w:ai):aJ ah 229 #[.int .u8 (b.toNat:Int)] w fun e w'=>e=Rh (Ri (eR b.toNat))/\w=w':=by have hb:b.toNat<256:=b.toNat_lt;generalize b.toNat=n at hb⊢;by_cases h1:97<=n;{by_cases h2:n<=122;{have E:=M (show eR n=true by simp[eR];omega);rw[E.out];clear E;go_in;go_wp2;go_ret;exact⟨by simp;omega,rfl⟩};{have E:=M (show eR n=false by simp[eR];omega);rw[E.out];clear E;go_in;go_wp2;go_ret;exact⟨by simp;omega,rfl⟩}};{have E:=M (show eR n=false by simp[eR];omega);rw[E.out];clear E;go_in;go_wp2;go_ret;exact⟨by simp,rfl⟩}
def Iu(k o:Int):ar:=Rj #[I J k,I J o]
theorem sb(k o:Int)(w:ai):aJ ah 202 #[Iu k o] w fun e w'=>e=Rh (Ri (gN k o))/\ay w.heap.size w w':=by have b:=M (fun(o:Obj)=>(ax w.heap.size w).alloc (av _) o);unfold Iu;by_cases a:k=5;{have E:=M (show gN k o=decide (1<=o/\o<=4) by simp[gN,a]);have d:(k==5)=true:=(by rw[a];rfl);rw[E.out];clear a;by_cases h1:1<=o;all_goals go_in;go_wp2;go_ret;exact⟨by simp;try omega,b.out _⟩};{have E:=M (show gN k o=decide (1<=k/\k<=4/\o=0) by simp[gN,a]);have d:(k==5)=false:=Rm.2 a;rw[E.out];clear a;by_cases h1:1<=k;{by_cases h2:k<=4;{by_cases h3:o=0;{have hz3:(o==0)=true:=(by rw[h3];rfl);have c:=M h3;clear h3;go_in;go_wp2;go_ret;exact⟨by simp[c.out];try omega,b.out _⟩};{have hz3:(o==0)=false:=Rm.2 h3;have c:=M h3;clear h3;go_in;go_wp2;go_ret;exact⟨by simp[c.out];try omega,b.out _⟩}};{go_in;go_wp2;go_ret;exact⟨by simp;omega,b.out _⟩}};{go_in;go_wp2;go_ret;exact⟨by simp;omega,b.out _⟩}}
theorem vT{s:ByteArray}{k:Nat}(h:k<s.size):s.data.toList[k]? =O s[k]:=by
 have:k<s.data.toList.length:=by simpa using h
 rw[an this];rfl
theorem tp{s:ByteArray}(h:s.size<1\/20<s.size):dn s=false:=by
 have a:s.data.toList.length=s.size:=by simp
 rcases h with h|h;{have:s.data.toList=[]:=cy (by omega);simp[dn,qO,this,zW]};{have:¬s.data.toList.length<=20:=(by omega);simp[dn,qO];omega}
theorem yz{s:ByteArray}(h:0<s.size):zW s.data.toList=eR s[0].toNat:=by
 have h0:=vT h;cases a:s.data.toList with
 |nil=>rw[a]at h0;simp at h0
 |cons b l=>rw[a]at h0;simp at h0;simp[zW,h0]
theorem uY{s:ByteArray}(h0:0<s.size)(h:eR s[0].toNat=false):dn s=false:=by simp[dn,qO,yz h0,h]
theorem qN{s:ByteArray}(h0:0<s.size)(a:s.size<=20)(h:eR s[0].toNat=true):dn s=oN s.data.toList:=by
 have b:s.data.toList.length=s.size:=by simp
 have:decide (s.data.toList.length<=20)=true:=by rw[b];simpa using a
 unfold dn qO;rw[this,yz h0,h];rfl
theorem rK(n:Nat):nc n=(eR n||(decide (48<=(n:Int)/\(n:Int)<=57)|| decide ((n:Int)=95))):=by unfold nc;congr 1;congr 1<;>(rw[eY];simp;omega)
theorem r_(s:ByteArray)(w:ai)(hs:s.size<=9223372036854775807):aJ ah 197 #[U s] w fun e w'=>e=Rh (Ri (dn s))/\w=w':=by
 by_cases h1:s.size<1;{have E:=M (tp (.inl h1));rw[E.out];clear E;go_in;go_wp2;go_ret;exact⟨rfl,rfl⟩};by_cases h2:20<s.size;{have E:=M (tp (.inr h2));rw[E.out];clear E;go_in;go_wp2;go_ret;exact⟨rfl,rfl⟩};have h3:0<s.size:=by omega
 have z:(0:Int)<(s.size:Int):=by omega
 have j:=M (y8 s[0] w);cases hf:eR s[0].toNat;{have E:=M (uY h3 hf);rw[E.out];clear E;rw[hf]at j;clear hf;go_in;go_wp2_with(go_at_call 229;refine j.out.mono ?_;rintro e w'⟨rfl,rfl⟩);go_ret;exact⟨rfl,rfl⟩}
 · have E:=M (qN h3 (by omega) hf);rw[E.out];rw[hf]at j;clear hf E;go_in;go_wp2_with(go_at_call 229;refine j.out.mono ?_;rintro e w'⟨rfl,rfl⟩);clear j;go_loop [3,20] (fun _ i=>∃k:Nat,k<=s.size/\i=I J k/\Hid (oN (s.data.toList.take k)=true)) (fun _ i=>s.size - (intOf i).toNat);case atStart=>exact⟨0,by omega,rfl,rfl⟩
   case round=>
    obtain⟨k,hk,rfl,n⟩:=hrel;by_cases l:k<s.size
    · have c:=M (y8 s[k] w);have p:=M (Dc s.data.toList k s[k] (vT l));have o:=M (zi s.data.toList k s[k] (vT l));have u:(0:Int)<=(k:Int):=(by omega);have y:(k:Int)<(s.size:Int):=(by omega);have d:=M (show nc s[k].toNat=(eR s[k].toNat||(decide (48<=(s[k].toNat:Int)/\(s[k].toNat:Int)<=57)|| decide ((s[k].toNat:Int)=95)))from rK _);have t:0<=(s[k].toNat:Int)/\(s[k].toNat:Int)<256:=(by have:=s[k].toNat_lt;omega);obtain⟨x,hx⟩:∃x:Int,(s[k].toNat:Int)=x:=⟨_,rfl⟩;rw[hx]at c d t;have f (h:nc s[k].toNat=true):Hid (oN (s.data.toList.take (k+1))=true):=by{rw[p.out,n.out,h];rfl};have a:=M f;clear f p;cases b:eR s[k].toNat
      · rw[b]at c d;clear b;by_cases c1:x<48;{have d1:decide (x<48)=true:=(by simpa using c1);by_cases c3:x=95;{omega};{have d3:(x !=95)=true:=(by simpa using c3);have m:=M (o.out (by rw[d.out];simp;omega));clear c3;go_wp2_with(go_at_call 229;refine c.out.mono ?_;rintro e w'⟨rfl,rfl⟩);go_ret;exact⟨by rw[m.out];rfl,rfl⟩}}
        · have d1:decide (x<48)=false:=(by simpa using c1);by_cases c2:57<x
          · have d2:decide (57<x)=true:=(by simpa using c2);by_cases c3:x=95
            · have d3:(x !=95)=false:=(by simpa using c3);have g:=a.out (by rw[d.out];simp;omega);clear c3;go_wp2_with(go_at_call 229;refine c.out.mono ?_;rintro e w'⟨rfl,rfl⟩);go_round;case rel=>exact⟨k+1,by omega,by go_num,g⟩
              case measure=>simp[intOf];omega
            {have d3:(x !=95)=true:=(by simpa using c3);have m:=M (o.out (by rw[d.out];simp;omega));clear c3;go_wp2_with(go_at_call 229;refine c.out.mono ?_;rintro e w'⟨rfl,rfl⟩);go_ret;exact⟨by rw[m.out];rfl,rfl⟩}
          · have d2:decide (57<x)=false:=(by simpa using c2);have g:=a.out (by rw[d.out];simp;omega);go_wp2_with(go_at_call 229;refine c.out.mono ?_;rintro e w'⟨rfl,rfl⟩);go_round;case rel=>exact⟨k+1,by omega,by go_num,g⟩
            case measure=>simp[intOf];omega
      · rw[b]at c d;have g:=a.out (by rw[d.out];simp);clear b;go_wp2_with(go_at_call 229;refine c.out.mono ?_;rintro e w'⟨rfl,rfl⟩);go_round;case rel=>exact⟨k+1,by omega,by go_num,g⟩
        case measure=>simp[intOf];omega
    {have q:=M (show s.data.toList.take k=s.data.toList from fK (by simp;omega));have r:=M (show oN s.data.toList=true by rw[<-q.out];exact n.out);go_wp2;go_ret;exact⟨by rw[r.out];rfl,rfl⟩}
end
section
open Go.RowKit Mor
theorem Lx(a b:ByteArray):(a.toList==b.toList)=decide (a=b):=by rw[da,da,eY];simp only[beq_iff_eq,Rt];exact⟨fun h=>by cases a;cases b;simp only[ByteArray.mk.injEq];exact Array.toList_inj.1 h,fun h=>by rw[h]⟩
def ug(f:iF):List ar:=[U f.name,I J f.k,I J f.o,Ri f.ix]
def RF(_:ai)(e:List ar)(f:iF):Prop:=e=ug f/\f.name.size<=9223372036854775807
def je(w:ai)(v:ar)(fs:List iF):Prop:=cl 4 RF w v fs
def IG(f:iF):ar:=Rj #[U f.name,I J f.k,I J f.o,Ri f.ix]
def qp(w:ai)(v:ar)(c:pd):Prop:=∃sl,v=Rj #[U c.name,sl]/\je w sl c.fs/\c.name.size<=9223372036854775807
theorem je.below{w w':ai}{v:ar}{fs:List iF}(h:je w v fs)(hb:ay w.heap.size w w') :je w' v fs:=cl.below (w:=w) (fun _ _ h=>h) h hb
theorem qp.below{w w':ai}{v:ar}{c:pd}(h:qp w v c)(hb:ay w.heap.size w w') :qp w' v c:=by obtain⟨sl,h1,h2,h3⟩:=h;exact⟨sl,h1,h2.below hb,h3⟩
theorem lP{w:ai}{a:Option Addr}{n c:Nat}{fs:List iF}(h:je w (Z a n c) fs){i:Nat}{f:iF}(hf:fs[i]? =O f):∃b o,a=O ⟨b,o,N⟩/\f.name.size<=9223372036854775807/\w.cell? ⟨b,o+i*4,N⟩=O (U f.name)/\w.cell? ⟨b,o+i*4+1,N⟩=O (I J f.k)/\w.cell? ⟨b,o+i*4+1+1,N⟩=O (I J f.o)/\w.cell? ⟨b,o+i*4+1+1+1,N⟩=O (Ri f.ix):=by obtain⟨b,o,e,h1,⟨rfl,hs⟩,h3,h4⟩:=cl.at h hf;exact⟨b,o,h1,hs,h4 0 _ A,h4 1 _ A,h4 2 _ A,h4 3 _ A⟩
theorem xy(f:iF)(w:ai)(hs:f.name.size<=9223372036854775807):aJ ah 198 #[IG f] w fun e w'=>e=Rh (Ri (ic f))/\ay w.heap.size w w':=by have c:=M (fun(o:Obj)=>(ax w.heap.size w).alloc (av _) o);have b:=M (fun W=>r_ f.name W hs);have a:=M (fun W=>sb f.k f.o W);unfold Iu at a;unfold IG;cases h1:dn f.name;{have E:=M (show ic f=false by simp[ic,h1]);rw[E.out];rw[h1]at b;clear h1 E a;go_in;go_wp2_with(go_at_call 197;refine(b.out _).mono ?_;rintro e w'⟨rfl,rfl⟩);go_ret;exact⟨rfl,c.out _⟩};{rw[h1]at b;cases h2:gN f.k f.o;{have E:=M (show ic f=false by simp[ic,h1,h2]);rw[E.out];rw[h2]at a;clear h1 h2 E;go_in;go_wp2_with(first|(go_at_call 197;refine(b.out _).mono ?_;rintro e w'⟨rfl,rfl⟩));refine(a.out _).mono ?_;rintro e h⟨rfl,b1⟩;have B1:=M ((c.out _).trans (b1.mono (by simp)));clear b1;go_wp2;go_ret;exact⟨rfl,B1.out⟩};{have E:=M (show ic f=(!f.ix|| decide (f.k<=3)) by simp[ic,h1,h2]);rw[E.out];rw[h2]at a;clear h1 h2 E;go_in;go_wp2_with(first|(go_at_call 197;refine(b.out _).mono ?_;rintro e w'⟨rfl,rfl⟩));refine(a.out _).mono ?_;rintro e h⟨rfl,b1⟩;obtain⟨hc,hf⟩:=ey b1;have g:=b1.size;simp at g;have B1:=M ((c.out _).trans (b1.mono (by simp)));clear b1;cases d:f.ix;all_goals go_wp2;go_ret;exact⟨by simp[d],B1.out⟩}}
theorem DR(f:iF)(s:ByteArray)(b:Nat)(w:ai)(hc:w.cell? ⟨b,0,N⟩=O (U s)):aJ ah 231 #[IG f,Ru (O ⟨b,0,N⟩)] w fun e w'=>e=Rh (Ri (decide (f.name=s)))/\ay w.heap.size w w':=by have a:=M (fun(o:Obj)=>(ax w.heap.size w).alloc (av _) o);have hb:=fD hc;unfold IG;go_in;go_wp2;go_ret;exact⟨by simp[Lx],a.out _⟩
theorem BO(l:List iF)(s:ByteArray)(B:Nat)(b o c:Nat)(w:ai)(hs:w.cell? ⟨B,0,N⟩=O (U s))(n:je w (Z (O ⟨b,o,N⟩) l.length c) l)(x:l.length<=9223372036854775807):aJ ah 230 #[Z (O ⟨b,o,N⟩) l.length c, .func (.func 231) #[] #[Ru (O ⟨B,0,N⟩)]] w fun e w'=>e=Rh (I J (findF s 0 l))/\ay w.heap.size w w':=by
 have r:=M n;have t:=M hs;clear n hs;go_in;go_wp2_with{};go_loopw [8] (fun i wr=>∃k:Nat,k<=l.length/\i=I J k/\Hid (findF s 0 l=findF s k (l.drop k))/\ay w.heap.size w wr) (fun i _=>l.length - (intOf i).toNat);case atStart=>exact⟨0,by omega,rfl,rfl,ax _ _⟩
 case round=>
  obtain⟨k,hk,rfl,j,hB⟩:=hrel;by_cases m:k<l.length
  · obtain⟨f,hf⟩:∃f,l[k]? =O f:=⟨_,an m⟩;have h:=M (wP s l k f hf);obtain⟨C,o', u,y,f1,f2,f3,f4⟩:=lP (r.out.below hB) hf;cases u;have D:(0:Int)<=(k:Int):=(by omega);have E:(k:Int)<(l.length:Int):=(by omega);have g:=M (DR f s B wr (aU t.out hB));have a:=M hB;have p:=hB.size;unfold IG at g;clear hf hB;by_cases hr:f.name=s;{rw[Rv hr]at g;have d:=M (show findF s k (l.drop k)=k by rw[h.out,Rs hr]);clear hr h;go_wp2_with{};refine g.out.mono ?_;rintro e z⟨rfl,b1⟩;have B1:=M (a.out.trans (b1.mono p));clear b1;go_wp2_with{};go_ret;rw[j.out,d.out];exact⟨by simp,B1.out⟩}
    · rw[Rw hr]at g;have d:=M (show findF s k (l.drop k)=findF s (k+1) (l.drop (k+1)) by rw[h.out,Rq hr]);clear hr h;go_wp2_with{};refine g.out.mono ?_;rintro e z⟨rfl,b1⟩;have B1:=M (a.out.trans (b1.mono p));clear b1;go_wp2_with{};go_roundw;case rel=>exact⟨k+1,by omega,by go_num,j.out.trans d.out,B1.out⟩
      case measure=>simp[intOf];omega
  {have q:=M (show findF s k (l.drop k)= -1 by rw[a8 (by omega)];rfl);have a:=M hB;clear hB;go_wp2_with{};go_ret;rw[j.out,q.out];exact⟨rfl,a.out⟩}
theorem DY(a:Option Addr)(c:Nat)(g:ar)(w:ai):aJ ah 230 #[Z a 0 c,g] w fun e w'=>e=Rh (I J (-1))/\ay w.heap.size w w':=by go_in;go_wp2_with{};refine wp_loop_rounds 1 ?_;rw[rounds_succ];go_wp2_with{};go_ret;exact⟨rfl,ax _ _⟩
theorem DX(l:List iF)(sl:ar)(s:ByteArray)(B:Nat)(w:ai)(hs:w.cell? ⟨B,0,N⟩=O (U s))(d:je w sl l):aJ ah 230 #[sl, .func (.func 231) #[] #[Ru (O ⟨B,0,N⟩)]] w fun e w'=>e=Rh (I J (findF s 0 l))/\ay w.heap.size w w':=by
 obtain⟨a,c,rfl⟩:=cl.slice d;cases l with
 |nil=>exact DY _ _ _ _
 |cons f l=>obtain⟨b,o,rfl,_⟩:=lP d (i:=0) (f:=f) A;exact BO _ s B b o c w hs d (cl.le d)
theorem GL(c:pd)(v:ar)(s:ByteArray)(w:ai)(hv:qp w v c):aJ ah 199 #[v,U s] w fun e w'=>e=Rh (Rx #[I J (Dh s c.fs),Ri (pC s c.fs)])/\ay w.heap.size w w':=by obtain⟨sl,rfl,b,hn⟩:=hv;have a:=M (fun(o o':Obj)=>((ax w.heap.size w).alloc (av _) o).alloc (by simp) o'); have HI:=M (fun W(f:ay w.heap.size w W)B(hB:W.cell? ⟨B,0,N⟩=O (U s))=>DX c.fs sl s B W hB (b.below f));obtain⟨sa,sc,rfl⟩:=cl.slice b;have hbd:=s_ s 0 c.fs;have hle:=cl.le b;unfold Dh pC;generalize findF s 0 c.fs=z at*;clear b;by_cases d:z<0;{rw[Rs d,Rw (by omega)];go_in;go_wp2_with{};refine(HI.out _ (a.out _ _) _ (yr _ _ _ _)).mono ?_;rintro e g⟨rfl,b1⟩;have B1:=M ((a.out _ _).trans (b1.mono (by simp;omega)));clear b1;go_wp2_with{};go_ret2;exact⟨rfl,B1.out⟩};{rw[Rq d,Rv (by omega)];go_in;go_wp2_with{};refine(HI.out _ (a.out _ _) _ (yr _ _ _ _)).mono ?_;rintro e g⟨rfl,b1⟩;have B1:=M ((a.out _ _).trans (b1.mono (by simp;omega)));clear b1;go_wp2_with{};go_ret2;exact⟨rfl,B1.out⟩}
theorem mu(c:pd)(v:ar)(w:ai)(hv:qp w v c):aJ ah 168 #[v] w fun e w'=>e=Rh (Ri (dI c))/\ay w.heap.size w w':=by
 have t:=hv;obtain⟨sl,rfl,y,hn⟩:=hv;have hle:=cl.le y;obtain⟨sa,sc,rfl⟩:=cl.slice y;have u:=M (fun(o:Obj)=>(ax w.heap.size w).alloc (av _) o);have m:=M (fun W=>r_ c.name W hn);have R:=M t;have Q:=M y;clear t y;cases h1:dn c.name;{have E:=M (show dI c=false by simp[dI,h1]);rw[E.out];rw[h1]at m;clear h1 E;go_in;go_wp2_with(go_at_call 197;refine(m.out _).mono ?_;rintro e w'⟨rfl,rfl⟩);go_ret;exact⟨rfl,u.out _⟩}
 · rw[h1]at m;by_cases h2:8<c.fs.length;{have E:=M (show dI c=false by simp[dI,h1];omega);rw[E.out];clear h1 E;go_in;go_wp2_with(go_at_call 197;refine(m.out _).mono ?_;rintro e w'⟨rfl,rfl⟩);go_ret;exact⟨rfl,u.out _⟩}
   · have E:=M (show dI c=tt c.fs by simp[dI,h1];omega);rw[E.out];clear h1 E;go_in;go_wp2_with(go_at_call 197;refine(m.out _).mono ?_;rintro e w'⟨rfl,rfl⟩);obtain⟨w0,b⟩:∃w0,w0=w.alloc (Ra #[U c.name,Z sa c.fs.length sc] 28):=⟨_,rfl⟩;have q0:=M (show w0.cell? ⟨w.heap.size,0,N⟩=O (U c.name) by rw[b,mh];rfl);have q1:=M (show w0.cell? ⟨w.heap.size,1,N⟩=O (Z sa c.fs.length sc) by rw[b,mh];rfl);have d:Hid (ay w.heap.size w w0):=M (by rw[b];exact u.out _);rw[<-b];clear b u m;go_loopw [20] (fun i wr=>∃k:Nat,k<=c.fs.length/\i=I J k/\Hid (∀j,j<k ->FD c.fs j=true)/\ay w0.heap.size w0 wr) (fun i _=>c.fs.length - (intOf i).toNat);case atStart=>exact⟨0,by omega,rfl,(fun j x=>absurd x (by omega)),ax _ _⟩
     case round=>
      obtain⟨k,hk,rfl,F,hB⟩:=hrel;by_cases s:k<c.fs.length
      · obtain⟨f,hf⟩:∃f,c.fs[k]? =O f:=⟨_,an s⟩;have h:ay w.heap.size w wr:=d.out.trans (hB.mono d.out.size);obtain⟨X,o', S,C,f1,f2,f3,f4⟩:=lP (Q.out.below h) hf;have G:=M (fun(B:FD c.fs k=false)=>Mj s B);have q:=M (show FD c.fs k=(ic f&&decide (Dh f.name c.fs=k)) by unfold FD;rw[hf]);have D:=aU q0.out hB;have K:=aU q1.out hB;have Y:(0:Int)<=(k:Int):=(by omega);have i2:(k:Int)<(c.fs.length:Int):=(by omega);have r:=M (fun W=>xy f W C);have z:=M (fun W(T:ay wr.heap.size wr W)=>GL c _ f.name W ((R.out.below h).below T));have g:=M hB;have a:=M h;have V:=fD D;subst S;unfold IG at r;clear hB h hf;cases h3:ic f;{rw[h3]at r q;have n:=M (G.out (by rw[q.out];rfl));clear h3 z;go_wp2_with{};refine(r.out _).mono ?_;rintro e L⟨rfl,b1⟩;have B1:=M (a.out.trans ((((ax wr.heap.size wr).alloc (av _) _).trans (b1.mono (by simp))).mono a.out.size));clear b1;go_wp2_with{};go_ret;exact⟨by rw[n.out];rfl,B1.out⟩}
        · rw[h3]at r q;clear h3;go_wp2_with{};refine(r.out _).mono ?_;rintro e L⟨rfl,b1⟩;have B1:=M (((ax wr.heap.size wr).alloc (av _) _).trans (b1.mono (by simp)));have r0:=aU D B1.out;have r1:=aU K B1.out;have e0:L.cell? ⟨wr.heap.size,0,N⟩=O (U f.name):=(b1.cell (p:=⟨wr.heap.size,0,N⟩) (by simp)).trans (by rw[mh];rfl);clear b1 D K;go_wp2_with{};refine(z.out _ B1.out).mono ?_;rintro e w2⟨rfl,H⟩;have B2:=M (B1.out.trans (H.mono B1.out.size));clear H z;by_cases h4:Dh f.name c.fs=k
          · have d4:(Dh f.name c.fs !=(k:Int))=false:=(by simpa using h4)
            have P:Hid (∀j,j<k+1 ->FD c.fs j=true):=M (fun j x=>by
             rcases Nat.lt_succ_iff_lt_or_eq.1 x with B|rfl;{exact F.out j B}
             · rw[q.out,h4];simp)
            clear h4;go_wp2_with{};go_roundw;case rel=>exact⟨k+1,by omega,by go_num,P,g.out.trans (B2.out.mono g.out.size)⟩
            case measure=>simp[intOf];omega
          {have d4:(Dh f.name c.fs !=(k:Int))=true:=(by simpa using h4);have n:=M (G.out (by rw[q.out];simp[h4]));clear h4;go_wp2_with{};go_ret;exact⟨by rw[n.out];rfl,a.out.trans (B2.out.mono a.out.size)⟩}
      {have n:=M (Cd (l:=c.fs) (fun j x=>F.out j (by omega)));have g:=M (d.out.trans (hB.mono d.out.size));clear hB;go_wp2_with{};go_ret;exact⟨by rw[n.out];rfl,g.out⟩}
end
section
open Go.RowKit
theorem wX:(Tryz.prog.info? 5).map (fun i=>(i.zero,i.size,i.bytes))=O (O (.int .u8 0),1,1):=by kernel_rfl
theorem tN:(Tryz.prog.info? 93).map (·.size)=O 2:=by kernel_rfl
theorem Af:liesAt ah Tryz.prog.depth 93 (2/Tryz.prog.cellsOf 93) 0 93 1=true:=by kernel_rfl
theorem qz(b:Nat)(w:ai)(h0:w.cell? ⟨b,0,N⟩=O (Ru (O ⟨b,0,N⟩))):aJ ah 76 #[Ru (O ⟨b,0,N⟩)] w fun e w'=>e=Rh (Rx #[])/\w'=w:=by obtain⟨j,a,_⟩:=fM.1 tN;go_in;go_wp2;rw[Lib.run_neq_ptr_same w _ underlying91 a];go_wp2;go_end0;exact⟨rfl,rfl⟩
theorem p8(b:Nat)(w:ai)(h0:w.cell? ⟨b,0,N⟩=O (Ru N))(a:w.shape? b=O (93,2))(f:w.frozen? ⟨b,0,N⟩=false):aJ ah 76 #[Ru (O ⟨b,0,N⟩)] w fun e w'=>e=Rh (Rx #[])/\w'=w.setCell ⟨b,0,N⟩ (Ru (O ⟨b,0,N⟩)):=by obtain⟨j,d,c⟩:=fM.1 tN;go_in;go_wp2;rw[Lib.run_to_unsafe w ⟨b,0,N⟩ underlying91 underlying180 d (by rw[c];decide) a (Nat.zero_lt_succ 1)];simp only[Result.andThen];rw[Oper.upon_value];go_wp2;rw[run_callFunc_extern func128 (by kernel_rfl) (by kernel_rfl) (by kernel_rfl) (e:=Extern.AbiNoEscape.same) (by kernel_rfl)];rw[Lib.run_noEscape];simp only[Result.andThen];rw[Oper.upon_value];go_wp2;rw[Lib.run_from_unsafe w ⟨b,0,N⟩ underlying180 underlying91 d a Af];simp only[Result.andThen];rw[Oper.upon_value];go_wp2;go_end0;exact⟨rfl,rfl⟩
def rP(B b:Nat)(l:List UInt8)(w:ai):Prop:=Lib.IsBuilder 93 5 B b (cQ l) w
theorem x'(B b:Nat)(bs:List ar)(w:ai)(h:Lib.IsBuilder 93 5 B b bs w):aJ ah 76 #[Ru (O ⟨b,0,N⟩)] w fun e w'=>e=Rh (Rx #[])/\(Lib.BuilderAt 93 5 B b (Ru (O ⟨b,0,N⟩)) bs w'/\ay B w w') :=by rcases h with h|h;{exact(p8 b w h.cell0 h.shape h.frozen0).mono fun e w'⟨he,hw⟩=>⟨he,by rw[hw];exact h.used _,by rw[hw];exact(ax B w).setCell (p:=⟨b,0,N⟩) h.1 _⟩};{exact(qz b w h.cell0).mono fun e w'⟨he,hw⟩=>⟨he,by rw[hw];exact h,by rw[hw];exact ax B _⟩}
theorem oI(l:List UInt8)(s:ByteArray):cQ l++Lib.strCells s=cQ (l++s.data.toList):=by simp[cQ,Lib.strCells]
theorem kS(l:List UInt8):(cQ l).length=l.length:=by simp[cQ]
theorem o_(B b:Nat)(l:List UInt8)(s:ByteArray)(w:ai)(h:rP B b l w)(hlen:l.length+s.size<=140737488355328)(x:B<=w.heap.size):aJ ah 40 #[Ru (O ⟨b,0,N⟩),U s] w fun e w'=>e=Rh (Rx #[I J s.size, .nilIface])/\rP B b (l++s.data.toList) w'/\ay B w w':=by
 obtain⟨y,hi,m,hz1,hz2⟩:=info_parts wX;have r:=M (x' B b _ w h);have t:=M (kS l);have u:=M (oI l s);clear h;go_in;go_wp2_with(go_at_call 76;refine r.out.mono ?_);rintro e n⟨rfl,h1,hb1⟩;obtain⟨hB,v,f,d,hne⟩:=h1;rw[t.out]at d;have c0:n.cell? ⟨b,0,N⟩=O (Ru (O ⟨b,0,N⟩)):=by rw[gg f];rfl
 have c1:n.cell? ⟨b,1,N⟩=O v:=by rw[gg f];rfl
 have z:=hb1.size;go_wp2_with(at_builtin;refine jV _ A _ _ 58 9 A B 5 y fN bQ hi m hz1 hz2 _ _ _ A d s A ?c3 ?c4 ?c5 ?_);case c3=>unfold maxLen;omega
 case c4=>omega
 case c5=>omega
 intro v' i a c _;have j:b<n.heap.size:=(bP.1 f).1;have hb2:i.heap[b]? =O (Ra #[Ru (O ⟨b,0,N⟩),v] 93 (0,0)):=by{rw[c.block b j (fun e=>hne e.symm)];exact f};have d0:i.cell? ⟨b,0,N⟩=O (Ru (O ⟨b,0,N⟩)):=by rw[gg hb2];rfl
 have d1:i.cell? ⟨b,1,N⟩=O v:=by rw[gg hb2];rfl
 have f1:i.frozen? ⟨b,1,N⟩=false:=Lib.frozen_of_heap hb2 1;obtain⟨o,q,cap,rfl⟩:∃o q cap,v'=Z o q cap:=by{rcases a.2 with⟨hv,_⟩|⟨g,cap,cur,hv,_⟩;{exact⟨_,_,_,hv⟩};{exact⟨_,_,_,hv⟩}};rw[u.out]at a;go_wp2;go_ret2;refine⟨rfl, ?_, ?_⟩;{refine .inr (Lib.BuilderAt.put (T:=93) (e:=5) hB hb2 (bs':=cQ (l++s.data.toList)) ?_ (by decide));rw[kS,aw];simpa using a};{exact(hb1.grown c (by omega) (fun k hk=>(d.lt k hk).1)).setCell (p:=⟨b,1,N⟩) hB _}
theorem xH(B b:Nat)(l:List UInt8)(w:ai)(h:rP B b l w)(a:B<=w.heap.size):
 aJ ah 43 #[Ru (O ⟨b,0,N⟩)] w fun e w'=>e=Rh (U ⟨l.toArray⟩)/\ay B w w':=Tryz.Builder_String_any B b l w h a
theorem LM(B b:Nat)(l:List UInt8)(w:ai)(h:rP B b l w):
 aJ ah 42 #[Ru (O ⟨b,0,N⟩)] w fun e w'=>e=Rh (I J l.length)/\w'=w:=(Tryz.Builder_Len B b _ w h).mono fun e w'⟨h1,h2⟩=>⟨by rw[h1,kS],h2⟩
theorem zJ(w:ai):rP w.heap.size w.heap.size [] (w.alloc (Ra #[Ru N,Z N 0 0] 93)):=
 .inl ⟨av _,_,dW w _,⟨rfl, .inl ⟨rfl,rfl⟩⟩,by simp[Value.ownBlock]⟩
theorem c_{w w':ai}{r:Option Nat}(h:ay w.heap.size w w') :w.grownBy w' r:=⟨h.os,h.tape,h.output,h.size,fun k hk _=>h.block k hk⟩
theorem oW{w w':ai}{base E size n:Nat}{v:ar}{xs:List ar}(h:w.ownsRow base E size v n xs)(hb:ay w.heap.size w w') :w'.ownsRow base E size v n xs:=
 h.kept (row:=N) (c_ hb) (by cases hv:v.ownBlock with|none=>exact .inl rfl|some k=>exact .inr (by simp))
theorem mg{w w':ai}{B b:Nat}{l:List UInt8}(h:rP B b l w)(hb:ay w.heap.size w w') :rP B b l w':=by rcases h with⟨h1,v,h2,h3,h4⟩|⟨h1,v,h2,h3,h4⟩;{exact .inl ⟨h1,v,(hb.block b (bP.1 h2).1).trans h2,oW h3 hb,h4⟩};{exact .inr ⟨h1,v,(hb.block b (bP.1 h2).1).trans h2,oW h3 hb,h4⟩}
def iw(base:Nat)(v:ar)(l:List UInt8)(w:ai):Prop:=w.ownsRow base 5 1 v l.length (cQ l)
theorem iw.below{w w':ai}{base:Nat}{v:ar}{l:List UInt8}(h:iw base v l w)(hb:ay w.heap.size w w') :iw base v l w':=oW h hb
theorem xp(base:Nat)(w:ai):iw base (Z N 0 0) [] w:=dH w base _ _
theorem iw.slice{w:ai}{base:Nat}{v:ar}{l:List UInt8}(h:iw base v l w):∃a c,v=Z a l.length c:=by rcases h.2 with⟨rfl,h0⟩|⟨g,cap,cur,rfl,_⟩;{exact⟨N,0,by rw[h0]⟩};{exact⟨_,_,rfl⟩}
theorem dz{ops:Array Oper}{rest:List Oper}{o:Oper}{a:Act}{w:ai}{Q:Exit ->Act ->ai ->Prop}(c:o.guard=N)(sl x:Operand)(ho:o.op=.call {callee:=.builtin .append,args:= #[sl,x],argTypes:= #[58,9]})(base:Nat)(v:ar)(L:List UInt8)(hs:a.eval sl=v)(b:iw base v L w)(s:ByteArray)(hx:a.eval x=U s)(e:L.length+s.size<=140737488355328)(hb:base<=w.heap.size)(h:∀v' w', iw base v' (L++s.data.toList) w' ->w.grownBy w' v.ownBlock ->wpList ah ops Q rest (a.put o.dst v') w') :wpList ah ops Q (o::rest) a w:=by obtain⟨f,hi,d,hz1,hz2⟩:=info_parts wX;refine jV _ c _ _ 58 9 ho base 5 f fN bQ hi d hz1 hz2 v _ _ hs b s hx (by unfold maxLen;omega) e hb ?_;intro v' w' h1 h2 _;refine h v' w' ?_ h2;unfold iw;rw[<-oI,aw];simpa using h1
theorem GB(w:ai):(convert 58 9 (Z N 0 0)).run ah w=.ok (U ⟨#[]⟩) w:=by kernel_rfl
theorem lU{w:ai}{base:Nat}{a:Option Addr}{n c:Nat}{l:List UInt8}(h:iw base (Z a n c) l w):(convert 58 9 (Z a n c)).run ah w=.ok (U ⟨l.toArray⟩) w:=by have b:=h;unfold iw at b;rcases h.2 with⟨hv,h0⟩|⟨g,cap,cur,hv,_⟩;{have:l=[]:=cy h0;cases hv;subst this;exact GB w};{cases hv;refine run_convert_bytes_back (P:=ah) w 58 9 5 ⟨g,0,N⟩ c l fN underlying5 bQ (fun j d=> ?_);have:=b.cellAt j (by omega);rw[wm,bC,this];simp[cQ,d]}
theorem ag{w:ai}{D T:Nat}{cs:Array ar}{fr:Nat×Nat}(h:w.heap[D]? =O (Ra cs T fr))(j:Nat):w.cell? ⟨D,j,N⟩=cs[j]? :=by unfold World.cell?;simp only[h];rfl
theorem bl{w w':ai}{D:Nat}{o:Obj}(h:w.heap[D]? =O o)(hb:ay w.heap.size w w') :w'.heap[D]? =O o:=(hb.block D (bP.1 h).1).trans h
theorem aV{w:ai}{D:Nat}{o:Obj}(h:w.heap[D]? =O o):D<w.heap.size:=(bP.1 h).1
theorem sD{w:ai}{base E size n D T:Nat}{v:ar}{xs:List ar}{cs:Array ar}{fr:Nat×Nat}(a:w.ownsRow base E size v n xs)(b:w.heap[D]? =O (Ra cs T fr))(hT:T≠E):O D≠v.ownBlock:=by intro e;obtain⟨c,d,hc⟩:=Lib.ownsRow_kind a D e.symm;rw[b]at hc;simp only[bu,Obj.cells.injEq]at hc;exact hT hc.2.1
theorem gx{w w':ai}{base E size n D T:Nat}{v:ar}{xs:List ar}{cs:Array ar}{fr:Nat×Nat}(a:w.ownsRow base E size v n xs)(hg:w.grownBy w' v.ownBlock)(b:w.heap[D]? =O (Ra cs T fr))(hT:T≠E):w'.heap[D]? =O (Ra cs T fr):=
 (hg.block D (aV b) (sD a b hT)).trans b
theorem cF(w:ai)(o:Obj):(w.alloc o).heap[w.heap.size]? =O o:=dW w o
theorem bJ{w w':ai}{D b:Nat}{o:Obj}(a:w.heap[D]? =O o)(hg:w.grownBy w' (O b))(hne:D≠b):w'.heap[D]? =O o:=(hg.block D (aV a) (by simpa using hne)).trans a
theorem Gp{w:ai}{D:Nat}{o:Obj}(b:w.heap[D]? =O o)(a:Addr)(v:ar)(hne:D≠a.block):(w.setCell a v).heap[D]? =O o:=(fg _ _ _ _ hne).trans b
theorem aX{w:ai}{D T:Nat}{cs:Array ar}(a:w.heap[D]? =O (Ra cs T (0,0)))(j:Nat)(v:ar):(w.setCell ⟨D,j,N⟩ v).heap[D]? =O (Ra (cs.setIfInBounds j v) T (0,0)):=heap_setCell_same w D j _ _ _ a
theorem aW{w:ai}{D T:Nat}{cs:Array ar}(a:w.heap[D]? =O (Ra cs T (0,0)))(j:Nat):w.frozen? ⟨D,j,N⟩=false:=by unfold World.frozen?;simp only[a];simp
theorem bE{w:ai}{D:Nat}{o:Obj}(a:w.heap[D]? =O o)(o':Obj):(w.alloc o').heap[D]? =O o:=bl a ((ax _ _).alloc (av _) _)
theorem cB{a b:ai}{r:Option Nat}(h:a.grownBy b r)(o:Obj):a.grownBy (b.alloc o) r:=by have h2:b.grownBy (b.alloc o) r:=c_ ((ax _ _).alloc (av _) _);exact⟨h2.os.trans h.os,h2.tape.trans h.tape,h2.output.trans h.output,bc h.size h2.size,fun i hi hr=>(h2.block i (cJ hi h.size) hr).trans (h.block i hi hr)⟩
theorem aO{a b:ai}{r:Option Nat}(h:a.grownBy b r)(D j:Nat)(v:ar)(c:a.heap.size<=D):a.grownBy (b.setCell ⟨D,j,N⟩ v) r:=
 ⟨h.os,h.tape,h.output,by simpa using h.size,fun i hi hr=>(fg _ _ _ _ (by simp;omega)).trans (h.block i hi hr)⟩
theorem aG{w:ai}{D:Nat}{o:Obj}(a:w.heap[D]? =O o)(E j:Nat)(v:ar)(hne:D≠E):(w.setCell ⟨E,j,N⟩ v).heap[D]? =O o:=Gp a _ v hne
theorem yB{a b c:ai}{D:Nat}(h:a.grownBy b N)(g:b.grownBy c (O D))(d:a.heap.size<=D):a.grownBy c N:=
 ⟨g.os.trans h.os,g.tape.trans h.tape,g.output.trans h.output,bc h.size g.size,fun i hi hr=>(g.block i (cJ hi h.size) (by simp;omega)).trans (h.block i hi hr)⟩
theorem qu{a b:ai}(h:a.grownBy b N):ay a.heap.size a b:=(ax _ a).grown h (av _) fun k hk=>by cases hk
end
section
open Go.RowKit
section
variable {P:Program} {ops:Array Oper} {md:Region.Mode} {w:ai}
structure IN(md:Region.Mode)(ops:Array Oper)(n:Nat)(listed:Array Bool):Prop extends HeadInv md ops n listed where
 sink:∀i,i<n ->listed.getD i true=false ->∃j,i<j/\j<=n/\Region.waitsFor md ops j i=true
theorem IN.set{n i:Nat}{listed:Array Bool}(inv:IN md ops n listed)(hi:i∈Region.ready md ops listed)(c:i<n):IN md ops n (listed.setIfInBounds i true):=
 ⟨inv.toHeadInv.set hi c,fun j d a=>by
  refine inv.sink j d ?_;by_cases h:i=j;{subst h;have:(listed.setIfInBounds i true).getD i true=true:=by{by_cases b:i<listed.size;{simp[b]};{simp}};rw[this]at a;cases a}
  · rw[getD_set_ne true h]at a;exact a⟩
end
end
section
open Go.RowKit Mor
theorem uq(a:Int)(w:ai):aJ ah 161 #[I J a] w fun e w'=>e=Rh (Ri false)/\w=w':=by go_in;go_wp2;go_ret;exact⟨by simp,rfl⟩
theorem ur(a:ByteArray)(w:ai):aJ ah 162 #[U a] w fun e w'=>e=Rh (Ri false)/\w=w':=by go_in;go_wp2;go_ret;exact⟨by simp,rfl⟩
theorem pv(a b:Int)(w:ai):aJ ah 126 #[I J a,I J b] w fun e w'=>e=Rh (I J (eg a b))/\w=w':=by by_cases h1:a<b;{have H:=M (show eg a b= -1 by simp[eg,h1]);go_in;go_wp2_with(go_at_call 161;refine(uq _ _).mono ?_;rintro e w'⟨rfl,rfl⟩);go_ret;rw[H.out];exact⟨rfl,rfl⟩};{by_cases h2:b<a;{have H:=M (show eg a b=1 by simp[eg,h1,h2]);go_in;go_wp2_with(go_at_call 161;refine(uq _ _).mono ?_;rintro e w'⟨rfl,rfl⟩);go_ret;rw[H.out];exact⟨rfl,rfl⟩};{have H:=M (show eg a b=0 by simp[eg,h1,h2]);go_in;go_wp2_with(go_at_call 161;refine(uq _ _).mono ?_;rintro e w'⟨rfl,rfl⟩);go_ret;rw[H.out];exact⟨rfl,rfl⟩}}
theorem wI(a b:ByteArray)(w:ai):aJ ah 127 #[U a,U b] w fun e w'=>e=Rh (I J (iS a.data.toList b.data.toList))/\w=w':=by
 have c:Op.bytesLess a.toList b.toList=decide (iS a.data.toList b.data.toList= -1):=by rw[da,da,xf]
 have he:(a.toList==b.toList)=decide (iS a.data.toList b.data.toList=0):=by{rw[da,da,eY,beq_iff_eq,Rt,rD]};rcases sC a.data.toList b.data.toList with h|h|h;{have H:=M h;have d:Op.bytesLess a.toList b.toList=true:=(by rw[c,h];rfl);clear c he h;go_in;go_wp2_with(go_at_call 162;refine(ur _ _).mono ?_;rintro e w'⟨rfl,rfl⟩);go_ret;rw[H.out];exact⟨rfl,rfl⟩};{have H:=M h;have d:Op.bytesLess a.toList b.toList=false:=(by rw[c,h];rfl);have f:(a.toList==b.toList)=true:=(by rw[he,h];rfl);clear c he h;go_in;go_wp2_with(go_at_call 162;refine(ur _ _).mono ?_;rintro e w'⟨rfl,rfl⟩);go_ret;rw[H.out];exact⟨rfl,rfl⟩};{have H:=M h;have d:Op.bytesLess a.toList b.toList=false:=(by rw[c,h];rfl);have f:(a.toList==b.toList)=false:=(by rw[he,h];rfl);clear c he h;go_in;go_wp2_with(go_at_call 162;refine(ur _ _).mono ?_;rintro e w'⟨rfl,rfl⟩);go_ret;rw[H.out];exact⟨rfl,rfl⟩}
end
section
open Go.RowKit Mor
def DI(p:Pv):ar:=Rj #[I J p.k,I J p.n,U p.s,Z N 0 0]
theorem Ba(w:ai):aJ ah 184 #[Z N 0 0,Z N 0 0, .func (.func 147) #[] #[]] w fun e w'=>e=Rh (I J 0)/\w=w':=by have h0:=nw 0;go_in;go_wp2;refine wp_loop_rounds 1 ?_;rw[rounds_succ];go_wp2_with(go_at_call 126;refine(pv _ _ _).mono ?_;rintro e w'⟨rfl,rfl⟩);go_ret;exact⟨rfl,rfl⟩
theorem wJ(k n k' g:Int)(s s':ByteArray)(sl sr:ar)(i:∃a l c,sl=Z a l c)(j:∃a l c,sr=Z a l c)(c:Int)(w:ai)
 (f:∀W,ay w.heap.size w W ->aJ ah 184 #[sl,sr, .func (.func 147) #[] #[]] W fun e w'=>e=Rh (I J c)/\ay W.heap.size W w') :
 aJ ah 147 #[Rj #[I J k,I J n,U s,sl],Rj #[I J k', I J g,U s', sr]] w fun e w'=>e=Rh (I J (if qF (eg k k') (eg n g) (iS s.data.toList s'.data.toList)≠0 then qF (eg k k') (eg n g) (iS s.data.toList s'.data.toList)else c))/\ay w.heap.size w w':=by
 obtain⟨o,p,lc,rfl⟩:=i
 obtain⟨q,rl,rc,rfl⟩:=j
 have hb:∀a b:Obj,ay w.heap.size w ((w.alloc a).alloc b):=fun a b=>((ax _ w).alloc (av _) _).alloc (by simp) _
 have d:=M hb
 have h:=M f
 clear hb f
 generalize hx:eg k k'=x
 generalize hy:eg n g=y
 generalize m:iS s.data.toList s'.data.toList=z
 by_cases h1:x=0
 · by_cases h2:y=0;{by_cases h3:z=0;{have H:=M (show(if qF x y z≠0 then qF x y z else c)=c by simp[qF,h1,h2,h3]);subst h1 h2 h3;rw[H.out];clear H;go_in;go_wp2_with(first|(go_at_call 126;refine(pv _ _ _).mono ?_;rintro e w'⟨rfl,rfl⟩)|(go_at_call 127;refine(wI _ _ _).mono ?_;rintro e w'⟨rfl,rfl⟩)|(go_at_call 184;refine(h.out _ (d.out _ _)).mono ?_;rintro e w'⟨rfl,hC⟩));go_ret;exact⟨rfl,(d.out _ _).trans (hC.mono (by simp;omega))⟩};{have H:=M (show(if qF x y z≠0 then qF x y z else c)=z by simp[qF,h1,h2,h3]);have hne:(z !=0)=true:=(by rw[bne_iff_ne];exact h3);subst h1 h2;rw[H.out];clear H h3;go_in;go_wp2_with(first|(go_at_call 126;refine(pv _ _ _).mono ?_;rintro e w'⟨rfl,rfl⟩)|(go_at_call 127;refine(wI _ _ _).mono ?_;rintro e w'⟨rfl,rfl⟩));go_ret;exact⟨rfl,d.out _ _⟩}};{have H:=M (show(if qF x y z≠0 then qF x y z else c)=y by simp[qF,h1,h2]);have hne:(y !=0)=true:=(by rw[bne_iff_ne];exact h2);subst h1;rw[H.out];clear H h2;go_in;go_wp2_with(first|(go_at_call 126;refine(pv _ _ _).mono ?_;rintro e w'⟨rfl,rfl⟩)|(go_at_call 127;refine(wI _ _ _).mono ?_;rintro e w'⟨rfl,rfl⟩));go_ret;exact⟨rfl,d.out _ _⟩}
 · have H:=M (show(if qF x y z≠0 then qF x y z else c)=x by simp[qF,h1]);have hne:(x !=0)=true:=(by rw[bne_iff_ne];exact h1);rw[H.out];clear H h1;go_in;go_wp2_with(first|(go_at_call 126;refine(pv _ _ _).mono ?_;rintro e w'⟨rfl,rfl⟩)|(go_at_call 127;refine(wI _ _ _).mono ?_;rintro e w'⟨rfl,rfl⟩));go_ret;exact⟨rfl,d.out _ _⟩
end
section
open Go.RowKit
def cA(E size base:Nat)(v:ar)(es:List (List ar))(w:ai):Prop:=w.ownsRow base E size v es.length es.flatten
theorem jj(E size base:Nat)(w:ai):cA E size base (Z N 0 0) [] w:=dH w base _ _
theorem cA.below{w w':ai}{E size base:Nat}{v:ar}{es:List (List ar)}(h:cA E size base v es w)(hb:ay w.heap.size w w') :cA E size base v es w':=oW h hb
theorem cA.slice{w:ai}{E size base:Nat}{v:ar}{es:List (List ar)}(h:cA E size base v es w):∃a c,v=Z a es.length c:=(uH h).slice
theorem cA.many{α:Type}{R:ai ->List ar ->α ->Prop}{w:ai}{E size base:Nat}{v:ar}{es:List (List ar)}{l:List α}(h:cA E size base v es w)(a:∀e∈es,e.length=size/\∀x∈e,x.oneCell'=true)(b:es.length=l.length)(hR:∀(i:Nat) (e:List ar) (x:α),es[i]? =O e ->l[i]? =O x ->R w e x):cl size R w v l:=
 ⟨es,a,uH h,b,hR⟩
theorem rh{ops:Array Oper}{rest:List Oper}{o:Oper}{a:Act}{w:ai}{Q:Exit ->Act ->ai ->Prop}{T E size bytes:Nat}(d:o.guard=N)(sl x:Operand)(ho:o.op=.call {callee:=.builtin .append,args:= #[sl,x],argTypes:= #[T,T]})(f:Elem ah T E size bytes)(base:Nat)(v:ar)(es:List (List ar))(e:List ar)(W:ai)(g:w=W.alloc (Ra e.toArray E))(hs:a.eval sl=v)(c:cA E size base v es W)(hx:a.eval x=Z (O ⟨W.heap.size,0,N⟩) 1 1)(he:e.length=size)(h6:∀x∈e,x.oneCell'=true)(i:(es.length+1)*bytes<=140737488355328)(hb:base<=W.heap.size)(h:∀v' w', cA E size base v' (es++[e]) w' ->w.grownBy w' v.ownBlock ->ay base w w' ->wpList ah ops Q rest (a.put o.dst v') w') :wpList ah ops Q (o::rest) a w:=by subst g;have b:cA E size base v es (W.alloc (Ra e.toArray E)):=cL c _;have hu:=AI W E size 1 e.toArray (by simp[he]) (by unfold maxLen;omega);refine ri d sl x ho f base v _ es.length 1 _ _ hs hx b hu (by simpa using h6) i (by simp;omega) ?_;intro v' w' h1 h2 h3;refine h v' w' ?_ h3 h2;unfold cA;rw[aw,jb];simpa using h1
def lJ(w:ai)(v:ar)(l:List Int):Prop:=Sl w 1 v l.length (l.map fun n=>I J n)
theorem lJ.below{w w':ai}{v:ar}{l:List Int}(h:lJ w v l)(hb:ay w.heap.size w w') :lJ w' v l:=Sl.below h hb
def si(base:Nat)(v:ar)(l:List Int)(w:ai):Prop:=cA 3 1 base v (l.map fun n=>[I J n]) w
theorem J7(base:Nat)(w:ai):si base (Z N 0 0) [] w:=jj _ _ _ _
theorem rm(l:List Int):(l.map fun n=>[Value.int .i64 n]).flatten=l.map fun n=>I J n:=by
 induction l with
 |nil=>rfl
 |cons a l b=>simp[b]
theorem si.KS{base:Nat}{v:ar}{l:List Int}{w:ai}(h:si base v l w):lJ w v l:=by have:=uH h;rw[rm,bq]at this;exact this
theorem ou:Elem ah 23 3 1 8:=ni (z:=I J 0) underlying23 (by kernel_rfl) (by kernel_rfl) (by decide) (by decide)
theorem lJ.slice{w:ai}{v:ar}{l:List Int}(h:lJ w v l):∃a c,v=Z a l.length c:=Sl.slice h
theorem lJ.at{w:ai}{a:Option Addr}{n c:Nat}{l:List Int}(h:lJ w (Z a n c) l){i:Nat}{x:Int}(hx:l[i]? =O x):∃b o,a=O ⟨b,o,N⟩/\w.cell? ⟨b,o+i,N⟩=O (I J x):=by obtain⟨a', d,e,h2,h3,h4,f,h7⟩:=h;cases e;have hi:i<l.length:=(aA.1 hx).1;obtain⟨b,o,e2,hc⟩:=h7 (by omega);exact⟨b,o,e2,hc i _ (by rw[dT,hx];rfl)⟩
theorem Fo(w:ai)(n:Int):lJ (w.alloc (Ra #[I J n] 3)) (Z (O ⟨w.heap.size,0,N⟩) 1 1) [n]:=AI w 3 1 1 #[I J n] rfl (by unfold maxLen;omega)
end
end Go.Proofs.YtbcbefpninlfiaaGreatDoor
