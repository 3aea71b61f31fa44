import Derived.Test.YtbcbefpninlfiaaGreatDoorC26
import Derived.Lib.SmallJoins
set_option maxHeartbeats 64000000
set_option maxRecDepth 100000
set_option linter.all false
open Go renaming Calls->aJ,TypeId->bR,Value->ar,World->ai
open Option renaming none->N,some->O
open Go.DataW renaming trod->eM
open Go.Value renaming agg->Rj,bool->Ri,int->I,slice->Z,string->U,tuple->Rx
open Go.Proofs.Tryz renaming prog->ah
open Go.IntKind renaming i64->J
open Go.Obj renaming cells->Ra
open Go.RowKit renaming Below->ay
open Go.Ending renaming returned->Rh
open And renaming intro->ei
namespace Go.Proofs.YtbcbefpninlfiaaGreatDoor
open Go.Proofs.Tryz
section
open Go.ChangeShapes Go.WideShapes Go.ChangeAt Go.RowKit Go.Deep Mor
section
variable {H:Type} {enc:bR×ar ->H} {w:ai} {base:Nat} {spare:Nat ->Bool} {held:Bool}
theorem PJ{n:Int}(h:(Lit.int .i64 n).wf=true):ee n:=by
 have a:IntKind.i64.min<=n/\n<=IntKind.i64.max:=by simpa[Lit.wf]using h
 have e1:IntKind.i64.min= -9223372036854775808:=rfl;have e2:IntKind.i64.max=9223372036854775807:=rfl;unfold ee;omega
theorem LN{α:Type}(n:Nat)(p:Nat ->α ->Prop)(h:∀i,i<n ->∃x,p i x):∃l:List α,l.length=n/\∀i x,l[i]? =O x ->p i x:=by
 induction n with
 |zero=>exact⟨[],rfl,fun i x hx=>by simp at hx⟩
 |succ n b=>obtain⟨l,h1,h2⟩:=b fun i hi=>h i (by omega);obtain⟨x,hx⟩:=h n (by omega);refine⟨l++[x],by simp[h1],fun i y hy=> ?_⟩;by_cases hi:i<n;{rw[bS (by omega)]at hy;exact h2 i y hy};{have a:i<(l++[x]).length:=(aA.1 hy).1;simp[h1]at a;obtain rfl:i=n:=(by omega);rw[bZ (by omega)]at hy;simp[h1]at hy;exact hy▸hx}
theorem LP{α:Type}{P:Program}{T E size fuel:Nat}(hu:P.underlying T=O (.slice E))(hc:P.cellsOf E=size)(hs:0<size){R:ai ->List ar ->α ->Prop}(hR:∀n c y,eM enc P w base spare held n E c=O y ->∃x,R w c x/\c.length=size/\∀z∈c,z.oneCell'=true){v:ar}{x:DataW H×List MemPlace}(h:eM enc P w base spare held fuel T [v]=O x):∃l,cl size R w v l:=by
 rcases open_slice hu h with⟨h0,_⟩|⟨a,len,cap,m,n,D,Q,q,hb,C,hm,s,hx,hi⟩;{obtain rfl:v=Z N 0 0:=(by simpa using h0);exact⟨[],dL _ _ _⟩}
 · obtain rfl:v=Z (O a) len cap:=(by simpa using q);have F:len<=m:=(by rw[s];split<;>omega);obtain⟨l,l1,l2⟩:=LN len (fun i(p:List ar×α)=>R w p.1 p.2/\p.1.length=size/\(∀z∈p.1,z.oneCell'=true)/\∀j,j<size ->w.cell? ((a.add (i*size)).add j)=p.1[j]?) fun i G=>by{obtain⟨c,g,K⟩:=hi i (by omega);obtain⟨x,h1,h2,h3⟩:=hR _ _ _ K;rw[hc]at g;obtain⟨_,_,k⟩:=World.cells?_some g;exact⟨(c,x),h1,h2,h3,fun j r=>k j r⟩};have d:∀e∈l.map (·.1),e.length=size/\∀z∈e,z.oneCell'=true:=by{intro e he;obtain⟨p,hp,rfl⟩:=fJ.1 he;obtain⟨i,hi⟩:=List.mem_iff_getElem?.1 hp;exact⟨(l2 i p hi).2.1,(l2 i p hi).2.2.1⟩};refine⟨l.map (·.2),l.map (·.1),d,⟨O a,cap,by simp[l1],by simp[l1];exact C,hm,(fun h=>by cases h),by rw[te d],fun h0=> ?_⟩,by simp,fun i e x he hx=> ?_⟩;{obtain⟨B,t⟩:∃p,l[0]? =O p:=⟨_,an (by simpa using h0)⟩;obtain⟨b,o,sp⟩:=a;have u:sp=N:=by{obtain⟨_,g1,_,g2⟩:=l2 0 B t;obtain⟨z,L⟩:∃z,B.1[0]? =O z:=⟨_,an (by omega)⟩;have:=g2 0 hs;rw[L,Nat.zero_mul,Addr.add_zero', Addr.add_zero']at this;exact cell_spot this};subst u;refine⟨b,o,rfl,fun j y hy=> ?_⟩;have r:j<l.length*size:=(by have:=(aA.1 hy).1;rw[te d]at this;simpa using this);have hq:j/size<l.length:=Nat.div_lt_of_lt_mul (by rw[kH];exact r);obtain⟨p,hp⟩:∃p,l[j/size]? =O p:=⟨_,an hq⟩;have hr:=jT j hs;have hd:j/size*size+j % size=j:=(by rw[kH];exact Nat.div_add_mod j size);have hf:=zY d (i:=j/size) (e:=p.1) (by rw[dT,hp];rfl) hr;rw[hd,hy]at hf;have f:=(l2 _ p hp).2.2.2 _ hr;rw[<-hf,add_add,wm,hd]at f;exact f}
   · rw[dT]at he hx;cases hp:l[i]? with
     |none=>rw[hp]at he;cases he
     |some p=>rw[hp]at he hx;cases he;cases hx;exact(l2 i p hp).1
theorem nu{P:Program}{T:bR}{fs:Array Field}(hu:P.underlying T=O (.struct fs)){fuel:Nat}{cs:List ar}{x:DataW H×List MemPlace}(h:eM enc P w base spare held fuel T cs=O x):cs.length=P.cellsOf T/\∃n,∀(i:Nat) (f:Field) (k:Nat),fs[i]? =O f ->P.cellsOf f.type=k ->∃y,eM enc P w base spare held n f.type ((cs.drop f.offset).take k)=O y:=by obtain⟨xs,n,_,_,hlen,b,hf⟩:=DataW.trod_struct hu h;refine⟨hlen,n,fun i f k hi hk=> ?_⟩;subst hk;have a:=(bP.1 hi).1;exact⟨xs[i]'(by omega),(hf i f hi).trans (an (by omega))⟩
theorem lK{cs p r:List ar}{a k:Nat}(e:(cs.drop a).take k=p)(h:cs.drop (a+k)=r):cs.drop a=p++r:=by rw[<-e,<-h,<-List.drop_drop,iv]
theorem iB{fuel:Nat}{cs:List ar}(h:∃x,eM enc ah w base spare held fuel 3 cs=O x):∃z,cs=[I J z]/\ee z:=by obtain⟨x,h⟩:=h;obtain⟨z,e,_,a⟩:=DataW.trod_int underlying3 h;exact⟨z,e,PJ a⟩
theorem Fk{fuel:Nat}{cs:List ar}(h:∃x,eM enc ah w base spare held fuel 4 cs=O x):∃b,cs=[Ri b]:=by obtain⟨x,h⟩:=h;obtain⟨b,e,_⟩:=DataW.trod_bool underlying4 h;exact⟨b,e⟩
theorem B'{α:Type}{size:Nat}{R:ai ->List ar ->α ->Prop}{v:ar}{l:List α}(h:cl size R w v l):v.oneCell'=true:=by obtain⟨a,c,rfl⟩:=cl.slice h;rfl
theorem tP{α:Type}{T E size fuel:Nat}(hu:Tryz.prog.underlying T=O (.slice E))(hc:Tryz.prog.cellsOf E=size)(hs:0<size){R:ai ->List ar ->α ->Prop}(hR:∀n a y,eM enc ah w base spare held n E a=O y ->∃x,R w a x/\a.length=size/\∀z∈a,z.oneCell'=true){cs:List ar}(b:cs.length=1){x:DataW H×List MemPlace}(h:eM enc ah w base spare held fuel T cs=O x):∃v l,cs=[v]/\cl size R w v l:=by obtain⟨v,rfl⟩:=List.length_eq_one_iff.1 b;obtain⟨l,b⟩:=LP hu hc hs hR h;exact⟨v,l,rfl,b⟩
theorem Pw{fuel:Nat}{cs:List ar}{x:DataW H×List MemPlace}(h:eM enc ah w base spare held fuel 129 cs=O x):∃r:Rf,PR w cs r/\cs.length=4/\∀z∈cs,z.oneCell'=true:=by obtain⟨d,n,hf⟩:=nu underlying129 h;rw[show Tryz.prog.cellsOf 129=4 by kernel_rfl]at d;obtain⟨z0,e0,w0⟩:=iB (hf 0 _ 1 A (by kernel_rfl));obtain⟨z1,e1,e⟩:=iB (hf 1 _ 1 A (by kernel_rfl));obtain⟨z2,e2,f⟩:=iB (hf 2 _ 1 A (by kernel_rfl));obtain⟨b,e3⟩:=Fk (hf 3 _ 1 A (by kernel_rfl));obtain rfl:cs=[I J z0,I J z1,I J z2,Ri b]:=(lK (a:=0) (k:=1) e0 (lK (a:=1) (k:=1) e1 (lK (a:=2) (k:=1) e2 (lK (a:=3) (k:=1) e3 (a8 (by omega))))));exact⟨⟨z0,z1,z2,b⟩,⟨rfl,w0,e,f⟩,rfl,by intro z c;simp at c;rcases c with rfl|rfl|rfl|rfl<;>rfl⟩
theorem OQ{fuel:Nat}{cs:List ar}{x:DataW H×List MemPlace}(h:eM enc ah w base spare held fuel 70 cs=O x):∃n sl l,cs=[I J n,sl]/\ee n/\oO w sl l:=by obtain⟨b,n,hf⟩:=nu underlying70 h;rw[show Tryz.prog.cellsOf 70=2 by kernel_rfl]at b;obtain⟨z0,e0,w0⟩:=iB (hf 0 _ 1 A (by kernel_rfl));obtain⟨c,h1⟩:=(hf 1 _ 1 A (by kernel_rfl));obtain⟨sl,l,e1,hm⟩:=tP underlying68 (size:=4) (by kernel_rfl) (by decide) (R:=PR) (fun _ _ _ h=>Pw h) (by rw[bL,dt,b];rfl) h1;exact⟨z0,sl,l,lK (a:=0) (k:=1) e0 (lK (a:=1) (k:=1) e1 (a8 (by omega))),w0,hm⟩
theorem PH{fuel:Nat}{cs:List ar}{x:DataW H×List MemPlace}(h:eM enc ah w base spare held fuel 30 cs=O x):∃a b,cs=[I J a,I J b]/\ee a/\ee b:=by obtain⟨c,n,hf⟩:=nu underlying30 h;rw[show Tryz.prog.cellsOf 30=2 by kernel_rfl]at c;obtain⟨z0,e0,w0⟩:=iB (hf 0 _ 1 A (by kernel_rfl));obtain⟨z1,e1,d⟩:=iB (hf 1 _ 1 A (by kernel_rfl));exact⟨z0,z1,lK (a:=0) (k:=1) e0 (lK (a:=1) (k:=1) e1 (a8 (by omega))),w0,d⟩
theorem rg_of{fuel:Nat}{cs:List ar}{x:DataW H×List MemPlace}(h:eM enc ah w base spare held fuel 72 cs=O x):∃g:Rg,cs=QU g/\K9 g:=by obtain⟨e,n,hf⟩:=nu underlying72 h;rw[show Tryz.prog.cellsOf 72=8 by kernel_rfl]at e;obtain⟨z0,e0,w0⟩:=iB (hf 0 _ 1 A (by kernel_rfl));obtain⟨z1,e1,f⟩:=iB (hf 1 _ 1 A (by kernel_rfl));obtain⟨z2,e2,i⟩:=iB (hf 2 _ 1 A (by kernel_rfl));obtain⟨z3,e3,w3⟩:=iB (hf 3 _ 1 A (by kernel_rfl));obtain⟨y4,h4⟩:=(hf 4 _ 2 A (by kernel_rfl));obtain⟨a4,b,e4,v4,j⟩:=PH h4;obtain⟨z5,c,l⟩:=iB (hf 5 _ 1 A (by kernel_rfl));obtain⟨o,d,m⟩:=iB (hf 6 _ 1 A (by kernel_rfl));exact⟨⟨z0,z1,z2,z3,a4,b,z5,o⟩,lK (a:=0) (k:=1) e0 (lK (a:=1) (k:=1) e1 (lK (a:=2) (k:=1) e2 (lK (a:=3) (k:=1) e3 (lK (a:=4) (k:=2) e4 (lK (a:=6) (k:=1) c (lK (a:=7) (k:=1) d (a8 (by omega)))))))),⟨w0,f,i,w3,v4,j,l,m⟩⟩
theorem PG{fuel:Nat}{cs:List ar}{x:DataW H×List MemPlace}(h:eM enc ah w base spare held fuel 143 cs=O x):∃t,R3 w cs t/\cs.length=3/\∀z∈cs,z.oneCell'=true:=by obtain⟨xs,m,_,_,c,d,hf⟩:=DataW.trod_array underlying143 h;rw[show Tryz.prog.cellsOf 143=3 by kernel_rfl]at c;rw[show Tryz.prog.cellsOf 3=1 by kernel_rfl]at hf;have hg:∀i,i<3 ->∃y,eM enc ah w base spare held m 3 ((cs.drop (i*1)).take 1)=O y:=fun i hi=>⟨xs[i]'(by omega),(hf i hi).trans (an (by omega))⟩;obtain⟨z0,e0,w0⟩:=iB (hg 0 (by omega));obtain⟨z1,e1,e⟩:=iB (hg 1 (by omega));obtain⟨z2,e2,f⟩:=iB (hg 2 (by omega));obtain rfl:cs=[I J z0,I J z1,I J z2]:=lK (a:=0) (k:=1) e0 (lK (a:=1) (k:=1) e1 (lK (a:=2) (k:=1) e2 (a8 (by omega))));exact⟨(z0,z1,z2),⟨rfl,w0,e,f⟩,rfl,by intro z b;simp at b;rcases b with rfl|rfl|rfl<;>rfl⟩
theorem Qb{fuel:Nat}{cs:List ar}{x:DataW H×List MemPlace}(h:eM enc ah w base spare held fuel 3 cs=O x):∃z,R1 w cs z/\cs.length=1/\∀z∈cs,z.oneCell'=true:=by obtain⟨z,rfl,b⟩:=iB ⟨_,h⟩;exact⟨z,⟨rfl,b⟩,rfl,by intro z a;simp at a;subst a;rfl⟩
theorem Px{fuel:Nat}{cs:List ar}{x:DataW H×List MemPlace}(h:eM enc ah w base spare held fuel 87 cs=O x):∃r:Rr,Oq w cs r/\cs.length=15/\∀z∈cs,z.oneCell'=true:=by obtain⟨b,n,hf⟩:=nu underlying87 h;rw[show Tryz.prog.cellsOf 87=15 by kernel_rfl]at b;obtain⟨z0,e0,w0⟩:=iB (hf 0 _ 1 A (by kernel_rfl));obtain⟨z1,e1,q⟩:=iB (hf 1 _ 1 A (by kernel_rfl));obtain⟨z2,e2,s⟩:=iB (hf 2 _ 1 A (by kernel_rfl));obtain⟨z3,e3,w3⟩:=iB (hf 3 _ 1 A (by kernel_rfl));obtain⟨y4,h4⟩:=(hf 4 _ 1 A (by kernel_rfl));obtain⟨s4,d,e4,m4⟩:=tP underlying85 (size:=3) (by kernel_rfl) (by decide) (R:=R3) (fun _ _ _ h=>PG h) (by rw[bL,dt,b];rfl) h4;obtain⟨y,m⟩:=(hf 5 _ 2 A (by kernel_rfl));obtain⟨f,p,e,i,t,m5⟩:=OQ m;obtain⟨y6,h6⟩:=(hf 6 _ 8 A (by kernel_rfl));obtain⟨g,j,u⟩:=rg_of h6;have hc:cs=tG ⟨z0,z1,z2,z3,d,f,e,g⟩ s4 p:=(lK (a:=0) (k:=1) e0 (lK (a:=1) (k:=1) e1 (lK (a:=2) (k:=1) e2 (lK (a:=3) (k:=1) e3 (lK (a:=4) (k:=1) e4 (lK (a:=5) (k:=2) i (lK (a:=7) (k:=8) j (a8 (by omega)))))))));have l:=B' m4;have o:=B' m5;exact⟨⟨z0,z1,z2,z3,d,f,e,g⟩,⟨_,_,hc,m4,m5,w0,q,s,w3,t,u⟩,b,by rw[hc];intro z c;simp[tG]at c;rcases c with rfl|rfl|rfl|rfl|rfl|rfl|rfl|rfl|rfl|rfl|rfl|rfl|rfl|rfl|rfl<;>first|rfl|assumption⟩
theorem Pq{fuel:Nat}{cs:List ar}{x:DataW H×List MemPlace}(h:eM enc ah w base spare held fuel 25 cs=O x):∃b,AV w (Rj cs.toArray) b:=by obtain⟨c,n,hf⟩:=nu underlying25 h;rw[show Tryz.prog.cellsOf 25=5 by kernel_rfl]at c;obtain⟨b0,e0⟩:=Fk (hf 0 _ 1 A (by kernel_rfl));obtain⟨z1,e1,e⟩:=iB (hf 1 _ 1 A (by kernel_rfl));obtain⟨z2,e2,f⟩:=iB (hf 2 _ 1 A (by kernel_rfl));obtain⟨y3,h3⟩:=(hf 3 _ 1 A (by kernel_rfl));obtain⟨s3,l3,e3,m3⟩:=tP underlying22 (size:=15) (by kernel_rfl) (by decide) (R:=Oq) (fun _ _ _ h=>Px h) (by rw[bL,dt,c];rfl) h3;obtain⟨y4,h4⟩:=(hf 4 _ 1 A (by kernel_rfl));obtain⟨s4,d,e4,m4⟩:=tP underlying23 (size:=1) (by kernel_rfl) (by decide) (R:=R1) (fun _ _ _ h=>Qb h) (by rw[bL,dt,c];rfl) h4;obtain⟨sa,sc,rfl⟩:=cl.slice m3;obtain⟨ta,tc,rfl⟩:=cl.slice m4;obtain rfl:cs=[Ri b0,I J z1,I J z2,Z sa l3.length sc,Z ta d.length tc]:=(lK (a:=0) (k:=1) e0 (lK (a:=1) (k:=1) e1 (lK (a:=2) (k:=1) e2 (lK (a:=3) (k:=1) e3 (lK (a:=4) (k:=1) e4 (a8 (by omega)))))));exact⟨⟨b0,z1,z2,l3,d⟩,sa,sc,ta,tc,rfl,m3,m4,e,f⟩
theorem Ao{r:Reach}{b0:Nat}{v:ar}{d:DataW H}{p:List MemPlace}(hv:Value.okWide ah w r b0 25 v)(h:DataW.Trod enc ah w base spare held 25 v d p):∃b,AV w v b:=by obtain⟨cs,rfl,_⟩:=okWide_struct underlying25 hv;obtain⟨fuel,hf⟩:=h;exact Pq (cs:=cs.toList) hf
end
end
section
open Go.RowKit Mor
section
variable {F:Nat ->Prop} {w0 W:ai} {L:List cM}
theorem B_{α:Type}{size g:Nat}{R:ai ->List ar ->α ->Prop}{T:bR}{es:List (List ar)}{l:List α}(hg:W.heap[g]? =O (Ra es.flatten.toArray T (0,0)))(h1:∀e∈es,e.length=size/\∀z∈e,z.oneCell'=true)(a:es.length=l.length)(hn:l.length<=1000000)(hR:∀(i:Nat) (e:List ar) (x:α),es[i]? =O e ->l[i]? =O x ->R W e x):cl size R W (Z (O ⟨g,0,N⟩) l.length l.length) l:=by refine⟨es,h1, ?_,a,hR⟩;have:=FU (size:=size) (n:=l.length) hg (by rw[dE,te h1,a]) (by unfold maxLen;omega);rw[a];simpa using this
class Ge(L:List cM)(b off:Nat)(cs:outParam (List ar)):Prop where
 ok:∃xs T,eH b (Ra xs T (0,0))∈L/\∀j y,cs[j]? =O y ->xs[off+j]? =O y
instance QX{b:Nat}{x y:List ar}{T:bR}{L:List cM}:Ge (eH b (Ra (x++y).toArray T (0,0))::L) b 0 x:=⟨_,T,df,fun j z a=>by rw[bC,List.getElem?_toArray,bS (aA.1 a).1,a]⟩
instance QY{b:Nat}{r:Rc}{v f:ar}{y:List ar}{T:bR}{L:List cM}:Ge (eH b (Ra (aL r v f++y).toArray T (0,0))::L) b 18 y:=⟨_,T,df,fun j z a=>by have h:(aL r v f).length=18:=rfl;rw[List.getElem?_toArray,bZ (by omega),h,Nat.add_sub_cancel_left,a]⟩
instance(priority:=low)QZ{b off:Nat}{cs:List ar}{r:cM}{L:List cM}[h:Ge L b off cs]:Ge (r::L) b off cs:=by obtain⟨xs,T,h1,h2⟩:=h.ok;exact⟨xs,T,cE _ h1,h2⟩
theorem uC{P:Program}{ops:Array Oper}{o:Oper}{a:Act}{Q:Exit ->Act ->ai ->Prop}{i:Nat}{r:tV}{T:bR}{x:Operand}{g off:Nat}{cs:List ar}{fs:Array _}(h0:ops[i]? =O o)(ho:o.op=.load T x)(hw:Region.wanted o (yielded ops a.tmps)=true)(hx:a.eval x=.pointer (O ⟨g,off,N⟩))[k:Ge L g off cs](hu:P.underlying T=O (.struct fs))(hi:(P.info? T).map (·.size)=O cs.length)(h:ma P ops Q (fun W=>f_ W w0 F L) r (a.put o.dst (Rj cs.toArray)) W):ma P ops Q (fun W=>f_ W w0 F L) (.R i r) a W:=by refine⟨o,_,h0,yieldsIf_load_mid hw T x ho g off hx cs _ (fun W h j y c=> ?_) hu A hi,h⟩;obtain⟨xs,b,h1,h2⟩:=k.ok;have hb:W.heap[g]? =O (Ra xs b (0,0)):=(h.st.mem _ h1).1.hold;simp[World.cell?,hb,h2 j y c]
theorem O'{P:Program}{ops:Array Oper}{rest:List Oper}{o:Oper}{a:Act}{Q:Exit ->Act ->ai ->Prop}{T:bR}{x:Operand}{g off:Nat}{cs:List ar}{fs:Array _}(ho:o.op=.load T x)(hw:Region.wanted o (yielded ops a.tmps)=true)(hx:a.eval x=.pointer (O ⟨g,off,N⟩))[h:f_ W w0 F L][k:Ge L g off cs](hu:P.underlying T=O (.struct fs))(hi:(P.info? T).map (·.size)=O cs.length)(hK:wpList P ops Q rest (a.put o.dst (Rj cs.toArray)) W):wpList P ops Q (o::rest) a W:=by refine kE T x ho hw g off hx cs _ (fun j y c=> ?_) hu A hi hK;obtain⟨xs,b,h1,h2⟩:=k.ok;have hb:W.heap[g]? =O (Ra xs b (0,0)):=(h.st.mem _ h1).1.hold;simp[World.cell?,hb,h2 j y c]
end
theorem Cl(r:Rc)(v f:ar):(Tryz.prog.info? 53).map (·.size)=O (aL r v f).length:=e_
theorem kM{w W W':ai}[h:jd w W](b:ay W.heap.size W W') :jd w W':=⟨h.b.trans (b.mono h.b.size)⟩
theorem m6{P:Program}{F:Nat ->Prop}{w0 W:ai}{L:List cM}{f:FuncId}{args:Array ar}{R:Ending ->ai ->Prop}{v:Ending}(c:aJ P f args W fun e w'=>e=v/\ay W.heap.size W w')[h:f_ W w0 F L](k:∀w', f_ w' w0 F L ->ay W.heap.size W w' ->R v w') :aJ P f args W R:=
 c.mono fun _ w'⟨he,hb⟩=>he▸k w' (Di hb) hb
section
variable {W w0:ai} {F:Nat ->Prop} {L:List cM} {B:Nat} {aE aF:Addr}
theorem wv{g:Nat}{T:bR}[h:f_ W w0 F L][k:qd L g (Ra #[I J 1,I J 5,U ⟨#[]⟩,Z N 0 0] T (0,0))]:qg W (Z (O ⟨g,0,N⟩) 1 1) [OJ]:=
 B_ (size:=4) (R:=IX) (l:=[OJ]) (es:=[[I J 1,I J 5,U ⟨#[]⟩,Z N 0 0]]) (T:=T) kR (by intro e he;simp at he;subst he;exact⟨rfl,by decide⟩) A (by simp) (by
  intro i e x he hx;match i,he,hx with
  |0,he,hx=>simp at he hx;subst he;subst hx;exact⟨_,rfl, .inl ⟨rfl,rfl⟩,by decide,by simp[OJ]⟩
  |i+1,he,hx=>simp at he)
theorem nF{v:ar}(h:qg W v [OJ]):zy W oQ v (Z N 0 0):=⟨h,dL _ _ _,by unfold Gf AR;decide⟩
theorem nG(W:ai):zy W sL (Z N 0 0) (Z N 0 0):=⟨dL _ _ _,dL _ _ _,by unfold Gf AR;decide⟩
theorem uN{g:Nat}{T:bR}{r q:Rc}{a b:Option Addr}{n c m d:Nat}[h:f_ W w0 F L][k:qd L g (Ra (aL r (Z a n c) (Z N 0 0)++aL q (Z b m d) (Z N 0 0)).toArray T (0,0))](h1:zy W r (Z a n c) (Z N 0 0))(h2:zy W q (Z b m d) (Z N 0 0)):jz W (Z (O ⟨g,0,N⟩) 2 2) [r,q]:=by
 have hb:W.heap[g]? =O (Ra ([aL r (Z a n c) (Z N 0 0),aL q (Z b m d) (Z N 0 0)]:List (List ar)).flatten.toArray T (0,0)):=by{have:=(kR:W.heap[g]? =O (Ra (aL r (Z a n c) (Z N 0 0)++aL q (Z b m d) (Z N 0 0)).toArray T (0,0)));rw[this];simp};refine B_ (size:=18) (R:=Gd) (l:=[r,q]) hb (by intro e he;simp at he;rcases he with rfl|rfl<;>exact⟨rfl,At⟩) A (by simp) ?_;intro i e x he hx;match i,he,hx with
 |0,he,hx=>simp at he hx;subst he;subst hx;exact⟨_,_,_,_,_,_,rfl,h1.1,h1.2.1,h1.2.2⟩
 |1,he,hx=>simp at he hx;subst he;subst hx;exact⟨_,_,_,_,_,_,rfl,h2.1,h2.2.1,h2.2.2⟩
 |i+2,he,hx=>simp at he
theorem D6(W:ai):lJ W (Z N 0 0) []:=by refine⟨N,0,rfl,av _,by simp,(fun _=>rfl),by simp,fun h=> ?_⟩;simp at h
variable (he:Env aE aF B W) {a:Addr} {c:Nat}
include he
theorem P0(hR:jz W (Z (O a) 2 c) [oQ,sL]):aJ ah 14 #[Rj #[I J 1,I J 3,I J 9,Z (O a) 2 c,Z N 0 0]] W fun e w'=>e=Rh (Rx #[U (bs (aT vM)),I J 0])/\ay W.heap.size W w':=by have:=pz vM _ N c 0 W he hR (D6 W) ⟨by decide,by decide⟩;rw[pf.1]at this;exact this
theorem PX:aJ ah 27 #[U (bs (aT vM))] W fun e w'=>ay W.heap.size W w'/\∃a rc va vc,e=Rh (Rx #[Rj #[I J 1,I J 3,I J 9,Z a 2 rc,Z va 0 vc],I J 0])/\jz w' (Z a 2 rc) [oQ,sL]/\lJ w' (Z va 0 vc) []:=by have:=nM (s:=bs (aT vM)) (by rw[fx];have:=pf.2.2.2.1;omega) W he;rw[Dv.1]at this;exact this
theorem PY:aJ ah 27 #[U (bs (aT zG))] W fun e w'=>ay W.heap.size W w'/\∃a rc va vc,e=Rh (Rx #[Rj #[I J 2,I J 3,I J 9,Z a 2 rc,Z va 2 vc],I J 0])/\jz w' (Z a 2 rc) [sL,oQ]/\lJ w' (Z va 2 vc) [1,3]:=by have:=nM (s:=bs (aT zG)) (by rw[fx];have:=pf.2.2.2.2;omega) W he;rw[Dv.2.1]at this;exact this
theorem PZ:aJ ah 27 #[U (bs (aT vM)++⟨#[97]⟩)] W fun e w'=>ay W.heap.size W w'/\e=Rh (Rx #[Rj #[I J 0,I J 0,I J 0,Z N 0 0,Z N 0 0],I J 110]):=by have e:bs (aT vM)++⟨#[97]⟩=bs (aT vM++[97]):=Nw _ [97];have:=nM (s:=bs (aT vM++[97])) (by rw[fx,aw];have:=pf.2.2.2.1;simp;omega) W he;rw[Dv.2.2]at this;rw[e];exact this
theorem P7(hR:jz W (Z (O a) 2 c) [sL,oQ]){d:Addr}{m:Nat}(b:lJ W (Z (O d) 2 m) [1,3]):aJ ah 14 #[Rj #[I J 2,I J 3,I J 9,Z (O a) 2 c,Z (O d) 2 m]] W fun e w'=>e=Rh (Rx #[U (bs (aT zG)),I J 0])/\ay W.heap.size W w':=by have:=pz zG _ _ c m W he hR b ⟨by decide,by decide⟩;rw[pf.2.1]at this;exact this
theorem P8:aJ ah 14 #[Rj #[I J 1,I J 1,I J 1,Z N 0 0,Z N 0 0]] W fun e w'=>e=Rh (Rx #[U ⟨#[]⟩,I J 110])/\ay W.heap.size W w':=by have:=pz ⟨1,1,1,[],[]⟩ N N 0 0 W he (dL _ _ _) (D6 W) ⟨by decide,by decide⟩;rw[pf.2.2.1]at this;exact this
theorem PA:aJ ah 20 #[Rj (aL sL (Z N 0 0) (Z N 0 0)).toArray] W fun e w'=>e=Rh (Rx #[I J 7,I J 0])/\ay W.heap.size W w':=by
 have:=CF sL N N 0 0 0 0 W he (nG W);have h7:=tZ.2.2.2.1;have hs:=tZ.2.1;unfold fC at h7;cases hq:jA sL with
 |none=>rw[hq]at hs;cases hs
 |some l=>rw[hq]at this h7;simp only[kI]at h7;simp only[AG,h7]at this;exact this
end
section
variable {W:ai} {B:Nat} {aE aF:Addr}
theorem Oa{a va b vb:Option Addr}{rc vc rd c:Nat}(h1:jz W (Z a 2 rc) [oQ,sL])(h2:lJ W (Z va 0 vc) [])(h3:jz W (Z b 2 rd) [oQ,sL])(h4:lJ W (Z vb 0 c) []):aJ ah 18 #[Rj #[I J 1,I J 3,I J 9,Z a 2 rc,Z va 0 vc],Rj #[I J 1,I J 3,I J 9,Z b 2 rd,Z vb 0 c]] W fun e w'=>e=Rh (Ri true)/\ay W.heap.size W w':=by have:=uG vM vM a va b vb rc vc rd c W h1 h2 h3 h4;rw[sN.1]at this;exact this
theorem Od{a va b vb:Option Addr}{rc vc rd c:Nat}(h1:jz W (Z a 2 rc) [sL,oQ])(h2:lJ W (Z va 2 vc) [1,3])(h3:jz W (Z b 2 rd) [sL,oQ])(h4:lJ W (Z vb 2 c) [1,3]):aJ ah 18 #[Rj #[I J 2,I J 3,I J 9,Z a 2 rc,Z va 2 vc],Rj #[I J 2,I J 3,I J 9,Z b 2 rd,Z vb 2 c]] W fun e w'=>e=Rh (Ri true)/\ay W.heap.size W w':=by have:=uG zG zG a va b vb rc vc rd c W h1 h2 h3 h4;rw[sN.2.1]at this;exact this
theorem Oc{a va b vb:Option Addr}{rc vc rd c:Nat}(h1:jz W (Z a 2 rc) [oQ,sL])(h2:lJ W (Z va 0 vc) [])(h3:jz W (Z b 2 rd) [sL,oQ])(h4:lJ W (Z vb 2 c) [1,3]):aJ ah 18 #[Rj #[I J 1,I J 3,I J 9,Z a 2 rc,Z va 0 vc],Rj #[I J 2,I J 3,I J 9,Z b 2 rd,Z vb 2 c]] W fun e w'=>e=Rh (Ri false)/\ay W.heap.size W w':=by have:=uG vM zG a va b vb rc vc rd c W h1 h2 h3 h4;rw[sN.2.2.1]at this;exact this
theorem Oe{v u:ar}(h1:zy W oQ v (Z N 0 0)){f:ar}(h2:zy W oQ u f):aJ ah 24 #[Rj (aL oQ v (Z N 0 0)).toArray,Rj (aL oQ u f).toArray] W fun e w'=>e=Rh (Ri true)/\ay W.heap.size W w':=by have:=oD oQ oQ _ _ _ _ W h1 h2;rw[sN.2.2.2.1]at this;exact this
theorem Of{v:ar}(h1:zy W oQ v (Z N 0 0)):aJ ah 24 #[Rj (aL oQ v (Z N 0 0)).toArray,Rj (aL sL (Z N 0 0) (Z N 0 0)).toArray] W fun e w'=>e=Rh (Ri false)/\ay W.heap.size W w':=by have:=oD oQ sL _ _ _ _ W h1 (nG W);rw[sN.2.2.2.2]at this;exact this
variable (he:Env aE aF B W)
include he
theorem OY{a:Option Addr}{n c:Nat}(h:zy W oQ (Z a n c) (Z N 0 0))(b:zv oQ W):aJ ah 22 #[Rj (aL oQ (Z a n c) (Z N 0 0)).toArray] W fun e w'=>e=Rh (U ⟨#[111,55]⟩)/\ay W.heap.size W w':=by have:=Ac oQ a N n c 0 0 W he h fun _=>b;rw[Rs tZ.1,I8.1]at this;exact this
theorem OZ:aJ ah 22 #[Rj (aL sL (Z N 0 0) (Z N 0 0)).toArray] W fun e w'=>e=Rh (U ⟨#[114,104,111,109,101]⟩)/\ay W.heap.size W w':=by have:=Ac sL N N 0 0 0 0 W he (nG W) fun _=>⟨fun h=>absurd h (by decide),fun h=>absurd h (by decide),fun h=>absurd h (by decide)⟩;rw[Rs tZ.2.1,I8.2]at this;exact this
theorem O1:aJ ah 22 #[Rj (aL vm (Z N 0 0) (Z N 0 0)).toArray] W fun e w'=>e=Rh (U ⟨#[]⟩)/\ay W.heap.size W w':=by
 have:=Ac vm N N 0 0 0 0 W he ⟨dL _ _ _,dL _ _ _,PC⟩ fun h=>by rw[tZ.2.2.1]at h;cases h
 rw[Rq (by rw[tZ.2.2.1];decide)]at this;exact this
theorem N9{a va:Option Addr}{rc vc:Nat}(h1:jz W (Z a 2 rc) [oQ,sL])(h2:lJ W (Z va 0 vc) []):aJ ah 16 #[Rj #[I J 1,I J 3,I J 9,Z a 2 rc,Z va 0 vc]] W fun e w'=>e=Rh (Ri true)/\ay W.heap.size W w':=by have:=lW vM a va rc vc W he h1 h2;rw[sM.1]at this;exact this
theorem N_{a va:Option Addr}{rc vc:Nat}(h1:jz W (Z a 2 rc) [sL,oQ])(h2:lJ W (Z va 2 vc) [1,3]):aJ ah 16 #[Rj #[I J 2,I J 3,I J 9,Z a 2 rc,Z va 2 vc]] W fun e w'=>e=Rh (Ri true)/\ay W.heap.size W w':=by have:=lW zG a va rc vc W he h1 h2;rw[sM.2.1]at this;exact this
theorem MA:aJ ah 16 #[Rj #[I J 2,I J 3,I J 9,Z N 0 0,Z N 0 0]] W fun e w'=>e=Rh (Ri true)/\ay W.heap.size W w':=by have:=lW ⟨2,3,9,[],[]⟩ N N 0 0 W he (dL _ _ _) (D6 W);rw[sM.2.2.1]at this;exact this
theorem N8:aJ ah 16 #[Rj #[I J 0,I J 0,I J 0,Z N 0 0,Z N 0 0]] W fun e w'=>e=Rh (Ri false)/\ay W.heap.size W w':=by have:=lW Qh N N 0 0 W he (dL _ _ _) (D6 W);rw[sM.2.2.2.1]at this;exact this
omit he in
theorem zv.below {r:Rc} {w w':ai} (h:zv r w) (hb:ay w.heap.size w w') :zv r w':=⟨fun e=>(h.1 e).below hb,fun e=>⟨(h.2.1 e).1.below hb,(h.2.1 e).2.below hb⟩,fun e=>(h.2.2 e).below hb⟩
end
theorem NZ{ops:Array Oper}{i n:Nat}{r:tV}{listed:Array Bool}(h:(decide (0<n)&&(Region.ready .any ops listed).contains i&&Region.free .any ops listed i)=true)(h2:r.ok ops (n - 1) (listed.setIfInBounds i true)=true):(tV.R i r).ok ops n listed=true:=by unfold tV.ok;rw[h,h2];rfl
theorem Pj{ops:Array Oper}{i n:Nat}{s:tV}{listed:Array Bool}(h:(decide (0<n)&&decide (Region.ready .any ops listed=[i]))=true)(h2:s.ok ops (n - 1) (listed.setIfInBounds i true)=true):(tV.all [i] fun _=>s).ok ops n listed=true:=by unfold tV.ok;rw[h];simp[h2]
theorem Nu(W:ai):(zeroValue 38).run ah W=.ok (Rj #[I J 0,I J 0,I J 0,Z N 0 0,Z N 0 0]) W:=by kernel_rfl
theorem t_(w:ai){B:Nat}{aE aF:Addr}(he:Env aE aF B w)(hI:zv oQ w):aJ ah 11 #[] w fun e w'=>e=Rh (Ri true)/\ay w.heap.size w w':=by
 have _:=uJ w;have f:=M he;have HI:=M hI;clear he hI;obtain⟨i0,z0,o,x,hz1,hz2,hz3⟩:=kg.i;obtain⟨i1,z1,q,r,s,t,S⟩:=ou.i;have al:¬9223372036854775807<(bs (aT vM)).size+1:=by rw[fx];have:=pf.2.2.2.1;omega
 have k:=M (ei kg.u (ei o (ei x (ei hz1 hz2))));have m:=M (ei ou.u (ei q (ei r (ei s t))));clear o x hz1 hz2 hz3 q r s t S;go_in
 go_wp2_with(first
  |((with_reducible refine A5 (.build 53 #[(0,_),(1,_)]) A ?_);refine gV _ _ A A (aL oQ (Z (O ⟨w.heap.size,0,N⟩) 1 1) (Z N 0 0)).toArray (fun _=>by kernel_rfl) ?_)
  |((with_reducible refine A5 (.build 53 #[(0,_),(4,_),(2,_)]) A ?_);refine gV _ _ A A (aL sL (Z N 0 0) (Z N 0 0)).toArray (fun _=>by kernel_rfl) ?_)
  |((with_reducible refine A5 (.buildSlice 36 2 _) A ?_);refine wpList_buildSlice A _ _ _ _ A (aL oQ (Z (O ⟨w.heap.size,0,N⟩) 1 1) (Z N 0 0)++aL sL (Z N 0 0) (Z N 0 0)).toArray i0 z0 k.out.1 k.out.2.1 k.out.2.2.1 (by rw[k.out.2.2.2.1];decide) (by rw[k.out.2.2.2.1];decide) (by rw[k.out.2.2.2.1];kernel_rfl) ?_)
  |(with_reducible refine O' (T:=53) (by with_reducible rfl) A A ef (Cl _ _ _) ?_)
  |(go_at_call 14;(with_reducible refine m6 (P0 (f.out.below cW) (uN (nF wv) (nG _))) fun w1 _ _=> ?_))
  |(go_at_call 27;first
    |((with_reducible refine(PX (f.out.below cW)).mono ?_);rintro e w3⟨b3,ra,rc,va,vc,rfl,hR,n⟩;have _:=Di b3;have _:jd w3 w3:=OM;obtain⟨X,qo,qe,ea,⟨xa,xn,xc,ya,yn,yc,rfl,hx1,hx2,hx3⟩, -,l⟩:=cl.at hR (i:=0) A;cases ea;have G:=M hR;have z:=M n;have HX:=M l;have L:=M (show X<w3.heap.size from fD (l 0 _ A));have P:=M (show zy w3 oQ _ _ from⟨hx1,hx2,hx3⟩);clear hR n l hx1 hx2 hx3 b3)
    |((with_reducible refine(PZ (f.out.below cW)).mono ?_);rintro e w5⟨Q,rfl⟩;have _:=Di Q;have _:=kM (w:=w3) Q;clear Q))
  |(go_at_call 20;(with_reducible refine m6 (PA (f.out.below cW)) fun w4 _ hb=> ?_);have _:=kM (w:=w3) hb;clear hb))
 apply PW (F:=ej) (w0:=w) (u:=w3)
 case' h1=>
  intro C
  go_wp2_with(first
   |((with_reducible refine atR ?_);refine Fa (.R 0 (.R 1 (.R 2 (.R 3 (.R 4 (.R 5 (.R 6 (.R 7 (.all [8,9,11] fun i=>if i=8 then .all [9,11] (fun i=>if i=9 then .R 10 (.all [11] fun _=>(.all [12] fun _=>.done))else .all [9] fun _=>.R 10 (.all [12] fun _=>.done))else if i=9 then .all [8,11] (fun i=>if i=8 then .R 10 (.all [11] fun _=>(.all [12] fun _=>.done))else .all [8] fun _=>.R 10 (.all [12] fun _=>.done))else .all [8,9] (fun i=>if i=8 then .all [9] (fun _=>.R 10 (.all [12] fun _=>.done))else .all [8] fun _=>.R 10 (.all [12] fun _=>.done))))))))))) (by kernel_rfl) (by kernel_rfl) (fun _ _ _ _ _ h=>h) ?_)
   |((with_reducible refine Qg ?_);first
     |(refine uC (T:=53) A A A A ef (Cl _ _ _) ?_;go_simp)
     |(refine mP A A (fun W _=>by go_simp;try with_reducible rfl) ?_;go_simp)
     |refine sj ?_
     |refine OG ?_ ?_
     |refine PU ?_ ?_ ?_)
   |((with_reducible refine Nt (i:=12) ?_);first
     |exact C Y V D a inferInstance inferInstance c
     |exact C Y V D a (xG (.swap _ _ _)) inferInstance c
     |exact C Y V D a (xG (.cons _ (.swap _ _ _))) inferInstance c
     |exact C Y V D a (xG ((List.Perm.swap _ _ _).trans (.cons _ (.swap _ _ _)))) inferInstance c
     |exact C Y V D a (xG ((List.Perm.cons _ (.swap _ _ _)).trans (.swap _ _ _))) inferInstance c
     |exact C Y V D a (xG ((List.Perm.cons _ (.swap _ _ _)).trans ((List.Perm.swap _ _ _).trans (.cons _ (.swap _ _ _))))) inferInstance c)
   |((with_reducible refine Nt (i:=8) ?_);refine Ja (i:=8) (aL sL (Z N 0 0) (Z N 0 0)++aL oQ (Z (O ⟨w.heap.size,0,N⟩) 1 1) (Z N 0 0)).toArray i0 z0 A A A k.out.1 k.out.2.1 k.out.2.2.1 (by rw[k.out.2.2.2.1];decide) (by rw[k.out.2.2.2.1];decide) (by rw[k.out.2.2.2.1];kernel_rfl) fun Y a _ _ hb=> ?_;have _:=kM (w:=w3) hb;clear hb;go_simp)
   |((with_reducible refine Nt (i:=9) ?_);refine Ja (i:=9) #[I J 1,I J 3] i1 z1 A A A m.out.1 m.out.2.1 m.out.2.2.1 (by rw[m.out.2.2.2.1];decide) (by rw[m.out.2.2.2.1];decide) (by rw[m.out.2.2.2.1];kernel_rfl) fun V a _ _ hb=> ?_;have _:=kM (w:=w3) hb;clear hb;go_simp)
   |((with_reducible refine Nt (i:=11) ?_);refine I5 (i:=11) A A A Nu fun D a hD _ hb=> ?_;have c:w3.heap.size<=D:=hD▸(jd.b (w:=w3)).size;have _:=kM (w:=w3) hb;clear hb hD;go_simp))
 case h2=>
 as_aux_lemma=>
  intro Y V D a _ _ c
  refine KA (T:=38) (g:=D) (cs:= #[I J 2,I J 3,I J 9,Z (O ⟨Y,0,N⟩) 2 2,Z (O ⟨V,0,N⟩) 2 2]) A A A A A (by kernel_rfl) (by rfl) (by kernel_rfl) fun w5 _ hc=> ?_
  have _:=Nv (u:=w3) hc c
  clear hc
  go_simp
  refine Jo ?_
  go_wp2_with(first
   |(go_at_call 14;first
     |((with_reducible refine m6 (P7 (f.out.below cW) (uN (nG _) (nF wv)) JI) fun w6 _ hb=> ?_);have _:=kM (w:=w3) hb;clear hb)
     |((with_reducible refine m6 (P8 (f.out.below cW)) fun w8 _ hb=> ?_);have _:=kM (w:=w3) hb;have _:=kM (w:=d) hb;clear hb))
   |(go_at_call 27;(with_reducible refine(PY (f.out.below cW)).mono ?_);rintro e d⟨R,rd,aG,vd,aH,rfl,hR,n⟩;have _:=Di R;have _:=kM (w:=w3) R;have _:jd d d:=OM;have H:=M hR;have E:=M n;clear hR n R))
  as_aux_lemma=>
   refine Fa (.R 0 (.R 1 (.R 2 (.R 3 (.R 4 (.R 5 (.R 6 (.R 7 (.R 8 (.all [9] fun _=>.R 10 (.R 11 (.R 12 (.R 13 (.R 14 (.R 15 (.R 16 (.R 17 (.R 18 (.R 19 (.R 20 (.R 21 (.R 22 (.R 23 (.R 24 (.R 25 (.R 26 (.R 27 (.all [28] fun _=>.R 29 (.R 30 (.R 31 (.R 32 (.R 33 (.R 34 (.R 35 (.all [36] fun _=>.R 37 (.R 38 (.R 39 (.R 40 (.all [41] fun _=>.R 42 (.R 43 (.R 44 (.R 45 (.all [46] fun _=>.R 47 (.R 48 (.R 49 (.all [50] fun _=>.R 51 (.R 52 (.R 53 (.all [54] fun _=>.R 55 (.R 56 (.R 57 (.all [58] fun _=>.R 59 (.R 60 (.R 61 (.R 62 (.R 63 (.R 64 (.R 65 (.R 66 (.R 67 (.R 68 (.R 69 (.R 70 (.R 71 (.all [72] fun _=>.R 73 (.R 74 (.R 75 (.R 76 (.all [77] fun _=>.R 78 (.R 79 (.R 80 (.R 81 (.R 82 (.R 83 (.R 84 (.R 85 (.R 86 (.R 87 (.R 88 (.R 89 (.R 90 (.R 91 (.all [92] fun _=>.all [93] fun _=>.R 94 (.R 95 (.R 96 (.R 97 (.R 98 (.R 99 (.R 100 (.R 101 (.R 102 (.R 103 (.all [104] fun _=>.R 105 (.R 106 (.R 107 (.done)))))))))))))))))))))))))))))))))))))))))))))))))))))))))))))))))))))))))))))))))))))))))))))))) (by kernel_rfl) ?_ (fun _ _ _ _ _ h=>h) ?_
   · unfold Og;refine kq.2 ⟨by as_aux_lemma=>kernel_rfl, ?_⟩;(repeat' (first|(with_reducible refine NZ ?_ ?_)|(with_reducible refine Pj ?_ ?_)));all_goals as_aux_lemma=>kernel_rfl
   iterate 9
    refine mP A A (fun W _=>by go_simp;try with_reducible rfl) ?_;go_simp
   refine sj ?_
   refine Bl A fun K hK=> ?_
   go_simp
   refine m6 (Oa (uN (g:=w.heap.size+1) (nF (wv (g:=w.heap.size))) (nG _)) (D6 _) (jz.below G.out (jd.b (w:=w3))) (z.out.below (jd.b (w:=w3)))) fun a _ hb=> ?_
   have _:=kM (w:=w3) hb
   have _:=kM (w:=d) hb
   clear hb
   refine hK _ _ fH ?_
   clear hK K
   go_simp
   as_aux_lemma=>
    iterate 17
     refine mP A A (fun W _=>by go_simp;try with_reducible rfl) ?_;go_simp
    refine uC (T:=53) (g:=w.heap.size+1) (off:=0) A A A A ef (Cl _ _ _) ?_
    go_simp
    refine sj ?_
    refine Bl A fun K hK=> ?_
    go_simp
    refine m6 (OY (f.out.below cW) (nF (wv (g:=w.heap.size))) (HI.out.below cW)) fun a _ hb=> ?_
    have _:=kM (w:=w3) hb
    have _:=kM (w:=d) hb
    clear hb
    refine hK _ _ fH ?_
    clear hK K
    go_simp
    as_aux_lemma=>
     iterate 6
      refine mP A A (fun W _=>by go_simp;try with_reducible rfl) ?_;go_simp
     refine uC (T:=53) (g:=w.heap.size+1) (off:=18) A A A A ef (Cl _ _ _) ?_
     go_simp
     refine sj ?_
     refine Bl A fun K hK=> ?_
     go_simp
     refine m6 (OZ (f.out.below cW)) fun a _ hb=> ?_
     have _:=kM (w:=w3) hb
     have _:=kM (w:=d) hb
     clear hb
     refine hK _ _ fH ?_
     clear hK K
     go_simp
     as_aux_lemma=>
      iterate 4
       refine mP A A (fun W _=>by go_simp;try with_reducible rfl) ?_;go_simp
      refine sj ?_
      refine Bl A fun K hK=> ?_
      go_simp
      refine m6 (O1 (f.out.below cW)) fun a _ hb=> ?_
      have _:=kM (w:=w3) hb
      have _:=kM (w:=d) hb
      clear hb
      refine hK _ _ fH ?_
      clear hK K
      go_simp
      as_aux_lemma=>
       iterate 4
        refine mP A A (fun W _=>by go_simp;try with_reducible rfl) ?_;go_simp
       refine sj ?_
       refine Bl A fun K hK=> ?_
       go_simp
       refine m6 (N9 (f.out.below cW) (uN (g:=w.heap.size+1) (nF (wv (g:=w.heap.size))) (nG _)) (D6 _)) fun a _ hb=> ?_
       have _:=kM (w:=w3) hb
       have _:=kM (w:=d) hb
       clear hb
       refine hK _ _ fH ?_
       clear hK K
       go_simp
       as_aux_lemma=>
        iterate 3
         refine mP A A (fun W _=>by go_simp;try with_reducible rfl) ?_;go_simp
        refine sj ?_
        refine Bl A fun K hK=> ?_
        go_simp
        refine m6 (N_ (f.out.below cW) (uN (g:=Y) (nG _) (nF (wv (g:=w.heap.size)))) (JI (g:=V))) fun a _ hb=> ?_
        have _:=kM (w:=w3) hb
        have _:=kM (w:=d) hb
        clear hb
        refine hK _ _ fH ?_
        clear hK K
        go_simp
        as_aux_lemma=>
         iterate 3
          refine mP A A (fun W _=>by go_simp;try with_reducible rfl) ?_;go_simp
         refine sj ?_
         refine Bl A fun K hK=> ?_
         go_simp
         refine m6 (MA (f.out.below cW)) fun a _ hb=> ?_
         have _:=kM (w:=w3) hb
         have _:=kM (w:=d) hb
         clear hb
         refine hK _ _ fH ?_
         clear hK K
         go_simp
         as_aux_lemma=>
          iterate 3
           refine mP A A (fun W _=>by go_simp;try with_reducible rfl) ?_;go_simp
          refine sj ?_
          refine Bl A fun K hK=> ?_
          go_simp
          refine m6 (N8 (f.out.below cW)) fun a _ hb=> ?_
          have _:=kM (w:=w3) hb
          have _:=kM (w:=d) hb
          clear hb
          refine hK _ _ fH ?_
          clear hK K
          go_simp
          as_aux_lemma=>
           iterate 13
            refine mP A A (fun W _=>by go_simp;try with_reducible rfl) ?_;go_simp
           refine sj ?_
           refine Bl A fun K hK=> ?_
           go_simp
           refine m6 (Od (uN (g:=Y) (nG _) (nF (wv (g:=w.heap.size)))) (JI (g:=V)) (jz.below H.out (jd.b (w:=d))) (E.out.below (jd.b (w:=d)))) fun a _ hb=> ?_
           have _:=kM (w:=w3) hb
           have _:=kM (w:=d) hb
           clear hb
           refine hK _ _ fH ?_
           clear hK K
           go_simp
           as_aux_lemma=>
            iterate 4
             refine mP A A (fun W _=>by go_simp;try with_reducible rfl) ?_;go_simp
            refine sj ?_
            refine Bl A fun K hK=> ?_
            go_simp
            refine m6 (Oc (uN (g:=w.heap.size+1) (nF (wv (g:=w.heap.size))) (nG _)) (D6 _) (uN (g:=Y) (nG _) (nF (wv (g:=w.heap.size)))) (JI (g:=V))) fun a _ hb=> ?_
            have _:=kM (w:=w3) hb
            have _:=kM (w:=d) hb
            clear hb
            refine hK _ _ fH ?_
            clear hK K
            go_simp
            as_aux_lemma=>
             iterate 10
              refine mP A A (fun W _=>by go_simp;try with_reducible rfl) ?_;go_simp
             refine uC (T:=53) (g:=w.heap.size+1) (off:=0) A A A A ef (Cl _ _ _) ?_
             go_simp
             iterate 3
              refine mP A A (fun W _=>by go_simp;try with_reducible rfl) ?_;go_simp
             refine sj ?_
             refine Bl A fun K hK=> ?_
             rw[Rs (by rfl)]
             refine wp_load_mid 53 _ A X qo A (aL oQ (Z xa xn xc) (Z ya yn yc)) _ (fun j y hj=>(jd.b (w:=w3)).cell (p:=⟨X,qo+j,N⟩) L.out|>.trans (HX.out j y hj)) ef A (Cl _ _ _) ?_
             refine hK _ _ fH ?_
             clear hK K
             go_simp
             as_aux_lemma=>
              refine sj ?_
              refine Bl A fun K hK=> ?_
              go_simp
              refine m6 (Oe (nF (wv (g:=w.heap.size))) (P.out.below (jd.b (w:=w3)))) fun a _ hb=> ?_
              have _:=kM (w:=w3) hb
              have _:=kM (w:=d) hb
              clear hb
              refine hK _ _ fH ?_
              clear hK K
              go_simp
              as_aux_lemma=>
               iterate 5
                refine mP A A (fun W _=>by go_simp;try with_reducible rfl) ?_;go_simp
               refine uC (T:=53) (g:=w.heap.size+1) (off:=0) A A A A ef (Cl _ _ _) ?_
               go_simp
               iterate 3
                refine mP A A (fun W _=>by go_simp;try with_reducible rfl) ?_;go_simp
               refine uC (T:=53) (g:=w.heap.size+1) (off:=18) A A A A ef (Cl _ _ _) ?_
               go_simp
               refine sj ?_
               refine Bl A fun K hK=> ?_
               go_simp
               refine m6 (Of (nF (wv (g:=w.heap.size)))) fun a _ hb=> ?_
               have _:=kM (w:=w3) hb
               have _:=kM (w:=d) hb
               clear hb
               refine hK _ _ fH ?_
               clear hK K
               go_simp
               as_aux_lemma=>
                iterate 3
                 refine mP A A (fun W _=>by go_simp;try with_reducible rfl) ?_;go_simp
                refine Jo ?_
                go_wp2_with{}
                go_ret
                exact⟨rfl,cW⟩
end
end Go.Proofs.YtbcbefpninlfiaaGreatDoor
