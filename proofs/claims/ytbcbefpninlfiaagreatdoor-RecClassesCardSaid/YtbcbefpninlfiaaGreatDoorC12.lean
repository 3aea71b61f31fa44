import Derived.Test.YtbcbefpninlfiaaGreatDoorC10
set_option maxHeartbeats 64000000
set_option maxRecDepth 100000
set_option linter.all false
open Option renaming none->N,some->O
open Nat renaming add_assoc->gW,add_sub_cancel_left->jw
open Go renaming World->ai
open Go.Value renaming agg->Rj,bool->Ri,int->I,slice->Z,string->U,tuple->Rx
open Go.IntKind renaming i64->J
open Go.Obj renaming cells->Ra
open Go.Proofs.Tryz renaming results137->jX
open Go.Region renaming noSelect->jW,ready->dG,wanted->bB
namespace Go.Proofs.YtbcbefpninlfiaaGreatDoor
open Go.Proofs.Tryz
section
open Go.RowKit Mor
abbrev Pr(α:Type):=ByteArray ->Int ->Option (α×Int)
structure p6{α:Type}(d:Pr α)(enc:α ->List UInt8)(ok:α ->Prop):Prop where
 fwd:∀(s:ByteArray) (x:α) (a b:List UInt8),ok x ->s.data.toList=a++enc x++b ->d s a.length=O (x,((a.length+(enc x).length:Nat):Int))
 inv:∀(s:ByteArray) (p q:Int) (x:α),0<=p ->p<=s.size ->d s p=O (x,q) ->ok x/\∃a b,s.data.toList=a++enc x++b/\p=(a.length:Int)/\q=((a.length+(enc x).length:Nat):Int)
theorem p6.congr{α:Type}{d i:Pr α}{enc c:α ->List UInt8}{ok g:α ->Prop}(h:p6 d enc ok)(hd:∀s p,i s p=d s p)(e:∀x,g x<->ok x)(he:∀x,ok x ->c x=enc x):p6 i c g:=by refine⟨fun s x a b hx hs=> ?_,fun s p q x h0 h1 hp=> ?_⟩;{have f:=(e x).1 hx;rw[he x f]at hs⊢;rw[hd];exact h.fwd s x a b f hs};{rw[hd]at hp;obtain⟨h2,a,b,h3⟩:=h.inv s p q x h0 h1 hp;exact⟨(e x).2 h2,a,b,by rw[he x h2];exact h3⟩}
theorem p6.stop{α:Type}{d:Pr α}{enc:α ->List UInt8}{ok:α ->Prop}(h:p6 d enc ok){s:ByteArray}{p q:Int}{x:α}(h0:0<=p)(h1:p<=s.size)(hp:d s p=O (x,q)):p<=q/\q<=s.size:=by
 obtain⟨_,a,b,h3,h4,e⟩:=h.inv s p q x h0 h1 hp;have c:s.size=(a++enc x++b).length:=by rw[<-h3];simp
 simp only[aw]at c;omega
def Pr.pure{α:Type}(x:α):Pr α:=fun _ p=>O (x,p)
def Pr.bind{α β:Type}(d:Pr α)(f:α ->Pr β):Pr β:=fun s p=>match d s p with
 |none=>N
 |some (x,q)=>f x s q
def Pr.gd{α:Type}(c:Bool)(d:Pr α):Pr α:=fun s p=>if c=true then d s p else N
def Pr.many{α:Type}(d:Pr α):Nat ->Pr (List α)
 |0=>.pure []
 |n+1=>.bind d fun x=>.bind (Pr.many d n) fun l=>.pure (x::l)
theorem eQ{α:Type}(x:α):p6 (.pure x) (fun _=>[]) (fun y=>y=x):=by
 refine⟨fun s y a b hy _=>by subst hy;simp[Pr.pure],fun s p q y h0 h1 hp=> ?_⟩;simp only[Pr.pure,bu,cu]at hp;obtain⟨rfl,rfl⟩:=hp;have:s.data.toList.length=s.size:=by simp
 refine⟨rfl,s.data.toList.take p.toNat,s.data.toList.drop p.toNat,by simp, ?_, ?_⟩;{rw[bL];omega};{simp only[a7];rw[bL];omega}
theorem mY{α:Type}{d:Pr α}{enc:α ->List UInt8}{ok:α ->Prop}(c:Bool)(h:p6 d enc ok):p6 (.gd c d) enc (fun x=>c=true/\ok x):=by refine⟨fun s x a b hx hs=> ?_,fun s p q x h0 h1 hp=> ?_⟩;{rw[Pr.gd,Rs hx.1];exact h.fwd s x a b hx.2 hs};{rw[Pr.gd]at hp;split at hp;{rename_i hc;obtain⟨h2,h3⟩:=h.inv s p q x h0 h1 hp;exact⟨⟨hc,h2⟩,h3⟩};{cases hp}}
theorem bU{α β:Type}{d:Pr α}{f:α ->Pr β}{enc:α ->List UInt8}{ok:α ->Prop}{enc2:α ->β ->List UInt8}{ok2:α ->β ->Prop}(pr:β ->α)(h:p6 d enc ok)(hf:∀x,ok x ->p6 (f x) (enc2 x) (ok2 x))(hp:∀x y,ok2 x y ->pr y=x):p6 (.bind d f) (fun y=>enc (pr y)++enc2 (pr y) y) (fun y=>ok (pr y)/\ok2 (pr y) y):=by refine⟨fun s y a b hy hs=> ?_,fun s p q y h0 h1 c=> ?_⟩;{have e1:=h.fwd s (pr y) a (enc2 (pr y) y++b) hy.1 (by rw[hs];simp only[bg]);have e2:=(hf (pr y) hy.1).fwd s y (a++enc (pr y)) b hy.2 (by rw[hs];simp only[bg]);rw[Pr.bind,e1];simp only[aw]at e2⊢;rw[e2];simp only[gW]};{rw[Pr.bind]at c;split at c;{cases c};{rename_i x q1 e1;obtain⟨h2,h3⟩:=h.stop h0 h1 e1;obtain⟨hx,a,b,e2,e3,e4⟩:=h.inv s p q1 x h0 h1 e1;obtain⟨hy,a2,g,e,m,i⟩:=(hf x hx).inv s q1 q y (by omega) h3 c;have j:=hp x y hy;subst j;have k:a2=a++enc (pr y):=by{have l:a2.length=(a++enc (pr y)).length:=(by simp only[aw];omega);have:=congrArg (List.take a2.length) (e.symm.trans e2);rw[bg,List.take_left,l,List.take_left]at this;exact this};subst k;refine⟨⟨hx,hy⟩,a,g,by rw[e];simp only[bg],e3, ?_⟩;rw[i];simp only[aw,gW]}}
theorem oZ{α:Type}{d:Pr α}{enc:α ->List UInt8}{ok:α ->Prop}(h:p6 d enc ok):∀n,p6 (Pr.many d n) (fun l=>l.flatMap enc) (fun l=>l.length=n/\∀x∈l,ok x)
 |0=>(eQ []).congr (fun _ _=>rfl) (fun l=>⟨fun h=>List.length_eq_zero_iff.1 h.1,fun e=>by subst e;simp⟩) (fun l e=>by subst e;rfl)
 |n+1=>by
  have j:=oZ h n;refine⟨fun s l a b c hs=> ?_,fun s p q l h0 h1 hp=> ?_⟩
  · obtain⟨h1,h2⟩:=c;cases l with
    |nil=>simp at h1
    |cons x l=>simp only[dB]at hs⊢;have e1:=h.fwd s x a (l.flatMap enc++b) (h2 x (by simp)) (by rw[hs];simp only[bg]);have e2:=j.fwd s l (a++enc x) b ⟨by simpa using h1,fun y hy=>h2 y (by simp[hy])⟩ (by rw[hs];simp only[bg]);simp only[Pr.many,Pr.bind,Pr.pure,e1];simp only[aw]at e2⊢;simp only[e2,gW]
  {simp only[Pr.many,Pr.bind,Pr.pure]at hp;split at hp;{cases hp};{rename_i x q1 e1;split at hp;{cases hp};{rename_i l' q2 e2;simp only[bu,cu]at hp;obtain⟨rfl,rfl⟩:=hp;obtain⟨h2,h3⟩:=h.stop h0 h1 e1;obtain⟨hx,a,b,e3,e4,r⟩:=h.inv s p q1 x h0 h1 e1;obtain⟨⟨f,g⟩,a2,k,i,t,m⟩:=j.inv s q1 q2 l' (by omega) h3 e2;have o:a2=a++enc x:=by{have c:a2.length=(a++enc x).length:=(by simp only[aw];omega);have:=congrArg (List.take a2.length) (i.symm.trans e3);rw[bg,List.take_left,c,List.take_left]at this;exact this};subst o;refine⟨⟨by simp[f],fun y hy=> ?_⟩,a,k,by rw[i];simp only[dB,bg],e4, ?_⟩;{rcases bh.1 hy with e|hy;{subst e;exact hx};{exact g y hy}};{rw[m];simp only[dB,aw,gW]}}}}
theorem gA:p6 rn az ee:=⟨fun _ _ _ _ h hs=>uF h hs,fun _ _ _ _ _ _ h=>Ko h⟩
def uZ(a hi:Int):Pr Int:=.bind rn fun n=>.gd (decide (a<=n)&&decide (n<=hi)) (.pure n)
theorem uB(a hi:Int)(h1: -9223372036854775808<=a)(h2:hi<9223372036854775808):p6 (uZ a hi) az (fun n=>a<=n/\n<=hi):=by
 refine(bU id gA (fun x _=>mY _ (eQ x)) fun x y h=>h.2).congr (fun _ _=>rfl) (fun x=> ?_) fun x _=>by simp
 simp only[id,aK,Rt,and_true,ee];omega
theorem GP{s:ByteArray}{p n:Int}(h:hasB s p n=true):0<=p/\p<=s.size/\n<=s.size -p:=by simpa[hasB]using h
theorem lV:p6 rt dy (fun t=>t.size<=10000):=by
 have key:∀(s:ByteArray) (p:Int),rt s p=match rn s p with
  |none=>N
  |some (n,q)=>if 0<=n/\n<=10000/\hasB s q n=true then O (s.extract q.toNat (q.toNat+n.toNat),((q.toNat+n.toNat:Nat):Int))else N:=by
  intro s p
  unfold rt iM rn
  cases e:iR s p with
  |num m sg size=>
   simp only[]
   by_cases hp:0<=p
   · have e1:p.toNat+size=(p+size).toNat:=(by omega);rw[e1];split<;>rfl
   · exfalso;unfold iR at e;rw[Rq (by omega)]at e;cases e
  |ends=>rfl
  |form=>rfl
 refine⟨fun s t a b i hs=> ?_,fun s p q t h0 h1 hp=> ?_⟩;{unfold dy at hs⊢;have e1:=uF (s:=s) (n:=(t.size:Int)) (a:=a) (b:=t.data.toList++b) ⟨by omega,by omega⟩ (by rw[hs];simp only[bg]);have f:s.size=(a++(az t.size++t.data.toList)++b).length:=(by rw[<-hs];simp);have ht2:t.data.toList.length=t.size:=(by simp);simp only[aw,ht2]at f;rw[key,e1];simp only[];rw[Rs ⟨by omega,by omega,by simp only[hasB,Rt];omega⟩];have e2:s.extract (a.length+(az t.size).length) (a.length+(az t.size).length+t.size)=t:=by{apply eT;rw[ByteArray.data_extract];apply Array.ext'; rw[Array.toList_extract,List.extract_eq_take_drop,hs];rw[show a++(az t.size++t.data.toList)++b=(a++az t.size)++(t.data.toList++b) by simp only[bg],show a.length+(az t.size).length=(a++az t.size).length by simp,List.drop_left,jw,<-ht2,List.take_left]};rw[dS,dS,e2];simp only[aw,ht2,gW]};{rw[key]at hp;split at hp;{cases hp};{rename_i n q1 e1;split at hp;{rename_i hc;obtain⟨c1,c2,c3⟩:=hc;obtain⟨d1,d2,d3⟩:=GP c3;simp only[bu,cu]at hp;obtain⟨rfl,rfl⟩:=hp;obtain⟨hn,a,b,e2,e3,e4⟩:=Ko e1;subst e4;obtain⟨c,rfl⟩:∃c:Nat,n=c:=⟨n.toNat,by omega⟩;have f:s.size=(a++az c++b).length:=(by rw[<-e2];simp);simp only[aw]at f;simp only[dS];have h:c<=b.length:=(by omega);have g:(s.extract (a.length+(az c).length) (a.length+(az c).length+c)).data.toList=b.take c:=by{rw[ByteArray.data_extract,Array.toList_extract,List.extract_eq_take_drop,e2,show a.length+(az c).length=(a++az c).length by simp,List.drop_left,jw]};have d:(s.extract (a.length+(az c).length) (a.length+(az c).length+c)).size=c:=by{rw[cX];omega};refine⟨by rw[d];omega,a,b.drop c, ?_,e3, ?_⟩;{unfold dy;rw[g,d,e2];simp only[bg,iv]};{unfold dy;rw[g,d];simp only[aw,bL];omega}};{cases hp}}}
end
section
open Go.RowKit Mor
def LS(w:ai)(e:Ending)(w':ai):Prop:=e=.returned (Rx #[Rj #[U ⟨#[]⟩,Z N 0 0],I J 0,I J 10])/\Below w.heap.size w w'
def JF(c:pd)(q:Int)(w:ai)(e:Ending)(w':ai):Prop:=∃sl,e=.returned (Rx #[Rj #[U c.name,sl],I J q,I J 0])/\(qq (w.heap.size+1) sl c.fs w'/\je w' sl c.fs/\c.name.size<=9223372036854775807)/\Below w.heap.size w w'
def Nf(d:Option (pd×Int))(w:ai)(e:Ending)(w':ai):Prop:=match d with
 |none=>LS w e w'
 |some (c,q)=>JF c q w e w'
def Ou(w:ai)(C:Nat)(s nm:ByteArray)(a:Nat)(r2:Rd)(aE aF:Addr)(k:Nat)(wr:ai):Prop:=∃(r:Rd) (v:Value) (acc:List iF),
 wr.heap[w.heap.size]? =O (Ra #[U ⟨#[]⟩,Z N 0 0] 28 (0,0))/\wr.heap[w.heap.size+1]? =O (jl s r)/\wr.heap[C]? =O (Ra #[U nm,v] 28 (0,0))/\qq (w.heap.size+1) v acc wr/\
 acc.length=k/\(∀f∈acc,f.name.size<=9223372036854775807)/\(dM s a r2=(dM s (a -k) r).map fun x=>(acc++x.1,x.2))/\fW aE aF wr/\Below w.heap.size w wr/\C<wr.heap.size
theorem N4{w w':ai}{base:Nat}{v:Value}{l:List iF}{b:Nat}{s:ByteArray}{r:Rd}(h:qq base v l w)(hb:w.heap[b]? =O (jl s r))(hg:w.grownBy w' (O b)):qq base v l w':=
 World.ownsRow.kept h hg (.inr (sD h hb (by decide)).symm)
theorem Bh(s:ByteArray)(hs:s.size<=281474976710656)(p:Int)(aE aF:Addr)(w:ai)(he:fW aE aF w):Calls Tryz.prog 137 #[U s,I J p] w (Nf (jg s p) w):=by
 unfold jg;have HE:=M he;have a1:=he.sz;obtain⟨_,_,b2⟩:=he.he;obtain⟨_,_,b4⟩:=he.hf;have hE:=aV b2;have hF:=aV b4;clear he b2 b4;have HT:=M (fun W b(hW:W.heap[b]? =O (jl s ⟨p,false⟩))(aT:fW aE aF W)=>ze s hs ⟨p,false⟩ b aE aF W hW aT);have cW:=qW s ⟨p,false⟩;generalize bT s ⟨p,false⟩=t at*;obtain⟨nm,r1⟩:=t;simp only at cW;have HN:=M (fun W b(hW:W.heap[b]? =O (jl s r1))(aT:fW aE aF W)=>tq s hs r1 b aE aF W hW aT);generalize rdNum s r1=t at*;obtain⟨n,r2⟩:=t;simp only;generalize hd:(if n<0\/8<n then N else _:Option (pd×Int))=d;have HD:=M hd;clear hd;go_in;go_wp2_with{};have G0:=M (show w.grownBy w N from c_ (ax _ _));have bH:=cF w (Ra #[U ⟨#[]⟩,Z N 0 0] 28);have E1:=M (HE.out.below ((ax _ _).alloc (av _) (Ra #[U ⟨#[]⟩,Z N 0 0] 28)) (av _));have G1:=M (cB G0.out (Ra #[U ⟨#[]⟩,Z N 0 0] 28));clear HE G0;have ck:((w.alloc (Ra #[U ⟨#[]⟩,Z N 0 0] 28))).heap.size=w.heap.size+1:=by simp
 have c6:=M ck;clear ck;have bN:=bE bH (Ra #[U s,I J p,Ri false] 219);have V:=cF (w.alloc (Ra #[U ⟨#[]⟩,Z N 0 0] 28)) (Ra #[U s,I J p,Ri false] 219);rw[c6.out]at V;have E2:=M (E1.out.below ((ax _ _).alloc (av _) (Ra #[U s,I J p,Ri false] 219)) (av _));have G2:=M (cB G1.out (Ra #[U s,I J p,Ri false] 219));clear bH E1 G1;refine(HT.out _ _ V E2.out).mono ?_;rintro e C⟨rfl,hb1,g1⟩;have bU:=bJ bN g1 (by omega);have E3:=M (E2.out.grown g1 (by omega) (by omega) (by omega) (by omega));have G3:=M (yB G2.out g1 (by omega));have z3:=g1.size;simp at z3;clear bN V E2 G2 g1;go_wp2_with{};have bW:=bE bU (Ra #[U nm,Z N 0 0] 28);have aC:=bE hb1 (Ra #[U nm,Z N 0 0] 28);have bY:=cF C (Ra #[U nm,Z N 0 0] 28);have E4:=M (E3.out.below ((ax _ _).alloc (av _) (Ra #[U nm,Z N 0 0] 28)) (av _));have G4:=M (cB G3.out (Ra #[U nm,Z N 0 0] 28));clear bU hb1 E3 G3;refine(HN.out _ _ aC E4.out).mono ?_;rintro e w2⟨rfl,hb2,g2⟩;have c:=bJ bW g2 (by omega);have H:=bJ bY g2 (by omega);have E5:=M (E4.out.grown g2 (by omega) (by omega) (by omega) (by omega));have G5:=M (yB G4.out g2 (by omega));have z5:=g2.size;simp at z5;clear bW aC bY E4 G4 g2;clear HT HN;by_cases hn:n<0\/8<n;{have l:=M (show d=N by rw[<-HD.out,Rs hn]);rcases hn with hn|hn;{skip;have m:w2.cell? ⟨w.heap.size,0,N⟩=O (U ⟨#[]⟩):=(ag c 0).trans A;have q:w2.cell? ⟨w.heap.size,1,N⟩=O (Z N 0 0):=(ag c 1).trans A;have R:=aW c 0;have S:=aW c 1;have T:=aV c;go_wp2_with{};clear m q R S T;have F:=aX c 0 (U ⟨#[]⟩);have z:=aG hb2 w.heap.size 0 (U ⟨#[]⟩) (by omega);have Q:=aG H w.heap.size 0 (U ⟨#[]⟩) (by omega);have G6:=M (aO G5.out w.heap.size 0 (U ⟨#[]⟩) (by omega));clear c hb2 H G5;simp only[aD,ab]at F;have y:=aX F 1 (Z N 0 0);have ch:=aG z w.heap.size 1 (Z N 0 0) (by omega);have c7:=aG Q w.heap.size 1 (Z N 0 0) (by omega);have G7:=M (aO G6.out w.heap.size 1 (Z N 0 0) (by omega));clear F z Q G6;simp only[aD,ab,ae]at y;have m:((w2.setCell ⟨w.heap.size,0,N⟩ (U ⟨#[]⟩)).setCell ⟨w.heap.size,1,N⟩ (Z N 0 0)).cell? ⟨w.heap.size,0,N⟩=O (U ⟨#[]⟩):=(ag y 0).trans A;have q:((w2.setCell ⟨w.heap.size,0,N⟩ (U ⟨#[]⟩)).setCell ⟨w.heap.size,1,N⟩ (Z N 0 0)).cell? ⟨w.heap.size,1,N⟩=O (Z N 0 0):=(ag y 1).trans A;have T:=aV y;exact au (v:=Rx #[Rj #[U ⟨#[]⟩,Z N 0 0],I J 0,I J 10]) (by simp[results,jX,go_sem,m,q]) A (by rw[l.out];exact⟨rfl,qu G7.out⟩)};{skip;have m:w2.cell? ⟨w.heap.size,0,N⟩=O (U ⟨#[]⟩):=(ag c 0).trans A;have q:w2.cell? ⟨w.heap.size,1,N⟩=O (Z N 0 0):=(ag c 1).trans A;have R:=aW c 0;have S:=aW c 1;have T:=aV c;go_wp2_with{};clear m q R S T;have F:=aX c 0 (U ⟨#[]⟩);have z:=aG hb2 w.heap.size 0 (U ⟨#[]⟩) (by omega);have Q:=aG H w.heap.size 0 (U ⟨#[]⟩) (by omega);have G6:=M (aO G5.out w.heap.size 0 (U ⟨#[]⟩) (by omega));clear c hb2 H G5;simp only[aD,ab]at F;have y:=aX F 1 (Z N 0 0);have ch:=aG z w.heap.size 1 (Z N 0 0) (by omega);have c7:=aG Q w.heap.size 1 (Z N 0 0) (by omega);have G7:=M (aO G6.out w.heap.size 1 (Z N 0 0) (by omega));clear F z Q G6;simp only[aD,ab,ae]at y;have m:((w2.setCell ⟨w.heap.size,0,N⟩ (U ⟨#[]⟩)).setCell ⟨w.heap.size,1,N⟩ (Z N 0 0)).cell? ⟨w.heap.size,0,N⟩=O (U ⟨#[]⟩):=(ag y 0).trans A;have q:((w2.setCell ⟨w.heap.size,0,N⟩ (U ⟨#[]⟩)).setCell ⟨w.heap.size,1,N⟩ (Z N 0 0)).cell? ⟨w.heap.size,1,N⟩=O (Z N 0 0):=(ag y 1).trans A;have T:=aV y;exact au (v:=Rx #[Rj #[U ⟨#[]⟩,Z N 0 0],I J 0,I J 10]) (by simp[results,jX,go_sem,m,q]) A (by rw[l.out];exact⟨rfl,qu G7.out⟩)}}
 · have ad:=HD.out;rw[Rq hn]at ad;obtain⟨a,rfl⟩:∃a:Nat,n=a:=⟨n.toNat,by omega⟩;rw[dS]at ad;have l:=M ad;clear HD ad;have hN:a<=8:=(by omega);clear hn;have bt:=M (qu G5.out);have bF:=M c;have bn:=M H;have bm:=M hb2;have bs:=E5;clear c H hb2 E5 G5;go_wp2_with{};go_loopw [26] (fun i wr=>∃k:Nat,k<=a/\i=I J k/\Ou w C.heap.size s nm a r2 aE aF k wr) (fun i _=>a - (intOf i).toNat);case atStart=>exact⟨0,by omega,rfl,r2,_,[],bF.out,bm.out,bn.out,J6 _ _,rfl,by simp,by simp,bs.out,bt.out,by omega⟩
   case round=>
    obtain⟨k,hk,rfl,hL⟩:=hrel;obtain⟨r,v,acc,hR,hb,hc,ho,hl,a1,cb,b3,hB,eB⟩:=hL;have HB:=M hB;have aN:=M b3;have HO:=M ho;have aR:=M a1;have u:=M hR;have P:=M hb;have G:=M hc;have bx:=M hl;have bA:=M cb;have zB:=hB.size;clear hB b3 ho a1 hR hb hc bF bm bn bs bt hl cb;by_cases dm:k<a
    · have HS:=M (yj dm bA.out);have HF:=M (DS s hs r (w.heap.size+1) aE aF wr P.out aN.out (by omega) (by omega) (by omega));have ca:=Aw s r;generalize rdField s r=x at*;obtain⟨⟨f,ok⟩,r'⟩ :=x;simp only at ca;unfold IG at HF;go_wp2_with{};refine HF.out.mono ?_;rintro e w3⟨rfl,b', g3⟩;have R3:=bJ u.out g3 (by omega);have C3:=bJ G.out g3 (by omega);have O3:=M (N4 HO.out P.out g3);have E3:=M (aN.out.grown g3 (by omega) (by omega) (by omega) (by omega));have B3:=M (HB.out.trans ((ax _ wr).grown (B:=w.heap.size) g3 (by omega) (fun k hk=>by cases hk;omega)));have z3:=g3.size;clear g3 u G HO aN P HF;cases ok;{have D:=M (show d=N by rw[<-l.out,HS.out];rfl);clear HS l;have R4:=bE R3 (Ra #[U f.name,I J f.k,I J f.o,Ri f.ix] 131);have c0:=(ag R4 0).trans A;have c1:=(ag R4 1).trans A;have f0:=aW R4 0;have f1:=aW R4 1;have l0:=aV R4;have B4:=M (B3.out.alloc (by omega) (Ra #[U f.name,I J f.k,I J f.o,Ri f.ix] 131));go_wp2_with{};have R5:=aX (aX R4 0 (U ⟨#[]⟩)) 1 (Z N 0 0);have k0:=(ag R5 0).trans A;have k1:=(ag R5 1).trans A;have B5:=M ((B4.out.setCell (p:=⟨w.heap.size,0,N⟩) (av _) (U ⟨#[]⟩)).setCell (p:=⟨w.heap.size,1,N⟩) (av _) (Z N 0 0));exact au (v:=Rx #[Rj #[U ⟨#[]⟩,Z N 0 0],I J 0,I J 10]) (by simp[results,jX,go_sem,k0,k1]) A (by rw[D.out];exact⟨rfl,B5.out⟩)}
      · have GS:=M (show dM s a r2=(dM s (a - (k+1)) r').map fun x=>((acc++[f])++x.1,x.2) by rw[HS.out];rfl);clear HS;have fo:=Obj.cells #[U f.name,I J f.k,I J f.o,Ri f.ix] 131 (0,0);clear fo;have C4:=bE C3 (Ra #[U f.name,I J f.k,I J f.o,Ri f.ix] 131);have D4:=cF w3 (Ra #[U f.name,I J f.k,I J f.o,Ri f.ix] 131);have O4:=M (show qq (w.heap.size+1) v acc (w3.alloc (Ra #[U f.name,I J f.k,I J f.o,Ri f.ix] 131))from cL O3.out _);have C5:=bE C4 (Ra #[U f.name,I J f.k,I J f.o,Ri f.ix] 131);have R5:=bE (bE R3 (Ra #[U f.name,I J f.k,I J f.o,Ri f.ix] 131)) (Ra #[U f.name,I J f.k,I J f.o,Ri f.ix] 131);have b5:=bE (bE b' (Ra #[U f.name,I J f.k,I J f.o,Ri f.ix] 131)) (Ra #[U f.name,I J f.k,I J f.o,Ri f.ix] 131);have B5:=M ((B3.out.alloc (by omega) (Ra #[U f.name,I J f.k,I J f.o,Ri f.ix] 131)).alloc (by simp;omega) (Ra #[U f.name,I J f.k,I J f.o,Ri f.ix] 131));have E5:=M ((E3.out.below ((ax _ _).alloc (av _) (Ra #[U f.name,I J f.k,I J f.o,Ri f.ix] 131)) (av _)).below ((ax _ _).alloc (av _) (Ra #[U f.name,I J f.k,I J f.o,Ri f.ix] 131)) (av _));have z5:((w3.alloc (Ra #[U f.name,I J f.k,I J f.o,Ri f.ix] 131)).alloc (Ra #[U f.name,I J f.k,I J f.o,Ri f.ix] 131)).heap.size=w3.heap.size+1+1:=(by simp);have Z5:=M z5;have ey:(w3.alloc (Ra #[U f.name,I J f.k,I J f.o,Ri f.ix] 131)).cell? ⟨C.heap.size,1,N⟩=O v:=(ag C4 1).trans A;have l4:=aV C4;have eD:acc.length<=8:=(by rw[bx.out];omega);clear z5;go_wp2_with(at_builtin;refine Dd A _ _ A (w.heap.size+1) v acc f (w3.alloc (Ra #[U f.name,I J f.k,I J f.o,Ri f.ix] 131)) A A O4.out (by simp;rfl) ?_ ?_ ?_);{omega};{simp;omega};intro v6 w6 o6 g6 b6;have O5:((w3.alloc (Ra #[U f.name,I J f.k,I J f.o,Ri f.ix] 131)).alloc (Ra #[U f.name,I J f.k,I J f.o,Ri f.ix] 131)).ownsRow (w.heap.size+1) 131 4 v acc.length (acc.flatMap ug):=cL O4.out _;have C6:=gx O5 g6 C5 (by decide);have R6:=gx O5 g6 R5 (by decide);have bX:=gx O5 g6 b5 (by decide);have E6:=M (E5.out.low b6 (by omega) (by omega) (by omega));have B6:=M (B5.out.trans (b6.mono (by omega)));have z6:w3.heap.size+1+1<=w6.heap.size:=(by have:=b6.size;rw[Z5.out]at this;exact this);have ez:w6.cell? ⟨C.heap.size,1,N⟩=O v:=(ag C6 1).trans A;have f61:=aW C6 1;have l6:=aV C6;have cd:=sD o6 C6 (by decide);have C7:=aX C6 1 v6;have R7:=aG R6 C.heap.size 1 v6 (by omega);have b7:=aG bX C.heap.size 1 v6 (by omega);have O7:=M (show qq (w.heap.size+1) v6 (acc++[f]) (w6.setCell ⟨C.heap.size,1,N⟩ v6)from ownsRow_setCell_other o6 (Ne.symm cd) v6);have E7:=M (E6.out.setAt C.heap.size 1 v6 (by omega) (by omega) (by omega) (by omega));have B7:=M (B6.out.setCell (p:=⟨C.heap.size,1,N⟩) (by show w.heap.size<=C.heap.size;omega) v6);obtain⟨va,j,vc,rfl⟩:∃va j vc,v6=Z va j vc:=by{rcases o6.2 with⟨hv,_⟩|⟨g,cap,cur,hv,_⟩;{exact⟨_,_,_,hv⟩};{exact⟨_,_,_,hv⟩}};have cI:=M b7;have cT:=M R7;have cM:=M C7;have cc:∀g∈acc++[f],g.name.size<=9223372036854775807:=fun g hg=>by{rcases gL.1 hg with hg|hg;{exact aR.out g hg};{simp only[bh,bV,or_false]at hg;rw[hg];exact ca}};have cV:=M cc;clear cc b7 R7 C7 C6 R6 bX b5 R5 C5 o6 g6 b6 b' C3 R3 C4 D4 O5 cd;go_wp2_with{};go_roundw;case rel=>exact⟨k+1,by omega,by go_num,r', _,acc++[f],cT.out,cI.out,cM.out,O7.out,by rw[aw,bx.out];rfl,cV.out,GS.out,E7.out,B7.out,by simp;omega⟩
        case measure=>simp[intOf];omega
    {obtain rfl:k=a:=(by omega);have HX:=M (show dM s k r2=O (acc,r) by rw[bA.out,Nat.sub_self];simp[dM]);have aU:qp wr (Rj #[U nm,v]) ⟨nm,acc⟩:=⟨v,rfl,tj HO.out aR.out,by show nm.size<=_;omega⟩;have ep:=M aU;have ak:=M (mu ⟨nm,acc⟩ _ wr aU);have hb:=P.out;have b0:wr.cell? ⟨w.heap.size+1,1,N⟩=O (I J r.pos):=(ag hb 1).trans A;have b1:wr.cell? ⟨w.heap.size+1,2,N⟩=O (Ri r.bad):=(ag hb 2).trans A;have lb:=aV hb;have c8:wr.cell? ⟨C.heap.size,0,N⟩=O (U nm):=(ag G.out 0).trans A;have c9:wr.cell? ⟨C.heap.size,1,N⟩=O v:=(ag G.out 1).trans A;have lc:=aV G.out;have c':wr.cell? ⟨w.heap.size,0,N⟩=O (U ⟨#[]⟩):=(ag u.out 0).trans A;have db:wr.cell? ⟨w.heap.size,1,N⟩=O (Z N 0 0):=(ag u.out 1).trans A;have dd:=aW u.out 0;have dj:=aW u.out 1;have lr:=aV u.out;clear hb aU;obtain⟨va,j,vc,rfl⟩:∃va j vc,v=Z va j vc:=by{rcases HO.out.2 with⟨hv,_⟩|⟨g,cap,cur,hv,_⟩;{exact⟨_,_,_,hv⟩};{exact⟨_,_,_,hv⟩}};obtain⟨rp,rb⟩:=r;simp only at b0 b1;cases rb;{cases L:dI ⟨nm,acc⟩;{rw[L]at ak;have D:=M (show d=N by rw[<-l.out,HX.out];simp[L]);clear L l;go_wp2_with{};refine ak.out.mono ?_;rintro e Y⟨rfl,b8⟩;have E:=bl u.out b8;have d0:=(ag E 0).trans A;have d1:=(ag E 1).trans A;have g0:=aW E 0;have g1:=aW E 1;have l8:=aV E;have B8:=M (HB.out.trans (b8.mono zB));clear b8;go_wp2_with{};have R9:=aX (aX E 0 (U ⟨#[]⟩)) 1 (Z N 0 0);have k0:=(ag R9 0).trans A;have k1:=(ag R9 1).trans A;have B9:=M ((B8.out.setCell (p:=⟨w.heap.size,0,N⟩) (av _) (U ⟨#[]⟩)).setCell (p:=⟨w.heap.size,1,N⟩) (av _) (Z N 0 0));exact au (v:=Rx #[Rj #[U ⟨#[]⟩,Z N 0 0],I J 0,I J 10]) (by simp[results,jX,go_sem,k0,k1]) A (by rw[D.out];exact⟨rfl,B9.out⟩)};{rw[L]at ak;have D:=M (show d=O (⟨nm,acc⟩,rp) by rw[<-l.out,HX.out];simp[L]);clear L l;go_wp2_with{};refine ak.out.mono ?_;rintro e Y⟨rfl,b8⟩;have E:=bl u.out b8;have C8:=bl G.out b8;have al:=bl P.out b8;have d0:=(ag E 0).trans A;have d1:=(ag E 1).trans A;have g0:=aW E 0;have g1:=aW E 1;have l8:=aV E;have e0:Y.cell? ⟨C.heap.size,0,N⟩=O (U nm):=(ag C8 0).trans A;have e1:Y.cell? ⟨C.heap.size,1,N⟩=O (Z va j vc):=(ag C8 1).trans A;have e2:=aV C8;have p1:Y.cell? ⟨w.heap.size+1,1,N⟩=O (I J rp):=(ag al 1).trans A;have p2:=aV al;have B8:=M (HB.out.trans (b8.mono zB));have O8:=M (oW HO.out b8);clear b8 c8 c9 b0 b1 c' db dd dj;go_wp2_with{};refine bM (fun W=>W.heap[C.heap.size]? =O (Ra #[U nm,Z va j vc] 28 (0,0))/\W.heap[w.heap.size+1]? =O (jl s ⟨rp,false⟩)) (.R 0 (.R 1 (.R 2 (.call 3 (.R 4 (.R 5 .done)))))) (by kernel_rfl) (by kernel_rfl) (fun _ _ _ _ _ h=>h) ⟨heap_drew C8,heap_drew al⟩ ?_;refine aj A (Or.inl ⟨by rfl,fun W hS=>by obtain⟨h1,h2⟩:=hS;have q0:W.cell? ⟨C.heap.size,0,N⟩=O (U nm):=(ag h1 0).trans A;have q1:W.cell? ⟨C.heap.size,1,N⟩=O (Z va j vc):=(ag h1 1).trans A;have q2:=aV h1;clear h1 h2;go_simp;try with_reducible rfl⟩) ?_;go_simp;refine aj A (Or.inl ⟨by rfl,fun W hS=>by clear hS;go_simp;try with_reducible rfl⟩) ?_;go_simp;refine aj A (Or.inl ⟨by rfl,fun W hS=>by obtain⟨h1,h2⟩:=hS;have q0:W.cell? ⟨w.heap.size+1,1,N⟩=O (I J rp):=(ag h2 1).trans A;have q2:=aV h2;clear h1 h2;go_simp;try with_reducible rfl⟩) ?_;go_simp;refine aH A (fun K hK=> ?_);go_simp;have C9:=aG (aG (heap_drew C8) w.heap.size 0 (U nm) (by omega)) w.heap.size 1 (Z va j vc) (by omega);have b9:=aG (aG (heap_drew al) w.heap.size 0 (U nm) (by omega)) w.heap.size 1 (Z va j vc) (by omega);have R9:=aX (aX (heap_drew E) 0 (U nm)) 1 (Z va j vc);refine hK _ _ ⟨C9,b9⟩ ?_;clear hK K;(iterate 2 go_simp;refine aj A (Or.inl ⟨by rfl,fun W hS=>by clear hS;go_simp;try with_reducible rfl⟩) ?_);go_simp;refine aM ?_;have k0:((Y.setCell ⟨w.heap.size,0,N⟩ (U nm)).setCell ⟨w.heap.size,1,N⟩ (Z va j vc)).drew.cell? ⟨w.heap.size,0,N⟩=O (U nm):=(ag R9 0).trans A;have k1:((Y.setCell ⟨w.heap.size,0,N⟩ (U nm)).setCell ⟨w.heap.size,1,N⟩ (Z va j vc)).drew.cell? ⟨w.heap.size,1,N⟩=O (Z va j vc):=(ag R9 1).trans A;have B9:Hid (Below w.heap.size w ((Y.setCell ⟨w.heap.size,0,N⟩ (U nm)).setCell ⟨w.heap.size,1,N⟩ (Z va j vc)).drew):=M ((B8.out.setCell (p:=⟨w.heap.size,0,N⟩) (av _) (U nm)).setCell (p:=⟨w.heap.size,1,N⟩) (av _) (Z va j vc)).drew;have O9:qq (w.heap.size+1) (Z va j vc) acc ((Y.setCell ⟨w.heap.size,0,N⟩ (U nm)).setCell ⟨w.heap.size,1,N⟩ (Z va j vc)).drew:=World.ownsRow.drew (ownsRow_setCell_other (ownsRow_setCell_other O8.out (Ne.symm (sD O8.out E (by decide))) _) (Ne.symm (sD O8.out E (by decide))) _);have I9:Hid (qq (w.heap.size+1) (Z va j vc) acc ((Y.setCell ⟨w.heap.size,0,N⟩ (U nm)).setCell ⟨w.heap.size,1,N⟩ (Z va j vc)).drew/\je ((Y.setCell ⟨w.heap.size,0,N⟩ (U nm)).setCell ⟨w.heap.size,1,N⟩ (Z va j vc)).drew (Z va j vc) acc/\nm.size<=9223372036854775807):=M ⟨O9,tj O9 aR.out,by show nm.size<=_;omega⟩;clear O9;generalize((Y.setCell ⟨w.heap.size,0,N⟩ (U nm)).setCell ⟨w.heap.size,1,N⟩ (Z va j vc)).drew=X at k0 k1 B9 I9⊢;go_wp2_with{};exact au (v:=Rx #[Rj #[U nm,Z va j vc],I J rp,I J 0]) (by simp[results,jX,go_sem,k0,k1]) A (by rw[D.out];exact⟨_,rfl,I9.out,B9.out⟩)}};{have D:=M (show d=N by rw[<-l.out,HX.out];simp);clear l;go_wp2_with{};have R9:=aX (aX u.out 0 (U ⟨#[]⟩)) 1 (Z N 0 0);have k0:=(ag R9 0).trans A;have k1:=(ag R9 1).trans A;have B9:=M ((HB.out.setCell (p:=⟨w.heap.size,0,N⟩) (av _) (U ⟨#[]⟩)).setCell (p:=⟨w.heap.size,1,N⟩) (av _) (Z N 0 0));exact au (v:=Rx #[Rj #[U ⟨#[]⟩,Z N 0 0],I J 0,I J 10]) (by simp[results,jX,go_sem,k0,k1]) A (by rw[D.out];exact⟨rfl,B9.out⟩)}}
end
section
open Go.RowKit
section
variable {P:Program} {ops:Array Oper} {Q:Exit ->Act ->ai ->Prop} {md:Region.Mode} {S:ai ->Prop} {e:Nat}
def xN(P:Program)(md:Region.Mode)(ops:Array Oper)(Q:Exit ->Act ->ai ->Prop)(S:ai ->Prop)(e:Nat):Nat ->Array Bool ->Act ->ai ->Prop
 |0,listed,a,w=>dG md ops listed=[]/\Q .normal a w
 |fuel+1,listed,a,w=>
  (dG md ops listed=[] ->Q .normal a w)/\
  ∀i∈dG md ops listed,wpOp P ops Q i (fun a' w'=>(i≠e ->S w') /\xN P md ops Q S e fuel (listed.setIfInBounds i true) a' w') a w
theorem xO:∀(fuel:Nat) (listed:Array Bool) (a:Act) (w:ai),xN P md ops Q S e fuel listed a w ->wpAny P md ops Q fuel listed a w
 |0,_,_,_,h=>h
 |fuel+1,_,_,_,h=>⟨h.1,fun i hi=>wpOp_mono (fun a' w' b=>xO fuel _ a' w' b.2) (h.2 i hi)⟩
theorem AQ{i:Nat}{r:Oper}{v:Value}(hi:ops[i]? =O r)(q:∀(j:Nat) (o:Oper) cs b,ops[j]? =O o ->o.op≠.select cs b)
 (D:∀c a w,Q (.panic c) (a.put r.dst v) w ->Q (.panic c) a w)(hw:Region.waitsFor md ops e i=true):
 ∀(fuel:Nat) (listed:Array Bool) (a:Act) (w:ai),
  (∀j oj,ops[j]? =O oj ->j≠i ->listed.getD j true=false ->(∀e∈oj.after,Region.binds md e=true ->e.on≠i) ->r.apart ops oj=true) ->
  i∈dG md ops listed ->YieldsIf P ops S r v a ->S w ->
  xN P md ops Q S e fuel (listed.setIfInBounds i true) (a.put r.dst v) w ->xN P md ops Q S e (fuel+1) listed a w:=by
 intro fuel
 induction fuel with
 |zero=>
  intro listed a w _ hr hy hS H
  refine⟨fun h=>(by rw[h]at hr;cases hr),fun j y=> ?_⟩
  by_cases f:j=i
  · subst f;exact hy.wpOp hi hS ⟨fun _=>hS,H⟩
  · have:=ready_mono y f;rw[H.1]at this;cases this
 |succ fuel E=>
  intro listed a w g hr hy hS H
  refine⟨fun h=>(by rw[h]at hr;cases hr),fun j y=> ?_⟩
  by_cases f:j=i
  · subst f;exact hy.wpOp hi hS ⟨fun _=>hS,H⟩
  · have h1:=H.2 j (ready_mono y f);obtain⟨p,oj,n,s⟩:=mem_ready.1 y;have l:∀e∈oj.after,Region.binds md e=true ->e.on≠i:=fun e he hb heq=>by{have h1:=s e he hb;have h0:=(mem_ready.1 hr).1;rw[heq]at h1;rcases ed i listed.size with z|z;{simp[z]at h0 h1;rw[h0]at h1;cases h1};{simp[Array.getElem?_eq_none z]at h1}}
    have t:j≠e:=by
     intro heq;subst heq;unfold Region.waitsFor at hw;rw[n]at hw;simp only[Array.any_eq_true']at hw;obtain⟨d,hd,hw⟩:=hw;rw[aK]at hw
     first
      |exact l d hd hw.1 (by simpa using hw.2)
      |exact l d hd hw.2 (by simpa using hw.1)
    have h2:=wpOp_putIf n (g j oj n f p l) (fun cs b=>q i r cs b hi) (fun cs b=>q j oj cs b n) D hy h1
    have m:∀k ok,ops[k]? =O ok ->k≠i ->(listed.setIfInBounds j true).getD k true=false ->
     (∀e∈ok.after,Region.binds md e=true ->e.on≠i) ->r.apart ops ok=true:=fun k ok hk B x C=>by
     refine g k ok hk B ?_ C
     by_cases u:j=k
     · subst u;exact p
     · rw[getD_set_ne true u]at x;exact x
    refine wpOp_mono (fun a' w' h3=>⟨fun _=>h3.2.1 t,E (listed.setIfInBounds j true) a' w' m (ready_mono hr (Ne.symm f)) h3.1 (h3.2.1 t) ?_⟩) h2;rw[Array.setIfInBounds_comm _ _ f];exact h3.2.2
def nd.KT(ops:Array Oper)(e:Nat):nd ->Nat ->Array Bool ->Bool
 | .done,n,listed=>decide (n=0)&&(dG .any ops listed).isEmpty
 | .R i r,n,listed=>decide (0<n)&&(dG .any ops listed).contains i&&Region.free .any ops listed i&&Region.waitsFor .any ops e i&&r.KT ops e (n - 1) (listed.setIfInBounds i true)
 | .call i r,n,listed=>decide (0<n)&&decide (dG .any ops listed=[i])&&r.KT ops e (n - 1) (listed.setIfInBounds i true)
 | .two i r j s,n,listed=>decide (0<n)&&decide (dG .any ops listed=[i,j])&&r.KT ops e (n - 1) (listed.setIfInBounds i true)&&s.KT ops e (n - 1) (listed.setIfInBounds j true)
def Kt(ops:Array Oper)(e:Nat)(s:nd):Bool:=jW ops&&s.KT ops e ops.size (Array.replicate ops.size false)
def kQ(P:Program)(ops:Array Oper)(Q:Exit ->Act ->ai ->Prop)(S:ai ->Prop)(e:Nat):nd ->Act ->ai ->Prop
 | .done,a,w=>Q .normal a w
 | .R i r,a,w=>∃o v,ops[i]? =O o/\YieldsIf P ops S o v a/\kQ P ops Q S e r (a.put o.dst v) w
 | .call i r,a,w=>wpOp P ops Q i (fun a' w'=>(i≠e ->S w') /\kQ P ops Q S e r a' w') a w
 | .two i r j s,a,w=>wpOp P ops Q i (fun a' w'=>(i≠e ->S w') /\kQ P ops Q S e r a' w') a w/\wpOp P ops Q j (fun a' w'=>(j≠e ->S w') /\kQ P ops Q S e s a' w') a w
def nd.nX:nd ->Bool
 | .done=>true
 | .R _ _=>false
 | .call _ r=>r.nX
 | .two _ r _ s=>r.nX&&s.nX
def nd.late(e:Nat):nd ->Bool
 | .done=>true
 | .R _ r=>r.late e
 | .call i r=>if i=e then r.nX else r.late e
 | .two i r j s=>(if i=e then r.nX else r.late e)&&(if j=e then s.nX else s.late e)
theorem n_(b:jW ops=true)(d:∀t v c a w,Q (.panic c) (a.put (O t) v) w ->Q (.panic c) a w):∀(s:nd) (n:Nat) (listed:Array Bool) (a:Act) (w:ai),s.KT ops e n listed=true ->(s.late e=true/\S w\/s.nX=true) ->kQ P ops Q S e s a w ->xN P .any ops Q S e n listed a w
 | .done,n,listed,a,w,hB,_,h=>by simp only[nd.KT,aK,Rt]at hB;obtain⟨rfl,hB⟩:=hB;exact⟨by simpa using hB,h⟩
 | .R i r,n,listed,a,w,hB,hS,h=>by
  simp only[nd.KT,aK,Rt]at hB;obtain⟨⟨⟨⟨h0,h1⟩,h2⟩,hw⟩,h3⟩:=hB;obtain⟨o,v,ho,hy,g⟩:=h;obtain⟨m,rfl⟩:∃m,n=m+1:=⟨n - 1,by omega⟩;have hs:S w:=by rcases hS with hS|hS;exact hS.2;cases hS
  have f:r.late e=true/\S w\/r.nX=true:=.inl (by rcases hS with hS|hS;exact hS;cases hS);exact AQ ho (Region.noSelect_spec b) (fun c a w=>xt d _ _ c a w) hw m listed a w (Region.free_spec ho h2) (by simpa using h1) hy hs (n_ b d r _ _ _ _ h3 f g)
 | .call i r,n,listed,a,w,hB,hS,h=>by
  simp only[nd.KT,aK,Rt]at hB;obtain⟨⟨h0,h1⟩,h3⟩:=hB;obtain⟨m,rfl⟩:∃m,n=m+1:=⟨n - 1,by omega⟩;refine⟨fun h0=>absurd (h1▸h0) (by simp),fun j l=> ?_⟩;rw[h1]at l;obtain rfl:j=i:=by simpa using l
  refine wpOp_mono (fun a' w'⟨s2,g⟩=>⟨s2,n_ b d r _ _ _ _ h3 ?_ g⟩) h;rcases hS with hS|hS;{have f:=hS.1;unfold nd.late at f;split at f;{exact .inr f};{rename_i hne;exact .inl ⟨f,s2 hne⟩}};{exact .inr (by unfold nd.nX at hS;exact hS)}
 | .two i r j s,n,listed,a,w,hB,hS,h=>by simp only[nd.KT,aK,Rt]at hB;obtain⟨⟨⟨h0,h1⟩,h3⟩,h4⟩:=hB;obtain⟨m,rfl⟩:∃m,n=m+1:=⟨n - 1,by omega⟩;have hx:∀(k:Nat) (t:nd) (w':ai),((k=i/\t=r)\/(k=j/\t=s)) ->(k≠e ->S w') ->(t.late e=true/\S w'\/t.nX=true):=by{intro k t w' hk s2;rcases hS with hS|hS;{have f:=hS.1;unfold nd.late at f;rw[aK]at f;rcases hk with⟨rfl,rfl⟩|⟨rfl,rfl⟩;{have:=f.1;split at this;{exact .inr this};{rename_i hne;exact .inl ⟨this,s2 hne⟩}};{have:=f.2;split at this;{exact .inr this};{rename_i hne;exact .inl ⟨this,s2 hne⟩}}};{unfold nd.nX at hS;rw[aK]at hS;rcases hk with⟨rfl,rfl⟩|⟨rfl,rfl⟩;{exact .inr hS.1};{exact .inr hS.2}}};refine⟨fun h0=>absurd (h1▸h0) (by simp),fun k hk=> ?_⟩;rw[h1]at hk;simp only[bh,bV,or_false]at hk;rcases hk with rfl|rfl;{exact wpOp_mono (fun a' w'⟨s2,g⟩=>⟨s2,n_ b d r _ _ _ _ h3 (hx _ _ _ (.inl ⟨rfl,rfl⟩) s2) g⟩) h.1};{exact wpOp_mono (fun a' w'⟨s2,g⟩=>⟨s2,n_ b d s _ _ _ _ h4 (hx _ _ _ (.inr ⟨rfl,rfl⟩) s2) g⟩) h.2}
theorem kh{id:Nat}{a:Act}{w:ai}(S:ai ->Prop)(e:Nat)(s:nd)(hm:P.follows .mixedOrders=true)(hB:(Kt ops e s&&s.late e)=true)(b:∀t v c a w,Q (.panic c) (a.put (O t) v) w ->Q (.panic c) a w)(hS:S w.drew)(h:kQ P ops Q S e s a w.drew):(Code.region id ops true).wp P Q a w:=by simp only[Kt,aK]at hB;refine wp_region_any hm (xO (S:=S) (e:=e) _ _ _ _ ?_);exact n_ hB.1.1 b s _ _ a w.drew hB.1.2 (.inl ⟨hB.2,hS⟩) h
theorem cD{i:Nat}{o:Oper}{r:nd}{a:Act}{w:ai}{v:Value}(h0:ops[i]? =O o)(hy:YieldsIf P ops S o v a)(h:kQ P ops Q S e r (a.put o.dst v) w):kQ P ops Q S e (.R i r) a w:=⟨o,v,h0,hy,h⟩
theorem cj{i:Nat}{o:Oper}{r:nd}{a:Act}{w:ai}(h0:ops[i]? =O o)(h:∀K:Act ->ai ->Prop,(∀a' w', S w' ->kQ P ops Q S e r a' w' ->K a' w') ->if bB o (yielded ops a.tmps)=true then o.wp P a w K Q else K (a.put o.dst undef) w):kQ P ops Q S e (.call i r) a w:=
 we h0 (h _ fun _ _ h1 h2=>⟨fun _=>h1,h2⟩)
theorem iK{o:Oper}{r:nd}{a:Act}{w:ai}(h0:ops[e]? =O o)(h:∀K:Act ->ai ->Prop,(∀a' w', kQ P ops Q S e r a' w' ->K a' w') ->if bB o (yielded ops a.tmps)=true then o.wp P a w K Q else K (a.put o.dst undef) w):kQ P ops Q S e (.call e r) a w:=
 we h0 (h _ fun _ _ h2=>⟨fun h=>absurd A h,h2⟩)
theorem gB{a:Act}{w:ai}(h:Q .normal a w):kQ P ops Q S e .done a w:=h
end
end
end Go.Proofs.YtbcbefpninlfiaaGreatDoor
