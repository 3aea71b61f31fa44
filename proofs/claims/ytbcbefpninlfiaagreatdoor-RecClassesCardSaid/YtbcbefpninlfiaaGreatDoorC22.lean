import Derived.Test.YtbcbefpninlfiaaGreatDoorC21
import Derived.Test.YtbcbefpninlfiaaGreatDoorC20
set_option maxHeartbeats 64000000
set_option maxRecDepth 100000
set_option linter.all false
open Go renaming Calls->aJ,Value->ar,World->ai
open Go.Value renaming agg->Rj,int->I,pointer->Ru,slice->Z,string->U
open Go.IntKind renaming i64->J
open Option renaming none->N,some->O
open Go.Proofs.Tryz renaming prog->ah
open Go.World renaming alloc->aq,drew->bD,setCell->af
namespace Go.Proofs.YtbcbefpninlfiaaGreatDoor
open Go.RowKit Mor
theorem Env.bF{aE aF:Addr}{B b:Nat}{w w':ai}(h:Env aE aF B w)(hc:jI (du b) w w')(hb:B<=b):Env aE aF B w':=h.low (hc.below h.b fun k hk=>by cases hk;exact hb)
theorem FX:iY.size<=9223372036854775807:=by decide
theorem CM:AR nJ:=by unfold AR;exact⟨by decide,by decide,by decide,by decide,by decide⟩
theorem Kc{G:Nat ->Prop}{a:Option Addr}{b:Nat}{c:pd}{id:Int}{W:ai}(h:(AX qp G (Rj #[U c.name,Z a c.fs.length b]) c).at W):
 (AX rM G (Rj #[I J 3,I J 0,I J 0,I J 0,Z N 0 0,I J id,I J 0,U ⟨#[]⟩,U c.name,Z a c.fs.length b,I J 0,U ⟨#[]⟩,U ⟨#[]⟩,U ⟨#[]⟩,I J 0,I J 0,U ⟨#[]⟩,U ⟨#[]⟩]) ⟨3,oz,id,0,iY,c,nJ⟩).at W:=
 ⟨h.dom,fun W' d=>by obtain⟨sl,e,h1,h2⟩:=h.loc W' d;cases e;exact⟨_,rfl,N,0,0,_,_,_,rfl,dL _ _ _,h1,FX,h2,CM⟩⟩
theorem N7{G:Nat ->Prop}{a:Option Addr}{b:Nat}{o:Ob}{W:ai}(h:(AX VO G (Rj #[I J o.id,I J o.cls,I J o.bY,Z a o.bG.length b]) o).at W):
 (AX rM G (Rj #[I J 1,I J o.id,I J o.cls,I J o.bY,Z a o.bG.length b,I J 0,I J 0,U ⟨#[]⟩,U ⟨#[]⟩,Z N 0 0,I J 0,U ⟨#[]⟩,U ⟨#[]⟩,U ⟨#[]⟩,I J 0,I J 0,U ⟨#[]⟩,U ⟨#[]⟩]) ⟨1,o,0,0,iY,iA,nJ⟩).at W:=
 ⟨h.dom,fun W' c=>by obtain⟨sl,e,h1⟩:=h.loc W' c;cases e;exact⟨_,rfl,_,_,_,N,0,0,rfl,h1,dL _ _ _,FX,FX,CM⟩⟩
def nj(s:ByteArray)(p:Int):Option (Rc×Int):=match rn s p with|none=>N|some (x0,p)=>match jg s p with|none=>N|some (x1,p)=>O (⟨3,oz,x0,0,iY,x1,nJ⟩,p)
theorem yl{s:ByteArray}(hs:s.size<=281474976710656)(p:Int)(b:Nat){aE aF:Addr}{B:Nat}(w:ai)(hb:w.heap[b]? =O (iZ s p))(he:Env aE aF B w)(hB:B<=b):aJ ah 88 #[Ru (O ⟨b,0,N⟩)] w (nB rM s (nj s p) b w):=by
 have i:=M he;have H:=M (St.kX (F:=du b) hb A);generalize hd:nj s p=d;unfold nj at hd;have lb:=aV hb;clear he hb;go_in;refine iu fun K j=> ?_;refine wp_region_lit ?_;with_reducible refine mf H ?_ oB ?_
 exact⟨rfl,rfl⟩;clear H;intro q H z1;refine wpList_nil ?_;refine j.out _ _ ?_;clear j K;go_wp2_with{};refine(p_ b _ (H.out.aR 1 A) (fun W g=>kY hs p ((i.out.bF H.out.low hB).below g))).mono ?_;rintro e u0⟨c2,h2⟩;cases hx:rn s p with
 |none=>rw[hx]at h2 hd;simp only at h2 hd;subst h2 hd;unfold jL;have c:=H.out.low.trans c2 fun _ _ h=>h;go_wp2_with{};exact⟨rfl,c,rfl⟩
 |some x=>
  obtain⟨x0,q0⟩:=x;rw[hx]at h2 hd;simp only at h2 hd;clear hx;obtain⟨v,o,rfl,hv,f,hb2⟩:=h2;obtain rfl:=hv.hold;replace H:=M (H.out.gu 1 A c2 hb2 A);simp only[ab,ae]at H;have s0:=c2.size;clear c2 hv hb2;go_wp2_with{};refine(Pd b _ (H.out.aR 1 A) (fun W g=>Mp hs q0 ((i.out.bF H.out.low hB).below g))).mono ?_;rintro e u1⟨c2,h2⟩;cases hx:jg s q0 with
  |none=>rw[hx]at h2 hd;simp only at h2 hd;subst h2 hd;unfold jL;have c:=H.out.low.trans c2 fun _ _ h=>h;go_wp2_with{};exact⟨rfl,c,rfl⟩
  |some x=>
   obtain⟨x1,q1⟩:=x;rw[hx]at h2 hd;simp only at h2 hd;clear hx;obtain⟨v,l,rfl,hv,f,hb2⟩:=h2;obtain⟨sl,rfl,a,hz1⟩:=hv.hold;obtain⟨m,n,rfl⟩:=cl.slice a;clear a;replace H:=M (H.out.gi 1 _ A c2 (fe hb2) (fun _ h=>h) hv f A);simp only[ab,ae]at H;have s1:=c2.size;clear c2 hv hb2;subst hd;simp only[];go_step;(with_reducible refine gV ?T ?ps ?ho ?hw #[I J 3,I J 0,I J 0,I J 0,Z N 0 0,I J x0,I J 0,U ⟨#[]⟩,U x1.name,Z m x1.fs.length n,I J 0,U ⟨#[]⟩,U ⟨#[]⟩,U ⟨#[]⟩,I J 0,I J 0,U ⟨#[]⟩,U ⟨#[]⟩] ?hr ?_);case ho=>rfl
   case hw=>rfl
   case hr=>intro W;kernel_rfl
   (with_reducible apply sH H 1);exact⟨rfl,rfl,rfl,rfl,rfl,e_,rfl,by kernel_rfl⟩;clear H;intro r H z5;simp only[ab,ae]at H;go_wp2_with{};exact au (cd _ _ 2 _ _ _ _ _ A A (H.out.aR 1 A) ef e_) A ⟨H.out.low,_,l,rfl,Kc (H.out.nth 0 _ A),fun k hk=>by have:=f k hk;omega,H.out.aR 2 A⟩
def mz(s:ByteArray)(p:Int):Option (Rc×Int):=match rn s p with|none=>N|some (x0,p)=>match rn s p with|none=>N|some (x1,p)=>match qB s p with|none=>N|some (x2,p)=>O (⟨4,oz,x0,x1,iY,iA,x2⟩,p)
theorem xu{s:ByteArray}(hs:s.size<=281474976710656)(p:Int)(b:Nat){aE aF:Addr}{B:Nat}(w:ai)(hb:w.heap[b]? =O (iZ s p))(he:Env aE aF B w)(hB:B<=b):aJ ah 92 #[Ru (O ⟨b,0,N⟩)] w (nB rM s (mz s p) b w):=by
 have g:=M he;have H:=M (St.kX (F:=du b) hb A);generalize hd:mz s p=d;unfold mz at hd;have lb:=aV hb;clear he hb;go_in;refine iu fun K i=> ?_;refine wp_region_lit ?_;with_reducible refine mf H ?_ oB ?_
 exact⟨rfl,rfl⟩;clear H;intro o H z1;refine wpList_nil ?_;refine i.out _ _ ?_;clear i K;go_wp2_with{};refine(p_ b _ (H.out.aR 1 A) (fun W c=>kY hs p ((g.out.bF H.out.low hB).below c))).mono ?_;rintro e u0⟨c2,h2⟩;cases hx:rn s p with
 |none=>rw[hx]at h2 hd;simp only at h2 hd;subst h2 hd;unfold jL;have a:=H.out.low.trans c2 fun _ _ h=>h;go_wp2_with{};exact⟨rfl,a,rfl⟩
 |some x=>
  obtain⟨x0,q0⟩:=x;rw[hx]at h2 hd;simp only at h2 hd;clear hx;obtain⟨v,l,rfl,hv,j,hb2⟩:=h2;obtain rfl:=hv.hold;replace H:=M (H.out.gu 1 A c2 hb2 A);simp only[ab,ae]at H;have s0:=c2.size;clear c2 hv hb2;go_wp2_with{};refine(p_ b _ (H.out.aR 1 A) (fun W c=>kY hs q0 ((g.out.bF H.out.low hB).below c))).mono ?_;rintro e u1⟨c2,h2⟩;cases hx:rn s q0 with
  |none=>rw[hx]at h2 hd;simp only at h2 hd;subst h2 hd;unfold jL;have a:=H.out.low.trans c2 fun _ _ h=>h;go_wp2_with{};exact⟨rfl,a,rfl⟩
  |some x=>
   obtain⟨x1,q1⟩:=x;rw[hx]at h2 hd;simp only at h2 hd;clear hx;obtain⟨v,m,rfl,hv,j,hb2⟩:=h2;obtain rfl:=hv.hold;replace H:=M (H.out.gu 1 A c2 hb2 A);simp only[ab,ae]at H;have s1:=c2.size;clear c2 hv hb2;go_wp2_with{};refine(Pe b _ (H.out.aR 1 A) (fun W c=>Mo hs q1 ((g.out.bF H.out.low hB).below c))).mono ?_;rintro e u2⟨c2,h2⟩;cases hx:qB s q1 with
   |none=>rw[hx]at h2 hd;simp only at h2 hd;subst h2 hd;unfold jL;have a:=H.out.low.trans c2 fun _ _ h=>h;go_wp2_with{};exact⟨rfl,a,rfl⟩
   |some x=>
    obtain⟨x2,q2⟩:=x;rw[hx]at h2 hd;simp only at h2 hd;clear hx;obtain⟨v,n,rfl,hv,j,hb2⟩:=h2;obtain⟨rfl,hz2⟩:=hv.hold;unfold ss;replace H:=M (H.out.gu 1 A c2 hb2 A);simp only[ab,ae]at H;have s2:=c2.size;clear c2 hv hb2;subst hd;simp only[];go_step;(with_reducible refine gV ?T ?ps ?ho ?hw #[I J 4,I J 0,I J 0,I J 0,Z N 0 0,I J x0,I J x1,U ⟨#[]⟩,U ⟨#[]⟩,Z N 0 0,I J x2.k,U x2.field,U x2.name,U x2.more,I J x2.tk,I J x2.fP,U x2.expr,U x2.other] ?hr ?_);case ho=>rfl
    case hw=>rfl
    case hr=>intro W;kernel_rfl
    (with_reducible apply sH H 0);exact⟨rfl,rfl,rfl,rfl,rfl,e_,rfl,by kernel_rfl⟩;clear H;intro q H z5;simp only[ab]at H;go_wp2_with{};exact au (cd _ _ 2 _ _ _ _ _ A A (H.out.aR 0 A) ef e_) A ⟨H.out.low,_,ej,rfl,mv fun _=>⟨_,rfl,N,0,0,N,0,0,rfl,dL _ _ _,dL _ _ _,FX,FX,hz2⟩,fun _ f=>f.elim,H.out.aR 1 A⟩
def pK(s:ByteArray)(p:Int):Option (Rc×Int):=match oh s p with|none=>N|some (x0,p)=>O (⟨1,x0,0,0,iY,iA,nJ⟩,p)
theorem Cu{s:ByteArray}(hs:s.size<=281474976710656)(p:Int)(b:Nat){aE aF:Addr}{B:Nat}(w:ai)(hb:w.heap[b]? =O (iZ s p))(he:Env aE aF B w)(hB:B<=b):aJ ah 96 #[Ru (O ⟨b,0,N⟩)] w (nB rM s (pK s p) b w):=by
 have j:=M he;have H:=M (St.kX (F:=du b) hb A);generalize hd:pK s p=d;unfold pK at hd;have lb:=aV hb;clear he hb;go_in;refine iu fun K c=> ?_;refine wp_region_lit ?_;with_reducible refine mf H ?_ oB ?_
 exact⟨rfl,rfl⟩;clear H;intro o H z1;refine wpList_nil ?_;refine c.out _ _ ?_;clear c K;go_wp2_with{};refine(Pf b _ (H.out.aR 1 A) (fun W n=>Mq hs p ((j.out.bF H.out.low hB).below n))).mono ?_;rintro e u0⟨c2,h2⟩;cases hx:oh s p with
 |none=>rw[hx]at h2 hd;simp only at h2 hd;subst h2 hd;unfold jL;have i:=H.out.low.trans c2 fun _ _ h=>h;go_wp2_with{};exact⟨rfl,i,rfl⟩
 |some x=>
  obtain⟨x0,q0⟩:=x;rw[hx]at h2 hd;simp only at h2 hd;clear hx;obtain⟨v,g,rfl,hv,f,hb2⟩:=h2;obtain⟨sl,rfl,a⟩:=hv.hold;obtain⟨l,m,rfl⟩:=cl.slice a;clear a;replace H:=M (H.out.gi 1 _ A c2 (fe hb2) (fun _ h=>h) hv f A);simp only[ab,ae]at H;have s0:=c2.size;clear c2 hv hb2;subst hd;simp only[];go_step;(with_reducible refine gV ?T ?ps ?ho ?hw #[I J 1,I J x0.id,I J x0.cls,I J x0.bY,Z l x0.bG.length m,I J 0,I J 0,U ⟨#[]⟩,U ⟨#[]⟩,Z N 0 0,I J 0,U ⟨#[]⟩,U ⟨#[]⟩,U ⟨#[]⟩,I J 0,I J 0,U ⟨#[]⟩,U ⟨#[]⟩] ?hr ?_);case ho=>rfl
  case hw=>rfl
  case hr=>intro W;kernel_rfl
  (with_reducible apply sH H 1);exact⟨rfl,rfl,rfl,rfl,rfl,e_,rfl,by kernel_rfl⟩;clear H;intro q H z5;simp only[ab,ae]at H;go_wp2_with{};exact au (cd _ _ 2 _ _ _ _ _ A A (H.out.aR 1 A) ef e_) A ⟨H.out.low,_,g,rfl,N7 (H.out.nth 0 _ A),fun k hk=>by have:=f k hk;omega,H.out.aR 2 A⟩
def mN(s:ByteArray)(p:Int):Option (Rc×Int):=match rt s p with|none=>N|some (x0,p)=>match rn s p with|none=>N|some (x1,p)=>O (⟨2,oz,x1,0,x0,iA,nJ⟩,p)
theorem AA{s:ByteArray}(hs:s.size<=281474976710656)(p:Int)(b:Nat){aE aF:Addr}{B:Nat}(w:ai)(hb:w.heap[b]? =O (iZ s p))(he:Env aE aF B w)(hB:B<=b):aJ ah 100 #[Ru (O ⟨b,0,N⟩)] w (nB rM s (mN s p) b w):=by
 have i:=M he;have H:=M (St.kX (F:=du b) hb A);generalize hd:mN s p=d;unfold mN at hd;have lb:=aV hb;clear he hb;go_in;refine iu fun K j=> ?_;refine wp_region_lit ?_;with_reducible refine mf H ?_ oB ?_
 exact⟨rfl,rfl⟩;clear H;intro n H z1;refine wpList_nil ?_;refine j.out _ _ ?_;clear j K;go_wp2_with{};refine(M9 b _ (H.out.aR 1 A) (fun W c=>Cn hs p ((i.out.bF H.out.low hB).below c))).mono ?_;rintro e u0⟨c2,h2⟩;cases hx:rt s p with
 |none=>rw[hx]at h2 hd;simp only at h2 hd;subst h2 hd;unfold jL;have a:=H.out.low.trans c2 fun _ _ h=>h;go_wp2_with{};exact⟨rfl,a,rfl⟩
 |some x=>
  obtain⟨x0,q0⟩:=x;rw[hx]at h2 hd;simp only at h2 hd;clear hx;obtain⟨v,l,rfl,hv,k,hb2⟩:=h2;obtain⟨rfl,g⟩:=hv.hold;replace H:=M (H.out.gu 1 A c2 hb2 A);simp only[ab,ae]at H;have s0:=c2.size;clear c2 hv hb2;go_wp2_with{};refine(p_ b _ (H.out.aR 1 A) (fun W c=>kY hs q0 ((i.out.bF H.out.low hB).below c))).mono ?_;rintro e u1⟨c2,h2⟩;cases hx:rn s q0 with
  |none=>rw[hx]at h2 hd;simp only at h2 hd;subst h2 hd;unfold jL;have a:=H.out.low.trans c2 fun _ _ h=>h;go_wp2_with{};exact⟨rfl,a,rfl⟩
  |some x=>
   obtain⟨x1,q1⟩:=x;rw[hx]at h2 hd;simp only at h2 hd;clear hx;obtain⟨v,m,rfl,hv,k,hb2⟩:=h2;obtain rfl:=hv.hold;replace H:=M (H.out.gu 1 A c2 hb2 A);simp only[ab,ae]at H;have s1:=c2.size;clear c2 hv hb2;subst hd;simp only[];go_step;(with_reducible refine gV ?T ?ps ?ho ?hw #[I J 2,I J 0,I J 0,I J 0,Z N 0 0,I J x1,I J 0,U x0,U ⟨#[]⟩,Z N 0 0,I J 0,U ⟨#[]⟩,U ⟨#[]⟩,U ⟨#[]⟩,I J 0,I J 0,U ⟨#[]⟩,U ⟨#[]⟩] ?hr ?_);case ho=>rfl
   case hw=>rfl
   case hr=>intro W;kernel_rfl
   (with_reducible apply sH H 0);exact⟨rfl,rfl,rfl,rfl,rfl,e_,rfl,by kernel_rfl⟩;clear H;intro o H z5;simp only[ab]at H;go_wp2_with{};exact au (cd _ _ 2 _ _ _ _ _ A A (H.out.aR 0 A) ef e_) A ⟨H.out.low,_,ej,rfl,mv fun _=>⟨_,rfl,N,0,0,N,0,0,rfl,dL _ _ _,dL _ _ _,g,FX,CM⟩,fun _ f=>f.elim,H.out.aR 1 A⟩
def mO(s:ByteArray)(p:Int):Option (Rc×Int):=match rt s p with|none=>N|some (x0,p)=>match rn s p with|none=>N|some (x1,p)=>O (⟨5,oz,x1,0,x0,iA,nJ⟩,p)
theorem AB{s:ByteArray}(hs:s.size<=281474976710656)(p:Int)(b:Nat){aE aF:Addr}{B:Nat}(w:ai)(hb:w.heap[b]? =O (iZ s p))(he:Env aE aF B w)(hB:B<=b):aJ ah 103 #[Ru (O ⟨b,0,N⟩)] w (nB rM s (mO s p) b w):=by
 have i:=M he;have H:=M (St.kX (F:=du b) hb A);generalize hd:mO s p=d;unfold mO at hd;have lb:=aV hb;clear he hb;go_in;refine iu fun K j=> ?_;refine wp_region_lit ?_;with_reducible refine mf H ?_ oB ?_
 exact⟨rfl,rfl⟩;clear H;intro n H z1;refine wpList_nil ?_;refine j.out _ _ ?_;clear j K;go_wp2_with{};refine(M9 b _ (H.out.aR 1 A) (fun W c=>Cn hs p ((i.out.bF H.out.low hB).below c))).mono ?_;rintro e u0⟨c2,h2⟩;cases hx:rt s p with
 |none=>rw[hx]at h2 hd;simp only at h2 hd;subst h2 hd;unfold jL;have a:=H.out.low.trans c2 fun _ _ h=>h;go_wp2_with{};exact⟨rfl,a,rfl⟩
 |some x=>
  obtain⟨x0,q0⟩:=x;rw[hx]at h2 hd;simp only at h2 hd;clear hx;obtain⟨v,l,rfl,hv,k,hb2⟩:=h2;obtain⟨rfl,g⟩:=hv.hold;replace H:=M (H.out.gu 1 A c2 hb2 A);simp only[ab,ae]at H;have s0:=c2.size;clear c2 hv hb2;go_wp2_with{};refine(p_ b _ (H.out.aR 1 A) (fun W c=>kY hs q0 ((i.out.bF H.out.low hB).below c))).mono ?_;rintro e u1⟨c2,h2⟩;cases hx:rn s q0 with
  |none=>rw[hx]at h2 hd;simp only at h2 hd;subst h2 hd;unfold jL;have a:=H.out.low.trans c2 fun _ _ h=>h;go_wp2_with{};exact⟨rfl,a,rfl⟩
  |some x=>
   obtain⟨x1,q1⟩:=x;rw[hx]at h2 hd;simp only at h2 hd;clear hx;obtain⟨v,m,rfl,hv,k,hb2⟩:=h2;obtain rfl:=hv.hold;replace H:=M (H.out.gu 1 A c2 hb2 A);simp only[ab,ae]at H;have s1:=c2.size;clear c2 hv hb2;subst hd;simp only[];go_step;(with_reducible refine gV ?T ?ps ?ho ?hw #[I J 5,I J 0,I J 0,I J 0,Z N 0 0,I J x1,I J 0,U x0,U ⟨#[]⟩,Z N 0 0,I J 0,U ⟨#[]⟩,U ⟨#[]⟩,U ⟨#[]⟩,I J 0,I J 0,U ⟨#[]⟩,U ⟨#[]⟩] ?hr ?_);case ho=>rfl
   case hw=>rfl
   case hr=>intro W;kernel_rfl
   (with_reducible apply sH H 0);exact⟨rfl,rfl,rfl,rfl,rfl,e_,rfl,by kernel_rfl⟩;clear H;intro o H z5;simp only[ab]at H;go_wp2_with{};exact au (cd _ _ 2 _ _ _ _ _ A A (H.out.aR 0 A) ef e_) A ⟨H.out.low,_,ej,rfl,mv fun _=>⟨_,rfl,N,0,0,N,0,0,rfl,dL _ _ _,dL _ _ _,g,FX,CM⟩,fun _ f=>f.elim,H.out.aR 1 A⟩
def qt(E:Ex):Prop:=∀d,tX d E
def IL(b:Nat)(sl:ar)(i n:Nat)(c:Int)(w:ai)(e:Ending)(w':ai):Prop:=∃(E:Ex) (ka:Option Addr) (a:Nat) (G:Nat ->Prop) (j:Nat) (bad:Int),e=.returned (Rj #[I J E.k,I J E.n,U E.s,Z ka E.kids.length a])/\jI (du b) w w'/\w'.heap[b]? =O (qs sl j c bad)/\i<=j/\j<=n/\(qh G [I J E.k,I J E.n,U E.s,Z ka E.kids.length a] E).at w'/\(∀k,G k ->w.heap.size<=k)/\qt E
theorem nR{b:Nat}{sl:ar}{i n j:Nat}{a bad:Int}{w W:ai}{L:List cM}(H:Hid (St (du b) w L W))(c:Nat)(hb:L[c]? =O (eH b (qs sl j a bad)))(h1:i<=j)(h2:j<=n){k m:Int}{s:ByteArray}(hs:s.size<=1000000):IL b sl i n a w (.returned (Rj #[I J k,I J m,U s,Z N 0 0])) W:=
 ⟨.mk k m s [],N,0,ej,j,bad,rfl,H.out.low,H.out.aR c hb,h1,h2,nA k m s W,fun _ h=>h.elim,tX.mk hs (by simp)⟩
theorem lS{b:Nat}{sl:ar}{i n j:Nat}{d bad:Int}{w W:ai}{L:List cM}{G:Nat ->Prop}{E:Ex}{ka:Option Addr}{c:Nat}(H:Hid (St (du b) w L W))(a it:Nat)(hb:L[a]? =O (eH b (qs sl j d bad)))(e:L[it]? =O (qh G [I J E.k,I J E.n,U E.s,Z ka E.kids.length c] E))(hne:it≠a)(h1:i<=j)(h2:j<=n)(hs:qt E):IL b sl i n d w (.returned (Rj #[I J E.k,I J E.n,U E.s,Z ka E.kids.length c])) W:=
 ⟨E,ka,c,G,j,bad,rfl,H.out.low,H.out.aR a hb,h1,h2,H.out.nth it _ e,H.out.fresh it a e hb hne,hs⟩
def wk(b:Nat)(sl:ar)(l:List Pc)(a:Int)(i:Nat):Prop:=∀(bad:Int) (w:ai),w.heap[b]? =O (qs sl i a bad) ->Dn b sl l w ->aJ ah 220 #[Ru (O ⟨b,0,N⟩)] w (IL b sl i l.length a w)
def yp(b:Nat)(sl:ar)(l:List Pc)(a:Int)(i:Nat):Prop:=∀(least bad:Int) (w:ai),w.heap[b]? =O (qs sl i a bad) ->Dn b sl l w ->aJ ah 191 #[Ru (O ⟨b,0,N⟩),I J least] w (IL b sl i l.length a w)
def Fc(b:Nat)(sl:ar)(l:List Pc)(a:Int)(i:Nat):Prop:=∀(t:ByteArray) (bad:Int) (w:ai),t.size<=1000000 ->w.heap[b]? =O (qs sl i a bad) ->Dn b sl l w ->aJ ah 246 #[Ru (O ⟨b,0,N⟩),U t] w (IL b sl i l.length a w)
theorem Ok(b i:Nat)(B:Int)(sl:ar)(l:List Pc)(hl:l.length<=1000)(hi:i<=l.length)(hT:∀j,i<j ->j<=l.length ->wk b sl l B j)(hE:∀j,i<j ->j<=l.length ->yp b sl l B j)(hC:∀j,i<j ->j<=l.length ->Fc b sl l B j):wk b sl l B i:=by
 intro bad w hb hp;obtain⟨a,c,rfl⟩:=hp.slice;have HT:=M hT;have HE:=M hE;have HC:=M hC;have HP:=M hp;have H:=M (St.kX (F:=du b) hb A);clear hb hp hT hE hC;go_in;go_wp2_with{};generalize e:aq w _=X;replace H:=bW e (St.alloc H.out _);clear e;replace H:=M H.out.drew;by_cases aT:0<=bad
 · have d0:decide (0<=bad)=true:=Rv aT;refine bM (fun W:ai=>W.heap[b]? =O (qs (Z a l.length c) i B bad)) (.R 0 (.R 1 (.R 2 (.R 3 (.R 4 (.R 5 (.R 6 (.R 7 (.R 8 (.R 9 (.R 10 (.R 11 (.R 12 (.R 13 (.R 14 (.R 15 (.R 16 .done))))))))))))))))) (by kernel_rfl) (by kernel_rfl) (fun _ _ _ _ _ h=>h) (H.out.aR 1 A) ?_
   iterate 17
    first
     |refine aj A (Or.inr ⟨by rfl,rfl⟩) ?_
     |refine aj A (Or.inl ⟨by rfl,fun W hS=>by have g0:=(ag hS 0).trans A;have g1:=(ag hS 1).trans A;have g3:=(ag hS 3).trans A;clear hS;go_simp;try with_reducible rfl⟩) ?_
    go_simp
   refine aM ?_;go_wp2_with{};refine(BC b i B bad _ l _ hi (H.out.aR 1 A) (HP.out.bF H.out.low)).mono ?_;rintro e w3⟨rfl,c3,aO,h3⟩;replace H:=M (H.out.gu 1 A c3 h3 A);clear c3 h3;simp only[ab,ae]at H;obtain⟨cs,lr⟩:=St.cs H 0 A;simp only[ak]at cs;obtain⟨⟨r0,f⟩,⟨r1,g⟩,⟨r2,o⟩,⟨r3,q⟩, -⟩:=cs;go_wp2_with{};generalize e:af (af (af (af w3 _ _) _ _) _ _) _ _=V9;replace H:=bW e (St.aB (St.aB (St.aB (St.aB H.out 0 A 0 _ A) 0 A 1 _ A) 0 A 2 _ A) 0 A 3 _ A);simp only[ab,ae]at H;clear e;exact au (cd _ _ 2 _ 204 _ _ _ A A (H.out.aR 0 A) (by kernel_rfl) (by kernel_rfl)) A (nR H 1 A (av _) hi (by decide))
 have d0:decide (0<=bad)=false:=Rw aT;by_cases bm:i<l.length
 case neg=>
  have d1:decide ((l.length:Int)<=(i:Int))=true:=Rv (by omega);refine bM (fun W:ai=>W.heap[b]? =O (qs (Z a l.length c) i B bad)) (.R 0 (.R 1 (.R 2 (.R 3 (.R 4 (.R 5 (.R 6 (.R 7 (.R 8 (.R 9 (.R 10 (.R 11 (.R 12 (.R 13 (.R 14 (.R 15 (.R 16 .done))))))))))))))))) (by kernel_rfl) (by kernel_rfl) (fun _ _ _ _ _ h=>h) (H.out.aR 1 A) ?_
  iterate 17
   first
    |refine aj A (Or.inr ⟨by rfl,rfl⟩) ?_
    |refine aj A (Or.inl ⟨by rfl,fun W hS=>by have g0:=(ag hS 0).trans A;have g1:=(ag hS 1).trans A;have g3:=(ag hS 3).trans A;clear hS;go_simp;try with_reducible rfl⟩) ?_
   go_simp
  refine aM ?_;go_wp2_with{};refine(BC b i B bad _ l _ hi (H.out.aR 1 A) (HP.out.bF H.out.low)).mono ?_;rintro e w3⟨rfl,c3,aO,h3⟩;replace H:=M (H.out.gu 1 A c3 h3 A);clear c3 h3;simp only[ab,ae]at H;obtain⟨cs,lr⟩:=St.cs H 0 A;simp only[ak]at cs;obtain⟨⟨r0,f⟩,⟨r1,g⟩,⟨r2,o⟩,⟨r3,q⟩, -⟩:=cs;go_wp2_with{};generalize e:af (af (af (af w3 _ _) _ _) _ _) _ _=V9;replace H:=bW e (St.aB (St.aB (St.aB (St.aB H.out 0 A 0 _ A) 0 A 1 _ A) 0 A 2 _ A) 0 A 3 _ A);simp only[ab,ae]at H;clear e;exact au (cd _ _ 2 _ 204 _ _ _ A A (H.out.aR 0 A) (by kernel_rfl) (by kernel_rfl)) A (nR H 1 A (av _) hi (by decide))
 have d1:decide ((l.length:Int)<=(i:Int))=false:=Rw (by omega);refine bM (fun W:ai=>W.heap[b]? =O (qs (Z a l.length c) i B bad)) (.R 0 (.R 1 (.R 2 (.R 3 (.R 4 (.R 5 (.R 6 (.R 7 (.R 8 (.R 9 (.R 10 (.R 11 (.R 12 (.R 13 (.R 14 (.R 15 (.R 16 .done))))))))))))))))) (by kernel_rfl) (by kernel_rfl) (fun _ _ _ _ _ h=>h) (H.out.aR 1 A) ?_
 iterate 17
  first
   |refine aj A (Or.inr ⟨by rfl,rfl⟩) ?_
   |refine aj A (Or.inl ⟨by rfl,fun W hS=>by have g0:=(ag hS 0).trans A;have g1:=(ag hS 1).trans A;have g3:=(ag hS 3).trans A;clear hS;go_simp;try with_reducible rfl⟩) ?_
  go_simp
 refine aM ?_;go_wp2_with{};generalize bD X=Y at*;obtain⟨p,aU⟩:∃p,l[i]? =O p:=⟨_,an bm⟩;obtain⟨b', o', rfl,hz,hq⟩:=(HP.out.bF H.out.low).at aU;have HQ:=M (hq _ (nK _ Y));have i1:(i:Int)<(l.length:Int):=by omega
 have i0:(0:Int)<=(i:Int):=by omega
 have bb:=M aU;clear hq aU d0 d1;replace H:=M H.out.drew;refine bM (fun W:ai=>W.heap[b]? =O (qs (Z (O ⟨b', o', N⟩) l.length c) i B bad)/\W.cell? ⟨b', o'+i*4,N⟩=O (I J p.k)/\W.cell? ⟨b', o'+i*4+1,N⟩=O (I J p.n)/\W.cell? ⟨b', o'+i*4+1+1,N⟩=O (U p.s)/\W.cell? ⟨b', o'+i*4+1+1+1,N⟩=O (I J p.at')) (.R 0 (.R 1 (.R 2 (.R 3 (.R 4 (.R 5 (.R 6 (.R 7 (.R 8 (.R 9 (.call 10 (.call 11 .done)))))))))))) (by kernel_rfl) (by kernel_rfl) (fun _ _ _ _ _ h=>h) ⟨H.out.aR 1 A,HQ.out⟩ ?_;generalize bD Y=Y2 at*
 iterate 10
  first
   |refine aj A (Or.inr ⟨by rfl,rfl⟩) ?_
   |refine aj A (Or.inl ⟨by rfl,fun W hS=>by have g0:=(ag hS.1 0).trans A;have g1:=(ag hS.1 1).trans A;have bE:=hS.2;obtain⟨q0,q1,q2,q3⟩:=bE;clear hS;go_simp;try with_reducible rfl⟩) ?_
  go_simp
 obtain⟨D,hD⟩:∃D,Y2.heap.size=D:=⟨_,rfl⟩;refine aH A (fun K hK=> ?_);go_simp;generalize e:aq Y2 _=d;replace H:=bW e (St.a6 H.out _ D hD);clear e HQ;try rw[hD]
 obtain⟨_,_,ea,_,aG⟩:=(HP.out.bF H.out.low).at bb.out;cases ea;have aC:=M (aG _ (jI.refl _ _));clear aG;refine hK _ _ ⟨H.out.aR 2 A,aC.out⟩ ?_;clear hK K hD aC;go_simp;refine aH A (fun K hK=> ?_);obtain⟨cs,lx⟩:=St.cs H 0 A;simp only[ak]at cs;obtain⟨⟨x0,r⟩,⟨x1,t⟩,⟨x2,u⟩,⟨x3,y⟩, -⟩:=cs;go_simp;generalize e:af (af (af (af d _ _) _ _) _ _) _ _=V;replace H:=bW e (St.aB (St.aB (St.aB (St.aB H.out 0 A 0 _ A) 0 A 1 _ A) 0 A 2 _ A) 0 A 3 _ A);simp only[ab,ae]at H;clear e;clear lx x0 r x1 t x2 u x3 y;obtain⟨_,_,ea,_,aG⟩:=(HP.out.bF H.out.low).at bb.out;cases ea;have aC:=M (aG _ (jI.refl _ _));clear aG;refine hK _ _ ⟨H.out.aR 2 A,aC.out⟩ ?_;clear hK K aC;go_simp;refine aM ?_;obtain⟨cs,lx⟩:=St.cs H 0 A;simp only[ak]at cs;obtain⟨⟨x0,r⟩,⟨x1,t⟩,⟨x2,u⟩,⟨x3,y⟩, -⟩:=cs;obtain⟨cs,lr⟩:=St.cs H 1 A;simp only[ak]at cs;obtain⟨⟨r0,f⟩,⟨r1,g⟩,⟨r2,o⟩,⟨r3,q⟩, -⟩:=cs;obtain⟨cs,lp⟩:=St.cs H 2 A;simp only[ak]at cs;obtain⟨⟨p0,R⟩,⟨p1,S⟩,⟨p2,T⟩,⟨p3,aa⟩, -⟩:=cs;have C:=H.out.ne 0 1 A A (by decide);have L:=H.out.ne 0 2 A A (by decide);have P:=H.out.ne 1 0 A A (by decide);have Q:=H.out.ne 1 2 A A (by decide);have n20:=H.out.ne 2 0 A A (by decide);have n21:=H.out.ne 2 1 A A (by decide);have i2:i+1<=l.length:=bm;by_cases k1:p.k=1;{have e1:(p.k==1)=true:=(by rw[k1];rfl);go_wp2_with{};generalize e:af (af (af (af (af V _ _) _ _) _ _) _ _) _ _=V9;replace H:=bW e (St.aB (St.aB (St.aB (St.aB (St.aB H.out 2 A 1 _ A) 1 A 0 _ A) 1 A 1 _ A) 1 A 2 _ A) 1 A 3 _ A);simp only[ab,ae]at H;clear e;exact au (cd _ _ 2 _ 204 _ _ _ A A (H.out.aR 1 A) (by kernel_rfl) (by kernel_rfl)) A (nR H 2 A (by omega) i2 hz)};have e1:(p.k==1)=false:=Rm.2 k1;by_cases k2:p.k=2;{have e2:(p.k==2)=true:=(by rw[k2];rfl);go_wp2_with{};generalize e:af (af (af (af (af V _ _) _ _) _ _) _ _) _ _=V9;replace H:=bW e (St.aB (St.aB (St.aB (St.aB (St.aB H.out 2 A 1 _ A) 1 A 0 _ A) 1 A 1 _ A) 1 A 2 _ A) 1 A 3 _ A);simp only[ab,ae]at H;clear e;exact au (cd _ _ 2 _ 204 _ _ _ A A (H.out.aR 1 A) (by kernel_rfl) (by kernel_rfl)) A (nR H 2 A (by omega) i2 hz)};have e2:(p.k==2)=false:=Rm.2 k2;by_cases k3:p.k=3
 · have e3:(p.k==3)=true:=(by rw[k3];rfl);clear k1 k2 k3;go_wp2_with{};generalize e:af V _ _=V1;replace H:=bW e (St.aB H.out 2 A 1 _ A);simp only[ab,ae]at H;clear e;clear lx x0 r x1 t x2 u x3 y lr r0 f r1 g r2 o r3 q lp p0 R p1 S p2 T p3 aa C L P Q n20 n21;refine(Qo b (i+1) B bad _ l _ _ i2 (H.out.aR 2 A) (HP.out.bF H.out.low)).mono ?_;rintro e V2⟨⟨x,rfl,hx⟩,b2⟩;replace H:=M (H.out.below b2);clear b2;obtain⟨cs,lx⟩:=St.cs H 0 A;simp only[ak]at cs;obtain⟨⟨x0,r⟩,⟨x1,t⟩,⟨x2,u⟩,⟨x3,y⟩, -⟩:=cs;obtain⟨cs,lr⟩:=St.cs H 1 A;simp only[ak]at cs;obtain⟨⟨r0,f⟩,⟨r1,g⟩,⟨r2,o⟩,⟨r3,q⟩, -⟩:=cs;obtain⟨cs,lp⟩:=St.cs H 2 A;simp only[ak]at cs;obtain⟨⟨p0,R⟩,⟨p1,S⟩,⟨p2,T⟩,⟨p3,aa⟩, -⟩:=cs;have C:=H.out.ne 0 1 A A (by decide);have L:=H.out.ne 0 2 A A (by decide);have P:=H.out.ne 1 0 A A (by decide);have Q:=H.out.ne 1 2 A A (by decide);have n20:=H.out.ne 2 0 A A (by decide);have n21:=H.out.ne 2 1 A A (by decide);cases x;{clear hx;go_wp2_with{};generalize e:af (af (af (af V2 _ _) _ _) _ _) _ _=V9;replace H:=bW e (St.aB (St.aB (St.aB (St.aB H.out 1 A 0 _ A) 1 A 1 _ A) 1 A 2 _ A) 1 A 3 _ A);simp only[ab,ae]at H;clear e;exact au (cd _ _ 2 _ 204 _ _ _ A A (H.out.aR 1 A) (by kernel_rfl) (by kernel_rfl)) A (nR H 2 A (by omega) (by omega) hz)}
   · have i3:=hx A;clear hx;go_wp2_with{};refine(zD p.s _).mono ?_;rintro e V3⟨⟨m,hm,rfl⟩,rfl⟩;by_cases h0:0<m;case neg=>have h0:¬(0:Int)<(m:Int):=(by omega);go_wp2_with{};generalize e:af (af (af (af V2 _ _) _ _) _ _) _ _=V9;replace H:=bW e (St.aB (St.aB (St.aB (St.aB H.out 1 A 0 _ A) 1 A 1 _ A) 1 A 2 _ A) 1 A 3 _ A);simp only[ab,ae]at H;clear e;exact au (cd _ _ 2 _ 204 _ _ _ A A (H.out.aR 1 A) (by kernel_rfl) (by kernel_rfl)) A (nR H 2 A (by omega) (by omega) hz)
     have h1:(0:Int)<(m:Int):=(by omega);go_wp2_with{};generalize e:af V2 _ _=V4;replace H:=bW e (St.aB H.out 2 A 1 _ A);simp only[ab,ae]at H;clear e;clear lx x0 r x1 t x2 u x3 y lr r0 f r1 g r2 o r3 q lp p0 R p1 S p2 T p3 aa C L P Q n20 n21;refine(HC.out (i+1+1) (by omega) (by omega) p.s bad _ hz (H.out.aR 2 A) (HP.out.bF H.out.low)).mono ?_;rintro e V5⟨E,ka,kc,G,j,aE,rfl,c2,hb2,bl,aF,ht2,z,hs2⟩;have HS:=M hs2;replace H:=M (H.out.gi 2 _ A c2 (fe hb2) (fun _ h=>h) ht2 z A);clear c2 hb2 ht2 z hs2;simp only[ab,ae]at H;obtain⟨cs,lr⟩:=St.cs H 2 A;simp only[ak]at cs;obtain⟨⟨r0,f⟩,⟨r1,g⟩,⟨r2,o⟩,⟨r3,q⟩, -⟩:=cs;go_wp2_with{};generalize e:af (af (af (af V5 _ _) _ _) _ _) _ _=V9;replace H:=bW e (St.aB (St.aB (St.aB (St.aB H.out 2 A 0 _ A) 2 A 1 _ A) 2 A 2 _ A) 2 A 3 _ A);simp only[ab,ae]at H;clear e;exact au (cd _ _ 2 _ 204 _ _ _ A A (H.out.aR 2 A) (by kernel_rfl) (by kernel_rfl)) A (lS H 3 0 A A (by decide) (by omega) aF HS.out)
 have e3:(p.k==3)=false:=Rm.2 k3;clear k1 k2 k3;cases hm:(p.s.toList==[45]);case true=>go_wp2_with{};generalize e:af V _ _=V1;replace H:=bW e (St.aB H.out 2 A 1 _ A);simp only[ab,ae]at H;clear e;clear lx x0 r x1 t x2 u x3 y lr r0 f r1 g r2 o r3 q lp p0 R p1 S p2 T p3 aa C L P Q n20 n21;refine(HT.out (i+1) (by omega) i2 bad _ (H.out.aR 2 A) (HP.out.bF H.out.low)).mono ?_;rintro e V5⟨E,ka,kc,G,j,aE,rfl,c2,hb2,bl,aF,ht2,z,hs2⟩;have HS:=M hs2;replace H:=M (H.out.gi 2 _ A c2 (fe hb2) (fun _ h=>h) ht2 z A);clear c2 hb2 ht2 z hs2;simp only[ab,ae]at H;obtain⟨cs,lr⟩:=St.cs H 2 A;simp only[ak]at cs;obtain⟨⟨r0,f⟩,⟨r1,g⟩,⟨r2,o⟩,⟨r3,q⟩, -⟩:=cs;go_wp2_with{};generalize e:aq (af (af (af (af V5 _ _) _ _) _ _) _ _) _=V9;replace H:=bW e (St.alloc (St.aB (St.aB (St.aB (St.aB H.out 2 A 0 _ A) 2 A 1 _ A) 2 A 2 _ A) 2 A 3 _ A) _);simp only[ab,ae,size_set]at H;replace H:=M (H.out.m8 (BR (H.out.nth 0 _ A) (H.out.nth 1 _ A)) (fun _ h=>h));replace H:=M (H.out.CL (lH (k:=5) (n:=0) (s:=⟨#[45]⟩) (H.out.nth 0 _ A)) (fun _ h=>h));exact au (cd _ _ 2 _ 204 _ _ _ A A (H.out.aR 2 A) (by kernel_rfl) (by kernel_rfl)) A (lS (E:=.mk 5 0 ⟨#[45]⟩ [E]) H 3 0 A A (by decide) (by omega) aF (tX.mk (by decide) (by intro x hx;simp at hx;subst hx;exact HS.out)))
 case false=>
  cases b5:(p.s.toList==[40]);case true=>go_wp2_with{};generalize e:af V _ _=V1;replace H:=bW e (St.aB H.out 2 A 1 _ A);simp only[ab,ae]at H;clear e;clear lx x0 r x1 t x2 u x3 y lr r0 f r1 g r2 o r3 q lp p0 R p1 S p2 T p3 aa C L P Q n20 n21;refine(HE.out (i+1) (by omega) i2 1 bad _ (H.out.aR 2 A) (HP.out.bF H.out.low)).mono ?_;rintro e V5⟨E,ka,kc,G,j,aE,rfl,c2,hb2,bl,aF,ht2,z,hs2⟩;have HS:=M hs2;replace H:=M (H.out.gi 2 _ A c2 (fe hb2) (fun _ h=>h) ht2 z A);clear c2 hb2 ht2 z hs2;simp only[ab,ae]at H;go_wp2_with{};generalize e:aq V5 _=V6;replace H:=bW e (St.alloc H.out _);clear e;refine(F5 b j B aE _ l _ _ hl aF (H.out.aR 4 A) (HP.out.bF H.out.low)).mono ?_;rintro e V7⟨v,j2,bT,rfl,c3,h1,h2,h3⟩;replace H:=M (H.out.gu 4 A c3 h3 A);clear c3 h3;simp only[ab,ae]at H;obtain⟨cs,lx⟩:=St.cs H 0 A;simp only[ak]at cs;obtain⟨⟨x0,r⟩,⟨x1,t⟩,⟨x2,u⟩,⟨x3,y⟩, -⟩:=cs;obtain⟨cs,lr⟩:=St.cs H 3 A;simp only[ak]at cs;obtain⟨⟨r0,f⟩,⟨r1,g⟩,⟨r2,o⟩,⟨r3,q⟩, -⟩:=cs;have b6:=H.out.ne 0 3 A A (by decide);have b7:=H.out.ne 3 0 A A (by decide);go_wp2_with{};generalize e:af (af (af (af V7 _ _) _ _) _ _) _ _=V9;replace H:=bW e (St.aB (St.aB (St.aB (St.aB H.out 3 A 0 _ A) 3 A 1 _ A) 3 A 2 _ A) 3 A 3 _ A);simp only[ab,ae]at H;clear e;exact au (cd _ _ 2 _ 204 _ _ _ A A (H.out.aR 3 A) (by kernel_rfl) (by kernel_rfl)) A (lS H 4 1 A A (by decide) (by omega) h2 HS.out)
  case false=>go_wp2_with{};clear lx x0 r x1 t x2 u x3 y lr r0 f r1 g r2 o r3 q lp p0 R p1 S p2 T p3 aa C L P Q n20 n21;refine(BC b i B bad _ l _ hi (H.out.aR 2 A) (HP.out.bF H.out.low)).mono ?_;rintro e w3⟨rfl,c3,aO,h3⟩;replace H:=M (H.out.gu 2 A c3 h3 A);clear c3 h3;simp only[ab,ae]at H;obtain⟨cs,lr⟩:=St.cs H 1 A;simp only[ak]at cs;obtain⟨⟨r0,f⟩,⟨r1,g⟩,⟨r2,o⟩,⟨r3,q⟩, -⟩:=cs;go_wp2_with{};generalize e:af (af (af (af w3 _ _) _ _) _ _) _ _=V9;replace H:=bW e (St.aB (St.aB (St.aB (St.aB H.out 1 A 0 _ A) 1 A 1 _ A) 1 A 2 _ A) 1 A 3 _ A);simp only[ab,ae]at H;clear e;exact au (cd _ _ 2 _ 204 _ _ _ A A (H.out.aR 1 A) (by kernel_rfl) (by kernel_rfl)) A (nR H 2 A (av _) hi (by decide))
end Go.Proofs.YtbcbefpninlfiaaGreatDoor
