import Derived.Test.YtbcbefpninlfiaaGreatDoorC25
set_option maxHeartbeats 64000000
set_option maxRecDepth 100000
set_option linter.all false
open Go renaming Calls->aJ,Value->ar,World->ai
open Go.Value renaming agg->Rj,bool->Ri,int->I,slice->Z,string->U
open Go.IntKind renaming i64->J
open Go.RowKit renaming Below->ay
open Option renaming none->N,some->O
open Go.Proofs.Tryz renaming prog->ah
open Go.Ending renaming returned->Rh
open And renaming intro->ei
open Go.World renaming alloc->aq,drew->bD,setCell->af
open Or renaming inl->aI
open Go.Obj renaming cells->Ra
open Int renaming tdiv_eq_ediv_of_nonneg->iq
namespace Go.Proofs.YtbcbefpninlfiaaGreatDoor
open Go.RowKit Mor
structure Rg where
 k:Int
 field:Int
 name:Int
 more:Int
 tk:Int
 fP:Int
 expr:Int
 other:Int
structure Rr where
 k:Int
 id:Int
 bY:Int
 name:Int
 bG:List (Int×Int×Int)
 cn:Int
 p7:List Rf
 g:Rg
structure Rb where
 copy:Bool
 n:Int
 next:Int
 recs:List Rr
 bj:List Int
def QU(g:Rg):List ar:=[I J g.k,I J g.field,I J g.name,I J g.more,I J g.tk,I J g.fP,I J g.expr,I J g.other]
structure K9(g:Rg):Prop where
 k:ee g.k
 field:ee g.field
 name:ee g.name
 more:ee g.more
 tk:ee g.tk
 fP:ee g.fP
 expr:ee g.expr
 other:ee g.other
def R3(_:ai)(e:List ar)(t:Int×Int×Int):Prop:=e=[I J t.1,I J t.2.1,I J t.2.2]/\ee t.1/\ee t.2.1/\ee t.2.2
def KR(w:ai)(v:ar)(l:List (Int×Int×Int)):Prop:=cl 3 R3 w v l
theorem KR.below{w w':ai}{v:ar}{l:List (Int×Int×Int)}(h:KR w v l)(hb:ay w.heap.size w w') :KR w' v l:=cl.below (w:=w) (fun _ _ h=>h) h hb
def tG(r:Rr)(vs fs:ar):List ar:=[I J r.k,I J r.id,I J r.bY,I J r.name,vs,I J r.cn,fs,I J r.g.k,I J r.g.field,I J r.g.name,I J r.g.more,I J r.g.tk,I J r.g.fP,I J r.g.expr,I J r.g.other]
def Oq(w:ai)(e:List ar)(r:Rr):Prop:=∃vs fs,e=tG r vs fs/\KR w vs r.bG/\oO w fs r.p7/\ee r.k/\ee r.id/\ee r.bY/\ee r.name/\ee r.cn/\K9 r.g
theorem Oq.below{w w':ai}{e:List ar}{r:Rr}(h:Oq w e r)(hb:ay w.heap.size w w') :Oq w' e r:=by obtain⟨vs,fs,rfl,h1,h2,h3⟩:=h;exact⟨vs,fs,rfl,h1.below hb,h2.below hb,h3⟩
def rQ(w:ai)(v:ar)(l:List Rr):Prop:=cl 15 Oq w v l
theorem rQ.below{w w':ai}{v:ar}{l:List Rr}(h:rQ w v l)(hb:ay w.heap.size w w') :rQ w' v l:=cl.below (w:=w) (fun _ _ h=>h.below hb) h hb
def R1(_:ai)(e:List ar)(z:Int):Prop:=e=[I J z]/\ee z
def xX(w:ai)(v:ar)(l:List Int):Prop:=cl 1 R1 w v l
theorem xX.below{w w':ai}{v:ar}{l:List Int}(h:xX w v l)(hb:ay w.heap.size w w') :xX w' v l:=cl.below (w:=w) (fun _ _ h=>h) h hb
def AV(w:ai)(v:ar)(b:Rb):Prop:=∃a rc va vc,v=Rj #[Ri b.copy,I J b.n,I J b.next,Z a b.recs.length rc,Z va b.bj.length vc]/\rQ w (Z a b.recs.length rc) b.recs/\xX w (Z va b.bj.length vc) b.bj/\ee b.n/\ee b.next
theorem AV.below{w w':ai}{v:ar}{b:Rb}(h:AV w v b)(hb:ay w.heap.size w w') :AV w' v b:=by obtain⟨a,rc,va,vc,rfl,h1,h2,h3⟩:=h;exact⟨a,rc,va,vc,rfl,h1.below hb,h2.below hb,h3⟩
theorem AL{α:Type}{l r:List α}{k:Nat}{x y:α}(h:l.take k=r.take k)(hx:l[k]? =O x)(hy:r[k]? =O y)(he:x=y):l.take (k+1)=r.take (k+1):=by rw[List.take_add_one,List.take_add_one,h,hx,hy,he]
theorem DL(l r:List Int)(o p:Option Addr)(lc rc:Nat)(w:ai)(d:lJ w (Z o l.length lc) l)(hr:lJ w (Z p r.length rc) r):aJ ah 50 #[Z o l.length lc,Z p r.length rc] w fun e w'=>e=Rh (Ri (decide (l=r)))/\ay w.heap.size w w':=by
 obtain⟨t,ha⟩:∃x,decide (l=r)=x:=⟨_,rfl⟩;have c:=M ha;have q:=M d;have s:=M hr;have hmx:=Sl.le d;rw[ha];clear ha d hr;by_cases hlen:l.length=r.length
 · have d0:((l.length:Int) !=(r.length:Int))=false:=(by simp[hlen]);have j:=M hlen;clear hlen;go_in;go_wp2_with{};clear d0;go_loopw [13] (fun i wr=>∃k:Nat,k<=l.length/\i=I J k/\Hid (l.take k=r.take k)/\Hid (ay w.heap.size w wr)) (fun i _=>l.length - (intOf i).toNat);case atStart=>exact⟨0,by omega,rfl,M (by simp),M (ax _ _)⟩
   case round=>
    obtain⟨k,hk,rfl,h,b⟩:=hrel;by_cases g:k<l.length
    · have f:k<r.length:=(by have:=j.out;omega);obtain⟨x,hx⟩:∃x,l[k]? =O x:=⟨_,an g⟩;obtain⟨y,hy⟩:∃y,r[k]? =O y:=⟨_,an f⟩;obtain⟨b1,D,e1,c1⟩:=(q.out.below b.out).at hx;obtain⟨z,E,e2,c2⟩:=(s.out.below b.out).at hy;cases e1;cases e2;have B:(0:Int)<=(k:Int):=(by omega);have u:(k:Int)<(l.length:Int):=(by omega);have C:(k:Int)<(r.length:Int):=(by omega);have m:=M hx;have n:=M hy;clear hx hy;have B2:=M b.out.drew;go_wp2_with{};refine fY (by kernel_rfl) (by kernel_rfl) ?_;(repeat still_step);refine wpStill_nil ?_;clear c1 c2;by_cases he:x=y
      · have d1:(x !=y)=false:=(by simp[he]);have a:=M (AL h.out m.out n.out he);clear he;go_wp2_with{};go_roundw;case rel=>exact⟨k+1,by omega,by go_num,a,B2⟩
        case measure=>simp[intOf];omega
      {have d1:(x !=y)=true:=(by simp[he]);have a:=M (c.out.symm.trans (Rw fun e=>he (by have h1:=m.out;rw[e,n.out]at h1;exact(dc h1).symm)));clear he;go_wp2_with{};go_ret;exact⟨by rw[a.out];rfl,B2.out⟩}
    {have u:¬(k:Int)<(l.length:Int):=(by omega);have a:=M (c.out.symm.trans (Rv (show l=r by have h1:=h.out;have h2:=j.out;rwa[show k=l.length by omega,fm,h2,fm]at h1)));go_wp2_with{};go_ret;exact⟨by rw[a.out];rfl,b.out⟩}
 {have d0:((l.length:Int) !=(r.length:Int))=true:=(by simp;omega);have a:=M (c.out.symm.trans (Rw fun e=>hlen (by rw[e])));clear hlen;go_in;go_wp2_with{};go_ret;exact⟨by rw[a.out];rfl,ax _ _⟩}
theorem xE:∀{l r:List Rc},l.length≠r.length ->j5 l r=false
 | [],[],h=>absurd A h
 | [],_::_,_=>rfl
 |_::_,[],_=>rfl
 |a::l,b::r,h=>by rw[j5,xE (by simpa using h),Bool.and_false]
theorem CD{l r:List Rc}{k:Nat}{x y:Rc}(hx:l[k]? =O x)(hy:r[k]? =O y):j5 (l.drop k) (r.drop k)=(oC x y&&j5 (l.drop (k+1)) (r.drop (k+1))):=by obtain⟨h1,rfl⟩:=aA.1 hx;obtain⟨h2,rfl⟩:=aA.1 hy;rw[aY h1,aY h2,j5]
theorem DM(l r:List Rc)(la ra:Option Addr)(lc rc:Nat)(w:ai)(C:jz w (Z la l.length lc) l)(hr:jz w (Z ra r.length rc) r):aJ ah 49 #[Z la l.length lc,Z ra r.length rc, .func (.func 24) #[] #[]] w fun e w'=>e=Rh (Ri (j5 l r))/\ay w.heap.size w w':=by
 obtain⟨p,ha⟩:∃x,j5 l r=x:=⟨_,rfl⟩;have L:=M ha;have HL:=M C;have HR:=M hr;have hmx:=cl.le C;rw[ha];clear ha C hr;by_cases hlen:l.length=r.length
 · have d0:((l.length:Int) !=(r.length:Int))=false:=(by simp[hlen]);have R:=M hlen;clear hlen;go_in;go_wp2_with{};clear d0;go_loopw [17] (fun i wr=>∃k:Nat,k<=l.length/\i=I J k/\Hid (j5 (l.drop k) (r.drop k)=p)/\Hid (ay w.heap.size w wr)) (fun i _=>l.length - (intOf i).toNat);case atStart=>exact⟨0,by omega,rfl,M (by simpa using L.out),M (ax _ _)⟩
   case round=>
    obtain⟨k,hk,rfl,n,d⟩:=hrel;by_cases E:k<l.length
    · have D:k<r.length:=(by have:=R.out;omega);obtain⟨x,hx⟩:∃x,l[k]? =O x:=⟨_,an E⟩;obtain⟨y,hy⟩:∃y,r[k]? =O y:=⟨_,an D⟩;obtain⟨b1,o1,e0,z,c,_,F⟩:=cl.at (HL.out.below d.out) hx;cases z;obtain⟨xa,xn,xc,ya,yn,yc,rfl,t,q,hz1⟩:=c;obtain⟨b2,o2,e0,z,c,_,G⟩:=cl.at (HR.out.below d.out) hy;cases z;obtain⟨ua,un,uc,za,zn,zc,rfl,u,s,hz2⟩:=c;have H:=M (St.start ej wr);have i1:(0:Int)<=(k:Int):=(by omega);have i2:(k:Int)<(l.length:Int):=(by omega);have i3:(k:Int)<(r.length:Int):=(by omega);have P:=M (CD hx hy);have Q:=M (ei t (ei q (ei hz1 (ei u (ei s hz2)))));have g:=M F;have h:=M G;clear hx hy F G t q hz1 u s hz2;(iterate 2 refine iu fun K a=> ?_;go_wp2_with{};refine a.out _ _ ?_;clear a);refine iu fun KB m=> ?_;refine wp_block ?_;refine iu fun K a=> ?_;go_wp2_with(first|(with_reducible refine kE 53 ?bG ?ho_a ?aG b1 (o1+k*18) ?aN [I J x.kind,I J x.obj.id,I J x.obj.cls,I J x.obj.bY,Z xa xn xc,I J x.id,I J x.bY,U x.name,U x.cls.name,Z ya yn yc,I J x.bF.k,U x.bF.field,U x.bF.name,U x.bF.more,I J x.bF.tk,I J x.bF.fP,U x.bF.expr,U x.bF.other] (.struct (Tryz.prog.fieldsOf 53)) ?T ?az ?Y ?al ?_;case ho_a=>rfl)|(with_reducible refine mf H ?_ oB ?_;exact⟨rfl,rfl⟩));(all_goals(try(first|rfl|exact(fun j y B=>g.out j y B)|exact ef|exact e_|kernel_rfl)));clear H;intro w5 H z5;(iterate 3 go_step);(with_reducible apply sH H 0);exact⟨rfl,rfl,rfl,rfl,rfl,e_,rfl,by kernel_rfl⟩;clear H z5;intro w6 H z5;clear z5;simp only[ab]at H;refine wpList_nil ?_;refine a.out _ _ ?_;clear a;have f:=M H.out.low.aC;refine iu fun K a=> ?_;go_wp2_with(first|(with_reducible refine kE 53 ?bH ?ho_b ?aH b2 (o2+k*18) ?aO [I J y.kind,I J y.obj.id,I J y.obj.cls,I J y.obj.bY,Z ua un uc,I J y.id,I J y.bY,U y.name,U y.cls.name,Z za zn zc,I J y.bF.k,U y.bF.field,U y.bF.name,U y.bF.more,I J y.bF.tk,I J y.bF.fP,U y.bF.expr,U y.bF.other] (.struct (Tryz.prog.fieldsOf 53)) ?V ?aB ?aa ?ao ?_;case ho_b=>rfl)|(with_reducible refine mf H ?_ oB ?_;exact⟨rfl,rfl⟩));(all_goals(try(first|rfl|exact(fun j y B=>aU (h.out j y B) f.out)|exact ef|exact e_|kernel_rfl)));clear H;intro w7 H z5;(with_reducible apply sH H 0);exact⟨rfl,rfl,rfl,rfl,rfl,e_,rfl,by kernel_rfl⟩;clear H z5;intro w8 H z5;clear z5;simp only[ab]at H;refine wpList_nil ?_;refine a.out _ _ ?_;clear a;obtain⟨q1,q2,q3,q4,q5,q6⟩:=Q.out;have B1:=H.out.low.aC;have o:=M (oD x y _ _ _ _ _ ⟨q1.below B1,q2.below B1,q3⟩ ⟨q4.below B1,q5.below B1,q6⟩);clear q1 q2 q3 q4 q5 q6 B1 Q g h f;go_wp2_with(first|(with_reducible refine nq 53 ?bA ?ho_1 ?aE (wr.heap.size) ?aL #[I J x.kind,I J x.obj.id,I J x.obj.cls,I J x.obj.bY,Z xa xn xc,I J x.id,I J x.bY,U x.name,U x.cls.name,Z ya yn yc,I J x.bF.k,U x.bF.field,U x.bF.name,U x.bF.more,I J x.bF.tk,I J x.bF.fP,U x.bF.expr,U x.bF.other] 53 (0,0) _ ?ad ef ?W ?aj ?_;case ho_1=>rfl)|(with_reducible refine nq 53 ?bE ?ho_3 ?aF (w6.heap.size) ?aM #[I J y.kind,I J y.obj.id,I J y.obj.cls,I J y.obj.bY,Z ua un uc,I J y.id,I J y.bY,U y.name,U y.cls.name,Z za zn zc,I J y.bF.k,U y.bF.field,U y.bF.name,U y.bF.more,I J y.bF.tk,I J y.bF.fP,U y.bF.expr,U y.bF.other] 53 (0,0) _ ?ag ef ?X ?ak ?_;case ho_3=>rfl));(all_goals(try(first|rfl|exact(H.out.aR 0 A)|exact(H.out.aR 1 A)|exact ef|exact e_|kernel_rfl)));refine o.out.mono ?_;rintro e u3⟨rfl,S⟩;have B3:=M (d.out.trans ((H.out.low.aC.trans (S.mono H.out.base)).mono d.out.size));clear S o H;cases hs:oC x y with
      |false=>have b:=M (n.out.symm.trans (by rw[P.out,hs,Bool.false_and]));clear hs n;go_wp2_with{};go_ret;exact⟨by rw[b.out];rfl,B3.out⟩
      |true=>
       have b:=M (show j5 (l.drop (k+1)) (r.drop (k+1))=p by rw[<-n.out,P.out,hs,cY]);clear hs n;go_wp2_with{};refine m.out _ _ ?_;clear m;go_wp2_with{};go_roundw;case rel=>exact⟨k+1,by omega,by go_num,b,B3⟩
       case measure=>simp[intOf];omega
    {have i2:¬(k:Int)<(l.length:Int):=(by omega);have b:=M (n.out.symm.trans (show _=true by have h2:=R.out;rw[d_ (by omega),d_ (by omega)];rfl));go_wp2_with{};go_ret;exact⟨by rw[b.out];rfl,d.out⟩}
 {have d0:((l.length:Int) !=(r.length:Int))=true:=(by simp;omega);have b:=M (L.out.symm.trans (xE hlen));clear hlen;go_in;go_wp2_with{};go_ret;exact⟨by rw[b.out];rfl,ax _ _⟩}
theorem Ks(a b:Bt):se a b=((a.kind==b.kind)&&((a.n==b.n)&&((a.next==b.next)&&(j5 a.recs b.recs&&decide (a.bj=b.bj))))):=by
 have h:∀x y:Int,(x==y)=decide (x=y):=fun x y=>by by_cases e:x=y<;>simp[e]
 unfold se;rw[h,h,h]
theorem uG(a b:Bt)(f va g vb:Option Addr)(rc vc rd h:Nat)(w:ai)(h1:jz w (Z f a.recs.length rc) a.recs)(h2:lJ w (Z va a.bj.length vc) a.bj)(h3:jz w (Z g b.recs.length rd) b.recs)(h4:lJ w (Z vb b.bj.length h) b.bj):aJ ah 18 #[Rj #[I J a.kind,I J a.n,I J a.next,Z f a.recs.length rc,Z va a.bj.length vc],Rj #[I J b.kind,I J b.n,I J b.next,Z g b.recs.length rd,Z vb b.bj.length h]] w fun e w'=>e=Rh (Ri (se a b))/\ay w.heap.size w w':=by
 obtain⟨j,ha⟩:∃x,se a b=x:=⟨_,rfl⟩;have c:=M (ha.symm.trans (Ks a b));have d:=M (ei h1 (ei h2 (ei h3 h4)));rw[ha];clear ha h1 h2 h3 h4;have H:=M (St.start ej w);cases e1:(a.kind==b.kind)<;>cases e2:(a.n==b.n)<;>cases e3:(a.next==b.next)
 all_goals
  rw[e1,e2,e3]at c;go_in;refine iu fun K i=> ?_;go_wp2_with{};generalize e:aq (aq w _) _=X;replace H:=bW e (St.alloc (St.alloc H.out _) _);simp only[aQ]at H;clear e;refine i.out _ _ ?_;clear i;obtain⟨cs,o⟩:=St.cs H 0 A;simp only[ak]at cs;obtain⟨⟨a0,b0⟩,⟨a1,b1⟩,⟨a2,k⟩,⟨a3,l⟩,⟨a4,m⟩, -⟩:=cs;obtain⟨cs,l1⟩:=St.cs H 1 A;simp only[ak]at cs;obtain⟨⟨c0,d0⟩,⟨c1,d1⟩,⟨c2,d2⟩,⟨c3,d3⟩,⟨c4,d4⟩, -⟩:=cs;go_wp2_with{};first
  |(go_ret;exact⟨by rw[c.out];rfl,H.out.low.aC⟩)
  |skip
 have B1:=H.out.low.aC;refine(DM a.recs b.recs f g rc rd _ (d.out.1.below B1) (d.out.2.2.1.below B1)).mono ?_;rintro e p⟨rfl,g2⟩;replace H:=M (H.out.below g2);clear g2 B1;cases hs:j5 a.recs b.recs;{rw[hs]at c;clear hs;go_wp2_with{};go_ret;exact⟨by rw[c.out];rfl,H.out.low.aC⟩};{rw[hs]at c;clear hs;obtain⟨cs,o⟩:=St.cs H 0 A;simp only[ak]at cs;obtain⟨⟨a0,b0⟩,⟨a1,b1⟩,⟨a2,k⟩,⟨a3,l⟩,⟨a4,m⟩, -⟩:=cs;obtain⟨cs,l1⟩:=St.cs H 1 A;simp only[ak]at cs;obtain⟨⟨c0,d0⟩,⟨c1,d1⟩,⟨c2,d2⟩,⟨c3,d3⟩,⟨c4,d4⟩, -⟩:=cs;go_wp2_with{};have B1:=H.out.low.aC;refine(DL a.bj b.bj va vb vc h _ (d.out.2.1.below B1) (d.out.2.2.2.below B1)).mono ?_;rintro e w3⟨rfl,g3⟩;replace H:=M (H.out.below g3);clear g3 B1;go_wp2_with{};go_ret;exact⟨by rw[c.out];rfl,H.out.low.aC⟩}
structure sK(r:Rc):Prop where
 some:(jA r).isSome=true
 small:(fC r).length<=700
 id:r.obj.id<13
theorem tg{r:Rc}{l:List UInt8}(h1:1<=r.kind/\r.kind<=5)(h2:uO r=vm)(h3:qI r=.some l)(h4:l.length<=690)(a:r.obj.id<13):sK r:=by
 have hs:oC vm vm=true:=by kernel_rfl
 have hr:jA r=.some (az r.kind++l):=by{unfold jA;rw[h2,hs,h3,Rs ⟨by unfold uv;rw[Rv h1.1,Rv h1.2];rfl,rfl⟩];rfl};refine⟨by rw[hr];rfl, ?_,a⟩;have:=aN r.kind;unfold fC;rw[hr,kI,aw];omega
theorem yA{id:Int}{s:ByteArray}(h0:0<=id)(h1:id<=100000)(hs:dn s=true/\s.size<=8):sK ⟨2,oz,id,0,s,iA,nJ⟩:=by obtain⟨a,b⟩:=hs;have l1:=cZ s;have l2:=aN id;exact tg (l:=dy s++az id) (by simp) A (by unfold qI;simp[h0,h1,a]) (by rw[aw];omega) (by show(0:Int)<13;decide)
theorem GN{id:Int}{s:ByteArray}(h0:0<=id)(h1:id<=1)(hs:dn s=true/\s.size<=8):sK ⟨5,oz,id,0,s,iA,nJ⟩:=by obtain⟨a,b⟩:=hs;have l1:=cZ s;have l2:=aN id;exact tg (l:=dy s++az id) (by simp) A (by unfold qI;simp[h0,h1,a]) (by rw[aw];omega) (by show(0:Int)<13;decide)
theorem DV{id:Int}{c:pd}(h0:0<=id)(a:id<8)(hc:tW c):sK ⟨3,oz,id,0,iY,c,nJ⟩:=by have l1:=hc.bytes;have l2:=aN id;exact tg (l:=az id++eA c) (by simp) A (by unfold qI;simp[h0,a,hc.right]) (by rw[aw];omega) (by show(0:Int)<13;decide)
theorem BK{id bY:Int}{g:Cg}(h0:0<=id)(b:id<8)(h1:1<=bY)(a:bY<=12)(hw:ep g=true)(hb:(fi g).length<=660):sK ⟨4,oz,id,bY,iY,iA,g⟩:=by have l2:=aN id;have l3:=aN bY;exact tg (l:=az id++az bY++fi g) (by simp) A (by unfold qI;simp[h0,b,h1,a,hw]) (by simp only[aw];omega) (by show(0:Int)<13;decide)
theorem xL:∀(l:List Vl),(∀v∈l,uI v) ->(l.flatMap fB).length<=l.length*120
 | [],_=>by simp
 |v::l,h=>by have h1:=(h v (by simp)).2.1;have h2:=xL l fun q hq=>h q (by simp[hq]);rw[dB,aw,aS,Nat.succ_mul];omega
theorem BM{o:Ob}(h1:1<=o.id)(h2:o.id<=12)(h3:0<=o.cls)(h4:o.cls<8)(c:0<=o.bY)(h6:o.bY<=12)(b:o.bG.length<=5)(hv:∀v∈o.bG,uI v):sK ⟨1,o,0,0,iY,iA,nJ⟩:=by have l1:=xL o.bG hv;have l2:o.bG.length*120<=5*120:=dV _ b;have a1:=aN o.id;have a2:=aN o.cls;have a3:=aN o.bY;have a4:=aN o.bG.length;have hc:dv o=true:=by{unfold dv m_;simp only[aK,Rt,ba];refine⟨by omega,fun v a=> ?_⟩;obtain⟨g1,_,g2⟩:=hv v a;unfold lQ;rw[g1,g2];rfl};refine tg (l:=fE o) (by simp) A (by unfold qI;simp[hc]) ?_ (by show o.id<13;omega);unfold fE gG;simp only[aw,dB,List.flatMap_nil,a7];omega
section
section
variable {P:Program} {F:Nat ->Prop} {w0 w:ai} {L:List cM} {ops:Array Oper} {Q:Exit ->Act ->ai ->Prop} {S:ai ->Prop} {k:Nat} {o:Oper} {r:nd} {a:Act}
theorem tJ{T:TypeId}{parts:Array (Nat×Operand)}(cs:Array ar)(hs:ops[k]? =O o/\o.op=.build T parts/\Region.wanted o (yielded ops a.tmps)=true)(hr:∀W,(Instr.build T (parts.map fun(i,x)=>(i,a.eval x))).run P W=.ok (Rj cs) W)
 (h:i_ P ops Q S r (a.put o.dst (Rj cs)) w):i_ P ops Q S (.R k r) a w:=
 aj hs.1 (aI ⟨hs.2.2,fun W _=>by unfold execOp;simp only[hs.2.1,cG,hr,de,gm]⟩) h
theorem tK(H:Hid (St F w0 L w))(i:Nat){T E:TypeId}{x y:Operand}{g:Nat}{cs kX:Array ar}(hs:ops[k]? =O o/\L[i]? =O (eH g (Ra kX E (0,0)))/\o.op=.store T x y/\Region.wanted o (yielded ops a.tmps)=true/\a.eval x=.pointer (O ⟨g,0,N⟩)/\a.eval y=Rj cs/\(P.info? T).map (·.size)=O cs.size/\kX.size=cs.size/\cs.all (·.oneCell') =true)(h:∀w', Hid (St F w0 (L.set i (eH g (Ra cs E (0,0)))) w') ->S w'/\i_ P ops Q S r (a.put o.dst undef) w') :i_ P ops Q S (.call k r) a w:=by obtain⟨h0,h1,h2,h3,h4,b,h6,h7,c⟩:=hs;refine aH h0 fun K hK=> ?_;rw[Rs h3];refine wp_store_row T x y h2 g cs h4 b E kX (H.out.aR i h1) h6 h7 c ?_;have z:=h _ (M (H.out.gu i h1 (sG w g cs) (setRow_heap w g kX cs E (0,0) (H.out.aR i h1)) A));exact hK _ _ z.1 z.2
end
theorem FR(W:ai)(e:List ar)(x:Vl)(h:IX W e x):e.length=4/\∀y∈e,y.oneCell'=true:=by obtain⟨sl,rfl,b,_⟩:=h;obtain⟨a,n,c,rfl⟩:=b.slice;exact⟨rfl,by intro y hy;simp at hy;rcases hy with rfl|rfl|rfl|rfl<;>rfl⟩
def rj(w:ai)(e:Ending)(w':ai):Prop:=ay w.heap.size w w'/\∃r v G,e=Rh v/\(⟨G,fun W=>rM W v r⟩:cM).at w'/\(∀k,G k ->w.heap.size<=k)/\sK r
theorem vY{r:Rc}(h1:r.obj.bG=[])(h2:r.cls.fs=[])(a:Gf r)(W:ai):(⟨ej,fun W=>rM W (Rj (aL r (Z N 0 0) (Z N 0 0)).toArray) r⟩:cM).at W:=
 ⟨fun _ f=>f.elim,fun W' _=>⟨_,rfl,N,0,0,N,0,0,rfl,by rw[h1];exact dL _ _ _,by rw[h2];exact dL _ _ _,a⟩⟩
theorem Kw{F:Nat ->Prop}{w0:ai}{X:Prop}{α β γ:Type}(Φ:α ->β ->Prop)(L:α ->β ->Nat ->List cM)(G:α ->β ->γ ->Nat ->ai ->Prop)(h1:(∀x y z D W,Φ x y ->Hid (St F w0 (L x y D) W) ->G x y z D W) ->X)(h2:∀x y z D W,Φ x y ->Hid (St F w0 (L x y D) W) ->G x y z D W):X:=h1 h2
end
theorem Oh{W:ai}{b:Nat}{s0 s1 s2 s3 s4 a:ByteArray}(h:W.heap[b]? =O (Ra #[U s0,U s1,U s2,U s3,U s4,U a] 9 (0,0))){m:Nat}(hm:m<6):∃s,W.cell? ⟨b,m,N⟩=O (U s)/\s∈[s0,s1,s2,s3,s4,a]:=by rcases(show m=0\/m=1\/m=2\/m=3\/m=4\/m=5 by omega)with rfl|rfl|rfl|rfl|rfl|rfl;{exact⟨_,(ag h 0).trans A,by simp⟩};{exact⟨_,(ag h 1).trans A,by simp⟩};{exact⟨_,(ag h 2).trans A,by simp⟩};{exact⟨_,(ag h 3).trans A,by simp⟩};{exact⟨_,(ag h 4).trans A,by simp⟩};{exact⟨_,(ag h 5).trans A,by simp⟩}
theorem wY{base:Nat}{W:ai}{a:Option Addr}{c:Nat}{fs:List iF}(h:cA 131 4 base (Z a fs.length c) (fs.map ug) W)(hn:∀f∈fs,f.name∈xj):je W (Z a fs.length c) fs:=by have h2:=Eu.2 h;exact tj h2 fun f hf=>by have:=(qP _ (hn f hf)).2;omega
def Qc(w:ai)(C:Nat)(nm:ByteArray)(n:Int)(a:Option Addr)(rn rc:Nat)(fs:List iF)(v:ar):List cM:=
 [mV 131 4 w.heap.size v (fs.map ug),eH C (Ra #[U nm,v] 28 (0,0)),eH (w.heap.size+1+1) (Ra #[U ⟨#[97]⟩,U ⟨#[98,50]⟩,U ⟨#[110,97,109,101]⟩,U ⟨#[110,101,120,116,95,111,110,101]⟩,U ⟨#[107,105,100,115]⟩,U ⟨#[120]⟩] 9 (0,0)),eH (w.heap.size+1) (Ra #[U ⟨#[]⟩,Z N 0 0] 28 (0,0)),eH w.heap.size (Ra #[I J n,Z a rn rc] 70 (0,0))]
structure OA(k:Nat)(fs:List iF):Prop where
 len:fs.length<=k
 some:0<k ->fs≠[]
 ok:tt fs=true
 names:∀f∈fs,f.name∈xj
theorem J2{k:Nat}{fs:List iF}{f:iF}(h:OA k fs)(hf:ic f=true)(hn:pC f.name fs=false)(hm:f.name∈xj):OA (k+1) (fs++[f]):=
 ⟨by simp;exact h.len,fun _=>by simp,Hd h.ok hf hn,fun g hg=>by rcases gL.1 hg with hg|hg;exact h.names g hg;rw[cm.1 hg];exact hm⟩
theorem Mk{k:Nat}{fs:List iF}{s:ByteArray}(h:OA k fs)(hn:pC s fs=true):OA (k+1) fs:=
 ⟨by have:=h.len;omega,fun _ e=>by subst e;simp[pC,findF]at hn,h.ok,h.names⟩
theorem yx{a:ByteArray}{k o:Int}{c:Bool}(h:dn a=true)(h2:gN k o=true)(h3:c=true ->k<=3):ic ⟨a,k,o,c⟩=true:=by show(dn a&&(gN k o&&(!c|| decide (k<=3))))=true;rw[h,h2];cases c;{rfl};{simp[h3 A]}
theorem GF(fs:List iF)(a:ByteArray)(b c:Int)(d:Bool):fs.map ug++[[U a,I J b,I J c,Ri d]]=(fs++[(⟨a,b,c,d⟩:iF)]).map ug:=by simp[ug]
def PK(w:ai)(C:Nat)(nm:ByteArray)(n:Int)(a:Option Addr)(rn rc:Nat)(i:ar)(wr:ai):Prop:=∃(k:Nat) (fs:List iF) (v:ar),i=I J k/\k<=rn/\k<=6/\Hid (OA k fs)/\Hid (St ej w (Qc w C nm n a rn rc fs v) wr)
theorem KQ{x:Code}{Q:Exit ->Act ->ai ->Prop}{a:Act}{w w0:ai}{F:Nat ->Prop}(b:Nat ->Act)(L:Nat ->List cM)(h1:x.wp ah (fun e a w=>e=.normal/\∃D,a=b D/\Hid (St F w0 (L D) w)) a w)(h2:∀D w,Hid (St F w0 (L D) w) ->Q .normal (b D) w):x.wp ah Q a w:=by refine Code.wp_mono ?_ h1;rintro e a w⟨rfl,D,rfl,h⟩;exact h2 D w h
def Qe(b:Nat)(W:ai):Prop:=W.heap[b]? =O (Ra #[U ⟨#[97]⟩,U ⟨#[98,50]⟩,U ⟨#[110,97,109,101]⟩,U ⟨#[110,101,120,116,95,111,110,101]⟩,U ⟨#[107,105,100,115]⟩,U ⟨#[120]⟩] 9 (0,0))
theorem MF{j:Nat}(a:j<6):∃f,f∈xj/\∀(W:ai) (b:Nat),Qe b W ->W.cell? ⟨b,j,N⟩=O (U f):=by rcases(show j=0\/j=1\/j=2\/j=3\/j=4\/j=5 by omega)with rfl|rfl|rfl|rfl|rfl|rfl;{exact⟨_,by simp[xj],fun W b h=>(ag h 0).trans A⟩};{exact⟨_,by simp[xj],fun W b h=>(ag h 1).trans A⟩};{exact⟨_,by simp[xj],fun W b h=>(ag h 2).trans A⟩};{exact⟨_,by simp[xj],fun W b h=>(ag h 3).trans A⟩};{exact⟨_,by simp[xj],fun W b h=>(ag h 4).trans A⟩};{exact⟨_,by simp[xj],fun W b h=>(ag h 5).trans A⟩}
def KY(l:List Rf)(w:ai)(e:Ending)(w':ai):Prop:=ay w.heap.size w w'/\∃c v G,e=Rh v/\(⟨G,fun W=>qp W v c⟩:cM).at w'/\(∀k,G k ->w.heap.size<=k)/\tW c/\(l≠[] ->c.fs≠[])
theorem om(n:Int)(hn:ee n)(ra:Option Addr)(rc:Nat)(l:List Rf)(w:ai)(hr:oO w (Z ra l.length rc) l):aJ ah 30 #[Rj #[I J n,Z ra l.length rc]] w (KY l w):=by
 have HR:=M hr;have hmx:=cl.le hr;have HP:=M (fun W=>ij n 6 hn (by omega) (by omega) W);have b6:=cP n 6 (by omega);generalize cH n 6=z at*;obtain⟨m,rfl⟩:∃m:Nat,z=m:=⟨z.toNat,by omega⟩;clear hr hn;have H:=M (St.start ej w);go_in;go_wp2_with{};generalize e:aq (aq (aq (aq w _) _) _) _=X;replace H:=bW e (St.alloc (St.alloc (St.alloc (St.alloc H.out _) _) _) _);simp only[aQ]at H;clear e;refine(HP.out _).mono ?_;rintro e w2⟨rfl,b2⟩;replace H:=M (H.out.below b2);clear b2 HP;obtain⟨nm,cz,T⟩:=Oh (H.out.aR 0 A) (show m<6 by omega);have t:=M (show dn nm=true/\nm.size<=8 by simp only[bh,bV,or_false]at T;rcases T with rfl|rfl|rfl|rfl|rfl|rfl<;>exact⟨by decide,by decide⟩);clear T;have i0:(0:Int)<=(m:Int):=by omega
 have i6:(m:Int)<6:=by omega
 go_wp2_with{};generalize e:aq w2 _=Y;have z2:=iD e (n:=w2.heap.size+1) (by simp);replace H:=bW e (St.alloc H.out _);clear e cz;replace H:=M (H.out.more (j4 (jj 131 4 w.heap.size _)) (fun k hk=>(by cases hk)) (fun _ _ _ _ hk=>(by cases hk)));obtain⟨C,hC⟩:∃C,w2.heap.size=C:=⟨_,rfl⟩;rw[hC]at H z2⊢;clear hC;replace H:=M (H.out.drop 2);go_loopw [5] (fun i wr=>PK w C nm n ra l.length rc i wr) (fun i _=>6 - (intOf i).toNat);case atStart=>unfold PK;exact⟨0,[],_,rfl,by omega,by omega,M ⟨by simp,by omega,rfl,by simp⟩,H⟩
 case round=>
  clear H z2;obtain⟨k,fs,v,rfl,hk,aE,g,H⟩:=hrel;have b7:fs.length<=k:=g.out.len;obtain⟨va,vc,rfl⟩:=cA.slice (H.out.get 0 _ A:cA _ _ _ v _ wr);rw[bq]at H;unfold Qc at H;obtain⟨cs,ln⟩:=St.cs H 4 A;simp only[ak]at cs;obtain⟨⟨G,s0⟩,⟨r1,s1⟩, -⟩:=cs;have i1:(0:Int)<=(k:Int):=(by omega);by_cases bj:k<l.length
  · have i2:(k:Int)<(l.length:Int):=(by omega);by_cases b8:k<6
    · have i3:(k:Int)<6:=(by omega);obtain⟨r,aF⟩:∃r,l[k]? =O r:=⟨_,an bj⟩;obtain⟨b,o,e,ea,⟨rfl,aL,aG,aN⟩, -,hc⟩:=cl.at (HR.out.below H.out.low.aC) aF;cases ea;have q0:wr.cell? ⟨b,o+k*4,N⟩=O (I J r.n):=hc 0 _ A;have q1:wr.cell? ⟨b,o+k*4+1,N⟩=O (I J r.k):=hc 1 _ A;have q2:wr.cell? ⟨b,o+k*4+1+1,N⟩=O (I J r.o):=hc 2 _ A;have q3:wr.cell? ⟨b,o+k*4+1+1+1,N⟩=O (Ri r.ix):=hc 3 _ A;clear hc aF;have Q:=M (fun W=>ij r.n 6 aL (by omega) (by omega) W);have u:=M (fun W=>ij r.k 5 aG (by omega) (by omega) W);have aX:=M (fun W=>ij r.o 4 aN (by omega) (by omega) W);have bb:=cP r.n 6 (by omega);have b5:=cP r.k 5 (by omega);have b4:=cP r.o 4 (by omega);generalize cH r.n 6=m1 at*;generalize cH r.k 5=y at*;generalize cH r.o 4=x at*;obtain⟨j,rfl⟩:∃j:Nat,m1=j:=⟨m1.toNat,by omega⟩;clear aL aG aN;have bk:IntKind.i64.wrap (1+y)=1+y:=bo _ (by omega);obtain⟨R,hR⟩:∃R,wr.heap.size=R:=⟨_,rfl⟩;go_wp2_with{};generalize e:aq wr _=X;replace H:=bW e (St.a6 H.out _ R hR);have z3:=iD e (n:=R+1) (by simp[hR]);clear e q0 q1 q2 q3 G r1 s0 s1 ln;clear hR;obtain⟨S,az,hg⟩:=MF (show j<6 by omega);have HG:=M hg;clear hg;have j6:(j:Int)<6:=(by omega);have j0:(0:Int)<=(j:Int):=(by omega);apply KQ (F:=ej) (w0:=w)
      case' h1=>
       refine bM (fun W:ai=>W.heap[R]? =O (Ra #[I J r.n,I J r.k,I J r.o,Ri r.ix] 129 (0,0))/\Qe (w.heap.size+1+1) W) (.R 0 (.R 1 (.R 2 (.R 6 (.R 7 (.two 3 (.R 4 (.R 5 (.two 8 (.R 9 (.R 10 (.R 11 (.call 12 (.call 13 .done))))) 12 (.call 8 (.R 9 (.R 10 (.R 11 (.call 13 .done)))))))) 12 (.call 3 (.R 4 (.R 5 (.call 8 (.R 9 (.R 10 (.R 11 (.call 13 .done)))))))))))))) (by kernel_rfl) (by kernel_rfl) (fun _ _ _ _ _ h=>(by cases h.1)) ⟨H.out.drew.aR 0 A,H.out.drew.aR 3 A⟩ ?_;replace H:=M H.out.drew;generalize bD X=a at*;(iterate 5 refine aj A (aI ⟨by rfl,fun W hS=>by have g0:=(ag hS.1 0).trans A;have g1:=(ag hS.1 1).trans A;clear hS;go_simp;try with_reducible rfl⟩) ?_;go_simp);refine dY ?oa ?ob
       case' oa=>
        refine aH A (fun K hK=> ?_);go_simp;refine(Q.out _).mono ?_;rintro e w3⟨rfl,d⟩;replace H:=M (H.out.below d);clear d;refine hK _ _ ⟨H.out.aR 0 A,H.out.aR 3 A⟩ ?_;clear hK K;go_simp;(iterate 2 refine aj A (aI ⟨by rfl,fun W hS=>by have g0:=HG.out W _ hS.2;clear hS;go_simp;try with_reducible rfl⟩) ?_;go_simp);refine dY ?oc ?od;case' oc=>refine aH rfl (fun K hK=> ?_);go_simp;refine(u.out _).mono ?_;rintro e w4⟨rfl,d⟩;replace H:=M (H.out.below d);clear d;refine hK _ _ ⟨H.out.aR 0 A,H.out.aR 3 A⟩ ?_;clear hK K;go_simp;(iterate 3 refine aj A (aI ⟨by rfl,fun W hS=>by clear hS;go_simp;try with_reducible rfl⟩) ?_;go_simp);obtain⟨D,p⟩:∃D,w4.heap.size=D:=⟨_,rfl⟩;refine aH A (fun K hK=> ?_);go_simp;generalize e:aq w4 _=V;replace H:=bW e (St.a6 H.out _ D p);clear e;(try rw[p]);refine hK _ _ ⟨H.out.aR 1 A,H.out.aR 4 A⟩ ?_;clear hK K p;go_simp
        case' od=>obtain⟨D,p⟩:∃D,w3.heap.size=D:=⟨_,rfl⟩;refine aH A (fun K hK=> ?_);go_simp;generalize e:aq w3 _=w4;replace H:=bW e (St.a6 H.out _ D p);clear e;(try rw[p]);refine hK _ _ ⟨H.out.aR 1 A,H.out.aR 4 A⟩ ?_;clear hK K p;go_simp;refine aH A (fun K hK=> ?_);go_simp;refine(u.out _).mono ?_;rintro e V⟨rfl,d⟩;replace H:=M (H.out.below d);clear d;refine hK _ _ ⟨H.out.aR 1 A,H.out.aR 4 A⟩ ?_;clear hK K;go_simp;iterate 3 refine aj A (aI ⟨by rfl,fun W hS=>by clear hS;go_simp;try with_reducible rfl⟩) ?_;go_simp
       case' ob=>obtain⟨D,p⟩:∃D,a.heap.size=D:=⟨_,rfl⟩;refine aH A (fun K hK=> ?_);go_simp;generalize e:aq a _=w3;replace H:=bW e (St.a6 H.out _ D p);clear e;(try rw[p]);refine hK _ _ ⟨H.out.aR 1 A,H.out.aR 4 A⟩ ?_;clear hK K p;go_simp;refine aH A (fun K hK=> ?_);go_simp;refine(Q.out _).mono ?_;rintro e w4⟨rfl,d⟩;replace H:=M (H.out.below d);clear d;refine hK _ _ ⟨H.out.aR 1 A,H.out.aR 4 A⟩ ?_;clear hK K;go_simp;(iterate 2 refine aj A (aI ⟨by rfl,fun W hS=>by have g0:=HG.out W _ hS.2;clear hS;go_simp;try with_reducible rfl⟩) ?_;go_simp);refine aH A (fun K hK=> ?_);go_simp;refine(u.out _).mono ?_;rintro e V⟨rfl,d⟩;replace H:=M (H.out.below d);clear d;refine hK _ _ ⟨H.out.aR 1 A,H.out.aR 4 A⟩ ?_;clear hK K;go_simp;iterate 3 refine aj A (aI ⟨by rfl,fun W hS=>by clear hS;go_simp;try with_reducible rfl⟩) ?_;go_simp
       all_goals obtain⟨cs,ld⟩:=St.cs H 0 A;simp only[ak]at cs;obtain⟨⟨G,s0⟩,⟨r1,s1⟩,⟨r2,s2⟩,⟨r3,s3⟩, -⟩:=cs;refine aH A (fun K hK=> ?_);go_simp;generalize e:af (af (af (af V _ _) _ _) _ _) _ _=V2;replace H:=bW e (St.aB (St.aB (St.aB (St.aB H.out 0 A 0 _ A) 0 A 1 _ A) 0 A 2 _ A) 0 A 3 _ A);simp only[ab,ae]at H;clear e G s0 r1 s1 r2 s2 r3 s3 ld;refine hK _ _ ⟨H.out.aR 1 A,H.out.aR 4 A⟩ ?_;clear hK K;go_simp;exact aM ⟨rfl,D,rfl,H⟩
      case h2=>
       clear H;intro D V H;clear Q u HG bk bb z3;obtain⟨cs,ld⟩:=St.cs H 0 A;simp only[ak]at cs;obtain⟨⟨G,s0⟩,⟨r1,s1⟩,⟨r2,s2⟩,⟨r3,s3⟩, -⟩:=cs;obtain⟨cs,lR⟩:=St.cs H 1 A;simp only[ak]at cs;obtain⟨⟨g0,f0⟩,⟨g1,f1⟩,⟨g2,f2⟩,⟨g3,f3⟩, -⟩:=cs;obtain⟨cs,lC⟩:=St.cs H 3 A;simp only[ak]at cs;obtain⟨⟨c0,d0⟩,⟨c1,d1⟩, -⟩:=cs;have nD:=H.out.ne 0 1 A A (by decide);have E:=H.out.ne 1 0 A A (by decide);have nC:=H.out.ne 0 3 A A (by decide);have B:=H.out.ne 3 0 A A (by decide);have b9:IntKind.i64.wrap (1+x)=1+x:=bo _ (by omega);have ao:=M (qP S az).1;by_cases hy:y=4;case' pos=>subst hy;go_wp2_with{};refine(aX.out _).mono ?_;rintro e V3⟨rfl,d⟩;replace H:=M (H.out.below d);clear d;clear G s0 r1 s1 r2 s2 r3 s3 ld g0 f0 g1 f1 g2 f2 g3 f3 lR c0 d0 c1 d1 lC nD E nC B;obtain⟨cs,ld⟩:=St.cs H 0 A;simp only[ak]at cs;obtain⟨⟨G,s0⟩,⟨r1,s1⟩,⟨r2,s2⟩,⟨r3,s3⟩, -⟩:=cs;obtain⟨cs,lR⟩:=St.cs H 1 A;simp only[ak]at cs;obtain⟨⟨g0,f0⟩,⟨g1,f1⟩,⟨g2,f2⟩,⟨g3,f3⟩, -⟩:=cs;obtain⟨cs,lC⟩:=St.cs H 3 A;simp only[ak]at cs;obtain⟨⟨c0,d0⟩,⟨c1,d1⟩, -⟩:=cs;have nC:=H.out.ne 0 3 A A (by decide);have B:=H.out.ne 3 0 A A (by decide);have nD:=H.out.ne 0 1 A A (by decide);have E:=H.out.ne 1 0 A A (by decide);have q:=M (yx (c:=false) ao.out (show gN (1+4) (1+x)=true by unfold gN;rw[Rs (by omega)];exact Rv (by omega)) (fun h=>(by cases h)));cases bf:r.ix;all_goals go_wp2_with{};generalize e:af (af V3 _ _) _ _=V4;replace H:=bW e (St.aB (St.aB H.out 0 A 2 _ A) 0 A 3 _ A);clear nD E nC B g0 f0 g1 f1 g2 f2 g3 f3 lR c0 d0 c1 d1 lC
       case' neg=>
        have d5:(1+y==5)=false:=(by simp;omega);have s:=M (fun c=>yx (c:=c) ao.out (show gN (1+y) 0=true by unfold gN;rw[Rq (by omega)];exact Rv (by omega)));cases bf:r.ix;case' false=>have q:=M (s.out false (fun h=>(by cases h)))
        case' true=>
         by_cases h3:1+y<=3;case' pos=>have q:=M (s.out true (fun _=>h3))
         case' neg=>have q:=M (s.out false (fun h=>(by cases h)))
        all_goals clear s;go_wp2_with{};generalize e:af V _ _=V4;replace H:=bW e (St.aB H.out 0 A 3 _ A);clear nD E nC B g0 f0 g1 f1 g2 f2 g3 f3 lR c0 d0 c1 d1 lC
       all_goals
        (try simp only[ab,ae]at H);clear e G s0 r1 s1 r2 s2 r3 s3 ld;have L:∀f∈fs,f.name∈xj:=g.out.names;refine(kD nm S fs va vc _ (wY (H.out.get 2 _ A) L)).mono ?_;clear L;rintro e V5⟨rfl,d⟩;replace H:=M (H.out.below d);clear d;obtain⟨cs,ld⟩:=St.cs H 0 A;simp only[ak]at cs;obtain⟨⟨G,s0⟩,⟨r1,s1⟩,⟨r2,s2⟩,⟨r3,s3⟩, -⟩:=cs;obtain⟨cs,lC⟩:=St.cs H 3 A;simp only[ak]at cs;obtain⟨⟨c0,d0⟩,⟨c1,d1⟩, -⟩:=cs;cases hm:pC S fs
        · have P:cA _ _ _ _ _ V5:=H.out.get 2 _ A;have zb:w.heap.size<=V5.heap.size:=H.out.base;go_wp2_with(at_builtin;refine lZ A _ _ A M5 w.heap.size _ (fs.map ug) [_,_,_,_] V5 A A P A A (by intro x hx;simp at hx;rcases hx with rfl|rfl|rfl|rfl<;>rfl) (by rw[bq];omega) zb ?_);intro v2 w9 o2 g2 a2;replace H:=M ((H.out.keep (gX _ _ _)).app 2 A o2 g2 (by rw[aQ];exact a2) A);obtain⟨cj,ck,rfl⟩:=cA.slice o2;rw[aw,bq,dN]at H;clear o2 g2 a2 P zb c0 d0 c1 d1 lC G s0 r1 s1 r2 s2 r3 s3 ld;simp only[GF,ab,ae]at H;obtain⟨cs,lC⟩:=St.cs H 3 A;simp only[ak]at cs;obtain⟨⟨c0,d0⟩,⟨c1,d1⟩, -⟩:=cs;rw[aw,bq,dN];go_wp2_with{};generalize e:af w9 _ _=V9;replace H:=bW e (St.aB H.out 3 A 1 _ A);simp only[ab,ae]at H;go_roundw;case rel=>unfold PK;exact⟨k+1,fs++[_],_,by go_num,by omega,by omega,M (J2 g.out q.out hm az),M (H.out.drop 0|>.drop 0)⟩
          case measure=>simp[intOf];omega
        · go_wp2_with{};go_roundw;case rel=>unfold PK;exact⟨k+1,fs,_,by go_num,by omega,by omega,M (Mk g.out hm),M (H.out.drop 0|>.drop 0)⟩
          case measure=>simp[intOf];omega
    {have i3:¬(k:Int)<6:=(by omega);obtain⟨cs,ln⟩:=St.cs H 1 A;simp only[ak]at cs;obtain⟨⟨bm,bs⟩,⟨bn,bt⟩, -⟩:=cs;obtain⟨cs,lr⟩:=St.cs H 3 A;simp only[ak]at cs;obtain⟨⟨bA,bF⟩,⟨bE,bG⟩, -⟩:=cs;have n1:=H.out.ne 1 3 A A (by decide);have n2:=H.out.ne 3 1 A A (by decide);go_wp2_with{};generalize e:af (af wr _ _) _ _=V;replace H:=bW e (St.aB (St.aB H.out 3 A 0 _ A) 3 A 1 _ A);simp only[ab,ae]at H;have hr:=H.out.nth 0 _ A;refine au (cd _ _ 2 _ 28 _ _ _ A A (H.out.aR 3 A) (by kernel_rfl) (by kernel_rfl)) A ⟨H.out.low.aC,⟨nm,fs⟩,_,_,rfl,⟨hr.dom,fun W hW=> ?_⟩,fun k hk=>(bp (hr.hold:cA _ _ _ _ _ _) k hk).1,⟨t.out,bc g.out.len aE,g.out.ok,g.out.names⟩,fun hne=>g.out.some (by have:=eO.2 hne;omega)⟩;exact⟨_,rfl,wY (hr.loc W hW) g.out.names,bc t.out.2 (by omega)⟩}
  {have i2:¬(k:Int)<(l.length:Int):=(by omega);obtain⟨cs,ln⟩:=St.cs H 1 A;simp only[ak]at cs;obtain⟨⟨bm,bs⟩,⟨bn,bt⟩, -⟩:=cs;obtain⟨cs,lr⟩:=St.cs H 3 A;simp only[ak]at cs;obtain⟨⟨bA,bF⟩,⟨bE,bG⟩, -⟩:=cs;have n1:=H.out.ne 1 3 A A (by decide);have n2:=H.out.ne 3 1 A A (by decide);go_wp2_with{};generalize e:af (af wr _ _) _ _=V;replace H:=bW e (St.aB (St.aB H.out 3 A 0 _ A) 3 A 1 _ A);simp only[ab,ae]at H;have hr:=H.out.nth 0 _ A;refine au (cd _ _ 2 _ 28 _ _ _ A A (H.out.aR 3 A) (by kernel_rfl) (by kernel_rfl)) A ⟨H.out.low.aC,⟨nm,fs⟩,_,_,rfl,⟨hr.dom,fun W hW=> ?_⟩,fun k hk=>(bp (hr.hold:cA _ _ _ _ _ _) k hk).1,⟨t.out,bc g.out.len aE,g.out.ok,g.out.names⟩,fun hne=>g.out.some (by have:=eO.2 hne;omega)⟩;exact⟨_,rfl,wY (hr.loc W hW) g.out.names,bc t.out.2 (by omega)⟩}
theorem pP{F:Nat ->Prop}{w0:ai}{X:Prop}(L:Nat ->List cM)(G:Nat ->ai ->Prop)(h1:(∀D W,Hid (St F w0 (L D) W) ->G D W) ->X)(h2:∀D W,Hid (St F w0 (L D) W) ->G D W):X:=h1 h2
def K1(fs:List iF)(e:Ending):Prop:=∃s b,e=Rh (.tuple #[U s,Ri b])/\(b=true ->∃f∈fs,f.name=s)
theorem BD(nm:ByteArray)(fs:List iF)(c k o:Int)(hn:ee c)(B:Option Addr)(p:Nat)(w:ai)(hf:je w (Z B fs.length p) fs)(h8:fs.length<=8):aJ ah 115 #[Rj #[U nm,Z B fs.length p],I J c,Rj #[I J k,I J o]] w fun e w'=>K1 fs e/\ay w.heap.size w w':=by
 have G:=M hf;have L:=M (fun W=>lj c 100 hn (by omega) (by omega) W);have T:=cP c 100 (by omega);generalize cH c 100=z at*;obtain⟨m,rfl⟩:∃m:Nat,z=m:=⟨z.toNat,by omega⟩;clear hn hf;have H:=M (St.start ej w);go_in;go_wp2_with{};generalize e:aq (aq w _) _=X;replace H:=bW e (St.alloc (St.alloc H.out _) _);simp only[aQ]at H;clear e;go_loopw [8] (fun i wr=>∃k':Nat,k'<=fs.length/\i=I J k'/\Hid (St ej w [eH (w.heap.size+1) (Ra #[I J k,I J o] 30 (0,0)),eH w.heap.size (Ra #[U nm,Z B fs.length p] 28 (0,0))] wr)) (fun i _=>fs.length - (intOf i).toNat);case atStart=>exact⟨0,by omega,rfl,H⟩
 case round=>
  clear H;obtain⟨i,hi,rfl,H⟩:=hrel;obtain⟨cs,l1⟩:=St.cs H 1 A;simp only[ak]at cs;obtain⟨⟨a0,b0⟩,⟨a1,b1⟩, -⟩:=cs;obtain⟨cs,r⟩:=St.cs H 0 A;simp only[ak]at cs;obtain⟨⟨s,x0⟩,⟨t,x1⟩, -⟩:=cs;by_cases n:i<fs.length
  · have i2:(i:Int)<(fs.length:Int):=(by omega);obtain⟨j,P⟩:∃j,(m+i) % fs.length=j:=⟨_,rfl⟩;have hne:¬fs=[]:=fun h=>by rw[h]at n;exact absurd n (by simp)
    have E:j<fs.length:=(by rw[<-P];exact jT _ (by omega));have Y:((m:Int)+(i:Int)).tmod (fs.length:Int)=(j:Int):=(by rw[<-P];exact_mod_cast rfl);have hw:IntKind.i64.wrap ((m:Int)+(i:Int))=(m:Int)+(i:Int):=bo _ (by omega);obtain⟨f,g⟩:∃f,fs[j]? =O f:=⟨_,an E⟩;obtain⟨b,o', y,_, -⟩:=lP G.out g;cases y
    have u:=M (fun W(S:ay w.heap.size w W)=>by
     obtain⟨b2,o2,y,_,q⟩:=lP (je.below G.out S) g;cases y;exact q)
    go_wp2_with{};clear a0 b0 a1 b1 s x0 t x1 r l1;refine bM (fun W:ai=>W.heap[w.heap.size]? =O (Ra #[U nm,Z (O ⟨b,o', N⟩) fs.length p] 28 (0,0))/\ay w.heap.size w W) (.R 0 (.R 1 (.R 2 (.R 4 (.R 6 (.R 7 (.R 8 (.two 3 (.R 5 (.R 9 (.R 10 (.R 11 (.call 12 (.call 13 .done)))))) 12 (.call 3 (.R 5 (.R 9 (.R 10 (.R 11 (.call 13 .done)))))))))))))) (by kernel_rfl) (by kernel_rfl) (fun _ _ _ _ _ h=>h) ⟨H.out.drew.aR 1 A,H.out.drew.low.aC⟩ ?_;replace H:=M H.out.drew;generalize bD wr=a at*;(iterate 7 refine aj A (aI ⟨by rfl,fun W hS=>by have c1:=(ag hS.1 1).trans A;obtain⟨q0,q1,q2,q3⟩:=u.out W hS.2;clear hS;go_simp;try with_reducible rfl⟩) ?_;go_simp);apply pP (F:=ej) (w0:=w);case' h1=>intro C;refine dY ?_ ?_;{skip;refine aH A (fun K hK=> ?_);go_simp;refine(L.out _).mono ?_;rintro e x⟨rfl,l⟩;replace H:=M (H.out.below l);clear l;refine hK _ _ ⟨H.out.aR 1 A,H.out.low.aC⟩ ?_;clear hK K;go_simp;(iterate 4 refine aj A (aI ⟨by rfl,fun W hS=>by have c1:=(ag hS.1 1).trans A;obtain⟨q0,q1,q2,q3⟩:=u.out W hS.2;clear hS;go_simp;try with_reducible rfl⟩) ?_;go_simp);obtain⟨D,d⟩:∃D,x.heap.size=D:=⟨_,rfl⟩;refine aH A (fun K hK=> ?_);go_simp;generalize e:aq x _=R;replace H:=bW e (St.a6 H.out _ D d);clear e;(try rw[d]);refine hK _ _ ⟨H.out.aR 2 A,H.out.low.aC⟩ ?_;clear hK K d;go_simp;all_goals exact C D _ H};{skip;obtain⟨D,d⟩:∃D,a.heap.size=D:=⟨_,rfl⟩;refine aH A (fun K hK=> ?_);go_simp;generalize e:aq a _=x;replace H:=bW e (St.a6 H.out _ D d);clear e;(try rw[d]);refine hK _ _ ⟨H.out.aR 2 A,H.out.low.aC⟩ ?_;clear hK K d;go_simp;refine aH A (fun K hK=> ?_);go_simp;refine(L.out _).mono ?_;rintro e R⟨rfl,l⟩;replace H:=M (H.out.below l);clear l;refine hK _ _ ⟨H.out.aR 2 A,H.out.low.aC⟩ ?_;clear hK K;go_simp;(iterate 4 refine aj A (aI ⟨by rfl,fun W hS=>by have c1:=(ag hS.1 1).trans A;obtain⟨q0,q1,q2,q3⟩:=u.out W hS.2;clear hS;go_simp;try with_reducible rfl⟩) ?_;go_simp);all_goals exact C D _ H}
    clear H;intro D V H;refine aH A (fun K hK=> ?_);obtain⟨cs,r⟩:=St.cs H 0 A;simp only[ak]at cs;obtain⟨⟨s,x0⟩,⟨t,x1⟩,⟨Q,x2⟩,⟨y3,x3⟩, -⟩:=cs;go_simp;generalize e:af (af (af (af V _ _) _ _) _ _) _ _=V2;replace H:=bW e (St.aB (St.aB (St.aB (St.aB H.out 0 A 0 _ A) 0 A 1 _ A) 0 A 2 _ A) 0 A 3 _ A);simp only[ab,ae]at H;clear e s x0 t x1 Q x2 y3 x3 r;refine hK _ _ ⟨H.out.aR 2 A,H.out.low.aC⟩ ?_;clear hK K;go_simp;refine aM ?_;obtain⟨cs,r⟩:=St.cs H 0 A;simp only[ak]at cs;obtain⟨⟨s,x0⟩,⟨t,x1⟩,⟨Q,x2⟩,⟨y3,x3⟩, -⟩:=cs;obtain⟨cs,l1⟩:=St.cs H 1 A;simp only[ak]at cs;obtain⟨⟨a0,b0⟩,⟨a1,b1⟩, -⟩:=cs;go_wp2_with{}
    all_goals first
     |exact⟨⟨i+1,by omega,by go_num,M (H.out.drop 0)⟩,by simp[intOf];omega⟩
     |(go_ret2;exact⟨⟨_,_,rfl,fun _=>⟨f,aP g,rfl⟩⟩,H.out.low.aC⟩)
  {have i2:¬(i:Int)<(fs.length:Int):=(by omega);go_wp2_with{};go_ret2;exact⟨⟨_,_,rfl,fun h=>(by cases h)⟩,H.out.low.aC⟩}
def xl:List (List UInt8):=[55]::xj.map (·.data.toList)
def xK:List (List UInt8):=[34,97,32,98,34]::xj.map (·.data.toList)
def N1(l:List UInt8):Bool:=dK ⟨l.toArray⟩ true
def Fm(u v:List UInt8):List (List UInt8):=[[],[51],u,u++[32,42,32,50,32,45,32,49],[108,101,110,40]++v++[41],[105,102,40]++u++[32,62,32,50,44,32]++u++[44,32,48,32,45,32]++u++[41],[102,105,110,100,40,34,98,34,44,32]++v++[41],u++[32,47,32]++u]
def Jw(u v:List UInt8):List (List UInt8):=[[],[34,120,34],v,v++[32,38,32,34,45,34,32,38,32]++v,[116,101,120,116,40]++u++[41],[108,101,102,116,40]++v++[44,32,50,41],[102,114,111,109,40]++v++[44,32,51,41],[105,102,40]++u++[32,61,32,49,44,32]++v++[44,32,34,110,111,34,41]]
theorem Jv:(xl.all fun u=>xK.all fun v=>(Fm u v).all N1)=true:=by kernel_rfl
theorem Jy:(xl.all fun u=>xK.all fun v=>(Jw u v).all N1)=true:=by kernel_rfl
theorem Bo{W:ai}{b:Nat}{s0 s1 s2 s3 s4 a c d:ByteArray}(h:W.heap[b]? =O (Ra #[U s0,U s1,U s2,U s3,U s4,U a,U c,U d] 9 (0,0))){m:Nat}(hm:m<8):∃s,W.cell? ⟨b,m,N⟩=O (U s)/\s∈[s0,s1,s2,s3,s4,a,c,d]:=by rcases(show m=0\/m=1\/m=2\/m=3\/m=4\/m=5\/m=6\/m=7 by omega)with rfl|rfl|rfl|rfl|rfl|rfl|rfl|rfl;{exact⟨_,(ag h 0).trans A,by simp⟩};{exact⟨_,(ag h 1).trans A,by simp⟩};{exact⟨_,(ag h 2).trans A,by simp⟩};{exact⟨_,(ag h 3).trans A,by simp⟩};{exact⟨_,(ag h 4).trans A,by simp⟩};{exact⟨_,(ag h 5).trans A,by simp⟩};{exact⟨_,(ag h 6).trans A,by simp⟩};{exact⟨_,(ag h 7).trans A,by simp⟩}
theorem PD{n:Int}(h:ee n):ee (n.tdiv 2):=by unfold ee at*;by_cases h0:0<=n;{rw[iq h0];omega};{obtain⟨m,rfl⟩:∃m,n= -m:=⟨-n,by omega⟩;rw[Int.neg_tdiv,iq (by omega)];omega}
theorem Eo{fs:List iF}{s:ByteArray}{b:Bool}(h6:∀f∈fs,f.name∈xj)(h:b=true ->∃f∈fs,f.name=s)(hb:b=true):s∈xj:=by obtain⟨f,hf,rfl⟩:=h hb;exact h6 f hf
theorem zH(s:ByteArray)(l:List UInt8)(h:s.data.toList=l):dK s true=N1 l:=by subst h;unfold N1;rw[Array.toArray_toList]
theorem Aj{s:ByteArray}(h:s∈xj):s.data.toList∈xl:=cE _ (List.mem_map_of_mem (f:=fun x:ByteArray=>x.data.toList) h)
theorem FZ{s:ByteArray}(h:s∈xj):s.data.toList∈xK:=cE _ (List.mem_map_of_mem (f:=fun x:ByteArray=>x.data.toList) h)
theorem Qv{u v x:List UInt8}(hu:u∈xl)(hv:v∈xK)(hx:x∈Fm u v):N1 x=true:=ba.1 (ba.1 (ba.1 Jv u hu) v hv) x hx
theorem QQ{u v x:List UInt8}(hu:u∈xl)(hv:v∈xK)(hx:x∈Jw u v):N1 x=true:=ba.1 (ba.1 (ba.1 Jy u hu) v hv) x hx
theorem JS{s:ByteArray}(h:s∈xj):N1 s.data.toList=true:=Qv (Aj h) (df ..) (by simp[Fm])
theorem Oi{u v s:ByteArray}(hu:u.data.toList∈xl)(hv:v.data.toList∈xK)(hs:s∈[⟨#[]⟩,⟨#[51]⟩,u,u++⟨#[32,42,32,50,32,45,32,49]⟩,⟨#[108,101,110,40]⟩++v++⟨#[41]⟩,⟨#[105,102,40]⟩++u++⟨#[32,62,32,50,44,32]⟩++u++⟨#[44,32,48,32,45,32]⟩++u++⟨#[41]⟩,⟨#[102,105,110,100,40,34,98,34,44,32]⟩++v++⟨#[41]⟩,u++⟨#[32,47,32]⟩++u]):dK s true=true:=by refine(zH s _ A).trans (Qv hu hv ?_);simp only[bh,bV,or_false]at hs;rcases hs with rfl|rfl|rfl|rfl|rfl|rfl|rfl|rfl<;>simp[Fm,ByteArray.data_append]
theorem Oj{u v s:ByteArray}(hu:u.data.toList∈xl)(hv:v.data.toList∈xK)(hs:s∈[⟨#[]⟩,⟨#[34,120,34]⟩,v,v++⟨#[32,38,32,34,45,34,32,38,32]⟩++v,⟨#[116,101,120,116,40]⟩++u++⟨#[41]⟩,⟨#[108,101,102,116,40]⟩++v++⟨#[44,32,50,41]⟩,⟨#[102,114,111,109,40]⟩++v++⟨#[44,32,51,41]⟩,⟨#[105,102,40]⟩++u++⟨#[32,61,32,49,44,32]⟩++v++⟨#[44,32,34,110,111,34,41]⟩]):dK s true=true:=by refine(zH s _ A).trans (QQ hu hv ?_);simp only[bh,bV,or_false]at hs;rcases hs with rfl|rfl|rfl|rfl|rfl|rfl|rfl|rfl<;>simp[Jw,ByteArray.data_append]
def K0(e:Ending):Prop:=∃s,e=Rh (U s)/\dK s true=true
theorem DQ(nm:ByteArray)(fs:List iF)(n k o:Int)(hn:ee n)(r:Option Addr)(t:Nat)(w:ai)(hf:je w (Z r fs.length t) fs)(z:fs.length<=8)(h6:∀f∈fs,f.name∈xj):aJ ah 66 #[I J n,Rj #[I J k,I J o],Rj #[U nm,Z r fs.length t]] w fun e w'=>K0 e/\ay w.heap.size w w':=by
 have l:=M (fun n k o(hn:ee n)W(G:ay w.heap.size w W)=>BD nm fs n k o hn r t W (je.below hf G) z);obtain⟨q,hq⟩:∃q:Int,n.tdiv 2=q:=⟨_,rfl⟩;have HI:=M (show ee n/\ee q from⟨hn,hq▸PD hn⟩);have K: -9223372036854775808<=q/\q<9223372036854775808:=HI.out.2;have L:IntKind.i64.wrap q=q:=bo _ (by omega);have j:=M h6;clear hn hf h6 z;have H:=M (St.start ej w);go_in;go_wp2_with{};generalize e:aq (aq w _) _=X;replace H:=bW e (St.alloc (St.alloc H.out _) _);simp only[aQ]at H;clear e;obtain⟨cs,l1⟩:=St.cs H 0 A;simp only[ak]at cs;obtain⟨⟨a0,b0⟩,⟨a1,b1⟩, -⟩:=cs;go_wp2_with{};refine(l.out _ _ _ HI.out.1 _ H.out.low.aC).mono ?_;rintro e P⟨⟨s1,c1,rfl,h1⟩,d⟩;have h:=M (Eo j.out h1);replace H:=M (H.out.below d);clear d h1 a0 b0 a1 b1 l1;obtain⟨cs,l1⟩:=St.cs H 0 A;simp only[ak]at cs;obtain⟨⟨a0,b0⟩,⟨a1,b1⟩, -⟩:=cs;go_wp2_with{};refine(l.out _ _ _ HI.out.2 _ H.out.low.aC).mono ?_;rintro e w3⟨⟨s2,c2,rfl,h2⟩,d⟩;have i:=M (Eo j.out h2);replace H:=M (H.out.below d);clear d h2 a0 b0 a1 b1 l1;obtain⟨cs,l1⟩:=St.cs H 0 A;simp only[ak]at cs;obtain⟨⟨a0,b0⟩,⟨a1,b1⟩, -⟩:=cs;obtain⟨cs,l2⟩:=St.cs H 1 A;simp only[ak]at cs;obtain⟨⟨d0,e0⟩,⟨d1,e1⟩, -⟩:=cs;have c:=M (fun W=>lj n 8 HI.out.1 (by omega) (by omega) W);have b:=M (fun W=>lj n 3 HI.out.1 (by omega) (by omega) W);have g:=cP n 8 (by omega);have hz3:=cP n 3 (by omega);generalize cH n 8=C at*;generalize cH n 3=z3 at*;obtain⟨m,rfl⟩:∃m:Nat,C=m:=⟨C.toNat,by omega⟩;have u:(0:Int)<=(m:Int):=by omega
 have x:(m:Int)<8:=g.2;by_cases y:k=1;{subst y;clear b hz3;rcases c1 with _|_<;>rcases c2 with _|_;all_goals(try have hz1:=(qP _ (h.out (by trivial))).2);(try have hz2:=(qP _ (i.out (by trivial))).2);go_wp2_with{};generalize e:aq w3 _=Y;replace H:=bW e (St.alloc H.out _);clear e;refine(c.out _).mono ?_;rintro e B⟨rfl,a⟩;replace H:=M (H.out.below a);obtain⟨s,hc,hs⟩:=Bo (H.out.aR 0 A) (show m<8 by omega);have p:=M hs;clear hs a a0 b0 a1 b1 d0 e0 d1 e1 l1 l2;go_wp2_with{};go_ret;exact⟨⟨s,rfl,Oi (by first|exact Aj (h.out (by trivial))|exact df ..) (by first|exact FZ (i.out (by trivial))|exact df ..) p.out⟩,H.out.low.aC⟩};have E:(k==1)=false:=Rm.2 y;by_cases k2:k=2;{subst k2;clear b hz3;rcases c1 with _|_<;>rcases c2 with _|_;all_goals(try have hz1:=(qP _ (h.out (by trivial))).2);(try have hz2:=(qP _ (i.out (by trivial))).2);go_wp2_with{};generalize e:aq w3 _=Y;replace H:=bW e (St.alloc H.out _);clear e;refine(c.out _).mono ?_;rintro e B⟨rfl,a⟩;replace H:=M (H.out.below a);obtain⟨s,hc,hs⟩:=Bo (H.out.aR 0 A) (show m<8 by omega);have p:=M hs;clear hs a a0 b0 a1 b1 d0 e0 d1 e1 l1 l2;go_wp2_with{};go_ret;exact⟨⟨s,rfl,Oj (by first|exact Aj (h.out (by trivial))|exact df ..) (by first|exact FZ (i.out (by trivial))|exact df ..) p.out⟩,H.out.low.aC⟩};have F:(k==2)=false:=Rm.2 k2;clear y k2 c g u x;rcases c1 with _|_<;>rcases c2 with _|_;all_goals go_wp2_with{};refine(l.out _ _ _ HI.out.1 _ H.out.low.aC).mono ?_;rintro e B⟨⟨s3,c3,rfl,h3⟩,a⟩;have D:=M (Eo j.out h3);replace H:=M (H.out.below a);clear a h3 a0 b0 a1 b1 d0 e0 d1 e1 l1 l2;rcases c3 with _|_;{go_wp2_with{};go_ret;exact⟨⟨_,rfl,by kernel_rfl⟩,H.out.low.aC⟩};go_wp2_with{};refine(b.out _).mono ?_;rintro e Q⟨rfl,a⟩;replace H:=M (H.out.below a);clear a;by_cases h0:0<z3;{go_wp2_with{};go_ret;exact⟨⟨_,rfl,(zH _ _ A).trans (JS (D.out (by trivial)))⟩,H.out.low.aC⟩};{go_wp2_with{};go_ret;exact⟨⟨_,rfl,by kernel_rfl⟩,H.out.low.aC⟩}
def GX:List ByteArray:=[⟨#[110,101,119,95,49]⟩,⟨#[109,111,114,101]⟩,⟨#[122,57]⟩,⟨#[97]⟩,⟨#[110,97,109,101]⟩,⟨#[107,105,100,115]⟩]
theorem Ag:∀s∈GX,dn s=true/\s.size<=8:=by intro s hs;simp only[GX,bh,bV,or_false]at hs;rcases hs with rfl|rfl|rfl|rfl|rfl|rfl<;>exact⟨by decide,by decide⟩
def Gs(k:Int)(f n m:ByteArray)(tk fP:Int)(e o:ByteArray):Cg:=
 if k=1 then⟨1,iY,n,iY,tk,fP,e,iY⟩
 else if k=3 then⟨3,f,n,iY,0,0,iY,iY⟩
 else if k=4 then⟨4,f,iY,iY,tk,fP,e,iY⟩
 else if k=5 then⟨5,f,n,m,tk,fP,e,o⟩
 else⟨k,f,iY,iY,0,0,iY,iY⟩
theorem vX(b:Bool):dK iY b=true:=by unfold dK;rfl
theorem nt{k:Int}{f n m:ByteArray}{tk fP:Int}{e o:ByteArray}(hk:1<=k/\k<=6)(hf:k=1\/dn f=true)(hn:n∈GX)(hm:m∈GX)(a:gN tk fP=true)(he:dK e true=true)(ho:dK o true=true):ep (Gs k f n m tk fP e o)=true:=by
 have c:=(Ag n hn).1;have m1:=(Ag m hm).1;have z:iY.size=0:=rfl;have t0:gN 0 0=false:=by decide
 by_cases d:k=1;{subst d;simp[Gs,ep,nW,tU,m', c,a,he,vX,z]};have f1:=hf.resolve_left d;by_cases k3:k=3;{subst k3;simp[Gs,ep,nW,tU,m', c,f1,vX,z,t0]};by_cases g:k=4;{subst g;simp[Gs,ep,nW,tU,m', f1,a,he,vX,z]};by_cases h:k=5;{subst h;simp[Gs,ep,nW,tU,m', c,m1,f1,a,he,ho]};have b:k=2\/k=6:=by omega
 rcases b with rfl|rfl<;>simp[Gs,ep,nW,tU,m', f1,vX,z,t0]
theorem C'{g:Cg}(h:ep g=true):(fi g).length<=660:=by have w:=q_ h;have l1:=aN g.k;have l2:=aN g.tk;have l3:=aN g.fP;have a1:=cZ g.field;have a2:=cZ g.name;have a3:=cZ g.more;have a4:=cZ g.expr;have a5:=cZ g.other;unfold fi;simp only[aw];omega
end Go.Proofs.YtbcbefpninlfiaaGreatDoor
