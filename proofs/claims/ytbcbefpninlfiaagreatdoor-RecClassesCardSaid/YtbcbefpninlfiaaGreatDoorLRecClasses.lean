/- Proved: the card of the statement RecClasses, as it is given, for every input. Conditions: none but the given row's own. -/
import Derived.Test.YtbcbefpninlfiaaGreatDoorC30
import Derived.Test.YtbcbefpninlfiaaGreatDoorCards
import Derived.Test.YtbcbefpninlfiaaGreatDoorTie
import Derived.SevenTiedAt
set_option maxHeartbeats 64000000
set_option maxRecDepth 100000
set_option linter.all false
open Go renaming Calls->aJ,TypeId->bR,Value->ar,World->ai
open Go.Value renaming agg->Rj,bool->Ri,int->I,slice->Z,string->U
open Go.Proofs.Tryz renaming prog->ah
open Go.Ending renaming returned->Rh
open Go.RowKit renaming Below->ay
open Go.IntKind renaming i64->J
open Go.Obj renaming cells->Ra
open Option renaming none->N,some->O
open Go.Calls renaming mono->im
namespace Go.Proofs.YtbcbefpninlfiaaGreatDoor
open Go.Proofs.Tryz
section
open Go.RowKit Mor
theorem RZ(c:pd)(a ga:Option Addr)(b gc:Nat)(w:ai)(hf:je w (Z a c.fs.length b) c.fs)(hg:je w (Z ga c.fs.length gc) c.fs):aJ ah 34 #[Rj #[U c.name,Z a c.fs.length b],Rj #[U c.name,Z ga c.fs.length gc]] w fun e w'=>e=Rh (Ri true)/\ay w.heap.size w w':=by
 have _:=uJ w;have hmx:=cl.le hf;have h:=M hf;have j:=M hg;clear hf hg;have e1:(c.name.toList==c.name.toList)=true:=beq_self_eq_true _;go_in;go_wp2_with{};go_loopw [5] (fun i wr=>∃k:Nat,i=I J k/\k<=c.fs.length/\f_ wr w ej [eH (w.heap.size+1) (Ra #[U c.name,Z ga c.fs.length gc] 28 (0,0)),eH w.heap.size (Ra #[U c.name,Z a c.fs.length b] 28 (0,0))]) (fun i _=>c.fs.length - (intOf i).toNat);case atStart=>exact⟨0,rfl,by omega,inferInstance⟩
 case round=>
  obtain⟨k,rfl,hk,_⟩:=hrel;have r:(0:Int)<=(k:Int):=(by omega);by_cases d:k<c.fs.length
  · have p:(k:Int)<(c.fs.length:Int):=(by omega);obtain⟨f,hf⟩:∃f,c.fs[k]? =O f:=⟨_,an d⟩;obtain⟨b1,s,l,n,f1,f2,f3,f4⟩:=lP (h.out.below (cW (W:=wr))) hf;cases l;obtain⟨q,t,m,g,g1,g2,g3,g4⟩:=lP (j.out.below (cW (W:=wr))) hf;cases m;have hq:∀W:ai,(binOp .neq 131 (Rj #[U f.name,I J f.k,I J f.o,Ri f.ix]) (Rj #[U f.name,I J f.k,I J f.o,Ri f.ix])).run ah W=.ok (Ri false) W:=fun W=>by rw[run_neq_struct,P9,Lw.2 A];rfl
    have hm:Tryz.prog.eqGuardType Tryz.prog.depth 131=false:=QL;clear hf;go_wp2_with{};refine fY (by kernel_rfl) (by kernel_rfl) ?_;(repeat still_step);refine wpStill_nil ?_;go_wp2_with{};go_roundw;case rel=>exact⟨k+1,by go_num,by omega,inferInstance⟩
    case measure=>simp[intOf];omega
  {have p:¬(k:Int)<(c.fs.length:Int):=(by omega);go_wp2_with{};go_ret;exact⟨rfl,cW⟩}
theorem Sa{c:pd}{a ga:Option Addr}{b gc:Nat}{w:ai}(hf:je w (Z a c.fs.length b) c.fs)(hg:je w (Z ga c.fs.length gc) c.fs)(d:c.name.size<=9223372036854775807):aJ ah 33 #[Rj #[U c.name,Z a c.fs.length b],Rj #[U c.name,Z ga c.fs.length gc]] w fun e w'=>e=Rh (Ri true)/\ay w.heap.size w w':=by have:=Ib c c _ _ w ⟨_,rfl,hf,d⟩ ⟨_,rfl,hg,d⟩;rwa[yW.2 A]at this
theorem R_(a:Cg)(w:ai):aJ ah 35 #[ss a,ss a] w fun e w'=>e=Rh (Ri true)/\ay w.heap.size w w':=by have _:=uJ w;have b:=OU a a;rw[yX.2 A]at b;unfold ss at b⊢;go_in;go_wp2_with{};go_ret;exact⟨rfl,cW⟩
end
section
open Go.RowKit Mor
def Rk(S:cM)(b:Bt)(sr sv:ar)(R:cM):Prop:=∃G es,R=⟨G,fun W=>(qn G es b sr sv).hold W/\S.hold W⟩
class RN(L:List cM)(r t:cM)(L':outParam (List cM)):Prop where
 at':∃i,L[i]? =O r/\L.set i t=L'
instance Sr{L:List cM}{r t:cM}:RN (r::L) r t (t::L):=⟨0,rfl,rfl⟩
instance(priority:=low)Ss{L L':List cM}{r t s:cM}[h:RN L r t L'] :RN (s::L) r t (s::L') :=by obtain⟨i,h1,rfl⟩:=h.at'; exact⟨i+1,h1,by rw[ae]⟩
class RM(L:List cM)(r:cM)(L':outParam (List cM)):Prop where
 sub:L'.Sublist L
instance Sp{L:List cM}{r:cM}:RM (r::L) r L:=⟨List.sublist_cons_self _ _⟩
instance(priority:=low)Sq{L L':List cM}{r s:cM}[h:RM L r L'] :RM (s::L) r (s::L') :=⟨h.sub.cons₂ _⟩
theorem Rp{r:cM}{W W':ai}(h:r.at W)(b:ay W.heap.size W W') :r.at W':=h.bF (.eP (F:=ej) b) fun _ _ f=>f
section
variable {W W' w0:ai} {F:Nat ->Prop} {L L':List cM} {S R r t:cM} {b:Bt} {sr sv:ar}
theorem RJ [h:f_ W w0 F L](hb:ay W.heap.size W W')(a:t.at W')(hf:∀k,t.gY k ->r.gY k\/W.heap.size<=k)[p:RN L r t L'] :f_ W' w0 F L':=by obtain⟨i,h1,rfl⟩:=p.at'; exact⟨h.st.call i _ h1 (.eP hb) a hf⟩
theorem aa(r:cM)[h:f_ W w0 F L][d:RM L r L'] :f_ W w0 F L':=⟨⟨h.st.low,fun r hr=>h.st.mem r (d.sub.subset hr),h.st.apart.sublist d.sub⟩⟩
theorem Sb [h:f_ W w0 F L][k:Nk L r]:r.at W:=(h.st.mem _ k.mem).1
theorem Rk.rs(h:Rk S b sr sv R)(k:R.at W):jz W sr b.recs:=by obtain⟨G,es,rfl⟩:=h;exact BZ k.hold.1
theorem Rk.ns(h:Rk S b sr sv R)(k:R.at W):lJ W sv b.bj:=by obtain⟨G,es,rfl⟩:=h;exact k.hold.1.2.2.2
theorem Rk.s(h:Rk S b sr sv R)(k:R.at W):S.hold W:=by obtain⟨G,es,rfl⟩:=h;exact k.hold.2
theorem Sh{G:Nat ->Prop}{es:List (List ar)}(hb:ay W.heap.size W W')(hS:S.at W)(hB:(qn G es b sr sv).at W')(d:∀k,G k ->W.heap.size<=k):∃R,R.at W'/\(∀k,R.gY k ->S.gY k\/W.heap.size<=k)/\Rk S b sr sv R:=
 have a:=Rp hS hb
 ⟨⟨fun k=>G k\/S.gY k,_⟩,⟨fun k hk=>hk.elim (hB.dom k) (a.dom k),fun c h2=>⟨hB.loc c fun k hk=>h2 k (.inl hk),a.loc c fun k hk=>h2 k (.inr hk)⟩⟩,fun k hk=>hk.elim (fun h=>.inr (d k h)) .inl,_,es,rfl⟩
theorem Sf{k:Nat}{n x:Int}{sa ta:Option Addr}{sc tc:Nat}{r:Rc}{m fr:ar}(f:Ga k 1 n x b)(hk:k<=14)(hx:13<=x)(hg:sK r)(hb:Rk S b (Z sa b.recs.length sc) (Z ta b.bj.length tc) R)(hR:R.at W)(hr:∀W,S.hold W ->Gd W (aL r m fr) r):aJ ah 31 #[Rj #[I J b.kind,I J b.n,I J b.next,Z sa b.recs.length sc,Z ta b.bj.length tc],Rj (aL r m fr).toArray,I J 0] W fun e w'=>ay W.heap.size W w'/\∃a sa sc ta tc R', e=Rh (Rj #[I J a.kind,I J a.n,I J a.next,Z sa a.recs.length sc,Z ta a.bj.length tc])/\R'.at w'/\(∀k,R'.gY k ->R.gY k\/W.heap.size<=k)/\Rk S a (Z sa a.recs.length sc) (Z ta a.bj.length tc) R'/\Ga (k+1) 1 n x a:=by obtain⟨G,es,rfl⟩:=hb;have h1:(qn G es b (Z sa b.recs.length sc) (Z ta b.bj.length tc)).at W:=⟨hR.dom,fun W' c=>(hR.loc W' c).1⟩;have h2:(⟨G,S.hold⟩:cM).at W:=⟨hR.dom,fun W' c=>(hR.loc W' c).2⟩;refine(FJ b es f.fine (bc f.len hk) sa sc ta tc G r hg.some m fr G 0 W h1 ⟨h2.dom,fun W' c=>hr W' (h2.loc W' c)⟩).mono ?_;rintro e w'⟨hb,d,t,u,s,rfl,h3,h4⟩;obtain⟨g,i,j,l,rfl,rfl⟩:=so h3.hold;have p:=Rp h2 hb;exact⟨hb,_,g,i,j,l,⟨fun k=>s k\/G k,_⟩,rfl,⟨fun k hk=>hk.elim (h3.dom k) (p.dom k),fun o q=>⟨h3.loc o fun k hk=>q k (.inl hk),p.loc o fun k hk=>q k (.inr hk)⟩⟩,fun k hk=>hk.elim (fun h=>(h4 k h).imp_left fun h=>h.elim id id) .inl,⟨_,d,rfl⟩,qS f hg hx fun h=>absurd h (by decide)⟩
theorem RD{n x:Int}(a:Ga 14 1 n x b):mG b=O (aT b):=uT (a.fine.right (by have:=a.len;omega) (eO.2 (a.pos (by decide)))) a.len a.small
theorem Sm{n x:Int}{sa ta:Option Addr}{sc tc:Nat}{aE aF:Addr}{B:Nat}(a:Ga 14 1 n x b)(hn:ee b.n)(he:Env aE aF B W)(hb:Rk S b (Z sa b.recs.length sc) (Z ta b.bj.length tc) R)(hR:R.at W):aJ ah 14 #[Rj #[I J b.kind,I J b.n,I J b.next,Z sa b.recs.length sc,Z ta b.bj.length tc]] W fun e w'=>e=Rh (.tuple #[U (bs (aT b)),I J 0])/\ay W.heap.size W w':=by have:=pz b sa ta sc tc W he (hb.rs hR) (hb.ns hR) hn;rwa[RD a]at this
theorem Sk{n x:Int}{aE aF:Addr}{B:Nat}(a:Ga 14 1 n x b)(hn:ee b.n)(he:Env aE aF B W):aJ ah 27 #[U (bs (aT b))] W fun e w'=>ay W.heap.size W w'/\∃c rc va vc,e=Rh (.tuple #[Rj #[I J b.kind,I J b.n,I J b.next,Z c b.recs.length rc,Z va b.bj.length vc],I J 0])/\jz w' (Z c b.recs.length rc) b.recs/\lJ w' (Z va b.bj.length vc) b.bj:=by have h:=nM (s:=bs (aT b)) (by rw[fx];have:=(sx (RD a)).2.2;omega) W he;rwa[oS hn (by rw[RD a,ng])]at h
end
section
variable {P:Program} {F:Nat ->Prop} {w w0:ai} {L:List cM} {ops:Array Oper} {o:Oper} {a:Act} {K:Act ->ai ->Prop} {Q:Exit ->Act ->ai ->Prop}
theorem Sc{b:Prop}(hw:Region.wanted o (yielded ops a.tmps)=true)(h:o.wp P a w K Q):if Region.wanted o (yielded ops a.tmps)=true then o.wp P a w K Q else b:=by rw[Rs hw];exact h
theorem Ro{T:bR}{cs:Array ar}(ho:o.op=.alloc T)(b:∀W,(zeroValue T).run P W=.ok (Rj cs) W)[h:f_ w w0 F L](hK:∀D w', w.heap.size=D ->f_ w' w0 F (eH D (Ra cs T)::L) ->w.heap.size<=w'.heap.size ->K (a.put o.dst (.pointer (O ⟨D,0,N⟩))) w') :o.wp P a w K Q:=by unfold Oper.wp execOp;simp only[ho,cG,Instr.alloc,b,newVar,newRow,run_newObj_alloc,gm,de];exact hK _ _ A FV (by simp)
end
section
variable {P:Program} {F:Nat ->Prop} {w w0:ai} {L L':List cM} {ops:Array Oper} {o:Oper} {a:Act} {K:Act ->ai ->Prop} {Q:Exit ->Act ->ai ->Prop} {e i:Nat} {r:nd}
theorem RK{T E g:Nat}{x y:Operand}{cs kX:Array ar}(ho:o.op=.store T x y)(hx:a.eval x=.pointer (O ⟨g,0,N⟩))(hy:a.eval y=Rj cs)[h:f_ w w0 F L][k:qd L g (Ra kX E (0,0))][p:AW L g (Ra cs E (0,0)) L'](hi:(P.info? T).map (·.size)=O cs.size)(hold:kX.size=cs.size)(h1:cs.all (·.oneCell') =true)(hK:∀w', f_ w' w0 F L' ->w.heap.size<=w'.heap.size ->K (a.put o.dst undef) w') :o.wp P a w K Q:=
 wp_store_row T x y ho g cs hx hy E kX kR hi hold h1 (hK _ (Ky (sG w g cs) (setRow_heap w g kX cs E (0,0) kR)) (by simp))
theorem Sg{id:Nat}[h:f_ w w0 F L](e:Nat)(s:nd)(hm:P.follows .mixedOrders=true)(hB:(Kt ops e s&&s.late e)=true)(b:∀t v c a w,Q (.panic c) (a.put (O t) v) w ->Q (.panic c) a w)(hK:kQ P ops Q (fun W=>f_ W w0 F L) e s a w.drew):(Code.region id ops true).wp P Q a w:=kh _ e s hm hB b ⟨h.st.drew⟩ hK
theorem RY{S:ai ->Prop}{T:bR}{parts:Array (Nat×Operand)}(cs:Array ar)(hs:ops[i]? =O o/\o.op=.build T parts/\Region.wanted o (yielded ops a.tmps)=true)(hr:∀W,(Instr.build T (parts.map fun(i,x)=>(i,a.eval x))).run P W=.ok (Rj cs) W)(h:kQ P ops Q S e r (a.put o.dst (Rj cs)) w):kQ P ops Q S e (.R i r) a w:=
 cD hs.1 (.inl ⟨hs.2.2,fun W _=>by unfold execOp;simp only[hs.2.1,cG,hr,de,gm]⟩) h
instance Si{u W:ai}{j:Nat}{v:ar}[h:jd u W]:jd u (W.setCell ⟨u.heap.size,j,N⟩ v):=⟨h.b.setCell (p:=⟨u.heap.size,j,N⟩) (av _) v⟩
end
theorem Sj{X:Prop}(a G:ar ->Nat ->Bt ->Option Addr ->Nat ->Option Addr ->Nat ->cM ->ai ->Prop)(h1:(∀v D b s t u y R W,a v D b s t u y R W ->G v D b s t u y R W) ->X)(h2:∀v D b s t u y R W,a v D b s t u y R W ->G v D b s t u y R W):X:=h1 h2
theorem RX{W:ai}{a:Option Addr}{n c:Nat}{l:List Rc}(h:jz W (Z a n c) l){k:Nat}{r:Rc}(hr:l[k]? =O r):∃g o i m,a=O ⟨g,o,N⟩/\je W (Z i r.cls.fs.length m) r.cls.fs/\r.cls.name.size<=9223372036854775807/\∀W', ay W.heap.size W W' ->W'.cell? ⟨g,o+k*18,N⟩=O (I J r.kind)/\W'.cell? ⟨g,o+k*18+8,N⟩=O (U r.cls.name)/\W'.cell? ⟨g,o+k*18+8+1,N⟩=O (Z i r.cls.fs.length m)/\W'.cell? ⟨g,o+k*18+10,N⟩=O (I J r.bF.k)/\W'.cell? ⟨g,o+k*18+10+1,N⟩=O (U r.bF.field)/\W'.cell? ⟨g,o+k*18+10+1+1,N⟩=O (U r.bF.name)/\W'.cell? ⟨g,o+k*18+10+1+1+1,N⟩=O (U r.bF.more)/\W'.cell? ⟨g,o+k*18+10+1+1+1+1,N⟩=O (I J r.bF.tk)/\W'.cell? ⟨g,o+k*18+10+1+1+1+1+1,N⟩=O (I J r.bF.fP)/\W'.cell? ⟨g,o+k*18+10+1+1+1+1+1+1,N⟩=O (U r.bF.expr)/\W'.cell? ⟨g,o+k*18+10+1+1+1+1+1+1+1,N⟩=O (U r.bF.other):=by obtain⟨g,o,e,s,⟨w,z,x,p,yn,q,rfl,u,d,f⟩, -,hq⟩:=cl.at h hr;obtain⟨a', D,e', -⟩:=id d;obtain⟨B,C,e2⟩:=cl.slice d;cases e2;have hc:∀W', ay W.heap.size W W' ->∀j y,(aL r (Z w z x) (Z p r.cls.fs.length q))[j]? =O y ->W'.cell? ⟨g,o+k*18+j,N⟩=O y:=fun W' b j y t=>aU (hq j y t) b;exact⟨g,o,p,q,s,d,f.2.1,fun W' b=>⟨hc W' b 0 _ A,hc W' b 8 _ A,hc W' b 9 _ A,hc W' b 10 _ A,hc W' b 11 _ A,hc W' b 12 _ A,hc W' b 13 _ A,hc W' b 14 _ A,hc W' b 15 _ A,hc W' b 16 _ A,hc W' b 17 _ A⟩⟩
end
section
open Go.RowKit Mor
theorem Ry(x:Rb)(v:ar)(n:Int)(L:Option Addr)(P:Nat)(l:List Rf)(g:Rg)(k:Int)(w:ai){B:Nat}{aE aF:Addr}(he:Env aE aF B w)(hx:AV w v x)(hn:ee n)(hl:oO w (Z L l.length P) l)(hg:K9 g)(hk:ee k):aJ ah 9 #[v,Rj #[I J n,Z L l.length P],Rj (QU g).toArray,I J k] w fun e w'=>e=Rh (Ri true)/\ay w.heap.size w w':=by
 have _:=uJ w;have HE:=M he;obtain⟨ra,rc,va,vc,rfl,h1,h2,h3,h4⟩:=hx;have bN:=M fun W(h:ay w.heap.size w W)=>rQ.below h1 h;have bT:=M fun W(h:ay w.heap.size w W)=>xX.below h2 h;have HY:=M (And.intro h3 h4);have HN:=M hn;have HG:=M hg;have HK:=M hk;have HL:=M fun W(h:ay w.heap.size w W)=>(cl.below (w:=w) (fun _ _ h=>h) hl h:oO W (Z L l.length P) l);obtain⟨q,hq⟩:∃q,cH k 8=q:=⟨_,rfl⟩;have V:0<=q/\q<8:=hq▸cP k 8 (by omega);have Hq:=M hq;unfold QU;clear h1 h2 h3 h4 he hn hg hk hl hq;go_in
 go_wp2_with(first
  |(go_at_call 11;(with_reducible refine fh (t_ _ (HE.out.below cW) (NS _)) fun w1 _ _=> ?_))
  |(go_at_call 30;(refine im (om n HN.out L P l _ (HL.out _ cW)) ?_;rintro e w2⟨a,c,cv,Gc,rfl,hC,hG,hS, -⟩;obtain⟨sl,rfl,hf,hz⟩:=hC.hold;obtain⟨fa,fc,rfl⟩:=cl.slice hf;obtain⟨S,z⟩:∃S,(⟨Gc,fun W=>qp W (Rj #[U c.name,Z fa c.fs.length fc]) c⟩:cM)=S:=⟨_,rfl⟩;have HF:=M (fun W(h:S.hold W)=>(show je W (Z fa c.fs.length fc) c.fs by rw[<-z]at h;exact Aa h));have HR:=M (fun W(h:S.hold W)=>(show Gd W (aL ⟨3,oz,q,0,iY,c,nJ⟩ (Z N 0 0) (Z fa c.fs.length fc)) ⟨3,oz,q,0,iY,c,nJ⟩ by rw[<-z]at h;obtain⟨sl,e,h1,h2⟩:=h;cases e;exact⟨N,0,0,_,_,_,rfl,dL _ _ _,h1,FX,h2,CM⟩));have HC:=M hS;have _:=CI (r:=S) a (z▸hC) (fun k hk=>hG k (by rw[<-z]at hk;exact hk));clear hf hz hC hG hS a z)))
 refine atR (id:=4) ?_;refine kZ (h:=aa S) (.R 0 (.R 2 (.R 4 (.two 1 (.two 3 (.R 5 (.two 6 (.call 7 (.call 8 .done)) 7 (.call 6 (.call 8 .done)))) 7 (.call 3 (.R 5 (.call 6 (.call 8 .done))))) 7 (.call 1 (.call 3 (.R 5 (.call 6 (.call 8 .done))))))))) (by kernel_rfl) (by kernel_rfl) (fun _ _ _ _ _ h=>h) ?_;iterate 3 (refine p' A A (fun W _=>by go_simp;try with_reducible rfl) ?_;go_simp)
 apply Sj (fun v D b s t u y R W=>f_ W w ej [eH D (Ra #[I J b.kind,I J b.n,I J b.next,Z s b.recs.length t,Z u b.bj.length y] 38 (0,0)),eH w2.heap.size (Ra #[U c.name,Z fa c.fs.length fc] 28 (0,0)),R,eH (w.heap.size+1+1) (Ra #[I J g.k,I J g.field,I J g.name,I J g.more,I J g.tk,I J g.fP,I J g.expr,I J g.other] 72 (0,0)),eH (w.heap.size+1) (Ra #[I J n,Z L l.length P] 70 (0,0)),eH w.heap.size (Ra #[Ri false,I J x.n,I J x.next,Z ra x.recs.length rc,Z va x.bj.length vc] 25 (0,0))]/\Rk S b (Z s b.recs.length t) (Z u b.bj.length y) R/\∃n x,Ga 13 1 n x b/\1<=n/\n<=300/\13<=x);case' h1=>intro C;refine dY ?_ ?_;(all_goals((try(refine aH A (fun K hK=> ?_);refine Sc A (Ro A M1 fun D u4 _ _ _=> ?_);refine hK _ _ (by first|exact fH (h:=aa S)|exact fH (h:=aa R0)|exact fH (h:=aa R1)) ?_;clear hK K;go_simp));refine aH A (fun K hK=> ?_);go_simp;refine im (JQ ⟨false,x.n,x.next,x.recs,x.bj⟩ ra va rc vc (bN.out _ cW) (bT.out _ cW) HY.out.1 HY.out.2) ?_;rintro e u1⟨b1,b,es,sa,sc,ta,tc,G,rfl,hB,hG,hM⟩;obtain⟨R0,bl,bt,a'⟩ :=Sh b1 (Sb (r:=S)) hB hG;have _:=RJ (r:=S) b1 bl bt;have HM:=M hM;have HB:=M a'; obtain⟨v0,az⟩:∃v,Value.agg #[I J b.kind,I J b.n,I J b.next,Z sa b.recs.length sc,Z ta b.bj.length tc]=v:=⟨_,rfl⟩;have HV:=M az;rw[az];clear hM hB hG a' b1 bt bl az;refine hK _ _ (fH (h:=aa R0)) ?_;clear hK K;go_simp;(try refine dY ?_ ?_)));(all_goals((try(refine aH A (fun K hK=> ?_);refine Sc A (Ro A M1 fun D u4 _ _ _=> ?_);refine hK _ _ (by first|exact fH (h:=aa S)|exact fH (h:=aa R0)|exact fH (h:=aa R1)) ?_;clear hK K;go_simp));refine aH A (fun K hK=> ?_);go_simp;refine fh (v:=Rh (I J q)) (by rw[<-Hq.out];exact iT k 8 HK.out (by omega) (by omega) _) fun u2 _ _=> ?_;refine hK _ _ (fH (h:=aa R0)) ?_;clear hK K;go_simp;(with_reducible apply tJ (aL ⟨3,oz,q,0,iY,c,nJ⟩ (Z N 0 0) (Z fa c.fs.length fc)).toArray);exact⟨rfl,rfl,rfl⟩;intro W;kernel_rfl;go_simp;(try refine dY ?_ ?_)));(all_goals((try(refine aH A (fun K hK=> ?_);refine Sc A (Ro A M1 fun D u4 _ _ _=> ?_);refine hK _ _ (by first|exact fH (h:=aa S)|exact fH (h:=aa R0)|exact fH (h:=aa R1)) ?_;clear hK K;go_simp));refine aH A (fun K hK=> ?_);go_simp;refine im (by rw[<-HV.out];exact Sf HM.out.ok (by omega) HM.out.next.1 (DV V.1 V.2 HC.out) HB.out Sb HR.out) ?_;rintro e u3⟨b3,b1,aB,aC,aG,aN,R1,rfl,bm,F,o,p⟩;have _:=RJ (r:=R0) b3 bm F;have j:=M o;have f:=M p;clear b3 F o p bm;refine hK _ _ (fH (h:=aa R1)) ?_;clear hK K;go_simp;(try(refine aH A (fun K hK=> ?_);refine Sc A (Ro A M1 fun D u4 _ _ _=> ?_);refine hK _ _ (by first|exact fH (h:=aa S)|exact fH (h:=aa R0)|exact fH (h:=aa R1)) ?_;clear hK K;go_simp))));all_goals refine aH A (fun K hK=> ?_);refine Sc A (RK (T:=38) (E:=38) (g:=D) A A A (by kernel_rfl) (by rfl) (by kernel_rfl) fun u5 _ _=> ?_);refine hK _ _ (fH (h:=aa R1)) ?_;clear hK K;go_simp;refine aM ?_;exact C v0 D b1 aB aC aG aN R1 u5 ⟨inferInstance,j.out,_,_,f.out,HM.out.n.1,HM.out.n.2,HM.out.next.1⟩
 case' h2=>
  intro v0 D b1 aB aC aG aN R1 u5⟨_,o,n1,x1,p,c6,c7,bX⟩;have j:=M o;have f:=M p;clear o p;go_wp2_with(go_at_call 32;(refine im (pt g HG.out c.name c.fs fa fc _ (by have:=HC.out.name.2;omega) (by have:=HC.out.len;omega) HC.out.ok HC.out.names (HF.out _ (j.out.s Sb))) ?_;rintro e u6⟨⟨d,xb,rfl,hd⟩,b6⟩;have _:=Di b6;have HD:=M hd;clear hd b6;cases xb<;>unfold ss))
  all_goals first
   |(refine atR (id:=7) ?_;(refine Sg (h:=aa R1) 6 (vZ 0 2 (.R 3 (.call 2 (.R 4 (.call 5 (.call 6 .done)))))) (by kernel_rfl) (by kernel_rfl) (fun _ _ _ _ _ h=>h) ?_;(iterate 3 (refine cD A (.inl ⟨rfl,fun W _=>by go_simp;try with_reducible rfl⟩) ?_;go_simp));refine cj A (fun K hK=> ?_);go_simp;refine fh (v:=Rh (I J q)) (by rw[<-Hq.out];exact iT k 8 HK.out (by omega) (by omega) _) fun u7 _ _=> ?_;refine hK _ _ (fH (h:=aa R1)) ?_;clear hK K;go_simp;(with_reducible apply RY (aL ⟨4,oz,q,1,iY,iA,d⟩ (Z N 0 0) (Z N 0 0)).toArray);exact⟨rfl,rfl,rfl⟩;intro W;kernel_rfl;go_simp;refine cj A (fun K hK=> ?_);go_simp;refine im (Sf f.out (by omega) bX (BK V.1 V.2 (by omega) (by omega) (HD.out (by trivial)) (C' (HD.out (by trivial)))) j.out Sb (fun W _=>⟨N,0,0,N,0,0,rfl,dL _ _ _,dL _ _ _,FX,FX,KD (HD.out (by trivial))⟩)) ?_;rintro e u8⟨b8,a,Y,Q,ad,aj,R2,rfl,bn,H,bb,bk⟩;have _:=RJ (r:=R1) b8 bn H;have ak:=M bb;have m:=M bk;clear b8 H bb bk bn;refine hK _ _ (fH (h:=aa R2)) ?_;clear hK K;go_simp;refine iK A (fun K hK=> ?_);refine Sc A (RK (T:=38) (E:=38) (g:=D) A A A (by kernel_rfl) (by rfl) (by kernel_rfl) fun u9 _ _=> ?_);refine hK _ _ ?_;clear hK K;go_simp;refine gB ?_;go_wp2_with{}))
   |(obtain⟨a,Y,Q,ad,aj,R2,rfl,rfl,rfl,rfl,rfl,rfl⟩:∃a Y Q ad aj R2,a=b1/\Y=aB/\Q=aC/\ad=aG/\aj=aN/\R2=R1:=⟨_,_,_,_,_,_,rfl,rfl,rfl,rfl,rfl,rfl⟩;have ak:=j;have m:=M (show Ga 14 1 n1 x1 a from⟨f.out.fine,f.out.kind,f.out.n,f.out.next,bc f.out.len (by omega),f.out.Q_,fun _=>f.out.pos (by decide)⟩))
  all_goals
   have HI:=M (show ee a.n by rw[m.out.n];unfold ee;omega)
   go_wp2_with(first
    |(go_at_call 14;(refine fh (Sm m.out HI.out (HE.out.below cW) ak.out Sb) fun v1 _ _=> ?_))
    |(go_at_call 27;(refine im (Sk m.out HI.out (HE.out.below cW)) ?_;rintro e v2⟨b9,pa,pc,pv,pw,rfl,bs, -⟩;have _:=Di b9;have _:jd v2 v2:=OM;have bJ:=M bs;have bM:=M (ak.out.rs (Sb (W:=v2)));clear b9 bs)))
   have ch:=m.out.len;go_loopw [18] (fun i wr=>∃k:Nat,i=I J k/\k<=a.recs.length/\ay v2.heap.size v2 wr/\f_ wr w ej [eH v2.heap.size (Ra #[I J a.kind,I J a.n,I J a.next,Z pa a.recs.length pc,Z pv a.bj.length pw] 38 (0,0)),eH D (Ra #[I J a.kind,I J a.n,I J a.next,Z Y a.recs.length Q,Z ad a.bj.length aj] 38 (0,0))]) (fun i _=>a.recs.length - (intOf i).toNat);case atStart=>exact⟨0,rfl,by omega,jd.b,fH⟩
   case round=>
    obtain⟨k1,rfl,c4,hb,X⟩:=hrel;have i0:(0:Int)<=(k1:Int):=(by omega);by_cases bx:k1<a.recs.length;case neg=>have i2:¬(k1:Int)<(a.recs.length:Int):=(by omega);have _:=X;go_wp2_with{};go_ret;exact⟨rfl,cW⟩
    case pos=>
     have i2:(k1:Int)<(a.recs.length:Int):=(by omega);obtain⟨r,hr⟩:∃r,a.recs[k1]? =O r:=⟨_,an bx⟩;obtain⟨g1,o1,cZ,c1,ea,F,bz,cA⟩:=RX (jz.below bJ.out hb) hr;cases ea;obtain⟨g2,o2,c0,c2,eb,H, -,cB⟩:=RX (jz.below bM.out hb) hr;cases eb;have cF:∀W,ay wr.heap.size wr W ->W.cell? ⟨v2.heap.size,3,N⟩=O (Z (O ⟨g1,o1,N⟩) a.recs.length pc):=fun W hW=>aU ((ag (kR (h:=X)) 3).trans A) hW;have cI:∀W,ay wr.heap.size wr W ->W.cell? ⟨D,3,N⟩=O (Z (O ⟨g2,o2,N⟩) a.recs.length Q):=fun W hW=>aU ((ag (kR (h:=X)) 3).trans A) hW;have a1:=M bx;have ao:=R_ r.bF;unfold ss at ao;have bE:=M ao;have aW:=M F;have aX:=M H;have bU:=M bz;have _:=uJ wr;clear hr F H bz ao
     go_wp2_with(first
      |((with_reducible refine atR (id:=15) ?_);refine kZ (vZ 0 26 (.call 26 (vZ 27 15 (.call 42 (vZ 43 15 (.call 58 (vZ 59 2 .done))))))) (by kernel_rfl) (by kernel_rfl) (fun _ _ _ _ _ h=>h) ?_)
      |(go_at_call 33;(refine fh (Sa (aW.out.below cW) (aX.out.below cW) bU.out) fun v5 _ _=> ?_);refine hK _ _ fH ?_;clear hK K;go_simp)
      |(go_at_call 34;(refine fh (RZ _ _ _ _ _ _ (aW.out.below cW) (aX.out.below cW)) fun v6 _ _=> ?_);refine hK _ _ fH ?_;clear hK K;go_simp)
      |(go_at_call 35;(refine fh (bE.out _) fun v7 _ _=> ?_);refine hK _ _ fH ?_;clear hK K;go_simp)
      |((with_reducible refine IF ?_);first
        |(refine p' A A (fun W _=>by go_simp;try with_reducible rfl) ?_;go_simp)
        |(refine aH A (fun K hK=> ?_);go_simp)
        |refine aM ?_))
     go_roundw;case rel=>exact⟨k1+1,by go_num,by have:=a1.out;omega,hb.trans ((cW (w0:=wr)).mono hb.size),Di (h:=X) cW⟩
     case measure=>have:=a1.out;simp[intOf];omega
end
section
open Go.ChangeShapes Go.WideShapes Go.ChangeAt Go.RowKit Go.Deep Mor
section
variable {H:Type} {enc:bR×ar ->H} {w:ai} {base:Nat} {spare:Nat ->Bool} {held:Bool}
theorem RT{r:Reach}{b0:Nat}{v:ar}{d:DataW H}{p:List MemPlace}(hv:Value.okWide ah w r b0 70 v)(h:DataW.Trod enc ah w base spare held 70 v d p):∃n a c l,v=Rj #[I J n,Z a l.length c]/\ee n/\oO w (Z a l.length c) l:=by obtain⟨⟨cs⟩,rfl,_⟩:=okWide_struct underlying70 hv;obtain⟨fuel,hf⟩:=h;obtain⟨n,sl,l,rfl,h1,h2⟩:=OQ (cs:=cs) hf;obtain⟨a,c,rfl⟩:=cl.slice h2;exact⟨n,a,c,l,rfl,h1,h2⟩
theorem RU{r:Reach}{b0:Nat}{v:ar}{d:DataW H}{p:List MemPlace}(hv:Value.okWide ah w r b0 72 v)(h:DataW.Trod enc ah w base spare held 72 v d p):∃g,v=Rj (QU g).toArray/\K9 g:=by obtain⟨⟨cs⟩,rfl,_⟩:=okWide_struct underlying72 hv;obtain⟨fuel,hf⟩:=h;obtain⟨g,rfl,h1⟩:=rg_of (cs:=cs) hf;exact⟨g,rfl,h1⟩
end
end
end Go.Proofs.YtbcbefpninlfiaaGreatDoor
namespace Go.Proofs.YtbcbefpninlfiaaGreatDoor.recClasses
open Go.ChangeMaps (open_string shut_string)
open Go.ChangeShapes Go.WideShapes Go.ChangeAt Go.RowKit Mor
theorem reads:∀t∈Tryz.f9.params.toList,Tryz.prog.readableRec t=true/\t<Tryz.prog.types.size:=by
 rw[Tryz.params9];intro t b;have a:([25,70,72,3].all fun u=>Tryz.prog.readableRec u&&decide (u<Tryz.prog.types.size))=true:=by kernel_rfl
 have:=ba.1 a t (by simpa using b);simpa using this
theorem lifted(os:Os)(started:os.Started)(H:Type)(enc:bR×ar ->H):
 ReturnsInHanded {} Tryz.checked os 9 .any (fun w args=>(Rows.recClassesSpec.pre enc ah Tryz.f9 [] false w args/\laidMetH ah Rows.recClassesRow.laid w)/\sizedMet enc ah Tryz.f9 (OpenSpec.ofChange Rows.recClassesSpec) false w args)
  (Rows.recClassesSpec.post enc ah Tryz.f9 false true false false):=by
 refine returnsInHanded_of_change_and (C:=Tryz.checked) (X:=fun w _=>laidMetH ah Rows.recClassesRow.laid w) (fun _ _ _ s h=>h.of_heap s) own started (by kernel_rfl) Tryz.func9
  (ChangeSpec.witness_shaped (enc:=enc) (C:=Tryz.checked) (os:=os) (X:=fun w _=>laidMetH ah Rows.recClassesRow.laid w) false (yE os) #[Rj #[Ri false,I J 0,I J 0,Z N 0 0,Z N 0 0],Rj #[I J 0,Z N 0 0],Rj #[I J 0,I J 0,I J 0,I J 0,I J 0,I J 0,I J 0,I J 0],I J 0] 8 (xd os)
   (World.shaped_of_ZipB (by kernel_rfl) (by kernel_rfl)) (by kernel_rfl) (by kernel_rfl) (by kernel_rfl) (uw os _)) ?_
 intro W base args ds gs before a f _ _ o b
 have hval:∀(j:Nat) t v,Tryz.f9.params[j]? =O t ->args[j]? =O v ->Value.okWide ah W .any base t v:=a
 have c:=f
 obtain⟨p,q,hA0,R,rfl,r,u⟩:=f
 have hA:DataW.TrodAll enc ah W 0 (fun _=>true) true Tryz.f9.params.toList args.toList ds p:=hA0
 rw[Tryz.params9]at hA hval
 obtain⟨v0,F,d0,g,S,q0,d,rfl,rfl,m,D⟩:=trodAll_cons hA
 obtain⟨v1,G,d1,i,T,q1,rfl,rfl,rfl,h1,r1⟩:=trodAll_cons D
 obtain⟨v2,K,d2,k,V,q2,rfl,rfl,rfl,h2,r2⟩:=trodAll_cons r1
 obtain⟨v3,L,d3,l,Y,q3,rfl,rfl,rfl,h3,E⟩:=trodAll_cons r2
 obtain⟨rfl,rfl,rfl⟩:=trodAll_nil E
 obtain rfl:args= #[v0,v1,v2,v3]:=by cases args;simp_all
 obtain⟨a0,w0⟩:=Ao (hval 0 25 v0 rfl rfl) m
 obtain⟨z,b1,c1,y,rfl,P,x⟩:=RT (hval 1 70 v1 rfl rfl) h1
 obtain⟨a2,rfl,Q⟩:=RU (hval 2 72 v2 rfl rfl) h2
 obtain⟨a3,rfl,rfl,rfl,w3⟩:=open_int Tryz.underlying3 (hval 3 3 v3 rfl rfl) h3
 obtain⟨aE,aF,B,n⟩:=qD o
 refine(Ry a0 _ z b1 c1 y a2 a3 W n w0 P x Q (PJ w3)).mono fun e W'⟨he,hb⟩=> ?_
 subst he
 exact⟨_,rfl,xe laidOut reads rfl Tryz.underlying4 rfl (fun ds hd=>match ds,hd with| [_,_,_,_],_=>rfl) c rfl hb⟩
theorem named:Tryz.pinned.checked.prog.funcNamed Rows.recClassesRow.func=O 9:=by kernel_rfl
theorem closed:joinedFacts Tryz.pinned.checked.prog 9 Tryz.f9 Rows.recClassesSpec Rows.recClassesRow=true:=by
 unfold joinedFacts;repeat' (with_reducible refine kq.2 ⟨?_, ?_⟩)
 all_goals as_aux_lemma=>kernel_rfl
theorem inst:Tryz.f9.isInstance Tryz.pinned.checked.prog Rows.recClassesRow.origin Rows.recClassesRow.targs:=of_decide_eq_true (by kernel_rfl)
theorem wrap:Tryz.f9.isWrapper Tryz.pinned.checked.prog Rows.recClassesRow.wrapper Rows.recClassesRow.mainSum:=by unfold Func.isWrapper;first|(rw[if_pos (by decide+kernel)];kernel_rfl)|(rw[if_neg (by decide+kernel)];exact⟨rfl,rfl⟩)
theorem said:Rows.RecClassesSaid:=
 OpenClaim.holds_of_wide 9 Tryz.f9 rfl rfl rfl rfl rfl rfl rfl ⟨rfl,rfl,rfl,rfl,rfl⟩ rfl rfl rfl rfl rfl named Tryz.func9 closed inst wrap
  (fun os started H enc _=>lifted os started H enc)
theorem plain(f:FuncId)(fn:Func)(hf:Tryz.pinned.checked.prog.funcNamed "moraine/morainelaw11.RecClasses" =O f)(b:Tryz.pinned.checked.prog.funcs[f]? =O fn):true=Tryz.pinned.checked.prog.looks []/\∀(j:Nat) t,fn.params[j]? =O t ->Tryz.pinned.checked.prog.wantsStandIn t=false:=by
 obtain rfl:f=9:=dc ((show Tryz.prog.funcNamed "moraine/morainelaw11.RecClasses" =O 9 by kernel_rfl).symm.trans hf)|>.symm;obtain rfl:fn=Tryz.f9:=(dc (Tryz.func9.symm.trans b)).symm;refine⟨by kernel_rfl,fun j t c=> ?_⟩;rw[Tryz.params9]at c;have hm:t∈[25,70,72,3]:=by simpa using Array.mem_of_getElem? c
 have a:([25,70,72,3].all fun u=> !Tryz.prog.wantsStandIn u)=true:=by kernel_rfl
 exact(show Tryz.prog.wantsStandIn t=false by simpa using ba.1 a t hm)
theorem card:Rows.RecClassesCardSaid:=
 Claim7.holds_tied_plain_at .later [] _ _ _ _ said (fun _ h=>by cases h) (by kernel_rfl) (fun _ h=>by cases h) recClasses_row_tie rfl ⟨rfl,rfl⟩ (by kernel_rfl) rfl plain (by kernel_rfl)
#print axioms card
end Go.Proofs.YtbcbefpninlfiaaGreatDoor.recClasses
