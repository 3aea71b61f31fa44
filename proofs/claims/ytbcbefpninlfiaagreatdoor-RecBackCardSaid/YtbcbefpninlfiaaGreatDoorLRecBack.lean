/- Proved: the card of the statement RecBack, as it is given, for every input. Conditions: none but the given row's own. -/
import Derived.Test.YtbcbefpninlfiaaGreatDoorC30
import Derived.Test.YtbcbefpninlfiaaGreatDoorCards
import Derived.Test.YtbcbefpninlfiaaGreatDoorTie
import Derived.SevenTiedAt
set_option maxHeartbeats 64000000
set_option maxRecDepth 100000
set_option linter.all false
open Option renaming none->N,some->O
open Go renaming Calls->aJ,TypeId->bR,Value->ar,World->ai
open Go.Value renaming agg->Rj,bool->Ri,int->I,slice->Z,string->U,tuple->Rx
open Go.IntKind renaming i64->J
open Go.Proofs.Tryz renaming prog->ah
open Go.Ending renaming returned->Rh
open Go.RowKit renaming Below->ay
open UInt8 renaming ofNat->dh
open Go.Calls renaming mono->im
namespace Go.Proofs.YtbcbefpninlfiaaGreatDoor
open Go.Proofs.Tryz
open Go.RowKit Mor
theorem Bs:∀{l r:List Vl},qj l r=true<->l=r
 | [],[]=>by simp[qj]
 | [],_::_=>by simp[qj]
 |_::_,[]=>by simp[qj]
 |a::l,b::r=>by simp[qj,yY,Gz,Bs (l:=l) (r:=r)]
theorem Ig{a b:Ob}:tI a b=true<->a=b:=by cases a;cases b;simp[tI,Bs]
theorem Ih{a b:Rc}:oC a b=true<->a=b:=by constructor;{intro h;simp only[oC,aK,Rt,Ig,yW,yX]at h;cases a;cases b;simp_all};{rintro rfl;simp[oC,Ig,yW,yX]}
theorem xD:∀{l r:List Rc},j5 l r=true<->l=r
 | [],[]=>by simp[j5]
 | [],_::_=>by simp[j5]
 |_::_,[]=>by simp[j5]
 |a::l,b::r=>by simp[j5,Ih,xD (l:=l) (r:=r)]
theorem Ia{a b:Bt}:se a b=true<->a=b:=by cases a;cases b;simp[se,xD]
def gw(n next:Int):Bt:=⟨2,n,next,[],[]⟩
theorem Dw{n next:Int}(h1:1<=n)(h2:1<=next)(h3:next<=600):dU (gw n next)=true:=by unfold dU kB gw;simp;omega
theorem OL{n next:Int}(h1:1<=n)(h2:1<=next)(h3:next<=600):mG (gw n next)=O (aT (gw n next)):=uT (Dw h1 h2 h3) (by simp[gw]) (by simp[gw])
theorem Pb{ca c:Bool}{a b:Bt}(ha:Made ca a)(hb:Made c b):(bs (aT a)=bs (aT b))<->se a b=true:=by rw[Ia];constructor;{intro h;have e1:=oS (s:=bs (aT a)) ha.i64.2.1 (by rw[ha.enc,ng]);have e2:=oS (s:=bs (aT b)) hb.i64.2.1 (by rw[hb.enc,ng]);rw[h,e2]at e1;exact(dc e1).symm};{rintro rfl;rfl}
theorem wf_u8{n:Int}(h:(Lit.int .u8 n).wf=true):0<=n/\n<256:=by
 have a:IntKind.u8.min<=n/\n<=IntKind.u8.max:=by simpa[Lit.wf]using h
 have e1:IntKind.u8.min=0:=rfl;have e2:IntKind.u8.max=255:=rfl;omega
section
structure aa(X:Nat)(w w':ai):Prop where
 no:∀o v,w.cell? ⟨X,o,N⟩=O v ->v=I J 0\/v=Z N 0 0
 keep:∀b o v,b≠X ->w.cell? ⟨b,o,N⟩=O v ->w'.cell? ⟨b,o,N⟩=O v
section
variable {X:Nat} {w w':ai} (hF:aa X w w')
include hF
theorem aa.sl{size n j:Nat}{v x:ar}{xs:List ar}(h:Sl w size v n xs)(hx:0<n ->xs[j]? =O x)(d:x≠I J 0)(h1:x≠Z N 0 0):Sl w' size v n xs:=by obtain⟨a,c,g1,g2,g3,g4,g5,g6⟩:=h;refine⟨a,c,g1,g2,g3,g4,g5,fun hn=> ?_⟩;obtain⟨b,o,e0,hc⟩:=g6 hn;refine⟨b,o,e0,fun i y hi=>hF.keep _ _ _ (fun e=> ?_) (hc i y hi)⟩;subst e;rcases hF.no _ _ (hc j x (hx hn))with h|h;{exact d h};{exact h1 h}
theorem aa.many{α:Type}{size:Nat}{R:ai ->List ar ->α ->Prop}{v:ar}{l:List α}(h:cl size R w v l)(hs:∀e x,R w e x ->∃(j:Nat) (s:ByteArray),e[j]? =O (U s))(hR:∀e x,R w e x ->R w' e x):cl size R w' v l:=by
 obtain⟨es,h1,h2,h3,h4⟩:=h;refine⟨es,h1, ?_,h3,fun i e x he hx=>hR e x (h4 i e x he hx)⟩;cases es with
 |nil=>obtain⟨a,c,g1,g2,g3,g4,g5,g6⟩:=h2;exact⟨a,c,g1,g2,g3,g4,g5,fun hn=>absurd hn (by simp)⟩
 |cons e t=>obtain⟨f,b⟩:∃x,l[0]? =O x:=⟨_,an (by rw[<-h3];simp)⟩;obtain⟨j,s,d⟩:=hs e f (h4 0 e f A b);refine aa.sl hF (j:=j) (x:=U s) h2 (fun _=> ?_) (fun h=>by cases h) (fun h=>by cases h);rw[List.flatten_cons,bS (aA.1 d).1];exact d
theorem aa.KS{v:ar}{l:List Int}(h:lJ w v l)(a:∀z∈l,z≠0):lJ w' v l:=by
 cases l with
 |nil=>exact aa.sl hF (j:=0) (x:=Ri true) h (fun hn=>absurd hn (by simp)) (fun h=>by cases h) (fun h=>by cases h)
 |cons z t=>exact aa.sl hF (j:=0) (x:=I J z) h (fun _=>rfl) (fun e=>a z (by simp) (by injection e)) (fun h=>by cases h)
theorem aa.Qn{v:ar}{l:List Pv}(h:IE w v l):IE w' v l:=by rcases h with h|⟨h1,h2,b,o,c,e,h3⟩;{exact .inl h};{refine .inr ⟨h1,h2,b,o,c,e,fun i p hp=> ?_⟩;have hb:b≠X:=fun e=>by{subst e;rcases hF.no _ _ (h3 i p hp).s with h|h<;>cases h};have q:=h3 i p hp;exact⟨hF.keep _ _ _ hb q.k,hF.keep _ _ _ hb q.n,hF.keep _ _ _ hb q.s,hF.keep _ _ _ hb q.l⟩}
theorem aa.NP{v:ar}{l:List Vl}(h:qg w v l):qg w' v l:=aa.many hF h (fun _ x⟨_,e,_⟩=>⟨2,x.s,by rw[e];rfl⟩) fun _ _⟨sl,e,h2,h3⟩=>⟨sl,e,aa.Qn hF h2,h3⟩
theorem aa.RO{v:ar}{l:List iF}(h:je w v l):je w' v l:=aa.many hF h (fun _ x⟨e,_⟩=>⟨0,x.name,by rw[e];rfl⟩) fun _ _ h=>h
theorem aa.RM{v:ar}{l:List Rc}(h:jz w v l):jz w' v l:=aa.many hF h (fun _ x⟨_,_,_,_,_,_,e,_⟩=>⟨7,x.name,by rw[e];rfl⟩) fun _ _⟨a,b,c,d,f,g,e,h1,h2,h3⟩=>⟨a,b,c,d,f,g,e,aa.NP hF h1,aa.RO hF h2,h3⟩
end
theorem Ry{X b o j:Nat}{w:ai}{u:ar}(hb:b≠X):(w.setCell ⟨X,j,N⟩ u).cell? ⟨b,o,N⟩=w.cell? ⟨b,o,N⟩:=World.cell?_setCell_other _ _ _ _ fun e=>hb (congrArg Addr.block e).symm
theorem RI{X:Nat}{w:ai}{t:bR}{fr:Nat×Nat}(h:w.heap[X]? =O (.cells #[I J 0,I J 0,I J 0,Z N 0 0,Z N 0 0] t fr))(a b c d e:ar):aa X w (((((w.setCell ⟨X,0,N⟩ a).setCell ⟨X,1,N⟩ b).setCell ⟨X,2,N⟩ c).setCell ⟨X,3,N⟩ d).setCell ⟨X,4,N⟩ e):=by constructor;{intro o v hv;have hm:=Array.mem_of_getElem? ((ag h o).symm.trans hv);rw[List.mem_toArray]at hm;simp only[bh,bV,or_false]at hm;rcases hm with h|h|h|h|h;{exact .inl h};{exact .inl h};{exact .inl h};{exact .inr h};{exact .inr h}};{intro b o v hb hv;rw[Ry hb,Ry hb,Ry hb,Ry hb,Ry hb];exact hv}
theorem RK{w0 f:ai}{F:Nat ->Prop}{L:List cM}{X:Nat}{t:bR}{fr:Nat×Nat}{a b c d e:ar}{G:ai ->Prop}(g:f.heap[X]? =O (.cells #[I J 0,I J 0,I J 0,Z N 0 0,Z N 0 0] t fr))
 [h:f_ (((((f.setCell ⟨X,0,N⟩ a).setCell ⟨X,1,N⟩ b).setCell ⟨X,2,N⟩ c).setCell ⟨X,3,N⟩ d).setCell ⟨X,4,N⟩ e) w0 F L](k:∀W,f_ W w0 F L ->aa X f W ->G W):
 G (((((f.setCell ⟨X,0,N⟩ a).setCell ⟨X,1,N⟩ b).setCell ⟨X,2,N⟩ c).setCell ⟨X,3,N⟩ d).setCell ⟨X,4,N⟩ e):=k _ h (RI g a b c d e)
theorem RC{s:ByteArray}{b:Bt}(h:rO s=O b):∀z∈b.bj,z≠0:=by rcases(jE (mr (Jf h).2.1).1).2 with⟨_,_,e⟩|⟨_,_,e⟩;{rw[e];simp};{intro z a;have:=e z a;omega}
end
section
section
variable {W:ai} {B:Nat} {aE aF:Addr}
theorem RB{a b:Bt}{r:Bool}(hr:se a b=r){c va d vb:Option Addr}{rc vc rd f:Nat}(h1:jz W (Z c a.recs.length rc) a.recs)(h2:lJ W (Z va a.bj.length vc) a.bj)(h3:jz W (Z d b.recs.length rd) b.recs)(h4:lJ W (Z vb b.bj.length f) b.bj):aJ ah 18 #[Rj #[I J a.kind,I J a.n,I J a.next,Z c a.recs.length rc,Z va a.bj.length vc],Rj #[I J b.kind,I J b.n,I J b.next,Z d b.recs.length rd,Z vb b.bj.length f]] W fun e w'=>e=Rh (Ri r)/\ay W.heap.size W w':=by have:=uG a b c va d vb rc vc rd f W h1 h2 h3 h4;rw[hr]at this;exact this
theorem RL{b:Bt}{l:List UInt8}(he:Env aE aF B W)(h:mG b=O l)(hn:ee b.n){a va:Option Addr}{rc vc:Nat}(h1:jz W (Z a b.recs.length rc) b.recs)(h2:lJ W (Z va b.bj.length vc) b.bj):aJ ah 14 #[Rj #[I J b.kind,I J b.n,I J b.next,Z a b.recs.length rc,Z va b.bj.length vc]] W fun e w'=>e=Rh (Rx #[U (bs l),I J 0])/\ay W.heap.size W w':=by have:=pz b a va rc vc W he h1 h2 hn;rw[h]at this;exact this
theorem ek{b:Bt}(he:Env aE aF B W)(h:dU b=true){a va:Option Addr}{rc vc:Nat}(h1:jz W (Z a b.recs.length rc) b.recs)(h2:lJ W (Z va b.bj.length vc) b.bj):aJ ah 16 #[Rj #[I J b.kind,I J b.n,I J b.next,Z a b.recs.length rc,Z va b.bj.length vc]] W fun e w'=>e=Rh (Ri true)/\ay W.heap.size W w':=by have:=lW b a va rc vc W he h1 h2;rw[h]at this;exact this
theorem RN(he:Env aE aF B W):aJ ah 14 #[Rj #[I J 0,I J 0,I J 0,Z N 0 0,Z N 0 0]] W fun e w'=>e=Rh (Rx #[U ⟨#[]⟩,I J 110])/\ay W.heap.size W w':=by have:=pz ⟨0,0,0,[],[]⟩ N N 0 0 W he (dL _ _ _) (D6 W) ⟨by decide,by decide⟩;rw[show mG ⟨0,0,0,[],[]⟩=N by kernel_rfl]at this;exact this
theorem M3{s:ByteArray}(hs:s.size<=281474976710656)(he:Env aE aF B W)(h:rO s=N):aJ ah 27 #[U s] W fun e w'=>e=Rh (Rx #[Rj #[I J 0,I J 0,I J 0,Z N 0 0,Z N 0 0],I J 110])/\ay W.heap.size W w':=by have:=nM hs W he;rw[h]at this;exact this.mono fun e w'⟨h1,h2⟩=>⟨h2,h1⟩
theorem ND{s:ByteArray}{b:Bt}(hs:s.size<=281474976710656)(he:Env aE aF B W)(h:rO s=O b):aJ ah 27 #[U s] W fun e w'=>ay W.heap.size W w'/\∃a rc va vc,e=Rh (Rx #[Rj #[I J b.kind,I J b.n,I J b.next,Z a b.recs.length rc,Z va b.bj.length vc],I J 0])/\jz w' (Z a b.recs.length rc) b.recs/\lJ w' (Z va b.bj.length vc) b.bj:=by have:=nM hs W he;rw[h]at this;exact this
end
theorem DB{cp:Bool}{b:Bt}(h:Made cp b):mG b=O (bs (aT b)).data.toList:=by rw[h.enc,ng]
theorem Lq{cp:Bool}{b:Bt}(h:Made cp b):rO (bs (aT b))=O b:=oS h.i64.2.1 (DB h)
theorem RJ{n next:Int}(h1:1<=n/\n<=300):ee (gw n next).n:=by unfold gw ee;simp;omega
section
variable {W:ai} {B:Nat} {aE aF:Addr} {n next:Int} (he:Env aE aF B W) (h1:1<=n/\n<=300) (h2:13<=next/\next<=600)
include he h1 h2
theorem RH:aJ ah 14 #[Rj #[I J 2,I J n,I J next,Z N 0 0,Z N 0 0]] W fun e w'=>e=Rh (Rx #[U (bs (aT (gw n next))),I J 0])/\ay W.heap.size W w':=
 RL he (OL h1.1 (by omega) h2.2) (RJ h1) (dL _ _ _) (D6 W)
theorem RE:aJ ah 27 #[U (bs (aT (gw n next)))] W fun e w'=>ay W.heap.size W w'/\∃a rc va vc,e=Rh (Rx #[Rj #[I J 2,I J n,I J next,Z a 0 rc,Z va 0 vc],I J 0])/\jz w' (Z a 0 rc) []/\lJ w' (Z va 0 vc) []:=by have e:=OL h1.1 (show 1<=next by omega) h2.2;exact ND (by rw[fx];have:=(sx e).2.2;omega) he (oS (RJ h1) (by rw[e,ng]))
end
theorem RA{W:ai}{n next:Int}{c va:Option Addr}{rc vc:Nat}(h1:jz W (Z c 0 rc) [])(h2:lJ W (Z va 0 vc) []):aJ ah 18 #[Rj #[I J 2,I J n,I J next,Z c 0 rc,Z va 0 vc],Rj #[I J 2,I J n,I J next,Z N 0 0,Z N 0 0]] W fun e w'=>e=Rh (Ri true)/\ay W.heap.size W w':=
 RB (a:=gw n next) (b:=gw n next) (Ia.2 rfl) h1 h2 (dL _ _ _) (D6 W)
theorem RD(s:ByteArray):bs s.data.toList=s:=by cases s;rfl
theorem RG{W:ai}{B:Nat}{aE aF:Addr}{s:ByteArray}{b:Bt}(h:rO s=O b)(he:Env aE aF B W){a va:Option Addr}{rc vc:Nat}(h1:jz W (Z a b.recs.length rc) b.recs)(h2:lJ W (Z va b.bj.length vc) b.bj):aJ ah 14 #[Rj #[I J b.kind,I J b.n,I J b.next,Z a b.recs.length rc,Z va b.bj.length vc]] W fun e w'=>e=Rh (Rx #[U s,I J 0])/\ay W.heap.size W w':=by have:=RL he (Jf h).1 (Jf h).2.2.1.2.1 h1 h2;rwa[RD]at this
theorem RP{W w0:ai}{F:Nat ->Prop}{a z:cM}{L:List cM}(h:f_ W w0 F (a::z::L)):f_ W w0 F (a::L):=fH
theorem Rz{ca c:Bool}{a b:Bt}(ha:Made ca a)(hb:Made c b):((bs (aT a)).toList==(bs (aT b)).toList)=se a b:=by rw[Lx,eY,Rt,Pb ha hb]
theorem Rp{W:ai}{g c:Nat}{t:bR}{fr:Nat×Nat}(hc:c<256)(hb:W.heap[g]? =O (.cells #[.int .u8 (c:Int)] t fr)):(convert 58 9 (Z (O ⟨g,0,N⟩) 1 1)).run ah W=.ok (U ⟨#[dh c]⟩) W:=by
 refine run_convert_bytes_back (P:=ah) W 58 9 5 ⟨g,0,N⟩ 1 [dh c] underlying58 underlying5 bQ (fun j a=> ?_);obtain rfl:j=0:=by simpa using a
 rw[wm,ag hb 0];simp[Lib.byteCells];omega
section
variable {P:Program} {F:Nat ->Prop} {w0 w:ai} {L:List cM} {ops:Array Oper} {Q:Exit ->Act ->ai ->Prop}
theorem Rl{i:Nat}{o:Oper}{r:nd}{a:Act}(b:ops[i]? =O o)(h:∀K:Act ->ai ->Prop,(∀a' w' (L':List cM),f_ w' w0 F L' ->zC L L' ->i_ P ops Q (fun W=>f_ W w0 F L') r a' w' ->K a' w') ->if Region.wanted o (yielded ops a.tmps)=true then o.wp P a w K Q else K (a.put o.dst undef) w):i_ P ops Q (fun W=>f_ W w0 F L) (.call i r) a w:=
 we b (h _ fun _ _ L' h1 s h2=>⟨fun W=>f_ W w0 F L', fun _ _=>fH,h1,h2⟩)
end
abbrev Rk(s:ByteArray)(k c:Nat):ByteArray:=s.extract 0 k++⟨#[dh c]⟩++s.extract (k+1) s.size
theorem Ro(x y:Rb)(v u:ar)(at':Int)(c0:Nat)(w:ai){B:Nat}{aE aF:Addr}(he:Env aE aF B w)(hx:AV w v x)(hy:AV w u y)(ha:ee at')(hc:c0<256):aJ ah 5 #[v,u,I J at', .int .u8 (c0:Int)] w fun e w'=>e=Rh (Ri true)/\ay w.heap.size w w':=by
 have _:=uJ w;have l:=M he;obtain⟨ra,rc,va,vc,rfl,h1,h2,h3,h4⟩:=hx;obtain⟨rb,rd,vb,vd,rfl,g1,g2,g3,g4⟩:=hy;have S:=M fun W(h:ay w.heap.size w W)=>rQ.below h1 h;have T:=M fun W(h:ay w.heap.size w W)=>xX.below h2 h;have Q:=M fun W(h:ay w.heap.size w W)=>rQ.below g1 h;have R:=M fun W(h:ay w.heap.size w W)=>xX.below g2 h;have HY:=M (And.intro h3 h4);have HV:=M (And.intro g3 g4);clear h1 h2 h3 h4 g1 g2 g3 g4 he;go_in
 go_wp2_with(first
  |(go_at_call 11;(with_reducible refine fh (t_ _ (l.out.below cW) (NS _)) fun w1 _ _=> ?_))
  |(go_at_call 12;first
    |((with_reducible refine im (JQ x ra va rc vc (S.out _ cW) (T.out _ cW) HY.out.1 HY.out.2) ?_);rintro e w2⟨b2,b,es,sa,sc,ta,tc,G,rfl,hB,F,V⟩;have _:=CI b2 hB F;have o:=M V;have a':¬((bs (aT b)).size:Int)=0:=(by rw[fx];have:=V.pos;omega);clear V hB F b2)
    |((with_reducible refine im (JQ y rb vb rd vd (Q.out _ cW) (R.out _ cW) HV.out.1 HV.out.2) ?_);rintro e w3⟨b3,c,fs,sb,sd,tb,td,K2,rfl,hB,F,f⟩;have _:=CI b3 hB F;have HN:=M f;have X:=Rz o.out f;rcases p:se b c with _|_<;>rw[p]at X<;>have E:=M p<;>clear f hB F b3 p))
  |(go_at_call 14;first
    |((with_reducible refine fh (NK o.out (l.out.below cW) (Fj (sv:=Z ta b.bj.length tc)) (Fi (sr:=Z sa b.recs.length sc))) fun w4 _ _=> ?_))
    |((with_reducible refine fh (NK HN.out (l.out.below cW) (Fj (sv:=Z tb c.bj.length td)) (Fi (sr:=Z sb c.recs.length sd))) fun w5 _ _=> ?_))
    |((with_reducible refine fh (RH (l.out.below cW) o.out.n o.out.next) fun w7 _ _=> ?_)))
  |(go_at_call 27;first
    |((with_reducible refine im (ND (s:=bs (aT b)) (b:=b) (by rw[fx];have:=o.out.len;omega) (l.out.below cW) (Lq o.out)) ?_);rintro e H⟨b6,ya,yc,za,zc,rfl,hR,f⟩;have _:=Di b6;have _:jd H H:=OM;have C:=M hR;have z:=M f;clear hR f b6)
    |((with_reducible refine im (RE (l.out.below cW) o.out.n o.out.next) ?_);rintro e L⟨b8,yb,yd,zb,zd,rfl,hR,f⟩;have _:=Di b8;have _:jd L L:=OM;have D:=M hR;have P:=M f;clear hR f b8))
  |(go_at_call 18;first
    |((with_reducible refine fh (RB (a:=b) (b:=b) (r:=true) (Ia.2 A) (Fj (sv:=Z ta b.bj.length tc)) (Fi (sr:=Z sa b.recs.length sc)) (jz.below C.out (jd.b (w:=H))) (z.out.below (jd.b (w:=H)))) fun w9 _ _=> ?_);clear C z)
    |((with_reducible refine fh (RB E.out (Fj (sv:=Z ta b.bj.length tc)) (Fi (sr:=Z sa b.recs.length sc)) (Fj (sv:=Z tb c.bj.length td)) (Fi (sr:=Z sb c.recs.length sd))) fun w9 _ _=> ?_);clear E)
    |((with_reducible refine fh (RA (jz.below D.out (jd.b (w:=L))) (P.out.below (jd.b (w:=L)))) fun w9 _ _=> ?_);clear D))
  |(go_at_call 26;obtain⟨k,hk⟩:∃k:Nat,cH at' ((bs (aT b)).size:Int)=k:=⟨_,(Int.toNat_of_nonneg (cP at' _ (by omega)).1).symm⟩;have a6:(k:Int)<((bs (aT b)).size:Int):=(by have h9:=(cP at' ((bs (aT b)).size:Int) (by omega)).2;rw[hk]at h9;exact h9);have aV:(bs (aT b)).size<=10000:=(by rw[fx];exact o.out.len);refine fh (v:=Rh (I J k)) (by rw[<-hk];exact iT at' _ ha (by omega) (by omega) _) fun bm _ _=> ?_;have bb:IntKind.i64.wrap ((k:Int)+1)=((k+1:Nat):Int):=(by rw[bo _ (by omega)];rfl);have a1:¬(bs (aT b)).size<k:=(by omega);have aX:¬((bs (aT b)).size:Int)<(k:Int)+1:=(by omega);have aW:(0:Int)<=(k:Int)+1:=(by omega);have q:=M (show(Rk (bs (aT b)) k c0).size<=281474976710656 by rw[fZ,fZ,cX,cX];show _+1+_<=_;omega);rcases hd:rO (Rk (bs (aT b)) k c0)with _|t<;>have m:=M hd<;>clear hk hd))
 all_goals refine kZ (.R 0 (.R 1 (.R 2 (.R 3 (.R 7 (.R 8 (.R 9 (.R 10 (.two 4 (.R 5 (.R 6 (.R 11 (.two 12 (.R 13 (.R 14 (.R 15 (.call 16 (.call 17 (.R 18 .done)))))) 16 (.call 12 (.R 13 (.R 14 (.R 15 (.call 17 (.R 18 .done)))))))))) 16 (.call 4 (.R 5 (.R 6 (.R 11 (.call 12 (.R 13 (.R 14 (.R 15 (.call 17 (.R 18 .done))))))))))))))))))) (by kernel_rfl) (by kernel_rfl) (fun _ _ _ _ _ h=>h) ?_;(iterate 2 (refine p' A A (fun W _=>by go_simp;try with_reducible rfl) ?_;go_simp));refine p' (v:=U ((bs (aT b)).extract 0 k)) A A (fun W _=>by go_simp) ?_;go_simp;(iterate 4 (refine p' A A (fun W _=>by go_simp;try with_reducible rfl) ?_;go_simp));refine p' (v:=U ((bs (aT b)).extract (k+1) (bs (aT b)).size)) A A (fun W _=>by go_simp) ?_;go_simp;refine dY ?_ ?_
 all_goals first
  |(refine Rl A (fun K hK=> ?_);go_simp;refine hK _ _ _ inferInstance inferInstance ?_;clear hK K;go_simp;refine p' (v:=U (⟨#[dh c0]⟩)) A A (fun W _=>by go_simp;rw[Rp hc kR];rfl) ?_;go_simp;refine p' (v:=U ((bs (aT b)).extract 0 k++⟨#[dh c0]⟩)) A A (fun W _=>by go_simp;omega) ?_;go_simp;refine p' (v:=U (Rk (bs (aT b)) k c0)) A A (fun W _=>by go_simp;omega) ?_;go_simp;refine dY ?_ ?_)
  |(refine aH A (fun K hK=> ?_);go_simp;refine hK _ _ fH ?_;clear hK K;go_simp;refine Rl A (fun K hK=> ?_);go_simp;refine hK _ _ _ (RP inferInstance) inferInstance ?_;clear hK K;go_simp;refine p' (v:=U (⟨#[dh c0]⟩)) A A (fun W _=>by go_simp;rw[Rp hc kR];rfl) ?_;go_simp;refine p' (v:=U ((bs (aT b)).extract 0 k++⟨#[dh c0]⟩)) A A (fun W _=>by go_simp;omega) ?_;go_simp;refine p' (v:=U (Rk (bs (aT b)) k c0)) A A (fun W _=>by go_simp;omega) ?_;go_simp;refine aH A (fun K hK=> ?_);go_simp;(first|(refine fh (M3 q.out (l.out.below cW) m.out) fun d _ _=> ?_;refine hK _ _ fH ?_;clear hK K;go_simp)|(refine im (ND q.out (l.out.below cW) m.out) ?_;rintro e d⟨j,yp,yq,zp,zq,rfl,hR,f⟩;have _:=Di j;have _:jd d d:=OM;have i:=M hR;have g:=M f;clear hR f j;refine hK _ _ fH ?_;clear hK K;go_simp));(iterate 3 (refine p' A A (fun W _=>by go_simp;try with_reducible rfl) ?_;go_simp));refine aH A (fun K hK=> ?_);go_simp;(first|(refine RK (G:=K _) kR fun d _ hf=> ?_;have i:=M (aa.RM hf i.out);have g:=M (aa.KS hf g.out (RC m.out));have _:jd d d:=OM;clear hf)|skip);refine hK _ _ fH ?_;clear hK K;go_simp)
 all_goals try(first
  |(refine aH A (fun K hK=> ?_);go_simp;(first|(refine fh (M3 q.out (l.out.below cW) m.out) fun d _ _=> ?_;refine hK _ _ fH ?_;clear hK K;go_simp)|(refine im (ND q.out (l.out.below cW) m.out) ?_;rintro e d⟨j,yp,yq,zp,zq,rfl,hR,f⟩;have _:=Di j;have _:jd d d:=OM;have i:=M hR;have g:=M f;clear hR f j;refine hK _ _ fH ?_;clear hK K;go_simp));(iterate 3 (refine p' A A (fun W _=>by go_simp;try with_reducible rfl) ?_;go_simp));refine aH A (fun K hK=> ?_);go_simp;refine hK _ _ fH ?_;clear hK K;go_simp;refine aH A (fun K hK=> ?_);go_simp;refine hK _ _ fH ?_;clear hK K;go_simp)
  |(refine aH A (fun K hK=> ?_);go_simp;refine hK _ _ fH ?_;clear hK K;go_simp;refine aH A (fun K hK=> ?_);go_simp;(first|(refine fh (M3 q.out (l.out.below cW) m.out) fun d _ _=> ?_;refine hK _ _ fH ?_;clear hK K;go_simp)|(refine im (ND q.out (l.out.below cW) m.out) ?_;rintro e d⟨j,yp,yq,zp,zq,rfl,hR,f⟩;have _:=Di j;have _:jd d d:=OM;have i:=M hR;have g:=M f;clear hR f j;refine hK _ _ fH ?_;clear hK K;go_simp));(iterate 3 (refine p' A A (fun W _=>by go_simp;try with_reducible rfl) ?_;go_simp));refine aH A (fun K hK=> ?_);go_simp;(first|(refine RK (G:=K _) kR fun d _ hf=> ?_;have i:=M (aa.RM hf i.out);have g:=M (aa.KS hf g.out (RC m.out));have _:jd d d:=OM;clear hf)|skip);refine hK _ _ fH ?_;clear hK K;go_simp))
 all_goals
  refine p' A A (fun W _=>by go_simp;try with_reducible rfl) ?_;go_simp;refine aM ?_
  go_wp2_with(first
   |(go_at_call 14;first
     |((with_reducible refine fh (RN (l.out.below cW)) fun Y _ _=> ?_))
     |(refine m6 (RG m.out (l.out.below cW) (jz.below i.out jd.b) (g.out.below jd.b)) fun Y _ hb=> ?_;have _:=kM (w:=d) hb;clear hb)))
  first
  |(go_ret;exact⟨rfl,cW⟩)
  |skip
   refine atR ?_;refine kZ (.R 0 (.R 1 (.R 2 (.call 3 (.R 4 (.R 5 (.R 6 (.R 7 (.R 8 (.R 9 (.R 10 (.R 11 (.R 12 (.R 13 (.R 14 (.R 18 (.R 19 (.R 20 (.R 21 (.call 15 (.R 16 (.R 17 (.R 22 (.R 23 (.R 24 (.R 25 .done)))))))))))))))))))))))))) (by kernel_rfl) (by kernel_rfl) (fun _ _ _ _ _ h=>h) ?_
   iterate 3 (refine p' A A (fun W _=>by go_simp;try with_reducible rfl) ?_;go_simp)
   refine aH A (fun K hK=> ?_);go_simp;refine fh (ek (l.out.below cW) (Jf m.out).2.1 (jz.below i.out jd.b) (g.out.below jd.b)) fun bn _ _=> ?_;refine hK _ _ fH ?_;clear hK K;go_simp
   iterate 9 (refine p' A A (fun W _=>by go_simp;try with_reducible rfl) ?_;go_simp)
   refine p' (v:=U ((bs (aT b)).extract 0 k)) A A (fun W _=>by go_simp) ?_;go_simp
   iterate 4 (refine p' A A (fun W _=>by go_simp;try with_reducible rfl) ?_;go_simp)
   refine p' (v:=U ((bs (aT b)).extract (k+1) (bs (aT b)).size)) A A (fun W _=>by go_simp) ?_;go_simp
   refine Rl A (fun K hK=> ?_);go_simp;refine hK _ _ _ inferInstance inferInstance ?_;clear hK K;go_simp
   refine p' (v:=U (⟨#[dh c0]⟩)) A A (fun W _=>by go_simp;rw[Rp hc kR];rfl) ?_;go_simp
   refine p' (v:=U ((bs (aT b)).extract 0 k++⟨#[dh c0]⟩)) A A (fun W _=>by go_simp;omega) ?_;go_simp
   refine p' (v:=U (Rk (bs (aT b)) k c0)) A A (fun W _=>by go_simp;omega) ?_;go_simp
   iterate 3 (refine p' A A (fun W _=>by go_simp;try with_reducible rfl) ?_;go_simp)
   refine aM ?_
   go_wp2_with{}
   go_ret
   exact⟨rfl,cW⟩
end
end Go.Proofs.YtbcbefpninlfiaaGreatDoor
namespace Go.Proofs.YtbcbefpninlfiaaGreatDoor.recBack
open Go.ChangeMaps (open_string shut_string)
open Go.ChangeShapes Go.WideShapes Go.ChangeAt Go.RowKit Mor
theorem reads:∀t∈Tryz.f5.params.toList,Tryz.prog.readableRec t=true/\t<Tryz.prog.types.size:=by
 rw[Tryz.params5];intro t b;have a:([25,25,3,5].all fun u=>Tryz.prog.readableRec u&&decide (u<Tryz.prog.types.size))=true:=by kernel_rfl
 have:=ba.1 a t (by simpa using b);simpa using this
theorem lifted(os:Os)(started:os.Started)(H:Type)(enc:bR×ar ->H):
 ReturnsInHanded {} Tryz.checked os 5 .any (fun w args=>(Rows.recBackSpec.pre enc ah Tryz.f5 [] false w args/\laidMetH ah Rows.recBackRow.laid w)/\sizedMet enc ah Tryz.f5 (OpenSpec.ofChange Rows.recBackSpec) false w args)
  (Rows.recBackSpec.post enc ah Tryz.f5 false true false false):=by
 refine returnsInHanded_of_change_and (C:=Tryz.checked) (X:=fun w _=>laidMetH ah Rows.recBackRow.laid w) (fun _ _ _ u h=>h.of_heap u) own started (by kernel_rfl) Tryz.func5
  (ChangeSpec.witness_shaped (enc:=enc) (C:=Tryz.checked) (os:=os) (X:=fun w _=>laidMetH ah Rows.recBackRow.laid w) false (yE os) #[Rj #[Ri false,I J 0,I J 0,Z N 0 0,Z N 0 0],Rj #[Ri false,I J 0,I J 0,Z N 0 0,Z N 0 0],I J 0, .int .u8 0] 8 (xd os)
   (World.shaped_of_ZipB (by kernel_rfl) (by kernel_rfl)) (by kernel_rfl) (by kernel_rfl) (by kernel_rfl) (uw os _)) ?_
 intro W base args ds gs before a f _ _ r b
 have hval:∀(j:Nat) t v,Tryz.f5.params[j]? =O t ->args[j]? =O v ->Value.okWide ah W .any base t v:=a
 have c:=f
 obtain⟨p,q,hA0,P,rfl,s,x⟩:=f
 have hA:DataW.TrodAll enc ah W 0 (fun _=>true) true Tryz.f5.params.toList args.toList ds p:=hA0
 rw[Tryz.params5]at hA hval
 obtain⟨v0,D,d0,i,Q,V,d,rfl,rfl,n,y⟩:=trodAll_cons hA
 obtain⟨v1,E,d1,k,R,Y,rfl,rfl,rfl,h1,r1⟩:=trodAll_cons y
 obtain⟨v2,F,d2,l,S,q2,rfl,rfl,rfl,h2,r2⟩:=trodAll_cons r1
 obtain⟨v3,G,d3,m,T,q3,rfl,rfl,rfl,h3,z⟩:=trodAll_cons r2
 obtain⟨rfl,rfl,rfl⟩:=trodAll_nil z
 obtain rfl:args= #[v0,v1,v2,v3]:=by cases args;simp_all
 obtain⟨a0,w0⟩:=Ao (hval 0 25 v0 rfl rfl) n
 obtain⟨g,K⟩:=Ao (hval 1 25 v1 rfl rfl) h1
 obtain⟨a2,rfl,rfl,rfl,L⟩:=open_int Tryz.underlying3 (hval 2 3 v2 rfl rfl) h2
 obtain⟨a3,rfl,rfl,rfl,w3⟩:=open_int Tryz.underlying5 (hval 3 5 v3 rfl rfl) h3
 obtain⟨c3,rfl⟩:=Int.eq_ofNat_of_zero_le (wf_u8 w3).1
 obtain⟨aE,aF,B,o⟩:=qD r
 refine(Ro a0 g _ _ a2 c3 W o w0 K (PJ L) (by have:=(wf_u8 w3).2;omega)).mono fun e W'⟨he,hb⟩=> ?_
 subst he
 exact⟨_,rfl,xe laidOut reads rfl Tryz.underlying4 rfl (fun ds hd=>match ds,hd with| [_,_,_,_],_=>rfl) c rfl hb⟩
theorem named:Tryz.pinned.checked.prog.funcNamed Rows.recBackRow.func=O 5:=by kernel_rfl
theorem closed:joinedFacts Tryz.pinned.checked.prog 5 Tryz.f5 Rows.recBackSpec Rows.recBackRow=true:=by
 unfold joinedFacts;repeat' (with_reducible refine kq.2 ⟨?_, ?_⟩)
 all_goals as_aux_lemma=>kernel_rfl
theorem inst:Tryz.f5.isInstance Tryz.pinned.checked.prog Rows.recBackRow.origin Rows.recBackRow.targs:=of_decide_eq_true (by kernel_rfl)
theorem wrap:Tryz.f5.isWrapper Tryz.pinned.checked.prog Rows.recBackRow.wrapper Rows.recBackRow.mainSum:=by unfold Func.isWrapper;first|(rw[if_pos (by decide+kernel)];kernel_rfl)|(rw[if_neg (by decide+kernel)];exact⟨rfl,rfl⟩)
theorem said:Rows.RecBackSaid:=
 OpenClaim.holds_of_wide 5 Tryz.f5 rfl rfl rfl rfl rfl rfl rfl ⟨rfl,rfl,rfl,rfl,rfl⟩ rfl rfl rfl rfl rfl named Tryz.func5 closed inst wrap
  (fun os started H enc _=>lifted os started H enc)
theorem plain(f:FuncId)(fn:Func)(hf:Tryz.pinned.checked.prog.funcNamed "moraine/morainelaw11.RecBack" =O f)(b:Tryz.pinned.checked.prog.funcs[f]? =O fn):true=Tryz.pinned.checked.prog.looks []/\∀(j:Nat) t,fn.params[j]? =O t ->Tryz.pinned.checked.prog.wantsStandIn t=false:=by
 obtain rfl:f=5:=dc ((show Tryz.prog.funcNamed "moraine/morainelaw11.RecBack" =O 5 by kernel_rfl).symm.trans hf)|>.symm;obtain rfl:fn=Tryz.f5:=(dc (Tryz.func5.symm.trans b)).symm;refine⟨by kernel_rfl,fun j t c=> ?_⟩;rw[Tryz.params5]at c;have hm:t∈[25,25,3,5]:=by simpa using Array.mem_of_getElem? c
 have a:([25,25,3,5].all fun u=> !Tryz.prog.wantsStandIn u)=true:=by kernel_rfl
 exact(show Tryz.prog.wantsStandIn t=false by simpa using ba.1 a t hm)
theorem card:Rows.RecBackCardSaid:=
 Claim7.holds_tied_plain_at .later [] _ _ _ _ said (fun _ h=>by cases h) (by kernel_rfl) (fun _ h=>by cases h) recBack_row_tie rfl ⟨rfl,rfl⟩ (by kernel_rfl) rfl plain (by kernel_rfl)
#print axioms card
end Go.Proofs.YtbcbefpninlfiaaGreatDoor.recBack
