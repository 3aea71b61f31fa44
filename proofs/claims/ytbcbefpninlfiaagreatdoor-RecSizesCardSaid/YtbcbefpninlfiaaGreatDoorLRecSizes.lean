/- Proved: the card of morainelaw11's statement RecSizes, as it is given, for every input. Conditions: none but the given row's own. -/
import Derived.Test.YtbcbefpninlfiaaGreatDoorC30
import Derived.Test.YtbcbefpninlfiaaGreatDoorCards
import Derived.Test.YtbcbefpninlfiaaGreatDoorTie
import Derived.SevenTiedAt
set_option maxHeartbeats 64000000
set_option maxRecDepth 100000
set_option linter.all false
open Option renaming none->N,some->O
open Go.Proofs.Tryz renaming prog->ah
open Go.Value renaming int->I,slice->Z
namespace Go.Proofs.YtbcbefpninlfiaaGreatDoor
open Go.RowKit Mor
def qa(b:Bt)(k:Nat):Nat:=(iy b.kind (b.recs.drop k) (b.bj.drop k)).length
theorem Hw(b:Bt){k:Nat}(hk:b.recs.length<=k):qa b k=0:=by unfold qa;rw[a8 hk];rfl
theorem Mx{b:Bt}{k:Nat}{r:Rc}(hv:b.bj=[])(hr:b.recs[k]? =O r):qa b k=(fC r).length+qa b (k+1):=by obtain⟨h,rfl⟩:=aA.1 hr;unfold qa;rw[hv,List.drop_nil,List.drop_nil,aY h,iy,aw]
theorem My{b:Bt}{k:Nat}{r:Rc}{z:Int}(h2:b.kind=2)(hr:b.recs[k]? =O r)(a:b.bj[k]? =O z):qa b k=(az z).length+(fC r).length+qa b (k+1):=by obtain⟨h,rfl⟩:=aA.1 hr;obtain⟨h3,rfl⟩:=aA.1 a;unfold qa;rw[aY h,aY h3,iy,aw,aw,Rs h2];omega
theorem Mw(b:Bt):(aT b).length=(az b.kind).length+(az b.n).length+(az b.next).length+(az b.recs.length).length+qa b 0:=by unfold qa;simp only[dA,aT,mb,aw];omega
theorem JX{W:World}{n:Int}(h:ee n):Calls ah 29 #[I .i64 n] W fun e w'=>e=.returned (.string (bs (az n)))/\Below W.heap.size W w':=fy n h.1 h.2 W
theorem Il(x:Rb)(v:Value)(w:World){B:Nat}{aE aF:Addr}(he:Env aE aF B w)(hx:AV w v x):Calls ah 7 #[v] w fun e w'=>e=.returned (.bool true)/\Below w.heap.size w w':=by
 have _:=uJ w;have s:=M he;obtain⟨ra,rc,va,vc,rfl,h1,h2,h3,h4⟩:=hx;have E:=M fun W(h:Below w.heap.size w W)=>rQ.below h1 h;have F:=M fun W(h:Below w.heap.size w W)=>xX.below h2 h;have Y:=M (And.intro h3 h4);clear h1 h2 h3 h4 he;go_in
 go_wp2_with(first
  |(go_at_call 11;(with_reducible refine fh (t_ _ (s.out.below cW) (NS _)) fun w1 _ _=> ?_))
  |(go_at_call 12;refine Calls.mono (JQ x ra va rc vc (E.out _ cW) (F.out _ cW) Y.out.1 Y.out.2) ?_;rintro e w2⟨b2,b,es,sa,sc,ta,tc,G,rfl,hB,hG,hM⟩;have _:=CI b2 hB hG;have a:=M hM;have m1:=aN b.kind;have m2:=aN b.n;have m3:=aN b.next;have m4:=aN b.recs.length;clear hM hB hG b2)
  |(go_at_call 14;refine fh (NK a.out (s.out.below cW) (Fj (sv:=Z ta b.bj.length tc)) (Fi (sr:=Z sa b.recs.length sc))) fun w3 _ _=> ?_)
  |((with_reducible refine atR ?_);refine kZ (.R 0 (.R 1 (.R 4 (.R 5 (.R 9 (.R 10 (.R 14 (.R 15 (.R 16 (.call 2 (.R 3 (.call 6 (.R 7 (.R 8 (.call 11 (.R 12 (.R 13 (.call 17 (.R 18 (.R 19 (.R 20 .done))))))))))))))))))))) (by kernel_rfl) (by kernel_rfl) (fun _ _ _ _ _ h=>h) ?_)
  |(go_at_call 29;first
    |((with_reducible refine fh (JX a.out.i64.1) fun V _ _=> ?_);refine hK _ _ fH ?_;clear hK K;go_simp)
    |((with_reducible refine fh (JX a.out.i64.2.1) fun V _ _=> ?_);refine hK _ _ fH ?_;clear hK K;go_simp)
    |((with_reducible refine fh (JX a.out.i64.2.2.1) fun V _ _=> ?_);refine hK _ _ fH ?_;clear hK K;go_simp)
    |((with_reducible refine fh (JX a.out.i64.2.2.2) fun V _ _=> ?_);refine hK _ _ fH ?_;clear hK K;go_simp))
  |((with_reducible refine IF ?_);first
    |(refine p' A A (fun W _=>by go_simp;try with_reducible rfl) ?_;go_simp)
    |(refine aH A (fun K hK=> ?_);go_simp)
    |refine aM ?_))
 obtain⟨n0,f⟩:∃n0:Nat,n0=(az b.kind).length+(az b.n).length+(az b.next).length+(az b.recs.length).length:=⟨_,rfl⟩;have hw:∀z:Int,0<=z ->z<100000 ->IntKind.i64.wrap z=z:=fun z h0 h1=>bo _ (by omega);have e7:IntKind.i64.wrap (IntKind.i64.wrap (IntKind.i64.wrap (((bs (az b.kind)).size:Int)+((bs (az b.n)).size:Int))+((bs (az b.next)).size:Int))+((bs (az (b.recs.length:Int))).size:Int))=(n0:Int):=by{simp only[fx];rw[hw (((az b.kind).length:Int)+((az b.n).length:Int)) (by omega) (by omega),hw (((az b.kind).length:Int)+((az b.n).length:Int)+((az b.next).length:Int)) (by omega) (by omega),hw _ (by omega) (by omega),f];push_cast;rfl};rw[e7];generalize IntKind.i64.wrap (IntKind.i64.wrap (((bs (az b.kind)).size:Int)+((bs (az b.n)).size:Int))+((bs (az b.next)).size:Int))=y2 at*;generalize IntKind.i64.wrap (((bs (az b.kind)).size:Int)+((bs (az b.n)).size:Int))=y1 at*;have t:=M (show n0+qa b 0=(aT b).length by rw[Mw,f]);have HL:=M a.out.len;have bl:=a.out.ok.len;clear e7 hw f m1 m2 m3 m4;go_loopw [7,8] (fun u i wr=>∃(k n:Nat),u=I .i64 n/\i=I .i64 k/\k<=b.recs.length/\Hid (n+qa b k=(aT b).length)/\f_ wr w ej [eH w2.heap.size (.cells #[I .i64 b.kind,I .i64 b.n,I .i64 b.next,Z sa b.recs.length sc,Z ta b.bj.length tc] 38 (0,0)),qn G es b (Z sa b.recs.length sc) (Z ta b.bj.length tc),eH w.heap.size (.cells #[.bool x.copy,I .i64 x.n,I .i64 x.next,Z ra x.recs.length rc,Z va x.bj.length vc] 25 (0,0))]) (fun _ i _=>b.recs.length - (intOf i).toNat);case atStart=>exact⟨0,n0,rfl,rfl,by omega,t,inferInstance⟩
 case round=>
  obtain⟨k,n,rfl,rfl,hk,q,_⟩:=hrel;have k0:(0:Int)<=(k:Int):=(by omega);have hn:n<=10000:=(by have:=q.out;have:=HL.out;omega);by_cases Q:k<b.recs.length;case neg=>have i2:¬(k:Int)<(b.recs.length:Int):=(by omega);have m:((bs (aT b)).size:Int)=(n:Int):=(by rw[fx];have:=q.out;rw[Hw b (by omega)]at this;omega);go_wp2_with{};go_ret;exact⟨rfl,cW⟩
  case pos=>
   have i2:(k:Int)<(b.recs.length:Int):=(by omega);obtain⟨r,hr⟩:∃r,b.recs[k]? =O r:=⟨_,an Q⟩;have S:=a.out.ok.small r (aP hr);obtain⟨l,hl⟩:∃l,jA r=O l:=Option.isSome_iff_exists.1 (a.out.ok.fine.recs r (aP hr)).1;have d:(fC r).length=l.length:=(by unfold fC;rw[hl];rfl);rw[d]at S;obtain⟨qb,qo,qe,ea,⟨xa,xn,xc,ya,yn,yc,rfl,hx1,hx2,hx3⟩, -,g⟩:=cl.at (Fj (W:=wr) (sr:=Z sa b.recs.length sc) (sv:=Z ta b.bj.length tc)) hr;cases ea;have C:=M g;have c:=M (CF r xa ya xn xc yn yc wr (s.out.below cW) ⟨hx1,hx2,hx3⟩);rw[hl]at c;unfold AG at c;clear g hx1 hx2 hx3;by_cases h2:b.kind=2;case' pos=>have R:b.bj.length=b.recs.length:=a.out.ok.fine.len h2;obtain⟨z,m⟩:∃z,b.bj[k]? =O z:=⟨_,an (by omega)⟩;obtain⟨zb,X,ez,L⟩:=lJ.at (Fi (W:=wr) (sr:=Z (O ⟨qb,qo,N⟩) b.recs.length sc) (sv:=Z ta b.bj.length tc)) m;cases ez;have HZ:∀W,Below wr.heap.size wr W ->W.cell? ⟨zb,X+k,N⟩=O (I .i64 z):=fun W hW=>(hW.cell (p:=⟨zb,X+k,N⟩) (fD (o:=X+k) L)).trans L;have T:1<=z/\z<=b.n:=by{rcases a.out.ok.fine.kind with h|h;{omega};{exact h.2.2 z (aP m)}};have hz1:ee z:=(by have:=a.out.n;unfold ee;omega);have H:=M hz1;have j2:(k:Int)<(b.bj.length:Int):=(by omega);have m9:=aN z;have D:=M (My h2 hr m);have bk:(b.kind==2)=true:=(by rw[h2];rfl);clear L m T hz1 R h2
   case' neg=>have D:=M (Mx (b:=b) (by rcases a.out.ok.fine.kind with h|h;exact h.2;omega) hr)
   all_goals
    go_wp2_with(first
     |((with_reducible refine A5 (.load 53 (.tmp 50)) A ?_);refine kE 53 _ A A qb (qo+k*18) A (aL r (Z xa xn xc) (Z ya yn yc)) (.struct (Tryz.prog.fieldsOf 53)) (fun j y hj=>C.out j y hj) ef A (by kernel_rfl) ?_)
     |(go_at_call 20;refine c.out.mono ?_;rintro e w5⟨rfl,b5⟩;have _:=Di b5;have aX:=M b5)
     |(go_at_call 29;refine fh (JX H.out) fun w6 _ _=> ?_))
   all_goals
    go_roundw
    case rel=>first
     |exact⟨k+1,n+l.length,by go_num,by go_num,by omega,M (by have P:=D.out;rw[d]at P;have:=q.out;omega),inferInstance⟩
     |exact⟨k+1,n+l.length+(az z).length,by rw[fx];exact congrArg (Value.int .i64) (by unfold wrap64;omega),by go_num,by omega,M (by have P:=D.out;rw[d]at P;have:=q.out;omega),inferInstance⟩
    case measure=>simp[intOf];omega
end Go.Proofs.YtbcbefpninlfiaaGreatDoor
namespace Go.Proofs.YtbcbefpninlfiaaGreatDoor.recSizes
open Go.ChangeMaps (open_string shut_string)
open Go.ChangeShapes Go.WideShapes Go.ChangeAt Go.RowKit Mor
theorem reads:∀t∈Tryz.f7.params.toList,Tryz.prog.readableRec t=true/\t<Tryz.prog.types.size:=by
 rw[Tryz.params7];intro t b;have a:([25].all fun u=>Tryz.prog.readableRec u&&decide (u<Tryz.prog.types.size))=true:=by kernel_rfl
 have:=ba.1 a t (by simpa using b);simpa using this
theorem lifted(os:Os)(started:os.Started)(H:Type)(enc:TypeId×Value ->H):
 ReturnsInHanded {} Tryz.checked os 7 .any (fun w args=>(Rows.recSizesSpec.pre enc ah Tryz.f7 [] false w args/\laidMetH ah Rows.recSizesRow.laid w)/\sizedMet enc ah Tryz.f7 (OpenSpec.ofChange Rows.recSizesSpec) false w args)
  (Rows.recSizesSpec.post enc ah Tryz.f7 false true false false):=by
 refine returnsInHanded_of_change_and (C:=Tryz.checked) (X:=fun w _=>laidMetH ah Rows.recSizesRow.laid w) (fun _ _ _ m h=>h.of_heap m) own started (by kernel_rfl) Tryz.func7
  (ChangeSpec.witness_shaped (enc:=enc) (C:=Tryz.checked) (os:=os) (X:=fun w _=>laidMetH ah Rows.recSizesRow.laid w) false (yE os) #[.agg #[.bool false,I .i64 0,I .i64 0,Z N 0 0,Z N 0 0]] 8 (xd os)
   (World.shaped_of_ZipB (by kernel_rfl) (by kernel_rfl)) (by kernel_rfl) (by kernel_rfl) (by kernel_rfl) (uw os _)) ?_
 intro W base args ds gs before a f _ _ k b
 have hval:∀(j:Nat) t v,Tryz.f7.params[j]? =O t ->args[j]? =O v ->Value.okWide ah W .any base t v:=a
 have c:=f
 obtain⟨p,q,hA0,s,rfl,l,n⟩:=f
 have hA:DataW.TrodAll enc ah W 0 (fun _=>true) true Tryz.f7.params.toList args.toList ds p:=hA0
 rw[Tryz.params7]at hA hval
 obtain⟨v0,r,d0,g,u,q0,d,rfl,rfl,h0,o⟩:=trodAll_cons hA
 obtain⟨rfl,rfl,rfl⟩:=trodAll_nil o
 obtain rfl:args= #[v0]:=by cases args;simp_all
 obtain⟨a0,w0⟩:=Ao (hval 0 25 v0 rfl rfl) h0
 obtain⟨aE,aF,B,i⟩:=qD k
 refine(Il a0 _ W i w0).mono fun e W'⟨he,hb⟩=> ?_
 subst he
 exact⟨_,rfl,xe laidOut reads rfl Tryz.underlying4 rfl (fun ds hd=>match ds,hd with| [_],_=>rfl) c rfl hb⟩
theorem named:Tryz.pinned.checked.prog.funcNamed Rows.recSizesRow.func=O 7:=by kernel_rfl
theorem closed:joinedFacts Tryz.pinned.checked.prog 7 Tryz.f7 Rows.recSizesSpec Rows.recSizesRow=true:=by
 unfold joinedFacts;repeat' (with_reducible refine kq.2 ⟨?_, ?_⟩)
 all_goals as_aux_lemma=>kernel_rfl
theorem inst:Tryz.f7.isInstance Tryz.pinned.checked.prog Rows.recSizesRow.origin Rows.recSizesRow.targs:=of_decide_eq_true (by kernel_rfl)
theorem wrap:Tryz.f7.isWrapper Tryz.pinned.checked.prog Rows.recSizesRow.wrapper Rows.recSizesRow.mainSum:=by unfold Func.isWrapper;first|(rw[if_pos (by decide+kernel)];kernel_rfl)|(rw[if_neg (by decide+kernel)];exact⟨rfl,rfl⟩)
theorem said:Rows.RecSizesSaid:=
 OpenClaim.holds_of_wide 7 Tryz.f7 rfl rfl rfl rfl rfl rfl rfl ⟨rfl,rfl,rfl,rfl,rfl⟩ rfl rfl rfl rfl rfl named Tryz.func7 closed inst wrap
  (fun os started H enc _=>lifted os started H enc)
theorem plain(f:FuncId)(fn:Func)(hf:Tryz.pinned.checked.prog.funcNamed "moraine/morainelaw11.RecSizes" =O f)(b:Tryz.pinned.checked.prog.funcs[f]? =O fn):true=Tryz.pinned.checked.prog.looks []/\∀(j:Nat) t,fn.params[j]? =O t ->Tryz.pinned.checked.prog.wantsStandIn t=false:=by
 obtain rfl:f=7:=dc ((show Tryz.prog.funcNamed "moraine/morainelaw11.RecSizes" =O 7 by kernel_rfl).symm.trans hf)|>.symm;obtain rfl:fn=Tryz.f7:=(dc (Tryz.func7.symm.trans b)).symm;refine⟨by kernel_rfl,fun j t c=> ?_⟩;rw[Tryz.params7]at c;have hm:t∈[25]:=by simpa using Array.mem_of_getElem? c
 have a:([25].all fun u=> !Tryz.prog.wantsStandIn u)=true:=by kernel_rfl
 exact(show Tryz.prog.wantsStandIn t=false by simpa using ba.1 a t hm)
theorem card:Rows.RecSizesCardSaid:=
 Claim7.holds_tied_plain_at .later [] _ _ _ _ said (fun _ h=>by cases h) (by kernel_rfl) (fun _ h=>by cases h) recSizes_row_tie rfl ⟨rfl,rfl⟩ (by kernel_rfl) rfl plain (by kernel_rfl)
#print axioms card
end Go.Proofs.YtbcbefpninlfiaaGreatDoor.recSizes
