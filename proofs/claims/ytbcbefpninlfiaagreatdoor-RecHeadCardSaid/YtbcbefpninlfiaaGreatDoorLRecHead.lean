/- Proved: the card of morainelaw11's statement RecHead, as it is given, for every input. Conditions: none but the given row's own. -/
import Derived.Test.YtbcbefpninlfiaaGreatDoorC30
import Derived.Test.YtbcbefpninlfiaaGreatDoorCards
import Derived.Test.YtbcbefpninlfiaaGreatDoorTie
import Derived.SevenTiedAt
set_option maxHeartbeats 64000000
set_option maxRecDepth 100000
set_option linter.all false
open Go.Proofs.Tryz renaming prog->ah
namespace Go.Proofs.YtbcbefpninlfiaaGreatDoor
open Go.RowKit Mor
theorem JG(x:Rb)(v:Value)(w:World){B:Nat}{aE aF:Addr}(he:Env aE aF B w)(hx:AV w v x):Calls ah 10 #[v] w fun e w'=>e=.returned (.bool true)/\Below w.heap.size w w':=by
 have _:=uJ w;have a:=M he;obtain⟨r,rc,va,vc,rfl,h1,h2,h3,h4⟩:=hx;have g:=M fun W(h:Below w.heap.size w W)=>rQ.below h1 h;have i:=M fun W(h:Below w.heap.size w W)=>xX.below h2 h;have j:=M (And.intro h3 h4);clear h1 h2 h3 h4 he;go_in
 go_wp2_with(first
  |(go_at_call 11;(with_reducible refine fh (t_ _ (a.out.below cW) (NS _)) fun z _ _=> ?_))
  |(go_at_call 12;refine Calls.mono (JQ x r va rc vc (g.out _ cW) (i.out _ cW) j.out.1 j.out.2) ?_;rintro e C⟨k,b,es,sa,sc,ta,tc,G,rfl,hB,l,d⟩;have _:=CI k hB l;have o:=M d;obtain⟨t,u,y,p,r1,r2,m,n,q⟩:=LC d.i64.1 d.i64.2.1 d.i64.2.2.1 d.i64.2.2.2;have R:=M (And.intro r1 (And.intro r2 (And.intro m n)));have s:(p:Int)<=((bs (aT b)).size:Int):=(by rw[fx];omega);have c:=M (show(bs (aT b)).size<=281474976710656 from(by rw[fx];have:=d.len;omega));clear d hB l r1 r2 m n q k)
  |(go_at_call 14;refine fh (NK o.out (a.out.below cW) (Fj (sv:=.slice ta b.bj.length tc)) (Fi (sr:=.slice sa b.recs.length sc))) fun w3 _ _=> ?_)
  |(go_at_call 36;first
    |(with_reducible refine fh (lX c.out R.out.1 aE aF _ (a.out.below cW).errs) fun f _ _=> ?_)
    |(with_reducible refine fh (lX c.out R.out.2.1 aE aF _ (a.out.below cW).errs) fun f _ _=> ?_)
    |(with_reducible refine fh (lX c.out R.out.2.2.1 aE aF _ (a.out.below cW).errs) fun f _ _=> ?_)
    |(with_reducible refine fh (lX c.out R.out.2.2.2 aE aF _ (a.out.below cW).errs) fun f _ _=> ?_)))
 refine wp_loop_rounds 5 ?_
 iterate 5
  rw[rounds_succ]
  go_wp2_with(first
   |(go_at_call 36;first
     |(with_reducible refine fh (lX c.out R.out.1 aE aF _ (a.out.below cW).errs) fun f _ _=> ?_)
     |(with_reducible refine fh (lX c.out R.out.2.1 aE aF _ (a.out.below cW).errs) fun f _ _=> ?_)
     |(with_reducible refine fh (lX c.out R.out.2.2.1 aE aF _ (a.out.below cW).errs) fun f _ _=> ?_)
     |(with_reducible refine fh (lX c.out R.out.2.2.2 aE aF _ (a.out.below cW).errs) fun f _ _=> ?_)))
 all_goals go_ret;exact⟨rfl,cW⟩
end Go.Proofs.YtbcbefpninlfiaaGreatDoor
namespace Go.Proofs.YtbcbefpninlfiaaGreatDoor.recHead
open Go.ChangeMaps (open_string shut_string)
open Go.ChangeShapes Go.WideShapes Go.ChangeAt Go.RowKit Mor
theorem reads:∀t∈Tryz.f10.params.toList,Tryz.prog.readableRec t=true/\t<Tryz.prog.types.size:=by
 rw[Tryz.params10];intro t b;have a:([25].all fun u=>Tryz.prog.readableRec u&&decide (u<Tryz.prog.types.size))=true:=by kernel_rfl
 have:=ba.1 a t (by simpa using b);simpa using this
theorem lifted(os:Os)(started:os.Started)(H:Type)(enc:TypeId×Value ->H):
 ReturnsInHanded {} Tryz.checked os 10 .any (fun w args=>(Rows.recHeadSpec.pre enc ah Tryz.f10 [] false w args/\laidMetH ah Rows.recHeadRow.laid w)/\sizedMet enc ah Tryz.f10 (OpenSpec.ofChange Rows.recHeadSpec) false w args)
  (Rows.recHeadSpec.post enc ah Tryz.f10 false true false false):=by
 refine returnsInHanded_of_change_and (C:=Tryz.checked) (X:=fun w _=>laidMetH ah Rows.recHeadRow.laid w) (fun _ _ _ m h=>h.of_heap m) own started (by kernel_rfl) Tryz.func10
  (ChangeSpec.witness_shaped (enc:=enc) (C:=Tryz.checked) (os:=os) (X:=fun w _=>laidMetH ah Rows.recHeadRow.laid w) false (yE os) #[.agg #[.bool false, .int .i64 0, .int .i64 0, .slice none 0 0, .slice none 0 0]] 8 (xd os)
   (World.shaped_of_ZipB (by kernel_rfl) (by kernel_rfl)) (by kernel_rfl) (by kernel_rfl) (by kernel_rfl) (uw os _)) ?_
 intro W base args ds gs before a f _ _ k b
 have hval:∀(j:Nat) t v,Tryz.f10.params[j]? =some t ->args[j]? =some v ->Value.okWide ah W .any base t v:=a
 have c:=f
 obtain⟨p,q,hA0,s,rfl,l,n⟩:=f
 have hA:DataW.TrodAll enc ah W 0 (fun _=>true) true Tryz.f10.params.toList args.toList ds p:=hA0
 rw[Tryz.params10]at hA hval
 obtain⟨v0,r,d0,g,u,q0,d,rfl,rfl,h0,o⟩:=trodAll_cons hA
 obtain⟨rfl,rfl,rfl⟩:=trodAll_nil o
 obtain rfl:args= #[v0]:=by cases args;simp_all
 obtain⟨a0,w0⟩:=Ao (hval 0 25 v0 rfl rfl) h0
 obtain⟨aE,aF,B,i⟩:=qD k
 refine(JG a0 _ W i w0).mono fun e W'⟨he,hb⟩=> ?_
 subst he
 exact⟨_,rfl,xe laidOut reads rfl Tryz.underlying4 rfl (fun ds hd=>match ds,hd with| [_],_=>rfl) c rfl hb⟩
theorem named:Tryz.pinned.checked.prog.funcNamed Rows.recHeadRow.func=some 10:=by kernel_rfl
theorem closed:joinedFacts Tryz.pinned.checked.prog 10 Tryz.f10 Rows.recHeadSpec Rows.recHeadRow=true:=by
 unfold joinedFacts;repeat' (with_reducible refine kq.2 ⟨?_, ?_⟩)
 all_goals as_aux_lemma=>kernel_rfl
theorem inst:Tryz.f10.isInstance Tryz.pinned.checked.prog Rows.recHeadRow.origin Rows.recHeadRow.targs:=of_decide_eq_true (by kernel_rfl)
theorem wrap:Tryz.f10.isWrapper Tryz.pinned.checked.prog Rows.recHeadRow.wrapper Rows.recHeadRow.mainSum:=by unfold Func.isWrapper;first|(rw[if_pos (by decide+kernel)];kernel_rfl)|(rw[if_neg (by decide+kernel)];exact⟨rfl,rfl⟩)
theorem said:Rows.RecHeadSaid:=
 OpenClaim.holds_of_wide 10 Tryz.f10 rfl rfl rfl rfl rfl rfl rfl ⟨rfl,rfl,rfl,rfl,rfl⟩ rfl rfl rfl rfl rfl named Tryz.func10 closed inst wrap
  (fun os started H enc _=>lifted os started H enc)
theorem plain(f:FuncId)(fn:Func)(hf:Tryz.pinned.checked.prog.funcNamed "moraine/morainelaw11.RecHead" =some f)(b:Tryz.pinned.checked.prog.funcs[f]? =some fn):true=Tryz.pinned.checked.prog.looks []/\∀(j:Nat) t,fn.params[j]? =some t ->Tryz.pinned.checked.prog.wantsStandIn t=false:=by
 obtain rfl:f=10:=dc ((show Tryz.prog.funcNamed "moraine/morainelaw11.RecHead" =some 10 by kernel_rfl).symm.trans hf)|>.symm;obtain rfl:fn=Tryz.f10:=(dc (Tryz.func10.symm.trans b)).symm;refine⟨by kernel_rfl,fun j t c=> ?_⟩;rw[Tryz.params10]at c;have hm:t∈[25]:=by simpa using Array.mem_of_getElem? c
 have a:([25].all fun u=> !Tryz.prog.wantsStandIn u)=true:=by kernel_rfl
 exact(show Tryz.prog.wantsStandIn t=false by simpa using ba.1 a t hm)
theorem card:Rows.RecHeadCardSaid:=
 Claim7.holds_tied_plain_at .later [] _ _ _ _ said (fun _ h=>by cases h) (by kernel_rfl) (fun _ h=>by cases h) recHead_row_tie rfl ⟨rfl,rfl⟩ (by kernel_rfl) rfl plain (by kernel_rfl)
#print axioms card
end Go.Proofs.YtbcbefpninlfiaaGreatDoor.recHead
