/- Proved: the card of morainelaw11's statement RecCuts, as it is given, for every input. Conditions: none but the given row's own. -/
import Derived.Test.YtbcbefpninlfiaaGreatDoorC30
import Derived.Test.YtbcbefpninlfiaaGreatDoorCards
import Derived.Test.YtbcbefpninlfiaaGreatDoorTie
import Derived.SevenTiedAt
set_option maxHeartbeats 64000000
set_option maxRecDepth 100000
set_option linter.all false
open Option renaming none->N,some->O
open Go.Proofs.Tryz renaming prog->ah
open Go.Value renaming int->I,slice->Z,string->U
open Go.IntKind renaming i64->J
open Array renaming eq_empty_of_size_eq_zero->gb
namespace Go.Proofs.YtbcbefpninlfiaaGreatDoor
open Go.RowKit Mor
section
variable {W:World} {B:Nat} {aE aF:Addr}
theorem M3{s:ByteArray}(hs:s.size<=281474976710656)(he:Env aE aF B W)(h:rO s=N):Calls ah 27 #[U s] W fun e w'=>e=.returned (.tuple #[.agg #[I J 0,I J 0,I J 0,Z N 0 0,Z N 0 0],I J 110])/\Below W.heap.size W w':=by have:=nM hs W he;rw[h]at this;exact this.mono fun e w'⟨h1,h2⟩=>⟨h2,h1⟩
theorem ND{s:ByteArray}{b:Bt}(hs:s.size<=281474976710656)(he:Env aE aF B W)(h:rO s=O b):Calls ah 27 #[U s] W fun e w'=>Below W.heap.size W w'/\∃a rc va vc,e=.returned (.tuple #[.agg #[I J b.kind,I J b.n,I J b.next,Z a b.recs.length rc,Z va b.bj.length vc],I J 0])/\jz w' (Z a b.recs.length rc) b.recs/\lJ w' (Z va b.bj.length vc) b.bj:=by have:=nM hs W he;rw[h]at this;exact this
end
theorem DB{cp:Bool}{b:Bt}(h:Made cp b):mG b=O (bs (aT b)).data.toList:=by rw[h.enc,ng]
theorem Lq{cp:Bool}{b:Bt}(h:Made cp b):rO (bs (aT b))=O b:=oS h.i64.2.1 (DB h)
theorem Nz{cp:Bool}{b:Bt}(h:Made cp b){k:Nat}(hk:k<(aT b).length):rO ((bs (aT b)).extract 0 k)=N:=by
 have e:((bs (aT b)).extract 0 k).data.toList=(aT b).take k:=by{rw[<-ng (aT b)];simp[bs]};have a:((bs (aT b)).extract 0 k).size=k:=by rw[<-ByteArray.size_data,<-Array.length_toList,e,bL];omega
 refine su h.i64.2.1 (DB h) ?_ (.inr ⟨(aT b).drop k, ?_⟩);{rw[a,fx];omega};{rw[e,ng,iv]}
theorem Lr{cp:Bool}{b:Bt}(h:Made cp b){s:ByteArray}(hs:s.size≠0):rO (bs (aT b)++s)=N:=by refine su h.i64.2.1 (DB h) ?_ (.inl ⟨s.data.toList, ?_⟩);{rw[fZ];omega};{simp}
theorem Je(x:Rb)(v:Value)(at':Int)(s:ByteArray)(w:World){B:Nat}{aE aF:Addr}(he:Env aE aF B w)(hx:AV w v x)(ha:ee at') :Calls ah 6 #[v,I J at', U s] w fun e w'=>e=.returned (.bool true)/\Below w.heap.size w w':=by
 have _:=uJ w;have f:=M he;obtain⟨S,rc,va,vc,rfl,h1,h2,h3,h4⟩:=hx;have o:=M fun W(h:Below w.heap.size w W)=>rQ.below h1 h;have p:=M fun W(h:Below w.heap.size w W)=>xX.below h2 h;have y:=M (And.intro h3 h4);clear h1 h2 h3 h4 he;obtain⟨m,hm⟩:∃m:Nat,min (s.size:Int) 100=m:=⟨min s.size 100,by omega⟩;have L:(m:Int)<=(s.size:Int):=by omega
 have P:m<=100:=by omega
 have g:=M (show m=0<->s.size=0 by omega);have j:(s.extract 0 m).size=m:=by rw[cX];omega
 have a:=M j;clear j;by_cases hs0:s.size=0
 case' pos=>
  have i:s=⟨#[]⟩:=eT (gb (by simpa using hs0));have r:(s.toList==(⟨#[]⟩:ByteArray).toList)=true:=(by rw[Lx];simp[i]);have u:s.toList.isEmpty=true:=(by rw[toList_empty];simp[hs0])
  have d:=M (fun(t:ByteArray)=>show t++s.extract 0 m=t by
   have R:s.extract 0 m=⟨#[]⟩:=eT (gb (by have:=a.out;have:=g.out.2 hs0;simp_all));rw[R];exact eT (by simp))
  clear i
 case' neg=>have r:(s.toList==(⟨#[]⟩:ByteArray).toList)=false:=(by rw[Lx];simp;intro e;exact hs0 (by rw[e];rfl));have u:s.toList.isEmpty=false:=(by rw[toList_empty];simp[hs0]);have d:=M (show(s.extract 0 m).size≠0 by rw[a.out];exact fun h=>hs0 (g.out.1 h))
 all_goals
  have F:=M hs0;clear hs0;go_in
  go_wp2_with(first
   |(go_at_call 11;(with_reducible refine fh (t_ _ (f.out.below cW) (NS _)) fun V _ _=> ?_))
   |(go_at_call 12;refine Calls.mono (JQ x S va rc vc (o.out _ cW) (p.out _ cW) y.out.1 y.out.2) ?_;rintro e X⟨z,b,es,sa,sc,ta,tc,G,rfl,hB,D,n⟩;have _:=CI z hB D;have l:=M n;have Q:¬((bs (aT b)).size:Int)=0:=(by rw[fx];have:=n.pos;omega);have c:=M (show(bs (aT b)).size<=10000 from(by rw[fx];exact n.len));have E:¬9223372036854775807<(bs (aT b)).size+(s.extract 0 m).size:=(by have:=c.out;have:=a.out;omega);clear n hB D z)
   |(go_at_call 14;refine fh (NK l.out (f.out.below cW) (Fj (sv:=Z ta b.bj.length tc)) (Fi (sr:=Z sa b.recs.length sc))) fun w3 _ _=> ?_)
   |(go_at_call 26;obtain⟨k,hk⟩:∃k:Nat,cH at' ((bs (aT b)).size:Int)=k:=⟨_,(Int.toNat_of_nonneg (cP at' _ (by omega)).1).symm⟩;have q:k<(aT b).length:=(by have H:=(cP at' ((bs (aT b)).size:Int) (by omega)).2;rw[hk,fx]at H;omega);have K:(k:Int)<((bs (aT b)).size:Int):=(by rw[fx];omega);refine fh (v:=.returned (I J k)) (by rw[<-hk];exact iT at' _ ha (by omega) (by have:=c.out;omega) _) fun Y _ _=> ?_;clear hk)
   |(go_at_call 27;first
     |(with_reducible refine fh (M3 (s:=(bs (aT b)).extract 0 k) (by have:=c.out;rw[cX];omega) (f.out.below cW) (Nz l.out q)) fun w5 _ _=> ?_)
     |(with_reducible refine fh (M3 (s:=bs (aT b)++s.extract 0 m) (by have:=c.out;have:=a.out;rw[fZ];omega) (f.out.below cW) (Lr l.out d.out)) fun T _ _=> ?_)
     |((with_reducible refine Calls.mono (ND (s:=bs (aT b)++s.extract 0 m) (b:=b) (by have:=c.out;have:=a.out;rw[fZ];omega) (f.out.below cW) (by rw[d.out];exact Lq l.out)) ?_);rintro e T⟨C,ya,yc,za,zc,rfl, -, -⟩;have _:=Di C;clear C)))
  all_goals go_ret;exact⟨rfl,cW⟩
end Go.Proofs.YtbcbefpninlfiaaGreatDoor
namespace Go.Proofs.YtbcbefpninlfiaaGreatDoor.recCuts
open Go.ChangeMaps (open_string shut_string)
open Go.ChangeShapes Go.WideShapes Go.ChangeAt Go.RowKit Mor
theorem reads:∀t∈Tryz.f6.params.toList,Tryz.prog.readableRec t=true/\t<Tryz.prog.types.size:=by
 rw[Tryz.params6];intro t b;have a:([25,3,9].all fun u=>Tryz.prog.readableRec u&&decide (u<Tryz.prog.types.size))=true:=by kernel_rfl
 have:=ba.1 a t (by simpa using b);simpa using this
theorem lifted(os:Os)(started:os.Started)(H:Type)(enc:TypeId×Value ->H):
 ReturnsInHanded {} Tryz.checked os 6 .any (fun w args=>(Rows.recCutsSpec.pre enc ah Tryz.f6 [] false w args/\laidMetH ah Rows.recCutsRow.laid w)/\sizedMet enc ah Tryz.f6 (OpenSpec.ofChange Rows.recCutsSpec) false w args)
  (Rows.recCutsSpec.post enc ah Tryz.f6 false true false false):=by
 refine returnsInHanded_of_change_and (C:=Tryz.checked) (X:=fun w _=>laidMetH ah Rows.recCutsRow.laid w) (fun _ _ _ o h=>h.of_heap o) own started (by kernel_rfl) Tryz.func6
  (ChangeSpec.witness_shaped (enc:=enc) (C:=Tryz.checked) (os:=os) (X:=fun w _=>laidMetH ah Rows.recCutsRow.laid w) false (yE os) #[.agg #[.bool false,I J 0,I J 0,Z N 0 0,Z N 0 0],I J 0,U .empty] 8 (xd os)
   (World.shaped_of_ZipB (by kernel_rfl) (by kernel_rfl)) (by kernel_rfl) (by kernel_rfl) (by kernel_rfl) (uw os _)) ?_
 intro W base args ds gs before a f _ _ m b
 have hval:∀(j:Nat) t v,Tryz.f6.params[j]? =O t ->args[j]? =O v ->Value.okWide ah W .any base t v:=a
 have c:=f
 obtain⟨p,q,hA0,D,rfl,n,r⟩:=f
 have hA:DataW.TrodAll enc ah W 0 (fun _=>true) true Tryz.f6.params.toList args.toList ds p:=hA0
 rw[Tryz.params6]at hA hval
 obtain⟨v0,u,d0,g,E,q0,d,rfl,rfl,h0,s⟩:=trodAll_cons hA
 obtain⟨v1,x,d1,i,F,q1,rfl,rfl,rfl,h1,r1⟩:=trodAll_cons s
 obtain⟨v2,y,d2,k,G,q2,rfl,rfl,rfl,h2,r2⟩:=trodAll_cons r1
 obtain⟨rfl,rfl,rfl⟩:=trodAll_nil r2
 obtain rfl:args= #[v0,v1,v2]:=by cases args;simp_all
 obtain⟨a0,w0⟩:=Ao (hval 0 25 v0 rfl rfl) h0
 obtain⟨a1,rfl,rfl,rfl,z⟩:=open_int Tryz.underlying3 (hval 1 3 v1 rfl rfl) h1
 obtain⟨a2,rfl,rfl,rfl,K⟩:=open_string bQ (hval 2 9 v2 rfl rfl) h2
 obtain⟨aE,aF,B,l⟩:=qD m
 refine(Je a0 _ a1 a2 W l w0 (PJ z)).mono fun e W'⟨he,hb⟩=> ?_
 subst he
 exact⟨_,rfl,xe laidOut reads rfl Tryz.underlying4 rfl (fun ds hd=>match ds,hd with| [_,_,_],_=>rfl) c rfl hb⟩
theorem named:Tryz.pinned.checked.prog.funcNamed Rows.recCutsRow.func=O 6:=by kernel_rfl
theorem closed:joinedFacts Tryz.pinned.checked.prog 6 Tryz.f6 Rows.recCutsSpec Rows.recCutsRow=true:=by
 unfold joinedFacts;repeat' (with_reducible refine kq.2 ⟨?_, ?_⟩)
 all_goals as_aux_lemma=>kernel_rfl
theorem inst:Tryz.f6.isInstance Tryz.pinned.checked.prog Rows.recCutsRow.origin Rows.recCutsRow.targs:=of_decide_eq_true (by kernel_rfl)
theorem wrap:Tryz.f6.isWrapper Tryz.pinned.checked.prog Rows.recCutsRow.wrapper Rows.recCutsRow.mainSum:=by unfold Func.isWrapper;first|(rw[if_pos (by decide+kernel)];kernel_rfl)|(rw[if_neg (by decide+kernel)];exact⟨rfl,rfl⟩)
theorem said:Rows.RecCutsSaid:=
 OpenClaim.holds_of_wide 6 Tryz.f6 rfl rfl rfl rfl rfl rfl rfl ⟨rfl,rfl,rfl,rfl,rfl⟩ rfl rfl rfl rfl rfl named Tryz.func6 closed inst wrap
  (fun os started H enc _=>lifted os started H enc)
theorem plain(f:FuncId)(fn:Func)(hf:Tryz.pinned.checked.prog.funcNamed "moraine/morainelaw11.RecCuts" =O f)(b:Tryz.pinned.checked.prog.funcs[f]? =O fn):true=Tryz.pinned.checked.prog.looks []/\∀(j:Nat) t,fn.params[j]? =O t ->Tryz.pinned.checked.prog.wantsStandIn t=false:=by
 obtain rfl:f=6:=dc ((show Tryz.prog.funcNamed "moraine/morainelaw11.RecCuts" =O 6 by kernel_rfl).symm.trans hf)|>.symm;obtain rfl:fn=Tryz.f6:=(dc (Tryz.func6.symm.trans b)).symm;refine⟨by kernel_rfl,fun j t c=> ?_⟩;rw[Tryz.params6]at c;have hm:t∈[25,3,9]:=by simpa using Array.mem_of_getElem? c
 have a:([25,3,9].all fun u=> !Tryz.prog.wantsStandIn u)=true:=by kernel_rfl
 exact(show Tryz.prog.wantsStandIn t=false by simpa using ba.1 a t hm)
theorem card:Rows.RecCutsCardSaid:=
 Claim7.holds_tied_plain_at .later [] _ _ _ _ said (fun _ h=>by cases h) (by kernel_rfl) (fun _ h=>by cases h) recCuts_row_tie rfl ⟨rfl,rfl⟩ (by kernel_rfl) rfl plain (by kernel_rfl)
#print axioms card
end Go.Proofs.YtbcbefpninlfiaaGreatDoor.recCuts
