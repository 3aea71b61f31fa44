import Derived.Test.YtbcbefpninlfiaaGreatDoorC19
import Derived.Laws.EntriesVeiled
import Derived.Lib.ItoaNum
set_option maxHeartbeats 64000000
set_option maxRecDepth 100000
set_option linter.all false
open Go renaming Calls->aJ,Value->ar,World->ai
open Go.Proofs.Tryz renaming prog->ah
open Go.Value renaming agg->Rj,int->I,slice->Z,string->U,tuple->Rx
open Option renaming none->N,some->O
open Go.IntKind renaming i64->J
open Bool renaming false_eq_true->jQ
open Go.RowKit renaming Below->ay
namespace Go.Proofs.YtbcbefpninlfiaaGreatDoor
section
open Go.ChangeShapes Go.WideShapes Go.ChangeAt Go.RowKit Mor
noncomputable def M0(os:Os):ai:=
 let w0:=World.holding ah os ⟨#[], #[],[]⟩
 {w0 with heap:=w0.heap.modify 2 fun
  | .cells _ t frozen=>.cells #[.iface 263 (Rj #[.pointer (O ⟨8,95,N⟩)])] t frozen
  |o=>o}
abbrev qV:List (String×DataW Unit):=Fu.filter fun x=>x.2.handleName?.isNone
noncomputable def yE(os:Os):ai:=(M0 os).layVars ah qV
theorem xd(os:Os):(yE os).os=os:=World.layVars_os _ _ _
theorem uw(os:Os)(args:Array ar):laidMetH ah Fu ((yE os).forCall (fun _ _=>0) ⟨#[],args,[]⟩).memory:=by
 refine laidMetH_of_parts ?_ (by kernel_rfl);have e1:(qV.filter fun x=>(qV.map (·.1)).contains x.1)=qV:=List.filter_eq_self.2 fun x hx=>List.contains_iff_mem.2 (fJ.2 ⟨x,hx,rfl⟩);have e2:(qV.filter fun x=> !(qV.map (·.1)).contains x.1)=[]:=List.filter_eq_nil_iff.2 fun x hx=>by rw[List.contains_iff_mem.2 (fJ.2 ⟨x,hx,rfl⟩)];simp
 have h:laidMet ah qV (yE os):=laidMet_layVars (w0:=M0 os) (qV.map (·.1)) [] (by rw[e1];rfl) (by rw[e1];kernel_rfl) (by rw[e1];kernel_rfl) (by rw[e2];exact LaidIn.none);exact h.of_heap (by simp[World.memory,World.forCall,Input.heap])
end
section
open Go.RowKit Mor
def NU(r:Rc):Option (List UInt8):=if dI r.cls=true/\0<=r.id/\r.id<8 then O (az r.id++eA r.cls)else N
def NV(r:Rc):Option (List UInt8):=if ep r.bF=true/\0<=r.id/\r.id<8/\1<=r.bY/\r.bY<=12 then O (az r.id++az r.bY++fi r.bF)else N
def NW(r:Rc):Option (List UInt8):=if dv r.obj=true then O (fE r.obj)else N
def BV(most:Int)(r:Rc):Option (List UInt8):=if 0<=r.id/\r.id<=most/\dn r.name=true then O (dy r.name++az r.id)else N
theorem LI(r:Rc):qI r=if r.kind=3 then NU r else if r.kind=4 then NV r else if r.kind=1 then NW r else if r.kind=2 then BV 100000 r else if r.kind=5 then BV 1 r else N:=rfl
theorem qx{c:pd}(h:dI c=true):(eA c).length<=1000:=by
 have b:c.fs.length<=8:=by simp only[dI,aK,Rt]at h;exact h.2.1
 have a:c.name.size<=20:=ff (by simp only[dI,aK]at h;exact h.1);have h1:=gU dZ 60 c.fs fun f hf=>qE (pM h f hf);have h2:=cZ c.name;have h3:=aN c.fs.length;simp only[eA,aw];omega
theorem Ak{o:Ob}(h:dv o=true):(fE o).length<=10000:=by
 have b:o.bG.length<=8:=by simp[dv,m_]at h;omega
 have h1:=gU fB 1000 o.bG fun V a=>vH (by
  simp only[dv,aK]at h;have:=ba.1 h.2 V a;simp only[lQ,aK]at this;exact this.1)
 have h2:=gU az 10 (gG o) fun x _=>aN x;have h3:(gG o).length=4:=rfl;simp only[fE,aw];omega
theorem sS{c:Cg}(h:ep c=true):(fi c).length<=60000:=by obtain⟨h1,h2,h3,h4,a⟩:=AR.of h;have:=aN c.k;have:=aN c.tk;have:=aN c.fP;have:=cZ c.field;have:=cZ c.name;have:=cZ c.more;have:=cZ c.expr;have:=cZ c.other;simp only[fi,aw];omega
theorem KC(a:List UInt8)(s:ByteArray):(⟨a.toArray⟩:ByteArray)++s=⟨(a++s.data.toList).toArray⟩:=by apply eT;apply Array.ext'; simp
def oP:Option (List UInt8) ->ar
 |some l=>Rx #[U (bs l),I J 0]
 |none=>Rx #[U ⟨#[]⟩,I J 110]
theorem qX(n:ByteArray):dI ⟨n,[]⟩=dn n:=by have h:tt []=true:=rfl;simp[dI,h]
theorem P6{c:pd}{v:ar}{w:ai}(hv:qp w v c):aJ ah 135 #[v] w (l7 (if dI c=true then Rx #[U (bs (eA c)),I J 0]else Rx #[U ⟨#[]⟩,I J 40]) w):=by cases h:dI c;{exact Bp c v w hv h};{exact DJ c v w hv h}
theorem PF{s:ByteArray}(h:s.size<=10000)(w:ai):aJ ah 182 #[U s] w (l7 (Rx #[U (bs (dy s)),I J 0]) w):=by have:=pV s h w;rwa[KC]at this
variable (r:Rc) (v f:ar) (w:ai)
theorem Ae(hf:je w f r.cls.fs)(a:Gf r):aJ ah 87 #[Rj (aL r v f).toArray] w (l7 (oP (NU r)) w):=by
 have _:=uJ w;have b:=M hf;have e:=M a;have d:=M fun hr:dI r.cls=true=>show¬9223372036854775807<(bs (az r.id)).size+(bs (eA r.cls)).size by have:=qx hr;have:=aN r.id;rw[fx,fx];omega
 clear hf a;go_in
 go_wp2_with(first
  |(refine j' (P6 (c:=r.cls) ⟨_,rfl,b.out.below cW,e.out.2.1⟩) fun g _ z1=> ?_;cases hr:dI r.cls<;>simp only[jQ,if_true,if_false];rotate_left;have h:=d.out hr)
  |(refine j' (FC [r.id] NO (by simp;exact⟨by omega,by omega⟩) (by simp)) fun g _ z1=> ?_))
 all_goals go_ret2;refine⟨?_,cW⟩;unfold NU;split;{first|rfl|(exfalso;simp_all;try omega)};{first|rfl|(exfalso;simp_all;try omega)}
theorem yh{B:Nat}{aE aF:Addr}(he:Env aE aF B w)(a:Gf r):aJ ah 91 #[Rj (aL r v f).toArray] w (l7 (oP (NV r)) w):=by
 have _:=uJ w;have c:=M fun W(hb:ay w.heap.size w W)=>Js r.bF a.2.2 W (he.below hb).tabs (by have:=(he.below hb).g;have:=(he.below hb).b;omega);have d:=M fun hr:ep r.bF=true=>show¬9223372036854775807<(bs (az r.id++az r.bY)).size+(bs (fi r.bF)).size by have:=sS hr;have:=aN r.id;have:=aN r.bY;rw[fx,fx,aw];omega
 clear he a;go_in
 go_wp2_with(first
  |(refine j' (c.out _ cW) fun e _ z1=> ?_;cases hr:ep r.bF<;>simp only[jQ,if_true,if_false];rotate_left;have h:=d.out hr)
  |(refine j' (FC [r.id,r.bY] JI (by simp;exact⟨⟨by omega,by omega⟩,by omega,by omega⟩) (by simp)) fun e _ z1=> ?_))
 all_goals go_ret2;refine⟨?_,cW⟩;unfold NV;split;{first|rfl|(exfalso;simp_all;try omega)};{first|rfl|(exfalso;simp_all;try omega)}
theorem Eg{B:Nat}{aE aF:Addr}(he:Env aE aF B w)(hv:qg w v r.obj.bG):aJ ah 95 #[Rj (aL r v f).toArray] w (l7 (oP (NW r)) w):=by have _:=uJ w;have a:=M fun W(hb:ay w.heap.size w W)=>Bq r.obj _ W B aE aF (he.below hb) ⟨v,rfl,hv.below hb⟩;clear he hv;go_in;go_wp2_with(refine j' (a.out _ cW) fun b _ z1=> ?_;unfold rk;cases hr:dv r.obj<;>simp only[jQ,if_true,if_false]);all_goals go_ret2;refine⟨?_,cW⟩;unfold NW;split;{first|rfl|(exfalso;simp_all;try omega)};{first|rfl|(exfalso;simp_all;try omega)}
theorem uV(m:Int)(hm:m<=100000)(a:Gf r):aJ ah 144 #[Rj (aL r v f).toArray,I J m] w (l7 (oP (BV m r)) w):=by
 have _:=uJ w;have d:=M fun W=>mu ⟨r.name,[]⟩ (Rj #[U r.name,Z N 0 0]) W ⟨_,rfl,dL _ _ _,a.1⟩;have c:=M fun hr:dn r.name=true=>show¬9223372036854775807<(bs (dy r.name)).size+(bs (az r.id)).size by have:=ff hr;have:=cZ r.name;have:=aN r.id;rw[fx,fx];omega
 clear a;go_in
 go_wp2_with(first
  |(refine j' (d.out _) fun b _ z1=> ?_;rw[qX];cases hr:dn r.name;rotate_left;have e:=c.out hr)
  |(refine j' (PF (by have:=ff hr;omega) _) fun b _ z1=> ?_)
  |(refine j' (FC [r.id] NO (by simp;exact⟨by omega,by omega⟩) (by simp)) fun b _ z1=> ?_))
 all_goals go_ret2;refine⟨?_,cW⟩;unfold BV;split;{first|rfl|(exfalso;simp_all;try omega)};{first|rfl|(exfalso;simp_all;try omega)}
theorem BX(a:Gf r):aJ ah 99 #[Rj (aL r v f).toArray] w (l7 (oP (BV 100000 r)) w):=by
 have _:=uJ w;have b:=M fun W=>uV r v f W 100000 (by omega) a;clear a;go_in
 go_wp2_with(first
  |(with_reducible refine uX (T:=53) (by with_reducible rfl) A A ef (ql _ _ _) ?_)
  |(refine j' (b.out _) fun c _ z1=> ?_;cases h:BV 100000 r<;>simp only[oP]))
 all_goals go_ret2;exact⟨by rw[h];rfl,cW⟩
theorem BY(a:Gf r):aJ ah 102 #[Rj (aL r v f).toArray] w (l7 (oP (BV 1 r)) w):=by
 have _:=uJ w;have b:=M fun W=>uV r v f W 1 (by omega) a;clear a;go_in
 go_wp2_with(first
  |(with_reducible refine uX (T:=53) (by with_reducible rfl) A A ef (ql _ _ _) ?_)
  |(refine j' (b.out _) fun c _ z1=> ?_;cases h:BV 1 r<;>simp only[oP]))
 all_goals go_ret2;exact⟨by rw[h];rfl,cW⟩
end
section
open Go.RowKit Mor
theorem oD(a b:Rc)(v f u g:ar)(w:ai)(ha:zy w a v f)(hb:zy w b u g):aJ ah 24 #[Rj (aL a v f).toArray,Rj (aL b u g).toArray] w (l7 (.bool (oC a b)) w):=by
 have _:=uJ w;have e:=M fun W(h:ay w.heap.size w W)=>Ie a.obj b.obj _ _ W ⟨v,rfl,ha.1.below h⟩ ⟨u,rfl,hb.1.below h⟩;have d:=M fun W(h:ay w.heap.size w W)=>Ib a.cls b.cls _ _ W ⟨f,rfl,ha.2.1.below h,ha.2.2.2.1⟩ ⟨g,rfl,hb.2.1.below h,hb.2.2.2.1⟩;clear ha hb;by_cases i:a.kind=b.kind;by_cases j:a.id=b.id;by_cases k:a.bY=b.bY;by_cases l:a.name=b.name
 all_goals
  go_in
  go_wp2_with(first
   |(go_at_call 54;refine j' (e.out _ cW) fun c _ z1=> ?_;cases h1:tI a.obj b.obj)
   |(go_at_call 33;refine j' (d.out _ cW) fun c _ z1=> ?_;cases h2:tH a.cls b.cls)
   |(go_at_call 55;refine j' (Ic a.bF b.bF _) fun c _ z1=> ?_))
  all_goals go_ret;exact⟨by simp[oC, *],cW⟩
end
section
open Go.RowKit Mor
section
variable {r:Rc} {v f x:ar} {n:Int} {s:ByteArray}
instance:og (aL r v f) 0 (I J n) (aL {r with kind:=n} v f):=⟨rfl⟩
instance:og (aL r v f) 1 (I J n) (aL {r with obj:={r.obj with id:=n}} v f):=⟨rfl⟩
instance:og (aL r v f) 2 (I J n) (aL {r with obj:={r.obj with cls:=n}} v f):=⟨rfl⟩
instance:og (aL r v f) 3 (I J n) (aL {r with obj:={r.obj with bY:=n}} v f):=⟨rfl⟩
instance:og (aL r v f) 4 x (aL r x f):=⟨rfl⟩
instance:og (aL r v f) 5 (I J n) (aL {r with id:=n} v f):=⟨rfl⟩
instance:og (aL r v f) 6 (I J n) (aL {r with bY:=n} v f):=⟨rfl⟩
instance:og (aL r v f) 7 (U s) (aL {r with name:=s} v f):=⟨rfl⟩
instance:og (aL r v f) 8 (U s) (aL {r with cls:={r.cls with name:=s}} v f):=⟨rfl⟩
instance:og (aL r v f) 9 x (aL r v x):=⟨rfl⟩
instance:og (aL r v f) 10 (I J n) (aL {r with bF:={r.bF with k:=n}} v f):=⟨rfl⟩
instance:og (aL r v f) 11 (U s) (aL {r with bF:={r.bF with field:=s}} v f):=⟨rfl⟩
instance:og (aL r v f) 12 (U s) (aL {r with bF:={r.bF with name:=s}} v f):=⟨rfl⟩
instance:og (aL r v f) 13 (U s) (aL {r with bF:={r.bF with more:=s}} v f):=⟨rfl⟩
instance:og (aL r v f) 14 (I J n) (aL {r with bF:={r.bF with tk:=n}} v f):=⟨rfl⟩
instance:og (aL r v f) 15 (I J n) (aL {r with bF:={r.bF with fP:=n}} v f):=⟨rfl⟩
instance:og (aL r v f) 16 (U s) (aL {r with bF:={r.bF with expr:=s}} v f):=⟨rfl⟩
instance:og (aL r v f) 17 (U s) (aL {r with bF:={r.bF with other:=s}} v f):=⟨rfl⟩
end
theorem As{x:Rc}{va a:Option Addr}{c vc fn b:Nat}:(aL x (Z va c vc) (Z a fn b)).toArray.all (·.oneCell') =true:=by kernel_rfl
theorem PC:Gf vm:=by unfold Gf AR;decide
theorem Gk(r:Rc)(va a:Option Addr)(c vc fn b:Nat)(w:ai):aJ ah 85 #[Rj (aL r (Z va c vc) (Z a fn b)).toArray] w (l7 (Rj (aL {r with kind:=0,id:=0,cls:=iA} (Z va c vc) (Z N 0 0)).toArray) w)/\aJ ah 89 #[Rj (aL r (Z va c vc) (Z a fn b)).toArray] w (l7 (Rj (aL {r with kind:=0,id:=0,bY:=0,bF:=nJ} (Z va c vc) (Z a fn b)).toArray) w)/\aJ ah 93 #[Rj (aL r (Z va c vc) (Z a fn b)).toArray] w (l7 (Rj (aL {r with kind:=0,obj:=oz} (Z N 0 0) (Z a fn b)).toArray) w)/\aJ ah 97 #[Rj (aL r (Z va c vc) (Z a fn b)).toArray] w (l7 (Rj (aL {r with kind:=0,id:=0,name:=iY} (Z va c vc) (Z a fn b)).toArray) w):=by
 have _:=uJ w;refine⟨?_, ?_, ?_, ?_⟩
 all_goals
  go_in
  go_wp2_with(first
   |(with_reducible refine vN (T:=53) (by with_reducible rfl) A A fun d _ z1=> ?_)
   |(with_reducible refine I4 (T:=53) (by with_reducible rfl) A oB fun d _ z1=> ?_)
   |(with_reducible refine uX (T:=53) (by with_reducible rfl) A A ef (ql _ _ _) ?_)
   |((with_reducible refine A5 (.store 53 _ _) A ?_);refine Kz A A A A (ql _ _ _) (by rfl) As fun d _ z1=> ?_))
  exact au (Mv _ _ 2 _ _ _ (0,0) A A kR A) A ⟨rfl,cW⟩
theorem BW{r:Rc}{l:List UInt8}(h:qI r=O l):l.length<=100000:=by have e:=aN r.id;have f:=aN r.bY;unfold qI at h;by_cases k3:r.kind=3;{rw[Rs k3]at h;split at h;{rename_i c;have:=qx c.1;injection h with h;subst h;rw[aw];omega};{simp at h}};rw[Rq k3]at h;by_cases b:r.kind=4;{rw[Rs b]at h;split at h;{rename_i c;have:=sS c.1;injection h with h;subst h;rw[aw,aw];omega};{simp at h}};rw[Rq b]at h;by_cases a:r.kind=1;{rw[Rs a]at h;split at h;{rename_i c;have:=Ak c;injection h with h;subst h;omega};{simp at h}};rw[Rq a]at h;by_cases k2:r.kind=2;{rw[Rs k2]at h;split at h;{rename_i c;have:=ff c.2.2;have:=cZ r.name;injection h with h;subst h;rw[aw];omega};{simp at h}};rw[Rq k2]at h;by_cases d:r.kind=5;{rw[Rs d]at h;split at h;{rename_i c;have:=ff c.2.2;have:=cZ r.name;injection h with h;subst h;rw[aw];omega};{simp at h}};rw[Rq d]at h;simp at h
theorem LH(r:Rc)(va b:Option Addr)(d vc fn c:Nat)(w:ai){B:Nat}{aE aF:Addr}(he:Env aE aF B w)(hr:zy w r (Z va d vc) (Z b fn c))(hk:1<=r.kind/\r.kind<=5):
 ∃k g l i fr m o n p yn q,iQ r.kind=Rj #[I J k, .func (.func g) #[] #[], .func (.func l) #[] #[], .func (.func i) #[] #[], .func (.func fr) #[] #[]]/\
  (∀f∈[g,l,i],∀vs w,(callFunc f vs).run ah w=.ok (.enter f vs) w)/\
  (∀W,aJ ah g #[Rj (aL r (Z va d vc) (Z b fn c)).toArray] W (l7 (Rj (aL (uO r) (Z m o n) (Z p yn q)).toArray) W))/\zy w (uO r) (Z m o n) (Z p yn q)/\
  ∀W,ay w.heap.size w W ->aJ ah i #[Rj (aL r (Z va d vc) (Z b fn c)).toArray] W (l7 (oP (qI r)) W):=by
 have j:r.kind=3\/r.kind=4\/r.kind=1\/r.kind=2\/r.kind=5:=by omega
 have n0:iY.size<=9223372036854775807:=by decide
 have hb:=Gk r va b d vc fn c
 have a:∀f∈[85,89,93,97,86,90,94,98,101,87,91,95,99,102],∀vs w,(callFunc f vs).run ah w=.ok (.enter f vs) w:=by intro f hf vs w;simp only[bh,bV,or_false]at hf;rcases hf with rfl|rfl|rfl|rfl|rfl|rfl|rfl|rfl|rfl|rfl|rfl|rfl|rfl|rfl<;>kernel_rfl
 rw[LI]
 unfold iQ uO
 rcases j with e|e|e|e|e
 · simp only[e,if_true];exact⟨_,_,_,_,_,_,_,_,_,_,_,rfl,fun f hf=>a f (by simp only[bh,bV,or_false]at hf;rcases hf with rfl|rfl|rfl<;>simp),fun W=>(hb W).1,⟨hr.1,dL _ _ _,hr.2.2.1,n0,hr.2.2.2.2⟩,fun W h=>Ae r _ _ W (hr.2.1.below h) hr.2.2⟩
 · simp only[e,if_true,show¬(4:Int)=3 by omega,if_false];exact⟨_,_,_,_,_,_,_,_,_,_,_,rfl,fun f hf=>a f (by simp only[bh,bV,or_false]at hf;rcases hf with rfl|rfl|rfl<;>simp),fun W=>(hb W).2.1,⟨hr.1,hr.2.1,hr.2.2.1,hr.2.2.2.1,n0,n0,n0,n0,n0⟩,fun W h=>yh r _ _ W (he.below h) hr.2.2⟩
 · simp only[e,if_true,show¬(1:Int)=3 by omega,show¬(1:Int)=4 by omega,if_false];exact⟨_,_,_,_,_,_,_,_,_,_,_,rfl,fun f hf=>a f (by simp only[bh,bV,or_false]at hf;rcases hf with rfl|rfl|rfl<;>simp),fun W=>(hb W).2.2.1,⟨dL _ _ _,hr.2.1,hr.2.2⟩,fun W h=>Eg r _ _ W (he.below h) (hr.1.below h)⟩
 · simp only[e,if_true,show¬(2:Int)=3 by omega,show¬(2:Int)=4 by omega,show¬(2:Int)=1 by omega,if_false];exact⟨_,_,_,_,_,_,_,_,_,_,_,rfl,fun f hf=>a f (by simp only[bh,bV,or_false]at hf;rcases hf with rfl|rfl|rfl<;>simp),fun W=>(hb W).2.2.2,⟨hr.1,hr.2.1,n0,hr.2.2.2⟩,fun W _=>BX r _ _ W hr.2.2⟩
 · simp only[e,if_true,show¬(5:Int)=3 by omega,show¬(5:Int)=4 by omega,show¬(5:Int)=1 by omega,show¬(5:Int)=2 by omega,if_false];exact⟨_,_,_,_,_,_,_,_,_,_,_,rfl,fun f hf=>a f (by simp only[bh,bV,or_false]at hf;rcases hf with rfl|rfl|rfl<;>simp),fun W=>(hb W).2.2.2,⟨hr.1,hr.2.1,n0,hr.2.2.2⟩,fun W _=>BY r _ _ W hr.2.2⟩
theorem ub(r:Rc)(va i:Option Addr)(n vc fn j:Nat)(m:Nat)(w:ai){B:Nat}{aE aF:Addr}(he:Env aE aF B w)(hm:w.heap[m]? =O (.map lT 5))(hr:zy w r (Z va n vc) (Z i fn j)):aJ ah 51 #[.map (O m),Rj (aL r (Z va n vc) (Z i fn j)).toArray] w (l7 (oP (jA r)) w):=by
 have _:=uJ w;have C:∀W,ay w.heap.size w W ->(Instr.lookup 106 (.map (O m)) (I J r.kind) true).run ah W=.ok (Rx #[iQ r.kind, .bool (decide (1<=r.kind/\r.kind<=5))]) W:=fun W h=>(o7 W m r.kind ((h.block m (aV hm)).trans hm)).2;obtain⟨s,hs⟩:∃s,oC (uO r) vm=s:=⟨_,rfl⟩;obtain⟨l,c⟩:∃l,qI r=l:=⟨_,rfl⟩;have g:=M (show jA r=if uv r=true/\s=true then l.map (az r.kind++ ·)else N by unfold jA;rw[hs,c]);by_cases hk:1<=r.kind/\r.kind<=5;case neg=>have hq:iQ r.kind=Rj #[I J 0, .nilFunc, .nilFunc, .nilFunc, .nilFunc]:=(by unfold iQ;rw[Rq (by omega),Rq (by omega),Rq (by omega),Rq (by omega),Rq (by omega)]);have hd:decide (1<=r.kind/\r.kind<=5)=false:=Rw hk;have a:=M (show jA r=N by rw[g.out,Rq];rintro⟨h, -⟩;unfold uv at h;rw[aK,Rt,Rt]at h;exact hk h);clear hk hm;go_in;go_wp2_with(with_reducible refine vN (T:=53) (by with_reducible rfl) A A fun d _ z1=> ?_);go_ret2;exact⟨by rw[a.out];rfl,cW⟩
 obtain⟨k,q,D,t,fr,E,G,F,H,yn,K,z,b,f,HI,e⟩:=LH r va i n vc fn j w he hr hk;have hd:decide (1<=r.kind/\r.kind<=5)=true:=Rv hk;have u:=b q (by simp);have y:=b t (by simp);have a:=M (show jA r=if s=true then l.map (az r.kind++ ·)else N by rw[g.out];unfold uv;rw[Rv hk.1,Rv hk.2];simp);have HI:=M HI;have f:=M f;have e:=M e;have p:=M hs;have o:=M fun x(h:l=O x)=>(BW (c.trans h):x.length<=100000);rw[c]at e;clear g b hm hr hs c;go_in
 go_wp2_with(first
  |(with_reducible refine vN (T:=53) (by with_reducible rfl) A A fun d _ z1=> ?_)
  |(with_reducible refine uX (T:=53) (by with_reducible rfl) A A ef (ql _ _ _) ?_)
  |(with_reducible refine j' (f.out _) fun d _ z1=> ?_)
  |((with_reducible refine j' (e.out _ cW) fun d _ z1=> ?_);cases l<;>simp only[oP];rotate_left;rename_i l;have hx:=o.out l A;have c:¬9223372036854775807<(bs (az r.kind)).size+(bs l).size:=by(have:=aN r.kind;rw[fx,fx];omega))
  |(go_at_call 24;refine j' (oD (uO r) vm _ _ _ _ _ (HI.out.below cW) ⟨dL _ _ _,dL _ _ _,PC⟩) fun d _ z1=> ?_;rw[p.out];cases s)
  |(go_at_call 41;refine j' (FC [r.kind] NO (by simp;exact⟨by omega,by omega⟩) (by simp)) fun d _ z1=> ?_))
 all_goals go_ret2;exact⟨by rw[a.out];simp[oP],cW⟩
end
section
open Go.RowKit Mor
def mc(n:Int):ByteArray:=⟨(Lib.itoa n).toArray⟩
def p5(n:Int)(w:ai):Prop:=(mc n).size<=100/\∀W,ay w.heap.size w W ->aJ ah 134 #[I J n] W fun e w'=>e=.returned (U (mc n))/\ay W.heap.size W w'
theorem p5.below{n:Int}{w w':ai}(h:p5 n w)(hb:ay w.heap.size w w') :p5 n w':=⟨h.1,fun W a=>h.2 W (hb.trans (a.mono hb.size))⟩
def JM(r:Rc):ByteArray:=
 if r.kind=3 then⟨#[99]⟩++mc r.id
 else if r.kind=4 then⟨#[104]⟩++mc r.id++⟨#[46]⟩++mc r.bY
 else if r.kind=1 then⟨#[111]⟩++mc r.obj.id
 else if r.kind=2 then⟨#[114]⟩++r.name
 else⟨#[110]⟩++r.name
theorem Hs{r:Rc}{l:List UInt8}(h:jA r=O l)(hk:r.kind=2\/r.kind=5):r.name.size<=100000:=by
 unfold jA at h;split at h
 · cases a:qI r with
   |none=>rw[a]at h;simp at h
   |some t=>unfold qI at a;rcases hk with k|k;{rw[Rq (by omega),Rq (by omega),Rq (by omega),Rs k]at a;split at a;{rename_i c;have:=ff c.2.2;omega};{simp at a}};{rw[Rq (by omega),Rq (by omega),Rq (by omega),Rq (by omega),Rs k]at a;split at a;{rename_i c;have:=ff c.2.2;omega};{simp at a}}
 {simp at h}
def AG:Option (List UInt8) ->ar
 |some l=>Rx #[I J l.length,I J 0]
 |none=>Rx #[I J 0,I J 110]
theorem NT(r:Rc)(v f:ar)(w:ai):(p5 r.id w ->aJ ah 86 #[Rj (aL r v f).toArray] w (l7 (U (⟨#[99]⟩++mc r.id)) w))/\(p5 r.obj.id w ->aJ ah 94 #[Rj (aL r v f).toArray] w (l7 (U (⟨#[111]⟩++mc r.obj.id)) w))/\(r.name.size<=100000 ->aJ ah 98 #[Rj (aL r v f).toArray] w (l7 (U (⟨#[114]⟩++r.name)) w))/\(r.name.size<=100000 ->aJ ah 101 #[Rj (aL r v f).toArray] w (l7 (U (⟨#[110]⟩++r.name)) w))/\(p5 r.id w ->p5 r.bY w ->aJ ah 90 #[Rj (aL r v f).toArray] w (l7 (U (⟨#[104]⟩++mc r.id++⟨#[46]⟩++mc r.bY)) w)):=by
 have _:=uJ w;refine⟨fun a=> ?_,fun a=> ?_,fun a=> ?_,fun a=> ?_,fun a b=> ?_⟩;case refine_5=>have HI:=M a.2;have d:=M b.2;have h1:=a.1;have h2:=b.1;clear a b;have q1:¬9223372036854775807<1+(mc r.id).size:=(by omega);have q2:¬9223372036854775807<1+(mc r.id).size+1:=(by omega);have q3:¬9223372036854775807<1+(mc r.id).size+1+(mc r.bY).size:=(by omega);clear h1 h2;go_in;go_wp2_with(with_reducible refine vN (T:=53) (by with_reducible rfl) A A fun c _ z1=> ?_);refine kZ (.R 0 (.R 1 (.R 5 (.R 6 (.call 2 (.R 3 (.R 4 (.call 7 (.R 8 (.R 9 .done)))))))))) (by kernel_rfl) (by kernel_rfl) (fun _ _ _ _ _ h=>h) ?_;(iterate 4 refine aj A (Or.inl ⟨by rfl,fun W(_:f_ W _ _ _)=>by go_simp;try with_reducible rfl⟩) ?_;go_simp);refine aH A fun K hK=> ?_;go_simp;refine j' (HI.out _ cW) fun e _ z2=>hK _ _ inferInstance ?_;clear hK K;go_simp;(iterate 2 refine aj A (Or.inl ⟨by rfl,fun W(_:f_ W _ _ _)=>by go_simp;try with_reducible rfl⟩) ?_;go_simp);refine aH A fun K hK=> ?_;go_simp;refine j' (d.out _ cW) fun w3 _ z3=>hK _ _ inferInstance ?_;clear hK K;go_simp;(iterate 2 refine aj A (Or.inl ⟨by rfl,fun W(_:f_ W _ _ _)=>by go_simp;try with_reducible rfl⟩) ?_;go_simp);refine aM ?_;go_wp2_with{};go_ret;exact⟨rfl,cW⟩
 iterate 2 have HI:=M a.2;have h1:=a.1;clear a;go_in;go_wp2_with(first|(with_reducible refine vN (T:=53) (by with_reducible rfl) A A fun c _ z1=> ?_)|(go_at_call 134;refine j' (HI.out _ cW) fun c _ z1=> ?_));go_ret;exact⟨rfl,cW⟩
 all_goals go_in;go_wp2_with(with_reducible refine vN (T:=53) (by with_reducible rfl) A A fun c _ z1=> ?_);go_ret;exact⟨rfl,cW⟩
variable {F:Nat ->Prop} {w0 W:ai} {L:List cM}
@[go_sem]theorem Qs{m:Nat}{q:Int}[f_ W w0 F L][qd L m (.map lT 5)]:(Instr.lookup 106 (.map (O m)) (I J q) false).run ah W=.ok (iQ q) W:=(o7 W m q kR).1
@[go_sem]theorem Qp(a b c d e:ar):(Instr.field 112 (Rj #[a,b,c,d,e]) 2).run ah W=.ok c W:=rfl
def zv(r:Rc)(w:ai):Prop:=(r.kind=3 ->p5 r.id w)/\(r.kind=4 ->p5 r.id w/\p5 r.bY w)/\(r.kind=1 ->p5 r.obj.id w)
theorem LG(r:Rc)(v f:ar)(w:ai)(hk:1<=r.kind/\r.kind<=5)(i:zv r w)(hn:r.kind=2\/r.kind=5 ->r.name.size<=100000):
 ∃k d a g fr,iQ r.kind=Rj #[I J k, .func (.func d) #[] #[], .func (.func a) #[] #[], .func (.func g) #[] #[], .func (.func fr) #[] #[]]/\(∀vs w,(callFunc a vs).run ah w=.ok (.enter a vs) w)/\
  ∀W,ay w.heap.size w W ->aJ ah a #[Rj (aL r v f).toArray] W (l7 (U (JM r)) W):=by
 have b:r.kind=3\/r.kind=4\/r.kind=1\/r.kind=2\/r.kind=5:=by omega
 have ho:=NT r v f
 obtain⟨l,c,j⟩:=i
 unfold iQ JM
 rcases b with e|e|e|e|e<;>simp only[e,if_true,if_false,show¬(4:Int)=3 by omega,show¬(1:Int)=3 by omega,show¬(1:Int)=4 by omega,show¬(2:Int)=3 by omega,show¬(2:Int)=4 by omega,show¬(2:Int)=1 by omega,show¬(5:Int)=3 by omega,show¬(5:Int)=4 by omega,show¬(5:Int)=1 by omega,show¬(5:Int)=2 by omega]
 · exact⟨_,_,_,_,_,rfl,fun _ _=>by kernel_rfl,fun W h=>(ho W).1 ((l e).below h)⟩
 · exact⟨_,_,_,_,_,rfl,fun _ _=>by kernel_rfl,fun W h=>(ho W).2.2.2.2 ((c e).1.below h) ((c e).2.below h)⟩
 · exact⟨_,_,_,_,_,rfl,fun _ _=>by kernel_rfl,fun W h=>(ho W).2.1 ((j e).below h)⟩
 · exact⟨_,_,_,_,_,rfl,fun _ _=>by kernel_rfl,fun W _=>(ho W).2.2.1 (hn (.inl e))⟩
 · exact⟨_,_,_,_,_,rfl,fun _ _=>by kernel_rfl,fun W _=>(ho W).2.2.2.1 (hn (.inr e))⟩
theorem Ac(r:Rc)(va a:Option Addr)(c vc fn b:Nat)(w:ai){B:Nat}{aE aF:Addr}(he:Env aE aF B w)(hr:zy w r (Z va c vc) (Z a fn b))(i:(jA r).isSome=true ->zv r w):aJ ah 22 #[Rj (aL r (Z va c vc) (Z a fn b)).toArray] w (l7 (U (if(jA r).isSome=true then JM r else⟨#[]⟩)) w):=by
 have _:=uJ w;obtain⟨d,hd⟩:∃d,jA r=d:=⟨_,rfl⟩;have f:∀l,d=O l ->_:=fun l h=>LG r (Z va c vc) (Z a fn b) w (yQ (hd.trans h)).2.2 (i (by rw[hd,h];rfl)) (Hs (hd.trans h));have m:=M he;have n:=M hr;have f:=M f;rw[hd];have j:=M hd;clear he hr i hd;go_in
 go_wp2_with(first
  |(with_reducible refine vN (T:=53) (by with_reducible rfl) A A fun u _ z1=> ?_)
  |(with_reducible refine uX (T:=53) (by with_reducible rfl) A A ef (ql _ _ _) ?_)
  |(go_at_call 52;refine(ru _).mono ?_;rintro e x⟨rfl,rfl⟩)
  |(go_at_call 51;refine j' (ub r va a c vc fn b _ _ (m.out.below cW) kR (n.out.below cW)) fun w3 _ z3=> ?_;rw[j.out];cases d<;>simp only[oP];rotate_left;obtain⟨k,q,s,t,fr,p,o,g⟩:=f.out _ A;have g:=M g)
  |(with_reducible refine j' (g.out _ cW) fun y _ z4=> ?_))
 all_goals go_ret;exact⟨rfl,cW⟩
theorem CF(r:Rc)(va a:Option Addr)(c vc fn b:Nat)(w:ai){B:Nat}{aE aF:Addr}(he:Env aE aF B w)(hr:zy w r (Z va c vc) (Z a fn b)):aJ ah 20 #[Rj (aL r (Z va c vc) (Z a fn b)).toArray] w (l7 (AG (jA r)) w):=by
 have _:=uJ w;obtain⟨d,hd⟩:∃d,jA r=d:=⟨_,rfl⟩;have g:=M he;have i:=M hr;rw[hd];have f:=M hd;clear he hr hd;go_in
 go_wp2_with(first
  |(with_reducible refine vN (T:=53) (by with_reducible rfl) A A fun j _ z1=> ?_)
  |(with_reducible refine uX (T:=53) (by with_reducible rfl) A A ef (ql _ _ _) ?_)
  |(go_at_call 52;refine(ru _).mono ?_;rintro e k⟨rfl,rfl⟩;refine hK _ _ fH ?_;clear hK K;go_simp)
  |(go_at_call 51;refine j' (ub r va a c vc fn b _ _ (g.out.below cW) kR (i.out.below cW)) fun w3 _ z3=> ?_;rw[f.out];cases d<;>simp only[oP]<;>(refine hK _ _ fH ?_;clear hK K;go_simp))
  |((with_reducible refine atR ?_);refine kZ (.R 1 (.call 0 (.call 2 (.R 3 (.R 4 (.R 5 (.R 6 (.R 7 .done)))))))) (by kernel_rfl) (by kernel_rfl) (fun _ _ _ _ _ h=>h) ?_)
  |((with_reducible refine IF ?_);first
    |(refine Nb (T:=53) A A A A ef (ql _ _ _) ?_;go_simp)
    |(refine p' A A (fun W _=>by go_simp;try with_reducible rfl) ?_;go_simp)
    |(refine aH A (fun K hK=> ?_);go_simp)
    |refine aM ?_))
 all_goals go_ret2;exact⟨rfl,cW⟩
end
section
open Go.RowKit Mor
theorem Kr(r:Rc)(W:ai):(Instr.field 112 (iQ r.kind) 0).run ah W=.ok (I J (gz r)) W:=by unfold iQ gz;split;{kernel_rfl};split;{kernel_rfl};split;{kernel_rfl};split;{kernel_rfl};split;{kernel_rfl};{kernel_rfl}
def Hh:List Int ->Int
 | []=>0
 |x::l=>if x=0 then Hh l else x
theorem J3(l:List Int)(k:Nat)(x:Int)(h:l[k]? =O x):Hh (l.drop k)=if x=0 then Hh (l.drop (k+1))else x:=by obtain⟨h1,rfl⟩:=aA.1 h;rw[aY h1,Hh]
theorem Lh(a b:Rc):Hh [eg (gz a) (gz b),eg (qQ a) (qQ b),eg a.bY b.bY,iS a.name.data.toList b.name.data.toList]=kz a b:=by unfold kz;generalize eg (gz a) (gz b)=x;generalize eg (qQ a) (qQ b)=y;generalize eg a.bY b.bY=z;generalize iS a.name.data.toList b.name.data.toList=u;simp only[Hh];by_cases h1:x=0;{by_cases h2:y=0;{by_cases h3:z=0;{by_cases h4:u=0<;>simp[h1,h2,h3,h4]};{simp[h1,h2,h3]}};{simp[h1,h2]}};{simp[h1]}
theorem N3(l:List Int)(v:ar)(w:ai)(h:lJ w v l):aJ ah 125 #[v] w fun e w'=>e=.returned (I J (Hh l))/\ay w.heap.size w w':=by
 have p:=M h;have hle:=Sl.le h;obtain⟨a,c,rfl⟩:=h.slice;clear h;have j:=M (ax w.heap.size w);go_in;go_wp2_with{};go_loopw [8] (fun i wr=>∃k:Nat,k<=l.length/\i=I J k/\Hid (Hh l=Hh (l.drop k))/\ay w.heap.size w wr) (fun i _=>l.length - (intOf i).toNat);case atStart=>exact⟨0,by omega,rfl,rfl,j.out⟩
 case round=>
  obtain⟨k,hk,rfl,m,hB⟩:=hrel;have b:=M hB;have u:=hB.size;by_cases n:k<l.length
  · obtain⟨x,hx⟩:∃x,l[k]? =O x:=⟨_,an n⟩;have g:=M (J3 l k x hx);obtain⟨r,o', q,c0⟩:=(p.out.below hB).at hx;cases q;have s:(0:Int)<=(k:Int):=(by omega);have t:(k:Int)<(l.length:Int):=(by omega);clear hx hB;by_cases f:x=0
    · have d:=M (show Hh (l.drop k)=Hh (l.drop (k+1)) by rw[g.out,Rs f]);have e1:(x !=0)=false:=(by simp[f]);clear f g;go_wp2_with{};go_roundw;case rel=>exact⟨k+1,by omega,by go_num,m.out.trans d.out,b.out⟩
      case measure=>simp[intOf];omega
    {have d:=M (show Hh (l.drop k)=x by rw[g.out,Rq f]);have e1:(x !=0)=true:=(by simp[f]);clear f g;go_wp2_with{};go_ret;exact⟨by rw[m.out,d.out];rfl,b.out⟩}
  {have o:=M (show Hh (l.drop k)=0 by rw[a8 (by omega)];rfl);clear hB;go_wp2_with{};go_ret;exact⟨by rw[m.out,o.out];rfl,b.out⟩}
theorem Ep(r:Rc)(v f:ar)(w:ai):aJ ah 124 #[Rj (aL r v f).toArray] w (l7 (I J (qQ r)) w):=by have _:=uJ w;by_cases h3:r.kind=3;rotate_left;by_cases h4:r.kind=4;all_goals go_in;go_wp2_with(with_reducible refine vN (T:=53) (by with_reducible rfl) A A fun a _ z1=> ?_);go_ret;exact⟨by simp[qQ, *],cW⟩
theorem P_{W w0:ai}{F:Nat ->Prop}{L:List cM}{g:Nat}{a b c d:Int}{T:TypeId}[h:f_ W w0 F L][k:qd L g (.cells #[I J a,I J b,I J c,I J d] T (0,0))]:lJ W (Z (O ⟨g,0,N⟩) 4 4) [a,b,c,d]:=FU kR A (by unfold maxLen;omega)
theorem pL(a b:Rc)(v f u g:ar)(m:Nat)(w:ai)(hm:w.heap[m]? =O (.map lT 5)):aJ ah 75 #[.map (O m),Rj (aL a v f).toArray,Rj (aL b u g).toArray] w (l7 (I J (kz a b)) w):=by
 have _:=uJ w;have j:∀W,ay w.heap.size w W ->∀q,(Instr.lookup 106 (.map (O m)) (I J q) false).run ah W=.ok (iQ q) W:=fun W h q=>(o7 W m q ((h.block m (aV hm)).trans hm)).1;have k:=Kr;have c:=M (Lh a b);clear hm;go_in
 go_wp2_with(first
  |(with_reducible refine vN (T:=53) (by with_reducible rfl) A A fun l _ z1=> ?_)
  |((with_reducible refine atR ?_);refine kZ (.R 0 (.R 1 (.R 2 (.R 3 (.R 4 (.R 5 (.R 6 (.R 7 (.R 8 (.R 9 (.R 11 (.R 12 (.R 14 (.R 15 (.R 18 (.R 19 (.R 20 (.R 21 (.R 23 (.R 24 (.R 25 (.R 26 (.call 10 (.call 13 (.call 16 (.call 17 (.call 22 (.call 27 (.call 28 (.call 29 (.R 30 .done))))))))))))))))))))))))))))))) (by kernel_rfl) (by kernel_rfl) (fun _ _ _ _ _ h=>h) ?_)
  |(go_at_call 126;refine(pv _ _ _).mono ?_;rintro e i⟨rfl,rfl⟩;refine hK _ _ fH ?_;clear hK K;go_simp)
  |(go_at_call 127;refine(wI _ _ _).mono ?_;rintro e i⟨rfl,rfl⟩;refine hK _ _ fH ?_;clear hK K;go_simp)
  |(go_at_call 124;refine j' (Ep _ _ _ _) fun w3 _ z3=> ?_;refine hK _ _ fH ?_;clear hK K;go_simp)
  |(go_at_call 125;refine(N3 _ _ _ P_).mono ?_;rintro e n⟨rfl,d⟩;have _:=Di d;refine hK _ _ fH ?_;clear hK K;go_simp)
  |((with_reducible refine IF ?_);first
    |(refine Nb (T:=53) A A A A ef (ql _ _ _) ?_;go_simp)
    |(refine p' A A (fun W _=>by go_simp;try with_reducible rfl) ?_;go_simp)
    |(refine aH A (fun K hK=> ?_);go_simp;try(refine hK _ _ fH ?_;clear hK K;go_simp))
    |refine aM ?_))
 go_ret;exact⟨by rw[c.out];rfl,cW⟩
end
section
open Go.RowKit Mor
def OF(b:Nat)(sl:ar)(i n:Nat)(a:Int)(w:ai)(e:Ending)(w':ai):Prop:=∃(v:ar) (j:Nat) (bad:Int),e=.returned v/\jI (du b) w w'/\i<=j/\j<=n/\w'.heap[b]? =O (qs sl j a bad)
theorem F5(b i:Nat)(j bad:Int)(sl:ar)(l:List Pc)(t:ByteArray)(w:ai)(D:l.length<=1000)(hi:i<=l.length)(hb:w.heap[b]? =O (qs sl i j bad))(hp:Dn b sl l w):aJ ah 247 #[.pointer (O ⟨b,0,N⟩),U t] w (OF b sl i l.length j w):=by have H:=M (St.kX (F:=du b) hb A);have m:=M hp;clear hb hp;obtain⟨cs,o⟩:=St.cs H 0 A;simp only[ak]at cs;obtain⟨⟨p,c⟩,⟨q,d⟩,⟨r,f⟩,⟨s,g⟩, -⟩:=cs;by_cases n:0<=bad;{go_in;go_wp2_with{};refine au (results_none A _ _ _) A ?_;exact⟨_,i,bad,rfl,H.out.low,av _,hi,H.out.aR 0 A⟩};go_in;go_wp2_with{};refine(Qo b i j bad sl l t _ hi (H.out.aR 0 A) m.out).mono ?_;rintro e B⟨⟨x,rfl,hx⟩,k⟩;have C:=M (jI.eP (F:=du b) k);replace H:=M (H.out.below k);clear k p c q d r f s g o;obtain⟨cs,o⟩:=St.cs H 0 A;simp only[ak]at cs;obtain⟨⟨p,c⟩,⟨q,d⟩,⟨r,f⟩,⟨s,g⟩, -⟩:=cs;cases x;{clear hx;go_wp2_with{};refine(BC b i j bad sl l _ hi (H.out.aR 0 A) (m.out.bF H.out.low)).mono ?_;rintro e w3⟨rfl,c3,a,h3⟩;have u:=M c3;have y:=M h3;clear c3 h3;go_wp2_with{};refine au (results_none A _ _ _) A ?_;exact⟨_,i,a,rfl,H.out.low.trans u.out fun _ _ h=>h,av _,hi,y.out⟩};{have z:=hx A;clear hx;go_wp2_with{};generalize e:World.setCell B _ _=V;replace H:=bW e (St.aB H.out 0 A 1 _ A);simp only[ab,ae]at H;refine au (results_none A _ _ _) A ?_;exact⟨_,i+1,bad,rfl,H.out.low,by omega,by omega,H.out.aR 0 A⟩}
end
end Go.Proofs.YtbcbefpninlfiaaGreatDoor
