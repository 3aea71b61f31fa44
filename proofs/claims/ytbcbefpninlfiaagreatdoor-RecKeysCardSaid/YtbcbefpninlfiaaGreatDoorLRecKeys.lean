/- Proved: the card of the statement RecKeys, as it is given, for every input. Conditions: none but the given row's own. -/
import Derived.Test.YtbcbefpninlfiaaGreatDoorC30
import Derived.Test.YtbcbefpninlfiaaGreatDoorCards
import Derived.Test.YtbcbefpninlfiaaGreatDoorTie
import Derived.SevenTiedAt
set_option maxHeartbeats 64000000
set_option maxRecDepth 100000
set_option linter.all false
open Option renaming none->N,some->O
open List renaming mem_of_mem_drop->gr
open Go renaming Value->ar,World->ai
open Go.Value renaming agg->Rj,bool->Ri,int->I,slice->Z
open Go.Proofs.Tryz renaming prog->ah,underlying3->eJ
open Go.IntKind renaming i64->J
namespace Go.Proofs.YtbcbefpninlfiaaGreatDoor
open Go.RowKit Mor
theorem Rz{d:Nat}(h:d<10):(UInt8.ofNat (48+d)).toNat=48+d:=by rw[UInt8.toNat_ofNat']; omega
theorem RL(u:Nat):(Lib.decDigits u).foldl (fun n c=>10*n+(c.toNat - 48)) 0=u:=by
 induction u using Nat.strongRecOn with
 |_ u a=>rw[Lib.decDigits];split;{rename_i h;simp only[List.foldl_cons,List.foldl_nil,Rz h];omega};{rename_i h;rw[List.foldl_append,a _ (by omega)];simp only[List.foldl_cons,List.foldl_nil,Rz (jT u (show 0<10 by decide))];omega}
theorem Sh{u v:Nat}(h:Lib.decDigits u=Lib.decDigits v):u=v:=by rw[<-RL u,h,RL]
theorem RB{a b:Int}(ha:0<=a)(hb:0<=b)(h:Lib.itoa a=Lib.itoa b):a=b:=by unfold Lib.itoa at h;rw[Rq (by omega),Rq (by omega)]at h;have:=Sh h;omega
theorem RG{a:Int}(b:0<=a)(h:a<10):Lib.itoa a=[UInt8.ofNat (48+a.toNat)]:=by unfold Lib.itoa;rw[Rq (by omega),Lib.decDigits_one (by omega)]
def RM(r:Rc):List UInt8:=
 if r.kind=3 then 99::Lib.itoa r.id
 else if r.kind=4 then 104::(Lib.itoa r.id++46::Lib.itoa r.bY)
 else if r.kind=1 then 111::Lib.itoa r.obj.id
 else if r.kind=2 then 114::r.name.data.toList
 else 110::r.name.data.toList
theorem Ry(r:Rc):(JM r).data.toList=RM r:=by
 unfold JM RM mc;repeat' split
 all_goals simp
theorem RD(r:Rc):(JM r).size≠0:=fun h=>by
 have h2:(JM r).data.toList.length=0:=by simpa using h
 rw[Ry]at h2;unfold RM at h2;repeat' split at h2
 all_goals simp at h2
theorem aa{r:Rc}(h:(jA r).isSome=true):(r.kind=3 ->0<=r.id/\r.id<8)/\(r.kind=4 ->0<=r.id/\r.id<8/\1<=r.bY/\r.bY<=12):=by unfold jA at h;split at h;{unfold qI at h;refine⟨fun k=> ?_,fun k=> ?_⟩;{rw[Rs k]at h;split at h;{rename_i c;exact c.2};{simp at h}};{rw[Rq (by omega),Rs k]at h;split at h;{rename_i c;exact c.2};{simp at h}}};{simp at h}
theorem Rp{o:Ob}(h:dv o=true):1<=o.id:=by unfold dv m_ at h;simp only[aK,Rt]at h;omega
theorem RT{a b:Rc}(ha:(jA a).isSome=true)(hb:(jA b).isSome=true)(h:JM a=JM b):kz a b=0:=by
 have c:RM a=RM b:=by rw[<-Ry,<-Ry,h]
 have g:∀z:Int,eg z z=0:=nw;have hs:∀l:List UInt8,iS l l=0:=rC;have i:=aa ha;have j:=aa hb;rcases(nI ha).1 with⟨ka,_,_,d⟩|⟨ka,_,_,_,d⟩|⟨ka,ca,d⟩|⟨ka|ka,_,_,d⟩<;>rcases(nI hb).1 with⟨kb,_,_,f⟩|⟨kb,_,_,_,f⟩|⟨kb,k,f⟩|⟨kb|kb,_,_,f⟩<;>simp[RM,ka,kb]at c<;>rw[d,f];{have:=i.1 ka;have:=j.1 kb;simp[kz,gz,qQ,g,hs,RB (by omega) (by omega) c]};{have x:=i.2 ka;have y:=j.2 kb;rw[RG x.1 (by omega),RG y.1 (by omega)]at c;simp only[b_,bI,List.cons.injEq,true_and]at c;have e:=congrArg UInt8.toNat c.1;rw[Rz (by omega),Rz (by omega)]at e;simp[kz,gz,qQ,g,hs,RB (by omega) (by omega) c.2,show a.id=b.id by omega]};{have:=Rp ca;have:=Rp k;simp[kz,gz,qQ,g,hs,RB (by omega) (by omega) c]};all_goals simp[kz,gz,qQ,g,hs,ka,kb,c]
theorem Rl{b:Bt}(h:Asc (gH b))(hk:b.kind=1){i j:Nat}(a:i<j){r q:Rc}(hr:b.recs[i]? =O r)(hq:b.recs[j]? =O q):kz r q<0:=by
 have h2:b.kind≠2:=by omega
 have x:=(nv (b:=b) (i:=i) (x:=(0,r)) (fun e=>absurd e h2)).2 ⟨hr,by rw[Rq h2]⟩;have y:=(nv (b:=b) (i:=j) (x:=(0,q)) (fun e=>absurd e h2)).2 ⟨hq,by rw[Rq h2]⟩;have:=h.lt (j -i - 1) i (0,r) (0,q) x (by rw[show i+(j -i - 1+1)=j by omega];exact y);rw[vU]at this;rcases this with h|h;{simp at h};{exact h.2}
theorem Sq{b:Bt}(hk:b.kind=1)(h:∀i r q,b.recs[i]? =O r ->b.recs[i+1]? =O q ->kz r q<0):Asc (gH b):=by
 have h2:b.kind≠2:=by omega
 intro i x y hx hy;rw[nv (fun e=>absurd e h2),Rq h2]at hx hy;rw[vU,hx.2,hy.2];exact .inr ⟨rfl,h i _ _ hx.1 hy.1⟩
theorem Ss{b:Bt}(h:xV b)(hk:b.kind=1){m n:Nat}{r q:Rc}(hm:b.recs[m]? =O r)(hn:b.recs[n]? =O q):JM r=JM q<->m=n:=by have sr:=(h.recs r (aP hm)).1;have c:=(h.recs q (aP hn)).1;constructor;{intro he;have d:=RT sr c he;rcases Nat.lt_trichotomy m n with a|rfl|hgt;{have:=Rl h.Qf hk a hm hn;omega};{rfl};{have:=Rl h.Qf hk hgt hn hm;have:=MQ.AY r q;omega}};{rintro rfl;rw[hm]at hn;cases hn;rfl}
theorem RI{b:Bt}(hk:b.kind=1){m:Nat}{r:Rc}(hm:b.recs[m]? =O r):dU {b with recs:=b.recs++[r]}=false:=by
 cases hr:dU {b with recs:=b.recs++[r]}with
 |false=>rfl
 |true=>exfalso;have a:=(aA.1 hm).1;have:=Rl (Hz.1 hr).2.2 hk (i:=m) (j:=b.recs.length) (r:=r) (q:=r) a (by simp only;rw[bS a];exact hm) (by simp);have:=MQ.self r;omega
theorem RC{b:Bt}(hb:dU b=true)(hk:b.kind=1){m n:Nat}{r q:Rc}(hm:b.recs[m]? =O r)(hn:b.recs[n]? =O q):dU {b with recs:=(b.recs.set m q).set n r}=decide (m=n):=by
 have c:=(aA.1 hm).1;have d:=(aA.1 hn).1;by_cases e:m=n;{subst e;rw[hm]at hn;cases hn;rw[List.set_set,show b.recs.set m r=b.recs from ?_,Rv A];{exact hb};{obtain⟨h1,h2⟩:=aA.1 hm;rw[<-h2];exact List.set_getElem_self h1}}
 · rw[Rw e];cases hr:dU {b with recs:=(b.recs.set m q).set n r}with
   |false=>rfl
   |true=>exfalso;have g1:((b.recs.set m q).set n r)[n]? =O r:=(by rw[List.getElem?_set_self (by simpa using d)]);have g2:((b.recs.set m q).set n r)[m]? =O q:=(by rw[List.getElem?_set_ne (fun x=>e x.symm),List.getElem?_set_self c]);have f:=(Hz.1 hb).2.2;have a2:=(Hz.1 hr).2.2;have an:=MQ.AY r q;rcases ed m n with a|hge;{have x:=Rl f hk a hm hn;have y:=Rl a2 hk a g2 g1;omega};{have x:=Rl f hk (show n<m by omega) hn hm;have y:=Rl a2 hk (show n<m by omega) g1 g2;omega}
theorem RK{b:Bt}(h:xV b)(hk:b.kind=1)(d:b.recs.length<=700){m:Nat}(hm:m<b.recs.length):dU {b with recs:=b.recs.take m++b.recs.drop (m+1)}=decide (0<(b.recs.take m++b.recs.drop (m+1)).length):=by
 have e:(b.recs.take m++b.recs.drop (m+1)).length=b.recs.length - 1:=by simp;omega
 have hv:b.bj=[]:=by rcases h.kind with h|h;exact h.2;omega
 have a:∀i,(b.recs.take m++b.recs.drop (m+1))[i]? =b.recs[if i<m then i else i+1]? :=by{intro i;by_cases hi:i<m;{rw[Rs hi,bS (by simp;omega),List.getElem?_take_of_lt hi]};{rw[Rq hi,bZ (by simp;omega),bL,Nat.min_eq_left (by omega),List.getElem?_drop];congr 1;omega}};by_cases c:0<(b.recs.take m++b.recs.drop (m+1)).length;{rw[Rv c];refine xV.right (b:={b with recs:=b.recs.take m++b.recs.drop (m+1)}) ⟨h.head, .inl ⟨hk,hv⟩,fun r hr=>h.recs r ?_,Sq hk fun i r q hr hq=> ?_⟩ (by simp only;omega) c;{rcases gL.1 hr with hr|hr;{exact eE hr};{exact gr hr}};{simp only at hr hq;rw[a]at hr hq;exact Rl h.Qf hk (by split<;>split<;>omega) hr hq}};{rw[Rw c];unfold dU kB;simp only[hk,if_true,Rw c,Bool.false_and,Bool.and_false]}
section
theorem RY{P:Program}{T E size bytes:Nat}(f:Elem P T E size bytes)(base:Nat)(ty:TypeId)(v u:ar)(n m:Nat)(xs ys:List ar)(w:ai)(d:w.ownsRow base E size v n xs)(hu:Sl w size u m ys)(h6:∀x∈ys,x.oneCell'=true)(C:(n+m)*bytes<=140737488355328)(hb:base<=w.heap.size):∃v' w', (Builtin.append_ #[T,T] ty #[v,u]).run P w=.ok v' w'/\w'.ownsRow base E size v' (n+m) (xs++ys)/\w.grownBy w' v.ownBlock/\(v'.ownBlock=v.ownBlock\/v'.ownBlock=O w.heap.size):=by
 obtain⟨D,z,hi,p,q,r,t⟩:=f.i;obtain⟨a,c,rfl,h2,h3,h4,B,F⟩:=hu;have g:=f.b;have H:n+m<=140737488355328:=bc (jx _ g) C;have y:m=0 ->ys=[]:=fun h=>cy (by rw[B,h,Nat.zero_mul]);cases a with
 |none=>obtain rfl:=h4 A;obtain rfl:m=0:=(by omega);rw[y A,gK];exact⟨v,w,run_append_owned_none w base T ty E D size f.u hi v _ _ d,d,⟨rfl,rfl,rfl,av _,fun _ _ _=>rfl⟩, .inl A⟩
 |some ad=>have hc:∀j x,ys[j]? =O x ->w.cell? (ad.add j)=O x:=by{intro j x l;rcases Nat.eq_zero_or_pos m with h|h;{rw[y h]at l;simp at l};{obtain⟨b,o,e,k⟩:=F h;cases e;rw[show(⟨b,o,N⟩:Addr).add j=⟨b,o+j,N⟩from iN ..];exact k j x l}};obtain⟨v', w', hr,ho,hg,_,G⟩:=run_append_own_at (P:=P) w base T ty E D z size bytes f.u hi p q r t f.s v n _ d ad m c _ B hc h6 (by unfold maxLen;omega) C hb;exact⟨v', w', hr,ho,hg,G⟩
section
variable {P:Program} {F:Nat ->Prop} {w w0 W:ai} {L:List cM} {ops:Array Oper} {o:Oper} {a:Act} {K:Act ->ai ->Prop} {Q:Exit ->Act ->ai ->Prop}
theorem Se{b:Prop}(hw:Region.wanted o (yielded ops a.tmps)=true)(h:o.wp P a w K Q):if Region.wanted o (yielded ops a.tmps)=true then o.wp P a w K Q else b:=by rw[Rs hw];exact h
theorem SI{E size:Nat}[h:f_ W w0 F L]:f_ (W.alloc (.cells #[] E)) w0 F (mV E size W.heap.size (Z (O ⟨W.heap.size,0,N⟩) 0 0) []::L):=
 ⟨h.st.new (.eP ((ax _ W).alloc (av _) _)) (j4 (World.ownsRow_made W #[] 0 (av _) (by unfold maxLen;omega) (by simp))) fun k hk=>by cases hk;exact av _⟩
theorem SH{T E size bytes:Nat}(b:Elem P T E size bytes)(ho:o.op=.buildSlice T 0 #[])[h:f_ w w0 F L](hK:∀Y w', w.heap.size=Y ->f_ w' w0 F (mV E size Y (Z (O ⟨Y,0,N⟩) 0 0) []::L) ->Y<w'.heap.size ->K (a.put o.dst (Z (O ⟨Y,0,N⟩) 0 0)) w') :o.wp P a w K Q:=by obtain⟨c,z,hi, -⟩:=b.i;unfold Oper.wp execOp;simp[ho,Instr.buildSlice,run_underlying b.u,sizeOf,typeInfo,hi,Instr.fill,Go.newRow,run_newObj_alloc,cG,show Array.range 0= #[]from rfl];exact hK _ (w.alloc (.cells #[] E)) A SI (by simp)
theorem RN{T E size bytes:Nat}(e:Elem P T E size bytes){s x:Operand}(ho:o.op=.call {callee:=.builtin .append,args:= #[s,x],argTypes:= #[T,T]}){base n:Nat}{v u:ar}{es es2 es3:List (List ar)}{f:cM ->List cM}(hs:a.eval s=v)(hx:a.eval x=u)[h:f_ w w0 F L][p:Dp L v E size base es f](h3:es++es2=es3)(hn:es.length+es2.length=n)(hu:Sl w size u es2.length es2.flatten)(h6:∀y∈es2.flatten,y.oneCell'=true)(g:n*bytes<=140737488355328)(hb:base<=w.heap.size)(hK:∀a' d w', f_ w' w0 F (f (mV E size base (Z a' n d) es3)) ->w.heap.size<=w'.heap.size ->K (a.put o.dst (Z a' n d)) w') :o.wp P a w K Q:=by
 subst hn h3;obtain⟨i,h1,h2⟩:=p.at'; obtain⟨v', w', hr,h3,h4,b⟩:=RY e base o.type v u _ _ _ _ w (h.st.get i _ h1) hu h6 g hb;have c:cA E size base v' (es++es2) w':=by unfold cA;rw[aw,jb];exact h3
 obtain⟨a', d,rfl⟩:=c.slice;rw[aw]at*;unfold Oper.wp execOp;simp only[ho,resolve,invoke,builtin,cG,gm,de,List.map_toArray,gj,List.map_nil,hs,hx,hr];refine hK a' d w' ⟨h2 _▸h.st.call i _ h1 (.mL h4 fun k hk=>hk) (j4 c) fun k hk=>b.elim (fun b=>.inl (b.symm.trans hk)) fun b=>.inr (by cases b.symm.trans hk;exact av _)⟩ h4.size
theorem Sm{size:Nat}{es:List (List ar)}(a:∀e∈es,e.length=size/\∀x∈e,x.oneCell'=true){c:List ar}(hc:c.length=size/\∀x∈c,x.oneCell'=true)(m:Nat):∀e∈es.set m c,e.length=size/\∀x∈e,x.oneCell'=true:=fun e he=>(List.mem_or_eq_of_mem_set he).elim (a e) fun h=>h▸hc
theorem RS{size:Nat}{es:List (List ar)}(a:∀e∈es,e.length=size/\∀x∈e,x.oneCell'=true){m:Nat}(hm:m<es.length){c:List ar}(hc:c.length=size):(es.set m c).flatten=es.flatten.take (m*size)++c++es.flatten.drop (m*size+size):=by rw[List.set_eq_take_append_cons_drop,Rs hm,jb,List.flatten_cons,ui a,uh a,Nat.add_mul,Nat.one_mul,bg]
theorem Sa{T E size base n c m g:Nat}{x y:Operand}{v:ar}{es:List (List ar)}{e:List ar}{f:cM ->List cM}(ho:o.op=.store T x y)(hx:a.eval x=.pointer (O ⟨g,m*size,N⟩))(hy:a.eval y=Rj e.toArray)(hv:v=Z (O ⟨g,0,N⟩) n c)[h:f_ w w0 F L][p:Dp L v E size base es f](hi:(P.info? T).map (·.size)=O size)(r:∀e∈es,e.length=size/\∀x∈e,x.oneCell'=true)(hm:m<es.length)(he:e.length=size)(h6:∀x∈e,x.oneCell'=true)(hK:∀w', f_ w' w0 F (f (mV E size base v (es.set m e))) ->w.heap.size<=w'.heap.size ->K (a.put o.dst undef) w') :o.wp P a w K Q:=by
 subst hv;obtain⟨i,h1,h2⟩:=p.at'; obtain⟨S,j⟩:cA E size base _ es w:=h.st.get i _ h1;rcases j with⟨j, -⟩|⟨g', cap,cur,j,D,z,B,H,V,R⟩;{cases j}
 · cases j;have hle:m*size+size<=es.length*size:=(by rw[<-Nat.succ_mul];exact dV _ hm);have C:es.length*size<=c*size:=dV _ B;have b:=run_storeCells_at P g (m*size) E e 0 cur w z (by rw[he];omega) h6;simp only[Nat.add_zero]at b;have u:(cur.toList.take (m*size)++e++cur.toList.drop (m*size+size)).take (es.length*size)=(es.set m e).flatten:=by{have q:(cur.toList.take (m*size)++e).length=m*size+size:=(by simp[he];omega);rw[RS r hm he,<-R,List.take_take,List.drop_take,Nat.min_eq_left (by omega),List.take_append,fK (by omega),q]};have l:=(sG w g (cur.toList.take (m*size)++e++cur.toList.drop (m*size+size)).toArray).mono (G:=fun k=>O g=O k) fun k hk=>by rw[show k=g from hk]
   have d:cA E size base (Z (O ⟨g,0,N⟩) es.length c) (es.set m e) (w.setRow g (cur.toList.take (m*size)++e++cur.toList.drop (m*size+size)).toArray):=by{unfold cA;rw[List.length_set];exact⟨by rw[<-u];simp[he];omega, .inr ⟨g,c,_,rfl,D,setRow_heap w g cur _ E (0,0) z,B,H,by simp[he];omega,by simpa using u⟩⟩};rw[he]at b
   have hs:(storeVar T ⟨g,m*size,N⟩ (Rj e.toArray)).run P w=.ok () (w.setRow g (cur.toList.take (m*size)++e++cur.toList.drop (m*size+size)).toArray):=by
    cases hq:P.info? T with
    |none=>simp[hq]at hi
    |some t=>have s:size=t.size:=(by simp[hq]at hi;omega);simp[storeVar,sizeOf,typeInfo,hq,Value.cells,he,<-s,b]
   unfold Oper.wp execOp;simp only[ho,hx,hy,Instr.storeAt,Instr.sureAddr,cG,gm,de,hs];exact hK _ ⟨h2 _▸h.st.call i _ h1 l (j4 d) fun k hk=>.inl hk⟩ (by simp)
end
section
variable {α:Type} {l:List α} {m n:Nat} {x y:α}
theorem SA(h:l[m]? =O x):∀z∈l++[x],z∈l:=fun z a=>(gL.1 a).elim id fun h2=>cm.1 h2▸aP h
theorem Sz(h:l[m]? =O x)(k:l[n]? =O y):∀z∈(l.set m y).set n x,z∈l:=fun z a=>(List.mem_or_eq_of_mem_set a).elim (fun h2=>(List.mem_or_eq_of_mem_set h2).elim id fun e=>e▸aP k) fun e=>e▸aP h
theorem Sy:∀z∈l.take m++l.drop n,z∈l:=fun z a=>(gL.1 a).elim eE gr
end
theorem Sr{G:Nat ->Prop}{es:List (List ar)}{b:Bt}{sr sv:ar}{W:ai}(h:(qn G es b sr sv).hold W):∃zs:List (List ar×Rc),es=zs.map (·.1)/\b.recs=zs.map (·.2):=
 ⟨es.zip b.recs,(List.map_fst_zip (Nat.le_of_eq h.1)).symm,(List.map_snd_zip (Nat.le_of_eq h.1.symm)).symm⟩
section
variable {W w0:ai} {F:Nat ->Prop} {L:List cM} {G:Nat ->Prop} {b:Bt} {sr sv v:ar} {base:Nat} {zs SD:List (List ar×Rc)} {m:Nat} {r:Rc}
theorem Rk{x y:cM}(h:y=x)[s:f_ W w0 F L][k:Nk L x]:y.at W:=h▸(s.st.mem _ k.mem).1
theorem RE(h:(qn G (zs.map (·.1)) b sr sv).at W)(a:b.recs=zs.map (·.2)){z:List ar×Rc}(hi:zs[m]? =O z):Gd W z.1 z.2:=
 h.hold.2.2.1 m _ _ (by simp[hi]) (by rw[a];simp[hi])
theorem Sd(h:(qn G (zs.map (·.1)) b sr sv).at W)(d:b.recs=zs.map (·.2))(hm:m<b.recs.length):∃r va f vc a fn c,zs[m]? =O (aL r (Z va f vc) (Z a fn c),r)/\b.recs[m]? =O r:=by
 have g:m<zs.length:=by rw[d]at hm;simpa using hm
 have e:zs[m]? =O zs[m]:=an g;obtain⟨va,f,vc,a,fn,c,h1, -⟩:=RE h d e;refine⟨zs[m].2,va,f,vc,a,fn,c,by rw[e,<-h1],by rw[d];simp[g]⟩
theorem Ro{i:Nat}{k n c:Nat}(h:(qn G (zs.map (·.1)) b (Z (O ⟨i,k,N⟩) n c) sv).at W){z:List ar×Rc}(hi:zs[m]? =O z)(hm:m<b.recs.length):W.rangeAt i (k+m*18) z.1:=by
 intro j y f;have a:=NN h.hold;obtain⟨h1,⟨a', p,e, -, -, -, -,l⟩, -⟩:=h.hold;cases e;obtain⟨g,o,e,hc⟩:=l (by omega);cases e;have d:j<18:=by have:=(aA.1 f).1;rwa[(a z.1 (List.mem_map_of_mem (aP hi))).1]at this
 rw[Nat.add_assoc];exact hc _ y ((zY a (by simp[hi]) d).trans f)
theorem SC(h:(qn G (zs.map (·.1)) b sr sv).at W):Sl W 18 sr (zs.map (·.1)).length (zs.map (·.1)).flatten:=h.hold.2.1
theorem RP{va:Option Addr}{n c:Nat}(h:(qn G (zs.map (·.1)) b (Z va n c) sv).at W)(hm:0<b.recs.length):∃g o,va=O ⟨g,o,N⟩:=by obtain⟨h1,⟨a', d,e, -, -, -, -,a⟩, -⟩:=h.hold;cases e;obtain⟨g,o,e, -⟩:=a (by omega);exact⟨g,o,e⟩
theorem RW{E size n c:Nat}{va:Option Addr}{es:List (List ar)}{f:cM ->List cM}[h:f_ W w0 F L][p:Dp L (Z va n c) E size base es f](hm:0<es.length):∃g,va=O ⟨g,0,N⟩:=by obtain⟨i,h1, -⟩:=p.at'; rcases(h.st.get i _ h1).2 with⟨-,h⟩|⟨g,cap,cur,e, -⟩;{omega};{cases e;exact⟨g,rfl⟩}
theorem SK{va:Option Addr}{n c:Nat}(h:(qn G (zs.map (·.1)) b (Z va n c) sv).at W)(hm:m<=(zs.map (·.1)).length):Sl W 18 (Z va m c) ((zs.map (·.1)).take m).length ((zs.map (·.1)).take m).flatten:=by rw[ui (NN h.hold),bL,Nat.min_eq_left hm];exact Sl.take (SC h) hm
theorem SJ{va:Option Addr}{n c:Nat}(h:(qn G (zs.map (·.1)) b (Z va n c) sv).at W)(hm:m<=(zs.map (·.1)).length):Sl W 18 (Z (if c=m then va else Option.map (fun x=>x.add (m*18)) va) ((zs.map (·.1)).length -m) (c -m)) ((zs.map (·.1)).drop m).length ((zs.map (·.1)).drop m).flatten:=by rw[uh (NN h.hold),dt];exact Sl.drop (SC h) hm
theorem Sx{cp:Bool}(j:Made cp b)(i:b.recs=zs.map (·.2)){va a:Option Addr}{g vc fn d:Nat}(hi:zs[m]? =O (aL r (Z va g vc) (Z a fn d),r)){aE aF:Addr}{B:Nat}(he:Env aE aF B W)(hb:(qn G (zs.map (·.1)) b sr sv).at W):Calls ah 22 #[Rj (aL r (Z va g vc) (Z a fn d)).toArray] W fun e w'=>e=.returned (.string (JM r))/\Below W.heap.size W w':=by
 have hr:r∈b.recs:=by rw[i];exact List.mem_map_of_mem (f:=Prod.snd) (aP hi)
 have hg:=j.ok.Q_ r hr;obtain⟨l,o,n,p,yn,q,e,h1,h2,h3⟩:=RE hb i hi;simp only[aL,List.cons.injEq,Value.slice.injEq]at e;have h:=Ac r va a g vc fn d W he ⟨by simp[e,h1],by simp[e,h2],h3⟩ fun hs=>D8 (fun k=>by have:=(aa hs).1 k;omega) (fun k=>by have:=(aa hs).2 k;omega) fun k=>by{rcases(nI hs).1 with h|h|⟨-,c, -⟩|h;{omega};{omega};{have:=Rp c;have:=hg.id;omega};{omega}};rw[Rs hg.some]at h;exact h
theorem SB(h:(qn G (zs.map (·.1)) b sr sv).at W):jz W sr b.recs:=BZ h.hold
theorem gI{l:List Rc}{d:Bool}(hr:dU {b with recs:=l}=d){a va:Option Addr}{B rc vc n:Nat}{aE aF:Addr}(he:Env aE aF B W)(hb:(qn G (zs.map (·.1)) b sr (Z va b.bj.length vc)).at W)(h1:jz W (Z a n rc) l):Calls ah 16 #[Rj #[I J b.kind,I J b.n,I J b.next,Z a n rc,Z va b.bj.length vc]] W fun e w'=>e=.returned (Ri d)/\Below W.heap.size W w':=by obtain⟨es, -,⟨a', c,e, -⟩,h3, -⟩:=id h1;cases e;rw[h3]at h1⊢;have:=lW {b with recs:=l} a va rc vc W he h1 hb.hold.2.2.2;rw[hr]at this;exact this
end
theorem Sp(z:Int){n:Nat}(h:0<n):∃m:Nat,cH z n=m/\m<n:=by have:=cP z n (by omega);exact⟨(cH z n).toNat,by omega,by omega⟩
theorem Su{F:Nat ->Prop}{w0 w:ai}{L:List cM}{o:Oper}{a:Act}{K:Act ->ai ->Prop}{Q:Exit ->Act ->ai ->Prop}{r:Rc}{v f:ar}{x:Operand}(ho:o.op=.buildSlice 36 1 #[(0,x)])(hx:a.eval x=Rj (aL r v f).toArray)[h:f_ w w0 F L](hK:∀D w', w.heap.size=D ->f_ w' w0 F (eH D (.cells (aL r v f).toArray 53)::L) ->w.heap.size<=w'.heap.size ->K (a.put o.dst (Z (O ⟨D,0,N⟩) 1 1)) w') :o.wp ah a w K Q:=by obtain⟨j,z0,c,d,b,e,g⟩:=kg.i;refine wp_buildSlice 36 53 1 _ ho (aL r v f).toArray j z0 kg.u c d (by rw[b];decide) (by rw[b];decide) ?_ ?_;{simp only[List.map_toArray,gj,List.map_nil,hx];rw[b];kernel_rfl};{exact hK _ _ A FV (by simp)}
theorem RX{W w0:ai}{F:Nat ->Prop}{L:List cM}{G:Nat ->Prop}{b:Bt}{sr sv v:ar}{base:Nat}{zs:List (List ar×Rc)}{es:List (List ar)}{f:cM ->List cM}{l:List Rc}[h:f_ W w0 F L][p:Dp L v 53 18 base es f](hb:(qn G (zs.map (·.1)) b sr sv).at W)(d:b.recs=zs.map (·.2))(SD:List (List ar×Rc))(hs:∀z∈SD,z∈zs)(he:es=SD.map (·.1))(g:l=SD.map (·.2)):jz W v l:=by obtain⟨i,h1, -⟩:=p.at'; subst he g;refine cA.many (h.st.get i _ h1) (fun e he=> ?_) (by simp) (fun i e x he hx=> ?_);{obtain⟨z,c,rfl⟩:=fJ.1 he;obtain⟨i,hi⟩:=dC (hs z c);exact v_ (RE hb d hi)};{rw[dT]at he hx;obtain⟨z,a,rfl⟩:=Option.map_eq_some_iff.1 he;rw[a]at hx;cases hx;obtain⟨i,hi⟩:=dC (hs z (aP a));exact RE hb d hi}
section
variable {P:Program} {F:Nat ->Prop} {w0 w:ai} {L:List cM} {ops:Array Oper} {o:Oper} {a:Act} {Q:Exit ->Act ->ai ->Prop} {e i:Nat} {r:nd}
theorem Sc{id:Nat}[h:f_ w w0 F L](e:Nat)(s:nd)(hm:P.follows .mixedOrders=true)(hB:(Kt ops e s&&s.late e)=true)(b:∀t v c a w,Q (.panic c) (a.put (O t) v) w ->Q (.panic c) a w)(hK:kQ P ops Q (fun W=>f_ W w0 F L) e s a w.drew):(Code.region id ops true).wp P Q a w:=kh _ e s hm hB b ⟨h.st.drew⟩ hK
end
theorem SE{X:Prop}{F:Nat ->Prop}{w0:ai}(L:Nat ->Option Addr ->Nat ->List cM)(G:Nat ->Option Addr ->Nat ->Nat ->Option Addr ->Nat ->ai ->Prop)(h1:(∀Y a c D p q W,f_ W w0 F (L Y p q) ->G Y a c D p q W) ->X)(h2:∀Y a c D p q W,f_ W w0 F (L Y p q) ->G Y a c D p q W):X:=h1 h2
end
theorem RU(x:Rb)(v:ar)(i k:Int)(w:ai){B:Nat}{aE aF:Addr}(he:Env aE aF B w)(hx:AV w v x)(hi:ee i)(hk:ee k):Calls ah 8 #[v,I J i,I J k] w fun e w'=>e=.returned (Ri true)/\Below w.heap.size w w':=by
 have _:=uJ w;have HE:=M he;obtain⟨ra,rc,va,vc,rfl,h1,h2,h3,h4⟩:=hx;have bl:=M fun W(h:Below w.heap.size w W)=>rQ.below h1 h;have bm:=M fun W(h:Below w.heap.size w W)=>xX.below h2 h;have HY:=M (And.intro h3 h4);have HI:=M (And.intro hi hk);clear h1 h2 h3 h4 he hi hk;go_in
 go_wp2_with(first
  |(go_at_call 11;(with_reducible refine fh (t_ _ (HE.out.below cW) (NS _)) fun w1 _ _=> ?_))
  |(go_at_call 12;refine Calls.mono (JQ ⟨false,x.n,x.next,x.recs,x.bj⟩ ra va rc vc (bl.out _ cW) (bm.out _ cW) HY.out.1 HY.out.2) ?_;rintro e w2⟨b2,b,es,sa,sc,ta,tc,G,rfl,hB,hG,S⟩;have ag:0<b.recs.length:=eO.2 S.some;obtain⟨zs,rfl,hz⟩:=Sr hB.hold;obtain⟨g,o,rfl⟩:=RP hB ag;obtain⟨R,hR⟩:∃R,qn G (zs.map (·.1)) b (Z (O ⟨g,o,N⟩) b.recs.length sc) (Z ta b.bj.length tc)=R:=⟨_,rfl⟩;rw[hR]at hB;have _:=CI b2 hB (hR▸hG);have Q:b.kind=1:=S.kind;obtain⟨m,hm,m1⟩:=Sp i ag;obtain⟨n,hn,n1⟩:=Sp k ag;obtain⟨r,s,z,t,E,L,H,ao,V⟩:=Sd (hR▸hB) hz m1;obtain⟨q,aN,aR,aO,aT,aV,aU,az,al⟩:=Sd (hR▸hB) hz n1;obtain⟨d,hd⟩:∃d:Bool,decide (m=n)=d:=⟨_,rfl⟩;have HT:=M (And.intro (RI Q V) (And.intro (hd▸RC S.right Q V al) (RK S.ok.fine Q (by have:=S.ok.len;omega) m1)));have bk:=M (show dU {b with recs:=b.recs}=true from S.right);have e1:((m:Int)==(n:Int))=d:=(by rw[<-hd,eY,beq_iff_eq,Rt];omega);have e2:((JM r).toList==(JM q).toList)=d:=(by rw[Lx,<-hd,decide_eq_decide];exact Ss S.ok.fine Q V al);have e3:((JM r).toList==(⟨#[]⟩:ByteArray).toList)=false:=QM (fun h=>RD r (by rw[h];rfl));have e4:(JM r).toList.isEmpty=false:=(by rw[toList_empty];simpa using RD r);have m0:(0:Int)<=(m:Int):=(by omega);have n0:(0:Int)<=(n:Int):=(by omega);have m2:(m:Int)<(b.recs.length:Int):=(by omega);have n2:(n:Int)<(b.recs.length:Int):=(by omega);have l:=M hR;have HM:=M S;have X:=M hz;have Hm:=M hm;have Hn:=M hn;have ZM:=M ao;have ZN:=M az;have bN:b.recs.length<=12:=S.ok.len;have hsc:b.recs.length<=sc:=(SC (hR▸hB)).cap;have T:=M (show(aL r (Z s z t) (Z E L H)).length=18/\∀y∈aL r (Z s z t) (Z E L H),y.oneCell'=true from v_ (RE (hR▸hB) hz ao));have ad:=M (show(aL q (Z aN aR aO) (Z aT aV aU)).length=18/\∀y∈aL q (Z aN aR aO) (Z aT aV aU),y.oneCell'=true from v_ (RE (hR▸hB) hz az));have P:=M (NN (hR▸hB:(qn G (zs.map (·.1)) b _ _).at _).hold);have j:=M (show(zs.map (·.1)).length=b.recs.length by rw[hz];simp);clear S hB hG b2 hR hz hm hn ao az V al hd Q)
  |(go_at_call 26;first
    |(with_reducible refine fh (v:=.returned (I J (m:Int))) (by rw[<-Hm.out];exact iT i _ HI.out.1 (by omega) (by omega) _) fun w3 _ _=> ?_)
    |(with_reducible refine fh (v:=.returned (I J (n:Int))) (by rw[<-Hn.out];exact iT k _ HI.out.2 (by omega) (by omega) _) fun w4 _ _=> ?_))
  |((with_reducible refine atR (id:=6) ?_);refine kZ (vZ 0 5 (vZ 6 5 (vZ 13 3 (.call 5 (.call 11 (.R 12 (vZ 16 7 (.call 23 (vZ 24 2 .done))))))))) (by kernel_rfl) (by kernel_rfl) (fun _ _ _ _ _ h=>h) ?_)
  |(go_at_call 22;first
    |((with_reducible refine fh (Sx HM.out X.out ZM.out (HE.out.below cW) (Rk l.out)) fun w5 _ _=> ?_);refine hK _ _ fH ?_;clear hK K;go_simp)
    |((with_reducible refine fh (Sx HM.out X.out ZN.out (HE.out.below cW) (Rk l.out)) fun w6 _ _=> ?_);refine hK _ _ fH ?_;clear hK K;go_simp))
  |((with_reducible refine IF ?_);first
    |(refine aj A (yieldsIf_load_mid A 53 _ A g _ A _ _ (fun W _=>Ro (Rk l.out) ZM.out m1) ef A (by kernel_rfl)) ?_;go_simp)
    |(refine aj A (yieldsIf_load_mid A 53 _ A g _ A _ _ (fun W _=>Ro (Rk l.out) ZN.out n1) ef A (by kernel_rfl)) ?_;go_simp)
    |(refine p' A A (fun W _=>by go_simp;try with_reducible rfl) ?_;go_simp)
    |(refine aH A (fun K hK=> ?_);go_simp)
    |refine aM ?_))
 refine atR ?_;refine Sc 12 (vZ 1 2 (vZ 4 5 (.two 0 (.two 3 (.call 9 (.call 10 (.R 11 (.call 12 .done)))) 9 (.call 3 (.call 10 (.R 11 (.call 12 .done))))) 9 (.call 0 (.call 3 (.call 10 (.R 11 (.call 12 .done)))))))) (by kernel_rfl) (by kernel_rfl) (fun _ _ _ _ _ h=>h) ?_;iterate 6 (refine cD A (.inl ⟨rfl,fun W _=>by go_simp;try with_reducible rfl⟩) ?_;go_simp)
 refine cD A (yieldsIf_load_mid A 53 _ A g _ A _ _ (fun W _=>Ro (Rk l.out) ZM.out m1) ef A (by kernel_rfl)) ?_;go_simp;apply SE (F:=ej) (w0:=w) (fun Y p q=>[mV 53 18 Y (Z p (b.recs.length+1) q) (zs.map (·.1)++[aL r (Z s z t) (Z E L H)]),eH w5.heap.size (.cells #[I J b.kind,I J b.n,I J b.next,Z p (b.recs.length+1) q,Z ta b.bj.length tc] 38 (0,0)),eH w2.heap.size (.cells #[I J b.kind,I J b.n,I J b.next,Z (O ⟨g,o,N⟩) b.recs.length sc,Z ta b.bj.length tc] 38 (0,0)),R,eH w.heap.size (.cells #[Ri false,I J x.n,I J x.next,Z ra x.recs.length rc,Z va x.bj.length vc] 25 (0,0))]);case' h1=>intro C;refine tL ?_ ?_;(all_goals((try(refine cj A (fun K hK=> ?_);refine Se A (Su (x:=.tmp 63) (r:=r) (v:=Z s z t) (f:=Z E L H) A A fun D u3 hD _ s3=> ?_);refine hK _ _ fH ?_;clear hK K;go_simp));refine cj A (fun K hK=> ?_);refine Se A (SH kg A fun Y u1 hY _ s1=> ?_);refine hK _ _ fH ?_;clear hK K;go_simp;(try refine tL ?_ ?_)));(all_goals((try(refine cj A (fun K hK=> ?_);refine Se A (Su (x:=.tmp 63) (r:=r) (v:=Z s z t) (f:=Z E L H) A A fun D u3 hD _ s3=> ?_);refine hK _ _ fH ?_;clear hK K;go_simp));refine cj A (fun K hK=> ?_);refine Se A (RN (es2:=zs.map (·.1)) (es3:=zs.map (·.1)) (v:=Z (O ⟨Y,0,N⟩) 0 0) kg A A A A (n:=b.recs.length) (by simpa using j.out) (SC (Rk l.out)) (tf P.out) (by omega) (by simp at*;omega) fun p0 q0 u2 _ s2=> ?_);refine hK _ _ fH ?_;clear hK K;go_simp));(all_goals((try(refine cj A (fun K hK=> ?_);refine Se A (Su (x:=.tmp 63) (r:=r) (v:=Z s z t) (f:=Z E L H) A A fun D u3 hD _ s3=> ?_);refine hK _ _ fH ?_;clear hK K;go_simp));refine cj A (fun K hK=> ?_);refine Se A (RN (es3:=zs.map (·.1)++[aL r (Z s z t) (Z E L H)]) (es2:=[aL r (Z s z t) (Z E L H)]) (v:=Z p0 b.recs.length q0) (u:=Z (O ⟨D,0,N⟩) 1 1) kg A A A A (n:=b.recs.length+1) (by simpa using j.out) (by simpa using AH kR T.out.1) (by simpa using T.out.2) (by omega) (by simp at*;omega) fun p1 q1 u4 _ s4=> ?_);refine hK _ _ fH ?_;clear hK K;go_simp));(all_goals refine cD A (.inl ⟨rfl,fun W _=>by go_simp;try with_reducible rfl⟩) ?_;go_simp);(all_goals refine iK A (fun K hK=> ?_);go_simp;refine hK _ _ ?_;clear hK K;go_simp);all_goals refine gB ?_;have bs:=(inferInstance:f_ (World.setCell u4 ⟨w5.heap.size,3,N⟩ (Z p1 (b.recs.length+1) q1)) w ej _);generalize World.setCell u4 _ _=W9 at bs⊢;exact C Y p0 q0 D p1 q1 W9 fH
 case' h2=>
  intro Y p0 q0 D p1 q1 u5 _
  go_wp2_with(first
   |((with_reducible refine A5 (.buildSlice 36 0 #[]) A ?_);refine wpList_plain A fun K hK=> ?_;refine SH kg A fun Y2 u6 b5 _ s6=> ?_;refine hK _ _ ?_;clear hK K)
   |(at_builtin;refine wpList_plain A fun K hK=> ?_;refine RN (es2:=zs.map (·.1)) (es3:=zs.map (·.1)) (v:=Z (O ⟨Y2,0,N⟩) 0 0) kg A A A A (n:=b.recs.length) (by simpa using j.out) (SC (Rk l.out)) (tf P.out) (by omega) (by simp at*;omega) fun p2 q2 u7 _ s7=> ?_;obtain⟨g2,rfl⟩:=RW (W:=u7) (va:=p2) (n:=b.recs.length) (c:=q2) (by rw[j.out];omega);refine hK _ _ ?_;clear hK K))
  iterate 2
   refine atR ?_;refine Sc 9 (vZ 0 9 (.call 9 .done)) (by kernel_rfl) (by kernel_rfl) (fun _ _ _ _ _ h=>h) ?_;(iterate 7 (refine cD A (.inl ⟨rfl,fun W _=>by go_simp;try with_reducible rfl⟩) ?_;go_simp));first|refine cD A (yieldsIf_load_mid A 53 _ A g _ A _ _ (fun W _=>Ro (Rk l.out) ZN.out n1) ef A (by kernel_rfl)) ?_|refine cD A (yieldsIf_load_mid A 53 _ A g _ A _ _ (fun W _=>Ro (Rk l.out) ZM.out m1) ef A (by kernel_rfl)) ?_
   go_simp;refine cD A (.inl ⟨rfl,fun W _=>by go_simp;try with_reducible rfl⟩) ?_;go_simp;refine iK A (fun K hK=> ?_);refine Se A ?_;first|refine Sa (m:=m) (v:=Z (O ⟨g2,0,N⟩) b.recs.length q2) A A A A (by kernel_rfl) P.out (by rw[j.out];omega) ad.out.1 ad.out.2 fun u8 _ s8=> ?_|refine Sa (m:=n) (v:=Z (O ⟨g2,0,N⟩) b.recs.length q2) A A A A (by kernel_rfl) (Sm P.out ad.out m) (by rw[List.length_set,j.out];omega) T.out.1 T.out.2 fun u8 _ s8=> ?_
   refine hK _ _ ?_;clear hK K;go_simp;refine gB ?_;go_wp2_with{}
  have b7:IntKind.i64.wrap ((m:Int)+1)=((m+1:Nat):Int):=(by rw[bo _ (by omega)];rfl);have k1:(m:Int)<=(sc:Int):=(by omega);have k2:((m+1:Nat):Int)<=(b.recs.length:Int):=(by omega);have k3:(b.recs.length:Int)<=(sc:Int):=(by omega);have k4:(0:Int)<=((m+1:Nat):Int):=(by omega);have k5:(m:Int)<=(b.recs.length:Int):=(by omega);obtain⟨a,hN⟩:∃a,a+1=b.recs.length:=⟨b.recs.length - 1,by omega⟩;have k6:(0:Int)<=(m:Int)+1:=(by omega);have k7:(m:Int)+1<=(b.recs.length:Int):=(by omega);have bb:zs.length=b.recs.length:=(by simpa using j.out);refine atR ?_;refine Sc 13 (vZ 1 4 (vZ 6 5 (.call 0 (.call 5 (.call 11 (.R 12 (.call 13 .done))))))) (by kernel_rfl) (by kernel_rfl) (fun _ _ _ _ _ h=>h) ?_;(iterate 9 (refine cD A (.inl ⟨rfl,fun W _=>by go_simp;try with_reducible rfl⟩) ?_;go_simp));generalize aG:(ite (sc=m+1) _ _:Option Addr)=sd;have bf:=M aG;clear aG;refine cj A (fun K hK=> ?_);refine Se A (SH kg A fun Y3 v1 b6 _ t1=> ?_);refine hK _ _ fH ?_;clear hK K;go_simp;refine cj A (fun K hK=> ?_);refine Se A (RN (es2:=(zs.map (·.1)).take m) (es3:=(zs.map (·.1)).take m) (v:=Z (O ⟨Y3,0,N⟩) 0 0) (u:=Z (O ⟨g,o,N⟩) m sc) kg A A A A (n:=m) (by simp;omega) (SK (Rk l.out) (by rw[j.out];omega)) (tf fun e he=>P.out e (eE he)) (by omega) (by simp at*;omega) fun p3 q3 v2 _ t2=> ?_);refine hK _ _ fH ?_;clear hK K;go_simp;refine cj A (fun K hK=> ?_);refine Se A (RN (es2:=(zs.map (·.1)).drop (m+1)) (es3:=(zs.map (·.1)).take m++(zs.map (·.1)).drop (m+1)) (v:=Z p3 m q3) (u:=Z sd (b.recs.length - (m+1)) (sc - (m+1))) kg A A A A (n:=a) (by simp;omega) (by have h:=SJ (m:=m+1) (Rk l.out:(qn G (zs.map (·.1)) b (Z (O ⟨g,o,N⟩) b.recs.length sc) (Z ta b.bj.length tc)).at v2) (by rw[j.out];omega);simpa[iN,bf.out,bb]using h) (tf fun e he=>P.out e (gr he)) (by omega) (by simp at*;omega) fun p4 q4 v3 _ t3=> ?_);refine hK _ _ fH ?_;clear hK K;go_simp;refine cD A (.inl ⟨rfl,fun W _=>by go_simp;try with_reducible rfl⟩) ?_;go_simp;refine iK A (fun K hK=> ?_);go_simp;refine hK _ _ ?_;clear hK K;go_simp;refine gB ?_;by_cases b4:0<a;case' pos=>have bn:(0:Int)<(a:Int):=(by omega);have aC:=M (show dU {b with recs:=b.recs.take m++b.recs.drop (m+1)}=true by rw[HT.out.2.2,Rt];simp;omega)
  case' neg=>have bn:¬(0:Int)<(a:Int):=(by omega);have aC:=M (show dU {b with recs:=b.recs.take m++b.recs.drop (m+1)}=false by rw[HT.out.2.2,decide_eq_false_iff_not];simp;omega)
  all_goals
   go_wp2_with(first
    |((with_reducible refine atR (id:=16) ?_);refine kZ (vZ 0 3 (.call 3 (vZ 4 3 (.call 7 (vZ 8 4 (vZ 13 3 (.call 12 (vZ 16 4 (vZ 21 4 (.call 20 (vZ 25 3 .done))))))))))) (by kernel_rfl) (by kernel_rfl) (fun _ _ _ _ _ h=>h) ?_)
    |(go_at_call 16;first
      |((with_reducible refine fh (gI bk.out (HE.out.below cW) (Rk l.out) (SB (Rk l.out))) fun w9 _ _=> ?_);refine hK _ _ fH ?_;clear hK K;go_simp)
      |((with_reducible refine fh (gI HT.out.1 (HE.out.below cW) (Rk l.out) (RX (v:=Z p1 (b.recs.length+1) q1) (Rk l.out) X.out _ (SA ZM.out) (by simp) (by simp[X.out]))) fun w9 _ _=> ?_);refine hK _ _ fH ?_;clear hK K;go_simp)
      |((with_reducible refine fh (gI HT.out.2.1 (HE.out.below cW) (Rk l.out) (RX (v:=Z (O ⟨g2,0,N⟩) b.recs.length q2) (Rk l.out) X.out _ (Sz ZM.out ZN.out) (by simp) (by simp[X.out]))) fun w9 _ _=> ?_);refine hK _ _ fH ?_;clear hK K;go_simp)
      |((with_reducible refine fh (gI aC.out (HE.out.below cW) (Rk l.out) (RX (v:=Z p4 a q4) (Rk l.out) X.out _ (Sy (m:=m) (n:=m+1)) (by simp) (by simp[X.out]))) fun w9 _ _=> ?_);refine hK _ _ fH ?_;clear hK K;go_simp))
    |((with_reducible refine IF ?_);first
      |(refine p' A A (fun W _=>by go_simp;try with_reducible rfl) ?_;go_simp)
      |(refine aH A (fun K hK=> ?_);go_simp)
      |refine aM ?_))
  all_goals go_ret;exact⟨rfl,cW⟩
end Go.Proofs.YtbcbefpninlfiaaGreatDoor
namespace Go.Proofs.YtbcbefpninlfiaaGreatDoor.recKeys
open Go.ChangeMaps (open_string shut_string)
open Go.ChangeShapes Go.WideShapes Go.ChangeAt Go.RowKit Mor
theorem reads:∀t∈Tryz.f8.params.toList,Tryz.prog.readableRec t=true/\t<Tryz.prog.types.size:=by
 rw[Tryz.params8];intro t b;have a:([25,3,3].all fun u=>Tryz.prog.readableRec u&&decide (u<Tryz.prog.types.size))=true:=by kernel_rfl
 have:=ba.1 a t (by simpa using b);simpa using this
theorem lifted(os:Os)(started:os.Started)(H:Type)(enc:TypeId×ar ->H):
 ReturnsInHanded {} Tryz.checked os 8 .any (fun w args=>(Rows.recKeysSpec.pre enc ah Tryz.f8 [] false w args/\laidMetH ah Rows.recKeysRow.laid w)/\sizedMet enc ah Tryz.f8 (OpenSpec.ofChange Rows.recKeysSpec) false w args)
  (Rows.recKeysSpec.post enc ah Tryz.f8 false true false false):=by
 refine returnsInHanded_of_change_and (C:=Tryz.checked) (X:=fun w _=>laidMetH ah Rows.recKeysRow.laid w) (fun _ _ _ s h=>h.of_heap s) own started (by kernel_rfl) Tryz.func8
  (ChangeSpec.witness_shaped (enc:=enc) (C:=Tryz.checked) (os:=os) (X:=fun w _=>laidMetH ah Rows.recKeysRow.laid w) false (yE os) #[Rj #[Ri false,I J 0,I J 0,Z N 0 0,Z N 0 0],I J 0,I J 0] 8 (xd os)
   (World.shaped_of_ZipB (by kernel_rfl) (by kernel_rfl)) (by kernel_rfl) (by kernel_rfl) (by kernel_rfl) (uw os _)) ?_
 intro W base args ds gs before a f _ _ o b
 have hval:∀(j:Nat) t v,Tryz.f8.params[j]? =O t ->args[j]? =O v ->Value.okWide ah W .any base t v:=a
 have c:=f
 obtain⟨p,q,hA0,G,rfl,r,u⟩:=f
 have hA:DataW.TrodAll enc ah W 0 (fun _=>true) true Tryz.f8.params.toList args.toList ds p:=hA0
 rw[Tryz.params8]at hA hval
 obtain⟨v0,y,d0,i,K,Q,d,rfl,rfl,m,x⟩:=trodAll_cons hA
 obtain⟨v1,z,d1,k,L,R,rfl,rfl,rfl,h1,r1⟩:=trodAll_cons x
 obtain⟨v2,D,d2,l,P,S,rfl,rfl,rfl,h2,r2⟩:=trodAll_cons r1
 obtain⟨rfl,rfl,rfl⟩:=trodAll_nil r2
 obtain rfl:args= #[v0,v1,v2]:=by cases args;simp_all
 obtain⟨a0,w0⟩:=Ao (hval 0 25 v0 rfl rfl) m
 obtain⟨g,rfl,rfl,rfl,E⟩:=open_int eJ (hval 1 3 v1 rfl rfl) h1
 obtain⟨a2,rfl,rfl,rfl,F⟩:=open_int eJ (hval 2 3 v2 rfl rfl) h2
 obtain⟨aE,aF,B,n⟩:=qD o
 refine(RU a0 _ g a2 W n w0 (PJ E) (PJ F)).mono fun e W'⟨he,hb⟩=> ?_
 subst he
 exact⟨_,rfl,xe laidOut reads rfl Tryz.underlying4 rfl (fun ds hd=>match ds,hd with| [_,_,_],_=>rfl) c rfl hb⟩
theorem named:Tryz.pinned.checked.prog.funcNamed Rows.recKeysRow.func=O 8:=by kernel_rfl
theorem closed:joinedFacts Tryz.pinned.checked.prog 8 Tryz.f8 Rows.recKeysSpec Rows.recKeysRow=true:=by
 unfold joinedFacts;repeat' (with_reducible refine kq.2 ⟨?_, ?_⟩)
 all_goals as_aux_lemma=>kernel_rfl
theorem inst:Tryz.f8.isInstance Tryz.pinned.checked.prog Rows.recKeysRow.origin Rows.recKeysRow.targs:=of_decide_eq_true (by kernel_rfl)
theorem wrap:Tryz.f8.isWrapper Tryz.pinned.checked.prog Rows.recKeysRow.wrapper Rows.recKeysRow.mainSum:=by unfold Func.isWrapper;first|(rw[if_pos (by decide+kernel)];kernel_rfl)|(rw[if_neg (by decide+kernel)];exact⟨rfl,rfl⟩)
theorem said:Rows.RecKeysSaid:=
 OpenClaim.holds_of_wide 8 Tryz.f8 rfl rfl rfl rfl rfl rfl rfl ⟨rfl,rfl,rfl,rfl,rfl⟩ rfl rfl rfl rfl rfl named Tryz.func8 closed inst wrap
  (fun os started H enc _=>lifted os started H enc)
theorem plain(f:FuncId)(fn:Func)(hf:Tryz.pinned.checked.prog.funcNamed "moraine/morainelaw11.RecKeys" =O f)(b:Tryz.pinned.checked.prog.funcs[f]? =O fn):true=Tryz.pinned.checked.prog.looks []/\∀(j:Nat) t,fn.params[j]? =O t ->Tryz.pinned.checked.prog.wantsStandIn t=false:=by
 obtain rfl:f=8:=dc ((show Tryz.prog.funcNamed "moraine/morainelaw11.RecKeys" =O 8 by kernel_rfl).symm.trans hf)|>.symm;obtain rfl:fn=Tryz.f8:=(dc (Tryz.func8.symm.trans b)).symm;refine⟨by kernel_rfl,fun j t c=> ?_⟩;rw[Tryz.params8]at c;have hm:t∈[25,3,3]:=by simpa using Array.mem_of_getElem? c
 have a:([25,3,3].all fun u=> !Tryz.prog.wantsStandIn u)=true:=by kernel_rfl
 exact(show Tryz.prog.wantsStandIn t=false by simpa using ba.1 a t hm)
theorem card:Rows.RecKeysCardSaid:=
 Claim7.holds_tied_plain_at .later [] _ _ _ _ said (fun _ h=>by cases h) (by kernel_rfl) (fun _ h=>by cases h) recKeys_row_tie rfl ⟨rfl,rfl⟩ (by kernel_rfl) rfl plain (by kernel_rfl)
#print axioms card
end Go.Proofs.YtbcbefpninlfiaaGreatDoor.recKeys
