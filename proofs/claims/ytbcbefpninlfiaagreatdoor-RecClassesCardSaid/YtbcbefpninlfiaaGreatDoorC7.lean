import Derived.Test.YtbcbefpninlfiaaGreatDoorC4
set_option maxHeartbeats 64000000
set_option maxRecDepth 100000
set_option linter.all false
open Go renaming Calls->aJ,Value->ar,World->ai
open Option renaming none->N,some->O
open Go.Proofs.Tryz renaming prog->ah,results200->iI
open Go.Value renaming agg->Rj,bool->Ri,int->I,pointer->Ru,slice->Z,string->U,tuple->Rx
open Go.IntKind renaming i64->J
open Go.Ending renaming returned->Rh
open Go.RowKit renaming Below->ay
open Go.Obj renaming cells->Ra
open Go.Lib renaming byteCells->cQ,cell_of_heap->gg,ownsRow_kind->ia
open UInt8 renaming ofNat->dh
namespace Mor
def m'(s:ByteArray)(a:Bool):Bool:=if a then dn s else decide (s.size=0)
theorem qX(s:ByteArray):dI ⟨s,[]⟩=dn s:=by simp[dI,tt]
structure Nl where
 field:Bool
 name:Bool
 more:Bool
 kind:Bool
 expr:Bool
 other:Bool
def nW(k:Int):Nl×Bool:=
 if k=1 then(⟨false,true,false,true,true,false⟩,true)
 else if k=2\/k=6 then(⟨true,false,false,false,false,false⟩,true)
 else if k=3 then(⟨true,true,false,false,false,false⟩,true)
 else if k=4 then(⟨true,false,false,true,true,false⟩,true)
 else if k=5 then(⟨true,true,true,true,true,true⟩,true)
 else(⟨false,false,false,false,false,false⟩,false)
theorem ry(g:Fin 128):marks [g]=[dh g.val]:=rfl
theorem pD(g:Fin 128)(gs:List (Fin 128))(h:gs≠[]):marks (g::gs)=dh (g.val+128)::marks gs:=by rcases List.eq_nil_or_concat gs with rfl|⟨q,z,rfl⟩;{exact absurd rfl h};{rw[List.concat_eq_append,<-b_,mj,mj];simp[cont]}
theorem Et{a x j:Nat}(h:a<2^j):a||| x*2^j=a+x*2^j:=by rw[Nat.or_comm,Nat.add_comm];exact Go.nat_join j (x*2^j) a (Nat.mul_mod_left _ _) h
theorem CN(f m:Nat)(h:m≠0)(hf:m<128^f):lG f m≠[]:=by
 cases f with
 |zero=>simp at hf;omega
 |succ f=>rw[o9 f m h];simp
theorem y7(rest:List UInt8)(sg:Nat):∀(f m k acc:Nat),m≠0 ->m<128^f ->1<=k ->acc<2^(7*k - 1) ->m*2^(7*k - 1)<9223372036854775808 ->
 scan (marks (lG f m)++rest) k acc sg=.num (acc+m*2^(7*k - 1)) sg (k+(lG f m).length)
 |0,m,_,_,hm,hf,_,_,_=>by simp at hf;omega
 |f+1,m,k,acc,hm,hf,hk,a,n=>by rw[o9 f m hm];have hp1:0<2^(7*k - 1):=Nat.pow_pos (by decide);by_cases i:m<128;{have o:m/128=0:=(by omega);rw[o,lu,ry];have hb:(dh (m % 128)).toNat=m:=(by rw[il (by omega)];omega);have g:¬((dh (m % 128)).toNat=0\/(k=9/\1<(dh (m % 128)).toNat)):=by{rw[hb];rintro(h|⟨rfl,h⟩);{exact hm h};{omega}};show scan (dh (m % 128)::rest) k acc sg=_;rw[rI _ _ _ _ _ (by omega) g,hb,if_pos i];have e1:m % 128=m:=(by omega);rw[aS,a7,bC,e1,Nat.mod_eq_of_lt (by omega),Et a]};{have c:m/128≠0:=(by omega);have b:m/128<128^f:=by{rw[Nat.pow_succ]at hf;exact Nat.div_lt_of_lt_mul (by rw[kH];exact hf)};rw[pD _ _ (CN f _ c b)];have hb:(dh (m % 128+128)).toNat=m % 128+128:=il (by omega);have j:2^(7*(k+1) - 1)=128*2^(7*k - 1):=by{rw[show 7*(k+1) - 1=7+(7*k - 1) by omega,Nat.pow_add]};have l:k≠9:=by{rintro rfl;have:128*2^(7*9 - 1)<=m*2^(7*9 - 1):=dV _ (by omega);omega};have g:¬((dh (m % 128+128)).toNat=0\/(k=9/\1<(dh (m % 128+128)).toNat)):=by{rw[hb];omega};have d:m*2^(7*k - 1)=m/128*2^(7*(k+1) - 1)+m % 128*2^(7*k - 1):=by{have e:m/128*2^(7*(k+1) - 1)=m/128*128*2^(7*k - 1):=(by rw[j,Nat.mul_assoc]);rw[e,<-Nat.add_mul];congr 1;omega};have hle:m % 128*2^(7*k - 1)<=127*2^(7*k - 1):=dV _ (by omega);show scan (dh (m % 128+128)::(marks (lG f (m/128))++rest)) k acc sg=_;rw[rI _ _ _ _ _ (by omega) g,hb,if_neg (by omega)];have e1:(m % 128+128) % 128=m % 128:=(by omega);rw[e1,Nat.mod_eq_of_lt (by omega),Et a];rw[y7 rest sg f (m/128) (k+1) (acc+m % 128*2^(7*k - 1)) c b (by omega) (by rw[j];omega) (by omega)];congr 1;{omega};{rw[aS];omega}}
theorem Ik(z:Int)(h1: -9223372036854775808<=z)(h2:z<9223372036854775808)(rest:List UInt8):scan (az z++rest) 0 0 0=.num (qm z) (xU z) (az z).length:=by
 have hm:=Ej h1 h2;have hs:=Kx z;have c:(az z).length=(lG 9 (qm z/64)).length+1:=by rw[az,jM,oU,aS]
 have b:(ox z).val=qm z % 64*2+xU z:=rfl;rw[c];by_cases a:qm z/64=0;{have e:az z=[dh (ox z).val]:=(by rw[az,oU,a,lu,ry]);have hb:(dh (ox z).val).toNat=qm z % 64*2+xU z:=(by rw[il (by omega),b]);rw[e,b_,o8,hb,if_pos (by omega),a,lu];congr 1<;>omega};{have hf:qm z/64<128^9:=(by omega);have e:az z=dh ((ox z).val+128)::marks (lG 9 (qm z/64)):=(by rw[az,oU,pD _ _ (CN 9 _ a hf)]);have hb:(dh ((ox z).val+128)).toNat=qm z % 64*2+xU z+128:=(by rw[il (by omega),b]);rw[e,b_,o8,hb,if_neg (by omega)];have e1:(qm z % 64*2+xU z+128) % 128/2=qm z % 64:=(by omega);have e2:(qm z % 64*2+xU z+128) % 128 % 2=xU z:=(by omega);rw[e1,e2,y7 rest (xU z) 9 (qm z/64) 1 (qm z % 64) a hf (by omega) (by omega) (by omega)];congr 1;{omega};{omega}}
end Mor
namespace Go.Proofs.YtbcbefpninlfiaaGreatDoor
open Go.Proofs.Tryz
section
open Go.RowKit Mor
structure Rd where
 pos:Int
 bad:Bool
def rdNum(s:ByteArray)(r:Rd):Int×Rd:=match iR s r.pos with
 | .num m sg size=>if r.bad then(0,⟨r.pos,true⟩)else(valOf m sg,⟨r.pos+size,false⟩)
 |_=>(0,⟨r.pos,true⟩)
def bT(s:ByteArray)(r:Rd):ByteArray×Rd:=match iM s r.pos with
 |some (t,q)=>if r.bad then(⟨#[]⟩,⟨r.pos,true⟩)else(t,⟨(q:Int),false⟩)
 |none=>(⟨#[]⟩,⟨r.pos,true⟩)
theorem fW.setAt{aE aF:Addr}{w:ai}(h:fW aE aF w)(D j:Nat)(v:ar)(h0:D≠0)(h1:D≠1)(h2:D≠aE.block)(h3:D≠aF.block):fW aE aF (w.setCell ⟨D,j,N⟩ v):=h.grown (g_ w ⟨D,j,N⟩ v) h0 h1 h2 h3
end
section
open Go.RowKit Mor
def rn(s:ByteArray)(p:Int):Option (Int×Int):=match iR s p with
 | .num m sg size=>O (valOf m sg,p+size)
 |_=>N
def rt(s:ByteArray)(p:Int):Option (ByteArray×Int):=(iM s p).map fun x=>(x.1,(x.2:Int))
theorem lX{s:ByteArray}(hs:s.size<=281474976710656){p n q:Int}(h:rn s p=O (n,q))(aE aF:Addr)(w:ai)(he:fW aE aF w):aJ ah 36 #[U s,I J p] w fun e w'=>e=Rh (Rx #[I J n,I J q,I J 0])/\ay w.heap.size w w':=by unfold rn at h;split at h;{rename_i m sg size e;simp only[bu,cu]at h;obtain⟨rfl,rfl⟩:=h;exact xv s hs p aE aF w he m sg size e};{cases h}
theorem AF{s:ByteArray}(hs:s.size<=281474976710656){p:Int}(h:rn s p=N)(aE aF:Addr)(w:ai)(he:fW aE aF w):aJ ah 36 #[U s,I J p] w fun e w'=>e=Rh (Rx #[I J 0,I J 0,I J 10])/\ay w.heap.size w w':=by refine vq s hs p aE aF w he (fun m sg size e=> ?_);unfold rn at h;rw[e]at h;cases h
theorem FQ{s:ByteArray}(hs:s.size<=281474976710656){p q:Int}{t:ByteArray}(h:rt s p=O (t,q))(aE aF:Addr)(w:ai)(he:fW aE aF w):aJ ah 146 #[U s,I J p] w fun e w'=>e=Rh (Rx #[U t,I J q,I J 0])/\ay w.heap.size w w':=by
 unfold rt at h;cases hx:iM s p with
 |none=>rw[hx]at h;cases h
 |some x=>obtain⟨t', q'⟩ :=x;rw[hx]at h;simp only[eZ,bu,cu]at h;obtain⟨rfl,rfl⟩:=h;exact vt s hs p aE aF w he _ _ hx
theorem FP{s:ByteArray}(hs:s.size<=281474976710656){p:Int}(h:rt s p=N)(aE aF:Addr)(w:ai)(he:fW aE aF w):aJ ah 146 #[U s,I J p] w fun e w'=>e=Rh (Rx #[U ⟨#[]⟩,I J 0,I J 10])/\ay w.heap.size w w':=by
 refine tC s hs p aE aF w he ?_;unfold rt at h;cases hx:iM s p with
 |none=>rfl
 |some x=>rw[hx]at h;cases h
end
section
open Go.RowKit Mor
def jl(s:ByteArray)(r:Rd):Obj:=Ra #[U s,I J r.pos,Ri r.bad] 219 (0,0)
def pJ(s:ByteArray)(r:Rd):Obj:=Ra #[U s,I J r.pos,Ri r.bad] 223 (0,0)
theorem Kj(s:ByteArray)(hs:s.size<=281474976710656)(p:Int)(aE aF:Addr):∃n q x,(∀w,fW aE aF w ->aJ ah 36 #[U s,I J p] w fun e w'=>e=Rh (Rx #[I J n,I J q,I J x])/\ay w.heap.size w w') /\(x=0/\(∀bad,rdNum s ⟨p,bad⟩=if bad then(0,⟨p,true⟩)else(n,⟨q,false⟩))\/x=10/\∀bad,rdNum s ⟨p,bad⟩=(0,⟨p,true⟩)):=by
 unfold rdNum;cases h:iR s p with
 |num m sg size=>exact⟨_,_,_,fun w he=>xv s hs p aE aF w he m sg size h, .inl ⟨rfl,fun bad=>by simp only[h]⟩⟩
 |_=>exact⟨_,_,_,fun w he=>vq s hs p aE aF w he (by simp[h]), .inr ⟨rfl,fun bad=>by simp only[h]⟩⟩
theorem Hr(s:ByteArray)(hs:s.size<=281474976710656)(p:Int)(aE aF:Addr):∃n q x,(∀w,fW aE aF w ->aJ ah 146 #[U s,I J p] w fun e w'=>e=Rh (Rx #[U n,I J q,I J x])/\ay w.heap.size w w') /\(x=0/\(∀bad,bT s ⟨p,bad⟩=if bad then(⟨#[]⟩,⟨p,true⟩)else(n,⟨q,false⟩))\/x=10/\∀bad,bT s ⟨p,bad⟩=(⟨#[]⟩,⟨p,true⟩)):=by
 unfold bT;cases h:iM s p with
 |some t=>exact⟨_,_,_,fun w he=>vt s hs p aE aF w he t.1 t.2 h, .inl ⟨rfl,fun bad=>by simp only[h]⟩⟩
 |none=>exact⟨_,_,_,fun w he=>tC s hs p aE aF w he h, .inr ⟨rfl,fun bad=>by simp only[h]⟩⟩
theorem fW.drew{aE aF:Addr}{w:ai}(h:fW aE aF w):fW aE aF w.drew:=h.below (ax _ _).drew (av _)
theorem Ax(s:ByteArray)(hs:s.size<=281474976710656)(r:Rd)(b:Nat)(aE aF:Addr)(w:ai)(he:fW aE aF w):(w.heap[b]? =O (jl s r) ->aJ ah 171 #[Ru (O ⟨b,0,N⟩)] w fun e w'=>e=Rh (I J (rdNum s r).1)/\w'.heap[b]? =O (jl s (rdNum s r).2)/\w.grownBy w' (O b))/\(w.heap[b]? =O (pJ s r) ->aJ ah 175 #[Ru (O ⟨b,0,N⟩)] w fun e w'=>e=Rh (I J (rdNum s r).1)/\w'.heap[b]? =O (pJ s (rdNum s r).2)/\w.grownBy w' (O b))/\(w.heap[b]? =O (jl s r) ->aJ ah 170 #[Ru (O ⟨b,0,N⟩)] w fun e w'=>e=Rh (U (bT s r).1)/\w'.heap[b]? =O (jl s (bT s r).2)/\w.grownBy w' (O b))/\(w.heap[b]? =O (pJ s r) ->aJ ah 176 #[Ru (O ⟨b,0,N⟩)] w fun e w'=>e=Rh (U (bT s r).1)/\w'.heap[b]? =O (pJ s (bT s r).2)/\w.grownBy w' (O b)):=by
 obtain⟨p,bad⟩:=r;have c:=M he.drew;clear he;unfold jl pJ;refine⟨?_, ?_, ?_, ?_⟩
 case refine_1|refine_2=>
  intro hb;have _:=CJ hb;obtain⟨n,q,x,hc,hr⟩:=Kj s hs p aE aF;have a:=M hc;have d:=M hr;clear hc hb hs hr;go_in
  go_wp2_with(first
   |((with_reducible refine atR ?_);refine kZ (.R 0 (.R 1 (.R 2 (.R 3 (.R 4 (.R 5 (.R 6 (.R 7 (.call 8 (.R 9 (.R 10 (.R 11 (.R 12 (.R 13 (.R 14 (.R 15 .done)))))))))))))))) (by kernel_rfl) (by kernel_rfl) (fun _ _ _ _ _ h=>h) ?_)
   |(go_at_call 36;refine(a.out _ c.out).mono ?_;rintro e f⟨rfl,b1⟩;have _:=Di b1;refine hK _ _ fH ?_;clear hK K;go_simp)
   |((with_reducible refine IF ?_);first
     |(refine p' A A (fun W _=>by go_simp;try with_reducible rfl) ?_;go_simp)
     |(refine aH A (fun K hK=> ?_);go_simp)
     |(refine aM ?_;cases bad)))
  all_goals go_ret;rcases d.out with⟨hx,hr⟩|⟨hx,hr⟩<;>first|(exfalso;clear a c;simp_all;done)|(rw[hr];exact⟨rfl,kR,xh.grown⟩)
 case refine_3|refine_4=>
  intro hb;have _:=CJ hb;obtain⟨n,q,x,hc,hr⟩:=Hr s hs p aE aF;have a:=M hc;have d:=M hr;clear hc hb hs hr;go_in
  go_wp2_with(first
   |((with_reducible refine atR ?_);refine kZ (.R 0 (.R 1 (.R 2 (.R 3 (.R 4 (.R 5 (.R 6 (.R 7 (.call 8 (.R 9 (.R 10 (.R 11 (.R 12 (.R 13 (.R 14 (.R 15 .done)))))))))))))))) (by kernel_rfl) (by kernel_rfl) (fun _ _ _ _ _ h=>h) ?_)
   |(go_at_call 146;refine(a.out _ c.out).mono ?_;rintro e f⟨rfl,b1⟩;have _:=Di b1;refine hK _ _ fH ?_;clear hK K;go_simp)
   |((with_reducible refine IF ?_);first
     |(refine p' A A (fun W _=>by go_simp;try with_reducible rfl) ?_;go_simp)
     |(refine aH A (fun K hK=> ?_);go_simp)
     |(refine aM ?_;cases bad)))
  all_goals go_ret;rcases d.out with⟨hx,hr⟩|⟨hx,hr⟩<;>first|(exfalso;clear a c;simp_all;done)|(rw[hr];exact⟨rfl,kR,xh.grown⟩)
theorem tq(s:ByteArray)(hs:s.size<=281474976710656)(r:Rd)(b:Nat)(aE aF:Addr)(w:ai)(hb:w.heap[b]? =O (jl s r))(he:fW aE aF w):aJ ah 171 #[Ru (O ⟨b,0,N⟩)] w fun e w'=>e=Rh (I J (rdNum s r).1)/\w'.heap[b]? =O (jl s (rdNum s r).2)/\w.grownBy w' (O b):=(Ax s hs r b aE aF w he).1 hb
theorem JW(s:ByteArray)(hs:s.size<=281474976710656)(r:Rd)(b:Nat)(aE aF:Addr)(w:ai)(hb:w.heap[b]? =O (pJ s r))(he:fW aE aF w):aJ ah 175 #[Ru (O ⟨b,0,N⟩)] w fun e w'=>e=Rh (I J (rdNum s r).1)/\w'.heap[b]? =O (pJ s (rdNum s r).2)/\w.grownBy w' (O b):=(Ax s hs r b aE aF w he).2.1 hb
theorem ze(s:ByteArray)(hs:s.size<=281474976710656)(r:Rd)(b:Nat)(aE aF:Addr)(w:ai)(hb:w.heap[b]? =O (jl s r))(he:fW aE aF w):aJ ah 170 #[Ru (O ⟨b,0,N⟩)] w fun e w'=>e=Rh (U (bT s r).1)/\w'.heap[b]? =O (jl s (bT s r).2)/\w.grownBy w' (O b):=(Ax s hs r b aE aF w he).2.2.1 hb
theorem Ir(s:ByteArray)(hs:s.size<=281474976710656)(r:Rd)(b:Nat)(aE aF:Addr)(w:ai)(hb:w.heap[b]? =O (pJ s r))(he:fW aE aF w):aJ ah 176 #[Ru (O ⟨b,0,N⟩)] w fun e w'=>e=Rh (U (bT s r).1)/\w'.heap[b]? =O (pJ s (bT s r).2)/\w.grownBy w' (O b):=(Ax s hs r b aE aF w he).2.2.2 hb
end
section
open Go.RowKit Mor
def rdField(s:ByteArray)(r:Rd):(iF×Bool)×Rd:=
 ((⟨(bT s r).1,(rdNum s (bT s r).2).1,(rdNum s (rdNum s (bT s r).2).2).1,(rdNum s (rdNum s (rdNum s (bT s r).2).2).2).1==1⟩,
  (rdNum s (rdNum s (rdNum s (bT s r).2).2).2).1==0||(rdNum s (rdNum s (rdNum s (bT s r).2).2).2).1==1),(rdNum s (rdNum s (rdNum s (bT s r).2).2).2).2)
def dM(s:ByteArray):Nat ->Rd ->Option (List iF×Rd)
 |0,r=>O ([],r)
 |n+1,r=>if(rdField s r).1.2=true then(dM s n (rdField s r).2).map fun x=>((rdField s r).1.1::x.1,x.2)else N
def jg(s:ByteArray)(p:Int):Option (pd×Int):=
 if(rdNum s (bT s ⟨p,false⟩).2).1<0\/8<(rdNum s (bT s ⟨p,false⟩).2).1 then N else
 match dM s (rdNum s (bT s ⟨p,false⟩).2).1.toNat (rdNum s (bT s ⟨p,false⟩).2).2 with
 |none=>N
 |some (fs,r)=>if r.bad=true\/dI ⟨(bT s ⟨p,false⟩).1,fs⟩=false then N else O (⟨(bT s ⟨p,false⟩).1,fs⟩,r.pos)
theorem pU{s:ByteArray}{p:Int}{t:ByteArray}{q:Nat}(h:iM s p=O (t,q)):t.size<=s.size/\t.size<=10000:=by unfold iM at h;split at h;{split at h;{rename_i hc;simp only[bu,cu]at h;rw[<-h.1,cX];omega};{cases h}};{cases h}
theorem qW(s:ByteArray)(r:Rd):(bT s r).1.size<=10000:=by unfold bT;split;{rename_i t q h;have:=(pU h).2;split;{simp[ByteArray.size]};{exact this}};{simp[ByteArray.size]}
theorem Aw(s:ByteArray)(r:Rd):(rdField s r).1.1.name.size<=9223372036854775807:=by have:=qW s r;simp only[rdField];omega
theorem yj{s:ByteArray}{n k:Nat}{a r:Rd}{acc:List iF}(hk:k<n)(h:dM s n a=(dM s (n -k) r).map fun x=>(acc++x.1,x.2)):dM s n a=if(rdField s r).1.2=true then(dM s (n - (k+1)) (rdField s r).2).map fun x=>((acc++[(rdField s r).1.1])++x.1,x.2)else N:=by rw[h,show n -k=n - (k+1)+1 by omega,dM];split;{rw[Option.map_map];congr 1;funext x;simp};{rfl}
def qq(base:Nat)(v:ar)(l:List iF)(w:ai):Prop:=w.ownsRow base 131 4 v l.length (l.flatMap ug)
theorem tj{w:ai}{base:Nat}{v:ar}{l:List iF}(h:qq base v l w)(hs:∀f∈l,f.name.size<=9223372036854775807):je w v l:=by refine⟨l.map ug, ?_, ?_,by simp, ?_⟩;{intro e he;obtain⟨f,hf,rfl⟩:=fJ.1 he;exact⟨rfl,by intro x hx;simp[ug]at hx;rcases hx with rfl|rfl|rfl|rfl<;>rfl⟩};{rw[<-List.flatMap_def,bq];exact uH h};{intro i e x he hx;rw[dT,hx]at he;simp only[eZ,bu]at he;exact⟨he.symm,hs x (aP hx)⟩}
theorem M5:Elem ah 26 131 4 40:=ni (z:=Rj #[U ⟨#[]⟩,I J 0,I J 0,Ri false]) underlying26 (by kernel_rfl) (by kernel_rfl) (by decide) (by decide)
theorem J6(base:Nat)(w:ai):qq base (Z N 0 0) [] w:=dH w base _ _
theorem Dd{ops:Array Oper}{rest:List Oper}{o:Oper}{a:Act}{w:ai}{Q:Exit ->Act ->ai ->Prop}(d:o.guard=N)(sl x:Operand)(ho:o.op=.call {callee:=.builtin .append,args:= #[sl,x],argTypes:= #[26,26]})(base:Nat)(v:ar)(l:List iF)(f:iF)(W:ai)(e:w=W.alloc (Ra #[U f.name,I J f.k,I J f.o,Ri f.ix] 131))(hs:a.eval sl=v)(c:qq base v l W)(hx:a.eval x=Z (O ⟨W.heap.size,0,N⟩) 1 1)(g:l.length<=1000)(hb:base<=W.heap.size)(h:∀v' w', qq base v' (l++[f]) w' ->w.grownBy w' v.ownBlock ->ay base w w' ->wpList ah ops Q rest (a.put o.dst v') w') :wpList ah ops Q (o::rest) a w:=by subst e;have b:qq base v l (W.alloc (Ra #[U f.name,I J f.k,I J f.o,Ri f.ix] 131)):=cL c _;have hu:=AI W 131 4 1 #[U f.name,I J f.k,I J f.o,Ri f.ix] rfl (by unfold maxLen;omega);refine ri d sl x ho M5 base v _ l.length 1 _ _ hs hx b hu (by intro y hy;simp at hy;rcases hy with rfl|rfl|rfl|rfl<;>rfl) (by omega) (by simp;omega) ?_;intro v' w' h1 h2 h3;refine h v' w' ?_ h3 h2;unfold qq;rw[aw,List.flatMap_append];simpa[ug]using h1
theorem fW.low{aE aF:Addr}{w w':ai}(h:fW aE aF w){B:Nat}(hB:ay B w w')(h0:2<=B)(a:aE.block<B)(hF:aF.block<B):fW aE aF w':=by obtain⟨c1,t1,h1⟩:=h.he;obtain⟨c2,t2,h2⟩:=h.hf;exact⟨(hB.cell (p:=⟨0,0,N⟩) (by show 0<B;omega)).trans h.e,(hB.cell (p:=⟨1,0,N⟩) (by show 1<B;omega)).trans h.f,h.ne,⟨c1,t1,(hB.block _ a).trans h1⟩,⟨c2,t2,(hB.block _ hF).trans h2⟩,cJ h.sz hB.size⟩
end
section
open Go.RowKit
variable {P:Program} {F:Nat ->Prop} {w0 W:ai} {L:List cM}
theorem fh{f:FuncId}{args:Array ar}{R:Ending ->ai ->Prop}{v:Ending}(c:aJ P f args W fun e w'=>e=v/\ay W.heap.size W w')[h:f_ W w0 F L](k:∀w', f_ w' w0 F L ->W.heap.size<=w'.heap.size ->R v w') :aJ P f args W R:=
 c.mono fun _ w'⟨he,hb⟩=>he▸k w' (Di hb) hb.size
class jd(w W:ai):Prop where
 b:ay w.heap.size w W
instance OM{w:ai}:jd w w:=⟨.refl _ _⟩
instance QG{w W:ai}{o:Obj}[h:jd w W]:jd w (W.alloc o):=⟨h.b.alloc h.b.size o⟩
instance QH{w W:ai}[h:jd w W]:jd w W.drew:=⟨h.b.drew⟩
class Nk(L:List cM)(r:cM):Prop where
 mem:r∈L
instance QO{r:cM}{L:List cM}:Nk (r::L) r:=⟨df⟩
instance(priority:=low)QP{r s:cM}{L:List cM}[h:Nk L r]:Nk (s::L) r:=⟨cE _ h.mem⟩
end
section
open Go.RowKit Mor
theorem toList_empty(s:ByteArray):s.toList.isEmpty=decide (s.size=0):=by
 rw[da];have h:s.data.toList.length=s.size:=by simp
 cases a:s.data.toList with
 |nil=>rw[a]at h;simp only[a7]at h;rw[<-h];rfl
 |cons b l=>rw[a]at h;simp only[aS]at h;rw[Rw (by omega)];rfl
theorem uy(s:ByteArray)(a:Bool)(w:ai)(hs:s.size<=9223372036854775807):aJ ah 201 #[U s,Ri a] w fun e w'=>e=Rh (Ri (m' s a))/\ay w.heap.size w w':=by cases a;{have E:=M (show m' s false=s.toList.isEmpty by rw[toList_empty];rfl);rw[E.out];cases he:s.toList.isEmpty;all_goals go_in;go_wp2_with{};go_ret;exact⟨by simp,ax _ _⟩};{have E:=M (show m' s true=dI ⟨s,[]⟩ by rw[qX];rfl);have b:=M (mu ⟨s,[]⟩ _ w ⟨_,rfl,dL _ _ _,hs⟩);rw[E.out];clear E;go_in;go_wp2_with{};refine b.out.mono ?_;rintro e c⟨rfl,b1⟩;go_wp2_with{};go_ret;exact⟨rfl,b1⟩}
def M_(n:Nl):ar:=Rj #[Ri n.field,Ri n.name,Ri n.more,Ri n.kind,Ri n.expr,Ri n.other]
theorem GY(k:Int)(w:ai):aJ ah 200 #[I J k] w fun e w'=>e=Rh (Rx #[M_ (nW k).1,Ri (nW k).2])/\ay w.heap.size w w':=by have a:=M (fun(o:Obj)=>(ax w.heap.size w).alloc (av _) o);unfold nW;by_cases h1:k=1;{subst h1;go_in;go_wp2_with{};exact au (v:=Rx #[Rj #[Ri false,Ri true,Ri false,Ri true,Ri true,Ri false],Ri true]) (by simp[results,iI,go_sem]) A ⟨rfl,a.out _⟩};have d1:(k==1)=false:=Rm.2 h1;rw[Rq h1];by_cases h2:k=2;{subst h2;clear h1 d1;go_in;go_wp2_with{};exact au (v:=Rx #[Rj #[Ri true,Ri false,Ri false,Ri false,Ri false,Ri false],Ri true]) (by simp[results,iI,go_sem]) A ⟨rfl,a.out _⟩};have d2:(k==2)=false:=Rm.2 h2;by_cases h6:k=6;{subst h6;clear h1 d1 h2 d2;go_in;go_wp2_with{};exact au (v:=Rx #[Rj #[Ri true,Ri false,Ri false,Ri false,Ri false,Ri false],Ri true]) (by simp[results,iI,go_sem]) A ⟨rfl,a.out _⟩};have d6:(k==6)=false:=Rm.2 h6;rw[Rq (by omega)];by_cases h3:k=3;{subst h3;clear h1 d1 h2 d2 h6 d6;go_in;go_wp2_with{};exact au (v:=Rx #[Rj #[Ri true,Ri true,Ri false,Ri false,Ri false,Ri false],Ri true]) (by simp[results,iI,go_sem]) A ⟨rfl,a.out _⟩};have d3:(k==3)=false:=Rm.2 h3;rw[Rq h3];by_cases h4:k=4;{subst h4;clear h1 d1 h2 d2 h6 d6 h3 d3;go_in;go_wp2_with{};exact au (v:=Rx #[Rj #[Ri true,Ri false,Ri false,Ri true,Ri true,Ri false],Ri true]) (by simp[results,iI,go_sem]) A ⟨rfl,a.out _⟩};have d4:(k==4)=false:=Rm.2 h4;rw[Rq h4];by_cases b:k=5;{subst b;clear h1 d1 h2 d2 h6 d6 h3 d3 h4 d4;go_in;go_wp2_with{};exact au (v:=Rx #[Rj #[Ri true,Ri true,Ri true,Ri true,Ri true,Ri true],Ri true]) (by simp[results,iI,go_sem]) A ⟨rfl,a.out _⟩};have d5:(k==5)=false:=Rm.2 b;rw[Rq b];clear h1 h2 h3 h4 b h6;go_in;go_wp2_with{};exact au (v:=Rx #[Rj #[Ri false,Ri false,Ri false,Ri false,Ri false,Ri false],Ri false]) (by simp[results,iI,go_sem]) A ⟨rfl,a.out _⟩
end
section
open Go.RowKit
theorem f_.OR{F:Nat ->Prop}{w0 W:ai}{L:List cM}(h:f_ W w0 F L):f_ W.drew w0 F L:=⟨h.st.drew⟩
section
variable {P:Program} {F:Nat ->Prop} {w0 W W':ai} {L L':List cM} {fn:Func} {R:Ending ->ai ->Prop} {a:Act} {i j k g:Nat} {T:TypeId} {cs:Array ar} {u v:ar} {fr:Nat×Nat}
theorem xC [h:f_ W w0 F L][b:qd L g (Ra cs T fr)](hu:P.underlying T=O (.struct (P.fieldsOf T)))(hi:(P.info? T).map (·.size)=O cs.size):(loadVar T ⟨g,0,N⟩).run P W=.ok (Rj cs) W:=
 run_loadVar_row (P:=P) W g T T cs fr _ kR hu A hi
theorem Nc [h:f_ W w0 F L][b:qd L g (Ra cs T fr)](c:fn.results= #[.cell i T])(h1:a.tmps.getD i undef=Ru (O ⟨g,0,N⟩))(hd:a.defers=[])(hu:P.underlying T=O (.struct (P.fieldsOf T)))(hi:(P.info? T).map (·.size)=O cs.size)(hR:R (Rh (Rj cs)) W):bodyPost P fn R .ret a W:=by
 have ha:(asAddr (a.tmps.getD i undef)).run P W=.ok ⟨g,0,N⟩ W:=by rw[h1];simp[asAddr]
 refine au ?_ hd hR;unfold results;rw[c];simp[-Array.getD_eq_getD_getElem?,cG,ha,xC (W:=W) (g:=g) hu hi]
theorem Pt [h:f_ W w0 F L][b:qd L g (Ra cs T fr)](c:fn.results= #[.cell i T, .tmp j])(h1:a.tmps.getD i undef=Ru (O ⟨g,0,N⟩))(h2:a.tmps.getD j undef=v)(hd:a.defers=[])(hu:P.underlying T=O (.struct (P.fieldsOf T)))(hi:(P.info? T).map (·.size)=O cs.size)(hR:R (Rh (Rx #[Rj cs,v])) W):bodyPost P fn R .ret a W:=by
 have ha:(asAddr (a.tmps.getD i undef)).run P W=.ok ⟨g,0,N⟩ W:=by rw[h1];simp[asAddr]
 refine au ?_ hd hR;unfold results;rw[c];simp[-Array.getD_eq_getD_getElem?,cG,ha,xC (W:=W) (g:=g) hu hi,h2]
theorem Pu [h:f_ W w0 F L][b:qd L g (Ra cs T fr)](c:fn.results= #[.cell i T, .tmp j, .tmp k])(h1:a.tmps.getD i undef=Ru (O ⟨g,0,N⟩))(h2:a.tmps.getD j undef=v)(h3:a.tmps.getD k undef=u)(hd:a.defers=[])(hu:P.underlying T=O (.struct (P.fieldsOf T)))(hi:(P.info? T).map (·.size)=O cs.size)(hR:R (Rh (Rx #[Rj cs,v,u])) W):bodyPost P fn R .ret a W:=by
 have ha:(asAddr (a.tmps.getD i undef)).run P W=.ok ⟨g,0,N⟩ W:=by rw[h1];simp[asAddr]
 refine au ?_ hd hR;unfold results;rw[c];simp[-Array.getD_eq_getD_getElem?,cG,ha,xC (W:=W) (g:=g) hu hi,h2,h3]
theorem CH{b:Nat}{o':Obj}{r:cM}[h:f_ W w0 F L](c:jI (du b) W W')(hb:W'.heap[b]? =O o')[p:AW L b o' L'](hr:r.at W')(hn:∀k,r.gY k ->W.heap.size<=k):f_ W' w0 F (r::L') :=by obtain⟨i,o,h1,h2⟩:=p.at'; exact⟨h.st.gi i _ h1 c (fe hb) (fun _ hk=>hk) hr hn h2⟩
theorem mC{b:Nat}{o':Obj}[h:f_ W w0 F L](c:W.grownBy W' (O b))(hb:W'.heap[b]? =O o')[p:AW L b o' L'] :f_ W' w0 F L':=Ky (.mL c fun _ e=>(dc e).symm) hb
class Fe(L:List cM)(b:Nat)(L0:outParam (List cM)):Prop where
 sub:L0.Sublist L
instance wO{b:Nat}{o:Obj}{L:List cM}:Fe (eH b o::L) b L:=⟨.cons _ (.refl _)⟩
instance(priority:=low)Qj{b:Nat}{r:cM}{L L0:List cM}[h:Fe L b L0]:Fe (r::L) b (r::L0):=⟨h.sub.cons_cons _⟩
instance(priority:=mid)Q8{L0 L:List cM}{r:cM}[h:zC L0 L]:zC (r::L0) (r::L):=⟨h.sub.cons_cons _⟩
theorem MS{L0:List cM}{ops:Array Oper}{Q:Exit ->Act ->ai ->Prop}{w:ai}{id:Nat}(b:Nat)[h:f_ w w0 F L][d:Fe L b L0](s:nd)(hm:P.follows .mixedOrders=true)(hB:FT ops s=true)
 (e:∀t v c a w,Q (.panic c) (a.put (O t) v) w ->Q (.panic c) a w)(hK:i_ P ops Q (fun W=>f_ W w0 F L0) s a w.drew):(Code.region id ops true).wp P Q a w:=
 bM _ s hm hB e (⟨⟨h.st.low,fun r hr=>h.st.mem r (d.sub.subset hr),h.st.apart.sublist d.sub⟩⟩:f_ w w0 F L0).OR hK
class Fh(L:List cM)(v:ar)(φ:outParam (ai ->Prop)):Prop where
 mem:∃gY,(⟨gY,φ⟩:cM)∈L
instance Ql{v:ar}{φ:ai ->Prop}{L:List cM}:Fh (⟨fun k=>v.ownBlock=O k,φ⟩::L) v φ:=⟨_,df⟩
instance(priority:=low)Qm{v:ar}{φ:ai ->Prop}{r:cM}{L:List cM}[h:Fh L v φ]:Fh (r::L) v φ:=by obtain⟨f,h⟩:=h.mem;exact⟨f,cE _ h⟩
theorem M7{v:ar}{φ:ai ->Prop}[h:f_ W w0 F L][k:Fh L v φ]:φ W:=by obtain⟨f,k⟩:=k.mem;exact(h.st.mem _ k).1.hold
end
end
section
open Go.RowKit
section
theorem lZ{ops:Array Oper}{rest:List Oper}{o:Oper}{a:Act}{w:ai}{Q:Exit ->Act ->ai ->Prop}{T E size bytes:Nat}(g:o.guard=N)(sl x:Operand)(ho:o.op=.call {callee:=.builtin .append,args:= #[sl,x],argTypes:= #[T,T]})(d:Elem ah T E size bytes)(base:Nat)(v:ar)(es:List (List ar))(e:List ar)(W:ai)(m:w=W.alloc (Ra e.toArray E))(hs:a.eval sl=v)(c:cA E size base v es W)(hx:a.eval x=Z (O ⟨W.heap.size,0,N⟩) 1 1)(he:e.length=size)(h6:∀x∈e,x.oneCell'=true)(l:(es.length+1)*bytes<=140737488355328)(hb:base<=W.heap.size)(h:∀v' w', cA E size base v' (es++[e]) w' ->w.grownBy w' v.ownBlock ->(v'.ownBlock=v.ownBlock\/v'.ownBlock=O w.heap.size) ->wpList ah ops Q rest (a.put o.dst v') w') :wpList ah ops Q (o::rest) a w:=by
 subst m;refine wpList_plain g fun K hK=> ?_;obtain⟨q,z,hi,k,hz1,hz2,hz3⟩:=d.i;have f:=d.b;have p:es.length+1<=140737488355328:=bc (jx _ f) l;have hg:(W.alloc (Ra e.toArray E)).heap[W.heap.size]? =O (Ra e.toArray E (0,0)):=dW W _
 obtain⟨v', w', hr,h2,h3,_,h4⟩:=run_append_own_at (P:=ah) (W.alloc (Ra e.toArray E)) base T o.type E q z size bytes d.u hi k hz1 hz2 hz3 d.s v es.length _ (cL c _) ⟨W.heap.size,0,N⟩ 1 1 e (by simp[he]) (fun j u n=>by
  rw[show(⟨W.heap.size,0,N⟩:Addr).add j=⟨W.heap.size,0+j,N⟩from iN ..,bC,ag hg j];simpa using n) h6 (by unfold maxLen;omega) l (by simp;omega)
 unfold Oper.wp execOp;simp only[ho,resolve,invoke,builtin,cG,gm,de,List.map_toArray,gj,List.map_nil,hs,hx,hr];refine hK _ _ (h v' w' ?_ h3 h4);unfold cA;rw[aw,jb];simpa using h2
def mV(E size base:Nat)(v:ar)(es:List (List ar)):cM:=⟨fun k=>v.ownBlock=O k,fun W=>cA E size base v es W⟩
theorem j4{E size base:Nat}{v:ar}{es:List (List ar)}{W:ai}(h:cA E size base v es W):(mV E size base v es).at W:=
 ⟨fun k hk=>(bp h k hk).2,fun W' b=>by
  refine⟨h.1, ?_⟩;rcases h.2 with hn|⟨g,cap,cur,rfl,hb,a,rest⟩;{exact .inl hn}
  · exact .inr ⟨g,cap,cur,rfl,hb,(b g A).trans a,rest⟩⟩
theorem St.app{F:Nat ->Prop}{w0 W W':ai}{L:List cM}{E size base:Nat}{v v':ar}{es:List (List ar)}{e:List ar}(h:St F w0 L W)(i:Nat)(hi:L[i]? =O (mV E size base v es))(ho:cA E size base v' (es++[e]) W')(hg:W.grownBy W' v.ownBlock)(ha:v'.ownBlock=v.ownBlock\/v'.ownBlock=O W.heap.size){L':List cM}(b:L.set i (mV E size base v' (es++[e]))=L') :St F w0 L' W':=by subst b;refine h.call i _ hi (.mL hg fun k hk=>hk) (j4 ho) fun k hk=> ?_;rcases ha with h1|h1;{exact .inl (by show v.ownBlock=O k;rw[<-h1];exact hk)};{right;have a:v'.ownBlock=O k:=hk;rw[h1]at a;cases a;exact av _}
end
def Ov{α:Type}(R:ai ->List ar ->α ->Prop)(F:Nat ->Prop)(es:List (List ar))(l:List α):cM:=⟨F,fun W=>es.length=l.length/\∀(i:Nat) (e:List ar) (x:α),es[i]? =O e ->l[i]? =O x ->R W e x⟩
theorem NX{α:Type}(R:ai ->List ar ->α ->Prop)(W:ai):(Ov R ej [] []).at W:=⟨fun _ h=>h.elim,fun _ _=>⟨rfl,fun i e x h _=>by simp at h⟩⟩
theorem LO{α:Type}{R:ai ->List ar ->α ->Prop}{F G:Nat ->Prop}{es:List (List ar)}{l:List α}{cs:List ar}{x:α}{W:ai}(h:(Ov R F es l).at W)(h2:(⟨G,fun W=>R W cs x⟩:cM).at W):(Ov R (fun k=>G k\/F k) (es++[cs]) (l++[x])).at W:=by
 refine⟨fun k hk=>hk.elim (h2.dom k) (h.dom k),fun W' b=> ?_⟩;obtain⟨d,hd⟩:=h.loc W' fun k hk=>b k (.inr hk);have a:=h2.loc W' fun k hk=>b k (.inl hk);refine⟨by simp[d],fun i e y he hy=> ?_⟩;by_cases hi:i<es.length;{rw[bS hi]at he;rw[bS (by omega)]at hy;exact hd i e y he hy}
 · rw[bZ (by omega)]at he;rw[bZ (by omega)]at hy;rw[d]at he;cases c:i -l.length with
   |zero=>rw[c]at he hy;simp at he hy;subst he;subst hy;exact a
   |succ n=>rw[c]at he;simp at he
theorem Fw{α:Type}{R:ai ->List ar ->α ->Prop}{T size base:Nat}{F:Nat ->Prop}{v:ar}{es:List (List ar)}{l:List α}{W:ai}(hR:∀W e x,R W e x ->e.length=size/\∀y∈e,y.oneCell'=true)(h:(mV T size base v es).at W)(h2:(Ov R F es l).at W):(⟨fun k=>v.ownBlock=O k\/F k,fun W=>cl size R W v l⟩:cM).at W:=by refine⟨fun k hk=>hk.elim (h.dom k) (h2.dom k),fun W' a=> ?_⟩;have ho:cA T size base v es W':=h.loc W' fun k hk=>a k (.inl hk);obtain⟨c,hd⟩:=h2.loc W' fun k hk=>a k (.inr hk);refine ho.many (fun e he=> ?_) c (fun i e x he hx=>hd i e x he hx);obtain⟨i,hi⟩:=dC he;have b:=(aA.1 hi).1;exact hR W' e _ (hd i e _ hi (an (by omega:i<l.length)))
class Dp(L:List cM)(v:ar)(E size base:outParam Nat)(es:outParam (List (List ar)))(f:outParam (cM ->List cM)):Prop where
 at':∃i,L[i]? =O (mV E size base v es)/\∀r,L.set i r=f r
instance PN{L:List cM}{v:ar}{E size base:Nat}{es:List (List ar)}:Dp (mV E size base v es::L) v E size base es (fun r=>r::L):=⟨0,rfl,fun _=>rfl⟩
instance(priority:=low)PO{L:List cM}{s:cM}{v:ar}{E size base:Nat}{es:List (List ar)}{f:cM ->List cM}[h:Dp L v E size base es f]:Dp (s::L) v E size base es (fun r=>s::f r):=by obtain⟨i,h1,h2⟩:=h.at'; exact⟨i+1,h1,fun r=>by rw[ae,h2]⟩
end
section
open Go.RowKit
structure jB(b:Nat)(w w':ai):Prop where
 os:w'.os=w.os
 tape:w'.tape=w.tape
 output:w'.output=w.output
 size:w.heap.size<=w'.heap.size
 aR:∀(D:Nat) (o:Obj),w.heap[D]? =O o ->D≠b ->(∀cs fr,o≠Ra cs 5 fr) ->w'.heap[D]? =O o
theorem jB.refl(b:Nat)(w:ai):jB b w w:=⟨rfl,rfl,rfl,av _,fun _ _ h _ _=>h⟩
theorem jB.trans{b:Nat}{x y z:ai}(h:jB b x y)(k:jB b y z):jB b x z:=⟨k.os.trans h.os,k.tape.trans h.tape,k.output.trans h.output,bc h.size k.size,fun D o a hb hn=>k.aR D o (h.aR D o a hb hn) hb hn⟩
theorem jB.below{b:Nat}{w w':ai}(h:ay w.heap.size w w') :jB b w w':=⟨h.os,h.tape,h.output,h.size,fun _ _ a _ _=>bl a h⟩
theorem jB.set{b:Nat}{w w':ai}(h:jB b w w')(j:Nat)(v:ar):jB b w (w'.setCell ⟨b,j,N⟩ v):=⟨h.os,h.tape,h.output,by simpa[World.setCell]using h.size,fun D o a hb hn=>aG (h.aR D o a hb hn) b j v hb⟩
theorem jB.app{b:Nat}{w w':ai}{base n:Nat}{v:ar}{xs:List ar}(a:w.ownsRow base 5 1 v n xs)(hg:w.grownBy w' v.ownBlock):jB b w w':=by refine⟨hg.os,hg.tape,hg.output,hg.size,fun D o d _ hn=> ?_⟩;refine(hg.block D (aV d) (fun e=> ?_)).trans d;obtain⟨c,f,hc⟩:=ia a D e.symm;rw[d]at hc;exact hn c f (dc hc)
theorem jB.cells{b:Nat}{w w':ai}(h:jB b w w'){D T:Nat}{cs:Array ar}{fr:Nat×Nat}(d:w.heap[D]? =O (Ra cs T fr))(hb:D≠b)(hT:T≠5):w'.heap[D]? =O (Ra cs T fr):=
 h.aR D _ d hb (fun a c e=>by cases e;exact hT A)
theorem jB.others{b:Nat}{w w':ai}(h:jB b w w'){cs:Array ar}{T:Nat}{fr:Nat×Nat}(hb:w.heap[b]? =O (Ra cs T fr)):KeepsOthers w w':=
 ⟨h.size,fun k o hk ho=>h.aR k o hk (fun e=>by subst e;rw[hb]at hk;cases hk;cases ho) (fun cs fr e=>by subst e;cases ho)⟩
theorem wK(B b:Nat)(bs:List ar)(w:ai)(h:Lib.IsBuilder 93 5 B b bs w):aJ ah 76 #[Ru (O ⟨b,0,N⟩)] w fun e w'=>e=Rh (Rx #[])/\(Lib.BuilderAt 93 5 B b (Ru (O ⟨b,0,N⟩)) bs w'/\ay B w w'/\jB b w w') :=by rcases h with h|h;{exact(p8 b w h.cell0 h.shape h.frozen0).mono fun e w'⟨he,hw⟩=>⟨he,by rw[hw];exact h.used _,by rw[hw];exact(ax B w).setCell (p:=⟨b,0,N⟩) h.1 _,by rw[hw];exact(jB.refl b w).set 0 _⟩};{exact(qz b w h.cell0).mono fun e w'⟨he,hw⟩=>⟨he,by rw[hw];exact h,by rw[hw];exact ax B _,by rw[hw];exact jB.refl _ _⟩}
theorem xR(B b:Nat)(l:List UInt8)(s:ByteArray)(w:ai)(h:rP B b l w)(hlen:l.length+s.size<=140737488355328)(y:B<=w.heap.size):aJ ah 40 #[Ru (O ⟨b,0,N⟩),U s] w fun e w'=>e=Rh (Rx #[I J s.size, .nilIface])/\rP B b (l++s.data.toList) w'/\ay B w w'/\jB b w w':=by
 obtain⟨z,hi,n,hz1,hz2⟩:=info_parts wX;have t:=M (wK B b _ w h);have u:=M (kS l);have x:=M (oI l s);clear h;go_in;go_wp2_with(go_at_call 76;refine t.out.mono ?_);rintro e o⟨rfl,h1,hb1,j⟩;obtain⟨hB,v,f,d,hne⟩:=h1;rw[u.out]at d;have c0:o.cell? ⟨b,0,N⟩=O (Ru (O ⟨b,0,N⟩)):=by rw[gg f];rfl
 have c1:o.cell? ⟨b,1,N⟩=O v:=by rw[gg f];rfl
 have C:=hb1.size;go_wp2_with(at_builtin;refine Lib.wpList_append_own_string _ A _ _ 58 9 A B 5 z underlying58 bQ hi n hz1 hz2 _ _ _ A d s A ?c3 ?c4 ?c5 ?_);case c3=>unfold maxLen;omega
 case c4=>omega
 case c5=>omega
 intro v' i c a _;have m:b<o.heap.size:=(bP.1 f).1;have hb2:i.heap[b]? =O (Ra #[Ru (O ⟨b,0,N⟩),v] 93 (0,0)):=by{rw[a.block b m (fun e=>hne e.symm)];exact f};have d0:i.cell? ⟨b,0,N⟩=O (Ru (O ⟨b,0,N⟩)):=by rw[gg hb2];rfl
 have d1:i.cell? ⟨b,1,N⟩=O v:=by rw[gg hb2];rfl
 have f1:i.frozen? ⟨b,1,N⟩=false:=Lib.frozen_of_heap hb2 1;obtain⟨q,r,cap,rfl⟩:∃q r cap,v'=Z q r cap:=by{rcases c.2 with⟨hv,_⟩|⟨g,cap,cur,hv,_⟩;{exact⟨_,_,_,hv⟩};{exact⟨_,_,_,hv⟩}};rw[x.out]at c;go_wp2;go_ret2;refine⟨rfl, ?_, ?_, ?_⟩;{refine .inr (Lib.BuilderAt.put (T:=93) (e:=5) hB hb2 (bs':=cQ (l++s.data.toList)) ?_ (by decide));rw[kS,aw];simpa using c};{exact(hb1.grown a (by omega) (fun k hk=>(d.lt k hk).1)).setCell (p:=⟨b,1,N⟩) hB _};{exact(j.trans (jB.app d a)).set 1 _}
theorem rP.aR{B b:Nat}{l:List UInt8}{w:ai}(h:rP B b l w):∃cs,w.heap[b]? =O (Ra cs 93 (0,0)):=by rcases h with⟨_,v,h2,_⟩|⟨_,v,h2,_⟩;{exact⟨_,h2⟩};{exact⟨_,h2⟩}
theorem rP.kept{B b:Nat}{l:List UInt8}{w w':ai}{row:Option Nat}(h:rP B b l w)(hg:w.grownBy w' row)(hr:∀r,row=O r ->∃o:Obj,w.heap[r]? =O o/\o.isCells=false):rP B b l w':=by
 have key:∀v:ar,w.ownsRow B 5 1 v (cQ l).length (cQ l) ->w'.ownsRow B 5 1 v (cQ l).length (cQ l):=fun v hv=>hv.kept hg (by
  cases hb:v.ownBlock with
  |none=>exact .inl A
  |some g=>
   refine .inr (fun e=> ?_);obtain⟨o,ho,hc⟩:=hr g e.symm;obtain⟨c,a,h3⟩:=ia hv g hb;rw[h3]at ho;cases ho;cases hc)
 have kb:∀cs:Array ar,w.heap[b]? =O (Ra cs 93 (0,0)) ->w'.heap[b]? =O (Ra cs 93 (0,0)):=fun cs h2=>(hg.block b (aV h2) (fun e=>by
  obtain⟨o,ho,hc⟩:=hr b e.symm;rw[h2]at ho;cases ho;cases hc)).trans h2
 rcases h with⟨h1,v,h2,h3,h4⟩|⟨h1,v,h2,h3,h4⟩;{exact .inl ⟨h1,v,kb _ h2,key v h3,h4⟩};{exact .inr ⟨h1,v,kb _ h2,key v h3,h4⟩}
theorem rP.set{B b:Nat}{l:List UInt8}{w:ai}(h:rP B b l w){D T j:Nat}{cs:Array ar}{fr:Nat×Nat}(a:w.heap[D]? =O (Ra cs T fr))(hb:D≠b)(hT:T≠5)(u:ar):rP B b l (w.setCell ⟨D,j,N⟩ u):=by have key:∀v:ar,w.ownsRow B 5 1 v (cQ l).length (cQ l) ->(w.setCell ⟨D,j,N⟩ u).ownsRow B 5 1 v (cQ l).length (cQ l):=fun v hv=>ownsRow_setCell_other hv (Ne.symm (sD hv a hT)) u;rcases h with⟨h1,v,h2,h3,h4⟩|⟨h1,v,h2,h3,h4⟩;{exact .inl ⟨h1,v,aG h2 D j u (Ne.symm hb),key v h3,h4⟩};{exact .inr ⟨h1,v,aG h2 D j u (Ne.symm hb),key v h3,h4⟩}
end
end Go.Proofs.YtbcbefpninlfiaaGreatDoor
