import Derived.Test.YtfclmnpffhbcpaaGreatSc11Plds
set_option linter.all false
namespace Go.Eng
open Go Go.RowKit
variable[Dr]
def iA(k:IntKind)(v:Int):AV:=.at (.int k v)
def bA(v:Bool):AV:=.at (.bool v)
def mpK{κ α:Type}(K:κ->Value)(f:α->AV)(p:κ×α):Value×AV:=(K p.1,f p.2)
section
variable{κ:Type}[DecidableEq κ]{α:Type}
def getM(z:α):List (κ×α)->κ->α
 |[],_=>z
 |p::l,x=>bif x==p.1 then p.2 else getM z l x
def kz:List (κ×α)->κ->Bool
 |[],_=>false
 |p::l,x=>bif x==p.1 then true else kz l x
def BB:List (κ×α)->κ->Nat
 |[],_=>0
 |p::l,x=>bif x==p.1 then 0 else BB l x+1
def ou:List (κ×α)->κ->α->List (κ×α)
 |[],x,v=>[(x,v)]
 |p::l,x,v=>bif x==p.1 then(x,v)::l else p::ou l x v
def BG(K:κ->Value):Prop:=∀x y,kEq (K x) (K y)=some (x==y)
theorem sT{K:κ->Value}(j:BG K){f:α->AV}{z:α}{x:κ}:∀(l:List (κ×α)) (i:Nat),mG (K x) (l.map (mpK K f)) i=some (bif kz l x then some (i+BB l x,f (getM z l x))else none)
 |[],_=>rfl
 |p::l,i=>by
  simp only[List.map_cons,mpK,mG,j x p.1,kz,BB,getM];cases h:x==p.1 with
  |true=>rfl
  |false=>
   simp only[cond_false];have:=sT j (f:=f) (z:=z) (x:=x) l (i+1);rw[this];cases kz l x<;>simp only[cond_true,cond_false];rw[show i+1+BB l x=i+(BB l x+1)by omega]
theorem zk{z:α}{x:κ}:∀{l:List (κ×α)},kz l x=false->getM z l x=z
 |[],_=>rfl
 |p::l,h=>by
  simp only[kz,getM]at h ⊢;cases j:x==p.1 with
  |true=>rw[j]at h;simp at h
  |false=>rw[j]at h;exact zk h
theorem Cj{K:κ->Value}{f:α->AV}{x:κ}{v:α}:∀{l:List (κ×α)},kz l x=true->(l.map (mpK K f)).set (BB l x) (K x,f v)=(ou l x v).map (mpK K f)
 |[],h=>by simp[kz]at h
 |p::l,h=>by
  simp only[kz,BB,ou]at h ⊢;cases j:x==p.1 with
  |true=>rfl
  |false=>rw[j]at h;simp only[cond_false,List.map_cons,List.set_cons_succ];rw[Cj h]
theorem Cm{K:κ->Value}{f:α->AV}{x:κ}{v:α}:∀{l:List (κ×α)},kz l x=false->l.map (mpK K f)++[(K x,f v)]=(ou l x v).map (mpK K f)
 |[],_=>rfl
 |p::l,h=>by
  simp only[kz,ou]at h ⊢;cases j:x==p.1 with
  |true=>rw[j]at h;simp at h
  |false=>rw[j]at h;simp only[cond_false,List.map_cons,List.cons_append];rw[Cm h]
variable{P:Program}{H:List Blk}{t kt e:TypeId}{b:Nat}{K:κ->Value}{f:α->AV}{l:List (κ×α)}{x:κ}{A:AV}
theorem F9{z:α}(j:BG K)(hu:P.underlying t=some (.map kt e))(hk:ko P kt (K x)=true)(q:yN P e=some (f z))(C:H[b]?=some (.map (l.map (mpK K f))))(D:toV A=some (K x)):
  ct.ofP (gF P H t (.mp b) A false)=some (.pure (f (getM z l x))):=by
 simp only[gF,hu,lL,C,hk,q,D,sT j (z:=z)];cases h:kz l x with
 |true=>rfl
 |false=>rw[zk h];rfl
theorem Cs{z:α}(j:BG K)(hu:P.underlying t=some (.map kt e))(hk:ko P kt (K x)=true)(q:yN P e=some (f z))(C:H[b]?=some (.map (l.map (mpK K f))))(D:toV A=some (K x)):
  ct.ofP (gF P H t (.mp b) A true)=some (.pure (.tup [f (getM z l x),.at (.bool (kz l x))])):=by
 simp only[gF,hu,lL,C,hk,q,D,sT j (z:=z)];cases h:kz l x with
 |true=>rfl
 |false=>rw[zk h];rfl
theorem DB{v:α}(j:BG K)(hu:P.underlying t=some (.map kt e))(hk:ko P kt (K x)=true)(q:H[b]?=some (.map (l.map (mpK K f))))(C:toV A=some (K x)):
  jz P H t (.mp b) A (f v)=some (.eff .unk [(b,.map ((ou l x v).map (mpK K f)))]):=by
 simp only[jz,hu,lL,q,hk,C,sT j (z:=v)];cases h:kz l x with
 |true=>simp only[cond_true,Nat.zero_add];rw[Cj h]
 |false=>simp only[cond_false];rw[Cm h]
end
section
variable{P:Program}{H:List Blk}{t kt e:TypeId}{b:Nat}{k:IntKind}{α:Type}{f:α->AV}{l:List (Int×α)}{x:Int}
end
theorem aw{κ α:Type}{K:κ->Value}{f:α->AV}(j:∀a,pT (f a)=[]):∀l:List (κ×α),ud (l.map (mpK K f))=[]
 |[]=>rfl
 |p::l=>by
  simp only[List.map_cons,mpK,ud,j];exact aw j l
theorem pKM{H:List Blk}{b:Nat}{l:List (Nat×Bool)}{κ α:Type}(K:κ->Value)(f:α->AV)(j:∀x,pT (f x)=[])(e:List (κ×α))(rest:mz H l)(q:H[b]?=some (.map (e.map (mpK K f))):=by kernel_rfl):mz H ((b,false)::l):=
 ⟨by rw[q];exact aw j e,rest⟩
mutual
def qL:AV->List Nat
 |.hp b _=>[b]
 |.agg cs=>rL cs
 |.tup cs=>rL cs
 |.fn _ j cs=>rL j++rL cs
 |_=>[]
def rL:List AV->List Nat
 |[]=>[]
 |c::cs=>qL c++rL cs
end
mutual
theorem Rv.hps{w:World}{mu:Nat->Prop}{π:List (Option PB)}{d:Nat}:(A:AV)->(v:Value)->Rv w mu π A v->d∈qL A->∃p,π[d]?=some (some p)
 |.hp b off,v,h,j=>by
  simp only[qL,List.mem_singleton]at j;subst j;obtain⟨p,h1,_⟩:=h;exact⟨p,h1⟩
 |.agg cs,v,h,j=>by obtain⟨vs,_,q⟩:=h;exact RvL.hps cs _ q (by simpa only[qL]using j)
 |.tup cs,v,h,j=>by obtain⟨vs,_,q⟩:=h;exact RvL.hps cs _ q (by simpa only[qL]using j)
 |.fn f z cs,v,h,j=>by
  obtain⟨a,c,_,q,C⟩:=h;simp only[qL,List.mem_append]at j;rcases j with j|j
  ·exact RvL.hps z _ q j
  ·exact RvL.hps cs _ C j
 |.unk,_,_,j=>by simp[qL]at j
 |.at _,_,_,j=>by simp[qL]at j
 |.sl _ _ _,_,_,j=>by simp[qL]at j
 |.pp _ _,_,_,j=>by simp[qL]at j
 |.hs _ _ _ _,_,_,j=>by simp[qL]at j
 |.hc _ _ _ _ _,_,_,j=>by simp[qL]at j
 |.mp _,_,_,j=>by simp[qL]at j
theorem RvL.hps{w:World}{mu:Nat->Prop}{π:List (Option PB)}{d:Nat}:(A:List AV)->(v:List Value)->RvL w mu π A v->d∈rL A->∃p,π[d]?=some (some p)
 |[],_,_,j=>by simp[rL]at j
 |c::cs,_,h,j=>by
  obtain⟨v,vs,_,h1,q⟩:=h;simp only[rL,List.mem_append]at j;rcases j with j|j
  ·exact Rv.hps c v h1 j
  ·exact RvL.hps cs vs q j
end
theorem Gb{H:List Blk}{i d:Nat}{x:Blk}(j:d<H.length)(hi:d≠i):(upd H i x)[d]?=H[d]?:=by
 unfold upd;split
 ·rw[List.getElem?_set_ne (fun e=>hi e.symm)]
 ·rw[List.getElem?_append_left j]
theorem wI{d:Nat}{x:Blk}{C:List (Nat×Blk)}:∀(z:List (Nat×Blk)) (H:List Blk),H[d]?=some x->(∀q∈z,q.1≠d)->bj H (z++(d,x)::C)=bj H (z++C)
 |[],H,h,_=>by
  have D:=(List.getElem?_eq_some_iff.1 h).1;simp only[List.nil_append,bj];congr 1;unfold upd;rw[if_pos D];apply List.ext_getElem?;intro j;rw[List.getElem?_set];split
  ·rename_i e;subst e;simp[D,h];exact((List.getElem?_eq_some_iff.1 h).2).symm
  ·rfl
 |(i,y)::z,H,h,E=>by
  have D:=(List.getElem?_eq_some_iff.1 h).1;have hi:d≠i:=fun e=>E (i,y) (by simp) e.symm
  simp only[List.cons_append,bj];exact wI z _ (by rw[Gb D hi];exact h) fun q hm=>E q (by simp[hm])
theorem cG{P:Program}{f:FuncId}{args:List AV}{H:List Blk}{v:AV}{ws:List (Nat×Blk)}{rd:List Nat}{n:Nat}(d:Nat)(x:Blk)(z C:List (Nat×Blk))(h:kN P f args H (.loc v ws rd n))
  (hw:ws=z++(d,x)::C:=by kernel_rfl) (hH:H[d]?=some x:=by kernel_rfl) (R:(rL args).contains d=true:=by kernel_rfl) (S:rd.contains d=true:=by kernel_rfl)
  (h1:(z++C).all (fun q=>!Nat.beq q.1 d)=true:=by kernel_rfl):kN P f args H (.loc v (z++C) rd n):=by
 subst hw;have T:∀q∈z++C,q.1≠d:=fun q hm e=>by
  have:=List.all_eq_true.1 h1 q hm;rw[e]at this;simp at this
 have U:=(List.getElem?_eq_some_iff.1 hH).1;intro H' hlen I out B w π vs Y hπ D;have N:H'[d]?=some x:=by rw[I d (by simpa using S) U];exact hH
 have e:bj H' (z++(d,x)::C)=bj H' (z++C):=wI z H' N fun q hm=>T q (by simp[hm])
 have:=h H' hlen I out B w π vs Y hπ D;rw[e]at this;refine this.mono ?_;rintro ex w' ⟨u,π',rfl,g1,g2,g3,g4⟩;refine⟨u,π',rfl,g1,g2,g3,fun j O=>?_⟩;by_cases J:j=d
 ·subst J;obtain⟨p,hp⟩:=RvL.hps args vs D (by simpa using R);rw[hp];exact g1.pre _ _ hp
 ·refine g4 j fun b E=>?_
  simp only[List.mem_append,List.mem_cons,Prod.mk.injEq]at E;rcases E with E|⟨E,_⟩|E
  ·exact O b (by simp[E])
  ·exact J E
  ·exact O b (by simp[E])
end Go.Eng

