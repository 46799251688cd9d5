import Derived.Test.YtglimpjlhfjgdaaGreatSc11Slds
set_option linter.all false
namespace Go.Eng
open Go Go.RowKit
variable[Dr]
def iA(k:IntKind)(v:Int):AV:=.at (.int k v)
def bA(v:Bool):AV:=.at (.bool v)
def mpK{κ α:Type}(K:κ->Value)(f:α->AV)(p:κ×α):Value×AV:=(K p.1,f p.2)
def mpc{α:Type}(k:IntKind)(f:α->AV)(p:Int×α):Value×AV:=(.int k p.1,f p.2)
section
variable{κ:Type}[DecidableEq κ]{α:Type}
def getM(z:α):List (κ×α)->κ->α
 |[],_=>z
 |p::l,x=>bif x==p.1 then p.2 else getM z l x
def cG:List (κ×α)->κ->Bool
 |[],_=>false
 |p::l,x=>bif x==p.1 then true else cG l x
def Bz:List (κ×α)->κ->Nat
 |[],_=>0
 |p::l,x=>bif x==p.1 then 0 else Bz l x+1
def aW:List (κ×α)->κ->α->List (κ×α)
 |[],x,v=>[(x,v)]
 |p::l,x,v=>bif x==p.1 then(x,v)::l else p::aW l x v
def Em(K:κ->Value):Prop:=∀x y,kEq (K x) (K y)=some (x==y)
theorem qF{K:κ->Value}(j:Em K){f:α->AV}{z:α}{x:κ}:∀(l:List (κ×α)) (i:Nat),ka (K x) (l.map (mpK K f)) i=some (bif cG l x then some (i+Bz l x,f (getM z l x))else none)
 |[],_=>rfl
 |p::l,i=>by
  simp only[List.map_cons,mpK,ka,j x p.1,cG,Bz,getM];cases h:x==p.1 with
  |true=>rfl
  |false=>
   simp only[cond_false];have:=qF j (f:=f) (z:=z) (x:=x) l (i+1);rw[this];cases cG l x<;>simp only[cond_true,cond_false];rw[show i+1+Bz l x=i+(Bz l x+1)by omega]
theorem zV{z:α}{x:κ}:∀{l:List (κ×α)},cG l x=false->getM z l x=z
 |[],_=>rfl
 |p::l,h=>by
  simp only[cG,getM]at h ⊢;cases j:x==p.1 with
  |true=>rw[j]at h;simp at h
  |false=>rw[j]at h;exact zV h
theorem CN{K:κ->Value}{f:α->AV}{x:κ}{v:α}:∀{l:List (κ×α)},cG l x=true->(l.map (mpK K f)).set (Bz l x) (K x,f v)=(aW l x v).map (mpK K f)
 |[],h=>by simp[cG]at h
 |p::l,h=>by
  simp only[cG,Bz,aW]at h ⊢;cases j:x==p.1 with
  |true=>rfl
  |false=>rw[j]at h;simp only[cond_false,List.map_cons,List.set_cons_succ];rw[CN h]
theorem Dj{K:κ->Value}{f:α->AV}{x:κ}{v:α}:∀{l:List (κ×α)},cG l x=false->l.map (mpK K f)++[(K x,f v)]=(aW l x v).map (mpK K f)
 |[],_=>rfl
 |p::l,h=>by
  simp only[cG,aW]at h ⊢;cases j:x==p.1 with
  |true=>rw[j]at h;simp at h
  |false=>rw[j]at h;simp only[cond_false,List.map_cons,List.cons_append];rw[Dj h]
variable{P:Program}{H:List Blk}{t kt e:TypeId}{b:Nat}{K:κ->Value}{f:α->AV}{l:List (κ×α)}{x:κ}{A:AV}
theorem sg{z:α}(j:Em K)(hu:P.underlying t=some (.map kt e))(hk:fZ P kt (K x)=true)(m:xl P e=some (f z))(p:H[b]?=some (.map (l.map (mpK K f))))(q:toV A=some (K x)):
  bj.ofP (cI P H t (.mp b) A false)=some (.pure (f (getM z l x))):=by
 simp only[cI,hu,jl,p,hk,m,q,qF j (z:=z)];cases h:cG l x with
 |true=>rfl
 |false=>rw[zV h];rfl
theorem DN{z:α}(j:Em K)(hu:P.underlying t=some (.map kt e))(hk:fZ P kt (K x)=true)(m:xl P e=some (f z))(p:H[b]?=some (.map (l.map (mpK K f))))(q:toV A=some (K x)):
  bj.ofP (cI P H t (.mp b) A true)=some (.pure (.tup [f (getM z l x),.at (.bool (cG l x))])):=by
 simp only[cI,hu,jl,p,hk,m,q,qF j (z:=z)];cases h:cG l x with
 |true=>rfl
 |false=>rw[zV h];rfl
theorem rJ{v:α}(j:Em K)(hu:P.underlying t=some (.map kt e))(hk:fZ P kt (K x)=true)(m:H[b]?=some (.map (l.map (mpK K f))))(p:toV A=some (K x)):
  cn P H t (.mp b) A (f v)=some (.eff .unk [(b,.map ((aW l x v).map (mpK K f)))]):=by
 simp only[cn,hu,jl,m,hk,p,qF j (z:=v)];cases h:cG l x with
 |true=>simp only[cond_true,Nat.zero_add];rw[CN h]
 |false=>simp only[cond_false];rw[Dj h]
end
def gA{α:Type}(c:α->List AV)(x:α):AV:=.agg (c x)
theorem K1(k:IntKind):Em (fun x:Int=>.int k x):=fun x y=>by
 have hk:IntKind.rk k k=true:=by cases k<;>rfl
 simp only[kEq,hk]
section
variable{P:Program}{H:List Blk}{t kt e:TypeId}{b:Nat}{k:IntKind}{α:Type}{f:α->AV}{l:List (Int×α)}{x:Int}
theorem vM{z:α}(hu:P.underlying t=some (.map kt e))(hk:fZ P kt (.int k x)=true)(j:xl P e=some (f z))(m:H[b]?=some (.map (l.map (mpc k f)))):
  bj.ofP (cI P H t (.mp b) (.at (.int k x)) true)=some (.pure (.tup [f (getM z l x),.at (.bool (cG l x))])):=DN (K1 k) hu hk j m rfl
theorem vi{v:α}(hu:P.underlying t=some (.map kt e))(hk:fZ P kt (.int k x)=true)(j:H[b]?=some (.map (l.map (mpc k f)))):
  cn P H t (.mp b) (.at (.int k x)) (f v)=some (.eff .unk [(b,.map ((aW l x v).map (mpc k f)))]):=rJ (K1 k) hu hk j rfl
end
theorem fm{κ α:Type}{K:κ->Value}{f:α->AV}(j:∀a,kb (f a)=[]):∀l:List (κ×α),qq (l.map (mpK K f))=[]
 |[]=>rfl
 |p::l=>by
  simp only[List.map_cons,mpK,qq,j];exact fm j l
theorem gi{α:Type}{k:IntKind}{f:α->AV}(j:∀a,kb (f a)=[])(l:List (Int×α)):qq (l.map (mpc k f))=[]:=fm (K:=fun x=>.int k x) j l
theorem pKM{H:List Blk}{b:Nat}{l:List (Nat×Bool)}{κ α:Type}(K:κ->Value)(f:α->AV)(j:∀x,kb (f x)=[])(e:List (κ×α))(rest:ik H l)(m:H[b]?=some (.map (e.map (mpK K f))):=by kernel_rfl):ik H ((b,false)::l):=
 ⟨by rw[m];exact fm j e,rest⟩
theorem pKm{H:List Blk}{b:Nat}{l:List (Nat×Bool)}{α:Type}{k:IntKind}(f:α->AV)(j:∀x,kb (f x)=[])(e:List (Int×α))(rest:ik H l)(m:H[b]?=some (.map (e.map (mpc k f))):=by kernel_rfl):ik H ((b,false)::l):=
 ⟨by rw[m];exact gi j e,rest⟩
mutual
def oE:AV->List Nat
 |.hp b _=>[b]
 |.agg cs=>nv cs
 |.tup cs=>nv cs
 |.fn _ j cs=>nv j++nv cs
 |_=>[]
def nv:List AV->List Nat
 |[]=>[]
 |c::cs=>oE c++nv cs
end
mutual
theorem Rv.hps{w:World}{mu:Nat->Prop}{π:List (Option PB)}{d:Nat}:(A:AV)->(v:Value)->Rv w mu π A v->d∈oE A->∃p,π[d]?=some (some p)
 |.hp b off,v,h,j=>by
  simp only[oE,List.mem_singleton]at j;subst j;obtain⟨p,h1,_⟩:=h;exact⟨p,h1⟩
 |.agg cs,v,h,j=>by obtain⟨vs,_,h2⟩:=h;exact RvL.hps cs _ h2 (by simpa only[oE]using j)
 |.tup cs,v,h,j=>by obtain⟨vs,_,h2⟩:=h;exact RvL.hps cs _ h2 (by simpa only[oE]using j)
 |.fn f m cs,v,h,j=>by
  obtain⟨a,c,_,h2,q⟩:=h;simp only[oE,List.mem_append]at j;rcases j with j|j
  ·exact RvL.hps m _ h2 j
  ·exact RvL.hps cs _ q j
 |.unk,_,_,j=>by simp[oE]at j
 |.at _,_,_,j=>by simp[oE]at j
 |.sl _ _ _,_,_,j=>by simp[oE]at j
 |.pp _ _,_,_,j=>by simp[oE]at j
 |.hs _ _ _ _,_,_,j=>by simp[oE]at j
 |.hc _ _ _ _ _,_,_,j=>by simp[oE]at j
 |.mp _,_,_,j=>by simp[oE]at j
theorem RvL.hps{w:World}{mu:Nat->Prop}{π:List (Option PB)}{d:Nat}:(A:List AV)->(v:List Value)->RvL w mu π A v->d∈nv A->∃p,π[d]?=some (some p)
 |[],_,_,j=>by simp[nv]at j
 |c::cs,_,h,j=>by
  obtain⟨v,vs,_,h1,h2⟩:=h;simp only[nv,List.mem_append]at j;rcases j with j|j
  ·exact Rv.hps c v h1 j
  ·exact RvL.hps cs vs h2 j
end
theorem ID{H:List Blk}{i d:Nat}{x:Blk}(j:d<H.length)(hi:d≠i):(upd H i x)[d]?=H[d]?:=by
 unfold upd;split
 ·rw[List.getElem?_set_ne (fun e=>hi e.symm)]
 ·rw[List.getElem?_append_left j]
theorem vf{d:Nat}{x:Blk}{p:List (Nat×Blk)}:∀(m:List (Nat×Blk)) (H:List Blk),H[d]?=some x->(∀q∈m,q.1≠d)->aN H (m++(d,x)::p)=aN H (m++p)
 |[],H,h,_=>by
  have z:=(List.getElem?_eq_some_iff.1 h).1;simp only[List.nil_append,aN];congr 1;unfold upd;rw[if_pos z];apply List.ext_getElem?;intro j;rw[List.getElem?_set];split
  ·rename_i e;subst e;simp[z,h];exact((List.getElem?_eq_some_iff.1 h).2).symm
  ·rfl
 |(i,y)::m,H,h,C=>by
  have z:=(List.getElem?_eq_some_iff.1 h).1;have hi:d≠i:=fun e=>C (i,y) (by simp) e.symm
  simp only[List.cons_append,aN];exact vf m _ (by rw[ID z hi];exact h) fun q hm=>C q (by simp[hm])
theorem iT{P:Program}{f:FuncId}{args:List AV}{H:List Blk}{v:AV}{ws:List (Nat×Blk)}{rd:List Nat}{n:Nat}(d:Nat)(x:Blk)(m z:List (Nat×Blk))(h:gz P f args H (.loc v ws rd n))
  (hw:ws=m++(d,x)::z:=by kernel_rfl) (hH:H[d]?=some x:=by kernel_rfl) (N:(nv args).contains d=true:=by kernel_rfl) (O:rd.contains d=true:=by kernel_rfl)
  (h1:(m++z).all (fun q=>!Nat.beq q.1 d)=true:=by kernel_rfl):gz P f args H (.loc v (m++z) rd n):=by
 subst hw;have T:∀q∈m++z,q.1≠d:=fun q hm e=>by
  have:=List.all_eq_true.1 h1 q hm;rw[e]at this;simp at this
 have U:=(List.getElem?_eq_some_iff.1 hH).1;intro H' hlen E out B w π vs Y hπ C;have J:H'[d]?=some x:=by rw[E d (by simpa using O) U];exact hH
 have e:aN H' (m++(d,x)::z)=aN H' (m++z):=vf m H' J fun q hm=>T q (by simp[hm])
 have:=h H' hlen E out B w π vs Y hπ C;rw[e]at this;refine this.mono ?_;rintro ex w' ⟨u,π',rfl,g1,g2,g3,g4⟩;refine⟨u,π',rfl,g1,g2,g3,fun j M=>?_⟩;by_cases I:j=d
 ·subst I;obtain⟨p,hp⟩:=RvL.hps args vs C (by simpa using N);rw[hp];exact g1.pre _ _ hp
 ·refine g4 j fun b D=>?_
  simp only[List.mem_append,List.mem_cons,Prod.mk.injEq]at D;rcases D with D|⟨D,_⟩|D
  ·exact M b (by simp[D])
  ·exact I D
  ·exact M b (by simp[D])
end Go.Eng

