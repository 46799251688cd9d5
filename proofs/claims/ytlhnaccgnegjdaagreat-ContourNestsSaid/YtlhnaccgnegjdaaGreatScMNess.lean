import Derived.Test.YtlhnaccgnegjdaaGreatSc11Ness
set_option linter.all false
namespace Go.Eng
open Go Go.RowKit
variable[Dr]
def bA(v:Bool):AV:=.at (.bool v)
def mpK{κ α:Type}(K:κ->Value)(f:α->AV)(p:κ×α):Value×AV:=(K p.1,f p.2)
section
variable{κ:Type}[DecidableEq κ]{α:Type}
def getM(z:α):List (κ×α)->κ->α
 |[],_=>z
 |p::l,x=>bif x==p.1 then p.2 else getM z l x
def dX:List (κ×α)->κ->Bool
 |[],_=>false
 |p::l,x=>bif x==p.1 then true else dX l x
def CA:List (κ×α)->κ->Nat
 |[],_=>0
 |p::l,x=>bif x==p.1 then 0 else CA l x+1
def dm:List (κ×α)->κ->α->List (κ×α)
 |[],x,v=>[(x,v)]
 |p::l,x,v=>bif x==p.1 then(x,v)::l else p::dm l x v
def Ep(K:κ->Value):Prop:=∀x y,kEq (K x) (K y)=some (x==y)
theorem sM{K:κ->Value}(j:Ep K){f:α->AV}{z:α}{x:κ}:∀(l:List (κ×α)) (i:Nat),mz (K x) (l.map (mpK K f)) i=some (bif dX l x then some (i+CA l x,f (getM z l x))else none)
 |[],_=>rfl
 |p::l,i=>by
  simp only[List.map_cons,mpK,mz,j x p.1,dX,CA,getM];cases h:x==p.1 with
  |true=>rfl
  |false=>
   simp only[cond_false];have:=sM j (f:=f) (z:=z) (x:=x) l (i+1);rw[this];cases dX l x<;>simp only[cond_true,cond_false];rw[show i+1+CA l x=i+(CA l x+1)by omega]
theorem zH{z:α}{x:κ}:∀{l:List (κ×α)},dX l x=false->getM z l x=z
 |[],_=>rfl
 |p::l,h=>by
  simp only[dX,getM]at h ⊢;cases hx:x==p.1 with
  |true=>rw[hx]at h;simp at h
  |false=>rw[hx]at h;exact zH h
theorem CI{K:κ->Value}{f:α->AV}{x:κ}{v:α}:∀{l:List (κ×α)},dX l x=true->(l.map (mpK K f)).set (CA l x) (K x,f v)=(dm l x v).map (mpK K f)
 |[],h=>by simp[dX]at h
 |p::l,h=>by
  simp only[dX,CA,dm]at h ⊢;cases hx:x==p.1 with
  |true=>rfl
  |false=>rw[hx]at h;simp only[cond_false,List.map_cons,List.set_cons_succ];rw[CI h]
theorem C5{K:κ->Value}{f:α->AV}{x:κ}{v:α}:∀{l:List (κ×α)},dX l x=false->l.map (mpK K f)++[(K x,f v)]=(dm l x v).map (mpK K f)
 |[],_=>rfl
 |p::l,h=>by
  simp only[dX,dm]at h ⊢;cases hx:x==p.1 with
  |true=>rw[hx]at h;simp at h
  |false=>rw[hx]at h;simp only[cond_false,List.map_cons,List.cons_append];rw[C5 h]
variable{P:Program}{H:List Blk}{t kt e:TypeId}{b:Nat}{K:κ->Value}{f:α->AV}{l:List (κ×α)}{x:κ}{A:AV}
theorem vQ{z:α}(j:Ep K)(hu:P.underlying t=some (.map kt e))(m:jE P kt (K x)=true)(p:y0 P e=some (f z))(hb:H[b]?=some (.map (l.map (mpK K f))))(q:toV A=some (K x)):
  bj.ofP (eh P H t (.mp b) A false)=some (.pure (f (getM z l x))):=by
 simp only[eh,hu,ks,hb,m,p,q,sM j (z:=z)];cases h:dX l x with
 |true=>rfl
 |false=>rw[zH h];rfl
theorem zF{z:α}(j:Ep K)(hu:P.underlying t=some (.map kt e))(m:jE P kt (K x)=true)(p:y0 P e=some (f z))(hb:H[b]?=some (.map (l.map (mpK K f))))(q:toV A=some (K x)):
  bj.ofP (eh P H t (.mp b) A true)=some (.pure (.tup [f (getM z l x),.at (.bool (dX l x))])):=by
 simp only[eh,hu,ks,hb,m,p,q,sM j (z:=z)];cases h:dX l x with
 |true=>rfl
 |false=>rw[zH h];rfl
theorem zi{v:α}(j:Ep K)(hu:P.underlying t=some (.map kt e))(m:jE P kt (K x)=true)(hb:H[b]?=some (.map (l.map (mpK K f))))(p:toV A=some (K x)):
  gg P H t (.mp b) A (f v)=some (.eff .unk [(b,.map ((dm l x v).map (mpK K f)))]):=by
 simp only[gg,hu,ks,hb,m,p,sM j (z:=v)];cases h:dX l x with
 |true=>simp only[cond_true,Nat.zero_add];rw[CI h]
 |false=>simp only[cond_false];rw[C5 h]
end
def gA{α:Type}(c:α->List AV)(x:α):AV:=.agg (c x)
section
variable{P:Program}{H:List Blk}{t kt e:TypeId}{b:Nat}{k:IntKind}{α:Type}{f:α->AV}{l:List (Int×α)}{x:Int}
end
theorem ec{κ α:Type}{K:κ->Value}{f:α->AV}(j:∀a,nv (f a)=[]):∀l:List (κ×α),ub (l.map (mpK K f))=[]
 |[]=>rfl
 |p::l=>by
  simp only[List.map_cons,mpK,ub,j];exact ec j l
theorem pKM{H:List Blk}{b:Nat}{l:List (Nat×Bool)}{κ α:Type}(K:κ->Value)(f:α->AV)(j:∀x,nv (f x)=[])(e:List (κ×α))(rest:kI H l)(hb:H[b]?=some (.map (e.map (mpK K f))):=by kernel_rfl):kI H ((b,false)::l):=
 ⟨by rw[hb];exact ec j e,rest⟩
mutual
def rv:AV->List Nat
 |.hp b _=>[b]
 |.agg cs=>pM cs
 |.tup cs=>pM cs
 |.fn _ j cs=>pM j++pM cs
 |_=>[]
def pM:List AV->List Nat
 |[]=>[]
 |c::cs=>rv c++pM cs
end
mutual
theorem Rv.hps{w:World}{mu:Nat->Prop}{π:List (Option PB)}{d:Nat}:(A:AV)->(v:Value)->Rv w mu π A v->d∈rv A->∃p,π[d]?=some (some p)
 |.hp b off,v,h,hd=>by
  simp only[rv,List.mem_singleton]at hd;subst hd;obtain⟨p,h1,_⟩:=h;exact⟨p,h1⟩
 |.agg cs,v,h,hd=>by obtain⟨vs,_,h2⟩:=h;exact RvL.hps cs _ h2 (by simpa only[rv]using hd)
 |.tup cs,v,h,hd=>by obtain⟨vs,_,h2⟩:=h;exact RvL.hps cs _ h2 (by simpa only[rv]using hd)
 |.fn f j cs,v,h,hd=>by
  obtain⟨a,c,_,h2,m⟩:=h;simp only[rv,List.mem_append]at hd;rcases hd with hd|hd
  ·exact RvL.hps j _ h2 hd
  ·exact RvL.hps cs _ m hd
 |.unk,_,_,hd=>by simp[rv]at hd
 |.at _,_,_,hd=>by simp[rv]at hd
 |.sl _ _ _,_,_,hd=>by simp[rv]at hd
 |.pp _ _,_,_,hd=>by simp[rv]at hd
 |.hs _ _ _ _,_,_,hd=>by simp[rv]at hd
 |.mp _,_,_,hd=>by simp[rv]at hd
theorem RvL.hps{w:World}{mu:Nat->Prop}{π:List (Option PB)}{d:Nat}:(A:List AV)->(v:List Value)->RvL w mu π A v->d∈pM A->∃p,π[d]?=some (some p)
 |[],_,_,hd=>by simp[pM]at hd
 |c::cs,_,h,hd=>by
  obtain⟨v,vs,_,h1,h2⟩:=h;simp only[pM,List.mem_append]at hd;rcases hd with hd|hd
  ·exact Rv.hps c v h1 hd
  ·exact RvL.hps cs vs h2 hd
end
theorem Hz{H:List Blk}{i d:Nat}{x:Blk}(hd:d<H.length)(j:d≠i):(upd H i x)[d]?=H[d]?:=by
 unfold upd;split
 ·rw[List.getElem?_set_ne (fun e=>j e.symm)]
 ·rw[List.getElem?_append_left hd]
theorem wE{d:Nat}{x:Blk}{p:List (Nat×Blk)}:∀(m:List (Nat×Blk)) (H:List Blk),H[d]?=some x->(∀q∈m,q.1≠d)->aQ H (m++(d,x)::p)=aQ H (m++p)
 |[],H,h,_=>by
  have z:=(List.getElem?_eq_some_iff.1 h).1;simp only[List.nil_append,aQ];congr 1;unfold upd;rw[if_pos z];apply List.ext_getElem?;intro j;rw[List.getElem?_set];split
  ·rename_i e;subst e;simp[z,h];exact((List.getElem?_eq_some_iff.1 h).2).symm
  ·rfl
 |(i,y)::m,H,h,C=>by
  have z:=(List.getElem?_eq_some_iff.1 h).1;have D:d≠i:=fun e=>C (i,y) (by simp) e.symm
  simp only[List.cons_append,aQ];exact wE m _ (by rw[Hz z D];exact h) fun q hm=>C q (by simp[hm])
theorem fG{P:Program}{f:FuncId}{args:List AV}{H:List Blk}{v:AV}{ws:List (Nat×Blk)}{rd:List Nat}{n:Nat}(d:Nat)(x:Blk)(m z:List (Nat×Blk))(h:iK P f args H (.loc v ws rd n))
  (hw:ws=m++(d,x)::z:=by kernel_rfl) (J:H[d]?=some x:=by kernel_rfl) (ha:(pM args).contains d=true:=by kernel_rfl) (N:rd.contains d=true:=by kernel_rfl)
  (h1:(m++z).all (fun q=>!Nat.beq q.1 d)=true:=by kernel_rfl):iK P f args H (.loc v (m++z) rd n):=by
 subst hw;have O:∀q∈m++z,q.1≠d:=fun q hm e=>by
  have:=List.all_eq_true.1 h1 q hm;rw[e]at this;simp at this
 have T:=(List.getElem?_eq_some_iff.1 J).1;intro H' hlen D out B w π vs U hπ C;have I:H'[d]?=some x:=by rw[D d (by simpa using N) T];exact J
 have e:aQ H' (m++(d,x)::z)=aQ H' (m++z):=wE m H' I fun q hm=>O q (by simp[hm])
 have:=h H' hlen D out B w π vs U hπ C;rw[e]at this;refine this.mono ?_;rintro ex w' ⟨u,π',rfl,g1,Y,g3,g4⟩;refine⟨u,π',rfl,g1,Y,g3,fun j M=>?_⟩;by_cases E:j=d
 ·subst E;obtain⟨p,hp⟩:=RvL.hps args vs C (by simpa using ha);rw[hp];exact g1.pre _ _ hp
 ·refine g4 j fun b hb=>?_
  simp only[List.mem_append,List.mem_cons,Prod.mk.injEq]at hb;rcases hb with hb|⟨hb,_⟩|hb
  ·exact M b (by simp[hb])
  ·exact E hb
  ·exact M b (by simp[hb])
end Go.Eng

