import Derived.Test.YtfhhaadcodofnaaGreatSc11Chks
set_option linter.all false
namespace Go.Eng
open Go Go.RowKit
variable[Dr]
def bA(v:Bool):AV:=.at (.bool v)
def mpK{κ α:Type}(K:κ->Value)(f:α->AV)(p:κ×α):Value×AV:=(K p.1,f p.2)
section
variable{κ:Type}[DecidableEq κ]{α:Type}
def getM(z:α):List (κ×α)->κ->α
 |[],_=>z
 |p::l,x=>bif x==p.1 then p.2 else getM z l x
def de:List (κ×α)->κ->Bool
 |[],_=>false
 |p::l,x=>bif x==p.1 then true else de l x
def Ck:List (κ×α)->κ->Nat
 |[],_=>0
 |p::l,x=>bif x==p.1 then 0 else Ck l x+1
def dL:List (κ×α)->κ->α->List (κ×α)
 |[],x,v=>[(x,v)]
 |p::l,x,v=>bif x==p.1 then(x,v)::l else p::dL l x v
def Fu(K:κ->Value):Prop:=∀x y,kEq (K x) (K y)=some (x==y)
theorem ti{K:κ->Value}(j:Fu K){f:α->AV}{z:α}{x:κ}:∀(l:List (κ×α)) (i:Nat),mf (K x) (l.map (mpK K f)) i=some (bif de l x then some (i+Ck l x,f (getM z l x))else none)
 |[],_=>rfl
 |p::l,i=>by
  simp only[List.map_cons,mpK,mf,j x p.1,de,Ck,getM];cases h:x==p.1 with
  |true=>rfl
  |false=>
   simp only[cond_false];have:=ti j (f:=f) (z:=z) (x:=x) l (i+1);rw[this];cases de l x<;>simp only[cond_true,cond_false];rw[show i+1+Ck l x=i+(Ck l x+1)by omega]
theorem Ar{z:α}{x:κ}:∀{l:List (κ×α)},de l x=false->getM z l x=z
 |[],_=>rfl
 |p::l,h=>by
  simp only[de,getM]at h ⊢;cases hx:x==p.1 with
  |true=>rw[hx]at h;simp at h
  |false=>rw[hx]at h;exact Ar h
theorem Dt{K:κ->Value}{f:α->AV}{x:κ}{v:α}:∀{l:List (κ×α)},de l x=true->(l.map (mpK K f)).set (Ck l x) (K x,f v)=(dL l x v).map (mpK K f)
 |[],h=>by simp[de]at h
 |p::l,h=>by
  simp only[de,Ck,dL]at h ⊢;cases hx:x==p.1 with
  |true=>rfl
  |false=>rw[hx]at h;simp only[cond_false,List.map_cons,List.set_cons_succ];rw[Dt h]
theorem DS{K:κ->Value}{f:α->AV}{x:κ}{v:α}:∀{l:List (κ×α)},de l x=false->l.map (mpK K f)++[(K x,f v)]=(dL l x v).map (mpK K f)
 |[],_=>rfl
 |p::l,h=>by
  simp only[de,dL]at h ⊢;cases hx:x==p.1 with
  |true=>rw[hx]at h;simp at h
  |false=>rw[hx]at h;simp only[cond_false,List.map_cons,List.cons_append];rw[DS h]
variable{P:Program}{H:List Blk}{t kt e:TypeId}{b:Nat}{K:κ->Value}{f:α->AV}{l:List (κ×α)}{x:κ}{A:AV}
theorem vX{z:α}(j:Fu K)(hu:P.underlying t=some (.map kt e))(hk:jX P kt (K x)=true)(m:zu P e=some (f z))(hb:H[b]?=some (.map (l.map (mpK K f))))(q:toV A=some (K x)):
  bU.ofP (eK P H t (.mp b) A false)=some (.pure (f (getM z l x))):=by
 simp only[eK,hu,lq,hb,hk,m,q,ti j (z:=z)];cases h:de l x with
 |true=>rfl
 |false=>rw[Ar h];rfl
theorem Ap{z:α}(j:Fu K)(hu:P.underlying t=some (.map kt e))(hk:jX P kt (K x)=true)(m:zu P e=some (f z))(hb:H[b]?=some (.map (l.map (mpK K f))))(q:toV A=some (K x)):
  bU.ofP (eK P H t (.mp b) A true)=some (.pure (.tup [f (getM z l x),.at (.bool (de l x))])):=by
 simp only[eK,hu,lq,hb,hk,m,q,ti j (z:=z)];cases h:de l x with
 |true=>rfl
 |false=>rw[Ar h];rfl
theorem zO{v:α}(j:Fu K)(hu:P.underlying t=some (.map kt e))(hk:jX P kt (K x)=true)(hb:H[b]?=some (.map (l.map (mpK K f))))(m:toV A=some (K x)):
  gW P H t (.mp b) A (f v)=some (.eff .unk [(b,.map ((dL l x v).map (mpK K f)))]):=by
 simp only[gW,hu,lq,hb,hk,m,ti j (z:=v)];cases h:de l x with
 |true=>simp only[cond_true,Nat.zero_add];rw[Dt h]
 |false=>simp only[cond_false];rw[DS h]
end
def gA{α:Type}(c:α->List AV)(x:α):AV:=.agg (c x)
section
variable{P:Program}{H:List Blk}{t kt e:TypeId}{b:Nat}{k:IntKind}{α:Type}{f:α->AV}{l:List (Int×α)}{x:Int}
end
theorem eQ{κ α:Type}{K:κ->Value}{f:α->AV}(j:∀a,nI (f a)=[]):∀l:List (κ×α),uE (l.map (mpK K f))=[]
 |[]=>rfl
 |p::l=>by
  simp only[List.map_cons,mpK,uE,j];exact eQ j l
theorem pKM{H:List Blk}{b:Nat}{l:List (Nat×Bool)}{κ α:Type}(K:κ->Value)(f:α->AV)(j:∀x,nI (f x)=[])(e:List (κ×α))(rest:mh H l)(hb:H[b]?=some (.map (e.map (mpK K f))):=by kernel_rfl):mh H ((b,false)::l):=
 ⟨by rw[hb];exact eQ j e,rest⟩
mutual
def rJ:AV->List Nat
 |.hp b _=>[b]
 |.agg cs=>pP cs
 |.tup cs=>pP cs
 |.fn _ j cs=>pP j++pP cs
 |_=>[]
def pP:List AV->List Nat
 |[]=>[]
 |c::cs=>rJ c++pP cs
end
mutual
theorem Rv.hps{w:World}{mu:Nat->Prop}{π:List (Option PB)}{d:Nat}:(A:AV)->(v:Value)->Rv w mu π A v->d∈rJ A->∃p,π[d]?=some (some p)
 |.hp b off,v,h,hd=>by
  simp only[rJ,List.mem_singleton]at hd;subst hd;obtain⟨p,h1,_⟩:=h;exact⟨p,h1⟩
 |.agg cs,v,h,hd=>by obtain⟨vs,_,h2⟩:=h;exact RvL.hps cs _ h2 (by simpa only[rJ]using hd)
 |.tup cs,v,h,hd=>by obtain⟨vs,_,h2⟩:=h;exact RvL.hps cs _ h2 (by simpa only[rJ]using hd)
 |.fn f j cs,v,h,hd=>by
  obtain⟨a,c,_,h2,m⟩:=h;simp only[rJ,List.mem_append]at hd;rcases hd with hd|hd
  ·exact RvL.hps j _ h2 hd
  ·exact RvL.hps cs _ m hd
 |.unk,_,_,hd=>by simp[rJ]at hd
 |.at _,_,_,hd=>by simp[rJ]at hd
 |.sl _ _ _,_,_,hd=>by simp[rJ]at hd
 |.pp _ _,_,_,hd=>by simp[rJ]at hd
 |.hs _ _ _ _,_,_,hd=>by simp[rJ]at hd
 |.mp _,_,_,hd=>by simp[rJ]at hd
theorem RvL.hps{w:World}{mu:Nat->Prop}{π:List (Option PB)}{d:Nat}:(A:List AV)->(v:List Value)->RvL w mu π A v->d∈pP A->∃p,π[d]?=some (some p)
 |[],_,_,hd=>by simp[pP]at hd
 |c::cs,_,h,hd=>by
  obtain⟨v,vs,_,h1,h2⟩:=h;simp only[pP,List.mem_append]at hd;rcases hd with hd|hd
  ·exact Rv.hps c v h1 hd
  ·exact RvL.hps cs vs h2 hd
end
theorem Iw{H:List Blk}{i d:Nat}{x:Blk}(hd:d<H.length)(j:d≠i):(upd H i x)[d]?=H[d]?:=by
 unfold upd;split
 ·rw[List.getElem?_set_ne (fun e=>j e.symm)]
 ·rw[List.getElem?_append_left hd]
theorem xb{d:Nat}{x:Blk}{z:List (Nat×Blk)}:∀(m:List (Nat×Blk)) (H:List Blk),H[d]?=some x->(∀q∈m,q.1≠d)->aR H (m++(d,x)::z)=aR H (m++z)
 |[],H,h,_=>by
  have C:=(List.getElem?_eq_some_iff.1 h).1;simp only[List.nil_append,aR];congr 1;unfold upd;rw[if_pos C];apply List.ext_getElem?;intro j;rw[List.getElem?_set];split
  ·rename_i e;subst e;simp[C,h];exact((List.getElem?_eq_some_iff.1 h).2).symm
  ·rfl
 |(i,y)::m,H,h,D=>by
  have C:=(List.getElem?_eq_some_iff.1 h).1;have E:d≠i:=fun e=>D (i,y) (by simp) e.symm
  simp only[List.cons_append,aR];exact xb m _ (by rw[Iw C E];exact h) fun q hm=>D q (by simp[hm])
theorem gw{P:Program}{f:FuncId}{args:List AV}{H:List Blk}{v:AV}{ws:List (Nat×Blk)}{rd:List Nat}{n:Nat}(d:Nat)(x:Blk)(m z:List (Nat×Blk))(h:jh P f args H (.loc v ws rd n))
  (hw:ws=m++(d,x)::z:=by kernel_rfl) (hH:H[d]?=some x:=by kernel_rfl) (ha:(pP args).contains d=true:=by kernel_rfl) (N:rd.contains d=true:=by kernel_rfl)
  (h1:(m++z).all (fun q=>!Nat.beq q.1 d)=true:=by kernel_rfl):jh P f args H (.loc v (m++z) rd n):=by
 subst hw;have O:∀q∈m++z,q.1≠d:=fun q hm e=>by
  have:=List.all_eq_true.1 h1 q hm;rw[e]at this;simp at this
 have T:=(List.getElem?_eq_some_iff.1 hH).1;intro H' hlen D out B w π vs U hπ C;have I:H'[d]?=some x:=by rw[D d (by simpa using N) T];exact hH
 have e:aR H' (m++(d,x)::z)=aR H' (m++z):=xb m H' I fun q hm=>O q (by simp[hm])
 have:=h H' hlen D out B w π vs U hπ C;rw[e]at this;refine this.mono ?_;rintro ex w' ⟨u,π',rfl,g1,g2,g3,g4⟩;refine⟨u,π',rfl,g1,g2,g3,fun j J=>?_⟩;by_cases E:j=d
 ·subst E;obtain⟨p,hp⟩:=RvL.hps args vs C (by simpa using ha);rw[hp];exact g1.pre _ _ hp
 ·refine g4 j fun b hb=>?_
  simp only[List.mem_append,List.mem_cons,Prod.mk.injEq]at hb;rcases hb with hb|⟨hb,_⟩|hb
  ·exact J b (by simp[hb])
  ·exact E hb
  ·exact J b (by simp[hb])
end Go.Eng

