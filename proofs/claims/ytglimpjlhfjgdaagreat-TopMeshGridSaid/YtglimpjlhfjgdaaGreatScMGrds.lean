import Derived.Test.YtglimpjlhfjgdaaGreatSc11Grds
set_option linter.all false
namespace Go.Eng
open Go Go.RowKit
variable[Dr]
def iA(k:IntKind)(v:Int):AV:=.at (.int k v)
def bA(v:Bool):AV:=.at (.bool v)
def mpK{κ α:Type}(K:κ->Value)(f:α->AV)(p:κ×α):Value×AV:=(K p.1,f p.2)
def mpc{α:Type}(k:IntKind)(f:α->AV)(p:Int×α):Value×AV:=(.int k p.1,f p.2)
section
variable{κ:Type}[DecidableEq κ]{α:Type}
def getM(z:α):List (κ×α)->κ->α
 |[],_=>z
 |p::l,x=>bif x==p.1 then p.2 else getM z l x
def eL:List (κ×α)->κ->Bool
 |[],_=>false
 |p::l,x=>bif x==p.1 then true else eL l x
def AM:List (κ×α)->κ->Nat
 |[],_=>0
 |p::l,x=>bif x==p.1 then 0 else AM l x+1
def al:List (κ×α)->κ->α->List (κ×α)
 |[],x,v=>[(x,v)]
 |p::l,x,v=>bif x==p.1 then(x,v)::l else p::al l x v
def Cz(K:κ->Value):Prop:=∀x y,kEq (K x) (K y)=some (x==y)
theorem sc{K:κ->Value}(j:Cz K){f:α->AV}{z:α}{x:κ}:∀(l:List (κ×α)) (i:Nat),mc (K x) (l.map (mpK K f)) i=some (bif eL l x then some (i+AM l x,f (getM z l x))else none)
 |[],_=>rfl
 |p::l,i=>by
  simp only[List.map_cons,mpK,mc,j x p.1,eL,AM,getM];cases h:x==p.1 with
  |true=>rfl
  |false=>
   simp only[cond_false];have:=sc j (f:=f) (z:=z) (x:=x) l (i+1);rw[this];cases eL l x<;>simp only[cond_true,cond_false];rw[show i+1+AM l x=i+(AM l x+1)by omega]
theorem zh{z:α}{x:κ}:∀{l:List (κ×α)},eL l x=false->getM z l x=z
 |[],_=>rfl
 |p::l,h=>by
  simp only[eL,getM]at h ⊢;cases j:x==p.1 with
  |true=>rw[j]at h;simp at h
  |false=>rw[j]at h;exact zh h
theorem BF{K:κ->Value}{f:α->AV}{x:κ}{v:α}:∀{l:List (κ×α)},eL l x=true->(l.map (mpK K f)).set (AM l x) (K x,f v)=(al l x v).map (mpK K f)
 |[],h=>by simp[eL]at h
 |p::l,h=>by
  simp only[eL,AM,al]at h ⊢;cases j:x==p.1 with
  |true=>rfl
  |false=>rw[j]at h;simp only[cond_false,List.map_cons,List.set_cons_succ];rw[BF h]
theorem Br{K:κ->Value}{f:α->AV}{x:κ}{v:α}:∀{l:List (κ×α)},eL l x=false->l.map (mpK K f)++[(K x,f v)]=(al l x v).map (mpK K f)
 |[],_=>rfl
 |p::l,h=>by
  simp only[eL,al]at h ⊢;cases j:x==p.1 with
  |true=>rw[j]at h;simp at h
  |false=>rw[j]at h;simp only[cond_false,List.map_cons,List.cons_append];rw[Br h]
variable{P:Program}{H:List Blk}{t kt e:TypeId}{b:Nat}{K:κ->Value}{f:α->AV}{l:List (κ×α)}{x:κ}{A:AV}
theorem w8{z:α}(j:Cz K)(hu:P.underlying t=some (.map kt e))(hk:gF P kt (K x)=true)(m:vD P e=some (f z))(p:H[b]?=some (.map (l.map (mpK K f))))(q:toV A=some (K x)):
  bk.ofP (bW P H t (.mp b) A false)=some (.pure (f (getM z l x))):=by
 simp only[bW,hu,ky,p,hk,m,q,sc j (z:=z)];cases h:eL l x with
 |true=>rfl
 |false=>rw[zh h];rfl
theorem ER{z:α}(j:Cz K)(hu:P.underlying t=some (.map kt e))(hk:gF P kt (K x)=true)(m:vD P e=some (f z))(p:H[b]?=some (.map (l.map (mpK K f))))(q:toV A=some (K x)):
  bk.ofP (bW P H t (.mp b) A true)=some (.pure (.tup [f (getM z l x),.at (.bool (eL l x))])):=by
 simp only[bW,hu,ky,p,hk,m,q,sc j (z:=z)];cases h:eL l x with
 |true=>rfl
 |false=>rw[zh h];rfl
theorem wV{v:α}(j:Cz K)(hu:P.underlying t=some (.map kt e))(hk:gF P kt (K x)=true)(m:H[b]?=some (.map (l.map (mpK K f))))(p:toV A=some (K x)):
  bs P H t (.mp b) A (f v)=some (.eff .unk [(b,.map ((al l x v).map (mpK K f)))]):=by
 simp only[bs,hu,ky,m,hk,p,sc j (z:=v)];cases h:eL l x with
 |true=>simp only[cond_true,Nat.zero_add];rw[BF h]
 |false=>simp only[cond_false];rw[Br h]
end
theorem FH(k:IntKind):Cz (fun x:Int=>.int k x):=fun x y=>by
 have hk:IntKind.ta k k=true:=by cases k<;>rfl
 simp only[kEq,hk]
section
variable{P:Program}{H:List Blk}{t kt e:TypeId}{b:Nat}{k:IntKind}{α:Type}{f:α->AV}{l:List (Int×α)}{x:Int}
theorem AL{z:α}(hu:P.underlying t=some (.map kt e))(hk:gF P kt (.int k x)=true)(j:vD P e=some (f z))(m:H[b]?=some (.map (l.map (mpc k f)))):
  bk.ofP (bW P H t (.mp b) (.at (.int k x)) false)=some (.pure (f (getM z l x))):=w8 (FH k) hu hk j m rfl
theorem jh{z:α}(hu:P.underlying t=some (.map kt e))(hk:gF P kt (.int k x)=true)(j:vD P e=some (f z))(m:H[b]?=some (.map (l.map (mpc k f)))):
  bk.ofP (bW P H t (.mp b) (.at (.int k x)) true)=some (.pure (.tup [f (getM z l x),.at (.bool (eL l x))])):=ER (FH k) hu hk j m rfl
theorem iu{v:α}(hu:P.underlying t=some (.map kt e))(hk:gF P kt (.int k x)=true)(j:H[b]?=some (.map (l.map (mpc k f)))):
  bs P H t (.mp b) (.at (.int k x)) (f v)=some (.eff .unk [(b,.map ((al l x v).map (mpc k f)))]):=wV (FH k) hu hk j rfl
end
theorem y0{κ α:Type}{K:κ->Value}{f:α->AV}(j:∀a,nt (f a)=[]):∀l:List (κ×α),rh (l.map (mpK K f))=[]
 |[]=>rfl
 |p::l=>by
  simp only[List.map_cons,mpK,rh,j];exact y0 j l
theorem cy{α:Type}{k:IntKind}{f:α->AV}(j:∀a,nt (f a)=[])(l:List (Int×α)):rh (l.map (mpc k f))=[]:=y0 (K:=fun x=>.int k x) j l
theorem pKM{H:List Blk}{b:Nat}{l:List (Nat×Bool)}{κ α:Type}(K:κ->Value)(f:α->AV)(j:∀x,nt (f x)=[])(e:List (κ×α))(rest:kf H l)(m:H[b]?=some (.map (e.map (mpK K f))):=by kernel_rfl):kf H ((b,false)::l):=
 ⟨by rw[m];exact y0 j e,rest⟩
theorem pKm{H:List Blk}{b:Nat}{l:List (Nat×Bool)}{α:Type}{k:IntKind}(f:α->AV)(j:∀x,nt (f x)=[])(e:List (Int×α))(rest:kf H l)(m:H[b]?=some (.map (e.map (mpc k f))):=by kernel_rfl):kf H ((b,false)::l):=
 ⟨by rw[m];exact cy j e,rest⟩
end Go.Eng

