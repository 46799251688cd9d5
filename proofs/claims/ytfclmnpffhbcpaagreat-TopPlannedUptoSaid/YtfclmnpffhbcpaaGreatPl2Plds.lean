import Derived.Test.YtfclmnpffhbcpaaGreatSc6Plds
set_option linter.unusedVariables false
namespace Go.L
open Go Go.Eng
def Ok{α:Type}(x:Option α)(Q:α->Prop):Prop:=∃a,x=some a/\Q a
section
variable{α β:Type}{Q Q':α->Prop}
theorem Ok.mono{x:Option α}(h:Ok x Q)(k:∀a,Q a->Q' a):Ok x Q':=by obtain⟨a,h1,j⟩:=h;exact⟨a,h1,k a j⟩
theorem aC{a:α}:Ok (some a) Q↔Q a:=⟨fun⟨b,h,j⟩=>(by cases h;exact j),fun h=>⟨a,rfl,h⟩⟩
theorem G1{b:Bool}{t:Option α}:Ok (gdO b t) Q↔b=true/\Ok t Q:=by
 cases b
 ·exact⟨fun⟨a,h,_⟩=>(by cases h),fun h=>(by cases h.1)⟩
 ·exact⟨fun h=>⟨rfl,h⟩,fun h=>h.2⟩
theorem GG{b:Bool}{t e:Option α}:Ok (cdO b t e) Q↔(b=true->Ok t Q)/\(b=false->Ok e Q):=by
 cases b
 ·exact⟨fun h=>⟨(fun e=>by cases e),fun _=>h⟩,fun h=>h.2 rfl⟩
 ·exact⟨fun h=>⟨fun _=>h,(fun e=>by cases e)⟩,fun h=>h.1 rfl⟩
theorem G6{x:Option β}{f:β->Option α}:Ok (bdO x f) Q↔Ok x (fun b=>Ok (f b) Q):=by
 cases x
 ·exact⟨fun⟨a,h,_⟩=>(by cases h),fun⟨a,h,_⟩=>(by cases h)⟩
 ·exact⟨fun h=>⟨_,rfl,h⟩,fun⟨a,h,j⟩=>(by cases h;exact j)⟩
theorem Ok.bd{x:Option β}{f:β->Option α}{R:β->Prop}(h:Ok x R)(k:∀b,R b->Ok (f b) Q):Ok (bdO x f) Q:=G6.2 (h.mono k)
theorem Ok.bde{x:Option β}{f:β->Option α}{b:β}(h:x=some b)(k:Ok (f b) Q):Ok (bdO x f) Q:=by subst h;exact k
theorem Ok.gd{b:Bool}{t:Option α}(h:b=true)(k:Ok t Q):Ok (gdO b t) Q:=G1.2 ⟨h,k⟩
theorem Ok.cd{b:Bool}{t e:Option α}(h:b=true->Ok t Q)(k:b=false->Ok e Q):Ok (cdO b t e) Q:=GG.2 ⟨h,k⟩
theorem Ok.eq{x:Option α}{a:α}(h:Ok x (·=a)):x=some a:=by obtain⟨b,h1,rfl⟩:=h;exact h1
theorem Ok.get{x:Option α}(h:Ok x Q){a:α}(j:x=some a):Q a:=by obtain⟨b,h1,q⟩:=h;rw[j]at h1;cases h1;exact q
theorem ee{f:(β->Option α)->β->Option α}(I:β->Prop)(μ:β->Nat)(step:∀again a,I a->(∀a',I a'->μ a'<μ a->Ok (again a') Q)->Ok (f again a) Q):∀(n:Nat) (a:β),I a->μ a<n->Ok (aV n f a) Q
 |0,a,_,h=>by omega
 |n+1,a,q,h=>step (aV n f) a q fun a' j hμ=>ee I μ step n a' j (by omega)
theorem wrap64_in{n:Int}(h:-9223372036854775808<=n)(j:n<=9223372036854775807):Hy n=n:=by
 (try unfold Hy);unfold af xX;have:(decide (-9223372036854775808<=n)&&decide (n<=9223372036854775807))=true:=by simp;omega
 simp only[this]
theorem aO{n:Int}(h:0<=n)(j:n<=18446744073709551615):af .u64 n=n:=by
 (try unfold Hy);unfold af xX;have:(decide (0<=n)&&decide (n<=18446744073709551615))=true:=by simp;omega
 simp only[this]
theorem bU{n:Int}(h:0<=n)(j:n<=4294967295):af .u32 n=n:=by
 (try unfold Hy);unfold af xX;have:(decide (0<=n)&&decide (n<=4294967295))=true:=by simp;omega
 simp only[this]
theorem bm{k len:Nat}:inR (k:Int) len=decide (k<len):=by
 unfold inR;have h1:decide ((0:Int)<=(k:Int))=true:=by simp
 rw[h1,Bool.true_and];by_cases h:k<len<;>simp[h]
theorem dQ{γ:Type}[Inhabited γ]{l:List γ}{k:Nat}:gt l (k:Int)=l.getD k default:=by unfold gt;simp
theorem iH{i:Int}{n:Nat}:inR i n=true↔0<=i/\i<n:=by simp[inR]
theorem nJ{a b:Int}{n:Nat}:inS a b n=true↔(0<=a/\a<=b)/\b<=n:=by simp[inS]
theorem lS{f:(Int->Option α)->Int->Option α}{n len:Nat}(P:Nat->Prop)(D:len<n)(J:len<=9223372036854775806)(E:P 0)
  (step:∀again (k:Nat),k<len->P k->(P (k+1)->Ok (again (Hy ((k:Int)+1))) Q)->Ok (f again (k:Int)) Q) (j:∀again,P len->Ok (f again (len:Int)) Q):Ok (aV n f 0) Q:=by
 refine ee (fun x:Int=>∃k:Nat,x=(k:Int)/\k<=len/\P k) (fun x=>len-x.toNat) ?_ n 0 ⟨0,rfl,Nat.zero_le _,E⟩ (by simpa using D);rintro again x ⟨k,rfl,hk,C⟩ I;by_cases q:k<len
 ·refine step again k q C fun z=>?_
  have hw:Hy ((k:Int)+1)=((k+1:Nat):Int):=by rw[wrap64_in (by omega) (by omega)];omega
  rw[hw];exact I _ ⟨k+1,rfl,by omega,z⟩ (by simp;omega)
 ·obtain rfl:k=len:=by omega
  exact j again C
theorem eh{γ:Type}{f:(γ×Int->Option α)->γ×Int->Option α}{n len:Nat}(P:Nat->γ->Prop)(E:len<n)(O:len<=9223372036854775806){c0:γ}(I:P 0 c0)
  (step:∀again (k:Nat) c,k<len->P k c->(∀q,P (k+1) q->Ok (again (q,Hy ((k:Int)+1))) Q)->Ok (f again (c,(k:Int))) Q) (j:∀again c,P len c->Ok (f again (c,(len:Int))) Q):Ok (aV n f (c0,0)) Q:=by
 refine ee (fun x=>∃k:Nat,x.2=(k:Int)/\k<=len/\P k x.1) (fun x=>len-x.2.toNat) ?_ n (c0,0) ⟨0,rfl,Nat.zero_le _,I⟩ (by simpa using E);rintro again ⟨c,x⟩ ⟨k,J,hk,D⟩ N;obtain rfl:x=(k:Int):=J;by_cases z:k<len
 ·refine step again k c z D fun q C=>?_
  have hw:Hy ((k:Int)+1)=((k+1:Nat):Int):=by rw[wrap64_in (by omega) (by omega)];omega
  rw[hw];exact N _ ⟨k+1,rfl,by omega,C⟩ (by simp;omega)
 ·obtain rfl:k=len:=by omega
  exact j again c D
end
theorem tB{γ:Type}[Inhabited γ]{p:γ->Bool}{l:List γ}:l.any p=false↔∀j,j<l.length->p (l.getD j default)=false:=by
 rw[List.any_eq_false];constructor
 ·intro h j q;have:=h (l[j]) (List.getElem_mem q);simp only[List.getD,geT q,Option.getD_some];simpa using this
 ·intro h x z;obtain⟨j,q,rfl⟩:=List.getElem_of_mem z;have:=h j q;simp only[List.getD,geT q,Option.getD_some]at this;simp[this]
theorem CX{γ:Type}[Inhabited γ]{p:γ->Bool}{l:List γ}{j:Nat}(q:j<l.length)(h:p (l.getD j default)=true):l.any p=true:=by
 cases z:l.any p with
 |true=>rfl
 |false=>rw[tB.1 z j q]at h;cases h
end Go.L


set_option linter.all false
namespace Go.L
open Go Go.Eng
def uf{γ:Type}(p:γ->Bool):List γ->Int
 |[]=>-1
 |x::s=>bif p x then 0 else bif decide (uf p s>=0)then uf p s+1 else-1
theorem Cr{γ:Type}(p:γ->Bool):∀s:List γ,decide (uf p s>=0)=s.any p
 |[]=>rfl
 |x::s=>by
  have j:=Cr p s;rw[List.any_cons,<-j,uf];cases p x with
  |true=>rfl
  |false=>
   by_cases h:uf p s>=0
   ·simp only[decide_eq_true h,cond_true,cond_false,Bool.false_or];simp;omega
   ·simp only[decide_eq_false h,cond_true,cond_false,Bool.false_or];rfl
theorem yL{γ:Type}[Inhabited γ](p:γ->Bool):∀s:List γ,(∀j,j<s.length->p (s.getD j default)=false)->uf p s=-1
 |[],_=>rfl
 |x::s,h=>by
  have q:p x=false:=by simpa using h 0 (by simp)
  have z:=yL p s (fun j C=>by simpa using h (j+1) (by simpa using C));simp only[uf,q,z,cond_false];rfl
theorem CB{γ:Type}[Inhabited γ](p:γ->Bool):∀(s:List γ) (k:Nat),k<s.length->(∀j,j<k->p (s.getD j default)=false)->p (s.getD k default)=true->uf p s=k
 |[],k,hk,_,_=>by simp at hk
 |x::s,0,_,_,h=>by
  have q:p x=true:=by simpa using h
  simp only[uf,q,cond_true];rfl
 |x::s,k+1,hk,h,h1=>by
  have q:p x=false:=by simpa using h 0 (by omega)
  have z:=CB p s k (by simpa using hk) (fun j C=>by simpa using h (j+1) (by omega)) (by simpa using h1);simp only[uf,q,z,cond_false];have:decide ((k:Int)>=0)=true:=by simp
  rw[this,cond_true];omega
theorem AJ{γ:Type}[Inhabited γ]{n:Nat}{s:List γ}{f:γ->Option Bool}{p:γ->Bool}(C:∀x,f x=some (p x))(D:s.length<n)(E:s.length<=9223372036854775806):
  bdO (aV (α:=Int) (β:=Sum (Unit) (Int)) n (fun again x=>cdO (decide (x<(s.length:Int))) (gdO (inR x s.length) (bdO (f (gt s x)) fun v=>(cdO v (some (Sum.inr (x))) (again (Hy (x+1)))))) (some (Sum.inl ()))) 0) (fun o=>match o with|.inl _=>some (-1)|.inr r0=>some r0)=some (uf p s):=by
 apply Ok.eq;refine Ok.bd (R:=fun o=>match o with|.inl _=>uf p s=-1|.inr r=>r=uf p s) ?_ ?_
 ·refine lS (len:=s.length) (fun k=>∀j,j<k->p (s.getD j default)=false) D E (by intro j I;omega) ?_ ?_
  ·intro again k hk q J;refine Ok.cd (fun _=>?_) (fun h=>?_)
   ·refine Ok.gd (by rw[bm];simpa using hk) ?_;rw[dQ,C];refine Ok.cd (fun h=>?_) (fun h=>?_)
    ·exact aC.2 (CB p s k hk q h).symm
    ·exact J fun j I=>by
      by_cases z:j=k
      ·rw[z];exact h
      ·exact q j (by omega)
   ·simp at h;omega
  ·intro again q;refine Ok.cd (fun h=>?_) (fun _=>?_)
   ·simp at h
   ·exact aC.2 (yL p s q)
 ·rintro(_|r) h
  ·exact aC.2 h.symm
  ·exact aC.2 h
def sgn(n:Int):Int:=if n<0 then-1 else if n>0 then 1 else 0
theorem dS(n:Int):(n<0/\sgn n=-1)\/(n=0/\sgn n=0)\/(0<n/\sgn n=1):=by unfold sgn;split<;>(try split)<;>omega
theorem ln{a b A B:Int}(h1:-A<=a)(z:a<=A)(C:-B<=b)(D:b<=B):-(A*B)<=a*b/\a*b<=A*B:=by
 have j:a.natAbs<=A.natAbs:=by omega
 have q:b.natAbs<=B.natAbs:=by omega
 have hm:=Nat.mul_le_mul j q;rw[<-Int.natAbs_mul,<-Int.natAbs_mul]at hm;have E:0<=A*B:=Int.mul_nonneg (by omega) (by omega);generalize a*b=x at*;generalize A*B=y at*;omega
end Go.L

