import Derived.Test.YtfhhaadcodofnaaGreatSc6Chks
set_option linter.unusedVariables false
namespace Go.L
open Go Go.Eng
def Ok{α:Type}(x:Option α)(Q:α->Prop):Prop:=∃a,x=some a/\Q a
section
variable{α β:Type}{Q Q':α->Prop}
theorem Ok.mono{x:Option α}(h:Ok x Q)(k:∀a,Q a->Q' a):Ok x Q':=by obtain⟨a,h1,h2⟩:=h;exact⟨a,h1,k a h2⟩
theorem aw{a:α}:Ok (some a) Q↔Q a:=⟨fun⟨b,h,j⟩=>(by cases h;exact j),fun h=>⟨a,rfl,h⟩⟩
theorem I8{b:Bool}{t:Option α}:Ok (gdO b t) Q↔b=true/\Ok t Q:=by
 cases b
 ·exact⟨fun⟨a,h,_⟩=>(by cases h),fun h=>(by cases h.1)⟩
 ·exact⟨fun h=>⟨rfl,h⟩,fun h=>h.2⟩
theorem Jj{b:Bool}{t e:Option α}:Ok (cdO b t e) Q↔(b=true->Ok t Q)/\(b=false->Ok e Q):=by
 cases b
 ·exact⟨fun h=>⟨(fun e=>by cases e),fun _=>h⟩,fun h=>h.2 rfl⟩
 ·exact⟨fun h=>⟨fun _=>h,(fun e=>by cases e)⟩,fun h=>h.1 rfl⟩
theorem Jy{x:Option β}{f:β->Option α}:Ok (bdO x f) Q↔Ok x (fun b=>Ok (f b) Q):=by
 cases x
 ·exact⟨fun⟨a,h,_⟩=>(by cases h),fun⟨a,h,_⟩=>(by cases h)⟩
 ·exact⟨fun h=>⟨_,rfl,h⟩,fun⟨a,h,j⟩=>(by cases h;exact j)⟩
theorem Ok.bd{x:Option β}{f:β->Option α}{R:β->Prop}(h:Ok x R)(k:∀b,R b->Ok (f b) Q):Ok (bdO x f) Q:=Jy.2 (h.mono k)
theorem Ok.bde{x:Option β}{f:β->Option α}{b:β}(h:x=some b)(k:Ok (f b) Q):Ok (bdO x f) Q:=by subst h;exact k
theorem Ok.gd{b:Bool}{t:Option α}(h:b=true)(k:Ok t Q):Ok (gdO b t) Q:=I8.2 ⟨h,k⟩
theorem Ok.cd{b:Bool}{t e:Option α}(h:b=true->Ok t Q)(k:b=false->Ok e Q):Ok (cdO b t e) Q:=Jj.2 ⟨h,k⟩
theorem Ok.eq{x:Option α}{a:α}(h:Ok x (·=a)):x=some a:=by obtain⟨b,h1,rfl⟩:=h;exact h1
theorem Ok.get{x:Option α}(h:Ok x Q){a:α}(ha:x=some a):Q a:=by obtain⟨b,h1,h2⟩:=h;rw[ha]at h1;cases h1;exact h2
theorem eE{f:(β->Option α)->β->Option α}(I:β->Prop)(μ:β->Nat)(step:∀again a,I a->(∀a',I a'->μ a'<μ a->Ok (again a') Q)->Ok (f again a) Q):∀(n:Nat) (a:β),I a->μ a<n->Ok (aP n f a) Q
 |0,a,_,h=>by omega
 |n+1,a,m,h=>step (aP n f) a m fun a' j hμ=>eE I μ step n a' j (by omega)
theorem wrap64_in{n:Int}(h:-9223372036854775808<=n)(h2:n<=9223372036854775807):Ki n=n:=by
 (try unfold Ki);unfold ae yJ;have:(decide (-9223372036854775808<=n)&&decide (n<=9223372036854775807))=true:=by simp;omega
 simp only[this]
theorem aI{n:Int}(h:0<=n)(h2:n<=18446744073709551615):ae .u64 n=n:=by
 (try unfold Ki);unfold ae yJ;have:(decide (0<=n)&&decide (n<=18446744073709551615))=true:=by simp;omega
 simp only[this]
theorem bt{n:Int}(h:0<=n)(h2:n<=4294967295):ae .u32 n=n:=by
 (try unfold Ki);unfold ae yJ;have:(decide (0<=n)&&decide (n<=4294967295))=true:=by simp;omega
 simp only[this]
theorem bj{k len:Nat}:inR (k:Int) len=decide (k<len):=by
 unfold inR;have h1:decide ((0:Int)<=(k:Int))=true:=by simp
 rw[h1,Bool.true_and];by_cases h:k<len<;>simp[h]
theorem jo{γ:Type}[Inhabited γ]{l:List γ}{k:Nat}:gt l (k:Int)=l.getD k default:=by unfold gt;simp
theorem kY{i:Int}{n:Nat}:inR i n=true↔0<=i/\i<n:=by simp[inR]
theorem uZ{a b:Int}{n:Nat}:inS a b n=true↔(0<=a/\a<=b)/\b<=n:=by simp[inS]
theorem vB{f:(Int->Option α)->Int->Option α}{n len:Nat}(P:Nat->Prop)(C:len<n)(I:len<=9223372036854775806)(D:P 0)
  (step:∀again (k:Nat),k<len->P k->(P (k+1)->Ok (again (Ki ((k:Int)+1))) Q)->Ok (f again (k:Int)) Q) (j:∀again,P len->Ok (f again (len:Int)) Q):Ok (aP n f 0) Q:=by
 refine eE (fun x:Int=>∃k:Nat,x=(k:Int)/\k<=len/\P k) (fun x=>len-x.toNat) ?_ n 0 ⟨0,rfl,Nat.zero_le _,D⟩ (by simpa using C);rintro again x ⟨k,rfl,hk,z⟩ E;by_cases m:k<len
 ·refine step again k m z fun q=>?_
  have hw:Ki ((k:Int)+1)=((k+1:Nat):Int):=by rw[wrap64_in (by omega) (by omega)];omega
  rw[hw];exact E _ ⟨k+1,rfl,by omega,q⟩ (by simp;omega)
 ·obtain rfl:k=len:=by omega
  exact j again z
end
end Go.L


set_option linter.all false
namespace Go.L
open Go Go.Eng
def rD{γ:Type}(p:γ->Bool):List γ->Int
 |[]=>-1
 |x::s=>bif p x then 0 else bif decide (rD p s>=0)then rD p s+1 else-1
theorem xC{γ:Type}(p:γ->Bool):∀s:List γ,decide (rD p s>=0)=s.any p
 |[]=>rfl
 |x::s=>by
  have j:=xC p s;rw[List.any_cons,<-j,rD];cases p x with
  |true=>rfl
  |false=>
   by_cases h:rD p s>=0
   ·simp only[decide_eq_true h,cond_true,cond_false,Bool.false_or];simp;omega
   ·simp only[decide_eq_false h,cond_true,cond_false,Bool.false_or];rfl
theorem zy{γ:Type}[Inhabited γ](p:γ->Bool):∀s:List γ,(∀j,j<s.length->p (s.getD j default)=false)->rD p s=-1
 |[],_=>rfl
 |x::s,h=>by
  have m:p x=false:=by simpa using h 0 (by simp)
  have q:=zy p s (fun j z=>by simpa using h (j+1) (by simpa using z));simp only[rD,m,q,cond_false];rfl
theorem DW{γ:Type}[Inhabited γ](p:γ->Bool):∀(s:List γ) (k:Nat),k<s.length->(∀j,j<k->p (s.getD j default)=false)->p (s.getD k default)=true->rD p s=k
 |[],k,hk,_,_=>by simp at hk
 |x::s,0,_,_,h=>by
  have m:p x=true:=by simpa using h
  simp only[rD,m,cond_true];rfl
 |x::s,k+1,hk,h,h1=>by
  have m:p x=false:=by simpa using h 0 (by omega)
  have q:=DW p s k (by simpa using hk) (fun j z=>by simpa using h (j+1) (by omega)) (by simpa using h1);simp only[rD,m,q,cond_false];have:decide ((k:Int)>=0)=true:=by simp
  rw[this,cond_true];omega
theorem sX{γ:Type}[Inhabited γ]{n:Nat}{s:List γ}{f:γ->Option Bool}{p:γ->Bool}(z:∀x,f x=some (p x))(C:s.length<n)(D:s.length<=9223372036854775806):
  bdO (aP (α:=Int) (β:=Sum (Unit) (Int)) n (fun again x=>cdO (decide (x<(s.length:Int))) (gdO (inR x s.length) (bdO (f (gt s x)) fun v=>(cdO v (some (Sum.inr (x))) (again (Ki (x+1)))))) (some (Sum.inl ()))) 0) (fun o=>match o with|.inl _=>some (-1)|.inr r0=>some r0)=some (rD p s):=by
 apply Ok.eq;refine Ok.bd (R:=fun o=>match o with|.inl _=>rD p s=-1|.inr r=>r=rD p s) ?_ ?_
 ·refine vB (len:=s.length) (fun k=>∀j,j<k->p (s.getD j default)=false) C D (by intro j E;omega) ?_ ?_
  ·intro again k hk m I;refine Ok.cd (fun _=>?_) (fun h=>?_)
   ·refine Ok.gd (by rw[bj];simpa using hk) ?_;rw[jo,z];refine Ok.cd (fun h=>?_) (fun h=>?_)
    ·exact aw.2 (DW p s k hk m h).symm
    ·exact I fun j E=>by
      by_cases q:j=k
      ·rw[q];exact h
      ·exact m j (by omega)
   ·simp at h;omega
  ·intro again m;refine Ok.cd (fun h=>?_) (fun _=>?_)
   ·simp at h
   ·exact aw.2 (zy p s m)
 ·rintro(_|r) h
  ·exact aw.2 h.symm
  ·exact aw.2 h
def sgn(n:Int):Int:=if n<0 then-1 else if n>0 then 1 else 0
theorem di(n:Int):(n<0/\sgn n=-1)\/(n=0/\sgn n=0)\/(0<n/\sgn n=1):=by unfold sgn;split<;>(try split)<;>omega
end Go.L

