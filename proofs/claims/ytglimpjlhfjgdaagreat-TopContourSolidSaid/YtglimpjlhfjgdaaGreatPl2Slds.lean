import Derived.Test.YtglimpjlhfjgdaaGreatSc6Slds
set_option linter.unusedVariables false
namespace Go.L
open Go Go.Eng
def Ok{α:Type}(x:Option α)(Q:α->Prop):Prop:=∃a,x=some a/\Q a
section
variable{α β:Type}{Q Q':α->Prop}
theorem Ok.mono{x:Option α}(h:Ok x Q)(k:∀a,Q a->Q' a):Ok x Q':=by obtain⟨a,h1,h2⟩:=h;exact⟨a,h1,k a h2⟩
theorem aC{a:α}:Ok (some a) Q↔Q a:=⟨fun⟨b,h,j⟩=>(by cases h;exact j),fun h=>⟨a,rfl,h⟩⟩
theorem KY{b:Bool}{t:Option α}:Ok (gdO b t) Q↔b=true/\Ok t Q:=by
 cases b
 ·exact⟨fun⟨a,h,_⟩=>(by cases h),fun h=>(by cases h.1)⟩
 ·exact⟨fun h=>⟨rfl,h⟩,fun h=>h.2⟩
theorem KL{b:Bool}{t e:Option α}:Ok (cdO b t e) Q↔(b=true->Ok t Q)/\(b=false->Ok e Q):=by
 cases b
 ·exact⟨fun h=>⟨(fun e=>by cases e),fun _=>h⟩,fun h=>h.2 rfl⟩
 ·exact⟨fun h=>⟨fun _=>h,(fun e=>by cases e)⟩,fun h=>h.1 rfl⟩
theorem KQ{x:Option β}{f:β->Option α}:Ok (bdO x f) Q↔Ok x (fun b=>Ok (f b) Q):=by
 cases x
 ·exact⟨fun⟨a,h,_⟩=>(by cases h),fun⟨a,h,_⟩=>(by cases h)⟩
 ·exact⟨fun h=>⟨_,rfl,h⟩,fun⟨a,h,j⟩=>(by cases h;exact j)⟩
theorem Ok.bd{x:Option β}{f:β->Option α}{R:β->Prop}(h:Ok x R)(k:∀b,R b->Ok (f b) Q):Ok (bdO x f) Q:=KQ.2 (h.mono k)
theorem Ok.bde{x:Option β}{f:β->Option α}{b:β}(h:x=some b)(k:Ok (f b) Q):Ok (bdO x f) Q:=by subst h;exact k
theorem Ok.gd{b:Bool}{t:Option α}(h:b=true)(k:Ok t Q):Ok (gdO b t) Q:=KY.2 ⟨h,k⟩
theorem Ok.cd{b:Bool}{t e:Option α}(h:b=true->Ok t Q)(k:b=false->Ok e Q):Ok (cdO b t e) Q:=KL.2 ⟨h,k⟩
theorem Ok.eq{x:Option α}{a:α}(h:Ok x (·=a)):x=some a:=by obtain⟨b,h1,rfl⟩:=h;exact h1
theorem Ok.of_eq{x:Option α}{a:α}(h:x=some a)(j:Q a):Ok x Q:=⟨a,h,j⟩
theorem Ok.get{x:Option α}(h:Ok x Q){a:α}(j:x=some a):Q a:=by obtain⟨b,h1,h2⟩:=h;rw[j]at h1;cases h1;exact h2
theorem fu{f:(β->Option α)->β->Option α}(I:β->Prop)(μ:β->Nat)(step:∀again a,I a->(∀a',I a'->μ a'<μ a->Ok (again a') Q)->Ok (f again a) Q):∀(n:Nat) (a:β),I a->μ a<n->Ok (aQ n f a) Q
 |0,a,_,h=>by omega
 |n+1,a,m,h=>step (aQ n f) a m fun a' j hμ=>fu I μ step n a' j (by omega)
theorem wrap64_in{n:Int}(h:-9223372036854775808<=n)(h2:n<=9223372036854775807):MR n=n:=by
 (try unfold MR);unfold aa wE;have:(decide (-9223372036854775808<=n)&&decide (n<=9223372036854775807))=true:=by simp;omega
 simp only[this]
theorem ba{n:Int}(h:0<=n)(h2:n<=18446744073709551615):aa .u64 n=n:=by
 (try unfold MR);unfold aa wE;have:(decide (0<=n)&&decide (n<=18446744073709551615))=true:=by simp;omega
 simp only[this]
theorem bP{n:Int}(h:0<=n)(h2:n<=4294967295):aa .u32 n=n:=by
 (try unfold MR);unfold aa wE;have:(decide (0<=n)&&decide (n<=4294967295))=true:=by simp;omega
 simp only[this]
theorem bf{k len:Nat}:inR (k:Int) len=decide (k<len):=by
 unfold inR;have h1:decide ((0:Int)<=(k:Int))=true:=by simp
 rw[h1,Bool.true_and];by_cases h:k<len<;>simp[h]
theorem cZ{γ:Type}[Inhabited γ]{l:List γ}{k:Nat}:gt l (k:Int)=l.getD k default:=by unfold gt;simp
theorem iK{i:Int}{n:Nat}:inR i n=true↔0<=i/\i<n:=by simp[inR]
theorem CX{a b:Int}{n:Nat}:inS a b n=true↔(0<=a/\a<=b)/\b<=n:=by simp[inS]
theorem nP{f:(Int->Option α)->Int->Option α}{n len:Nat}(P:Nat->Prop)(z:len<n)(E:len<=9223372036854775806)(C:P 0)
  (step:∀again (k:Nat),k<len->P k->(P (k+1)->Ok (again (MR ((k:Int)+1))) Q)->Ok (f again (k:Int)) Q) (j:∀again,P len->Ok (f again (len:Int)) Q):Ok (aQ n f 0) Q:=by
 refine fu (fun x:Int=>∃k:Nat,x=(k:Int)/\k<=len/\P k) (fun x=>len-x.toNat) ?_ n 0 ⟨0,rfl,Nat.zero_le _,C⟩ (by simpa using z);rintro again x ⟨k,rfl,hk,q⟩ D;by_cases m:k<len
 ·refine step again k m q fun p=>?_
  have hw:MR ((k:Int)+1)=((k+1:Nat):Int):=by rw[wrap64_in (by omega) (by omega)];omega
  rw[hw];exact D _ ⟨k+1,rfl,by omega,p⟩ (by simp;omega)
 ·obtain rfl:k=len:=by omega
  exact j again q
theorem iB{γ:Type}{f:(γ×Int->Option α)->γ×Int->Option α}{n len:Nat}(P:Nat->γ->Prop)(C:len<n)(J:len<=9223372036854775806){c0:γ}(D:P 0 c0)
  (step:∀again (k:Nat) c,k<len->P k c->(∀m,P (k+1) m->Ok (again (m,MR ((k:Int)+1))) Q)->Ok (f again (c,(k:Int))) Q) (j:∀again c,P len c->Ok (f again (c,(len:Int))) Q):Ok (aQ n f (c0,0)) Q:=by
 refine fu (fun x=>∃k:Nat,x.2=(k:Int)/\k<=len/\P k x.1) (fun x=>len-x.2.toNat) ?_ n (c0,0) ⟨0,rfl,Nat.zero_le _,D⟩ (by simpa using C);rintro again ⟨c,x⟩ ⟨k,E,hk,z⟩ I;obtain rfl:x=(k:Int):=E;by_cases p:k<len
 ·refine step again k c p z fun m q=>?_
  have hw:MR ((k:Int)+1)=((k+1:Nat):Int):=by rw[wrap64_in (by omega) (by omega)];omega
  rw[hw];exact I _ ⟨k+1,rfl,by omega,q⟩ (by simp;omega)
 ·obtain rfl:k=len:=by omega
  exact j again c z
end
end Go.L


set_option linter.all false
namespace Go.L
open Go Go.Eng
def og{γ:Type}(p:γ->Bool):List γ->Int
 |[]=>-1
 |x::s=>bif p x then 0 else bif decide (og p s>=0)then og p s+1 else-1
theorem vV{γ:Type}(p:γ->Bool):∀s:List γ,decide (og p s>=0)=s.any p
 |[]=>rfl
 |x::s=>by
  have j:=vV p s;rw[List.any_cons,<-j,og];cases p x with
  |true=>rfl
  |false=>
   by_cases h:og p s>=0
   ·simp only[decide_eq_true h,cond_true,cond_false,Bool.false_or];simp;omega
   ·simp only[decide_eq_false h,cond_true,cond_false,Bool.false_or];rfl
theorem yf{γ:Type}[Inhabited γ](p:γ->Bool):∀s:List γ,(∀j,j<s.length->p (s.getD j default)=false)->og p s=-1
 |[],_=>rfl
 |x::s,h=>by
  have m:p x=false:=by simpa using h 0 (by simp)
  have q:=yf p s (fun j z=>by simpa using h (j+1) (by simpa using z));simp only[og,m,q,cond_false];rfl
theorem C6{γ:Type}[Inhabited γ](p:γ->Bool):∀(s:List γ) (k:Nat),k<s.length->(∀j,j<k->p (s.getD j default)=false)->p (s.getD k default)=true->og p s=k
 |[],k,hk,_,_=>by simp at hk
 |x::s,0,_,_,h=>by
  have m:p x=true:=by simpa using h
  simp only[og,m,cond_true];rfl
 |x::s,k+1,hk,h,h1=>by
  have m:p x=false:=by simpa using h 0 (by omega)
  have q:=C6 p s k (by simpa using hk) (fun j z=>by simpa using h (j+1) (by omega)) (by simpa using h1);simp only[og,m,q,cond_false];have:decide ((k:Int)>=0)=true:=by simp
  rw[this,cond_true];omega
theorem qB{γ:Type}[Inhabited γ]{n:Nat}{s:List γ}{f:γ->Option Bool}{p:γ->Bool}(z:∀x,f x=some (p x))(C:s.length<n)(D:s.length<=9223372036854775806):
  bdO (aQ (α:=Int) (β:=Sum (Unit) (Int)) n (fun again x=>cdO (decide (x<(s.length:Int))) (gdO (inR x s.length) (bdO (f (gt s x)) fun v=>(cdO v (some (Sum.inr (x))) (again (MR (x+1)))))) (some (Sum.inl ()))) 0) (fun o=>match o with|.inl _=>some (-1)|.inr r0=>some r0)=some (og p s):=by
 apply Ok.eq;refine Ok.bd (R:=fun o=>match o with|.inl _=>og p s=-1|.inr r=>r=og p s) ?_ ?_
 ·refine nP (len:=s.length) (fun k=>∀j,j<k->p (s.getD j default)=false) C D (by intro j E;omega) ?_ ?_
  ·intro again k hk m I;refine Ok.cd (fun _=>?_) (fun h=>?_)
   ·refine Ok.gd (by rw[bf];simpa using hk) ?_;rw[cZ,z];refine Ok.cd (fun h=>?_) (fun h=>?_)
    ·exact aC.2 (C6 p s k hk m h).symm
    ·exact I fun j E=>by
      by_cases q:j=k
      ·rw[q];exact h
      ·exact m j (by omega)
   ·simp at h;omega
  ·intro again m;refine Ok.cd (fun h=>?_) (fun _=>?_)
   ·simp at h
   ·exact aC.2 (yf p s m)
 ·rintro(_|r) h
  ·exact aC.2 h.symm
  ·exact aC.2 h
theorem BX{γ:Type}[Inhabited γ]{n:Nat}{s:List γ}{p:γ->Bool}(j:s.length<n)(m:s.length<=9223372036854775806):
  bdO (aQ (α:=Int) (β:=Sum (Unit) (Int)) n (fun again x=>cdO (decide (x<(s.length:Int))) (gdO (inR x s.length) (cdO (p (gt s x)) (some (Sum.inr (x))) (again (MR (x+1))))) (some (Sum.inl ()))) 0) (fun o=>match o with|.inl _=>some (-1)|.inr r0=>some r0)=some (og p s):=
 qB (f:=fun x=>some (p x)) (fun _=>rfl) j m
def sgn(n:Int):Int:=if n<0 then-1 else if n>0 then 1 else 0
theorem bZ(n:Int):(n<0/\sgn n=-1)\/(n=0/\sgn n=0)\/(0<n/\sgn n=1):=by unfold sgn;split<;>(try split)<;>omega
theorem nQ{a b A B:Int}(h1:-A<=a)(h2:a<=A)(p:-B<=b)(q:b<=B):-(A*B)<=a*b/\a*b<=A*B:=by
 have j:a.natAbs<=A.natAbs:=by omega
 have m:b.natAbs<=B.natAbs:=by omega
 have hm:=Nat.mul_le_mul j m;rw[<-Int.natAbs_mul,<-Int.natAbs_mul]at hm;have z:0<=A*B:=Int.mul_nonneg (by omega) (by omega);generalize a*b=x at*;generalize A*B=y at*;omega
end Go.L

