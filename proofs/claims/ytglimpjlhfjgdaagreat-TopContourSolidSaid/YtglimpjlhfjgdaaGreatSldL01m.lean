import Derived.Test.YtglimpjlhfjgdaaGreatSldL01p
set_option linter.all false
namespace Go.L
open Go Go.Eng
theorem Dv{n:Nat}{a b:List Int}(O:1000<=n)(D:Dig a)(E:Dig b)(la:a.length<=400)(lb:b.length<=400):Ok (jh n a b) fun r=>Can r/\vl r=vl a+vl b:=by
 unfold jh;obtain⟨M,T,h1,h2,h3⟩:∃M:Nat,mx (a.length:Int) (b.length:Int)=(M:Int)/\a.length<=M/\b.length<=M/\M<=400:=by
  unfold mx;split
  ·exact⟨_,rfl,by omega,by omega,by omega⟩
  ·exact⟨_,rfl,by omega,by omega,by omega⟩
 rw[T,pr (by omega)];refine Ok.gd (by simp;try omega) (Ok.gd (by simp;try omega) (Ok.gd (by simp;try omega) ?_));refine Ok.bd (R:=fun r=>Dig r/\r.length<=900/\vl r=vl a+vl b) ?_ (fun r h=>Ok.bd (qO O h.1 h.2.1) fun z I=>aC.2 ⟨I.1,I.2.trans h.2.2⟩);refine fu (fun x:List Int×Int×Int=>∃k:Nat,x.2.2=(k:Int)/\k<=M+1/\x.1.length=M+1/\Dig x.1/\(x.2.1=0\/x.2.1=1)/\vk x.1 k+pB k*x.2.1=vk a k+vk b k) (fun x=>M+1-x.2.2.toNat) ?_ n _
  ⟨0,rfl,by omega,by simp,vN _,.inl rfl,by simp[qN]⟩ (by simp;omega)
 rintro again ⟨out,c,x⟩ ⟨k,J,h4,N,p,j,q⟩ U;simp only at J N p j q;subst J;dsimp only;rw[List.length_replicate,Int.toNat_natCast,Dh,Dh];have da:=fj D k;have db:=fj E k;refine Ok.cd (fun h=>?_) (fun h=>?_)
 ·have hk:k<M+1:=by simp at h;omega
  show Ok (cdO _ _ _) _;generalize hs:aa .u32 (aa .u32 (a.getD k 0+b.getD k 0)+c)=s;have Y:s=a.getD k 0+b.getD k 0+c:=by rw[<-hs,bP (n:=a.getD k 0+b.getD k 0) (by omega) (by omega),bP (by omega) (by omega)]
  have step:∀d m,(0<=d/\d<1000000000)->(m=0\/m=1)->s=d+1000000000*m->Ok (again (out.set k d,m,((k+1:Nat):Int))) fun r=>Dig r/\r.length<=900/\vl r=vl a+vl b:=by
   intro d m hd hc a1;refine U _ ⟨k+1,rfl,by omega,by simpa using N,kR p hd,hc,?_⟩ (by simp;omega);simp only;rw[Dz (by omega),kW,kW,dN];have:a.getD k 0+b.getD k 0+c=d+1000000000*m:=by omega
   grind
  rw[pr (by omega),bf,Int.toNat_natCast];refine Ok.cd (fun h=>?_) (fun h=>?_)
  ·have C:s>=1000000000:=by simpa using h
   rw[bP (by omega) (by omega)];exact Ok.gd (by simp;omega) (step _ 1 (by omega) (.inr rfl) (by omega))
  ·have C:s<1000000000:=by simpa using h
   exact Ok.gd (by simp;omega) (step _ 0 (by omega) (.inl rfl) (by omega))
 ·have hk:k=M+1:=by simp at h;omega
  subst hk;refine aC.2 ⟨p,by omega,?_⟩;rw[jZ (by omega),jZ (by omega),jZ (by omega)]at q;have:=jn p;have hA:=jn D;have hB:=jn E;have p1:=jy (by omega:a.length<=M);have p2:=jy (by omega:b.length<=M);have p3:=dN M;rcases j with j|j
  ·rw[j]at q;omega
  ·rw[j]at q;have:=bM p;have:=jo M;omega
theorem wF{n:Nat}{a b:List Int}(J:1000<=n)(M:Dig a)(N:Dig b)(la:a.length<=400)(lb:b.length<=a.length)(hle:vl b<=vl a):Ok (gE n a b) fun r=>Can r/\vl r=vl a-vl b:=by
 unfold gE;refine Ok.gd (by simp) (Ok.gd (by simp;omega) (Ok.gd (by simp;omega) ?_));refine Ok.bd (R:=fun r=>Dig r/\r.length<=900/\vl r=vl a-vl b) ?_ (fun r h=>Ok.bd (qO J h.1 h.2.1) fun z E=>aC.2 ⟨E.1,E.2.trans h.2.2⟩);refine fu (fun x:List Int×Int×Int=>∃k:Nat,x.2.2=(k:Int)/\k<=a.length/\x.1.length=a.length/\Dig x.1/\(x.2.1=0\/x.2.1=1)/\vk x.1 k-pB k*x.2.1=vk a k-vk b k) (fun x=>a.length-x.2.2.toNat) ?_ n _
  ⟨0,rfl,by omega,by simp,vN _,.inl rfl,by simp[qN]⟩ (by simp;omega)
 rintro again ⟨out,c,x⟩ ⟨k,I,h4,C,p,j,q⟩ O;simp only at I C p j q;subst I;dsimp only;rw[List.length_replicate,Int.toNat_natCast,Dh];have da:=fj M k;have db:=fj N k;refine Ok.cd (fun h=>?_) (fun h=>?_)
 ·have hk:k<a.length:=by simp at h;omega
  show Ok (gdO _ _) _;refine Ok.gd (by rw[bf];simpa using hk) ?_;rw[iJ];generalize hs:aa .u32 (b.getD k 0+c)=s;have T:s=b.getD k 0+c:=by rw[<-hs,bP (by omega) (by omega)]
  have step:∀d m,(0<=d/\d<1000000000)->(m=0\/m=1)->a.getD k 0-s=d-1000000000*m->Ok (again (out.set k d,m,((k+1:Nat):Int))) fun r=>Dig r/\r.length<=900/\vl r=vl a-vl b:=by
   intro d m U hc Y;refine O _ ⟨k+1,rfl,by omega,by simpa using C,kR p U,hc,?_⟩ (by simp;omega);simp only;rw[Dz (by omega),kW,kW,dN];have:a.getD k 0-b.getD k 0-c=d-1000000000*m:=by omega
   grind
  rw[pr (by omega),bf,Int.toNat_natCast];refine Ok.cd (fun h=>?_) (fun h=>?_)
  ·have D:a.getD k 0<s:=by simpa using h
   rw[bP (n:=a.getD k 0+1000000000) (by omega) (by omega),bP (by omega) (by omega)];exact Ok.gd (by simp;omega) (step _ 1 (by omega) (.inr rfl) (by omega))
  ·have D:s<=a.getD k 0:=by simpa using h
   rw[bP (by omega) (by omega)];exact Ok.gd (by simp;omega) (step _ 0 (by omega) (.inl rfl) (by omega))
 ·have hk:k=a.length:=by simp at h;omega
  subst hk;refine aC.2 ⟨p,by omega,?_⟩;rw[jZ (by omega),jZ (by omega),jZ (by omega)]at q;have:=jn p;rw[C]at this;rcases j with j|j
  ·rw[j]at q;omega
  ·rw[j]at q;omega
theorem kB{n:Nat}{a b:List Int}(j:Can a)(m:Can b)(q:a.length<=400)(lb:b.length<=400):fg n a b=some (sgn (vl a-vl b)):=by
 unfold fg;have e1:decide (a.length<=1099511627776)=true:=by simp;omega
 have e2:decide (b.length<=1099511627776)=true:=by simp;omega
 rw[e1,e2];show some _=_;by_cases h:a.length=b.length
 ·rw[decide_eq_true h,cond_true,Dp j.dig m.dig h]
 ·rw[decide_eq_false h,cond_false];unfold nC;by_cases p:a.length<b.length
  ·have:=fF j.dig m p;rw[if_pos (by omega),po (by omega)]
  ·have:=fF m.dig j (by omega);rw[if_neg (by omega),if_pos (by omega),vQ (by omega)]
end Go.L


set_option linter.all false
namespace Go.L
open Go Go.Eng
theorem qE{j k:Nat}(h:j<=4000000000)(h2:k<=4000000000):MR ((j:Int)+(k:Int))=((j+k:Nat):Int):=by rw[wrap64_in (by omega) (by omega)];omega
theorem Ew{p q o c:Int}(hp:0<=p/\p<1000000000)(j:0<=q/\q<1000000000)(m:0<=o/\o<1000000000)(hc:0<=c/\c<1000000000):
  aa .u64 ((aa .u64 ((aa .u64 o)+(aa .u64 ((aa .u64 p)*(aa .u64 q)))))+c)=o+p*q+c/\0<=o+p*q+c/\o+p*q+c<1000000000000000000:=by
 have h1:0<=p*q:=Int.mul_nonneg hp.1 j.1;have h2:p*q<=999999999*999999999:=Int.mul_le_mul (by omega) (by omega) j.1 (by omega);rw[ba (n:=o) (by omega) (by omega),ba (n:=p) (by omega) (by omega),ba (n:=q) (by omega) (by omega),ba (n:=p*q) (by omega) (by omega),ba (n:=o+p*q) (by omega) (by omega),ba (by omega) (by omega)];exact⟨rfl,by omega,by omega⟩
theorem GD{l:List Int}{j:Nat}(h:l.length<=j):l.getD j 0=0:=by simp[List.getD,List.getElem?_eq_none h]
theorem EC{k j:Nat}:(List.replicate k (0:Int)).getD j 0=0:=by
 by_cases h:j<k
 ·simp[List.getD,h]
 ·exact GD (by simpa using h)
theorem wC{n:Nat}{a b:List Int}(hn:1000<=n)(ha:Dig a)(hb:Dig b)(la:a.length<=400)(lb:b.length<=400):Ok (iF n a b) fun r=>Can r/\vl r=vl a*vl b:=by
 unfold iF;rw[qE (by omega) (by omega)];refine Ok.gd (by simp;try omega) (Ok.gd (by simp;try omega) (Ok.gd (by simp;try omega) ?_));refine Ok.bd (R:=fun r=>Dig r/\r.length<=900/\vl r=vl a*vl b) ?_ (fun r h=>Ok.bd (qO hn h.1 h.2.1) fun z Y=>aC.2 ⟨Y.1,Y.2.trans h.2.2⟩);refine fu (fun x:List Int×Int=>∃i:Nat,x.2=(i:Int)/\i<=a.length/\x.1.length=a.length+b.length/\Dig x.1/\(∀j,i+b.length<=j->x.1.getD j 0=0)/\vl x.1=vk a i*vl b) (fun x=>a.length-x.2.toNat) ?_ n _
  ⟨0,rfl,by omega,(by simp;omega),vN _,fun j _=>EC,by simp[qN,B1]⟩ (by simp;omega)
 rintro again ⟨out,x⟩ ⟨i,hx,h4,h5,O,h7,M⟩ ih;simp only at hx h5 O h7 M;subst hx;dsimp only;have da:=fj ha i;refine Ok.cd (fun h=>?_) (fun h=>?_)
 ·have hi:i<a.length:=by simp at h;omega
  refine Ok.gd (by rw[bf];simpa using hi) ?_;rw[iJ];refine Ok.bd (R:=fun r=>r.1.length=a.length+b.length/\Dig r.1/\(0<=r.2/\r.2<1000000000)/\(∀j,i+b.length<=j->r.1.getD j 0=0)/\vl r.1+pB (i+b.length)*r.2=vk a i*vl b+pB i*a.getD i 0*vl b) ?_ ?_
  ·refine fu (fun y:List Int×Int×Int=>∃j:Nat,y.2.2=(j:Int)/\j<=b.length/\y.1.length=a.length+b.length/\Dig y.1/\(0<=y.2.1/\y.2.1<1000000000)/\(∀m,i+b.length<=m->y.1.getD m 0=0)/\vl y.1+pB (i+j)*y.2.1=vk a i*vl b+pB i*a.getD i 0*vk b j) (fun y=>b.length-y.2.2.toNat) ?_ n _
    ⟨0,rfl,by omega,h5,O,by simp,h7,by simp[qN,M]⟩ (by simp;omega)
   rintro N ⟨p,c,y⟩ ⟨j,hy,k4,D,q,E,C,I⟩ T;simp only at hy D q E C I;subst hy;dsimp only;have db:=fj hb j;refine Ok.cd (fun h=>?_) (fun h=>?_)
   ·have U:j<b.length:=by simp at h;omega
    refine Ok.gd (by rw[bf];simpa using U) ?_;rw[qE (by omega) (by omega)];refine Ok.gd (by rw[bf];simp;omega) ?_;rw[iJ,iJ];have J:=fj q (i+j);obtain⟨e1,e2,e3⟩:=Ew da db J E;rw[e1];generalize hs:p.getD (i+j) 0+a.getD i 0*b.getD j 0+c=s at e1 e2 e3;have t1:s.tdiv 1000000000=s / 1000000000:=Int.tdiv_eq_ediv_of_nonneg e2;have t2:s.tmod 1000000000=s%1000000000:=Int.tmod_eq_emod_of_nonneg e2;rw[t1,t2,bP (by omega) (by omega),ba (by omega) (by omega),pr (by omega),Int.toNat_natCast];refine T _ ⟨j+1,rfl,by omega,by simpa using D,kR q (by omega),by simp only;omega,?_,?_⟩ (by simp;omega)
    ·intro m hm;simp only;rw[kq (by omega)];exact C m hm
    ·simp only;rw[pn (by omega),kW,<-Nat.add_assoc,dN,lN];rw[lN]at I;have:s=s%1000000000+1000000000*(s / 1000000000):=by omega
     grind
   ·have U:j=b.length:=by simp at h;omega
    subst U;rw[jZ (l:=b) (by omega)]at I;exact aC.2 ⟨D,q,E,C,I⟩
  ·rintro⟨p,c⟩ ⟨D,q,E,C,I⟩;simp only at D q E C I;dsimp only;rw[qE (by omega) (by omega)];refine Ok.gd (by rw[bf];simp;omega) ?_;rw[bP (by omega) (by omega),pr (by omega),Int.toNat_natCast];refine ih _ ⟨i+1,rfl,by omega,by simpa using D,kR q E,?_,?_⟩ (by simp;omega)
   ·intro m hm;simp only;rw[kq (by omega)];exact C m (by omega)
   ·simp only;rw[pn (by omega),kW,C _ (by omega)];grind
 ·have hi:i=a.length:=by simp at h;omega
  subst hi;rw[jZ (l:=a) (by omega)]at M;exact aC.2 ⟨O,by omega,M⟩
theorem qx{n:Nat}{x y:ah}{v w:Int}(p:1000<=n)(j:isI x.Negative x.Groups v)(m:isI y.Negative y.Groups w)(C:x.Groups.length<=400)(D:y.Groups.length<=400):Ok (br n x y) fun z=>isI z.Negative z.Groups (v*w):=by
 unfold br;refine Ok.bde (eT p (by omega) j) (Ok.bde (eT p (by omega) m) ?_);refine Ok.bd (wC p j.1.dig m.1.dig C D) ?_;rintro r ⟨h1,h2⟩;have hlen:r.length<=900:=by
  have:=pt h1 (k:=x.Groups.length+y.Groups.length) (by
   have E:=jn j.1.dig;have a2:=jn m.1.dig;have a3:=bM j.1.dig;have a4:=bM m.1.dig;rw[h2,lN];have I:=jo x.Groups.length;have:vl x.Groups*vl y.Groups<=pB x.Groups.length*vl y.Groups:=mrT (by omega) a4;have:pB x.Groups.length*vl y.Groups<pB x.Groups.length*pB y.Groups.length:=Int.mul_lt_mul_of_pos_left a2 (by omega);omega)
  omega
 refine Ok.bd (ia p _ h1.dig hlen) ?_;intro z q;refine aC.2 ?_;rw[h2]at q;have:v*w=if (x.Negative !=y.Negative)=true then-(vl x.Groups*vl y.Groups)else vl x.Groups*vl y.Groups:=by
  rw[j.2.2,m.2.2];cases x.Negative<;>cases y.Negative<;>simp<;>grind
 rw[this];exact q
theorem CS{n:Nat}{p q:Bool}{a b:List Int}{v w:Int}(D:1000<=n)(m:Can a)(ex:v=if p then-vl a else vl a)(C:Can b)(N:w=if q then-vl b else vl b)(J:a.length<=400)(M:b.length<=400):Ok (ja n p a q b) fun z=>isI z.Negative z.Groups (v+w):=by
 unfold ja;have O:∀{r:List Int},Can r->vl r<=vl a+vl b->r.length<=900:=by
  intro r T U;have:=pt T (k:=401) (by
   have Y:=jn m.dig;have a2:=jn C.dig;have p1:=jy J;have p2:=jy M;have p3:pB 401=1000000000*pB 400:=dN 400;have:=jo 400;omega)
  omega
 have pa:=bM m.dig;have pb:=bM C.dig;refine Ok.cd (fun h=>?_) (fun h=>?_)
 ·have j:p=q:=by simpa using h
  subst j;refine Ok.bd (Dv D m.dig C.dig J M) ?_;rintro r ⟨h1,h2⟩;refine Ok.bd (ia D _ h1.dig (O h1 (by omega))) fun z E=>aC.2 ?_
  have:v+w=if p=true then-vl r else vl r:=by rw[ex,N,h2];cases p<;>simp<;>omega
  rw[this];exact E
 ·rw[kB m C J M];show Ok (cdO _ _ _) _;have j:p=!q:=by cases p<;>cases q<;>simp at h ⊢
  refine Ok.cd (fun h=>?_) (fun h=>?_)
  ·have hle:vl b<=vl a:=by
    by_cases I:vl a-vl b<0
    ·rw[po I]at h;simp at h
    ·omega
   have hlen:b.length<=a.length:=by
    by_cases I:a.length<b.length
    ·have:=fF m.dig C I;omega
    ·omega
   refine Ok.bd (wF D m.dig C.dig J hlen hle) ?_;rintro r ⟨h1,h2⟩;refine Ok.bd (ia D _ h1.dig (O h1 (by omega))) fun z E=>aC.2 ?_
   have:v+w=if p=true then-vl r else vl r:=by rw[ex,N,h2,j];cases q<;>simp<;>omega
   rw[this];exact E
  ·have hle:vl a<vl b:=by
    rcases bZ (vl a-vl b)with⟨g1,g2⟩|⟨g1,g2⟩|⟨g1,g2⟩
    ·omega
    ·rw[g2]at h;simp at h
    ·rw[g2]at h;simp at h
   have hlen:a.length<=b.length:=by
    by_cases I:b.length<a.length
    ·have:=fF C.dig m I;omega
    ·omega
   refine Ok.bd (wF D C.dig m.dig M hlen (by omega)) ?_;rintro r ⟨h1,h2⟩;refine Ok.bd (ia D _ h1.dig (O h1 (by omega))) fun z E=>aC.2 ?_
   have:v+w=if q=true then-vl r else vl r:=by rw[ex,N,h2,j];cases q<;>simp<;>omega
   rw[this];exact E
theorem I6{n:Nat}{p q:Bool}{a b:List Int}{v w:Int}(C:1000<=n)(j:isI p a v)(m:isI q b w)(D:a.length<=400)(E:b.length<=400):Ok (ja n p a q b) fun z=>isI z.Negative z.Groups (v+w):=CS C j.1 j.2.2 m.1 m.2.2 D E
theorem FT{n:Nat}{x y:ah}{v w:Int}(j:1000<=n)(m:isI x.Negative x.Groups v)(p:isI y.Negative y.Groups w)(q:x.Groups.length<=400)(C:y.Groups.length<=400):Ok (cq n x y) fun z=>isI z.Negative z.Groups (v+w):=by
 unfold cq;refine Ok.bde (eT j (by omega) m) (Ok.bde (eT j (by omega) p) ?_);exact Ok.bd (I6 j m p q C) fun z D=>aC.2 D
end Go.L

