import Derived.Test.YtglimpjlhfjgdaaGreatSldL51i
import Derived.Test.YtglimpjlhfjgdaaGreatSldLsrt
set_option linter.all false
namespace Go.L
open Go Go.Eng
theorem w8{α:Type}{κ:α->Int}:∀{l m:List α},l.Pairwise (fun a b=>κ a<κ b)->m.Pairwise (fun a b=>κ a<κ b)->(∀x,x∈l↔x∈m)->l=m
 |[],[],_,_,_=>rfl
 |[],y::m,_,_,h=>by have:=(h y).2 (by simp);cases this
 |x::l,[],_,_,h=>by have:=(h x).1 (by simp);cases this
 |x::l,y::m,p,hm,h=>by
  rw[List.pairwise_cons]at p hm;have e:x=y:=by
   rcases List.mem_cons.1 ((h x).1 (by simp))with e|e
   ·exact e
   ·rcases List.mem_cons.1 ((h y).2 (by simp))with q|q
    ·exact q.symm
    ·have a:=hm.1 x e;have b:=p.1 y q;omega
  subst e;congr 1;refine w8 p.2 hm.2 fun z=>⟨fun j=>?_,fun j=>?_⟩
  ·rcases List.mem_cons.1 ((h z).1 (List.mem_cons_of_mem _ j))with e|e
   ·subst e;have:=p.1 z j;omega
   ·exact e
  ·rcases List.mem_cons.1 ((h z).2 (List.mem_cons_of_mem _ j))with e|e
   ·subst e;have:=hm.1 z j;omega
   ·exact e
abbrev Ln:=Bool×List K2
def toL(cr:K2->aw)(x:Ln):ak:=toC cr x.1 x.2
def kL(x:Ln):Int:=kap (x.2.headD (A2.mk 0 0))
def stK(S:List (K2×K2)):List K2:=iX (ltK kap) (S.map (·.1))
def opK(S:List (K2×K2)):List K2:=(stK S).filter (opn S)
def dnK(S:List (K2×K2))(x:K2):Bool:=(opK S).any fun e=>(path S e).contains x
def opL(S:List (K2×K2))(e:K2):Ln:=(false,path S e)
def wx(S:List (K2×K2))(A:List K2):List Ln:=A.map (opL S)++(CLs S (stK S) (dnK S)).map fun l=>(true,l)
def uT(S:List (K2×K2)):List Ln:=iX (ltK kL) (wx S (opK S))
theorem qV{S:List (K2×K2)}{e:K2}:∃t,path S e=e::t:=BF (by omega) rfl
section
variable{g:aj}{level:Int}{S:List (K2×K2)}
structure SS (g:aj) (level:Int) (S:List (K2×K2)):Prop where
 z40:g.Z.length<=40
 pw:S.Pairwise Rq
 ge:Ge S (Cr g.Z level)
 len:S.length<=60
theorem FN{w h:Nat}(j:Gd g w h)(q:g.Z.any pO=false)(p:g.Z.length<=40)(level:Int):SS g level (oa g w h level):=by
 refine⟨p,Dt j level,CC j q,?_⟩;have h1:(oa g w h level).length<=(jd g w h).length:=List.length_filterMap_le _ _;have h2:=KH j.w1.1 j.h1.1 (by rw[<-j.m];exact p);have z:(jd g w h).length<=2*((w-1)*(h-1)):=Gu;omega
theorem zp{e:K2}:e∈stK S↔cG S e=true:=by
 unfold stK;rw[jN,List.mem_map,iZ]
theorem SS.cr(h:SS g level S){e:K2}(he:e∈stK S):Cr g.Z level e:=by
 obtain⟨q,j,rfl⟩:=iZ.1 (zp.1 he);exact(h.ge.k q j).1
theorem SS.keys(h:SS g level S):(stK S).Pairwise fun a b=>kap a<kap b:=by
 unfold stK;refine xy ?_;rw[List.pairwise_map];refine h.pw.imp_of_mem fun {a b} j m p hk=>p.1 ?_
 exact sW h.z40 (h.ge.k a j).1 (h.ge.k b m).1 hk
theorem SS.nd(h:SS g level S):(stK S).Nodup:=h.keys.imp fun {a b} k=>by rintro rfl;omega
theorem Dy{x:K2}:dnK S x=true↔∃e∈opK S,x∈path S e:=by
 unfold dnK;rw[List.any_eq_true];simp only[List.contains_iff_mem]
theorem Op.KA{cr:K2->aw}{A:List K2}{c:List (K2×Bool)×List ak}(j:∀e,e∈A↔e∈opK S)(h:Op S cr A c):dn c.1=dnK S:=by
 funext x;have h1:=h.mem x;have h2:=Dy (S:=S) (x:=x);have m:dn c.1 x=true↔dnK S x=true:=by
  rw[h1,h2];exact⟨fun⟨e,a,b⟩=>⟨e,(j e).1 a,b⟩,fun⟨e,a,b⟩=>⟨e,(j e).2 a,b⟩⟩
 cases p:dn c.1 x<;>cases q:dnK S x<;>simp[p,q]at m ⊢
theorem Op.C9{cr:K2->aw}{A:List K2}{c:List (K2×Bool)×List ak}(j:∀e,e∈A↔e∈opK S)(h:Op S cr A c):c.2++(CLs S (stK S) (dn c.1)).map (toC cr true)=(wx S A).map (toL cr):=by
 unfold wx;rw[h.KA j,h.out,List.map_append,List.map_map,List.map_map];rfl
theorem SS.Dd(h:SS g level S){A:List K2}(m:∀e,e∈A↔e∈opK S):∀x∈wx S A,∃e t,x.2=e::t/\Cr g.Z level e:=by
 intro x j;unfold wx at j;rcases List.mem_append.1 j with j|j
 ·obtain⟨e,he,rfl⟩:=List.mem_map.1 j;obtain⟨t,p⟩:=qV (S:=S) (e:=e);exact⟨e,t,p,h.cr (List.mem_filter.1 ((m e).1 he)).1⟩
 ·obtain⟨l,q,rfl⟩:=List.mem_map.1 j;obtain⟨e,t,e1,e2,-⟩:=(qM (stK S) (dnK S)).1 l q;exact⟨e,t,e1,h.cr e2⟩
theorem rj{b:Bool}{e:K2}{t:List K2}:kL (b,e::t)=kap e:=rfl
theorem SS.pwL(h:SS g level S){A:List K2}(C:∀e,e∈A↔e∈opK S)(D:A.Nodup):(wx S A).Pairwise fun a b=>kL a≠kL b:=by
 unfold wx;have j:∀e∈A,Cr g.Z level e:=fun e he=>h.cr (List.mem_filter.1 ((C e).1 he)).1
 obtain⟨c1,c2⟩:=qM (S:=S) (stK S) (dnK S);rw[List.pairwise_append];refine⟨?_,?_,?_⟩
 ·rw[List.pairwise_map];refine List.Pairwise.imp_of_mem (fun {a b} q z m hk=>m ?_) D;obtain⟨t,p⟩:=qV (S:=S) (e:=a);obtain⟨u,hu⟩:=qV (S:=S) (e:=b);unfold opL at hk;rw[p,hu,rj,rj]at hk;exact sW h.z40 (j a q) (j b z) hk
 ·rw[List.pairwise_map];refine List.Pairwise.imp_of_mem (fun {a b} q z m hk=>m ?_) c2;obtain⟨e,t,e1,e2,-⟩:=c1 a q;obtain⟨f,u,f1,f2,-⟩:=c1 b z;rw[e1,f1,rj,rj]at hk;rw[e1,f1,sW h.z40 (h.cr e2) (h.cr f2) hk];rfl
 ·intro x E y I hk;obtain⟨e,he,rfl⟩:=List.mem_map.1 E;obtain⟨l,J,rfl⟩:=List.mem_map.1 I;obtain⟨t,p⟩:=qV (S:=S) (e:=e);obtain⟨f,u,f1,f2,f3⟩:=c1 l J;unfold opL at hk;rw[p,f1,rj,rj]at hk;have M:=sW h.z40 (j e he) (h.cr f2) hk;have:dnK S f=true:=Dy.2 ⟨e,(C e).1 he,by rw[p,M];simp⟩;rw[this]at f3;cases f3
theorem Cw{cr:K2->aw}{x:Ln}{e:K2}{t:List K2}(h:x.2=e::t)(hc:(cr e).A=e.e0/\(cr e).B=e.e1):kC (toL cr x)=kL x:=by
 unfold kC fK toL toC kL;rw[h];show kap (A2.mk (cr e).A (cr e).B)=kap e;rw[hc.1,hc.2]
theorem GA(j:g.Z.length<=40){cr:K2->aw}{x:Ln}{e:K2}{t:List K2}(h:x.2=e::t)(hc:(cr e).A=e.e0/\(cr e).B=e.e1)(he:Cr g.Z level e):okC (toL cr x):=by
 have:=he.bd;unfold okC fK toL toC;rw[h];show 0<(t.map cr).length+1/\0<=(cr e).A/\(cr e).A<40/\0<=(cr e).B/\(cr e).B<40;rw[hc.1,hc.2];omega
theorem Ai{A:List K2}(j:A.length<=60)(m:S.length<=60):(wx S A).length<=120:=by
 unfold wx;rw[List.length_append,List.length_map,List.length_map];have h1:=za (S:=S) (stK S) (dnK S);have h2:(stK S).length=S.length:=by unfold stK;rw[me,List.length_map]
 omega
theorem HK{w h:Nat}(E:Gd g w h)(D:g.Z.any pO=false)(m:g.Z.length<=40)(I:-2097153<=level/\level<=2097153):iH 20000 g level=some ((uT (oa g w h level)).map (toL (crP g level))):=by
 have hs:=FN E D m level;have z:=Dt E level;have U:∀e,Cr g.Z level e->cv 20000 g level e=some (crP g level e):=fun e he=>(vW I he).1
 have O:=JC (n:=20000) (level:=level) (by omega) E D g.X0 g.Y0 g.Step g.Width g.Height;have fold:=AT (oa g w h level) [] (by rw[List.nil_append];exact z);rw[List.map_nil,List.nil_append]at fold;rw[fold]at O;generalize eS:oa g w h level=S at*;have T:(stK S).length=S.length:=by unfold stK;rw[me,List.length_map]
 have Y:(opK S).length<=60:=by
  have h1:(opK S).length<=(stK S).length:=List.length_filter_le _ _;have:=hs.len;omega
 have j:∀{e},Cr g.Z level e->(crP g level e).A=e.e0/\(crP g level e).B=e.e1:=fun he=>⟨(vW I he).2.1,(vW I he).2.2.1⟩
 refine EY (S:=stK S) O (by have:=hs.len;show S.length<=100000;omega) (fun p hp=>?_) T ?_
 ·have hp:p.Perm (S.map (·.1)):=hp;have hk:∀e∈p,Cr g.Z level e:=fun e he=>by
   obtain⟨q,hq,rfl⟩:=List.mem_map.1 (hp.mem_iff.1 he);exact(hs.ge.k q hq).1
  rw[DZ (by rw[hp.length_eq,List.length_map];have:=hs.len;omega) fun e he=>by have:=(hk e he).bd;omega];congr 1;refine w8 (κ:=kap) (xy ?_) hs.keys fun e=>?_
  ·have h1:p.Nodup:=hp.nodup_iff.2 (by unfold List.Nodup;rw[List.pairwise_map];exact z.imp fun h=>h.1);exact List.Pairwise.imp_of_mem (fun {a b} J D C M=>C (sW m (hk a J) (hk b D) M)) h1
  ·unfold stK;rw[jN,jN,hp.mem_iff]
 ·have key:=EZ (F:=iX (ltK kC)) z hs.ge U hs.len hs.nd (by have:=hs.len;omega) (fun e he=>hs.cr he) ?_
  ·rw[T]at key;obtain⟨r,e,c,hO,hr⟩:=key;show uo 20000 g level (S,bk S) (S.length:Int) (stK S)=_;rw[e,hr,hO.C9 (fun _=>Iff.rfl)];congr 1;refine yg fun y N=>?_
   obtain⟨e,t,h1,h2⟩:=hs.Dd (fun _=>Iff.rfl) y N;exact Cw h1 (j h2)
  ·intro c hO;have hO:Op S (crP g level) (opK S) c:=hO;rw[hO.C9 (fun _=>Iff.rfl)];refine⟨Jw (by rw[List.length_map];have:=Ai Y hs.len;omega) (fun y N=>?_) ?_,me⟩
   ·obtain⟨x,hx,rfl⟩:=List.mem_map.1 N;obtain⟨e,t,h1,h2⟩:=hs.Dd (fun _=>Iff.rfl) x hx;exact GA m h1 (j h2) h2
   ·rw[List.pairwise_map];refine(hs.pwL (fun _=>Iff.rfl) (hs.nd.sublist List.filter_sublist)).imp_of_mem fun {a b} J D C hk=>C ?_
    obtain⟨e,t,h1,h2⟩:=hs.Dd (fun _=>Iff.rfl) a J;obtain⟨f,u,h3,h4⟩:=hs.Dd (fun _=>Iff.rfl) b D;rw[Cw h1 (j h2),Cw h3 (j h4)]at hk;exact hk
end
end Go.L


set_option linter.all false
namespace Go.L
open Go Go.Eng
def loT(k w:Int):A3 Int:=A3.mk k (k+1) (k+w+1)
def upT(k w:Int):A3 Int:=A3.mk k (k+w+1) (k+w)
def cel(w j i:Nat):Int:=((j*w+i:Nat):Int)
theorem uK{w h:Nat}(hw:2<=w/\w<=64)(q:2<=h/\h<=64){t:A3 Int}:t∈cJ (w:Int) (w-1) (h-1)↔∃j i:Nat,j<h-1/\i<w-1/\(t=loT (cel w j i) w\/t=upT (cel w j i) w):=by
 unfold cJ A0;rw[List.mem_flatMap];constructor
 ·rintro⟨j,p,m⟩;obtain⟨i,hi,m⟩:=List.mem_flatMap.1 m;rw[List.mem_range]at p hi;rw[xh hw.2 (by omega) (by omega)]at m;simp only[List.mem_cons,List.not_mem_nil,or_false]at m;exact⟨j,i,p,hi,m⟩
 ·rintro⟨j,i,p,hi,m⟩;refine⟨j,List.mem_range.2 p,List.mem_flatMap.2 ⟨i,List.mem_range.2 hi,?_⟩⟩;rw[xh hw.2 (by omega) (by omega)];simp only[List.mem_cons,List.not_mem_nil,or_false];exact m
structure Lw (g:aj) (w h:Nat) (level:Int):Prop where
 data:∀k:Nat,k<g.Z.length->gt g.Z (k:Int)≠ -2147483648
 low:∀j i:Nat,j<h->i<w->(i=0\/j=0\/i=w-1\/j=h-1)->abv g.Z level (cel w j i)=false
section
variable{g:aj}{w h:Nat}{level:Int}
theorem Lw.all(q:Lw g w h level)(j:Gd g w h):jd g w h=cJ (w:Int) (w-1) (h-1):=by
 unfold jd;rw[j.W];refine List.filter_eq_self.2 fun t z=>?_
 have p:t∈cJ g.Width (w-1) (h-1):=by rw[j.W];exact z
 obtain⟨i0,i1,i2⟩:=xi j p;have key:∀{k:Int},inR k g.Z.length=true->(gt g.Z k != -2147483648)=true:=by
  intro k hk;have C:=iK.1 hk;obtain⟨m,rfl⟩:∃m:Nat,k=(m:Int):=⟨k.toNat,by omega⟩;simpa using q.data m (by omega)
 unfold gQ;rw[key i0,key i1,key i2];rfl
theorem JH{w j i:Nat}(p:1<=j):cel w (j-1) i+w=cel w j i:=by
 unfold cel;obtain⟨j,rfl⟩:∃m,j=m+1:=⟨j-1,by omega⟩;rw[Nat.add_sub_cancel,Nat.add_mul,Nat.one_mul];omega
theorem pY{w j i:Nat}:cel w (j+1) i=cel w j i+w:=by
 unfold cel;rw[Nat.add_mul,Nat.one_mul];omega
theorem oS{w j i:Nat}:cel w j (i+1)=cel w j i+1:=by unfold cel;omega
theorem II{w j i:Nat}(hi:1<=i):cel w j (i-1)+1=cel w j i:=by unfold cel;omega
theorem nbr(m:Lw g w h level)(C:Gd g w h){t:A3 Int}(q:t∈jd g w h){a b:Int}(hm:(a,b)∈dE t)(I:abv g.Z level a≠abv g.Z level b):∃p∈jd g w h,(b,a)∈dE p:=by
 rw[m.all C]at q ⊢;have hw:=C.w1;have E:=C.h1;obtain⟨j,i,z,hi,q⟩:=(uK hw E).1 q;have put:∀(j' i':Nat),j'<h-1->i'<w-1->∀p,(p=loT (cel w j' i') w\/p=upT (cel w j' i') w)->(b,a)∈dE p->∃p∈cJ (w:Int) (w-1) (h-1),(b,a)∈dE p:=fun j' i' h1 h2 p J M=>⟨p,(uK hw E).2 ⟨j',i',h1,h2,J⟩,M⟩
 have bad:∀{x y:Int},abv g.Z level x=false->abv g.Z level y=false->x=a->y=b->False:=fun h1 h2 e1 e2=>I (by rw[<-e1,<-e2,h1,h2])
 rcases q with rfl|rfl
 ·simp only[dE,loT,List.mem_cons,List.not_mem_nil,or_false,Prod.mk.injEq]at hm;rcases hm with⟨rfl,rfl⟩|⟨rfl,rfl⟩|⟨rfl,rfl⟩
  ·by_cases D:j=0
   ·exact(bad (m.low j i (by omega) (by omega) (by omega)) (m.low j (i+1) (by omega) (by omega) (by omega)) rfl oS).elim
   ·refine put (j-1) i (by omega) hi _ (.inr rfl) ?_;have:=JH (w:=w) (j:=j) (i:=i) (by omega);simp only[dE,upT,List.mem_cons,List.not_mem_nil,or_false,Prod.mk.injEq];omega
  ·by_cases D:i=w-2
   ·refine(bad (m.low j (i+1) (by omega) (by omega) (by omega)) (m.low (j+1) (i+1) (by omega) (by omega) (by omega)) oS ?_).elim;rw[pY,oS];omega
   ·refine put j (i+1) z (by omega) _ (.inr rfl) ?_;have:=oS (w:=w) (j:=j) (i:=i);simp only[dE,upT,List.mem_cons,List.not_mem_nil,or_false,Prod.mk.injEq];omega
  ·refine put j i z hi _ (.inr rfl) ?_;simp only[dE,upT,List.mem_cons,List.not_mem_nil,or_false,Prod.mk.injEq];simp
 ·simp only[dE,upT,List.mem_cons,List.not_mem_nil,or_false,Prod.mk.injEq]at hm;rcases hm with⟨rfl,rfl⟩|⟨rfl,rfl⟩|⟨rfl,rfl⟩
  ·refine put j i z hi _ (.inl rfl) ?_;simp only[dE,loT,List.mem_cons,List.not_mem_nil,or_false,Prod.mk.injEq];simp
  ·by_cases D:j=h-2
   ·refine(bad (m.low (j+1) (i+1) (by omega) (by omega) (by omega)) (m.low (j+1) i (by omega) (by omega) (by omega)) ?_ pY).elim;rw[pY,oS];omega
   ·refine put (j+1) i (by omega) hi _ (.inl rfl) ?_;have:=pY (w:=w) (j:=j) (i:=i);simp only[dE,loT,List.mem_cons,List.not_mem_nil,or_false,Prod.mk.injEq];omega
  ·by_cases D:i=0
   ·exact(bad (m.low (j+1) i (by omega) (by omega) (by omega)) (m.low j i (by omega) (by omega) (by omega)) pY rfl).elim
   ·refine put j (i-1) z (by omega) _ (.inl rfl) ?_;have:=II (w:=w) (j:=j) (i:=i) (by omega);simp only[dE,loT,List.mem_cons,List.not_mem_nil,or_false,Prod.mk.injEq];omega
theorem Gm{Z:List Int}{t:A3 Int}{a b:Int}(hm:(a,b)∈dE t)(j:abv Z level a≠abv Z level b):∃q,seg Z level t=some q/\(abv Z level a=true->q.1=A2.mk (mn a b) (mx a b))/\(abv Z level a=false->q.2=A2.mk (mn a b) (mx a b)):=by
 have e:Cp Z level t 3=stp Z level (stp Z level (stp Z level (0,0,0,0,false) t.e0 t.e1) t.e1 t.e2) t.e2 t.e0:=rfl;unfold seg;rw[e];clear e;simp only[dE,List.mem_cons,List.not_mem_nil,or_false,Prod.mk.injEq]at hm;rcases hm with⟨rfl,rfl⟩|⟨rfl,rfl⟩|⟨rfl,rfl⟩<;>
  cases m:abv Z level t.e0<;>cases p:abv Z level t.e1<;>cases hc:abv Z level t.e2<;>simp_all [stp,Bx]
theorem Ir(a b:Int):A2.mk (mn a b) (mx a b)=A2.mk (mn b a) (mx b a):=by
 unfold mn mx;by_cases h:b<a
 ·rw[if_pos h,if_neg (by omega),if_neg (by omega),if_pos (by omega)]
 ·by_cases h2:a<b
  ·rw[if_neg h,if_pos (by omega),if_pos h2,if_neg (by omega)]
  ·have:a=b:=by omega
   subst this;rfl
structure Cy (S:List (K2×K2)):Prop where
 pw:S.Pairwise Rq
 len:S.length<=60
 fw:∀q∈S,cG S q.2=true
 bw:∀q∈S,∃q'∈S,q'.2=q.1
theorem K6(T:Lw g w h level)(z:Gd g w h)(U:g.Z.any pO=false)(C:g.Z.length<=40):Cy (oa g w h level):=by
 have hs:=FN z U C level;refine⟨hs.pw,hs.len,fun q p=>?_,fun q p=>?_⟩
 ·unfold oa at p;obtain⟨t,D,e⟩:=List.mem_filterMap.1 p;obtain⟨-,a,b,m,h1,h2,E⟩:=oe e;obtain⟨I,j,J⟩:=nbr T z D m (by rw[h1,h2];simp);obtain⟨M,N,O,-⟩:=Gm (Z:=g.Z) (level:=level) J (by rw[h1,h2];simp);refine iZ.2 ⟨M,List.mem_filterMap.2 ⟨I,j,N⟩,?_⟩;rw[O h2,E,Ir]
 ·unfold oa at p;obtain⟨t,D,e⟩:=List.mem_filterMap.1 p;obtain⟨⟨a,b,m,h1,h2,E⟩,-⟩:=oe e;obtain⟨I,j,J⟩:=nbr T z D m (by rw[h1,h2];simp);obtain⟨M,N,-,O⟩:=Gm (Z:=g.Z) (level:=level) J (by rw[h1,h2];simp);refine⟨M,List.mem_filterMap.2 ⟨I,j,N⟩,?_⟩;rw[O h2,E,Ir]
end
end Go.L


set_option linter.all false
namespace Go.L
open Go Go.Eng
section
variable{g:aj}{level:Int}{S:List (K2×K2)}
theorem F3(h:SS g level S):(uT S).length<=120:=by
 unfold uT;rw[me];refine Ai ?_ h.len;have h1:(opK S).length<=(stK S).length:=List.length_filter_le _ _;have h2:(stK S).length=S.length:=by unfold stK;rw[me,List.length_map]
 have:=h.len;omega
theorem I8{α β:Type}[Inhabited α][Inhabited β]{f:α->β}{l:List α}{k:Nat}(h:k<l.length):gt (l.map f) (k:Int)=f l[k]:=by
 rw[BR (by rw[List.length_map];exact h),List.getElem_map]
end
end Go.L

