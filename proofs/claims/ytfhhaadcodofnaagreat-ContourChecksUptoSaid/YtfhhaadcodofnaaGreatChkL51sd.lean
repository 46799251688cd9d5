import Derived.Test.YtfhhaadcodofnaaGreatChkL51i
import Derived.Test.YtfhhaadcodofnaaGreatChkL51c
import Derived.Test.YtfhhaadcodofnaaGreatChkL51c
set_option linter.all false
namespace Go.L
open Go Go.Eng
theorem oW{α:Type}{κ:α->Int}:∀{l m:List α},l.Pairwise (fun a b=>κ a<κ b)->m.Pairwise (fun a b=>κ a<κ b)->(∀x,x∈l↔x∈m)->l=m
 |[],[],_,_,_=>rfl
 |[],y::m,_,_,h=>by have:=(h y).2 (by simp);cases this
 |x::l,[],_,_,h=>by have:=(h x).1 (by simp);cases this
 |x::l,y::m,q,hm,h=>by
  rw[List.pairwise_cons]at q hm;have e:x=y:=by
   rcases List.mem_cons.1 ((h x).1 (by simp))with e|e
   ·exact e
   ·rcases List.mem_cons.1 ((h y).2 (by simp))with C|C
    ·exact C.symm
    ·have a:=hm.1 x e;have b:=q.1 y C;omega
  subst e;congr 1;refine oW q.2 hm.2 fun z=>⟨fun j=>?_,fun j=>?_⟩
  ·rcases List.mem_cons.1 ((h z).1 (List.mem_cons_of_mem _ j))with e|e
   ·subst e;have:=q.1 z j;omega
   ·exact e
  ·rcases List.mem_cons.1 ((h z).2 (List.mem_cons_of_mem _ j))with e|e
   ·subst e;have:=hm.1 z j;omega
   ·exact e
theorem vy{S:List (K2×K2)}{a b d:Nat}{e:K2}:e∈yu S a b d↔∃c:Nat,b<=c/\c<b+d/\e=A2.mk (a:Int) (c:Int)/\de S e=true:=by
 unfold yu;rw[List.mem_filter,List.mem_map];constructor
 ·rintro⟨⟨c,hc,rfl⟩,h⟩;rw[List.mem_range'_1]at hc;exact⟨c,hc.1,hc.2,rfl,h⟩
 ·rintro⟨c,h1,h2,rfl,h⟩;exact⟨⟨c,by rw[List.mem_range'_1];exact⟨h1,h2⟩,rfl⟩,h⟩
theorem Ep{S:List (K2×K2)}{m:Nat}{e:K2}:e∈lD S m 0 m↔de S e=true/\∃a c:Nat,a<c/\c<m/\e=A2.mk (a:Int) (c:Int):=by
 unfold lD;rw[List.mem_flatMap];constructor
 ·rintro⟨a,ha,h⟩;rw[List.mem_range'_1]at ha;obtain⟨c,h1,h2,j,q⟩:=vy.1 h;exact⟨q,a,c,by omega,by omega,j⟩
 ·rintro⟨q,a,c,h1,h2,j⟩;exact⟨a,by rw[List.mem_range'_1];omega,vy.2 ⟨c,by omega,by omega,j,q⟩⟩
theorem Fp{S:List (K2×K2)}{m:Nat}(hm:m<=40):(lD S m 0 m).Pairwise fun a b=>kap a<kap b:=by
 unfold lD;rw[List.pairwise_flatMap];constructor
 ·intro a _;unfold yu;refine List.Pairwise.filter _ ?_;rw[List.pairwise_map];refine(List.pairwise_lt_range' (step:=1)).imp fun {x y} h=>?_
  show(a:Int)*4096+(x:Int)<(a:Int)*4096+(y:Int);omega
 ·refine(List.pairwise_lt_range' (s:=0) (n:=m)).imp_of_mem fun {a b} ha hb h=>?_
  rw[List.mem_range'_1]at ha hb;intro x hx y j;obtain⟨c,h1,h2,rfl,-⟩:=vy.1 hx;obtain⟨d,q,z,rfl,-⟩:=vy.1 j;show(a:Int)*4096+(c:Int)<(b:Int)*4096+(d:Int);omega
abbrev Ln:=Bool×List K2
def toL(cr:K2->ah)(x:Ln):aa:=toC cr x.1 x.2
def kL(x:Ln):Int:=kap (x.2.headD (A2.mk 0 0))
def stK(S:List (K2×K2)):List K2:=fJ (ltK kap) (S.map (·.1))
def opK(S:List (K2×K2)):List K2:=(stK S).filter (opn S)
def dnK(S:List (K2×K2))(x:K2):Bool:=(opK S).any fun e=>(path S e).contains x
def opL(S:List (K2×K2))(e:K2):Ln:=(false,path S e)
def uN(S:List (K2×K2))(A:List K2):List Ln:=A.map (opL S)++(CLs S (stK S) (dnK S)).map fun l=>(true,l)
def vg(S:List (K2×K2)):List Ln:=fJ (ltK kL) (uN S (opK S))
theorem oF{S:List (K2×K2)}{e:K2}:∃t,path S e=e::t:=AM (by omega) rfl
section
variable{g:an}{level:Int}{S:List (K2×K2)}
structure SS (g:an) (level:Int) (S:List (K2×K2)):Prop where
 z40:g.Z.length<=40
 pw:S.Pairwise Rq
 ge:Ge S (Cr g.Z level)
 len:S.length<=60
theorem Fk{w h:Nat}(j:Gd g w h)(hb:g.Z.any qM=false)(q:g.Z.length<=40)(level:Int):SS g level (tG g w h level):=by
 refine⟨q,AY j level,GF j hb,?_⟩;have h1:(tG g w h level).length<=(lU g w h).length:=List.length_filterMap_le _ _;have h2:=Jg j.w1.1 j.h1.1 (by rw[<-j.m];exact q);have z:(lU g w h).length<=2*((w-1)*(h-1)):=HG;omega
theorem tm{e:K2}:e∈stK S↔de S e=true:=by
 unfold stK;rw[iw,List.mem_map,jA]
theorem SS.cr(h:SS g level S){e:K2}(he:e∈stK S):Cr g.Z level e:=by
 obtain⟨q,j,rfl⟩:=jA.1 (tm.1 he);exact(h.ge.k q j).1
theorem SS.keys(h:SS g level S):(stK S).Pairwise fun a b=>kap a<kap b:=by
 unfold stK;refine qF ?_;rw[List.pairwise_map];refine h.pw.imp_of_mem fun {a b} ha hb j hk=>j.1 ?_
 exact ve h.z40 (h.ge.k a ha).1 (h.ge.k b hb).1 hk
theorem SS.FM(h:SS g level S):lD S g.Z.length 0 g.Z.length=stK S:=by
 refine oW (κ:=kap) (Fp h.z40) h.keys fun e=>?_
 rw[Ep,tm];refine⟨fun h=>h.1,fun he=>⟨he,?_⟩⟩;have:=(h.cr (tm.2 he)).bd;obtain⟨a,b⟩:=e;dsimp only at this;exact⟨a.toNat,b.toNat,by omega,by omega,by congr 1<;>omega⟩
theorem SS.nd(h:SS g level S):(stK S).Nodup:=h.keys.imp fun {a b} k=>by rintro rfl;omega
theorem Al{x:K2}:dnK S x=true↔∃e∈opK S,x∈path S e:=by
 unfold dnK;rw[List.any_eq_true];simp only[List.contains_iff_mem]
theorem Op.HZ{cr:K2->ah}{A:List K2}{c:List (K2×Bool)×List aa}(j:∀e,e∈A↔e∈opK S)(h:Op S cr A c):dn c.1=dnK S:=by
 funext x;have h1:=h.mem x;have h2:=Al (S:=S) (x:=x);have m:dn c.1 x=true↔dnK S x=true:=by
  rw[h1,h2];exact⟨fun⟨e,a,b⟩=>⟨e,(j e).1 a,b⟩,fun⟨e,a,b⟩=>⟨e,(j e).2 a,b⟩⟩
 cases ha:dn c.1 x<;>cases hb:dnK S x<;>simp[ha,hb]at m ⊢
theorem Op.xv{cr:K2->ah}{A:List K2}{c:List (K2×Bool)×List aa}(j:∀e,e∈A↔e∈opK S)(h:Op S cr A c):c.2++(CLs S (stK S) (dn c.1)).map (toC cr true)=(uN S A).map (toL cr):=by
 unfold uN;rw[h.HZ j,h.out,List.map_append,List.map_map,List.map_map];rfl
theorem SS.zE(h:SS g level S){A:List K2}(j:∀e,e∈A↔e∈opK S):∀x∈uN S A,∃e t,x.2=e::t/\Cr g.Z level e:=by
 intro x hx;unfold uN at hx;rcases List.mem_append.1 hx with hx|hx
 ·obtain⟨e,he,rfl⟩:=List.mem_map.1 hx;obtain⟨t,m⟩:=oF (S:=S) (e:=e);exact⟨e,t,m,h.cr (List.mem_filter.1 ((j e).1 he)).1⟩
 ·obtain⟨l,q,rfl⟩:=List.mem_map.1 hx;obtain⟨e,t,e1,e2,-⟩:=(qi (stK S) (dnK S)).1 l q;exact⟨e,t,e1,h.cr e2⟩
theorem tx{b:Bool}{e:K2}{t:List K2}:kL (b,e::t)=kap e:=rfl
theorem SS.pwL(h:SS g level S){A:List K2}(z:∀e,e∈A↔e∈opK S)(C:A.Nodup):(uN S A).Pairwise fun a b=>kL a≠kL b:=by
 unfold uN;have j:∀e∈A,Cr g.Z level e:=fun e he=>h.cr (List.mem_filter.1 ((z e).1 he)).1
 obtain⟨c1,c2⟩:=qi (S:=S) (stK S) (dnK S);rw[List.pairwise_append];refine⟨?_,?_,?_⟩
 ·rw[List.pairwise_map];refine List.Pairwise.imp_of_mem (fun {a b} ha hb m hk=>m ?_) C;obtain⟨t,q⟩:=oF (S:=S) (e:=a);obtain⟨u,hu⟩:=oF (S:=S) (e:=b);unfold opL at hk;rw[q,hu,tx,tx]at hk;exact ve h.z40 (j a ha) (j b hb) hk
 ·rw[List.pairwise_map];refine List.Pairwise.imp_of_mem (fun {a b} ha hb m hk=>m ?_) c2;obtain⟨e,t,e1,e2,-⟩:=c1 a ha;obtain⟨f,u,f1,f2,-⟩:=c1 b hb;rw[e1,f1,tx,tx]at hk;rw[e1,f1,ve h.z40 (h.cr e2) (h.cr f2) hk];rfl
 ·intro x hx y D hk;obtain⟨e,he,rfl⟩:=List.mem_map.1 hx;obtain⟨l,E,rfl⟩:=List.mem_map.1 D;obtain⟨t,q⟩:=oF (S:=S) (e:=e);obtain⟨f,u,f1,f2,f3⟩:=c1 l E;unfold opL at hk;rw[q,f1,tx,tx]at hk;have I:=ve h.z40 (j e he) (h.cr f2) hk;have:dnK S f=true:=Al.2 ⟨e,(z e).1 he,by rw[q,I];simp⟩;rw[this]at f3;cases f3
theorem AH{cr:K2->ah}{x:Ln}{e:K2}{t:List K2}(h:x.2=e::t)(hc:(cr e).A=e.e0/\(cr e).B=e.e1):kC (toL cr x)=kL x:=by
 unfold kC fK toL toC kL;rw[h];show kap (A2.mk (cr e).A (cr e).B)=kap e;rw[hc.1,hc.2]
theorem Ds(j:g.Z.length<=40){cr:K2->ah}{x:Ln}{e:K2}{t:List K2}(h:x.2=e::t)(hc:(cr e).A=e.e0/\(cr e).B=e.e1)(he:Cr g.Z level e):okC (toL cr x):=by
 have:=he.bd;unfold okC fK toL toC;rw[h];show 0<(t.map cr).length+1/\0<=(cr e).A/\(cr e).A<40/\0<=(cr e).B/\(cr e).B<40;rw[hc.1,hc.2];omega
theorem xO{A:List K2}(j:A.length<=60)(m:S.length<=60):(uN S A).length<=120:=by
 unfold uN;rw[List.length_append,List.length_map,List.length_map];have h1:=AO (S:=S) (stK S) (dnK S);have h2:(stK S).length=S.length:=by unfold stK;rw[kR,List.length_map]
 omega
theorem wV(h:SS g level S):(vg S).Pairwise fun a b=>kL a<kL b:=qF (h.pwL (fun _=>Iff.rfl) (h.nd.sublist List.filter_sublist))
theorem GD{w h:Nat}(D:Gd g w h)(hb:g.Z.any qM=false)(m:g.Z.length<=40)(E:-2097153<=level/\level<=2097153):im 20000 g level=some ((vg (tG g w h level)).map (toL (crP g level))):=by
 have hs:=Fk D hb m level;have z:=AY D level;have T:∀e,Cr g.Z level e->dh 20000 g level e=some (crP g level e):=fun e he=>(xy E he).1
 have N:=Is (n:=20000) (level:=level) (by omega) D hb g.X0 g.Y0 g.Step g.Width g.Height;have fold:=xN (tG g w h level) [] (by rw[List.nil_append];exact z);rw[List.map_nil,List.nil_append]at fold;rw[fold]at N;generalize eS:tG g w h level=S at*;have O:(stK S).length=S.length:=by unfold stK;rw[kR,List.length_map]
 have U:(opK S).length<=60:=by
  have h1:(opK S).length<=(stK S).length:=List.length_filter_le _ _;have:=hs.len;omega
 have j:∀{e},Cr g.Z level e->(crP g level e).A=e.e0/\(crP g level e).B=e.e1:=fun he=>⟨(xy E he).2.1,(xy E he).2.2.1⟩
 refine BJ (S:=stK S) N (by have:=hs.len;show S.length<=100000;omega) (fun p hp=>?_) O ?_
 ·have hp:p.Perm (S.map (·.1)):=hp;have hk:∀e∈p,Cr g.Z level e:=fun e he=>by
   obtain⟨q,Y,rfl⟩:=List.mem_map.1 (hp.mem_iff.1 he);exact(hs.ge.k q Y).1
  rw[DZ (by rw[hp.length_eq,List.length_map];have:=hs.len;omega) fun e he=>by have:=(hk e he).bd;omega];congr 1;refine oW (κ:=kap) (qF ?_) hs.keys fun e=>?_
  ·have h1:p.Nodup:=hp.nodup_iff.2 (by unfold List.Nodup;rw[List.pairwise_map];exact z.imp fun h=>h.1);exact List.Pairwise.imp_of_mem (fun {a b} ha hb C I=>C (ve m (hk a ha) (hk b hb) I)) h1
  ·unfold stK;rw[iw,iw,hp.mem_iff]
 ·have key:=FH (F:=fJ (ltK kC)) z hs.ge T hs.len hs.nd (by have:=hs.len;omega) (fun e he=>hs.cr he) ?_
  ·rw[O]at key;obtain⟨r,e,c,hO,hr⟩:=key;show sH 20000 g level (S,bk S) (S.length:Int) (stK S)=_;rw[e,hr,hO.xv (fun _=>Iff.rfl)];congr 1;refine wu fun y J=>?_
   obtain⟨e,t,h1,h2⟩:=hs.zE (fun _=>Iff.rfl) y J;exact AH h1 (j h2)
  ·intro c hO;have hO:Op S (crP g level) (opK S) c:=hO;rw[hO.xv (fun _=>Iff.rfl)];refine⟨Iz (by rw[List.length_map];have:=xO U hs.len;omega) (fun y J=>?_) ?_,kR⟩
   ·obtain⟨x,hx,rfl⟩:=List.mem_map.1 J;obtain⟨e,t,h1,h2⟩:=hs.zE (fun _=>Iff.rfl) x hx;exact Ds m h1 (j h2) h2
   ·rw[List.pairwise_map];refine(hs.pwL (fun _=>Iff.rfl) (hs.nd.sublist List.filter_sublist)).imp_of_mem fun {a b} ha hb C hk=>C ?_
    obtain⟨e,t,h1,h2⟩:=hs.zE (fun _=>Iff.rfl) a ha;obtain⟨f,u,h3,h4⟩:=hs.zE (fun _=>Iff.rfl) b hb;rw[AH h1 (j h2),AH h3 (j h4)]at hk;exact hk
theorem G2{w h:Nat}(I:Gd g w h)(hb:g.Z.any qM=false)(z:g.Z.length<=40)(J:-2097153<=level/\level<=2097153):fF 20000 g level=some ((vg (tG g w h level)).map (toL (crR g level))):=by
 have hs:=Fk I hb z level;have C:=AY I level;have hR:∀e,Cr g.Z level e->bX 20000 g level e=some (crR g level e):=fun e he=>(xJ J he).1
 generalize eS:tG g w h level=S at*;have lK:(stK S).length=S.length:=by unfold stK;rw[kR,List.length_map]
 have lA:(opK S).length<=60:=by
  have h1:(opK S).length<=(stK S).length:=List.length_filter_le _ _;have:=hs.len;omega
 have j:∀e,e∈(S.map (·.1)).filter (opn S)↔e∈opK S:=fun e=>by
  unfold opK stK;rw[List.mem_filter,List.mem_filter,iw]
 have N:((S.map (·.1)).filter (opn S)).Nodup:=by
  refine List.Nodup.sublist List.filter_sublist ?_;unfold List.Nodup;rw[List.pairwise_map];exact C.imp fun h=>h.1
 have D:∀{e},Cr g.Z level e->(crR g level e).A=e.e0/\(crR g level e).B=e.e1:=fun he=>⟨(xJ J he).2.1,(xJ J he).2.2.1⟩
 have O:((S.map (·.1)).filter (opn S)).length<=60:=by
  have h1:=List.length_filter_le (opn S) (S.map (·.1));rw[List.length_map]at h1;have:=hs.len;omega
 have key:=Fg (F:=fun out=>(fJ gK out.reverse).reverse) I hb z eS C hs.ge hR hs.len ?_
 ·obtain⟨r,e,c,hO,Y⟩:=key;rw[hs.FM,hO.xv j]at Y;rw[e,Y];congr 1;have T:=hs.zE j;have e1:fJ gK ((uN S ((S.map (·.1)).filter (opn S))).map (toL (crR g level))).reverse=(fJ (ltK fun x=>-kL x) (uN S ((S.map (·.1)).filter (opn S))).reverse).map (toL (crR g level)):=by
   rw[<-List.map_reverse];refine wu (p:=fun c=>-kC c) (q:=fun x=>-kL x) fun y E=>?_
   obtain⟨e,t,h1,h2⟩:=T y (List.mem_reverse.1 E);show-kC (toL (crR g level) y)=-kL y;rw[AH h1 (D h2)]
  rw[e1,<-List.map_reverse];congr 1;have U:=hs.pwL j N;refine oW (κ:=kL) ?_ (wV hs) fun x=>?_
  ·rw[List.pairwise_reverse];have:=qF (κ:=fun x=>-kL x) (l:=(uN S ((S.map (·.1)).filter (opn S))).reverse) (by
    rw[List.pairwise_reverse];exact U.imp fun h k=>h (by omega))
   exact this.imp fun h=>by omega
  ·unfold vg;rw[List.mem_reverse,iw,List.mem_reverse,iw];unfold uN;simp only[List.mem_append,List.mem_map,j]
 ·intro c hO out m;rw[hs.FM,hO.xv j]at m;have T:=hs.zE j;refine IB (by rw[m,List.length_map];have:=xO O hs.len;omega) fun y E=>?_
  rw[m]at E;obtain⟨x,hx,rfl⟩:=List.mem_map.1 E;obtain⟨e,t,h1,h2⟩:=T x hx;exact Ds z h1 (D h2) h2
end
end Go.L


set_option linter.all false
namespace Go.L
open Go Go.Eng
def cel(w j i:Nat):Int:=((j*w+i:Nat):Int)
structure Lw (g:an) (w h:Nat) (level:Int):Prop where
 data:∀k:Nat,k<g.Z.length->gt g.Z (k:Int)≠ -2147483648
 low:∀j i:Nat,j<h->i<w->(i=0\/j=0\/i=w-1\/j=h-1)->abv g.Z level (cel w j i)=false
section
variable{g:an}{w h:Nat}{level:Int}
theorem Lw.all(z:Lw g w h level)(j:Gd g w h):lU g w h=oq (w:Int) (w-1) (h-1):=by
 unfold lU;rw[j.W];refine List.filter_eq_self.2 fun t C=>?_
 have q:t∈oq g.Width (w-1) (h-1):=by rw[j.W];exact C
 obtain⟨i0,i1,i2⟩:=F9 j q;have key:∀{k:Int},inR k g.Z.length=true->(gt g.Z k != -2147483648)=true:=by
  intro k hk;have D:=kY.1 hk;obtain⟨m,rfl⟩:∃m:Nat,k=(m:Int):=⟨k.toNat,by omega⟩;simpa using z.data m (by omega)
 unfold pg;rw[key i0,key i1,key i2];rfl
end
end Go.L


set_option linter.all false
namespace Go.L
open Go Go.Eng
theorem yq{S:List (K2×K2)}{P:K2->Prop}(h:Ge S P):∀(L:List K2) (D:K2->Bool),(∀e∈L,P e)->∀l∈CLs S L D,∀x∈l,P x
 |[],_,_,l,j=>by cases j
 |e::L,D,m,l,j=>by
  unfold CLs at j;split at j
  ·exact yq h L _ (fun e he=>m e (List.mem_cons_of_mem _ he)) l j
  ·rcases List.mem_cons.1 j with rfl|j
   ·exact fun x hx=>CC h 100 D e (m e (by simp)) x hx
   ·exact yq h L _ (fun e he=>m e (List.mem_cons_of_mem _ he)) l j
theorem uD{S:List (K2×K2)}:∀(L:List K2) (D:K2->Bool),∀l∈CLs S L D,l.length<=100
 |[],_,l,j=>by cases j
 |e::L,D,l,j=>by
  unfold CLs at j;split at j
  ·exact uD L _ l j
  ·rcases List.mem_cons.1 j with rfl|j
   ·exact Gj 100 D e
   ·exact uD L _ l j
section
variable{g:an}{level:Int}{S:List (K2×K2)}
theorem yb{x:Ln}:x∈vg S↔(∃e∈opK S,x=(false,path S e))\/∃l∈CLs S (stK S) (dnK S),x=(true,l):=by
 unfold vg uN opL;rw[iw,List.mem_append,List.mem_map,List.mem_map];constructor
 ·rintro(⟨e,h,rfl⟩|⟨e,h,rfl⟩)
  ·exact .inl ⟨e,h,rfl⟩
  ·exact .inr ⟨e,h,rfl⟩
 ·rintro(⟨e,h,rfl⟩|⟨e,h,rfl⟩)
  ·exact .inl ⟨e,h,rfl⟩
  ·exact .inr ⟨e,h,rfl⟩
theorem SS.pts(h:SS g level S){x:Ln}(hx:x∈vg S):(∀e∈x.2,Cr g.Z level e)/\x.2.length<=100:=by
 rcases yb.1 hx with⟨e,he,rfl⟩|⟨l,j,rfl⟩
 ·exact⟨fun y m=>CC h.ge 100 (fun _=>false) e (h.cr (List.mem_filter.1 he).1) y m,Gj 100 (fun _=>false) e⟩
 ·exact⟨yq h.ge _ _ (fun e he=>h.cr he) l j,uD _ _ l j⟩
theorem E7(h:SS g level S):(vg S).length<=120:=by
 unfold vg;rw[kR];refine xO ?_ h.len;have h1:(opK S).length<=(stK S).length:=List.length_filter_le _ _;have h2:(stK S).length=S.length:=by unfold stK;rw[kR,List.length_map]
 have:=h.len;omega
theorem E1{α β:Type}[Inhabited α][Inhabited β]{f:α->β}{l:List α}{k:Nat}(h:k<l.length):gt (l.map f) (k:Int)=f l[k]:=by
 rw[pM (by rw[List.length_map];exact h),List.getElem_map]
end
end Go.L


set_option linter.all false
namespace Go.L
open Go Go.Eng
section
variable{S:List (K2×K2)}
theorem GX{z:K2}:∀{f:Nat} {D:K2->Bool} {e:K2},0<(W S f D e).length->(W S f D e).getD 0 z=e
 |0,D,e,h=>by simp[W]at h
 |f+1,D,e,h=>by
  unfold W at h ⊢;by_cases j:D e=true
  ·rw[if_pos j]at h;simp at h
  ·rw[if_neg j];rfl
theorem EJ{z:K2}:∀(f:Nat) (D:K2->Bool) (e:K2) (k:Nat),k+1<(W S f D e).length->(W S f D e).getD (k+1) z=nxt S ((W S f D e).getD k z)
 |0,D,e,k,h=>by simp[W]at h
 |f+1,D,e,k,h=>by
  unfold W at h ⊢;by_cases j:D e=true
  ·rw[if_pos j]at h;simp at h
  ·rw[if_neg j]at h ⊢;by_cases m:de S e=true
   ·rw[if_pos m]at h ⊢;rw[List.length_cons]at h;cases k with
    |zero=>exact GX (by omega)
    |succ k=>exact EJ f _ _ k (by omega)
   ·rw[if_neg m]at h;simp at h
theorem AN:∀(f:Nat) (D:K2->Bool) (e:K2),(W S f D e).Nodup
 |0,D,e=>by simp[W]
 |f+1,D,e=>by
  unfold W;by_cases j:D e=true
  ·rw[if_pos j];simp
  ·rw[if_neg j];by_cases m:de S e=true
   ·rw[if_pos m,List.nodup_cons];refine⟨fun hm=>?_,AN f _ _⟩;have:=zI f _ _ _ hm;simp at this
   ·rw[if_neg m];simp
theorem yk{l:List K2}{x:K2}(h:x∈l)(z:K2):∃k,k<l.length/\l.getD k z=x:=by
 obtain⟨k,hk,e⟩:=List.getElem_of_mem h;exact⟨k,hk,by simp[List.getD,geT hk,e]⟩
theorem nD{l:List K2}{k:Nat}(h:k<l.length)(z:K2):l.getD k z∈l:=by
 simp only[List.getD,geT h,Option.getD_some];exact List.getElem_mem h
theorem getD_inj{l:List K2}(m:l.Nodup){j k:Nat}(q:j<l.length)(hk:k<l.length){z:K2}(e:l.getD j z=l.getD k z):j=k:=by
 simp only[List.getD,geT q,geT hk,Option.getD_some]at e;exact(List.getElem_inj m).1 e
structure Cyc (S:List (K2×K2)) (l:List K2):Prop where
 pos:0<l.length
 nd:l.Nodup
 st:∀x∈l,de S x=true
 go:∀k,k<l.length->l.getD ((k+1)%l.length) (A2.mk 0 0)=nxt S (l.getD k (A2.mk 0 0))
def Led(S:List (K2×K2))(D:K2->Bool):Prop:=∀x,de S x=true->D x=false->de S (nxt S x)=true/\D (nxt S x)=false
theorem A7{j:K2->Bool}(h:Led S j):∀(f:Nat) (D:K2->Bool) (e:K2),de S e=true->j e=false->∀x∈W S f D e,de S x=true
 |0,_,_,_,_,x,hx=>by cases hx
 |f+1,D,e,he,m,x,hx=>by
  unfold W at hx;by_cases q:D e=true
  ·rw[if_pos q]at hx;cases hx
  ·rw[if_neg q,if_pos he]at hx;rcases List.mem_cons.1 hx with rfl|hx
   ·exact he
   ·exact A7 h f _ _ (h e he m).1 (h e he m).2 x hx
theorem Jc(hp:S.Pairwise Rq)(Y:S.length<=60){D:K2->Bool}(T:Cl S D)(U:Led S D){e:K2}(he:de S e=true)(hd:D e=false):Cyc S (W S 100 D e)/\e∈W S 100 D e:=by
 have j:=A7 U 100 D e he hd;have E:=AN (S:=S) 100 D e;have I:=zI (S:=S) 100 D e;have C:∀x∈W S 100 D e,nxt S x∈W S 100 D e:=fun x hx=>by
  rcases Cu 100 D e x _ (by have:=Dv S D;omega) hx (j x hx) rfl with h1|h1
  ·exact h1
  ·have:=I x hx;rw[(T x (j x hx)).2 h1]at this;cases this
 have q:=EJ (S:=S) (z:=A2.mk 0 0) 100 D e;obtain⟨t,O⟩:=AM (S:=S) (f:=100) (by omega) hd;generalize W S 100 D e=l at*;have J:0<l.length:=by rw[O];simp
 refine⟨⟨J,E,j,fun k hk=>?_⟩,by rw[O];simp⟩;by_cases N:k+1<l.length
 ·rw[Nat.mod_eq_of_lt N];exact q k N
 ·have e1:k+1=l.length:=by omega
  rw[e1,Nat.mod_self];have hx:=nD hk (A2.mk 0 0);obtain⟨m,hm,em⟩:=yk (C _ hx) (A2.mk 0 0);cases m with
  |zero=>exact em
  |succ m=>
   rw[q m hm]at em;have:=Ag hp (j _ (nD (by omega) _)) (j _ hx) em;have:=getD_inj E (by omega) hk this;omega
theorem Dk(hp:S.Pairwise Rq){l:List K2}(m:Cyc S l){x:K2}(hx:de S x=true):x∈l↔nxt S x∈l:=by
 constructor
 ·intro hm;obtain⟨k,hk,rfl⟩:=yk hm (A2.mk 0 0);rw[<-m.go k hk];exact nD (Nat.mod_lt _ m.pos) _
 ·intro hm;obtain⟨k,hk,e⟩:=yk hm (A2.mk 0 0);have key:∃j,j<l.length/\(j+1)%l.length=k:=by
   cases k with
   |zero=>exact⟨l.length-1,by omega,by rw[show l.length-1+1=l.length by omega,Nat.mod_self]⟩
   |succ k=>exact⟨k,by omega,Nat.mod_eq_of_lt hk⟩
  obtain⟨j,q,z⟩:=key;have:=m.go j q;rw[z,e]at this;rw[Ag hp hx (m.st _ (nD q _)) this];exact nD q _
theorem Ho(hp:S.Pairwise Rq){D:K2->Bool}(j:Cl S D){l:List K2}(m:Cyc S l):Cl S (fun x=>l.contains x||D x):=by
 intro x hx;have h1:=Dk hp m hx;have h2:=j x hx;simp only[Bool.or_eq_true,List.contains_iff_mem];exact or_congr h1 h2
theorem F5(hp:S.Pairwise Rq){D:K2->Bool}(j:Led S D){l:List K2}(m:Cyc S l):Led S (fun x=>l.contains x||D x):=by
 intro x hx hd;simp only[Bool.or_eq_false_iff]at hd;obtain⟨a,b⟩:=j x hx hd.2;refine⟨a,?_⟩;have q:¬nxt S x∈l:=fun k=>by
  have:=(Dk hp m hx).2 k;simp[this]at hd
 simp only[Bool.or_eq_false_iff];exact⟨by simpa using q,b⟩
theorem yi(hp:S.Pairwise Rq)(m:S.length<=60):∀(L:List K2) (D:K2->Bool),Cl S D->Led S D->(∀e∈L,de S e=true)->
  (CLs S L D).flatten.Nodup/\(∀x∈(CLs S L D).flatten,D x=false)/\(∀e∈L,D e=true\/e∈(CLs S L D).flatten)/\∀l∈CLs S L D,Cyc S l
 |[],D,_,_,_=>by simp[CLs]
 |e::L,D,q,z,C=>by
  unfold CLs;by_cases hd:D e=true
  ·rw[if_pos hd];obtain⟨a,b,c,d⟩:=yi hp m L D q z fun x hx=>C x (List.mem_cons_of_mem _ hx)
   refine⟨a,b,fun x hx=>?_,d⟩;rcases List.mem_cons.1 hx with rfl|hx
   ·exact .inl hd
   ·exact c x hx
  ·have hd:D e=false:=by simpa using hd
   rw[if_neg (by simp[hd])];obtain⟨hc,hm⟩:=Jc hp m q z (C e (by simp)) hd;have j:=zI (S:=S) 100 D e;obtain⟨a,b,c,d⟩:=yi hp m L _ (Ho hp q hc) (F5 hp z hc) fun x hx=>C x (List.mem_cons_of_mem _ hx)
   generalize W S 100 D e=l at*;have E:∀x∈(CLs S L fun x=>l.contains x||D x).flatten,x∉l/\D x=false:=fun x hx=>by
    have:=b x hx;simp only[Bool.or_eq_false_iff]at this;exact⟨by simpa using this.1,this.2⟩
   rw[List.flatten_cons];refine⟨List.nodup_append.2 ⟨hc.nd,a,fun x hx y I e=>(E y I).1 (e▸hx)⟩,fun x hx=>?_,fun x hx=>?_,fun x hx=>?_⟩
   ·rcases List.mem_append.1 hx with hx|hx
    ·exact j x hx
    ·exact(E x hx).2
   ·rcases List.mem_cons.1 hx with rfl|hx
    ·exact .inr (List.mem_append.2 (.inl hm))
    ·rcases c x hx with hx|hx
     ·simp only[Bool.or_eq_true,List.contains_iff_mem]at hx;rcases hx with hx|hx
      ·exact .inr (List.mem_append.2 (.inl hx))
      ·exact .inl hx
     ·exact .inr (List.mem_append.2 (.inr hx))
   ·rcases List.mem_cons.1 hx with rfl|hx
    ·exact hc
    ·exact d x hx
theorem A5{γ:Type}(lt:γ->γ->Bool)(x:γ):∀l:List γ,(mG lt x l).Perm (x::l)
 |[]=>List.Perm.refl _
 |y::l=>by
  unfold mG;split
  ·exact((A5 lt x l).cons y).trans (List.Perm.swap x y l)
  ·exact List.Perm.refl _
theorem wR{γ:Type}(lt:γ->γ->Bool):∀l:List γ,(fJ lt l).Perm l
 |[]=>List.Perm.refl _
 |x::l=>(A5 lt x _).trans ((wR lt l).cons x)
end
end Go.L


set_option linter.all false
namespace Go.L
open Go Go.Eng
def ctr(q m z j:Rat):Int:=if m<=0/\0<j/\0<crQ q m z j then 1 else if 0<m/\j<=0/\crQ q m z j<0 then-1 else 0
def Bt(v:Int)(y:Rat):Prop:=(v:Rat)<y/\y<((v+1:Int):Rat)
theorem icl{a b:Int}(h:a<=b):(a:Rat)<=(b:Rat):=Rat.intCast_le_intCast.2 h
theorem Bt.pos{v:Int}{y:Rat}(h:Bt v y)(k:0<=v):0<y:=by
 have:=icl k;have:=h.1;rw[Rat.intCast_zero]at*;grind
theorem Bt.neg{v:Int}{y:Rat}(h:Bt v y)(k:v<=-1):y<0:=by
 have h1:=icl (show v+1<=0 by omega);have:=h.2;rw[Rat.intCast_zero]at h1;grind
theorem Bt.ne{v:Int}{y:Rat}(h:Bt v y):y≠0:=by
 by_cases k:0<=v
 ·have:=h.pos k;grind
 ·have:=h.neg (by omega);grind
end Go.L


set_option linter.all false
namespace Go.L
open Go Go.Eng
def uX(w:Nat)(Z:List Int)(level:Int)(e:K2):Rat:=((e.e0.tmod (w:Int):Int):Rat)+crE Z level e*((e.e1.tmod (w:Int)-e.e0.tmod (w:Int):Int):Rat)
def uY(w:Nat)(Z:List Int)(level:Int)(e:K2):Rat:=((e.e0.tdiv (w:Int):Int):Rat)+crE Z level e*((e.e1.tdiv (w:Int)-e.e0.tdiv (w:Int):Int):Rat)
section
variable{w:Nat}{Z:List Int}{level:Int}
def cO(w:Nat)(Z:List Int)(level:Int)(oi oj:Nat)(q:K2×K2):Int:=ctr (uX w Z level q.1-((oi:Int):Rat)) (uY w Z level q.1-((oj:Int):Rat)) (uX w Z level q.2-((oi:Int):Rat)) (uY w Z level q.2-((oj:Int):Rat))
def cT(w:Nat)(Z:List Int)(level:Int)(oi oj:Nat)(t:A3 Int):Int:=match seg Z level t with|some q=>cO w Z level oi oj q|none=>0
def b2(b:Bool):Int:=if b=true then 1 else 0
end
end Go.L

