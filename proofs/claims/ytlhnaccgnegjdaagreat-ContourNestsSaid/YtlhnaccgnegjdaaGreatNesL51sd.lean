import Derived.Test.YtlhnaccgnegjdaaGreatNesL51i
import Derived.Test.YtlhnaccgnegjdaaGreatNesLsrt
import Derived.Test.YtlhnaccgnegjdaaGreatNesL51u
set_option linter.all false
namespace Go.L
open Go Go.Eng
theorem qY{α:Type}{κ:α->Int}:∀{l m:List α},l.Pairwise (fun a b=>κ a<κ b)->m.Pairwise (fun a b=>κ a<κ b)->(∀x,x∈l↔x∈m)->l=m
 |[],[],_,_,_=>rfl
 |[],y::m,_,_,h=>by have:=(h y).2 (by simp);cases this
 |x::l,[],_,_,h=>by have:=(h x).1 (by simp);cases this
 |x::l,y::m,p,hm,h=>by
  rw[List.pairwise_cons]at p hm;have e:x=y:=by
   rcases List.mem_cons.1 ((h x).1 (by simp))with e|e
   ·exact e
   ·rcases List.mem_cons.1 ((h y).2 (by simp))with q|q
    ·exact q.symm
    ·have a:=hm.1 x e;have b:=p.1 y q;omega
  subst e;congr 1;refine qY p.2 hm.2 fun z=>⟨fun j=>?_,fun j=>?_⟩
  ·rcases List.mem_cons.1 ((h z).1 (List.mem_cons_of_mem _ j))with e|e
   ·subst e;have:=p.1 z j;omega
   ·exact e
  ·rcases List.mem_cons.1 ((h z).2 (List.mem_cons_of_mem _ j))with e|e
   ·subst e;have:=hm.1 z j;omega
   ·exact e
theorem uE{S:List (K2×K2)}{a b d:Nat}{e:K2}:e∈xK S a b d↔∃c:Nat,b<=c/\c<b+d/\e=A2.mk (a:Int) (c:Int)/\dX S e=true:=by
 unfold xK;rw[List.mem_filter,List.mem_map];constructor
 ·rintro⟨⟨c,hc,rfl⟩,h⟩;rw[List.mem_range'_1]at hc;exact⟨c,hc.1,hc.2,rfl,h⟩
 ·rintro⟨c,h1,h2,rfl,h⟩;exact⟨⟨c,by rw[List.mem_range'_1];exact⟨h1,h2⟩,rfl⟩,h⟩
theorem DW{S:List (K2×K2)}{m:Nat}{e:K2}:e∈kK S m 0 m↔dX S e=true/\∃a c:Nat,a<c/\c<m/\e=A2.mk (a:Int) (c:Int):=by
 unfold kK;rw[List.mem_flatMap];constructor
 ·rintro⟨a,ha,h⟩;rw[List.mem_range'_1]at ha;obtain⟨c,h1,h2,j,p⟩:=uE.1 h;exact⟨p,a,c,by omega,by omega,j⟩
 ·rintro⟨p,a,c,h1,h2,j⟩;exact⟨a,by rw[List.mem_range'_1];omega,uE.2 ⟨c,by omega,by omega,j,p⟩⟩
theorem Et{S:List (K2×K2)}{m:Nat}(hm:m<=40):(kK S m 0 m).Pairwise fun a b=>kap a<kap b:=by
 unfold kK;rw[List.pairwise_flatMap];constructor
 ·intro a _;unfold xK;refine List.Pairwise.filter _ ?_;rw[List.pairwise_map];refine(List.pairwise_lt_range' (step:=1)).imp fun {x y} h=>?_
  show(a:Int)*4096+(x:Int)<(a:Int)*4096+(y:Int);omega
 ·refine(List.pairwise_lt_range' (s:=0) (n:=m)).imp_of_mem fun {a b} ha hb h=>?_
  rw[List.mem_range'_1]at ha hb;intro x hx y j;obtain⟨c,h1,h2,rfl,-⟩:=uE.1 hx;obtain⟨d,p,q,rfl,-⟩:=uE.1 j;show(a:Int)*4096+(c:Int)<(b:Int)*4096+(d:Int);omega
abbrev Ln:=Bool×List K2
def toL(cr:K2->an)(x:Ln):ae:=toC cr x.1 x.2
def kL(x:Ln):Int:=kap (x.2.headD (A2.mk 0 0))
def stK(S:List (K2×K2)):List K2:=hU (ltK kap) (S.map (·.1))
def opK(S:List (K2×K2)):List K2:=(stK S).filter (opn S)
def dnK(S:List (K2×K2))(x:K2):Bool:=(opK S).any fun e=>(path S e).contains x
def opL(S:List (K2×K2))(e:K2):Ln:=(false,path S e)
def ux(S:List (K2×K2))(A:List K2):List Ln:=A.map (opL S)++(CLs S (stK S) (dnK S)).map fun l=>(true,l)
def wO(S:List (K2×K2)):List Ln:=hU (ltK kL) (ux S (opK S))
theorem pW{S:List (K2×K2)}{e:K2}:∃t,path S e=e::t:=Ee (by omega) rfl
section
variable{g:ak}{level:Int}{S:List (K2×K2)}
structure SS (g:ak) (level:Int) (S:List (K2×K2)):Prop where
 z40:g.Z.length<=40
 pw:S.Pairwise Rq
 ge:Ge S (Cr g.Z level)
 len:S.length<=60
theorem FA{w h:Nat}(j:Gd g w h)(hb:g.Z.any qu=false)(p:g.Z.length<=40)(level:Int):SS g level (rC g w h level):=by
 refine⟨p,Aq j level,Dd j hb,?_⟩;have h1:(rC g w h level).length<=(gY g w h).length:=List.length_filterMap_le _ _;have h2:=Iw j.w1.1 j.h1.1 (by rw[<-j.m];exact p);have q:(gY g w h).length<=2*((w-1)*(h-1)):=FZ;omega
theorem xg{e:K2}:e∈stK S↔dX S e=true:=by
 unfold stK;rw[ik,List.mem_map,mD]
theorem SS.cr(h:SS g level S){e:K2}(he:e∈stK S):Cr g.Z level e:=by
 obtain⟨q,j,rfl⟩:=mD.1 (xg.1 he);exact(h.ge.k q j).1
theorem SS.keys(h:SS g level S):(stK S).Pairwise fun a b=>kap a<kap b:=by
 unfold stK;refine so ?_;rw[List.pairwise_map];refine h.pw.imp_of_mem fun {a b} ha hb j m=>j.1 ?_
 exact uF h.z40 (h.ge.k a ha).1 (h.ge.k b hb).1 m
theorem SS.EI(h:SS g level S):kK S g.Z.length 0 g.Z.length=stK S:=by
 refine qY (κ:=kap) (Et h.z40) h.keys fun e=>?_
 rw[DW,xg];refine⟨fun h=>h.1,fun he=>⟨he,?_⟩⟩;have:=(h.cr (xg.2 he)).bd;obtain⟨a,b⟩:=e;dsimp only at this;exact⟨a.toNat,b.toNat,by omega,by omega,by congr 1<;>omega⟩
theorem SS.nd(h:SS g level S):(stK S).Nodup:=h.keys.imp fun {a b} k=>by rintro rfl;omega
theorem Dk{x:K2}:dnK S x=true↔∃e∈opK S,x∈path S e:=by
 unfold dnK;rw[List.any_eq_true];simp only[List.contains_iff_mem]
theorem Op.IV{cr:K2->an}{A:List K2}{c:List (K2×Bool)×List ae}(j:∀e,e∈A↔e∈opK S)(h:Op S cr A c):dn c.1=dnK S:=by
 funext x;have h1:=h.mem x;have h2:=Dk (S:=S) (x:=x);have m:dn c.1 x=true↔dnK S x=true:=by
  rw[h1,h2];exact⟨fun⟨e,a,b⟩=>⟨e,(j e).1 a,b⟩,fun⟨e,a,b⟩=>⟨e,(j e).2 a,b⟩⟩
 cases ha:dn c.1 x<;>cases hb:dnK S x<;>simp[ha,hb]at m ⊢
theorem Op.w6{cr:K2->an}{A:List K2}{c:List (K2×Bool)×List ae}(j:∀e,e∈A↔e∈opK S)(h:Op S cr A c):c.2++(CLs S (stK S) (dn c.1)).map (toC cr true)=(ux S A).map (toL cr):=by
 unfold ux;rw[h.IV j,h.out,List.map_append,List.map_map,List.map_map];rfl
theorem SS.y5(h:SS g level S){A:List K2}(j:∀e,e∈A↔e∈opK S):∀x∈ux S A,∃e t,x.2=e::t/\Cr g.Z level e:=by
 intro x hx;unfold ux at hx;rcases List.mem_append.1 hx with hx|hx
 ·obtain⟨e,he,rfl⟩:=List.mem_map.1 hx;obtain⟨t,m⟩:=pW (S:=S) (e:=e);exact⟨e,t,m,h.cr (List.mem_filter.1 ((j e).1 he)).1⟩
 ·obtain⟨l,p,rfl⟩:=List.mem_map.1 hx;obtain⟨e,t,e1,e2,-⟩:=(qf (stK S) (dnK S)).1 l p;exact⟨e,t,e1,h.cr e2⟩
theorem sV{b:Bool}{e:K2}{t:List K2}:kL (b,e::t)=kap e:=rfl
theorem SS.pwL(h:SS g level S){A:List K2}(C:∀e,e∈A↔e∈opK S)(D:A.Nodup):(ux S A).Pairwise fun a b=>kL a≠kL b:=by
 unfold ux;have m:∀e∈A,Cr g.Z level e:=fun e he=>h.cr (List.mem_filter.1 ((C e).1 he)).1
 obtain⟨z,E⟩:=qf (S:=S) (stK S) (dnK S);rw[List.pairwise_append];refine⟨?_,?_,?_⟩
 ·rw[List.pairwise_map];refine List.Pairwise.imp_of_mem (fun {a b} ha hb p j=>p ?_) D;obtain⟨t,q⟩:=pW (S:=S) (e:=a);obtain⟨u,hu⟩:=pW (S:=S) (e:=b);unfold opL at j;rw[q,hu,sV,sV]at j;exact uF h.z40 (m a ha) (m b hb) j
 ·rw[List.pairwise_map];refine List.Pairwise.imp_of_mem (fun {a b} ha hb p j=>p ?_) E;obtain⟨e,t,e1,e2,-⟩:=z a ha;obtain⟨f,u,f1,f2,-⟩:=z b hb;rw[e1,f1,sV,sV]at j;rw[e1,f1,uF h.z40 (h.cr e2) (h.cr f2) j];rfl
 ·intro x hx y I j;obtain⟨e,he,rfl⟩:=List.mem_map.1 hx;obtain⟨l,J,rfl⟩:=List.mem_map.1 I;obtain⟨t,q⟩:=pW (S:=S) (e:=e);obtain⟨f,u,f1,f2,f3⟩:=z l J;unfold opL at j;rw[q,f1,sV,sV]at j;have M:=uF h.z40 (m e he) (h.cr f2) j;have:dnK S f=true:=Dk.2 ⟨e,(C e).1 he,by rw[q,M];simp⟩;rw[this]at f3;cases f3
theorem Av{cr:K2->an}{x:Ln}{e:K2}{t:List K2}(h:x.2=e::t)(hc:(cr e).A=e.e0/\(cr e).B=e.e1):kC (toL cr x)=kL x:=by
 unfold kC fK toL toC kL;rw[h];show kap (A2.mk (cr e).A (cr e).B)=kap e;rw[hc.1,hc.2]
theorem DA(j:g.Z.length<=40){cr:K2->an}{x:Ln}{e:K2}{t:List K2}(h:x.2=e::t)(hc:(cr e).A=e.e0/\(cr e).B=e.e1)(he:Cr g.Z level e):okC (toL cr x):=by
 have:=he.bd;unfold okC fK toL toC;rw[h];show 0<(t.map cr).length+1/\0<=(cr e).A/\(cr e).A<40/\0<=(cr e).B/\(cr e).B<40;rw[hc.1,hc.2];omega
theorem xO{A:List K2}(j:A.length<=60)(m:S.length<=60):(ux S A).length<=120:=by
 unfold ux;rw[List.length_append,List.length_map,List.length_map];have h1:=z8 (S:=S) (stK S) (dnK S);have h2:(stK S).length=S.length:=by unfold stK;rw[lP,List.length_map]
 omega
theorem AP(h:SS g level S):(wO S).Pairwise fun a b=>kL a<kL b:=so (h.pwL (fun _=>Iff.rfl) (h.nd.sublist List.filter_sublist))
theorem Gc{w h:Nat}(I:Gd g w h)(hb:g.Z.any qu=false)(m:g.Z.length<=40)(J:-2097153<=level/\level<=2097153):gz 20000 g level=some ((wO (rC g w h level)).map (toL (crP g level))):=by
 have hs:=FA I hb m level;have z:=Aq I level;have U:∀e,Cr g.Z level e->cQ 20000 g level e=some (crP g level e):=fun e he=>(w9 J he).1
 have O:=H4 (n:=20000) (level:=level) (by omega) I hb g.X0 g.Y0 g.Step g.Width g.Height;have fold:=yi (rC g w h level) [] (by rw[List.nil_append];exact z);rw[List.map_nil,List.nil_append]at fold;rw[fold]at O;generalize eS:rC g w h level=S at*;have T:(stK S).length=S.length:=by unfold stK;rw[lP,List.length_map]
 have Y:(opK S).length<=60:=by
  have h1:(opK S).length<=(stK S).length:=List.length_filter_le _ _;have:=hs.len;omega
 have j:∀{e},Cr g.Z level e->(crP g level e).A=e.e0/\(crP g level e).B=e.e1:=fun he=>⟨(w9 J he).2.1,(w9 J he).2.2.1⟩
 refine AX (S:=stK S) O (by have:=hs.len;show S.length<=100000;omega) (fun p hp=>?_) T ?_
 ·have hp:p.Perm (S.map (·.1)):=hp;have D:∀e∈p,Cr g.Z level e:=fun e he=>by
   obtain⟨q,hq,rfl⟩:=List.mem_map.1 (hp.mem_iff.1 he);exact(hs.ge.k q hq).1
  rw[DR (by rw[hp.length_eq,List.length_map];have:=hs.len;omega) fun e he=>by have:=(D e he).bd;omega];congr 1;refine qY (κ:=kap) (so ?_) hs.keys fun e=>?_
  ·have h1:p.Nodup:=hp.nodup_iff.2 (by unfold List.Nodup;rw[List.pairwise_map];exact z.imp fun h=>h.1);exact List.Pairwise.imp_of_mem (fun {a b} ha hb C M=>C (uF m (D a ha) (D b hb) M)) h1
  ·unfold stK;rw[ik,ik,hp.mem_iff]
 ·have key:=Fp (F:=hU (ltK kC)) z hs.ge U hs.len hs.nd (by have:=hs.len;omega) (fun e he=>hs.cr he) ?_
  ·rw[T]at key;obtain⟨r,e,c,E,hr⟩:=key;show rK 20000 g level (S,bk S) (S.length:Int) (stK S)=_;rw[e,hr,E.w6 (fun _=>Iff.rfl)];congr 1;refine wi fun y N=>?_
   obtain⟨e,t,h1,h2⟩:=hs.y5 (fun _=>Iff.rfl) y N;exact Av h1 (j h2)
  ·intro c E;have E:Op S (crP g level) (opK S) c:=E;rw[E.w6 (fun _=>Iff.rfl)];refine⟨Hx (by rw[List.length_map];have:=xO Y hs.len;omega) (fun y N=>?_) ?_,lP⟩
   ·obtain⟨x,hx,rfl⟩:=List.mem_map.1 N;obtain⟨e,t,h1,h2⟩:=hs.y5 (fun _=>Iff.rfl) x hx;exact DA m h1 (j h2) h2
   ·rw[List.pairwise_map];refine(hs.pwL (fun _=>Iff.rfl) (hs.nd.sublist List.filter_sublist)).imp_of_mem fun {a b} ha hb C D=>C ?_
    obtain⟨e,t,h1,h2⟩:=hs.y5 (fun _=>Iff.rfl) a ha;obtain⟨f,u,h3,h4⟩:=hs.y5 (fun _=>Iff.rfl) b hb;rw[Av h1 (j h2),Av h3 (j h4)]at D;exact D
theorem F0{w h:Nat}(I:Gd g w h)(hb:g.Z.any qu=false)(z:g.Z.length<=40)(J:-2097153<=level/\level<=2097153):fb 20000 g level=some ((wO (rC g w h level)).map (toL (crR g level))):=by
 have hs:=FA I hb z level;have C:=Aq I level;have hR:∀e,Cr g.Z level e->bE 20000 g level e=some (crR g level e):=fun e he=>(wX J he).1
 generalize eS:rC g w h level=S at*;have lK:(stK S).length=S.length:=by unfold stK;rw[lP,List.length_map]
 have lA:(opK S).length<=60:=by
  have h1:(opK S).length<=(stK S).length:=List.length_filter_le _ _;have:=hs.len;omega
 have j:∀e,e∈(S.map (·.1)).filter (opn S)↔e∈opK S:=fun e=>by
  unfold opK stK;rw[List.mem_filter,List.mem_filter,ik]
 have M:((S.map (·.1)).filter (opn S)).Nodup:=by
  refine List.Nodup.sublist List.filter_sublist ?_;unfold List.Nodup;rw[List.pairwise_map];exact C.imp fun h=>h.1
 have D:∀{e},Cr g.Z level e->(crR g level e).A=e.e0/\(crR g level e).B=e.e1:=fun he=>⟨(wX J he).2.1,(wX J he).2.2.1⟩
 have N:((S.map (·.1)).filter (opn S)).length<=60:=by
  have h1:=List.length_filter_le (opn S) (S.map (·.1));rw[List.length_map]at h1;have:=hs.len;omega
 have key:=Fa (F:=fun out=>(hU gK out.reverse).reverse) I hb z eS C hs.ge hR hs.len ?_
 ·obtain⟨r,e,c,O,Y⟩:=key;rw[hs.EI,O.w6 j]at Y;rw[e,Y];congr 1;have T:=hs.y5 j;have e1:hU gK ((ux S ((S.map (·.1)).filter (opn S))).map (toL (crR g level))).reverse=(hU (ltK fun x=>-kL x) (ux S ((S.map (·.1)).filter (opn S))).reverse).map (toL (crR g level)):=by
   rw[<-List.map_reverse];refine wi (p:=fun c=>-kC c) (q:=fun x=>-kL x) fun y E=>?_
   obtain⟨e,t,h1,h2⟩:=T y (List.mem_reverse.1 E);show-kC (toL (crR g level) y)=-kL y;rw[Av h1 (D h2)]
  rw[e1,<-List.map_reverse];congr 1;have U:=hs.pwL j M;refine qY (κ:=kL) ?_ (AP hs) fun x=>?_
  ·rw[List.pairwise_reverse];have:=so (κ:=fun x=>-kL x) (l:=(ux S ((S.map (·.1)).filter (opn S))).reverse) (by
    rw[List.pairwise_reverse];exact U.imp fun h k=>h (by omega))
   exact this.imp fun h=>by omega
  ·unfold wO;rw[List.mem_reverse,ik,List.mem_reverse,ik];unfold ux;simp only[List.mem_append,List.mem_map,j]
 ·intro c O out m;rw[hs.EI,O.w6 j]at m;have T:=hs.y5 j;refine HL (by rw[m,List.length_map];have:=xO N hs.len;omega) fun y E=>?_
  rw[m]at E;obtain⟨x,hx,rfl⟩:=List.mem_map.1 E;obtain⟨e,t,h1,h2⟩:=T x hx;exact DA z h1 (D h2) h2
end
end Go.L


set_option linter.all false
namespace Go.L
open Go Go.Eng
def cel(w j i:Nat):Int:=((j*w+i:Nat):Int)
structure Lw (g:ak) (w h:Nat) (level:Int):Prop where
 data:∀k:Nat,k<g.Z.length->gt g.Z (k:Int)≠ -2147483648
 low:∀j i:Nat,j<h->i<w->(i=0\/j=0\/i=w-1\/j=h-1)->abv g.Z level (cel w j i)=false
section
variable{g:ak}{w h:Nat}{level:Int}
theorem Lw.all(q:Lw g w h level)(j:Gd g w h):gY g w h=nQ (w:Int) (w-1) (h-1):=by
 unfold gY;rw[j.W];refine List.filter_eq_self.2 fun t z=>?_
 have p:t∈nQ g.Width (w-1) (h-1):=by rw[j.W];exact z
 obtain⟨i0,i1,i2⟩:=B6 j p;have key:∀{k:Int},inR k g.Z.length=true->(gt g.Z k != -2147483648)=true:=by
  intro k C;have D:=iW.1 C;obtain⟨m,rfl⟩:∃m:Nat,k=(m:Int):=⟨k.toNat,by omega⟩;simpa using q.data m (by omega)
 unfold oX;rw[key i0,key i1,key i2];rfl
end
end Go.L


set_option linter.all false
namespace Go.L
open Go Go.Eng
theorem uj{S:List (K2×K2)}{P:K2->Prop}(h:Ge S P):∀(L:List K2) (D:K2->Bool),(∀e∈L,P e)->∀l∈CLs S L D,∀x∈l,P x
 |[],_,_,l,j=>by cases j
 |e::L,D,m,l,j=>by
  unfold CLs at j;split at j
  ·exact uj h L _ (fun e he=>m e (List.mem_cons_of_mem _ he)) l j
  ·rcases List.mem_cons.1 j with rfl|j
   ·exact fun x hx=>zV h 100 D e (m e (by simp)) x hx
   ·exact uj h L _ (fun e he=>m e (List.mem_cons_of_mem _ he)) l j
theorem tF{S:List (K2×K2)}:∀(L:List K2) (D:K2->Bool),∀l∈CLs S L D,l.length<=100
 |[],_,l,j=>by cases j
 |e::L,D,l,j=>by
  unfold CLs at j;split at j
  ·exact tF L _ l j
  ·rcases List.mem_cons.1 j with rfl|j
   ·exact Ej 100 D e
   ·exact tF L _ l j
section
variable{g:ak}{level:Int}{S:List (K2×K2)}
theorem uu{x:Ln}:x∈wO S↔(∃e∈opK S,x=(false,path S e))\/∃l∈CLs S (stK S) (dnK S),x=(true,l):=by
 unfold wO ux opL;rw[ik,List.mem_append,List.mem_map,List.mem_map];constructor
 ·rintro(⟨e,h,rfl⟩|⟨e,h,rfl⟩)
  ·exact .inl ⟨e,h,rfl⟩
  ·exact .inr ⟨e,h,rfl⟩
 ·rintro(⟨e,h,rfl⟩|⟨e,h,rfl⟩)
  ·exact .inl ⟨e,h,rfl⟩
  ·exact .inr ⟨e,h,rfl⟩
theorem SS.pts(h:SS g level S){x:Ln}(hx:x∈wO S):(∀e∈x.2,Cr g.Z level e)/\x.2.length<=100:=by
 rcases uu.1 hx with⟨e,he,rfl⟩|⟨l,j,rfl⟩
 ·exact⟨fun y m=>zV h.ge 100 (fun _=>false) e (h.cr (List.mem_filter.1 he).1) y m,Ej 100 (fun _=>false) e⟩
 ·exact⟨uj h.ge _ _ (fun e he=>h.cr he) l j,tF _ _ l j⟩
theorem FP(h:SS g level S):(wO S).length<=120:=by
 unfold wO;rw[lP];refine xO ?_ h.len;have h1:(opK S).length<=(stK S).length:=List.length_filter_le _ _;have h2:(stK S).length=S.length:=by unfold stK;rw[lP,List.length_map]
 have:=h.len;omega
theorem tJ{α β:Type}[Inhabited α][Inhabited β]{f:α->β}{l:List α}{k:Nat}(h:k<l.length):gt (l.map f) (k:Int)=f l[k]:=by
 rw[wq (by rw[List.length_map];exact h),List.getElem_map]
end
end Go.L


set_option linter.all false
namespace Go.L
open Go Go.Eng
section
variable{S:List (K2×K2)}
theorem AB{l:List K2}{k:Nat}(h:k<l.length)(z:K2):l.getD k z∈l:=by
 simp only[List.getD,geT h,Option.getD_some];exact List.getElem_mem h
end
end Go.L


set_option linter.all false
namespace Go.L
open Go Go.Eng
def ctr(ax ay bx by':Rat):Int:=if ay<=0/\0<by'/\0<crQ ax ay bx by' then 1 else if 0<ay/\by'<=0/\crQ ax ay bx by'<0 then-1 else 0
def Bt(v:Int)(y:Rat):Prop:=(v:Rat)<y/\y<((v+1:Int):Rat)
theorem icl{a b:Int}(h:a<=b):(a:Rat)<=(b:Rat):=Rat.intCast_le_intCast.2 h
theorem Bt.pos{v:Int}{y:Rat}(h:Bt v y)(k:0<=v):0<y:=by
 have:=icl k;have:=h.1;rw[Rat.intCast_zero]at*;grind
theorem Bt.neg{v:Int}{y:Rat}(h:Bt v y)(k:v<=-1):y<0:=by
 have h1:=icl (show v+1<=0 by omega);have:=h.2;rw[Rat.intCast_zero]at h1;grind
theorem Bt.ne{v:Int}{y:Rat}(h:Bt v y):y≠0:=by
 by_cases k:0<=v
 ·have:=h.pos k;grind
 ·have:=h.neg (by omega);grind
theorem CU{v:Int}(h:1<=v):0<(v:Rat):=by
 have:=icl h;rw[Rat.intCast_one]at this;grind
theorem CZ{v:Int}(h:v<=-1):(v:Rat)<0:=by
 have:=icl h;rw[Rat.intCast_neg,Rat.intCast_one]at this;grind
end Go.L


set_option linter.all false
namespace Go.L
open Go Go.Eng
theorem FV{Z:List Int}{level:Int}{e:K2}(h:gt Z e.e0≠gt Z e.e1):crE Z level e*((2*(gt Z e.e1-gt Z e.e0):Int):Rat)=((level-2*gt Z e.e0:Int):Rat):=by
 unfold crE;have hd:2*(gt Z e.e1-gt Z e.e0)≠0:=by omega
 generalize 2*(gt Z e.e1-gt Z e.e0)=D at*;generalize level-2*gt Z e.e0=A;rw[<-pr D,<-pr A,Rat.divInt_mul_divInt,Int.mul_comm D 1,Rat.divInt_mul_right hd]
theorem EB{Z:List Int}{level:Int}{e:K2}(q:level.tmod 2≠0)(j:abv Z level e.e0≠abv Z level e.e1):0<crE Z level e/\crE Z level e<1:=by
 have m:gt Z e.e0≠gt Z e.e1:=fun h=>j (by unfold abv;rw[h])
 have I:=FV (level:=level) m;have J:2*gt Z e.e0≠level:=fun h=>q (by rw[<-h];exact Int.mul_tmod_right 2 _)
 have M:2*gt Z e.e1≠level:=fun h=>q (by rw[<-h];exact Int.mul_tmod_right 2 _)
 unfold abv at j;generalize crE Z level e=r at*;have two:(2*gt Z e.e0>level/\2*gt Z e.e1<level)\/(2*gt Z e.e0<level/\2*gt Z e.e1>level):=by
  by_cases p:2*gt Z e.e0>level<;>by_cases h1:2*gt Z e.e1>level<;>simp[p,h1]at j<;>omega
 have z:((2*(gt Z e.e1-gt Z e.e0):Int):Rat)=((level-2*gt Z e.e0:Int):Rat)+((2*gt Z e.e1-level:Int):Rat):=by rw[<-Rat.intCast_add];congr 1;omega
 generalize ((2*(gt Z e.e1-gt Z e.e0):Int):Rat)=D at*;rcases two with⟨p,h1⟩|⟨p,h1⟩
 ·have a:=CZ (v:=level-2*gt Z e.e0) (by omega);have b:=CZ (v:=2*gt Z e.e1-level) (by omega);generalize ((level-2*gt Z e.e0:Int):Rat)=A at*;generalize ((2*gt Z e.e1-level:Int):Rat)=C at*;have E:D<0:=by grind
  constructor
  ·apply Classical.byContradiction;intro k;have:0<=(-r)*(-D):=Rat.mul_nonneg (by grind) (by grind);grind
  ·apply Classical.byContradiction;intro k;have:0<=(r-1)*(-D):=Rat.mul_nonneg (by grind) (by grind);grind
 ·have a:=CU (v:=level-2*gt Z e.e0) (by omega);have b:=CU (v:=2*gt Z e.e1-level) (by omega);generalize ((level-2*gt Z e.e0:Int):Rat)=A at*;generalize ((2*gt Z e.e1-level:Int):Rat)=C at*;have E:0<D:=by grind
  constructor
  ·apply Classical.byContradiction;intro k;have:0<=(-r)*D:=Rat.mul_nonneg (by grind) (by grind);grind
  ·apply Classical.byContradiction;intro k;have:0<=(r-1)*D:=Rat.mul_nonneg (by grind) (by grind);grind
def uX(w:Nat)(Z:List Int)(level:Int)(e:K2):Rat:=((e.e0.tmod (w:Int):Int):Rat)+crE Z level e*((e.e1.tmod (w:Int)-e.e0.tmod (w:Int):Int):Rat)
def uY(w:Nat)(Z:List Int)(level:Int)(e:K2):Rat:=((e.e0.tdiv (w:Int):Int):Rat)+crE Z level e*((e.e1.tdiv (w:Int)-e.e0.tdiv (w:Int):Int):Rat)
section
variable{w:Nat}{Z:List Int}{level:Int}
def cO(w:Nat)(Z:List Int)(level:Int)(oi oj:Nat)(q:K2×K2):Int:=ctr (uX w Z level q.1-((oi:Int):Rat)) (uY w Z level q.1-((oj:Int):Rat)) (uX w Z level q.2-((oi:Int):Rat)) (uY w Z level q.2-((oj:Int):Rat))
def cT(w:Nat)(Z:List Int)(level:Int)(oi oj:Nat)(t:A3 Int):Int:=match seg Z level t with|some q=>cO w Z level oi oj q|none=>0
def b2(b:Bool):Int:=if b=true then 1 else 0
end
end Go.L

