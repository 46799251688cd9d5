import Derived.Test.YtlhnaccgnegjdaaGreatNesL51v
import Derived.Test.YtlhnaccgnegjdaaGreatNesLD
set_option linter.all false
namespace Go.L
open Go Go.Eng
abbrev K2:=A2 Int
def tc(z:Int):Prop:=-1048576<=z/\z<=1048576
def abv(Z:List Int)(level k:Int):Bool:=decide (2*gt Z k>level)
abbrev S5:=Int×Int×Int×Int×Bool
def stp(Z:List Int)(level:Int)(s:S5)(a b:Int):S5:=
 if (abv Z level a&&!abv Z level b)=true then(mn a b,mx a b,s.2.2.1,s.2.2.2.1,true)else if (!abv Z level a&&abv Z level b)=true then(s.1,s.2.1,mn a b,mx a b,s.2.2.2.2)else s
def zO(Z:List Int)(level:Int)(t:A3 Int):Nat->S5
 |0=>(0,0,0,0,false)
 |k+1=>stp Z level (zO Z level t k) (A3.get t (k:Int)) (A3.get t (((k+1)%3:Nat):Int))
def F1(s:S5):Option (K2×K2):=match s with|(f0,f1,t0,t1,true)=>some (A2.mk f0 f1,A2.mk t0 t1)|_=>none
def seg(Z:List Int)(level:Int)(t:A3 Int):Option (K2×K2):=F1 (zO Z level t 3)
theorem It{k:Nat}(h:k<3):(Jy ((k:Int)+1)).tmod 3=(((k+1)%3:Nat):Int):=by
 rcases (by omega:k=0\/k=1\/k=2)with rfl|rfl|rfl<;>rfl
def okT(Z:List Int)(t:A3 Int):Prop:=∀i:Nat,i<3->inR (A3.get t (i:Int)) Z.length=true/\tc (gt Z (A3.get t (i:Int)))
theorem HG{Z:List Int}{t:A3 Int}(j:inR t.e0 Z.length=true/\inR t.e1 Z.length=true/\inR t.e2 Z.length=true)(m:tc (gt Z t.e0)/\tc (gt Z t.e1)/\tc (gt Z t.e2)):okT Z t:=by
 intro i h;rcases (by omega:i=0\/i=1\/i=2)with rfl|rfl|rfl
 ·exact⟨j.1,m.1⟩
 ·exact⟨j.2.1,m.2.1⟩
 ·exact⟨j.2.2,m.2.2⟩
theorem G4{n:Nat}{Z:List Int}{level k:Int}(h:inR k Z.length=true/\tc (gt Z k))(a b c d e:Int):dP n k a b c d e Z level=some (abv Z level k):=by
 unfold dP abv;rw[h.1,wrap64_in (by have:=h.2.1;omega) (by have:=h.2.2;omega)];rfl
theorem Ha{n:Nat}{g:ak}{level k:Int}(h:inR k g.Z.length=true/\tc (gt g.Z k)):br n g level k=some (abv g.Z level k):=by
 unfold br abv;rw[h.1,wrap64_in (by have:=h.2.1;omega) (by have:=h.2.2;omega)];rfl
def stM(c:List (K2×K2)×List (K2×Bool))(q:K2×K2):List (K2×K2)×List (K2×Bool):=(dm c.1 q.1 q.2,dm c.2 q.2 true)
def stT(Z:List Int)(level:Int)(c:List (K2×K2)×List (K2×Bool))(t:A3 Int):List (K2×K2)×List (K2×Bool):=match seg Z level t with|some q=>stM c q|none=>c
theorem FO{n:Nat}(J:10<n){t:A3 Int}{Z:List Int}{level:Int}(D:okT Z t)(a b c d e:Int)(m:List (K2×K2)×List (K2×Bool)):fS n t a b c d e Z level m.1 m.2=some (stT Z level m t):=by
 apply Ok.eq;unfold fS;refine Ok.bd (R:=fun o=>o=zO Z level t 3) ?_ ?_
 ·refine cD (γ:=S5) (len:=3) (fun s x=>(s.1,s.2.1,s.2.2.1,s.2.2.2.1,s.2.2.2.2,x)) (fun k s=>s=zO Z level t k) (by omega) (by omega) (c0:=(0,0,0,0,false)) rfl ?_ ?_
  ·rintro again k s E hs z;have h1:=D k E;have h2:=D ((k+1)%3) (by omega);refine Ok.cd (fun _=>?_) (fun h=>by have:=dcF h;omega);rw[It E];refine Ok.gd (by rw[iW];omega) (Ok.gd (by rw[iW];omega) ?_);have key:zO Z level t (k+1)=stp Z level s (A3.get t (k:Int)) (A3.get t (((k+1)%3:Nat):Int)):=by rw[hs];rfl
   have z:∀j,j=stp Z level s (A3.get t (k:Int)) (A3.get t (((k+1)%3:Nat):Int))->Ok (again (j.1,j.2.1,j.2.2.1,j.2.2.2.1,j.2.2.2.2,Jy ((k:Int)+1))) _:=fun j h=>z j (h.trans key.symm)
   clear key;have e1:=G4 (n:=n) (level:=level) h1 a b c d e;have e2:=G4 (n:=n) (level:=level) h2 a b c d e;generalize A3.get t (((k+1)%3:Nat):Int)=y at*;generalize A3.get t (k:Int)=x at*;refine Ok.bde rfl (Ok.bd (R:=fun o=>o=(abv Z level x&&!abv Z level y)) (Ok.bde e1 ?_) ?_)
   ·exact Ok.cd (fun h=>Ok.bde e2 (aw.2 (by rw[h];rfl))) (fun h=>aw.2 (by rw[h];rfl))
   ·rintro o rfl;refine Ok.cd (fun h=>Ok.bde rfl (z (mn x y,mx x y,s.2.2.1,s.2.2.2.1,true) (by unfold stp;rw[if_pos h]))) (fun h=>Ok.bde e1 (Ok.cd (fun C=>Ok.bde e2 (Ok.cd (fun p=>Ok.bde rfl (z (s.1,s.2.1,mn x y,mx x y,s.2.2.2.2) (by unfold stp;rw[h,if_neg (by simp),C,p];rfl))) (fun p=>z s (by unfold stp;rw[h,if_neg (by simp),C,p];rfl)))) (fun C=>z s (by unfold stp;rw[h,if_neg (by simp),C];rfl))))
  ·rintro again s rfl;exact Ok.cd (fun h=>by have:=dcT h;omega) (fun _=>aw.2 rfl)
 ·rintro o I;have e:stT Z level m t=(match F1 o with|some q=>stM m q|none=>m):=by unfold stT seg;rw[<-I]
  rw[e];clear I e;obtain⟨f0,f1,t0,t1,cr⟩:=o;cases cr<;>exact aw.2 rfl
def rC(g:ak)(w h:Nat)(level:Int):List (K2×K2):=(gY g w h).filterMap (seg g.Z level)
theorem Hp{g:ak}{w h:Nat}(hb:g.Z.any qu=false){t:A3 Int}(q:Gd g w h)(p:t∈gY g w h):okT g.Z t:=by
 unfold gY at p;rw[List.mem_filter]at p;obtain⟨i0,i1,i2⟩:=B6 q p.1;have j:=p.2;unfold oX at j;simp only[Bool.and_eq_true]at j;have key:∀{k:Int},inR k g.Z.length=true->(gt g.Z k != -2147483648)=true->tc (gt g.Z k):=by
  intro k z C;have D:=iW.1 z;obtain⟨m,rfl⟩:∃m:Nat,k=(m:Int):=⟨k.toNat,by omega⟩;have hm:m<g.Z.length:=by omega
  have h1:gt g.Z (m:Int)∈g.Z:=by
   rw[jV];simp only[List.getD,geT hm,Option.getD_some];exact List.getElem_mem hm
  have:=List.any_eq_false.1 hb _ h1;unfold qu xR at this;rw[C]at this;simp at this;exact⟨by omega,by omega⟩
 exact HG ⟨i0,i1,i2⟩ ⟨key i0 j.1,key i1 j.2.1,key i2 j.2.2⟩
theorem H4{n:Nat}(p:200<n){g:ak}{level:Int}{w h:Nat}(j:Gd g w h)(hb:g.Z.any qu=false)(a b c d e:Int):
  aY n g a b c d e g.Z level ([]:List (K2×K2)) ([]:List (K2×Bool))=some ((rC g w h level).foldl stM ([],[])):=by
 apply Ok.eq;unfold aY;refine Ok.bd (R:=fun o=>o=(gY g w h).foldl (stT g.Z level) ([],[])) ?_ ?_
 ·refine xW (γ:=List (K2×K2)×List (K2×Bool)) p j (fun c x=>(c.1,c.2,x)) (fun t m=>fS n t a b c d e g.Z level m.1 m.2)
   (fun _ _ _=>rfl) (fun _ _ _ _=>rfl) (fun _ _ _ _=>rfl) (fun pre m=>m=pre.foldl (stT g.Z level) ([],[])) rfl fun pre t m q _ hm=>?_
  rw[FO (by omega) (Hp hb j q)];exact aw.2 (by rw[List.foldl_append,<-hm];rfl)
 ·rintro o rfl;refine aw.2 ?_;unfold rC;rw[List.foldl_filterMap];show List.foldl (stT g.Z level) ([],[]) (gY g w h)=_;congr 1;funext x y;unfold stT;cases seg g.Z level y<;>rfl
theorem HS{n:Nat}(hn:10000<n){g:ak}{level:Int}{w h:Nat}(O:Gd g w h)(hb:g.Z.any qu=false)(M:(gY g w h).length<=8000):eP n g level=some ((rC g w h level).map fun q=>A2.mk q.1 q.2):=by
 apply Ok.eq;unfold eP;refine Ok.bde (Dl (by omega) O) ?_;refine Ok.bd (R:=fun o=>o=(rC g w h level).map fun q=>A2.mk q.1 q.2) ?_ (fun o I=>aw.2 I);have U:∀k,(((gY g w h).take k).filterMap (seg g.Z level)).length<=8000:=fun k=>Nat.le_trans (List.length_filterMap_le _ _) (by rw[List.length_take];omega)
 refine cD (γ:=List (A2 K2)) (len:=(gY g w h).length) (fun l x=>(l,x)) (fun k l=>l=(((gY g w h).take k).filterMap (seg g.Z level)).map fun q=>A2.mk q.1 q.2) (by omega) (by omega) (c0:=[]) rfl ?_ ?_
 ·rintro again k l D p J;have hm:gt (gY g w h) (k:Int)∈gY g w h:=by
   rw[jV];simp only[List.getD,geT D,Option.getD_some];exact List.getElem_mem D
  have M:=Hp hb O hm;have Y:((gY g w h).take (k+1)).filterMap (seg g.Z level)=((gY g w h).take k).filterMap (seg g.Z level)++(match seg g.Z level (gt (gY g w h) (k:Int))with|some q=>[q]|none=>[]):=by
   rw[List.take_add_one,geT D,List.filterMap_append,jV];simp only[List.getD,geT D,Option.getD_some,Option.toList_some];cases hs:seg g.Z level (gY g w h)[k]<;>simp[List.filterMap,hs]
  have N:=U k;rw[Y]at J;refine Ok.cd (fun _=>?_) (fun h=>by have:=dcF h;omega);refine Ok.gd (by rw[aR];exact decide_eq_true D) ?_;generalize gt (gY g w h) (k:Int)=t at*;refine Ok.bd (R:=fun o=>o=zO g.Z level t 3) ?_ ?_
  ·refine cD (γ:=S5) (len:=3) (fun s x=>(s.1,s.2.1,s.2.2.1,s.2.2.2.1,s.2.2.2.2,x)) (fun k s=>s=zO g.Z level t k) (by omega) (by omega) (c0:=(0,0,0,0,false)) rfl ?_ ?_
   ·rintro m j s T hs z;have h1:=M j T;have h2:=M ((j+1)%3) (by omega);refine Ok.cd (fun _=>?_) (fun h=>by have:=dcF h;omega);rw[It T];refine Ok.gd (by rw[iW];omega) (Ok.gd (by rw[iW];omega) ?_);have key:zO g.Z level t (j+1)=stp g.Z level s (A3.get t (j:Int)) (A3.get t (((j+1)%3:Nat):Int)):=by rw[hs];rfl
    have z:∀C,C=stp g.Z level s (A3.get t (j:Int)) (A3.get t (((j+1)%3:Nat):Int))->Ok (m (C.1,C.2.1,C.2.2.1,C.2.2.2.1,C.2.2.2.2,Jy ((j:Int)+1))) _:=fun C h=>z C (h.trans key.symm)
    clear key;have e1:=Ha (n:=n) (level:=level) h1;have e2:=Ha (n:=n) (level:=level) h2;generalize A3.get t (((j+1)%3:Nat):Int)=y at*;generalize A3.get t (j:Int)=x at*;refine Ok.bde rfl (Ok.bde e1 ?_);cases hx:abv g.Z level x with
    |true=>
     rw[hx]at e1;refine Ok.cd (fun _=>Ok.bde e2 ?_) (fun h=>by cases h);cases E:abv g.Z level y with
     |true=>
      refine Ok.cd (fun h=>by cases h) (fun _=>Ok.bde e1 (Ok.cd (fun h=>by cases h) (fun _=>z s ?_)));unfold stp;rw[hx,E];rfl
     |false=>
      refine Ok.cd (fun _=>Ok.bde rfl (Ok.bde e1 (Ok.cd (fun h=>by cases h) (fun _=>z (mn x y,mx x y,s.2.2.1,s.2.2.2.1,true) ?_)))) (fun h=>by cases h);unfold stp;rw[hx,E];rfl
    |false=>
     rw[hx]at e1;refine Ok.cd (fun h=>by cases h) (fun _=>Ok.bde e1 (Ok.cd (fun _=>Ok.bde e2 ?_) (fun h=>by cases h)));cases E:abv g.Z level y with
     |true=>
      refine Ok.cd (fun _=>Ok.bde rfl (z (s.1,s.2.1,mn x y,mx x y,s.2.2.2.2) ?_)) (fun h=>by cases h);unfold stp;rw[hx,E];rfl
     |false=>
      refine Ok.cd (fun h=>by cases h) (fun _=>z s ?_);unfold stp;rw[hx,E];rfl
   ·rintro m s rfl;exact Ok.cd (fun h=>by have:=dcT h;omega) (fun _=>aw.2 rfl)
  ·rintro o I;have e:seg g.Z level t=F1 o:=by unfold seg;rw[<-I]
   rw[e]at J;clear I e;have hlen:l.length<=8000:=by rw[p,List.length_map];exact N
   obtain⟨f0,f1,t0,t1,cr⟩:=o;cases cr with
   |true=>exact Ok.cd (fun _=>Ok.gd (decide_eq_true (by omega)) (Ok.gd (decide_eq_true (by omega)) (J _ (by rw[p,List.map_append];rfl)))) (fun h=>by cases h)
   |false=>exact Ok.cd (fun h=>by cases h) (fun _=>J _ (by rw[p,List.map_append];show _=_++[];rw[List.append_nil]))
 ·rintro again l p;rw[List.take_length]at p;exact Ok.cd (fun h=>by have:=dcT h;omega) (fun _=>aw.2 p)
end Go.L


set_option linter.all false
namespace Go.L
open Go Go.Eng
def dE(t:A3 Int):List (Int×Int):=[(t.e0,t.e1),(t.e1,t.e2),(t.e2,t.e0)]
theorem ur{Z:List Int}{level:Int}{t:A3 Int}{q:K2×K2}(h:seg Z level t=some q):(∃a b,(a,b)∈dE t/\abv Z level a=true/\abv Z level b=false/\q.1=A2.mk (mn a b) (mx a b))/\(∃a b,(a,b)∈dE t/\abv Z level a=false/\abv Z level b=true/\q.2=A2.mk (mn a b) (mx a b)):=by
 have e:zO Z level t 3=stp Z level (stp Z level (stp Z level (0,0,0,0,false) t.e0 t.e1) t.e1 t.e2) t.e2 t.e0:=rfl;unfold seg at h;rw[e]at h;clear e;have j:(t.e0,t.e1)∈dE t:=by simp[dE]
 have m:(t.e1,t.e2)∈dE t:=by simp[dE]
 have p:(t.e2,t.e0)∈dE t:=by simp[dE]
 cases ha:abv Z level t.e0<;>cases hb:abv Z level t.e1<;>cases hc:abv Z level t.e2<;>simp[stp,ha,hb,hc,F1]at h<;>subst h<;>
  exact⟨by first|exact⟨_,_,j,ha,hb,rfl⟩|exact⟨_,_,m,hb,hc,rfl⟩|exact⟨_,_,p,hc,ha,rfl⟩,by first|exact⟨_,_,j,ha,hb,rfl⟩|exact⟨_,_,m,hb,hc,rfl⟩|exact⟨_,_,p,hc,ha,rfl⟩⟩
def Rd(t j:A3 Int):Prop:=∀e∈dE t,e∉dE j
theorem Dm{w j i:Nat}(hw:w<=64)(m:j<64)(p:i<64):jb (w:Int) j i=[A3.mk ((j*w+i:Nat):Int) (((j*w+i:Nat):Int)+1) (((j*w+i:Nat):Int)+w+1),A3.mk ((j*w+i:Nat):Int) (((j*w+i:Nat):Int)+w+1) (((j*w+i:Nat):Int)+w)]:=by
 have h1:j*w<=63*64:=Nat.mul_le_mul (by omega) hw;unfold jb;have e:Jy ((Jy ((j:Int)*(w:Int)))+(i:Int))=((j*w+i:Nat):Int):=by
  rw[<-Int.natCast_mul,wrap64_in (n:=((j*w:Nat):Int)) (by omega) (by omega),wrap64_in (by omega) (by omega),Int.natCast_add]
 rw[e,wrap64_in (n:=((j*w+i:Nat):Int)+1) (by omega) (by omega),wrap64_in (n:=((j*w+i:Nat):Int)+(w:Int)) (by omega) (by omega),wrap64_in (n:=((j*w+i:Nat):Int)+(w:Int)+1) (by omega) (by omega)]
theorem Fw{k k' w:Int}(h:k≠k')(hw:2<=w):∀x∈[A3.mk k (k+1) (k+w+1),A3.mk k (k+w+1) (k+w)],∀y∈[A3.mk k' (k'+1) (k'+w+1),A3.mk k' (k'+w+1) (k'+w)],Rd x y:=by
 intro x hx y m e he j;simp only[List.mem_cons,List.not_mem_nil,or_false]at hx m;rcases hx with rfl|rfl<;>rcases m with rfl|rfl<;>simp only[dE,List.mem_cons,List.not_mem_nil,or_false]at he j<;>rcases he with rfl|rfl|rfl<;>rcases j with j|j|j<;>(rw[Prod.mk.injEq]at j;omega)
theorem Ib{k w:Int}(hw:2<=w):Rd (A3.mk k (k+1) (k+w+1)) (A3.mk k (k+w+1) (k+w)):=by
 intro e he j;simp only[dE,List.mem_cons,List.not_mem_nil,or_false]at he j;rcases he with rfl|rfl|rfl<;>rcases j with j|j|j<;>(rw[Prod.mk.injEq]at j;omega)
theorem HU{w h:Nat}(hw:2<=w/\w<=64)(J:2<=h/\h<=64):(nQ (w:Int) (w-1) (h-1)).Pairwise Rd:=by
 unfold nQ Ea;refine List.pairwise_flatMap.2 ⟨fun j C=>List.pairwise_flatMap.2 ⟨fun i q=>?_,?_⟩,?_⟩
 ·rw[List.mem_range]at C q;rw[Dm hw.2 (by omega) (by omega)];exact List.pairwise_cons.2 ⟨fun y m=>by rw[List.mem_singleton]at m;subst m;exact Ib (by omega),List.pairwise_singleton _ _⟩
 ·rw[List.mem_range]at C;refine List.pairwise_lt_range.imp_of_mem fun {i E} q p z=>?_
  rw[List.mem_range]at q p;rw[Dm hw.2 (by omega) (by omega),Dm hw.2 (by omega) (by omega)];exact Fw (by omega) (by omega)
 ·refine List.pairwise_lt_range.imp_of_mem fun {j I} C D z=>?_
  rw[List.mem_range]at C D;intro x hx y m;obtain⟨i,q,hx⟩:=List.mem_flatMap.1 hx;obtain⟨E,p,m⟩:=List.mem_flatMap.1 m;rw[List.mem_range]at q p;rw[Dm hw.2 (by omega) (by omega)]at hx m;have h1:(j+1)*w<=I*w:=Nat.mul_le_mul_right w z;rw[Nat.add_mul,Nat.one_mul]at h1;exact Fw (by omega) (by omega) x hx y m
def Rq(q j:K2×K2):Prop:=q.1≠j.1/\q.2≠j.2
theorem Ds{a b c d:Int}(h:A2.mk (mn a b) (mx a b)=A2.mk (mn c d) (mx c d)):(a=c/\b=d)\/(a=d/\b=c):=by
 injection h with h1 h2
 unfold mn at h1;unfold mx at h2;split at h1<;>split at h1<;>split at h2<;>split at h2<;>omega
theorem Aq{g:ak}{w h:Nat}(p:Gd g w h)(level:Int):(rC g w h level).Pairwise Rq:=by
 have hp:(gY g w h).Pairwise Rd:=by
  unfold gY;rw[p.W];exact(HU p.w1 p.h1).filter _
 refine hp.filterMap _ fun t t' J q M q' z=>?_
 obtain⟨⟨a,b,N,O,b1,e1⟩,⟨c,d,T,U,d1,e2⟩⟩:=ur M;obtain⟨⟨a',b',C,Y,j,D⟩,⟨c',d',E,a0,m,I⟩⟩:=ur z;refine⟨fun e=>?_,fun e=>?_⟩
 ·rw[e1,D]at e;rcases Ds e with⟨rfl,rfl⟩|⟨rfl,rfl⟩
  ·exact J _ N C
  ·rw[O]at j;cases j
 ·rw[e2,I]at e;rcases Ds e with⟨rfl,rfl⟩|⟨rfl,rfl⟩
  ·exact J _ T E
  ·rw[U]at m;cases m
section
variable{κ α:Type}[DecidableEq κ]
theorem mD{x:κ}:∀{l:List (κ×α)},dX l x=true↔∃p∈l,p.1=x
 |[]=>by simp[dX]
 |p::l=>by
  unfold dX;cases h:x==p.1 with
  |true=>
   have h:=eq_of_beq h;exact⟨fun _=>⟨p,by simp,h.symm⟩,fun _=>rfl⟩
  |false=>
   show dX l x=true↔_;rw[mD (l:=l)];constructor
   ·rintro⟨q,j,e⟩;exact⟨q,List.mem_cons_of_mem _ j,e⟩
   ·rintro⟨q,j,e⟩;rcases List.mem_cons.1 j with rfl|j
    ·rw[e]at h;simp at h
    ·exact⟨q,j,e⟩
theorem yu{x:κ}{v:α}:∀{l:List (κ×α)},dX l x=false->dm l x v=l++[(x,v)]
 |[],_=>rfl
 |p::l,h=>by
  unfold dX at h;unfold dm;cases hx:x==p.1 with
  |true=>rw[hx]at h;cases h
  |false=>
   rw[hx]at h;show p::dm l x v=p::(l++[(x,v)]);rw[yu h]
theorem AD{z v:α}{x y:κ}:∀{l:List (κ×α)},getM z (dm l x v) y=if y=x then v else getM z l y
 |[]=>by
  unfold dm getM getM;by_cases h:y=x
  ·subst h;simp
  ·rw[if_neg h,show(y==x)=false by simpa using h];rfl
 |p::l=>by
  unfold dm;cases hx:x==p.1 with
  |true=>
   have hx:=eq_of_beq hx;show getM z ((x,v)::l) y=_;unfold getM;by_cases h:y=x
   ·subst h;simp
   ·rw[if_neg h];subst hx;rw[show(y==p.1)=false by simpa using h];rfl
  |false=>
   show getM z (p::dm l x v) y=_;unfold getM;rw[AD (l:=l)];cases j:y==p.1 with
   |true=>
    have j:=eq_of_beq j;subst j;have m:¬p.1=x:=fun e=>by rw[e]at hx;simp at hx
    simp only[cond_true,if_neg m]
   |false=>rfl
theorem BG{z v:α}{x:κ}:∀{l:List (κ×α)},l.Pairwise (fun p q=>p.1≠q.1)->(x,v)∈l->getM z l x=v
 |[],_,h=>by cases h
 |p::l,hp,h=>by
  rw[List.pairwise_cons]at hp;unfold getM;rcases List.mem_cons.1 h with rfl|h
  ·simp
  ·have:(x==p.1)=false:=by
    have:=hp.1 _ h;simpa using fun e=>this e.symm
   rw[this];exact BG hp.2 h
theorem rY{z:α}{x:κ}:∀{l:List (κ×α)},dX l x=true->(x,getM z l x)∈l
 |[],h=>by cases h
 |p::l,h=>by
  unfold dX at h;unfold getM;cases hx:x==p.1 with
  |true=>have:=eq_of_beq hx;subst this;exact List.mem_cons_self ..
  |false=>rw[hx]at h;exact List.mem_cons_of_mem _ (rY h)
end
theorem yi:∀(S pre:List (K2×K2)),(pre++S).Pairwise Rq->S.foldl stM (pre,pre.map fun q=>(q.2,true))=(pre++S,(pre++S).map fun q=>(q.2,true))
 |[],pre,_=>by rw[List.append_nil];rfl
 |q::S,pre,h=>by
  have hd:=List.pairwise_append.1 h;have m:dX pre q.1=false:=by
   cases hc:dX pre q.1 with
   |false=>rfl
   |true=>
    obtain⟨p,hp,e⟩:=mD.1 hc;exact absurd e (hd.2.2 p hp q (by simp)).1
  have z:dX (pre.map fun q=>(q.2,true)) q.2=false:=by
   cases hc:dX (pre.map fun q=>(q.2,true)) q.2 with
   |false=>rfl
   |true=>
    obtain⟨p,hp,e⟩:=mD.1 hc;obtain⟨p',j,rfl⟩:=List.mem_map.1 hp;exact absurd e (hd.2.2 p' j q (by simp)).2
  show S.foldl stM (dm pre q.1 q.2,dm (pre.map fun q=>(q.2,true)) q.2 true)=_;rw[yu m,yu z];have:=yi S (pre++[q]) (by rw[List.append_assoc];exact h);rw[List.map_append]at this;rw[show pre++q::S=pre++[q]++S by simp];exact this
end Go.L

