import Derived.Test.YtfhhaadcodofnaaGreatChkL51h
import Derived.Test.YtfhhaadcodofnaaGreatChkL51c
import Derived.Test.YtfhhaadcodofnaaGreatChkL52tB
import Derived.Test.YtfhhaadcodofnaaGreatChkL02pB
set_option linter.all false
namespace Go.L
open Go Go.Eng
def kap(e:K2):Int:=e.e0*4096+e.e1
structure Cr (Z:List Int) (level:Int) (e:K2):Prop where
 i0:inR e.e0 Z.length=true
 i1:inR e.e1 Z.length=true
 z0:tF (gt Z e.e0)
 z1:tF (gt Z e.e1)
 ne:gt Z e.e0≠gt Z e.e1
 lt:e.e0<e.e1
theorem Cr.bd{Z:List Int}{level:Int}{e:K2}(h:Cr Z level e):0<=e.e0/\e.e0<e.e1/\e.e1<Z.length:=by
 have a:=kY.1 h.i0;have b:=kY.1 h.i1;have:=h.lt;omega
theorem ve{Z:List Int}{level:Int}(q:Z.length<=40){e f:K2}(he:Cr Z level e)(j:Cr Z level f)(h:kap e=kap f):e=f:=by
 have a:=he.bd;have b:=j.bd;unfold kap at h;obtain⟨e0,e1⟩:=e;obtain⟨f0,f1⟩:=f;dsimp only at*;have m:e0=f0:=by omega
 subst m;have h1:e1=f1:=by omega
 rw[h1]
def crE(Z:List Int)(level:Int)(e:K2):Rat:=Rat.divInt (level-2*gt Z e.e0) (2*(gt Z e.e1-gt Z e.e0))
theorem xy{g:an}{level:Int}(m:-2097153<=level/\level<=2097153){e:K2}(h:Cr g.Z level e):dh 20000 g level e=some (crP g level e)/\(crP g level e).A=e.e0/\(crP g level e).B=e.e1/\Qx (crP g level e).At (crE g.Z level e) 3:=by
 have key:Ok (dh 20000 g level e) fun c=>c.A=e.e0/\c.B=e.e1/\Qx c.At (crE g.Z level e) 3:=by
  unfold dh;have a:=h.z0;have b:=h.z1;have n:=h.ne;unfold tF at a b;refine Ok.gd h.i0 (Ok.gd h.i1 ?_);rw[wrap64_in (n:=2*gt g.Z e.e0) (by omega) (by omega),wrap64_in (n:=level-2*gt g.Z e.e0) (by omega) (by omega),wrap64_in (n:=gt g.Z e.e1-gt g.Z e.e0) (by omega) (by omega),wrap64_in (n:=2*(gt g.Z e.e1-gt g.Z e.e0)) (by omega) (by omega)];refine Ok.bd (C7 (by omega) (by omega) (by omega) (by omega) (by omega) (by omega)) ?_;rintro v ⟨j,-⟩;exact aw.2 ⟨rfl,rfl,j⟩
 obtain⟨c,e1,e2⟩:=key;have:crP g level e=c:=by unfold crP;rw[e1];rfl
 rw[this];exact⟨e1,e2⟩
theorem xJ{g:an}{level:Int}(m:-2097153<=level/\level<=2097153){e:K2}(h:Cr g.Z level e):bX 20000 g level e=some (crR g level e)/\(crR g level e).A=e.e0/\(crR g level e).B=e.e1/\R.Qx (crR g level e).At (crE g.Z level e) 3:=by
 have key:Ok (bX 20000 g level e) fun c=>c.A=e.e0/\c.B=e.e1/\R.Qx c.At (crE g.Z level e) 3:=by
  unfold bX;have a:=h.z0;have b:=h.z1;have n:=h.ne;unfold tF at a b;refine Ok.gd h.i0 (Ok.gd h.i1 ?_);rw[wrap64_in (n:=2*gt g.Z e.e0) (by omega) (by omega),wrap64_in (n:=level-2*gt g.Z e.e0) (by omega) (by omega),wrap64_in (n:=gt g.Z e.e1-gt g.Z e.e0) (by omega) (by omega),wrap64_in (n:=2*(gt g.Z e.e1-gt g.Z e.e0)) (by omega) (by omega)];refine Ok.bd (R.C7 (by omega) (by omega) (by omega) (by omega) (by omega) (by omega)) ?_;rintro v ⟨j,-⟩;exact aw.2 ⟨rfl,rfl,j⟩
 obtain⟨c,e1,e2⟩:=key;have:crR g level e=c:=by unfold crR;rw[e1];rfl
 rw[this];exact⟨e1,e2⟩
theorem GF{g:an}{level:Int}{w h:Nat}(I:Gd g w h)(hb:g.Z.any qM=false):Ge (tG g w h level) (Cr g.Z level):=by
 refine⟨fun q C=>?_⟩;unfold tG at C;obtain⟨t,J,e⟩:=List.mem_filterMap.1 C;have m:=II hb I J;have t0:=m 0 (by omega);have t1:=m 1 (by omega);have t2:=m 2 (by omega);change inR t.e0 g.Z.length=true/\tF (gt g.Z t.e0)at t0;change inR t.e1 g.Z.length=true/\tF (gt g.Z t.e1)at t1;change inR t.e2 g.Z.length=true/\tF (gt g.Z t.e2)at t2;have j:∀{a b:Int},(a,b)∈dE t->(inR a g.Z.length=true/\tF (gt g.Z a))/\inR b g.Z.length=true/\tF (gt g.Z b):=by
  intro a b h;simp only[dE,List.mem_cons,List.not_mem_nil,or_false,Prod.mk.injEq]at h;rcases h with⟨rfl,rfl⟩|⟨rfl,rfl⟩|⟨rfl,rfl⟩
  ·exact⟨t0,t1⟩
  ·exact⟨t1,t2⟩
  ·exact⟨t2,t0⟩
 have mk:∀{a b:Int},(a,b)∈dE t->abv g.Z level a≠abv g.Z level b->Cr g.Z level (A2.mk (mn a b) (mx a b)):=by
  intro a b hm N;obtain⟨⟨D,a2⟩,E,b2⟩:=j hm;have z:gt g.Z a≠gt g.Z b:=fun h=>N (by unfold abv;rw[h])
  have O:a≠b:=fun h=>z (by rw[h])
  unfold mn mx;by_cases h:b<a
  ·rw[if_pos h,if_neg (by omega)];exact⟨E,D,b2,a2,fun k=>z k.symm,h⟩
  ·rw[if_neg h,if_pos (by omega)];exact⟨D,E,a2,b2,z,by show a<b;omega⟩
 obtain⟨⟨a,b,m1,x1,T,e1⟩,⟨c,d,m2,x2,U,e2⟩⟩:=yB e;rw[e1,e2];exact⟨mk m1 (by rw[x1,T];simp),mk m2 (by rw[x2,U];simp)⟩
def fK(c:aa):K2:=A2.mk (gt c.Points 0).A (gt c.Points 0).B
def kC(c:aa):Int:=kap (fK c)
def okC(c:aa):Prop:=0<c.Points.length/\0<=(fK c).e0/\(fK c).e0<40/\0<=(fK c).e1/\(fK c).e1<40
theorem tt{a b:K2}(ha:0<=a.e0/\a.e0<40/\0<=a.e1/\a.e1<40)(hb:0<=b.e0/\b.e0<40/\0<=b.e1/\b.e1<40):∃c,cU 20000 a b=some c/\(c<0↔kap a<kap b):=by
 unfold cU kap;by_cases h:a.e0=b.e0
 ·rw[show(a.e0 !=b.e0)=false by simpa using h];refine⟨_,rfl,?_⟩;rw[wrap64_in (by omega) (by omega)];omega
 ·rw[show(a.e0 !=b.e0)=true by simpa using h];refine⟨_,rfl,?_⟩;rw[wrap64_in (by omega) (by omega)];omega
theorem xE{c:aa}(h:okC c):dw 20000 c=some (fK c):=by
 unfold dw;rw[show inR 0 c.Points.length=true by rw[kY];have:=h.1;omega];rfl
theorem DE{c:aa}(h:okC c):bM 20000 c=some (fK c):=by
 unfold bM;rw[show inR 0 c.Points.length=true by rw[kY];have:=h.1;omega];rfl
theorem F3{a b:aa}(ha:okC a)(hb:okC b):∃c,jQ 20000 a b=some c/\(c<0↔kC a<kC b):=by
 obtain⟨c,e,h⟩:=tt (a:=fK a) (b:=fK b) ha.2 hb.2;refine⟨c,?_,h⟩;unfold jQ;rw[xE ha,xE hb];show bdO (cU 20000 (fK a) (fK b)) _=_;rw[e];rfl
theorem IL{a b:K2}(ha:0<=a.e0/\a.e0<40/\0<=a.e1/\a.e1<40)(hb:0<=b.e0/\b.e0<40/\0<=b.e1/\b.e1<40):dV 20000 a b=some (decide (kap a<kap b)):=by
 unfold dV kap;by_cases h:a.e0<b.e0
 ·rw[decide_eq_true h,decide_eq_true (show a.e0*4096+a.e1<b.e0*4096+b.e1 by omega)];rfl
 ·rw[decide_eq_false h];by_cases h1:a.e0=b.e0
  ·rw[show(a.e0==b.e0)=true by simpa using h1];show some (decide (a.e1<b.e1))=_;congr 1;rw[decide_eq_decide];omega
  ·rw[show(a.e0==b.e0)=false by simpa using h1,decide_eq_false (show ¬a.e0*4096+a.e1<b.e0*4096+b.e1 by omega)];rfl
theorem BW{α β:Type}{f:α->β}{p:β->Int}{q:α->Int}{x:α}:∀{l:List α},(∀y∈l,p (f y)=q y)->p (f x)=q x->mG (ltK p) (f x) (l.map f)=(mG (ltK q) x l).map f
 |[],_,_=>rfl
 |y::l,h,hx=>by
  have j:=h y (by simp);show(if decide (p (f y)<p (f x))=true then f y::mG (ltK p) (f x) (l.map f)else f x::f y::l.map f)=(if decide (q y<q x)=true then y::mG (ltK q) x l else x::y::l).map f;rw[j,hx];split
  ·rw[List.map_cons,BW (fun z m=>h z (List.mem_cons_of_mem _ m)) hx]
  ·rfl
theorem wu{α β:Type}{f:α->β}{p:β->Int}{q:α->Int}:∀{l:List α},(∀y∈l,p (f y)=q y)->fJ (ltK p) (l.map f)=(fJ (ltK q) l).map f
 |[],_=>rfl
 |x::l,h=>by
  show mG (ltK p) (f x) (fJ (ltK p) (l.map f))=(mG (ltK q) x (fJ (ltK q) l)).map f;rw[wu fun y j=>h y (List.mem_cons_of_mem _ j)];exact BW (fun y j=>h y (by
   rw[iw]at j;exact List.mem_cons_of_mem _ j)) (h x (by simp))
theorem Iz{l:List aa}(q:l.length<=200)(h:∀c∈l,okC c)(hd:l.Pairwise fun a b=>kC a≠kC b):aM 20000 l=some (fJ (ltK kC) l):=by
 unfold aM;rw[decide_eq_true (show l.length<4611686018427387904 by omega)];refine wD (fun x y hx j=>F3 (h x hx) (h y j)) fun x y hx j e=>?_
 apply Classical.byContradiction;intro m;exact Az (R:=fun a b=>kC a≠kC b) (fun a b h k=>h k.symm) hd x hx y j m e
theorem DZ{l:List K2}(C:l.length<=200)(h:∀e∈l,0<=e.e0/\e.e0<40/\0<=e.e1/\e.e1<40):aD 20000 l=some (fJ (ltK kap) l):=by
 unfold aD;rw[decide_eq_true (show l.length<4611686018427387904 by omega)];refine wD (fun x y hx j=>tt (h x hx) (h y j)) fun x y hx j e=>?_
 have a:=h x hx;have b:=h y j;unfold kap at e;obtain⟨x0,x1⟩:=x;obtain⟨m,q⟩:=y;dsimp only at*;have z:x0=m:=by omega
 subst z;have h1:x1=q:=by omega
 rw[h1]
def gK:aa->aa->Bool:=ltK fun c=>-kC c
theorem IB{out:List aa}(hl:out.length<=10000)(h:∀c∈out,okC c):Ok (aP (α:=List aa×Int) (β:=List aa) 20000 (fun E (D,I)=>(
              cdO (decide (I<(out.length:Int))) (
               bdO (aP (α:=List aa×Int) (β:=List aa) 20000 (fun z (j,q)=>(
                cdO (decide (q>0)) (
                 gdO (inR q j.length) (
                 bdO (bM 20000 (gt j q)) fun J=>(
                 gdO (inR (Ki (q-1)) j.length) (
                 bdO (bM 20000 (gt j (Ki (q-1)))) fun N=>(
                 bdO (dV 20000 J N) fun O=>(
                 cdO O (
                  z ((j.set q.toNat (gt j (Ki (q-1)))).set (Ki (q-1)).toNat (gt j q),Ki (q-1))
                 ) (
                  some (j)
                 )
                 )
                 )
                 )
                 )
                 )
                ) (
                 some (j)
                )
               )) (D,I)) fun T=>(
                E (T,Ki (I+1))
               )
              ) (
               some (D)
              )
 )) (out,0)) fun r=>r=(fJ gK out.reverse).reverse:=by
 have inner : ∀ (r C:List aa) (x:aa) (m:Nat),r.length<m->r.length<=10000->(∀c∈r,okC c)->okC x->Ok (aP (α:=List aa×Int) (β:=List aa) m (fun z (j,q)=>(
                 cdO (decide (q>0)) (
                  gdO (inR q j.length) (
                  bdO (bM 20000 (gt j q)) fun J=>(
                  gdO (inR (Ki (q-1)) j.length) (
                  bdO (bM 20000 (gt j (Ki (q-1)))) fun N=>(
                  bdO (dV 20000 J N) fun O=>(
                  cdO O (
                   z ((j.set q.toNat (gt j (Ki (q-1)))).set (Ki (q-1)).toNat (gt j q),Ki (q-1))
                  ) (
                   some (j)
                  )
                  )
                  )
                  )
                  )
                  )
                 ) (
                  some (j)
                 )
  )) (r.reverse++x::C,(r.length:Int))) fun o=>o=(mG gK x r).reverse++C:=by
  intro r;induction r with
  |nil=>
   intro C x m hm _ _ _;obtain⟨m,rfl⟩:∃k,m=k+1:=⟨m-1,by omega⟩;rw[lX];exact Ok.cd (fun h=>by cases h) (fun _=>aw.2 rfl)
  |cons y r ih=>
   intro C x m hm hr Y hx;rw[List.length_cons]at hm hr;obtain⟨m,rfl⟩:∃k,m=k+1:=⟨m-1,by omega⟩;have hy:=Y y (by simp);have hlen:(r.reverse++y::x::C).length=r.length+(C.length+2):=by simp
   have e0:(y::r).reverse++x::C=r.reverse++y::x::C:=by simp
   have e1:gt (r.reverse++y::x::C) ((r.length+1:Nat):Int)=x:=by
    rw[jo];simp[List.getD,List.getElem?_append_right]
   have e2:gt (r.reverse++y::x::C) ((r.length:Nat):Int)=y:=by
    rw[jo];simp[List.getD,List.getElem?_append_right]
   have e3:(((r.reverse++y::x::C).set (r.length+1) y).set r.length x)=r.reverse++x::y::C:=by
    rw[List.set_append_right _ _ (by simp),List.set_append_right _ _ (by simp)];simp
   rw[lX];dsimp only;rw[List.length_cons,e0,show Ki (((r.length+1:Nat):Int)-1)=((r.length:Nat):Int)by rw[wrap64_in (by omega) (by omega)];omega,e1,e2];refine Ok.cd (fun _=>?_) (fun h=>by have:=dcF h;omega);refine Ok.gd (by rw[bj];exact decide_eq_true (by omega)) (Ok.bde (DE hx) (Ok.gd (by rw[bj];exact decide_eq_true (by omega)) (Ok.bde (DE hy) (Ok.bde (IL hx.2 hy.2) ?_))));have U:mG gK x (y::r)=if kC x<kC y then y::mG gK x r else x::y::r:=by
    show(if gK y x=true then y::mG gK x r else x::y::r)=_;have eg:gK y x=decide (kC x<kC y):=by
     show decide (-kC y< -kC x)=_;rw[decide_eq_decide];omega
    rw[eg];by_cases h:kC x<kC y
    ·rw[if_pos h,if_pos (decide_eq_true h)]
    ·rw[if_neg h,if_neg (by simpa using h)]
   rw[U];refine Ok.cd (fun h=>?_) (fun h=>aw.2 ?_)
   ·have h:kC x<kC y:=dcT h;rw[if_pos h,Int.toNat_natCast,Int.toNat_natCast,e3];refine(ih (y::C) x m (by omega) (by omega) (fun c hc=>Y c (List.mem_cons_of_mem _ hc)) hx).mono fun o e=>?_
    rw[e,List.reverse_cons,List.append_assoc];rfl
   ·have h:¬kC x<kC y:=dcF h;rw[if_neg h,List.reverse_cons,List.reverse_cons];simp
 refine eC (γ:=List aa) (len:=out.length) (fun c x=>(c,x)) (fun i c=>c=(fJ gK (out.take i).reverse).reverse++out.drop i) (by omega) (by omega) (c0:=out) rfl ?_ ?_
 ·rintro again i c U rfl ih;dsimp only;refine Ok.cd (fun _=>?_) (fun h=>by have:=dcF h;omega);have hm:∀c∈fJ gK (out.take i).reverse,okC c:=fun c hc=>by
   rw[iw,List.mem_reverse]at hc;exact h c (List.mem_of_mem_take hc)
  have hlen:(fJ gK (out.take i).reverse).length=i:=by rw[kR,List.length_reverse,List.length_take];omega
  have:=inner (fJ gK (out.take i).reverse) (out.drop (i+1)) out[i] 20000 (by omega) (by omega) hm (h _ (List.getElem_mem U));rw[hlen]at this;rw[List.drop_eq_getElem_cons U];refine Ok.bd this fun o Y=>ih o ?_
  rw[Y,qo U,List.reverse_append];rfl
 ·rintro again c rfl;refine Ok.cd (fun h=>by have:=dcT h;omega) (fun _=>aw.2 ?_);rw[List.take_length,List.drop_length,List.append_nil]
end Go.L

