import Derived.Test.YtglimpjlhfjgdaaGreatSldL23c
set_option linter.all false
namespace Go.L
open Go Go.Eng
theorem Fa{p q:ar}(hp:inV p)(j:inV q):Ok (gg 20000 p q) fun u=>IW u (A3.mk (q.X-p.X) (q.Y-p.Y) (q.Z-p.Z)) 3:=by
 obtain⟨h1,h2,C⟩:=hp;obtain⟨D,E,I⟩:=j;unfold gg;rw[wrap64_in (n:=q.X-p.X) (by omega) (by omega),wrap64_in (n:=q.Y-p.Y) (by omega) (by omega),wrap64_in (n:=q.Z-p.Z) (by omega) (by omega)];exact Ok.bd (IL.of (by omega) (by omega)) fun a m=>Ok.bd (IL.of (by omega) (by omega)) fun b z=>Ok.bd (IL.of (by omega) (by omega)) fun c hc=>aC.2 ⟨m,z,hc⟩
def vwP(p:ar)(V:List ar)(i:Int):A3 Int:=A3.mk ((gt V i).X-p.X) ((gt V i).Y-p.Y) ((gt V i).Z-p.Z)
def crn(p:ar)(V:List ar)(t:A3 Int):A3 (A3 Int):=A3.mk (vwP p V t.e0) (vwP p V t.e1) (vwP p V t.e2)
def dtC(c:A3 (A3 Int)):Int:=dtV c.e0 c.e1 c.e2
def ctC(k:Int)(c:A3 (A3 Int)):Int:=ctF k c.e0 c.e1 c.e2
def Ed(k:Int)(c:A3 (A3 Int)):Prop:=sdK k c.e0 c.e1≠0/\sdK k c.e1 c.e2≠0/\sdK k c.e2 c.e0≠0
def Fc(x:A3 (A3 ah))(c:A3 (A3 Int)):Prop:=IW x.e0 c.e0 3/\IW x.e1 c.e1 3/\IW x.e2 c.e2 3
structure Rl (L:List (A3 (A3 ah))) (C:List (A3 (A3 Int))):Prop where
 len:L.length=C.length
 at':∀j,j<C.length->Fc (L.getD j default) (C.getD j default)
theorem Rl.nil:Rl [] []:=⟨rfl,fun j h=>by simp at h⟩
theorem Rl.snoc{L:List (A3 (A3 ah))}{C:List (A3 (A3 Int))}(h:Rl L C){x:A3 (A3 ah)}{c:A3 (A3 Int)}(m:Fc x c):Rl (L++[x]) (C++[c]):=by
 refine⟨by simp[h.len],fun j p=>?_⟩;rw[List.length_append,List.length_singleton]at p;have q:=h.len;by_cases e:j<C.length
 ·simp only[List.getD,List.getElem?_append_left e,List.getElem?_append_left (show j<L.length by omega)];exact h.at' j e
 ·have z:j=C.length:=by omega
  subst z;have e1:(L++[x]).getD C.length default=x:=by rw[<-q];simp[List.getD]
  have e2:(C++[c]).getD C.length default=c:=by simp[List.getD]
  rw[e1,e2];exact m
def fcs(p:ar)(V:List ar)(F:List (A3 Int)):List (A3 (A3 Int)):=(F.map (crn p V)).filter fun c=>dtC c !=0
theorem Mh{v:Int}(h:(v !=0)=true):v≠0:=by simpa using h
theorem Me{v:Int}(h:(v !=0)=false):v=0:=by simpa using h
theorem F7{p:ar}{V:List ar}{F:List (A3 Int)}{k:Nat}(hk:k<F.length):fcs p V (F.take (k+1))=if dtC (crn p V (F.getD k default))≠0 then fcs p V (F.take k)++[crn p V (F.getD k default)]else fcs p V (F.take k):=by
 unfold fcs;rw[List.take_succ_eq_append_getElem hk,List.map_append,List.filter_append];have e:F.getD k default=F[k]:=by simp only[List.getD,geT hk,Option.getD_some]
 rw[e];by_cases h:dtC (crn p V F[k])=0
 ·rw[if_neg (by omega)];simp[h]
 ·rw[if_pos h];simp[h]
theorem zG{p:ar}{V:List ar}{F:List (A3 Int)}:(fcs p V F).length<=F.length:=by
 unfold fcs;refine Nat.le_trans (List.length_filter_le _ _) ?_;rw[List.length_map];exact Nat.le_refl _
theorem JR{k:Int}{c:A3 (A3 Int)}:-1<=ctC k c/\ctC k c<=1:=by
 unfold ctC ctF ctK;split
 ·omega
 ·split<;>omega
theorem Hr{D a b g:Int}(j:D≠0):ctK D a b g=if sgn g=sgn D/\sgn a=sgn D/\sgn b=sgn D then sgn D else 0:=by
 have h1:=bZ D;have h2:=bZ a;have m:=bZ b;have p:=bZ g;unfold ctK
 repeat' split
 all_goals omega
def lQ(k:Int)(C:List (A3 (A3 Int))):Prop:=∀c∈C,Ed k c
theorem D4{k:Int}{C:List (A3 (A3 Int))}{j:Nat}(m:j<C.length)(h:lQ k (C.take j))(h2:Ed k (C.getD j default)):lQ k (C.take (j+1)):=by
 intro c hc;rw[List.take_succ_eq_append_getElem m]at hc;rcases List.mem_append.1 hc with hc|hc
 ·exact h c hc
 ·rw[List.mem_singleton]at hc;rw[hc];simpa only[List.getD,geT m,Option.getD_some]using h2
theorem FL{α:Type}[Inhabited α]{f:α->Int}{C:List α}{j:Nat}(m:j<C.length):sI ((C.take (j+1)).map f)=sI ((C.take j).map f)+f (C.getD j default):=by
 rw[List.take_succ_eq_append_getElem m,List.map_append,mh];have e:C.getD j default=C[j]:=by simp only[List.getD,geT m,Option.getD_some]
 rw[e];simp[sI]
theorem Ez{V:List ar}{F:List (A3 Int)}{p:ar}{N:Nat}(a7:gD 20000 (az.mk V F)=some 0)(a8:fA 20000 (az.mk V F)=some [])(hp:inV p)
  (hV:∀k,k<2*N->inV (gt V (k:Int))) (lV:V.length=2*N) (hF:∀t∈F,okT N t=true) (lF:F.length<=200)
  (hh:∀t∈F,∃f:A3 Int,0<dV f (crn p V t).e0/\0<dV f (crn p V t).e1/\0<dV f (crn p V t).e2) {K:Int} (hK:1<=K/\K<=2000) (hg:lQ K (fcs p V F)):
  Ok (gR 20000 (az.mk V F) p) fun r=>r.2=0/\∃k,1<=k/\k<=2000/\lQ k (fcs p V F)/\r.1=sI ((fcs p V F).map (ctC k)):=by
 unfold gR;refine Ok.bde a7 (Ok.cd (fun h=>by cases h) (fun _=>Ok.bde a8 (Ok.cd (fun h=>by cases h) (fun _=>Ok.bde (BN (by omega) hp) (Ok.cd (fun h=>by cases h) (fun _=>?_))))));dsimp only;refine Ok.bd (R:=fun o=>∃L,o=Sum.inl L/\Rl L (fcs p V F)) ?_ ?_
 ·refine gO (γ:=List (A3 (A3 ah))) (fun c x=>(c,x)) (fun k c=>Rl c (fcs p V (F.take k))) (len:=F.length) (by omega) (by omega) (c0:=[]) Rl.nil ?_ ?_
  ·rintro again k c hk hc ih;have hm:F.getD k default∈F:=by simp only[List.getD,geT hk,Option.getD_some];exact List.getElem_mem hk
   obtain⟨f,f0,f1,f2⟩:=hh _ hm;have ft:=F7 (p:=p) (V:=V) hk;obtain⟨a,b,d,et,ha,hb,hd,_⟩:=tN (hF _ hm);rw[et]at f0 f1 f2 ft;dsimp only;refine Ok.cd (fun _=>Ok.gd (by rw[bf];exact decide_eq_true hk) ?_) (fun h=>by have:=dcF h;omega);rw[cZ,et];dsimp only;refine Ok.gd (by rw[bf,lV];exact decide_eq_true ha) (Ok.bd (Fa hp (hV a ha)) fun u hu=>?_);refine Ok.gd (by rw[bf,lV];exact decide_eq_true hb) (Ok.bd (Fa hp (hV b hb)) fun v E=>?_);refine Ok.gd (by rw[bf,lV];exact decide_eq_true hd) (Ok.bd (Fa hp (hV d hd)) fun x Y=>?_);refine Ok.bde (Hn hu E Y f0 f1 f2) (Ok.cd (fun h=>by cases h) (fun _=>?_));refine Ok.bd (oZ (by omega) E Y) fun y hy=>Ok.bd (vF (by omega) hu hy) fun z hz=>Ok.bde (pA (by omega) hz) ?_
   have hl:=hc.len;have b3:=zG (p:=p) (V:=V) (F:=F.take k);rw[List.length_take]at b3;refine Ok.cd (fun h1=>?_) (fun h1=>?_)
   ·have h1:dtC (crn p V (A3.mk (a:Int) (b:Int) (d:Int)))≠0:=fun e=>Mh (v:=sgn (dtC (crn p V (A3.mk (a:Int) (b:Int) (d:Int))))) h1 (B6.2 e)
    rw[if_pos h1]at ft;refine Ok.gd (decide_eq_true (by omega)) (Ok.gd (decide_eq_true (by omega)) (ih _ ?_));rw[ft];exact hc.snoc ⟨hu,E,Y⟩
   ·have h1:dtC (crn p V (A3.mk (a:Int) (b:Int) (d:Int)))=0:=B6.1 (Me (v:=sgn (dtC (crn p V (A3.mk (a:Int) (b:Int) (d:Int))))) h1);rw[if_neg (by omega)]at ft;refine ih _ ?_;rw[ft];exact hc
  ·rintro again c hc;dsimp only;rw[List.take_length]at hc;exact Ok.cd (fun h=>by have:=dcT h;omega) (fun _=>aC.2 ⟨_,rfl,hc⟩)
 ·rintro o ⟨L,rfl,hL⟩;have b4:∀c∈fcs p V F,dtC c≠0:=fun c hc=>by
   have:=(List.mem_filter.1 hc).2;simpa using this
  have hlen:=Nat.le_trans (zG (p:=p) (V:=V) (F:=F)) lF;generalize fcs p V F=C at*;have ll:=hL.len;dsimp only;refine Ok.bd (R:=fun r=>r.2=0/\∃k,1<=k/\k<=2000/\lQ k C/\r.1=sI (C.map (ctC k))) ?_ fun r I=>aC.2 I
  refine fu (fun k=>1<=k/\k<=K) (fun k=>(K-k).toNat) ?_ 20000 1 (by omega) (by omega);rintro again k hk ih;refine Ok.bd (IL.of (by omega) (by omega)) fun d0 q0=>Ok.bd (IL.of (by omega) (by omega)) fun d1 q1=>?_
  have kk:=nQ (a:=k) (b:=k) (A:=2000) (B:=2000) (by omega) (by omega) (by omega) (by omega);rw[wrap64_in (n:=k*k) (by omega) (by omega)];refine Ok.bd (IL.of (by omega) (by omega)) fun d2 q2=>?_
  have hd:IW (A3.mk d0 d1 d2) (A3.mk 1 k (k*k)) 3:=⟨q0,q1,q2⟩;refine Ok.bd (R:=fun o=>(o=Sum.inl ()/\¬lQ k C)\/(o=Sum.inr (sI (C.map (ctC k)))/\lQ k C)) ?_ ?_
  ·refine gO (γ:=Int) (fun c x=>(c,x)) (fun j c=>c=sI ((C.take j).map (ctC k))/\(-(j:Int)<=c/\c<=(j:Int))/\lQ k (C.take j)) (len:=L.length) (by omega) (by omega) (c0:=0) ⟨rfl,by omega,fun c hc=>by simp at hc⟩ ?_ ?_
   ·rintro m j c hj ⟨hc,hb,hgt⟩ b0;have D:j<C.length:=by omega
    obtain⟨hu,E,Y⟩:=hL.at' j D;have a1:C.getD j default∈C:=by simp only[List.getD,geT D,Option.getD_some];exact List.getElem_mem D
    have hD:=b4 _ a1;have es:=FL (f:=ctC k) D;have b1:=D4 (k:=k) D hgt;have b6:=JR (k:=k) (c:=C.getD j default);have J:¬Ed k (C.getD j default)->¬lQ k C:=fun h g=>h (g _ a1)
    dsimp only;refine Ok.cd (fun _=>Ok.gd (by rw[bf];exact decide_eq_true hj) ?_) (fun h=>by have:=dcF h;omega);rw[cZ];generalize C.getD j default=e at*;generalize L.getD j default=l at*;have sd:∀{u v:A3 Int},sdK k u v=dV (A3.mk 1 k (k*k)) (crV u v):=rfl;refine Ok.bd (oZ (by omega) E Y) fun y1 r1=>Ok.bd (vF (by omega) hu r1) fun y2 r2=>Ok.bde (pA (by omega) r2) ?_
    refine Ok.bd (oZ (by omega) hu E) fun y3 r3=>Ok.bd (vF (by omega) hd r3) fun y4 r4=>Ok.bde (pA (by omega) r4) ?_
    rw[<-sd];have eD:dV e.e0 (crV e.e1 e.e2)=dtC e:=rfl;rw[eD];have M:ctC k e=ctK (dtC e) (sdK k e.e1 e.e2) (sdK k e.e2 e.e0) (sdK k e.e0 e.e1):=rfl;rw[Hr hD]at M;have next:∀v:Int,v=c+ctC k e->Ed k e->Ok (m (MR v,MR ((j:Int)+1))) fun o=>(o=Sum.inl ()/\¬lQ k C)\/(o=Sum.inr (sI (C.map (ctC k)))/\lQ k C):=fun v E I=>by
     rw[wrap64_in (n:=v) (by omega) (by omega)];exact b0 _ ⟨by rw[es,E,hc],by omega,b1 I⟩
    have q:ctC k e=0->Ed k e->Ok (m (c,MR ((j:Int)+1))) fun o=>(o=Sum.inl ()/\¬lQ k C)\/(o=Sum.inr (sI (C.map (ctC k)))/\lQ k C):=fun h I=>by
     exact b0 _ ⟨by rw[es,h,hc,Int.add_zero],by omega,b1 I⟩
    have zr:∀{v:Int},((sgn v:Int)==0)=true->v=0:=fun h=>B6.1 (by simpa using h)
    have O:∀{v:Int},((sgn v:Int)==0)=false->v≠0:=fun h e=>by rw[B6.2 e]at h;cases h
    refine Ok.cd (fun h=>aC.2 (.inl ⟨rfl,J fun r=>r.1 (zr h)⟩)) (fun T=>?_);have T:=O T;refine Ok.bd (oZ (by omega) E Y) fun y5 r5=>Ok.bd (vF (by omega) hd r5) fun y6 r6=>Ok.bde (pA (by omega) r6) ?_
    rw[<-sd];refine Ok.cd (fun h=>aC.2 (.inl ⟨rfl,J fun r=>r.2.1 (zr h)⟩)) (fun U=>?_);have U:=O U;refine Ok.cd (fun c1=>?_) (fun c1=>?_)
    ·refine Ok.bd (oZ (by omega) Y hu) fun y7 r7=>Ok.bd (vF (by omega) hd r7) fun y8 r8=>Ok.bde (pA (by omega) r8) ?_
     rw[<-sd];refine Ok.cd (fun h=>aC.2 (.inl ⟨rfl,J fun r=>r.2.2 (zr h)⟩)) (fun a6=>?_);have I:Ed k e:=⟨T,U,O a6⟩;have c1:sgn (sdK k e.e0 e.e1)=sgn (dtC e):=by simpa using c1
     refine Ok.cd (fun c2=>?_) (fun c2=>?_)
     ·have c2:sgn (sdK k e.e1 e.e2)=sgn (dtC e):=by simpa using c2
      refine Ok.cd (fun c3=>?_) (fun c3=>?_)
      ·have c3:sgn (sdK k e.e2 e.e0)=sgn (dtC e):=by simpa using c3
       rw[if_pos ⟨c1,c2,c3⟩]at M;exact next _ (by rw[M]) I
      ·have c3:¬sgn (sdK k e.e2 e.e0)=sgn (dtC e):=by simpa using c3
       rw[if_neg fun h=>c3 h.2.2]at M;exact q M I
     ·have c2:¬sgn (sdK k e.e1 e.e2)=sgn (dtC e):=by simpa using c2
      rw[if_neg fun h=>c2 h.2.1]at M;exact q M I
    ·have c1:¬sgn (sdK k e.e0 e.e1)=sgn (dtC e):=by simpa using c1
     refine Ok.bd (oZ (by omega) Y hu) fun y7 r7=>Ok.bd (vF (by omega) hd r7) fun y8 r8=>Ok.bde (pA (by omega) r8) ?_
     rw[<-sd];refine Ok.cd (fun h=>aC.2 (.inl ⟨rfl,J fun r=>r.2.2 (zr h)⟩)) (fun a6=>?_);rw[if_neg fun h=>c1 h.1]at M;exact q M ⟨T,U,O a6⟩
   ·rintro m c ⟨hc,_,hgt⟩;rw[ll,List.take_length]at hc hgt;dsimp only;exact Ok.cd (fun h=>by have:=dcT h;omega) (fun _=>aC.2 (.inr ⟨by rw[hc],hgt⟩))
  ·rintro o (⟨rfl,hn⟩|⟨rfl,b5⟩)
   ·have:k≠K:=fun e=>hn (e▸hg)
    rw[wrap64_in (n:=k+1) (by omega) (by omega)];exact ih (k+1) (by omega) (by omega)
   ·exact aC.2 ⟨rfl,k,by omega,by omega,b5,rfl⟩
end Go.L


set_option linter.all false
namespace Go.L
open Go Go.Eng
theorem Ij{p:Int->Bool}:∀{l:List Int},(∀x∈l,p x=false)->l.countP p=0
 |[],_=>rfl
 |x::l,h=>by rw[List.countP_cons,Ij fun y j=>h y (List.mem_cons_of_mem _ j),h x List.mem_cons_self];rfl
theorem Iu{p:Int->Bool}:∀{l:List Int},l.Pairwise (·<·)->(∀x∈l,∀y∈l,x<y->p x=true->p y=false)->l.countP p<=1
 |[],_,_=>by simp
 |x::l,hp,h=>by
  have hp:=List.pairwise_cons.1 hp;have m:=Iu hp.2 fun a q b z=>h a (List.mem_cons_of_mem _ q) b (List.mem_cons_of_mem _ z)
  rw[List.countP_cons];cases C:p x with
  |false=>simpa using m
  |true=>
   rw[Ij fun y j=>h x List.mem_cons_self y (List.mem_cons_of_mem _ j) (hp.1 y j) C];simp
theorem Ih{p:Int->Bool}:∀{l:List Int},l.Pairwise (·<·)->(∀x y z,x<y->y<z->p x=true->p y=true->p z=false)->l.countP p<=2
 |[],_,_=>by simp
 |x::l,hp,h=>by
  have hp:=List.pairwise_cons.1 hp;have q:=Ih hp.2 h;rw[List.countP_cons];cases C:p x with
  |false=>simpa using q
  |true=>
   have:=Iu hp.2 fun a D b E j m=>h x a b (hp.1 a D) j C m
   simp;omega
theorem CV{ι:Type}{z:ι->Int->Bool}:∀(Q:List ι),(∀q∈Q,∀x y t,x<y->y<t->z q x=true->z q y=true->z q t=false)->∀l:List Int,l.Pairwise (·<·)->∃m:List Int,m.Pairwise (·<·)/\l.length<=m.length+2*Q.length/\(∀k∈m,k∈l)/\∀q∈Q,∀k∈m,z q k=false
 |[],_,l,C=>⟨l,C,by simp,fun _ h=>h,fun q D=>by simp at D⟩
 |q::Q,h,l,C=>by
  obtain⟨m,h1,h2,E,I⟩:=CV Q (fun r j=>h r (List.mem_cons_of_mem _ j)) l C;refine⟨m.filter fun k=>!z q k,h1.filter _,?_,fun k hk=>E k (List.mem_filter.1 hk).1,?_⟩
  ·have c:=Ih (p:=z q) h1 (h q List.mem_cons_self);have e:=List.length_eq_countP_add_countP (z q) (l:=m);rw[show(m.filter fun k=>!z q k).length=m.countP (fun a=>decide ¬z q a=true)by rw[List.countP_eq_length_filter];congr 2;funext k;cases z q k<;>rfl];rw[List.length_cons];omega
  ·intro r j k hk;have hk:=List.mem_filter.1 hk;rcases List.mem_cons.1 j with rfl|j
   ·simpa using hk.2
   ·exact I r j k hk.1
theorem J0{a b c x y z:Int}(h1:x<y)(h2:y<z)(e1:1*a+x*b+(x*x)*c=0)(e2:1*a+y*b+(y*y)*c=0)(m:1*a+z*b+(z*z)*c=0):a=0/\b=0/\c=0:=by
 have f1:(y-x)*(b+(x+y)*c)=0:=by grind
 have f2:(z-y)*(b+(y+z)*c)=0:=by grind
 have g1:b+(x+y)*c=0:=by rcases Int.mul_eq_zero.1 f1 with h|h<;>omega
 have g2:b+(y+z)*c=0:=by rcases Int.mul_eq_zero.1 f2 with h|h<;>omega
 have f3:(z-x)*c=0:=by grind
 have hc:c=0:=by rcases Int.mul_eq_zero.1 f3 with h|h<;>omega
 subst hc;have j:b=0:=by omega
 subst j;exact⟨by omega,rfl,rfl⟩
theorem BB{C:List (A3 (A3 Int))}(M:C.length<=200)(E:∀c∈C,dtC c≠0):∃K,(1<=K/\K<=2000)/\lQ K C:=by
 have pw:((List.range 2000).map fun i:Nat=>((i:Int)+1)).Pairwise (·<·):=by
  rw[List.pairwise_map];exact List.pairwise_lt_range.imp fun h=>by omega
 obtain⟨m,h1,h2,I,J⟩:=CV (z:=fun(q:A3 Int×A3 Int) k=>decide (sdK k q.1 q.2=0)) (C.flatMap fun c=>[(c.e0,c.e1),(c.e1,c.e2),(c.e2,c.e0)]) (by
  intro q j x y t p D N O;refine decide_eq_false fun T=>?_
  obtain⟨z0,z1,z2⟩:=J0 p D (dcT N) (dcT O) T;obtain⟨c,hc,j⟩:=List.mem_flatMap.1 j;refine E c hc ?_;simp only[List.mem_cons,List.not_mem_nil,or_false]at j;rcases j with rfl|rfl|rfl
  ·rw[show dtC c=c.e2.e0*(c.e0.e1*c.e1.e2-c.e0.e2*c.e1.e1)+c.e2.e1*(c.e0.e2*c.e1.e0-c.e0.e0*c.e1.e2)+c.e2.e2*(c.e0.e0*c.e1.e1-c.e0.e1*c.e1.e0)by unfold dtC dtV;grind,z0,z1,z2];omega
  ·rw[show dtC c=c.e0.e0*(c.e1.e1*c.e2.e2-c.e1.e2*c.e2.e1)+c.e0.e1*(c.e1.e2*c.e2.e0-c.e1.e0*c.e2.e2)+c.e0.e2*(c.e1.e0*c.e2.e1-c.e1.e1*c.e2.e0)by unfold dtC dtV;grind,z0,z1,z2];omega
  ·rw[show dtC c=c.e1.e0*(c.e2.e1*c.e0.e2-c.e2.e2*c.e0.e1)+c.e1.e1*(c.e2.e2*c.e0.e0-c.e2.e0*c.e0.e2)+c.e1.e2*(c.e2.e0*c.e0.e1-c.e2.e1*c.e0.e0)by unfold dtC dtV;grind,z0,z1,z2];omega) _ pw
 have U:(C.flatMap fun c=>[(c.e0,c.e1),(c.e1,c.e2),(c.e2,c.e0)]).length=3*C.length:=by
  clear h1 h2 I J M E;induction C with
  |nil=>rfl
  |cons c C Y=>rw[List.flatMap_cons,List.length_append,Y,List.length_cons];simp;omega
 rw[U,List.length_map,List.length_range]at h2;have hm:0<m.length:=by omega
 have hk:m[0]∈m:=List.getElem_mem hm;obtain⟨i,hi,ei⟩:=List.mem_map.1 (I _ hk);have hi:=List.mem_range.1 hi;refine⟨m[0],by omega,fun c hc=>?_⟩;have q:∀{u v:A3 Int},(u,v)∈[(c.e0,c.e1),(c.e1,c.e2),(c.e2,c.e0)]->sdK m[0] u v≠0:=fun j=>dcF (J _ (List.mem_flatMap.2 ⟨c,hc,j⟩) _ hk)
 exact⟨q (by simp),q (by simp),q (by simp)⟩
theorem G2{l m:List Int}(h:l.Perm m):sI l=sI m:=by
 induction h with
 |nil=>rfl
 |cons x _ j=>simp only[sI,j]
 |swap x y l=>simp only[sI];omega
 |trans _ _ i1 i2=>exact i1.trans i2
theorem FU{α:Type}{f:α->Int}:∀l:List α,sI (l.map fun x=>-f x)=-sI (l.map f)
 |[]=>rfl
 |x::l=>by simp only[List.map_cons,sI,FU l];omega
theorem E0{D:List (A2 Int)}(h:shut D=true)(q:D.Nodup):(D.map sH).Perm D:=by
 have j:∀e,sH (sH e)=e:=fun e=>rfl
 refine(List.perm_ext_iff_of_nodup ?_ q).2 fun a=>⟨fun m=>?_,fun m=>?_⟩
 ·refine List.pairwise_map.2 (q.imp fun {a b} p e=>p ?_);rw[<-j a,e,j]
 ·obtain⟨b,z,rfl⟩:=List.mem_map.1 m;exact yZ h z
 ·exact List.mem_map.2 ⟨sH a,yZ h m,j a⟩
theorem Eb{D:List (A2 Int)}(h:shut D=true)(j:D.Nodup){g:A2 Int->Int}(m:∀e,g (sH e)=-g e):sI (D.map g)=0:=by
 have h1:=G2 ((E0 h j).map g);rw[List.map_map,show(g∘sH)=fun e=>-g e from funext m,FU]at h1;omega
theorem JD{F:List (A3 Int)}{g:A2 Int->Int}:sI ((F.flatMap eds).map g)=sI (F.map fun t=>g (A2.mk t.e0 t.e1)+(g (A2.mk t.e1 t.e2)+g (A2.mk t.e2 t.e0))):=by
 induction F with
 |nil=>rfl
 |cons t F j=>
  rw[List.flatMap_cons,List.map_append,mh,j,List.map_cons,sI];simp only[eds,List.map_cons,List.map_nil,sI];omega
theorem BE{α:Type}{f:α->Int}{p:α->Bool}(h:∀x,p x=false->f x=0):∀l:List α,sI ((l.filter p).map f)=sI (l.map f)
 |[]=>rfl
 |x::l=>by
  rw[List.filter_cons];cases j:p x with
  |true=>simp only[if_pos,List.map_cons,sI,BE h l]
  |false=>simp only[Bool.false_eq_true,if_false,List.map_cons,sI,BE h l,h x j];omega
theorem CK{α:Type}{f g:α->Int}:∀{l:List α},(∀x∈l,f x=g x)->sI (l.map f)=sI (l.map g)
 |[],_=>rfl
 |x::l,h=>by simp only[List.map_cons,sI];rw[h x List.mem_cons_self,CK fun y j=>h y (List.mem_cons_of_mem _ j)]
end Go.L


set_option linter.all false
namespace Go.L
open Go Go.Eng
def plO(w N ox oy:Nat)(v:Int):A2 Int:=A2.mk (gxI w N v.toNat-ox) (gyI w N v.toNat-oy)
def isO(a:A2 Int):Bool:=decide (a.e0=0)&&decide (a.e1=0)
def Hz(a:A2 Int):Bool:=decide (-1<=a.e0)&&decide (a.e0<=1)&&decide (-1<=a.e1)&&decide (a.e1<=1)
def Bv(f a:A2 Int):Bool:=decide (0<f.e0*a.e0+f.e1*a.e1)
def K3:List (A2 Int):=[A2.mk 1 0,A2.mk (-1) 0,A2.mk 0 1,A2.mk 0 (-1),A2.mk 1 1,A2.mk 1 (-1),A2.mk (-1) 1,A2.mk (-1) (-1)]
def mQ(w N ox oy:Nat)(t:A3 Int):A3 Int:=bif isO (plO w N ox oy t.e0)then t else bif isO (plO w N ox oy t.e1)then A3.mk t.e1 t.e2 t.e0 else bif isO (plO w N ox oy t.e2)then A3.mk t.e2 t.e0 t.e1 else t
def crO(b c:A2 Int):Int:=b.e0*c.e1-b.e1*c.e0
def sgO(a:A2 Int):Int:=bif decide (a.e0=0)then a.e1 else-a.e0
def exO(b c:A2 Int):Int:=bif decide (sgO b<0)&&decide (0<sgO c)&&decide (0<crO b c)then 1 else bif decide (0<sgO b)&&decide (sgO c<0)&&decide (crO b c<0)then-1 else 0
def okO(w N ox oy:Nat)(t:A3 Int):Bool:=
 (fun r:A3 Int=>(fun a b c:A2 Int=>K3.any (fun f=>Bv f a&&Bv f b&&Bv f c)||(isO a&&Hz b&&Hz c&&K3.any fun f=>Bv f b&&Bv f c)) (plO w N ox oy r.e0) (plO w N ox oy r.e1) (plO w N ox oy r.e2)) (mQ w N ox oy t)
def tpO(w N ox oy:Nat)(r:A3 Int):Bool:=isO (plO w N ox oy r.e0)&&decide (r.e0<(N:Int))
def exT(w N ox oy:Nat)(t:A3 Int):Int:=bif tpO w N ox oy (mQ w N ox oy t)then exO (plO w N ox oy (mQ w N ox oy t).e1) (plO w N ox oy (mQ w N ox oy t).e2)else 0
def klO(w N ox oy:Nat)(t:A3 Int):Bool:=tpO w N ox oy (mQ w N ox oy t)&&(fun b c:A2 Int=>decide (b.e0=b.e1)&&!decide (crO b c=0)) (plO w N ox oy (mQ w N ox oy t).e1) (plO w N ox oy (mQ w N ox oy t).e2)
def Hk(w N:Nat)(F:List (A3 Int))(ox oy:Nat):Bool:=F.all (okO w N ox oy)&&decide (sI (F.map (exT w N ox oy))=1)&&F.any (klO w N ox oy)
def Kw(w h:Nat):Bool:=(List.range (w-2)).all fun x=>(List.range (h-2)).all fun y=>Hk w (w*h) (aG w h) (x+1) (y+1)
theorem Gg:Hi.all (fun p=>Kw p.1 p.2)=true:=by kernel_rfl
theorem Da{w h:Nat}(hw:2<=w)(j:2<=h)(hm:w*h<=25){ox oy:Nat}(m:1<=ox/\ox+1<w)(p:1<=oy/\oy+1<h):Hk w (w*h) (aG w h) ox oy=true:=by
 have h1:=List.all_eq_true.1 Gg _ (Ds hw j hm);unfold Kw at h1;have h2:=List.all_eq_true.1 (List.all_eq_true.1 h1 (ox-1) (List.mem_range.2 (by dsimp only;omega))) (oy-1) (List.mem_range.2 (by dsimp only;omega));dsimp only at h2;rw[show ox-1+1=ox by omega,show oy-1+1=oy by omega]at h2;exact h2
structure Gf (w N ox oy:Nat) (r:A3 Int):Prop where
 sep:(∃f:A2 Int,0<f.e0*(plO w N ox oy r.e0).e0+f.e1*(plO w N ox oy r.e0).e1/\0<f.e0*(plO w N ox oy r.e1).e0+f.e1*(plO w N ox oy r.e1).e1/\0<f.e0*(plO w N ox oy r.e2).e0+f.e1*(plO w N ox oy r.e2).e1)\/
  (((plO w N ox oy r.e0).e0=0/\(plO w N ox oy r.e0).e1=0)/\((-1<=(plO w N ox oy r.e1).e0/\(plO w N ox oy r.e1).e0<=1)/\ -1<=(plO w N ox oy r.e1).e1/\(plO w N ox oy r.e1).e1<=1)/\((-1<=(plO w N ox oy r.e2).e0/\(plO w N ox oy r.e2).e0<=1)/\ -1<=(plO w N ox oy r.e2).e1/\(plO w N ox oy r.e2).e1<=1)/\
   ∃f:A2 Int,0<f.e0*(plO w N ox oy r.e1).e0+f.e1*(plO w N ox oy r.e1).e1/\0<f.e0*(plO w N ox oy r.e2).e0+f.e1*(plO w N ox oy r.e2).e1)
theorem Fu{a:A2 Int}(h:Hz a=true):(-1<=a.e0/\a.e0<=1)/\ -1<=a.e1/\a.e1<=1:=by
 unfold Hz at h;simp only[Bool.and_eq_true,decide_eq_true_eq]at h;omega
theorem Il{w N ox oy:Nat}{t:A3 Int}(h:okO w N ox oy t=true):Gf w N ox oy (mQ w N ox oy t):=by
 unfold okO at h;dsimp only at h;constructor;generalize mQ w N ox oy t=r at*;generalize plO w N ox oy r.e0=a at*;generalize plO w N ox oy r.e1=b at*;generalize plO w N ox oy r.e2=c at*;rcases Bool.or_eq_true _ _▸h with h|h
 ·obtain⟨f,_,j⟩:=List.any_eq_true.1 h;simp only[Bool.and_eq_true,Bv,decide_eq_true_eq]at j;exact .inl ⟨f,j.1.1,j.1.2,j.2⟩
 ·simp only[Bool.and_eq_true]at h;obtain⟨⟨⟨h1,h2⟩,m⟩,p⟩:=h;obtain⟨f,_,j⟩:=List.any_eq_true.1 p;simp only[Bool.and_eq_true,Bv,decide_eq_true_eq]at j;unfold isO at h1;simp only[Bool.and_eq_true,decide_eq_true_eq]at h1;exact .inr ⟨h1,Fu h2,Fu m,f,j⟩
def rt3(t:A3 Int):A3 Int:=A3.mk t.e1 t.e2 t.e0
theorem qI(w N ox oy:Nat)(t:A3 Int):mQ w N ox oy t=t\/mQ w N ox oy t=rt3 t\/mQ w N ox oy t=rt3 (rt3 t):=by
 unfold mQ;cases isO (plO w N ox oy t.e0)
 ·cases isO (plO w N ox oy t.e1)
  ·cases isO (plO w N ox oy t.e2)
   ·exact .inl rfl
   ·exact .inr (.inr rfl)
  ·exact .inr (.inl rfl)
 ·exact .inl rfl
end Go.L

