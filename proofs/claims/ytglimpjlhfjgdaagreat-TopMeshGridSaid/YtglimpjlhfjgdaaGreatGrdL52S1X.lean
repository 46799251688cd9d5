import Derived.Test.YtglimpjlhfjgdaaGreatGrdL51S
import Derived.Test.YtglimpjlhfjgdaaGreatGrdL51b
import Derived.Test.YtglimpjlhfjgdaaGreatGrdL02sB
import Derived.KernelRfl
import Derived.Test.YtglimpjlhfjgdaaGreatGrdL01p
import Derived.Test.YtglimpjlhfjgdaaGreatGrdL51b
set_option linter.unusedVariables false
namespace Go.L
open Go Go.Eng
theorem Db{A B C:Int}(j:-4194304<=A/\A<=4194304)(m:-4194304<=B/\B<=4194304)(p:-4194304<=C/\C<=4194304):Bd1 (cP A B C):=by
 refine⟨A+(B+C),3,?_,by omega,by omega,by omega,by omega⟩;rw[Rat.divInt_eq_div];unfold cP;push_cast;rfl
theorem EU{A B C:Int}(j:0<A/\A<=4194304)(q:-4194304<=B/\B<=0)(z:-4194304<=C/\C<=0):Bd1 (iY A B C)/\Bd1 (iY A B C-cP A B C):=by
 have d1:=Int.mul_le_mul (show A-B<=8388608 by omega) (show A-C<=8388608 by omega) (by omega) (by omega);have d0:=Int.mul_pos (show 0<A-B by omega) (show 0<A-C by omega);have a2:=Int.mul_le_mul j.2 j.2 (by omega) (by omega);have a20:=Int.mul_pos j.1 j.1;have a3:=Int.mul_le_mul j.2 a2 (by omega) (by omega);have p:=Int.mul_pos j.1 a20;have s1:=Int.mul_le_mul (show A+(B+C)+8388608<=12582912 by omega) d1 (by omega) (by omega);have m:=Int.mul_nonneg (show 0<=A+(B+C)+8388608 by omega) (Int.le_of_lt d0);have D:(A:Rat)-B≠0:=by
  have:((A-B:Int):Rat)≠0:=by
   intro h;have:=Rat.intCast_inj.1 (h.trans Rat.intCast_zero.symm);omega
  intro h;exact this (by push_cast;exact h)
 have hc:(A:Rat)-C≠0:=by
  have:((A-C:Int):Rat)≠0:=by
   intro h;have:=Rat.intCast_inj.1 (h.trans Rat.intCast_zero.symm);omega
  intro h;exact this (by push_cast;exact h)
 refine⟨⟨A*(A*A),3*((A-B)*(A-C)),?_,by omega,by omega,by omega,by omega⟩,⟨A*(A*A)-(A+(B+C))*((A-B)*(A-C)),3*((A-B)*(A-C)),?_,by omega,by omega,?_,?_⟩⟩
 ·rw[Rat.divInt_eq_div];unfold iY;push_cast;rfl
 ·rw[Rat.divInt_eq_div];unfold iY cP;push_cast;grind
 ·rw[Int.add_mul]at s1 m;omega
 ·rw[Int.add_mul]at s1 m;omega
theorem GJ{A B C:Int}{X Y:Rat}(j:-4194304<=A/\A<=4194304)(q:-4194304<=B/\B<=4194304)(D:-4194304<=C/\C<=4194304)(h:SpQ A B C X Y):Bd1 X/\Bd1 Y:=by
 have key:∀{A B C:Int} {X Y:Rat},-4194304<=A/\A<=4194304-> -4194304<=B/\B<=4194304-> -4194304<=C/\C<=4194304->SpQ A B C X Y->0<A->B<=0->C<=0->Bd1 X/\Bd1 Y:=by
  intro A B C X Y j q D h h1 h2 I;have e:=h.u1 (by exact_mod_cast h1) (by exact_mod_cast h2) (by exact_mod_cast I);have m:=h.m;obtain⟨N,O⟩:=EU ⟨h1,j.2⟩ ⟨q.1,h2⟩ ⟨D.1,I⟩;rw[<-e]at N O;exact⟨N,by rw[show Y=X-cP A B C by grind];exact O⟩
 have J:∀{A B C:Int} {X Y:Rat},-4194304<=A/\A<=4194304-> -4194304<=B/\B<=4194304-> -4194304<=C/\C<=4194304->SpQ A B C X Y->A<0->0<=B->0<=C->Bd1 X/\Bd1 Y:=by
  intro A B C X Y j q D h h1 h2 I;have S:=h.neg;have e:∀z:Int,-(z:Rat)=((-z:Int):Rat):=fun z=>by push_cast;rfl
  rw[e,e,e]at S;have:=key (A:=-A) (B:=-B) (C:=-C) (by omega) (by omega) (by omega) S (by omega) (by omega) (by omega);exact⟨this.2,this.1⟩
 have m:=h.m;have E:=Db j q D;by_cases a0:0<=A<;>by_cases M:0<=B<;>by_cases c0:0<=C
 ·have e:=h.p (by exact_mod_cast a0) (by exact_mod_cast M) (by exact_mod_cast c0);rw[e,show X=cP A B C by grind];exact⟨E,pr⟩
 ·exact J D j q h.s23.s12 (by omega) a0 M
 ·exact J q j D h.s12 (by omega) a0 c0
 ·by_cases T:0<A
  ·exact key j q D h T (by omega) (by omega)
  ·have e:=h.n (by exact_mod_cast (show A<=0 by omega)) (by exact_mod_cast (show B<=0 by omega)) (by exact_mod_cast (show C<=0 by omega));rw[e,show Y=-cP A B C by grind];exact⟨pr,E.neg⟩
 ·exact J j q D h (by omega) M c0
 ·by_cases U:0<B
  ·exact key q j D h.s12 U (by omega) (by omega)
  ·have e:=h.n (by exact_mod_cast (show A<=0 by omega)) (by exact_mod_cast (show B<=0 by omega)) (by exact_mod_cast (show C<=0 by omega));rw[e,show Y=-cP A B C by grind];exact⟨pr,E.neg⟩
 ·by_cases hc:0<C
  ·exact key D j q h.s23.s12 hc (by omega) (by omega)
  ·have e:=h.n (by exact_mod_cast (show A<=0 by omega)) (by exact_mod_cast (show B<=0 by omega)) (by exact_mod_cast (show C<=0 by omega));rw[e,show Y=-cP A B C by grind];exact⟨pr,E.neg⟩
 ·have e:=h.n (by exact_mod_cast (show A<=0 by omega)) (by exact_mod_cast (show B<=0 by omega)) (by exact_mod_cast (show C<=0 by omega));rw[e,show Y=-cP A B C by grind];exact⟨pr,E.neg⟩
theorem Cj{i:Nat}(h:i<=50):(1000000000000000:Int)^i<=1000000000000000^50:=by
 obtain⟨j,m⟩:∃j,50=i+j:=⟨50-i,by omega⟩;rw[show(1000000000000000:Int)^50=1000000000000000^i*1000000000000000^j by rw[<-Int.pow_add,<-m]];have h1:(1:Int)<=1000000000000000^j:=Int.pow_pos (by omega);have h2:(0:Int)<1000000000000000^i:=Int.pow_pos (by omega);have:=mlT h1 (Int.le_of_lt h2);omega
theorem Ii:(5000000000:Int)*1000000000000000^50<pB 86:=dcT (by kernel_rfl)
theorem Bd.G2{nn m:Bool}{ng z:List Int}{r:Rat}{i j:Nat}(h:Bd r i)(C:i<=50)(q:QL nn ng m z r j):QL nn ng m z r 86:=by
 obtain⟨p,d,h1,h2,D,E,I⟩:=h;have hp:=Cj C;have J:=Ii;have N:(0:Int)<1000000000000000^i:=Int.pow_pos (by omega);have hm:(i:Int)*100000000*1000000000000000^i<=5000000000*1000000000000000^50:=Int.mul_le_mul (by omega) hp (by omega) (by omega);generalize (i:Int)*100000000*1000000000000000^i=M at*;generalize (1000000000000000:Int)^i=P at*;generalize (1000000000000000:Int)^50=R at*;exact QL.tight q h1 h2 (by omega) (by omega) (by omega)
end Go.L


set_option linter.unusedVariables false
namespace Go.L
open Go Go.Eng
theorem DB(a b c:Rat):∃x y,SpQ a b c x y:=by
 rcases Am a b c with⟨h1,h2,j⟩|⟨h1,h2,j⟩|⟨h1,h2,j⟩|⟨h1,h2,j⟩|⟨h1,h2,j⟩|⟨h1,h2,j⟩|⟨h1,h2,j⟩|⟨h1,h2,j⟩
 ·exact⟨_,_,yZ h1 h2 j⟩
 ·exact⟨_,_,BG h1 h2 j⟩
 ·exact⟨_,_,xi h1 h2 j⟩
 ·exact⟨_,_,(xi h1 h2 j).s12⟩
 ·exact⟨_,_,(xi h1 h2 j).s12.s23⟩
 ·exact⟨_,_,zi h1 h2 j⟩
 ·exact⟨_,_,(zi h1 h2 j).s12⟩
 ·exact⟨_,_,(zi h1 h2 j).s12.s23⟩
noncomputable def XQ(a b c:Rat):Rat:=Classical.choose (DB a b c)
noncomputable def YQ(a b c:Rat):Rat:=Classical.choose (Classical.choose_spec (DB a b c))
theorem Fk(a b c:Rat):SpQ a b c (XQ a b c) (YQ a b c):=Classical.choose_spec (Classical.choose_spec (DB a b c))
theorem Fb{a b c x y:Rat}(h:SpQ a b c x y):x=XQ a b c/\y=YQ a b c:=h.uniq (Fk a b c)
theorem Gx{a b c:Rat}(h1:0<=a)(h2:0<=b)(j:0<=c):XQ a b c=(a+(b+c)) / 3:=(Fb (yZ h1 h2 j)).1.symm
end Go.L


set_option linter.all false
namespace Go.L
open Go Go.Eng
def Ge(n:Nat)(l:List (A3 Int))(f:Int->Option Int):(Bool×List Int×Bool×List Int×Bool×List Int×Bool×List Int×Int->Option (Bool×List Int×Bool×List Int×Bool×List Int×Bool×List Int))->Bool×List Int×Bool×List Int×Bool×List Int×Bool×List Int×Int->Option (Bool×List Int×Bool×List Int×Bool×List Int×Bool×List Int):=fun M (j,m,p,q,z,C,D,E,I)=>(
  cdO (decide (I<(l.length:Int))) (
   gdO (inR I l.length) (
   bdO (f (gt l I).e0) fun O=>(
   bdO (aY n O) fun S=>(
   bdO (f (gt l I).e1) fun T=>(
   bdO (aY n T) fun U=>(
   bdO (f (gt l I).e2) fun Y=>(
   bdO (aY n Y) fun Z=>(
   bdO (ia n S U Z) fun N=>(
   bdO (bU n (ae.mk (ag.mk j m) (ag.mk p q)) N.1) fun v124=>(
   bdO (bU n (ae.mk (ag.mk z C) (ag.mk D E)) N.2) fun J=>(
   M (v124.Num.Negative,v124.Num.Groups,v124.Den.Negative,v124.Den.Groups,J.Num.Negative,J.Num.Groups,J.Den.Negative,J.Den.Groups,Jt (I+1))
   )
   )
   )
   )
   )
   )
   )
   )
   )
   )
  ) (
   some ((j,m,p,q,z,C,D,E))
  )
 )
def FN(n:Nat)(step:Int)(l:List (A3 Int))(f:Int->Option Int):Option (ae×ae):=
 bdO (aY n 0) fun v1=>(
 bdO (aY n 0) fun v3=>(
 bdO (aK (α:=Bool×List Int×Bool×List Int×Bool×List Int×Bool×List Int×Int) (β:=Bool×List Int×Bool×List Int×Bool×List Int×Bool×List Int) n (Ge n l f) (v1.Num.Negative,v1.Num.Groups,v1.Den.Negative,v1.Den.Groups,v3.Num.Negative,v3.Num.Groups,v3.Den.Negative,v3.Den.Groups,0)) fun I=>(
  match I with
  |(D,E,j,m,p,q,z,C)=>(
   bdO (aY n (Jt ((Jt (step*step)).tdiv 2))) fun v131=>(
   bdO (cq n v131 (ae.mk (ag.mk D E) (ag.mk j m))) fun J=>(
   bdO (cq n v131 (ae.mk (ag.mk p q) (ag.mk z C))) fun M=>(
   some ((J,M))
   )
   )
   )
  ))
 )
 )
theorem uH{v:Int}(h:-999999999<=v/\v<=999999999):Ok (aY 20000 v) fun z=>Cq z (v:Rat):=by
 refine(gG (by omega) (by omega) (by omega)).mono fun z j=>?_
 have j:Qx z (Rat.divInt v 1) 1:=QL.tight j rfl (by omega) (by show-1000000000<v;omega) (by show v<1000000000;omega) (by show(1:Int)<1000000000;omega);rw[ja]at j;exact⟨eJ (by omega) (by omega) j,Ok.of_eq (R.eJ (by omega) (by omega) j) j⟩
noncomputable def xh(hh:Int->Int)(t:A3 Int):Rat:=XQ (hh t.e0:Int) (hh t.e1:Int) (hh t.e2:Int)
noncomputable def yh(hh:Int->Int)(t:A3 Int):Rat:=YQ (hh t.e0:Int) (hh t.e1:Int) (hh t.e2:Int)
def yf(step:Int):Rat:=Rat.divInt (step*step / 2) 1
theorem DQ{step:Int}{l:List (A3 Int)}{f:Int->Option Int}{hh:Int->Int}(hl:l.length<=50)(hs:0<=step/\step<=65536)
  (hf:∀t∈l,(f t.e0=some (hh t.e0)/\f t.e1=some (hh t.e1)/\f t.e2=some (hh t.e2))/\(-4194304<=hh t.e0/\hh t.e0<=4194304)/\(-4194304<=hh t.e1/\hh t.e1<=4194304)/\(-4194304<=hh t.e2/\hh t.e2<=4194304)):
  Ok (FN 20000 step l f) fun r=>Qx r.1 (yf step*jS (l.map (xh hh))) 89/\Qx r.2 (yf step*jS (l.map (yh hh))) 89:=by
 unfold FN;refine Ok.bd (gG (by omega) (by omega) (by omega)) fun u hu=>Ok.bd (gG (by omega) (by omega) (by omega)) fun v E=>?_
 rw[uq]at hu E;refine Ok.bd (R:=fun o=>Qx (ae.mk (ag.mk o.1 o.2.1) (ag.mk o.2.2.1 o.2.2.2.1)) (jS (l.map (xh hh))) 86/\Qx (ae.mk (ag.mk o.2.2.2.2.1 o.2.2.2.2.2.1) (ag.mk o.2.2.2.2.2.2.1 o.2.2.2.2.2.2.2)) (jS (l.map (yh hh))) 86) ?_ ?_
 ·refine lf (γ:=Bool×List Int×Bool×List Int×Bool×List Int×Bool×List Int) (len:=l.length) (fun c x=>(c.1,c.2.1,c.2.2.1,c.2.2.2.1,c.2.2.2.2.1,c.2.2.2.2.2.1,c.2.2.2.2.2.2.1,c.2.2.2.2.2.2.2,x))
   (fun k o=>(Qx (ae.mk (ag.mk o.1 o.2.1) (ag.mk o.2.2.1 o.2.2.2.1)) (jS ((l.take k).map (xh hh))) 86/\Bd (jS ((l.take k).map (xh hh))) k)/\Qx (ae.mk (ag.mk o.2.2.2.2.1 o.2.2.2.2.2.1) (ag.mk o.2.2.2.2.2.2.1 o.2.2.2.2.2.2.2)) (jS ((l.take k).map (yh hh))) 86/\Bd (jS ((l.take k).map (yh hh))) k) (by omega) (by omega)
   (c0:=(u.Num.Negative,u.Num.Groups,u.Den.Negative,u.Den.Groups,v.Num.Negative,v.Num.Groups,v.Den.Negative,v.Den.Groups)) ⟨⟨QL.mono hu (by omega),yS⟩,QL.mono E (by omega),yS⟩ ?_ ?_
  ·rintro again k ⟨c1,c2,I,J,M,N,O,S⟩ hk ⟨⟨j,T⟩,m,U⟩ ih;dsimp only at j m;unfold Ge;dsimp only;refine Ok.cd (fun _=>?_) (fun h=>by have:=dcF h;omega);refine Ok.gd (by rw[bb];exact decide_eq_true hk) ?_;obtain⟨⟨e0,e1,e2⟩,hA,hB,hC⟩:=hf (gt l (k:Int)) (by rw[fb];simp only[List.getD,geT hk,Option.getD_some];exact List.getElem_mem hk);have ex:=zD (p:=xh hh) hk;have Z:=zD (p:=yh hh) hk;rw[<-fb]at ex Z;refine Ok.bde e0 (Ok.bd (uH (by omega)) fun a ha=>Ok.bde e1 (Ok.bd (uH (by omega)) fun b hb=>Ok.bde e2 (Ok.bd (uH (by omega)) fun c hc=>Ok.bd (Gb ha hb hc) ?_)));rintro w ⟨X,Y,hS,hX,hY⟩;obtain⟨bX,bY⟩:=GJ hA hB hC hS;obtain⟨x1,y1⟩:=Fb hS;refine Ok.bd (jj (by omega) (by omega) j hX) fun p hp=>Ok.bd (jj (by omega) (by omega) m hY) fun q z=>?_
   have eX:jS ((l.take k).map (xh hh))+X=jS ((l.take (k+1)).map (xh hh)):=by rw[ex,x1];rfl
   have eY:jS ((l.take k).map (yh hh))+Y=jS ((l.take (k+1)).map (yh hh)):=by rw[Z,y1];rfl
   have C:=T.add bX;have D:=U.add bY;rw[eX]at hp C;rw[eY]at z D;exact ih (p.Num.Negative,p.Num.Groups,p.Den.Negative,p.Den.Groups,q.Num.Negative,q.Num.Groups,q.Den.Negative,q.Den.Groups) ⟨⟨C.G2 (by omega) hp,C⟩,D.G2 (by omega) z,D⟩
  ·rintro again ⟨c1,c2,I,J,M,N,O,S⟩ ⟨⟨j,T⟩,m,U⟩;rw[List.take_length]at j m;unfold Ge;dsimp only;exact Ok.cd (fun h=>by have:=dcT h;omega) (fun _=>ar.2 ⟨j,m⟩)
 ·rintro⟨c1,c2,I,J,M,N,O,S⟩ ⟨j,m⟩;dsimp only at j m ⊢;have s1:=Int.mul_le_mul hs.2 hs.2 hs.1 (by omega);have s0:=Int.mul_nonneg hs.1 hs.1;rw[wrap64_in (n:=step*step) (by omega) (by omega),Int.tdiv_eq_ediv_of_nonneg s0,wrap64_in (by omega) (by omega)];exact Ok.bd (gG (by omega) (by omega) (by omega)) fun w hw=>Ok.bd (ma (by omega) (by omega) hw j) fun p hp=>Ok.bd (ma (by omega) (by omega) hw m) fun q z=>ar.2 ⟨hp,z⟩
end Go.L


set_option linter.all false
namespace Go.L
open Go Go.Eng
def Hf(g:ak)(w h:Nat)(z:Int):Option (ae×ae):=FN 20000 g.Step (qv g w h) (fun k=>dW 20000 k g.X0 g.Y0 g.Step g.Width g.Height g.Z z)
theorem D2{g:ak}{w h:Nat}{z:Int}(hc:mh g=0)(j:Gd g w h)(m:sy z=false):jk 20000 g z=bdO (Hf g w h z) fun v=>some (v.1,v.2,0):=by
 unfold jk;rw[rQ (by omega),hc,Dp (by omega) j,DT,m];rfl
theorem DY{g:ak}(hc:mh g=0){i:Int}(m:inR i g.Z.length=true):gt g.Z i=-2147483648\/(-1048576<=gt g.Z i/\gt g.Z i<=1048576):=by
 obtain⟨_,_,p⟩:=yw hc;have q:=qa.1 m;obtain⟨k,rfl⟩:∃k:Nat,i=(k:Int):=⟨i.toNat,by omega⟩;have hk:k<g.Z.length:=by omega
 have hm:g.Z.getD k default∈g.Z:=by simp only[List.getD,geT hk,Option.getD_some];exact List.getElem_mem hk
 have:=List.any_eq_false.1 p _ hm;rw[fb];generalize g.Z.getD k default=v at*;unfold u9 sy at this;simp at this;by_cases j:v=-2147483648
 ·exact .inl j
 ·have:=this j;exact .inr (by omega)
theorem Gk{Z:List Int}{t:A3 Int}(h:iP Z t=true):gt Z t.e0≠ -2147483648/\gt Z t.e1≠ -2147483648/\gt Z t.e2≠ -2147483648:=by
 unfold iP at h;simp only[Bool.and_eq_true,bne_iff_ne]at h;exact h
theorem CK{g:ak}{w h:Nat}(j:Gd g w h)(p:g.Z.length<=36):(qv g w h).length<=50:=by
 have h1:=List.length_filter_le (iP g.Z) (cZ g.Width (w-1) (h-1));rw[pT]at h1;have hw:=j.w1;have hh:=j.h1;have hm:=j.m;obtain⟨a,rfl⟩:∃a,w=a+1:=⟨w-1,by omega⟩;obtain⟨b,rfl⟩:∃b,h=b+1:=⟨h-1,by omega⟩;simp only[Nat.add_sub_cancel]at h1;rw[Nat.mul_assoc]at h1;have e:(a+1)*(b+1)=a*b+a+b+1:=by rw[Nat.add_mul,Nat.mul_add];omega
 have q:4*(a*b)<=(a+b)*(a+b):=by
  have:=Int.mul_nonneg (a:=(0:Int)) (b:=0) (by omega) (by omega);rcases Nat.le_total a b with k|k
  ·obtain⟨c,rfl⟩:=Nat.le.dest k;have:(a+(a+c))*(a+(a+c))=4*(a*(a+c))+c*c:=by grind
   omega
  ·obtain⟨c,rfl⟩:=Nat.le.dest k;have:(b+c+b)*(b+c+b)=4*((b+c)*b)+c*c:=by grind
   omega
 have hs:¬11<=a+b->a*b<=25:=fun k=>by
  have:(a+b)*(a+b)<=10*10:=Nat.mul_le_mul (by omega) (by omega);omega
 unfold qv;simp only[Nat.add_sub_cancel];by_cases k:11<=a+b
 ·omega
 ·have:=hs k;omega
theorem pZ{z:Int}:sy z=false↔ -1048576<=z/\z<=1048576:=by
 unfold sy;rw[Bool.or_eq_false_iff,decide_eq_false_iff_not,decide_eq_false_iff_not];omega
theorem E4{g:ak}{w h:Nat}{z:Int}(hc:mh g=0)(j:Gd g w h)(m:g.Z.length<=36)(q:sy z=false):
  Ok (Hf g w h z) fun r=>Qx r.1 (yf g.Step*jS ((qv g w h).map (xh fun k=>gt g.Z k-z))) 89/\Qx r.2 (yf g.Step*jS ((qv g w h).map (yh fun k=>gt g.Z k-z))) 89:=by
 have q:=pZ.1 q;refine DQ (CK j m) (by have:=j.dim.s;omega) fun t p=>?_
 obtain⟨p,hh⟩:=List.mem_filter.1 p;obtain⟨i0,i1,i2⟩:=w7 j p;obtain⟨C,D,n2⟩:=Gk hh;have E:=(DY hc i0).resolve_left C;have I:=(DY hc i1).resolve_left D;have J:=(DY hc i2).resolve_left n2;have e:∀k,inR k g.Z.length=true-> -1048576<=gt g.Z k/\gt g.Z k<=1048576->dW 20000 k g.X0 g.Y0 g.Step g.Width g.Height g.Z z=some (gt g.Z k-z):=by
  intro k hk M;unfold dW;rw[hk,wrap64_in (by omega) (by omega)];rfl
 exact⟨⟨e _ i0 E,e _ i1 I,e _ i2 J⟩,by omega,by omega,by omega⟩
end Go.L


set_option linter.all false
namespace Go.L
open Go Go.Eng
def vh(n:Int)(t:A3 Int):List (A3 Int):=[t,A3.mk (Jt (t.e0+n)) (Jt (t.e2+n)) (Jt (t.e1+n))]
def uf(n a b:Int):List (A3 Int):=[A3.mk a (Jt (a+n)) (Jt (b+n)),A3.mk a (Jt (b+n)) b]
def xL(n:Int)(k:Nat):List (A3 Int):=uf n (k:Int) (Jt ((k:Int)+1))++uf n (Jt ((Jt (n-1))-(k:Int))) (Jt ((Jt (n-2))-(k:Int)))
def A7(n W:Int)(k:Nat):List (A3 Int):=uf n (Jt ((Jt ((Jt ((k:Int)*W))+W))-1)) (Jt ((Jt ((Jt ((Jt ((k:Int)+1))*W))+W))-1))++uf n (Jt ((Jt ((k:Int)+1))*W)) (Jt ((k:Int)*W))
def aC(w h:Nat):List (A3 Int):=(cZ (w:Int) (w-1) (h-1)).flatMap (vh ((w*h:Nat):Int))++(List.range (w-1)).flatMap (xL ((w*h:Nat):Int))++(List.range (h-1)).flatMap (A7 ((w*h:Nat):Int) (w:Int))
def sI:List Int->Int
 |[]=>0
 |x::l=>x+sI l
theorem nE:∀a b:List Int,sI (a++b)=sI a+sI b
 |[],b=>by simp[sI]
 |x::a,b=>by rw[List.cons_append,sI,sI,nE a b];omega
theorem Dl{ε:Type}{f g:ε->Int}:∀l:List ε,sI (l.map fun x=>f x+g x)=sI (l.map f)+sI (l.map g)
 |[]=>rfl
 |x::l=>by simp only[List.map_cons,sI,Dl l];omega
def lin(f:Nat->Int)(L:List (Nat×Int)):Int:=sI (L.map fun p=>p.2*f p.1)
theorem kW(f:Nat->Int)(a b:List (Nat×Int)):lin f (a++b)=lin f a+lin f b:=by unfold lin;rw[List.map_append,nE]
def sM(m:Nat):List (Nat×Int)->Int
 |[]=>0
 |p::L=>(bif Nat.beq p.1 m then p.2 else 0)+sM m L
theorem FQ{a b:Nat}(h:a≠b):Nat.beq a b=false:=by
 cases j:Nat.beq a b with
 |false=>rfl
 |true=>exact absurd (Nat.eq_of_beq_eq_true j) h
theorem BN{f:Nat->Int}{i:Nat}{c:Int}:∀n,sI ((List.range n).map fun m=>(bif Nat.beq i m then c else 0)*f m)=if i<n then c*f i else 0
 |0=>rfl
 |n+1=>by
  rw[List.range_succ,List.map_append,nE,BN n];simp only[List.map_cons,List.map_nil,sI];by_cases h:i=n
  ·subst h;rw[if_neg (by omega),if_pos (by omega),Nat.beq_refl];simp
  ·rw[FQ h];by_cases h2:i<n
   ·rw[if_pos h2,if_pos (by omega)];simp
   ·rw[if_neg h2,if_neg (by omega)];simp
theorem tY{f:Nat->Int}{M:Nat}:∀L:List (Nat×Int),(∀p∈L,p.1<=M)->lin f L=sI ((List.range (M+1)).map fun m=>sM m L*f m)
 |[],_=>by
  have:∀n,sI ((List.range n).map fun m=>sM m []*f m)=0:=by
   intro n;induction n with
   |zero=>rfl
   |succ n j=>rw[List.range_succ,List.map_append,nE,j];simp[sM,sI]
  rw[this];rfl
 |p::L,h=>by
  have j:=tY (f:=f) L fun q z=>h q (by simp[z])
  have h1:=BN (f:=f) (i:=p.1) (c:=p.2) (M+1);rw[if_pos (by have:=h p (by simp);omega)]at h1;have e:(fun m=>sM m (p::L)*f m)=fun m=>(bif Nat.beq p.1 m then p.2 else 0)*f m+sM m L*f m:=by
   funext m;rw[sM,Int.add_mul]
  rw[e,Dl,h1,<-j];simp[lin,sI]
theorem FZ{f:Nat->Int}{M:Nat}{L j:List (Nat×Int)}(h:(List.range (M+1)).all (fun m=>decide (sM m L=sM m j))=true)(z:L.all (fun p=>Nat.ble p.1 M)=true)(q:j.all (fun p=>Nat.ble p.1 M)=true):lin f L=lin f j:=by
 rw[tY (M:=M) L fun p hp=>lbT (List.all_eq_true.1 z p hp),tY (M:=M) j fun p hp=>lbT (List.all_eq_true.1 q p hp)];congr 1;refine List.map_congr_left fun m hm=>?_
 rw[dcT (List.all_eq_true.1 h m hm)]
def cnZ(N v:Nat):Nat:=bif Nat.blt v N then v else N
def Ct(D E I j m p q z C:Int):Int:=D*(m*C-p*z)+E*(p*q-j*C)+I*(j*z-m*q)
def upF(N:Nat)(f:Nat->Int)(t:A3 Int):Int:=36*(f t.e0.toNat-f N+(f t.e1.toNat-f N)+(f t.e2.toNat-f N))
def eds(t:A3 Int):List (A2 Int):=[A2.mk t.e0 t.e1,A2.mk t.e1 t.e2,A2.mk t.e2 t.e0]
def eqE(a b:A2 Int):Bool:=(a.e0==b.e0)&&(a.e1==b.e1)
def y9(a:A2 Int):A2 Int:=A2.mk a.e1 a.e0
def Cr(k:A2 Int)(l:List (A2 Int)):Nat:=l.countP (eqE k)
theorem Bz{a b:A2 Int}:eqE a b=true↔a=b:=by
 obtain⟨a0,j⟩:=a;obtain⟨m,p⟩:=b;simp[eqE]
def qV:List Nat->List Nat×List Nat
 |[]=>([],[])
 |x::l=>(x::(qV l).2,(qV l).1)
def mrg:Nat->List Nat->List Nat->List Nat
 |0,a,b=>a++b
 |_+1,[],b=>b
 |_+1,x::a,[]=>x::a
 |n+1,x::a,y::b=>bif Nat.ble x y then x::mrg n a (y::b)else y::mrg n (x::a) b
def A5:Nat->List Nat->List Nat
 |0,l=>l
 |n+1,l=>match l with|[]=>[]|[x]=>[x]|_=>mrg 1000 (A5 n (qV l).1) (A5 n (qV l).2)
theorem vu:∀l:List Nat,((qV l).1++(qV l).2).Perm l
 |[]=>List.Perm.refl _
 |x::l=>by
  show((x::(qV l).2)++(qV l).1).Perm (x::l);rw[List.cons_append];exact((List.perm_append_comm).trans (vu l)).cons x
theorem xt:∀(n:Nat) (a b:List Nat),(mrg n a b).Perm (a++b)
 |0,_,_=>List.Perm.refl _
 |_+1,[],b=>List.Perm.refl _
 |_+1,x::a,[]=>by rw[mrg,List.append_nil]
 |n+1,x::a,y::b=>by
  rw[mrg];cases Nat.ble x y with
  |true=>exact(xt n a (y::b)).cons x
  |false=>
   refine((xt n (x::a) b).cons y).trans ?_;exact(List.perm_middle).symm
theorem pq:∀(n:Nat) (l:List Nat),(A5 n l).Perm l
 |0,_=>List.Perm.refl _
 |n+1,l=>by
  unfold A5;split
  ·exact List.Perm.refl _
  ·exact List.Perm.refl _
  ·exact(xt _ _ _).trans (((pq n _).append (pq n _)).trans (vu l))
def eqL:List Nat->List Nat->Bool
 |[],[]=>true
 |x::a,y::b=>Nat.beq x y&&eqL a b
 |_,_=>false
theorem Dn:∀{a b:List Nat},eqL a b=true->a=b
 |[],[],_=>rfl
 |x::a,y::b,h=>by
  simp only[eqL,Bool.and_eq_true]at h;rw[Nat.eq_of_beq_eq_true h.1,Dn h.2]
 |[],_::_,h=>by cases h
 |_::_,[],h=>by cases h
def cdE(k:A2 Int):Nat:=k.e0.toNat*64+k.e1.toNat
def dcE(c:Nat):A2 Int:=A2.mk ((c / 64:Nat):Int) ((c%64:Nat):Int)
def inE(k:A2 Int):Bool:=decide (0<=k.e0)&&decide (k.e0<64)&&decide (0<=k.e1)&&decide (k.e1<64)
theorem FE{k:A2 Int}(h:inE k=true):dcE (cdE k)=k:=by
 obtain⟨a,b⟩:=k;unfold inE at h;simp only[Bool.and_eq_true,decide_eq_true_eq]at h;unfold dcE cdE;congr 1
 ·show(((a.toNat*64+b.toNat) / 64:Nat):Int)=a;omega
 ·show(((a.toNat*64+b.toNat)%64:Nat):Int)=b;omega
def shut(D:List (A2 Int)):Bool:=D.all inE&&eqL (A5 12 (D.map cdE)) (A5 12 (D.map fun k=>cdE (y9 k)))
theorem AD{D:List (A2 Int)}(h:shut D=true)(k:A2 Int):Cr (y9 k) D=Cr k D:=by
 unfold shut at h;rw[Bool.and_eq_true]at h;have j:∀k∈D,inE k=true:=fun k hk=>List.all_eq_true.1 h.1 k hk
 have hp:(D.map cdE).Perm (D.map fun k=>cdE (y9 k)):=(pq 12 _).symm.trans ((Dn h.2)▸pq 12 _);have hp:=hp.map dcE;rw[List.map_map,List.map_map]at hp;have e1:D.map (dcE∘cdE)=D:=by
  have:D.map (dcE∘cdE)=D.map id:=List.map_congr_left fun k hk=>FE (j k hk)
  rw[this,List.map_id]
 have e2:D.map (dcE∘fun k=>cdE (y9 k))=D.map y9:=List.map_congr_left fun k hk=>FE (by
  have:=j k hk;unfold inE at this ⊢;simp only[Bool.and_eq_true,decide_eq_true_eq]at this ⊢;exact⟨⟨⟨this.1.2,this.2⟩,this.1.1.1⟩,this.1.1.2⟩)
 rw[e1,e2]at hp;unfold Cr;rw[hp.countP_eq,List.countP_map];congr 1;funext x;show eqE (y9 k) (y9 x)=eqE k x;unfold eqE y9;rw[Bool.and_comm]
def okT(N:Nat)(t:A3 Int):Bool:=decide (0<=t.e0)&&decide (t.e0<2*(N:Int))&&!(t.e0==t.e1)&&decide (0<=t.e1)&&decide (t.e1<2*(N:Int))&&!(t.e1==t.e2)&&decide (0<=t.e2)&&decide (t.e2<2*(N:Int))&&!(t.e2==t.e0)
end Go.L

