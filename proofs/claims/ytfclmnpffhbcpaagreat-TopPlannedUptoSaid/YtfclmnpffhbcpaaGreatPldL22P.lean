import Derived.Test.YtfclmnpffhbcpaaGreatPldL22f
import Derived.Test.YtfclmnpffhbcpaaGreatPldL55w
import Derived.KernelRfl
set_option linter.all false
namespace Go.L
open Go Go.Eng
def pI(P:List aE)(F H:Int)(p:au)(j:Nat):Rat:=((F*(if j%2=1 then-(p.Y-(P.getD (j / 2) default).Y)else p.X-(P.getD (j / 2) default).X):Int):Rat) / ((-(p.Z-H):Int):Rat)
theorem FM{P:List aE}{F H:Int}{p:au}{j:List (A3 Int×Int)}{m k:Nat}(w:Ag P F H p)(q:wo m (P.map (eZ F H)).length j)(hk:k<P.length):zi m (P.map (eZ F H)) p j (eC k) F:=by
 have C:=w.P _ (yg hk);have D:=w.h;have e:gt (P.map (eZ F H)) (eC k).A=eZ F H (P.getD k default):=DO hk;refine⟨q,rfl,?_,rfl,rfl,by rw[e];rfl,⟨by rw[e];rfl,w.f⟩,by rw[e];rfl,w.pb,?_,by rw[e];exact w.z⟩
 ·rw[List.length_map];show 0<=(k:Int)/\(k:Int)<_;omega
 ·rw[e];exact⟨C,D⟩
theorem Fe{P:List aE}{F H:Int}{p:au}{k:Nat}{row:Nat}(hk:k<P.length)(q:row<2):((F*FP (P.map (eZ F H)) p (eC k) (row:Int):Int):Rat) / (((-(p.Z-(gt (P.map (eZ F H)) (eC k).A).At.Z)):Int):Rat)=pI P F H p (2*k+row):=by
 have e:gt (P.map (eZ F H)) (eC k).A=eZ F H (P.getD k default):=DO hk;unfold pI FP;rw[e];have h1:(2*k+row)%2=row:=by omega
 have j:(2*k+row) / 2=k:=by omega
 rw[h1,j];rcases (by omega:row=0\/row=1)with rfl|rfl<;>rfl
section
variable{n:Nat}{P:List aE}{F H:Int}{p:au}
def wi(m:Nat)(x:List an):Prop:=x.length=m/\∀k,k<m->Qx (x.getD k default) 0 4
theorem FA(C:5000<=n)(w:Ag P F H p){x:List an}(D:wi (3+6*P.length) x):lQ n (jt P F H p) x=some true:=by
 have j:=w.n;have hO:((List.range P.length).map eC).length=P.length:=by simp
 apply Ok.eq;unfold lQ;refine Ok.bd (xh C j) ?_;rintro⟨r1,r2,r3,r4,r5⟩ ⟨rfl,rfl,rfl,rfl,z⟩;refine Ok.bd (R:=fun v=>v=false) ?_ (fun v E=>aC.2 (by rw[E];rfl));unfold bE bH;refine Ok.bd (R:=fun v=>v=-1) (Ok.bd (R:=fun o=>o=Sum.inl ()) (lS (len:=((List.range P.length).map eC).length) (fun _=>True) (by omega) (by omega) trivial ?_ ?_) ?_) ?_
 ·intro again k hk _ I;rw[hO]at hk;refine Ok.cd (fun _=>Ok.gd (by rw[bm,show(jt P F H p).Obs=(List.range P.length).map eC from rfl,hO];exact decide_eq_true hk) ?_) (fun h=>by have:=dcF h;rw[show(jt P F H p).Obs=(List.range P.length).map eC from rfl,hO]at this;omega);rw[show(jt P F H p).Obs=(List.range P.length).map eC from rfl,zK hk];refine Ok.bd (CT C (FM w z hk) _ D.1 D.2) fun q J=>?_
  rw[J];exact Ok.cd (fun h=>by cases h) (fun _=>I trivial)
 ·intro again _;exact Ok.cd (fun h=>by have:=dcT h;rw[show(jt P F H p).Obs=(List.range P.length).map eC from rfl]at this;omega) (fun _=>aC.2 rfl)
 ·rintro o rfl;exact aC.2 rfl
 ·rintro v rfl;exact aC.2 rfl
theorem vA{α:Type}{l:List α}{x d:α}{k j:Nat}{Q:Nat->α->Prop}(q:l.length=k)(h:∀j,j<k->Q j (l.getD j d))(z:Q k x)(C:j<k+1):Q j ((l++[x]).getD j d):=by
 by_cases e:j<k
 ·rw[uS (by omega)];exact h j e
 ·obtain rfl:j=k:=by omega
  rw[<-q,qC,q];exact z
theorem Dw(S:5000<=n)(w:Ag P F H p):Ok (lR n (jt P F H p)) fun o=>o.length=2*P.length/\∀j,j<2*P.length->qj (3+6*P.length) (o.getD j default) (pI P F H p j):=by
 have E:=w.n;have hO:((List.range P.length).map eC).length=P.length:=by simp
 have U:(jt P F H p).Obs=(List.range P.length).map eC:=rfl;unfold lR;refine Ok.bd (xh S E) ?_;rintro⟨r1,r2,r3,r4,r5⟩ ⟨rfl,rfl,rfl,rfl,I⟩;rw[U];refine Ok.bd (R:=fun o=>o.length=2*P.length/\∀j,j<2*P.length->qj (3+6*P.length) (o.getD j default) (pI P F H p j)) (eh (len:=((List.range P.length).map eC).length) (fun k c=>c.length=2*k/\∀j,j<2*k->qj (3+6*P.length) (c.getD j default) (pI P F H p j)) (by omega) (by omega) ⟨rfl,fun j J=>by omega⟩ ?_ ?_) (fun o D=>aC.2 D)
 ·rintro again k c hk ⟨hc,Y⟩ Z;rw[hO]at hk;refine Ok.cd (fun _=>Ok.gd (by rw[bm,hO];exact decide_eq_true hk) ?_) (fun h=>by have:=dcF h;omega);rw[zK hk];refine Ok.bde (b:=2) rfl (Ok.bd (R:=fun o=>o.length=2*k+2/\∀j,j<2*k+2->qj (3+6*P.length) (o.getD j default) (pI P F H p j)) (eh (len:=2) (fun i c=>c.length=2*k+i/\∀j,j<2*k+i->qj (3+6*P.length) (c.getD j default) (pI P F H p j)) (by omega) (by omega) ⟨hc,Y⟩ ?_ ?_) ?_)
  ·rintro z i c2 hi ⟨C,N⟩ O;refine Ok.cd (fun _=>?_) (fun h=>by have:=dcF h;omega);refine Ok.bd (DJ S (FM w I hk) _ (row:=(i:Int)) (by omega)) fun q T=>?_
   rw[Fe hk hi]at T;refine Ok.gd (decide_eq_true (by omega)) (Ok.gd (decide_eq_true (by omega)) (O _ ⟨by rw[List.length_append,C];rfl,fun j J=>?_⟩));exact vA (Q:=fun j t=>qj (3+6*P.length) t (pI P F H p j)) C N T J
  ·rintro z c2 h2;exact Ok.cd (fun h=>by cases h) (fun _=>aC.2 h2)
  ·rintro o D;exact Z o ⟨by rw[D.1];omega,fun j J=>D.2 j (by omega)⟩
 ·rintro again c hc;rw[hO]at hc;exact Ok.cd (fun h=>by have:=dcT h;omega) (fun _=>aC.2 hc)
theorem Df(C:5000<=n)(w:Ag P F H p){x:List an}(D:wi (3+6*P.length) x):Ok (iW n (jt P F H p) x) fun o=>o.length=2*P.length/\∀j,j<2*P.length->Qx (o.getD j default) (pI P F H p j) 4:=by
 have J:=w.n;unfold iW;refine Ok.bd (Dw C w) ?_;rintro T ⟨N,O⟩;refine Ok.bd (R:=fun o=>o.length=2*P.length/\∀j,j<2*P.length->Qx (o.getD j default) (pI P F H p j) 4) (eh (len:=T.length) (fun k c=>c.length=k/\∀j,j<k->Qx (c.getD j default) (pI P F H p j) 4) (by omega) (by omega) ⟨rfl,fun j E=>by omega⟩ ?_ ?_) (fun o S=>aC.2 S)
 ·rintro again k c hk ⟨hc,U⟩ Y;obtain⟨V,Z,hl,hv⟩:=O k (by omega);refine Ok.cd (fun _=>Ok.gd (by rw[bm];exact decide_eq_true hk) ?_) (fun h=>by have:=dcF h;omega);rw[dQ];refine Ok.bd (yU C Z hl.1 (by omega) D.1 D.2) fun q I=>?_
  rw[hv]at I;refine Ok.gd (decide_eq_true (by omega)) (Ok.gd (decide_eq_true (by omega)) (Y _ ⟨by rw[List.length_append,hc];rfl,fun j E=>?_⟩));exact vA (Q:=fun j z=>Qx z (pI P F H p j) 4) hc U I E
 ·rintro again c hc;rw[N]at hc;exact Ok.cd (fun h=>by have:=dcT h;omega) (fun _=>aC.2 hc)
theorem Et(q:5000<=n){x:List an}{m:Nat}(j:wi m x)(hm:m<=1000):bn n x=some false:=by
 have C:=j.1;apply Ok.eq;unfold bn bJ;refine Ok.bd (R:=fun v=>v=-1) (Ok.bd (R:=fun o=>o=Sum.inl ()) (lS (len:=x.length) (fun _=>True) (by omega) (by omega) trivial ?_ ?_) ?_) ?_
 ·intro again k hk _ z;refine Ok.cd (fun _=>Ok.gd (by rw[bm];exact decide_eq_true hk) (Ok.bde (b:=false) ?_ (Ok.cd (fun h=>by cases h) (fun _=>z trivial)))) (fun h=>by have:=dcF h;omega);unfold ma;rw[dQ,qW q (by omega) (j.2 k (by omega))];rfl
 ·intro again _;exact Ok.cd (fun h=>by have:=dcT h;omega) (fun _=>aC.2 rfl)
 ·rintro o rfl;exact aC.2 rfl
 ·rintro v rfl;exact aC.2 rfl
theorem uT(q:5000<=n)(w:Ag P F H p){x:List an}(z:wi (3+6*P.length) x):Ok (gA n (jt P F H p) x) fun o=>o.2=0/\o.1.length=2*P.length/\∀j,j<2*P.length->Qx (o.1.getD j default) (pI P F H p j) 4:=by
 have C:=w.n;unfold gA;refine Ok.bde (b:=0) ?_ (Ok.cd (fun h=>by cases h) (fun _=>Ok.bde (FA q w z) (Ok.cd (fun h=>by cases h) (fun _=>Ok.bd (Df q w z) fun o D=>aC.2 ⟨rfl,D⟩))));apply Ok.eq;unfold nL;refine Ok.bde (Ev q w) (Ok.cd (fun h=>by cases h) (fun _=>Ok.bde (Et q z (by omega)) (Ok.cd (fun h=>by cases h) (fun _=>Ok.bde (xv q C) (Ok.cd (fun h=>?_) (fun _=>aC.2 rfl))))));rw[CL,z.1]at h;simp at h
end
end Go.L


set_option linter.all false
namespace Go.L
open Go Go.Eng
theorem Cl{n:Nat}{s:aF}{f:aK}{p:au}(I:f.Strips.length<n)(J:f.Strips.length<=2000000)(h:(pts f).length<=12)(N:100<n):gg n s f p=some (jt (pts f) s.Focal f.Height p):=by
 apply Ok.eq;unfold gg jt pts;unfold pts at h;generalize D:f.Strips.flatten=P at*;refine Ok.bd (R:=fun o=>o=(P.map (eZ s.Focal f.Height),(List.range P.length).map eC)) ?_ ?_
 ·refine oY (γ:=List ah×List ar) (fun c x=>(c.1,c.2,x)) (len:=f.Strips.length) (fun k c=>c=(((f.Strips.take k).flatten).map (eZ s.Focal f.Height),(List.range (f.Strips.take k).flatten.length).map eC)) I (by omega) (c0:=([],[])) (by simp) ?_ ?_
  ·rintro again k c hk rfl O;have hs:=sR f.Strips hk;rw[D]at hs;refine Ok.cd (fun _=>Ok.gd (by rw[bm];exact decide_eq_true hk) ?_) (fun h=>by have:=dcF h;omega);rw[dQ];generalize S:(f.Strips.take k).flatten=B at*;have q:=jF f.Strips hk;rw[S]at q;generalize f.Strips.getD k default=l at*;refine Ok.bd (R:=fun o=>o=((B++l).map (eZ s.Focal f.Height),(List.range (B++l).length).map eC)) (oY (γ:=List ah×List ar) (fun c x=>(c.1,c.2,x)) (len:=l.length) (fun j c=>c=((B++l.take j).map (eZ s.Focal f.Height),(List.range (B++l.take j).length).map eC)) (by omega) (by omega) (c0:=(B.map (eZ s.Focal f.Height),(List.range B.length).map eC)) (by simp) ?_ ?_) ?_
   ·rintro z j c E rfl C;have T:(B++l.take j).length<=12:=by rw[List.length_append,List.length_take];omega
    have e1:((B++l.take j).map (eZ s.Focal f.Height)).length=(B++l.take j).length:=List.length_map ..;have e2:((List.range (B++l.take j).length).map eC).length=(B++l.take j).length:=by simp
    dsimp only;rw[e1,e2];refine Ok.cd (fun _=>Ok.gd (by rw[bm];exact decide_eq_true E) ?_) (fun h=>by have:=dcF h;omega);refine Ok.gd (decide_eq_true (by omega)) (Ok.gd (decide_eq_true (by omega)) (Ok.gd (decide_eq_true (by omega)) (Ok.gd (decide_eq_true (by omega)) (C (_,_) ?_))));have t1:B++l.take (j+1)=(B++l.take j)++[l.getD j default]:=by rw[jI E,List.append_assoc]
    rw[dQ,t1];generalize B++l.take j=W;rw[List.map_append,List.length_append,List.length_singleton,List.range_succ,List.map_append];rfl
   ·rintro z c rfl;dsimp only;rw[List.take_length];exact Ok.cd (fun h=>by have:=dcT h;omega) (fun _=>aC.2 rfl)
   ·rintro o rfl;refine O (_,_) ?_;rw[q]
  ·rintro again c rfl;dsimp only;rw[List.take_length,D];exact Ok.cd (fun h=>by have:=dcT h;omega) (fun _=>aC.2 rfl)
 ·rintro o rfl;exact aC.2 rfl
theorem AK{n:Nat}(D:5000<=n){m:Nat}(hm:m<=1000):Ok (fZ n (m:Int)) (wi m):=by
 unfold fZ;refine Ok.bd (R:=wi m) (eh (len:=m) (fun k c=>c.length=k/\∀j,j<k->Qx (c.getD j default) 0 4) (by omega) (by omega) ⟨rfl,fun j C=>by omega⟩ ?_ ?_) (fun o E=>aC.2 E)
 ·rintro again k c hk ⟨hc,I⟩ J;refine Ok.cd (fun _=>?_) (fun h=>by have:=dcF h;omega);refine Ok.bd (R.sV D (by omega) (by omega)) fun z q=>?_
  have q:Qx z 0 4:=by
   rw[sG,Rat.intCast_zero]at q;exact QL.mono q (by omega)
  refine Ok.gd (decide_eq_true (by omega)) (Ok.gd (decide_eq_true (by omega)) (J _ ⟨by rw[List.length_append,hc];rfl,fun j C=>?_⟩));exact vA (Q:=fun _ z=>Qx z 0 4) hc I q C
 ·rintro again c hc;exact Ok.cd (fun h=>by have:=dcT h;omega) (fun _=>aC.2 hc)
theorem Eh{n:Nat}(j:5000<=n){y:an}{v q A:Int}(E:0<q)(C:-9223372036854775808<=A/\A<=9223372036854775807)(D:R.Qx y (Rat.divInt (v.natAbs:Int) q) 4){β:Type}{k:Int->Option β}{Q:β->Prop}
  (h:Ok (k (sgn (2*(v.natAbs:Int)-A*q))) Q):Ok (bdO (dK n y y) fun z=>bdO (cZ n A) fun w=>bdO (dr n z w) k) Q:=by
 refine Ok.bd (R.uY j (by omega) D D) fun z I=>Ok.bd (R.sV j C.1 C.2) fun w hw=>Ok.bde (R.AP j (by omega) I hw) ?_
 have e:Rat.divInt (v.natAbs:Int) q+Rat.divInt (v.natAbs:Int) q=Rat.divInt (2*(v.natAbs:Int)) q:=by
  rw[Rat.divInt_eq_div,Rat.divInt_eq_div];push_cast;grind
 rw[e,CJ E (by omega),Int.mul_one];exact h
theorem CF(a b:Int):decide (sgn (a-b)<=0)=decide (a<=b):=by
 have:=dS (a-b);apply decide_eq_decide.2;omega
theorem CA{F D:Int}(j:0<F):((F*D).natAbs:Int)=F*(D.natAbs:Int):=by
 rw[Int.natAbs_mul];push_cast;rw[Int.natAbs_of_nonneg (by omega:0<=F)]
def C7:aF:=aF.mk 100 30 0 0 40 64 64 60 20 1
def Em:aK:=aK.mk 40 [[aE.mk 20 12,aE.mk 36 12,aE.mk 52 12,aE.mk 68 12,aE.mk 80 12],[aE.mk 20 18,aE.mk 36 18,aE.mk 52 18,aE.mk 68 18,aE.mk 80 18]]
theorem GQ:th 2000000 C7 40=some (Em,0):=by kernel_rfl
theorem EJ:jh 2000000 C7 Em=some 0:=by kernel_rfl
theorem Fo:Ag (pts Em) 64 40 (au.mk 20 12 0):=⟨by decide,by omega,by omega,by decide,by dsimp only;omega,by dsimp only;omega⟩
theorem BU:gl 2000000=some true:=by
 apply Ok.eq;unfold gl;refine Ok.bde (b:=C7) rfl (Ok.bde GQ (Ok.cd (fun h=>by cases h) (fun _=>Ok.bde (b:=C7) rfl (Ok.bde EJ (Ok.cd (fun h=>by cases h) (fun _=>Ok.cd (fun h=>by cases h) (fun _=>Ok.bde (b:=C7) rfl ?_)))))));refine Ok.bde (Cl (n:=2000000) (s:=C7) (f:=Em) (by decide) (by decide) (by decide) (by omega)) ?_;refine Ok.bd (AK (n:=2000000) (m:=63) (by omega) (by omega)) fun z C=>?_
 refine Ok.bd (uT (n:=2000000) (by omega) Fo C) ?_;rintro⟨r,c⟩ ⟨rfl,j,D⟩;have j:r.length=20:=j;have q:=D 0 (by decide);have e0:pI (pts Em) 64 40 (au.mk 20 12 0) 0=0:=by
  unfold pI;show((64*(20-20):Int):Rat) / _=0;rw[show(64*(20-20):Int)=0 from rfl,Rat.intCast_zero];grind
 rw[e0]at q;refine Ok.cd (fun _=>Ok.cd (fun _=>Ok.gd (iH.2 (by dsimp only;omega)) ?_) (fun h=>by dsimp only at h;rw[j]at h;cases h)) (fun h=>by cases h);refine Ok.bde (R.qW (by omega) (k:=4) (by omega) q) (Ok.cd (fun _=>Ok.bde (R.xx (by omega) (k:=4) (by omega) q) (aC.2 rfl)) (fun h=>by cases h))
end Go.L


set_option linter.all false
namespace Go.L
open Go Go.Eng
theorem BV{a:Int}(h:(Lit.int .u16 a).wf=true):0<=a/\a<=65535:=by
 simp[Lit.wf,IntKind.min,IntKind.max,IntKind.signed,IntKind.bits]at h;exact h
theorem AO{n:Nat}{f:aK}(C:f.Strips.length<n)(D:fsz f<=1048576):aV (α:=Int×Int) (β:=Int) n (fun j (z,q)=>(
      cdO (decide (q<(f.Strips.length:Int))) (
       gdO (inR q f.Strips.length) (
       j (Hy (z+((gt f.Strips q).length:Int)),Hy (q+1))
       )
      ) (
       some (z)
      )
 )) (0,0)=some ((pts f).length:Int):=by
 obtain⟨E,J⟩:=yA D;unfold pts at E ⊢;apply Ok.eq;refine eh (len:=f.Strips.length) (fun k (c:Int)=>c=(((f.Strips.take k).flatten.length:Nat):Int)) C (by omega) rfl ?_ ?_
 ·rintro again k c hk rfl I;have hs:=sR f.Strips hk;refine Ok.cd (fun _=>Ok.gd (by rw[bm];exact decide_eq_true hk) (I _ ?_)) (fun h=>by have:=dcF h;omega);rw[dQ,wrap64_in (by omega) (by omega),jF f.Strips hk,List.length_append];omega
 ·rintro again c rfl;exact Ok.cd (fun h=>by have:=dcT h;omega) (fun _=>aC.2 (by rw[List.take_length]))
def rT(s:aF)(p:au)(H:Int)(t:aE):Bool:=oD 1 s.Focal (s.Along*(H-p.Z)) p.X t.X&&oD 1 s.Focal (s.Across*(H-p.Z)) p.Y t.Y
theorem Di{F z a b A:Int}(j:0<F):decide (2*((F*(a-b)).natAbs:Int)<=A*z)=oD 1 F (A*z) a b:=by
 unfold oD;rw[CA j,Int.mul_one,Int.mul_one];apply decide_eq_decide.2;have e:2*(F*((a-b).natAbs:Int))=2*((a-b).natAbs:Int)*F:=by grind
 rw[e]
theorem DU{F z a b A:Int}(j:0<F):decide (2*((F*-(a-b)).natAbs:Int)<=A*z)=oD 1 F (A*z) a b:=by
 rw[show F*-(a-b)=F*(b-a)by grind,CA j];unfold oD;rw[Int.mul_one,Int.mul_one];apply decide_eq_decide.2;have e0:((b-a).natAbs:Int)=((a-b).natAbs:Int):=by omega
 rw[e0];have e:2*(F*((a-b).natAbs:Int))=2*((a-b).natAbs:Int)*F:=by grind
 rw[e]
theorem CS(s:aF)(f:aK)(j:A3 Int)(hb:fsz f<=1048576)(u0:0<=j.e0/\j.e0<=65535)(u1:0<=j.e1/\j.e1<=65535)(u2:0<=j.e2/\j.e2<=65535):fJ 2000000 s f j=some true:=by
 obtain⟨c5,c6⟩:=yA hb;have h1:f.Strips.length<2000000/\f.Strips.length<=2000000:=by omega
 apply Ok.eq;unfold fJ;refine Ok.bde BU (Ok.cd (fun h=>by cases h) (fun _=>Ok.bde (AO (by omega) hb) (Ok.cd (fun _=>aC.2 rfl) (fun a1=>?_))));have a1:(pts f).length<=10:=by have:=dcF a1;omega
 by_cases hr:za s f s.High=0
 case neg=>
  have U:jh 2000000 s f=some (za s f s.High):=by
   apply Ok.eq;unfold jh;refine Ok.bde (yF (by omega) h1 (by omega) s.High) ?_;exact Ok.cd (fun _=>aC.2 rfl) (fun h=>absurd (by simpa using h) hr)
  exact Ok.bde U (Ok.cd (fun _=>aC.2 rfl) (fun h=>absurd (by simpa using h) hr))
 obtain⟨hc,hh,hp,hg,S⟩:=Bq hr;obtain⟨ok,c4⟩:=En hc;have a7:=ok.fo;have c7:=ok.lo;have c8:=ok.hi;have hw:=ok.w;have c9:=ok.h;have e4:=ok.al;have e5:=ok.ac;obtain⟨a8,b0⟩:=He ok (by omega) hp hh hg S;have U:Ok (jh 2000000 s f) fun v=>v=if (bst s f s.High).1<s.Views then 12 else 0:=by
  unfold jh;refine Ok.bde (yF (by omega) h1 (by omega) s.High) ?_;rw[hr];refine Ok.cd (fun h=>by cases h) (fun _=>Ok.bd (CV (by omega) ok h1 (by omega) hp hh hg S) fun v hv=>?_);have e1:v.1=(bst s f s.High).1:=hv.1;rw[e1];exact Ok.cd (fun h=>aC.2 (by rw[if_pos (dcT h)])) (fun h=>aC.2 (by rw[if_neg (dcF h)]))
 refine Ok.bd U fun v hv=>Ok.cd (fun _=>aC.2 rfl) (fun b1=>?_)
 have D:s.Views<=(bst s f s.High).1:=by
  by_cases k:(bst s f s.High).1<s.Views
  ·rw[if_pos k]at hv;subst hv;cases b1
  ·omega
 unfold pt at hh hg;have m0:=ln (a:=s.Width) (b:=j.e0) (A:=1048576) (B:=65535) (by omega) (by omega) (by omega) (by omega);have m1:=ln (a:=s.Height) (b:=j.e1) (A:=1048576) (B:=65535) (by omega) (by omega) (by omega) (by omega);have m2:=ln (a:=s.High-s.Low) (b:=j.e2) (A:=2097152) (B:=65535) (by omega) (by omega) (by omega) (by omega);have p0:0<=s.Width*j.e0:=Int.mul_nonneg (by omega) u0.1;have p1:0<=s.Height*j.e1:=Int.mul_nonneg (by omega) u1.1;have p2:0<=(s.High-s.Low)*j.e2:=Int.mul_nonneg (by omega) u2.1;have t0:s.Width*j.e0<=s.Width*65535:=mlT u0.2 (by omega);have t1:s.Height*j.e1<=s.Height*65535:=mlT u1.2 (by omega);have t2:(s.High-s.Low)*j.e2<=(s.High-s.Low)*65535:=mlT u2.2 (by omega);rw[wrap64_in (n:=j.e0) (by omega) (by omega),wrap64_in (n:=j.e1) (by omega) (by omega),wrap64_in (n:=j.e2) (by omega) (by omega),wrap64_in (n:=s.Width*j.e0) (by omega) (by omega),wrap64_in (n:=s.Height*j.e1) (by omega) (by omega),wrap64_in (n:=s.High-s.Low) (by omega) (by omega),wrap64_in (n:=(s.High-s.Low)*j.e2) (by omega) (by omega),Int.tdiv_eq_ediv_of_nonneg p2,Int.tdiv_eq_ediv_of_nonneg p1,Int.tdiv_eq_ediv_of_nonneg p0];generalize (s.High-s.Low)*j.e2=q2 at*;generalize s.Width*j.e0=q0 at*;generalize s.Height*j.e1=q1 at*;have d0:0<=q0 / 65535/\q0 / 65535<=s.Width:=by omega
 have d1:0<=q1 / 65535/\q1 / 65535<=s.Height:=by omega
 have d2:0<=q2 / 65535/\q2 / 65535<=s.High-s.Low:=by omega
 rw[wrap64_in (n:=q2 / 65535) (by omega) (by omega),wrap64_in (n:=q1 / 65535) (by omega) (by omega),wrap64_in (n:=q0 / 65535) (by omega) (by omega),wrap64_in (n:=s.Low+q2 / 65535) (by omega) (by omega)];generalize q0 / 65535=E at*;generalize q1 / 65535=I at*;generalize q2 / 65535=d at*;obtain⟨C,hZ⟩:∃g,g=s.Low+d:=⟨_,rfl⟩;rw[<-hZ];have w:Ag (pts f) s.Focal f.Height (au.mk E I C):=⟨by omega,a7,hh,fun q hq=>hp q hq,by dsimp only;omega,by dsimp only;omega⟩;refine Ok.bde (Cl (by omega) (by omega) (by omega) (by omega)) ?_;generalize hN:(pts f).length=N at*;have e6:Hy (3+Hy (6*(N:Int)))=((3+6*N:Nat):Int):=by
  rw[wrap64_in (n:=6*(N:Int)) (by omega) (by omega),wrap64_in (by omega) (by omega)];omega
 rw[e6];refine Ok.bd (AK (n:=2000000) (by omega) (by omega)) fun z hz=>?_
 refine Ok.bd (uT (n:=2000000) (by omega) w (by rw[hN];exact hz)) ?_;rintro⟨r,c⟩ ⟨rfl,hl,J⟩;rw[hN]at hl J;dsimp only at hl J ⊢;have b2:Hy (2*(N:Int))=((2*N:Nat):Int):=by rw[wrap64_in (by omega) (by omega)];omega
 refine Ok.cd (fun h=>by cases h) (fun _=>Ok.cd (fun h=>by rw[b2,hl]at h;simp at h) (fun _=>?_));have O:0<f.Height-C:=by omega
 have a6:∀k,k<N->Qx (r.getD (2*k) default) (Rat.divInt (s.Focal*(E-((pts f).getD k default).X)) (f.Height-C)) 4/\Qx (r.getD (2*k+1) default) (Rat.divInt (s.Focal*-(I-((pts f).getD k default).Y)) (f.Height-C)) 4:=by
  intro k hk;have a:=J (2*k) (by omega);have b:=J (2*k+1) (by omega);unfold pI at a b;rw[show(2*k)%2=0 by omega,show(2*k) / 2=k by omega,if_neg (by omega),<-Rat.divInt_eq_div,show-((au.mk E I C).Z-f.Height)=f.Height-C by dsimp only;omega]at a;rw[show(2*k+1)%2=1 by omega,show(2*k+1) / 2=k by omega,if_pos rfl,<-Rat.divInt_eq_div,show-((au.mk E I C).Z-f.Height)=f.Height-C by dsimp only;omega]at b;exact⟨a,b⟩
 refine Ok.bd (R:=fun o=>o=(((pts f).countP (rT s (au.mk E I C) f.Height):Nat):Int)) (eh (len:=N) (fun k (c:Int)=>c=((((pts f).take k).countP (rT s (au.mk E I C) f.Height):Nat):Int)) (by omega) (by omega) rfl ?_ ?_) ?_
 ·rintro again k c hk rfl ih;obtain⟨v0,v1⟩:=a6 k hk;have b3:k<(pts f).length:=by omega
  have b4:=List.countP_le_length (p:=rT s (au.mk E I C) f.Height) (l:=(pts f).take k);rw[List.length_take]at b4;have i0:Hy (2*(k:Int))=((2*k:Nat):Int):=by rw[wrap64_in (by omega) (by omega)];omega
  have i1:Hy (((2*k:Nat):Int)+1)=((2*k+1:Nat):Int):=by rw[wrap64_in (by omega) (by omega)];omega
  have fin:∀b:Bool,rT s (au.mk E I C) f.Height ((pts f).getD k default)=b->(((pts f).take (k+1)).countP (rT s (au.mk E I C) f.Height):Nat)=((pts f).take k).countP (rT s (au.mk E I C) f.Height)+(if b then 1 else 0):=by
   intro b b5;rw[jI b3,List.countP_append,List.countP_singleton,b5]
  refine Ok.cd (fun _=>?_) (fun h=>by have:=dcF h;dsimp only at this;omega);dsimp only;rw[i0,i1,dQ,dQ];refine Ok.gd (by rw[bm,hl];exact decide_eq_true (by omega)) (Ok.bd (CP (by omega) (by omega) O v0) fun y0 b6=>Ok.gd (by rw[bm,hl];exact decide_eq_true (by omega)) (Ok.bd (CP (by omega) (by omega) O v1) fun y1 b7=>?_));refine Eh (by omega) O (by omega) b6 ?_;rw[CF,Di (by omega)];have T:∀b:Bool,rT s (au.mk E I C) f.Height ((pts f).getD k default)=false->Ok (again ((((pts f).take k).countP (rT s (au.mk E I C) f.Height):Nat),Hy ((k:Int)+1))) (fun o=>o=(((pts f).countP (rT s (au.mk E I C) f.Height):Nat):Int)):=by
   intro _ hs;refine ih _ ?_;rw[fin false hs];simp
  refine Ok.cd (fun g0=>?_) (fun g0=>T true (by unfold rT;dsimp only;rw[g0];rfl));refine Eh (by omega) O (by omega) b7 ?_;rw[CF,DU (by omega)];refine Ok.cd (fun g1=>?_) (fun g1=>T true (by unfold rT;dsimp only;rw[g1,Bool.and_false]));refine ih _ ?_;rw[fin true (by unfold rT;dsimp only;rw[g0,g1];rfl),wrap64_in (by omega) (by omega)];simp
 ·rintro again c rfl;rw[<-hN,List.take_length];exact Ok.cd (fun h=>by have:=dcT h;dsimp only at this;omega) (fun _=>aC.2 rfl)
 rintro o rfl;refine aC.2 ?_;obtain⟨m,hm,b8⟩:=CN a8 (p:=E) (q:=1) (by omega) d0.1 (by omega);obtain⟨m',b9,c0⟩:=CN b0 (p:=I) (q:=1) (by omega) d1.1 (by omega);have hle:=(Am (cnt:=mW (pts f) (4*s.Focal) (s.Along*(f.Height-s.High)) (s.Across*(f.Height-s.High))) (L':=axM s.Height (4*s.Focal) (s.Across*(f.Height-s.High)) ((pts f).map (·.Y))) (axM s.Width (4*s.Focal) (s.Along*(f.Height-s.High)) ((pts f).map (·.X))) (257,0,0)).2 m hm m' b9;have z1:s.Along*(f.Height-s.High)<=s.Along*(f.Height-C):=mlT (by omega) (by omega);have z2:s.Across*(f.Height-s.High)<=s.Across*(f.Height-C):=mlT (by omega) (by omega);have c3:=Dn (P:=pts f) (m:=m) (m':=m') (fun a ha=>b8 _ z1 a ha) (fun b hb=>c0 _ z2 b hb);unfold bst at D;exact decide_eq_true (Int.le_trans D (Int.le_trans hle c3))
end Go.L

