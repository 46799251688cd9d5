import Derived.Test.YtlhnaccgnegjdaaGreatNesL51v
import Derived.Test.YtlhnaccgnegjdaaGreatNesL51v
import Derived.Test.YtlhnaccgnegjdaaGreatNesL51v
import Derived.Test.YtlhnaccgnegjdaaGreatNesL02sB
import Derived.Test.YtlhnaccgnegjdaaGreatNesL51v
set_option linter.all false
namespace Go.L
open Go Go.Eng
def ti(t:A3 Int)(a:Int):Bool:=[t.e0,t.e1,t.e2].any fun z=>a==z
def mO(T:List (A3 Int))(a b:Int):Bool:=decide (a<b)&&T.any fun t=>ti t a&&ti t b
theorem qd{t:A3 Int}{a:Int}:ti t a=true↔a=t.e0\/a=t.e1\/a=t.e2:=by unfold ti;simp
theorem Ao{g:ak}{w h:Nat}(j:Gd g w h){a b:Int}(e:mO (gY g w h) a b=true):0<=a/\a<b/\b<g.Z.length:=by
 unfold mO at e;rw[Bool.and_eq_true,List.any_eq_true]at e;obtain⟨h1,t,m,h2⟩:=e;have h1:=dcT h1;rw[Bool.and_eq_true,qd,qd]at h2;obtain⟨i0,i1,i2⟩:=B6 j (List.mem_filter.1 m).1;have i0:=iW.1 i0;have i1:=iW.1 i1;have i2:=iW.1 i2;omega
theorem HA{n:Nat}(j:10<n)(t:A3 Int)(p:Bool)(a b:Int):fx n t p a b=some (p||(ti t a&&ti t b)):=by
 unfold fx;have e:∀v,bX n [t.e0,t.e1,t.e2] v=some (ti t v):=fun v=>IW (by simp;omega) (by simp)
 rw[e,e];cases p<;>cases ti t a<;>rfl
theorem Fm{n:Nat}(z:200<n){g:ak}{w h:Nat}(m:Gd g w h)(a b:Int):jW n g a b=some (mO (gY g w h) a b):=by
 apply Ok.eq;have no:¬(0<=a/\a<b/\b<g.Z.length)->false=mO (gY g w h) a b:=fun C=>by
  cases e:mO (gY g w h) a b with
  |false=>rfl
  |true=>exact absurd (Ao m e) C
 unfold jW;refine Ok.cd (fun h1=>aw.2 (no fun q=>by have:=dcT h1;omega)) (fun h1=>Ok.cd (fun h2=>aw.2 (no fun q=>by have:=dcT h2;omega)) (fun h2=>Ok.cd (fun p=>aw.2 (no fun q=>by have:=dcT p;omega)) (fun p=>?_)));have h2:=dcF h2;refine Ok.bd (R:=fun o=>o=mO (gY g w h) a b) ?_ (fun o j=>aw.2 j);unfold cy;refine Ok.bd (R:=fun o=>o=mO (gY g w h) a b) ?_ (fun o j=>aw.2 j);have e:mO (gY g w h) a b=(gY g w h).any fun t=>ti t a&&ti t b:=by unfold mO;rw[decide_eq_true (by omega),Bool.true_and]
 rw[e];refine xW (γ:=Bool) z m (fun c x=>(c,x)) (fun t c=>fx n t c a b) (fun _ _ _=>rfl) (fun _ _ _ _=>rfl) (fun _ _ _ _=>rfl) (fun pre c=>c=pre.any fun t=>ti t a&&ti t b) rfl ?_;rintro pre t c D E rfl;rw[HA (by omega)];refine aw.2 ?_;rw[List.any_append];simp
def vT(t:A3 Int)(a b:Int)(k:Nat):Bool:=(mn (A3.get t (k:Int)) (A3.get t ((Jy ((k:Int)+1)).tmod 3))==a)&&((mx (A3.get t (k:Int)) (A3.get t ((Jy ((k:Int)+1)).tmod 3))==b)&&true)
theorem Gu{t:A3 Int}{a b:Int}(h:a<b):(List.range 3).any (vT t a b)=(ti t a&&ti t b):=by
 obtain⟨x,y,z⟩:=t;have e:(List.range 3).any (vT (A3.mk x y z) a b)=(((mn x y==a)&&(mx x y==b))||((mn y z==a)&&(mx y z==b))||((mn z x==a)&&(mx z x==b))):=by
  have e0:vT (A3.mk x y z) a b 0=((mn x y==a)&&(mx x y==b)):=by rw[<-Bool.and_true (mx x y==b)];rfl
  have e1:vT (A3.mk x y z) a b 1=((mn y z==a)&&(mx y z==b)):=by rw[<-Bool.and_true (mx y z==b)];rfl
  have e2:vT (A3.mk x y z) a b 2=((mn z x==a)&&(mx z x==b)):=by rw[<-Bool.and_true (mx z x==b)];rfl
  show([0,1,2]:List Nat).any _=_;simp only[List.any_cons,List.any_nil,e0,e1,e2,Bool.or_false,Bool.or_assoc]
 rw[e];apply Bool.eq_iff_iff.2;rw[Bool.and_eq_true,qd,qd];simp only[Bool.or_eq_true,Bool.and_eq_true,beq_iff_eq];unfold mn mx;constructor
 ·intro j;split at j<;>split at j<;>split at j<;>omega
 ·intro j;split<;>split<;>split<;>omega
theorem Iv(a:Nat):((a:Int)).tmod 3=((a%3:Nat):Int):=by rw[Int.tmod_eq_emod_of_nonneg (by omega)];rfl
theorem FL {t:A3 Int} {a b:Int} {f:Bool} {n:Nat} (D:10<n):(aJ (α:=Bool×Int) (β:=Bool) n (fun p (j,m)=>(
        cdO (decide (m<3)) (
         cdO (decide (a<b)) (
          gdO (inR m 3) (
          gdO (inR ((Jy (m+1)).tmod 3) 3) (
          bdO (dd n (A3.get t m) (A3.get t ((Jy (m+1)).tmod 3))) fun q=>(
          cdO (((q.e0:Int)==a)&&(((q.e1:Int)==b)&&true)) (
           p (true,Jy (m+1))
          ) (
           p (j,Jy (m+1))
          )
          )
          )
          )
         ) (
          p (j,Jy (m+1))
         )
        ) (
         some (j)
        )
 )) (f,0))=some (f||(decide (a<b)&&(ti t a&&ti t b))):=by
 apply Ok.eq;refine sT (len:=3) (fun k c=>c=(f||(decide (a<b)&&(List.range k).any (vT t a b)))) (by omega) (by omega) (by simp) ?_ ?_
 ·rintro again k c E rfl z;dsimp only;refine Ok.cd (fun _=>?_) (fun h=>by have:=dcF h;omega);have C:(List.range (k+1)).any (vT t a b)=((List.range k).any (vT t a b)||vT t a b k):=by rw[List.range_succ,List.any_append];simp
  refine Ok.cd (fun h=>?_) (fun h=>z _ (by rw[h];simp));refine Ok.gd (by rw[iW];omega) (Ok.gd (by rw[wrap64_in (by omega) (by omega),iW];have:((k:Int)+1).tmod 3=(((k+1)%3:Nat):Int):=Iv (k+1);rw[this];omega) ?_);refine Ok.bde (b:=A2.mk (mn (A3.get t (k:Int)) (A3.get t ((Jy ((k:Int)+1)).tmod 3))) (mx (A3.get t (k:Int)) (A3.get t ((Jy ((k:Int)+1)).tmod 3)))) rfl ?_;refine Ok.cd (fun h2=>z _ ?_) (fun h2=>z _ ?_)
  ·dsimp only at h2;have h2:vT t a b k=true:=by unfold vT;exact h2
   rw[C,h,h2];simp
  ·dsimp only at h2;have h2:vT t a b k=false:=by unfold vT;exact h2
   rw[C,h,h2];simp
 ·rintro again c rfl;refine Ok.cd (fun h=>by simp at h) (fun _=>aw.2 ?_);by_cases h:a<b
  ·rw[Gu h]
  ·rw[decide_eq_false h];rfl
theorem GP{a b:Int}{T:List (A3 Int)}{n:Nat}(M:10000<n)(N:T.length<=8000):(aJ (α:=Bool×Int) (β:=Bool) n (fun C (q,D)=>(
  cdO (decide (D<(T.length:Int))) (
   gdO (inR D T.length) (
   bdO (aJ (α:=Bool×Int) (β:=Bool) n (fun p (j,m)=>(
    cdO (decide (m<3)) (
     cdO (decide (a<b)) (
      gdO (inR m 3) (
      gdO (inR ((Jy (m+1)).tmod 3) 3) (
      bdO (dd n (A3.get (gt T D) m) (A3.get (gt T D) ((Jy (m+1)).tmod 3))) fun E=>(
      cdO (((E.e0:Int)==a)&&(((E.e1:Int)==b)&&true)) (
       p (true,Jy (m+1))
      ) (
       p (j,Jy (m+1))
      )
      )
      )
      )
     ) (
      p (j,Jy (m+1))
     )
    ) (
     some (j)
    )
   )) (q,0)) fun z=>(
    C (z,Jy (D+1))
   )
   )
  ) (
   some (q)
  )
 )) (false,0))=some (mO T a b):=by
 apply Ok.eq;refine sT (len:=T.length) (fun k c=>c=mO (T.take k) a b) (by omega) (by omega) (by unfold mO;simp) ?_ ?_
 ·rintro again k c I rfl J;refine Ok.cd (fun _=>?_) (fun h=>by have:=dcF h;omega);refine Ok.gd (by rw[aR];exact decide_eq_true I) (Ok.bde (FL (by omega)) (J _ ?_));unfold mO;rw[List.take_add_one,geT I,List.any_append,jV];simp only[List.getD,geT I,Option.getD_some,Option.toList_some,List.any_cons,List.any_nil,Bool.or_false];cases decide (a<b)<;>simp
 ·rintro again c rfl;exact Ok.cd (fun h=>by simp at h) (fun _=>aw.2 (by rw[List.take_length]))
def whK(n:Nat)(g:ak)(c:an)(found:Bool):Option (al×Int):=
  cdO (!found) (
   some ((al.mk (aj.mk (ah.mk false []) (ah.mk false [])) (aj.mk (ah.mk false []) (ah.mk false [])),6))
  ) (
   bdO (bM n c.At) fun p=>(
   cdO (!p) (
    some ((al.mk (aj.mk (ah.mk false []) (ah.mk false [])) (aj.mk (ah.mk false []) (ah.mk false [])),1))
   ) (
    bdO (dJ n c.At) fun q=>(
    cdO (decide (q<0)) (
     some ((al.mk (aj.mk (ah.mk false []) (ah.mk false [])) (aj.mk (ah.mk false []) (ah.mk false [])),2))
    ) (
     bdO (bO n 1) fun z=>(
     bdO (aW n c.At z) fun C=>(
     cdO (decide (C>0)) (
      some ((al.mk (aj.mk (ah.mk false []) (ah.mk false [])) (aj.mk (ah.mk false []) (ah.mk false [])),2))
     ) (
      bdO (bL n g c.A) fun j=>(
      bdO (bL n g c.B) fun m=>(
      bdO (bh n m.X j.X) fun D=>(
      bdO (bu n c.At D) fun E=>(
      bdO (bH n j.X E) fun I=>(
      bdO (bh n m.Y j.Y) fun J=>(
      bdO (bu n c.At J) fun M=>(
      bdO (bH n j.Y M) fun N=>(
      some ((al.mk I N,0))
      )
      )
      )
      )
      )
      )
      )
      )
     )
     )
     )
    )
    )
   )
   )
  )
theorem Ef{g:ak}{w h:Nat}(j:Gd g w h):(gY g w h).length<=8000:=by
 have:=List.length_filter_le (oX g.Z) (nQ g.Width (w-1) (h-1));rw[uO]at this;have h2:2*(w-1)*(h-1)<=2*63*63:=Nat.mul_le_mul (by have:=j.w1;omega) (by have:=j.h1;omega);unfold gY;omega
theorem Gr{n:Nat}(m:10000<n){g:ak}{w h:Nat}(j:Gd g w h)(c:an):bs n g c=whK n g c (mO (gY g w h) c.A c.B):=by
 have h1:=Dl (n:=n) (by omega) j;have h2:=GP (a:=c.A) (b:=c.B) (T:=gY g w h) m (Ef j);unfold bs;rw[h1];show bdO (aJ n _ (false,0)) _=_;rw[h2];rfl
end Go.L


set_option linter.all false
namespace Go.L
open Go Go.Eng
theorem Gq{n:Nat}{x y:aj}{a b:Rat}{j k:Nat}(z:20000<=n)(J:j<=30)(M:k<=30)(hx:Qx x a j)(D:Qx y b k):Ok (fr n x y) fun s=>s>0↔b<a:=by
 unfold fr;refine Ok.bd (fq z (by omega) hx) fun v m=>Ok.bd (fq z (by omega) D) fun w hw=>?_
 have E:=m.nl;have I:=hw.nl;have d1:=m.dl;have d2:=hw.dl;refine Ok.bd (mA (by omega) m.num hw.den (by omega) (by omega)) fun p hp=>Ok.bd (mA (by omega) hw.num m.den (by omega) (by omega)) fun q C=>?_
 have N:=fg m.num hw.den hp E d2;have O:=fg hw.num m.den C I d1;refine Ok.bde (qO (by omega) hp C (by omega) (by omega)) (aw.2 ?_);have:=cR (a.num*(b.den:Int)-b.num*(a.den:Int));rw[Rat.lt_iff];omega
def pxG(g:ak)(k:Int):Int:=g.X0+k.tmod g.Width*g.Step
def pyG(g:ak)(k:Int):Int:=g.Y0+k.tdiv g.Width*g.Step
theorem Iy{a b:Nat}:((a:Int)).tdiv (b:Int)=((a / b:Nat):Int):=rfl
theorem GY{a b:Nat}:((a:Int)).tmod (b:Int)=((a%b:Nat):Int):=by rw[Int.tmod_eq_emod_of_nonneg (by omega)];rfl
theorem Bb{z:Int}:xR z=false↔ -1048576<=z/\z<=1048576:=by
 unfold xR;simp
theorem E8{g:ak}{w h:Nat}(j:Gd g w h){k:Int}(D:0<=k)(h1:k<g.Z.length):
  (Jy (g.X0+(Jy ((k.tmod g.Width)*g.Step)))=pxG g k/\ -8000000<=pxG g k/\pxG g k<=8000000)/\(Jy (g.Y0+(Jy ((Jy (k.tdiv g.Width))*g.Step)))=pyG g k/\ -8000000<=pyG g k/\pyG g k<=8000000):=by
 obtain⟨m,rfl⟩:∃m:Nat,k=(m:Int):=⟨k.toNat,by omega⟩;have hw:=j.w1;have E:=j.h1;have hs:=j.dim.s;have I:=(Bb.1 j.dim.x);have J:=(Bb.1 j.dim.y);have hm:m<w*h:=by rw[<-j.m];omega
 unfold pxG pyG;rw[j.W,GY,Iy];have z:m%w<w:=Nat.mod_lt _ (by omega);have C:m / w<h:=Nat.div_lt_of_lt_mul hm;generalize m%w=p at z ⊢;generalize m / w=q at C ⊢;have M:=zx (a:=(p:Int)) (b:=g.Step) (A:=63) (B:=65536) (by omega) (by omega) (by omega) (by omega);have b2:=zx (a:=(q:Int)) (b:=g.Step) (A:=63) (B:=65536) (by omega) (by omega) (by omega) (by omega);rw[wrap64_in (n:=(p:Int)*g.Step) (by omega) (by omega),wrap64_in (n:=(q:Int)) (by omega) (by omega),wrap64_in (n:=(q:Int)*g.Step) (by omega) (by omega),wrap64_in (n:=g.X0+_) (by omega) (by omega),wrap64_in (n:=g.Y0+_) (by omega) (by omega)];omega
def nO(r:Rat)(a b:Int):Rat:=Rat.divInt a 1+r*Rat.divInt (b-a) 1
theorem CY{c:an}{r:Rat}(q:Qx c.At r 16){a b:Int}(ha:-8000000<=a/\a<=8000000)(hb:-8000000<=b/\b<=8000000)(p p':Int):
  Ok (dQ 20000 a b p p' c.At.Num.Negative c.At.Num.Groups c.At.Den.Negative c.At.Den.Groups) fun z=>Qx z (nO r a b) 27:=by
 unfold dQ;refine Ok.bd (mW (by omega) (by omega) (by omega)) fun u hu=>?_
 rw[wrap64_in (by omega) (by omega)];refine Ok.bd (mW (by omega) (by omega) (by omega)) fun v C=>?_
 have j:Qx (aj.mk (ah.mk c.At.Num.Negative c.At.Num.Groups) (ah.mk c.At.Den.Negative c.At.Den.Groups)) r 16:=q;refine Ok.bd (oa (by omega) (by omega) j C) fun m hm=>?_
 refine Ok.bd (sQ (by omega) (by omega) hu hm) fun z D=>aw.2 (D.mono (by omega))
theorem Dw{c:an}{r:Rat}(D:Qx c.At r 16){a b:Int}{u v:aj}(hu:R.Qx u (Rat.divInt a 1) 3)(E:R.Qx v (Rat.divInt b 1) 3){α:Type}{Q:α->Prop}{K:aj->Option α}(k:∀z,R.Qx z (nO r a b) 27->Ok (K z) Q):
  Ok (bdO (bh 20000 v u) fun p=>bdO (bu 20000 c.At p) fun q=>bdO (bH 20000 u q) K) Q:=by
 refine Ok.bd (R.lk (by omega) (by omega) E hu) fun d hd=>?_
 have C:R.Qx c.At r 16:=D;refine Ok.bd (R.oa (by omega) (by omega) C hd) fun m hm=>?_
 refine Ok.bd (R.sQ (by omega) (by omega) hu hm) fun z j=>k z ?_
 have j:R.Qx z (Rat.divInt a 1+r*(Rat.divInt b 1-Rat.divInt a 1)) _:=j;rw[sub_one]at j;exact QL.mono j (by omega)
theorem Dp{g:ak}{w h:Nat}(j:Gd g w h){k:Int}(m:0<=k)(h1:k<g.Z.length):Ok (bL 20000 g k) fun p=>R.Qx p.X (Rat.divInt (pxG g k) 1) 3/\R.Qx p.Y (Rat.divInt (pyG g k) 1) 3:=by
 obtain⟨⟨e1,z⟩,e2,b2⟩:=E8 j m h1;unfold bL;rw[e1,e2];refine Ok.gd (by have:=j.dim.w;simp;omega) (Ok.bd (R.mW (by omega) (by omega) (by omega)) fun u hu=>Ok.bd (R.mW (by omega) (by omega) (by omega)) fun v q=>aw.2 ⟨hu,q⟩)
def whR(n:Nat)(j m:al)(c:an):Option (al×Int):=
 bdO (bh n m.X j.X) fun p=>bdO (bu n c.At p) fun q=>bdO (bH n j.X q) fun z=>
 bdO (bh n m.Y j.Y) fun C=>bdO (bu n c.At C) fun D=>bdO (bH n j.Y D) fun E=>some (al.mk z E,0)
end Go.L


set_option linter.all false
namespace Go.L
open Go Go.Eng
def jP(f:an->Option (al×Int)):List an->List al->Option (List al×Int)
 |[],out=>some (out,0)
 |x::l,out=>bdO (f x) fun v=>bif v.2!=0 then some ([],v.2)else jP f l (out++[v.1])
theorem A9{n:Nat}{f:an->Option (al×Int)}{L:List an}{F:(List al×Int->Option (Sum (List al) (List al×Int)))->List al×Int->Option (Sum (List al) (List al×Int))}
  (q:L.length<n) (D:L.length<=100000) (z:∀x∈L,∃v,f x=some v)
  (p:∀again out k,F again (out,k)=cdO (decide (k<(L.length:Int))) (gdO (inR k L.length) (bdO (f (gt L k)) fun v=>cdO ((v.2:Int)!=0) (some (Sum.inr (([],v.2)))) (gdO (decide ((out.length+1)*128<=140737488355328)) (gdO (decide (out.length+1<=4611686018427387904)) (again (out++[v.1],Jy (k+1))))))) (some (Sum.inl out))):
  Ok (aJ n F ([],0)) fun o=>jP f L []=some (match o with|.inl l=>(l,0)|.inr r=>r):=by
 refine sT (len:=L.length) (fun k out=>jP f L []=jP f (L.drop k) out/\out.length=k) q (by omega) ⟨rfl,rfl⟩ ?_ ?_
 ·rintro again k out j ⟨e,hlen⟩ C;rw[p];refine Ok.cd (fun _=>?_) (fun h=>by have:=dcF h;omega);refine Ok.gd (by rw[aR];exact decide_eq_true j) ?_;have hm:L.getD k default∈L:=by simp only[List.getD,geT j,Option.getD_some];exact List.getElem_mem j
  have hd:L.drop k=L.getD k default::L.drop (k+1):=by
   rw[List.drop_eq_getElem_cons j];simp only[List.getD,geT j,Option.getD_some]
  obtain⟨v,m⟩:=z _ hm;rw[jV];refine Ok.bde m (Ok.cd (fun h=>aw.2 ?_) (fun h=>?_))
  ·rw[e,hd,jP,m];show(bif v.2!=0 then _ else _)=_;rw[h];rfl
  ·refine Ok.gd (decide_eq_true (by omega)) (Ok.gd (decide_eq_true (by omega)) (C _ ⟨?_,by simp[hlen]⟩));rw[e,hd,jP,m];show(bif v.2!=0 then _ else _)=_;rw[h];rfl
 ·rintro again out ⟨e,_⟩;rw[p];refine Ok.cd (fun h=>by simp at h) (fun _=>aw.2 ?_);rw[e,List.drop_length];rfl
theorem E3{g:ak}{c:ae}(D:c.Points.length<=80)(q:∀x∈c.Points,∃v,dO 20000 g x=some v):iZ 20000 g c=jP (dO 20000 g) c.Points []:=by
 obtain⟨o,z,C⟩:=A9 (f:=dO 20000 g) (n:=20000) (F:=fun m (j,p)=>cdO (decide (p<(c.Points.length:Int))) (gdO (inR p c.Points.length) (bdO (dO 20000 g (gt c.Points p)) fun v=>cdO ((v.2:Int)!=0) (some (Sum.inr (([],v.2)))) (gdO (decide ((j.length+1)*128<=140737488355328)) (gdO (decide (j.length+1<=4611686018427387904)) (m (j++[v.1],Jy (p+1))))))) (some (Sum.inl j))) (by omega) (by omega) q (fun _ _ _=>rfl);rw[C];unfold iZ;show bdO (aJ 20000 _ ([],0)) _=_;rw[z];cases o<;>rfl
theorem EP{g:ak}{c:ae}(D:c.Points.length<=80)(q:∀x∈c.Points,∃v,bs 20000 g x=some v):eM 20000 g c=jP (bs 20000 g) c.Points []:=by
 obtain⟨o,z,C⟩:=A9 (f:=bs 20000 g) (n:=20000) (F:=fun m (j,p)=>cdO (decide (p<(c.Points.length:Int))) (gdO (inR p c.Points.length) (bdO (bs 20000 g (gt c.Points p)) fun v=>cdO ((v.2:Int)!=0) (some (Sum.inr (([],v.2)))) (gdO (decide ((j.length+1)*128<=140737488355328)) (gdO (decide (j.length+1<=4611686018427387904)) (m (j++[v.1],Jy (p+1))))))) (some (Sum.inl j))) (by omega) (by omega) q (fun _ _ _=>rfl);rw[C];unfold eM;show bdO (aJ 20000 _ ([],0)) _=_;rw[z];cases o<;>rfl
end Go.L


set_option linter.all false
namespace Go.L
open Go Go.Eng
def oV(on:Nat->Bool)(st:Nat->Int->Int):Nat->Nat->Int->Option Int
 |0,_,n=>some n
 |r+1,j,n=>bif on j then none else oV on st r (j+1) (st j n)
theorem FG{ρ:Type}{n len:Nat}{on:Nat->Bool}{st:Nat->Int->Int}{bad:ρ}{F:(Int×Int->Option (Sum Int ρ))->Int×Int->Option (Sum Int ρ)}(q:len<n)(D:len<=100000)
  (j:∀again (k:Nat) (m:Int) (Q:Sum Int ρ->Prop),k<len->(on k=true->Q (.inr bad))->(on k=false->Ok (again (st k m,Jy ((k:Int)+1))) Q)->Ok (F again (m,(k:Int))) Q)
  (p:∀again (m:Int),F again (m,(len:Int))=some (.inl m)):aJ n F (0,0)=some (match oV on st len 0 0 with|none=>.inr bad|some m=>.inl m):=by
 apply Ok.eq;refine sT (len:=len) (fun k m=>oV on st len 0 0=oV on st (len-k) k m) q (by omega) rfl ?_ ?_
 ·rintro again k m z e C;have hd:len-k=(len-(k+1))+1:=by omega
  refine j again k m _ z (fun h=>?_) (fun h=>C _ ?_)
  ·rw[e,hd,oV,h];rfl
  ·rw[e,hd,oV,h];rfl
 ·rintro again m e;rw[p];refine aw.2 ?_;rw[e,Nat.sub_self];rfl
def crQ(ax ay bx by':Rat):Rat:=ax*by'-ay*bx
def onQ(ax ay bx by':Rat):Bool:=decide (crQ ax ay bx by'=0/\ax*bx+ay*by'<=0)
def stQ(ax ay bx by':Rat)(m:Int):Int:=if ay<=0/\0<by'/\0<crQ ax ay bx by' then Jy (m+1)else if 0<ay/\by'<=0/\crQ ax ay bx by'<0 then Jy (m-1)else m
theorem sq_nonneg(r:Rat):0<=r*r:=by
 by_cases h:0<=r
 ·exact Rat.mul_nonneg h h
 ·have:=Rat.mul_nonneg (a:=-r) (b:=-r) (by grind) (by grind);grind
theorem Gg{ax ay bx by':Rat}(h:ax*by'-ay*bx=0):ax*bx+ay*by'<=0↔(ax*bx<=0/\ay*by'<=0):=by
 have key:(ax*bx)*(ay*by')=(ax*by')*(ax*by'):=by grind
 have hs:=sq_nonneg (ax*by');constructor
 ·intro j;refine⟨?_,?_⟩
  ·apply Classical.byContradiction;intro hc;have:=Rat.mul_pos (a:=ax*bx) (b:=-(ay*by')) (by grind) (by grind);grind
  ·apply Classical.byContradiction;intro hc;have:=Rat.mul_pos (a:=-(ax*bx)) (b:=ay*by') (by grind) (by grind);grind
 ·rintro⟨a,b⟩;grind
theorem H8(a:Rat):(a<0/\sgn a.num=-1)\/(a=0/\sgn a.num=0)\/(0<a/\sgn a.num=1):=by
 rcases cR a.num with⟨h,e⟩|⟨h,e⟩|⟨h,e⟩
 ·refine .inl ⟨?_,e⟩;have:¬0<=a:=fun k=>by have:=Rat.num_nonneg.2 k;omega
  grind
 ·exact .inr (.inl ⟨Rat.num_eq_zero.1 h,e⟩)
 ·exact .inr (.inr ⟨EO.1 h,e⟩)
theorem Ga(a b:Rat):decide (Jy (sgn a.num*sgn (-b).num)>=0)=decide (a*b<=0):=by
 have w1:Jy 1=1:=wrap64_in (by omega) (by omega);have m:Jy (-1)=-1:=wrap64_in (by omega) (by omega);have j:Jy 0=0:=wrap64_in (by omega) (by omega);rcases H8 a with⟨h1,e1⟩|⟨h1,e1⟩|⟨h1,e1⟩<;>rcases H8 (-b)with⟨h2,e2⟩|⟨h2,e2⟩|⟨h2,e2⟩<;>rw[e1,e2]
 ·have:=Rat.mul_pos (a:=-a) (b:=b) (by grind) (by grind);rw[show(-1:Int)*-1=1 from rfl,w1,decide_eq_true (by omega:(1:Int)>=0),decide_eq_true (by grind)]
 ·have hb:b=0:=by grind
  rw[show(-1:Int)*0=0 from rfl,j,decide_eq_true (by omega:(0:Int)>=0),decide_eq_true (by rw[hb,Rat.mul_zero];exact Rat.le_refl)]
 ·have:=Rat.mul_pos (a:=-a) (b:=-b) (by grind) (by grind);rw[show(-1:Int)*1=-1 from rfl,m,decide_eq_false (by omega:¬(-1:Int)>=0),decide_eq_false (by grind)]
 ·rw[show(0:Int)*-1=0 from rfl,j,decide_eq_true (by omega:(0:Int)>=0),decide_eq_true (by rw[h1,Rat.zero_mul];exact Rat.le_refl)]
 ·rw[show(0:Int)*0=0 from rfl,j,decide_eq_true (by omega:(0:Int)>=0),decide_eq_true (by rw[h1,Rat.zero_mul];exact Rat.le_refl)]
 ·rw[show(0:Int)*1=0 from rfl,j,decide_eq_true (by omega:(0:Int)>=0),decide_eq_true (by rw[h1,Rat.zero_mul];exact Rat.le_refl)]
 ·have:=Rat.mul_pos (a:=a) (b:=b) (by grind) (by grind);rw[show(1:Int)*-1=-1 from rfl,m,decide_eq_false (by omega:¬(-1:Int)>=0),decide_eq_false (by grind)]
 ·have hb:b=0:=by grind
  rw[show(1:Int)*0=0 from rfl,j,decide_eq_true (by omega:(0:Int)>=0),decide_eq_true (by rw[hb,Rat.mul_zero];exact Rat.le_refl)]
 ·have:=Rat.mul_pos (a:=a) (b:=-b) (by grind) (by grind);rw[show(1:Int)*1=1 from rfl,w1,decide_eq_true (by omega:(1:Int)>=0),decide_eq_true (by grind)]
end Go.L

