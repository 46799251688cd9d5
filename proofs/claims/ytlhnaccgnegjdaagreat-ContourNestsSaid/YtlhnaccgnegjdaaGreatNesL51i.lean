import Derived.Test.YtlhnaccgnegjdaaGreatNesL51g
import Derived.Test.YtlhnaccgnegjdaaGreatNesLsrt
import Derived.Test.YtlhnaccgnegjdaaGreatNesL02sB
import Derived.Test.YtlhnaccgnegjdaaGreatNesL02pB
set_option linter.all false
namespace Go.L
open Go Go.Eng
def xK(S:List (K2×K2))(a b d:Nat):List K2:=((List.range' b d).map fun c:Nat=>(A2.mk (a:Int) (c:Int):K2)).filter (dX S)
def kK(S:List (K2×K2))(m a d:Nat):List K2:=(List.range' a d).flatMap fun a=>xK S a (a+1) (m-(a+1))
theorem DU{S:List (K2×K2)}{a b d:Nat}:xK S a b (d+1)=(if dX S (A2.mk (a:Int) (b:Int))=true then[A2.mk (a:Int) (b:Int)]else[])++xK S a (b+1) d:=by
 unfold xK;rw[List.range'_succ,List.map_cons,List.filter_cons];split<;>rfl
theorem B8{S:List (K2×K2)}{m a d:Nat}:kK S m a (d+1)=xK S a (a+1) (m-(a+1))++kK S m (a+1) d:=by
 unfold kK;rw[List.range'_succ,List.flatMap_cons]
theorem Fa{g:ak}{level:Int}{w h:Nat}(hg:Gd g w h)(hb:g.Z.any qu=false)(b1:g.Z.length<=40){S:List (K2×K2)}(eS:rC g w h level=S){P:K2->Prop}(hS:S.Pairwise Rq)(hG:Ge S P)
  (hP:∀e,P e->bE 20000 g level e=some (crR g level e)) (hl:S.length<=60) {F:List ae->List ae}
  (hF:∀c,Op S (crR g level) ((S.map (·.1)).filter (opn S)) c->∀out,out=c.2++(CLs S (kK S g.Z.length 0 g.Z.length) (dn c.1)).map (toC (crR g level) true)->Ok (aJ (α:=List ae×Int) (β:=List ae) 20000 (fun M (J,T)=>(
            cdO (decide (T<(out.length:Int))) (
             bdO (aJ (α:=List ae×Int) (β:=List ae) 20000 (fun N (j,p)=>(
              cdO (decide (p>0)) (
               gdO (inR p j.length) (
               bdO (bt 20000 (gt j p)) fun a2=>(
               gdO (inR (Jy (p-1)) j.length) (
               bdO (bt 20000 (gt j (Jy (p-1)))) fun a3=>(
               bdO (dN 20000 a2 a3) fun a4=>(
               cdO a4 (
                N ((j.set p.toNat (gt j (Jy (p-1)))).set (Jy (p-1)).toNat (gt j p),Jy (p-1))
               ) (
                some (j)
               )
               )
               )
               )
               )
               )
              ) (
               some (j)
              )
             )) (J,T)) fun U=>(
              M (U,Jy (T+1))
             )
            ) (
             some (J)
            )
   )) (out,0)) fun r=>r=F out):
  Ok (fb 20000 g level) fun r=>∃c,Op S (crR g level) ((S.map (·.1)).filter (opn S)) c/\r=F (c.2++(CLs S (kK S g.Z.length 0 g.Z.length) (dn c.1)).map (toC (crR g level) true)):=by
 have hT:(gY g w h).length<=8000:=by
  have h1:=List.length_filter_le (oX g.Z) (nQ g.Width (w-1) (h-1));rw[uO,Nat.mul_assoc]at h1;have:=Nat.mul_le_mul (show w-1<=63 by have:=hg.w1;omega) (show h-1<=63 by have:=hg.h1;omega);unfold gY;omega
 have hk:∀q∈S,dX S q.1=true:=fun q hq=>mD.2 ⟨q,hq,rfl⟩
 have a7:(S.map (·.1)).Nodup:=by
  unfold List.Nodup;rw[List.pairwise_map];exact hS.imp fun h=>h.1
 unfold fb;refine Ok.bde (HS (by omega) hg hb hT) ?_;rw[eS];refine Ok.bd (R:=fun o=>o=(S,bk S)) ?_ ?_
 ·refine cD (γ:=List (K2×K2)×List (K2×Bool)) (len:=S.length) (fun c x=>(c.1,c.2,x)) (fun k c=>c=(S.take k,(S.take k).map fun q=>(q.2,true))) (by omega) (by omega) (c0:=([],[])) rfl ?_ ?_
  ·rintro again k c O rfl ih;dsimp only;have Y:k<(S.map fun q=>(A2.mk q.1 q.2:A2 K2)).length:=by rw[List.length_map];exact O
   refine Ok.cd (fun _=>?_) (fun h=>by have:=dcF h;rw[List.length_map]at this;omega);refine Ok.gd (by rw[aR];exact decide_eq_true Y) ?_;rw[wq Y,List.getElem_map];refine ih (stM (S.take k,(S.take k).map fun q=>(q.2,true)) S[k]) ?_;have hs:(S.take (k+1)).Pairwise Rq:=hS.sublist (List.take_sublist _ _);rw[oC O]at hs ⊢;have:=yi [S[k]] (S.take k) hs;exact this
  ·rintro again c rfl;refine Ok.cd (fun h=>by have:=dcT h;rw[List.length_map]at this;omega) (fun _=>aw.2 ?_);dsimp only;rw[List.take_length];rfl
 rintro o rfl;dsimp only;refine Ok.bd (R:=fun c=>Op S (crR g level) ((S.map (·.1)).filter (opn S)) c/\c.2.length<=60) ?_ ?_
 ·refine cD (γ:=List (K2×Bool)×List ae) (len:=S.length) (fun c x=>(c.1,c.2,x)) (fun k c=>Op S (crR g level) (((S.map (·.1)).take k).filter (opn S)) c/\c.2.length<=k) (by omega) (by omega) (c0:=([],[])) ⟨E4,by simp⟩ ?_ ?_
  ·rintro again k c O ⟨hO,hc⟩ ih;have Y:k<(S.map fun q=>(A2.mk q.1 q.2:A2 K2)).length:=by rw[List.length_map];exact O
   have a5:k<(S.map (·.1)).length:=by rw[List.length_map];exact O
   have e2:((S.map (·.1)).take (k+1)).filter (opn S)=((S.map (·.1)).take k).filter (opn S)++(if opn S S[k].1=true then[S[k].1]else[]):=by
    rw[oC a5,List.filter_append,List.getElem_map];by_cases h:opn S S[k].1=true
    ·rw[if_pos h];simp[h]
    ·rw[if_neg h];simp[h]
   have hm:S[k].1∉((S.map (·.1)).take k).filter (opn S):=fun h=>by
    have:=yn a5 a7;rw[List.getElem_map]at this;exact this (List.mem_filter.1 h).1
   have hp:=(hG.k _ (List.getElem_mem O)).1;rw[e2]at ih;dsimp only;refine Ok.cd (fun _=>?_) (fun h=>by have:=dcF h;rw[List.length_map]at this;omega);refine Ok.gd (by rw[aR];exact decide_eq_true Y) ?_;rw[wq Y,List.getElem_map];refine Ok.cd (fun h=>?_) (fun h=>?_)
   ·have h:opn S S[k].1=true:=h;rw[if_pos h]at ih;have a8:isS S S[k].1:=xF hS (by unfold opn bk at h;simpa using h);obtain⟨hd,hW,a9⟩:=hO.step hS hl a8 hm;refine Ok.bde (Bp hG hP hl hp (by omega)) ?_;rw[hW];exact ih (jX c.1 (path S S[k].1),c.2++[ae.mk false ((path S S[k].1).map (crR g level))]) ⟨a9,by dsimp only;rw[List.length_append,List.length_singleton];omega⟩
   ·have h:opn S S[k].1=false:=h;rw[if_neg (by rw[h];simp),List.append_nil]at ih;exact ih c ⟨hO,by omega⟩
  ·rintro again c ⟨hO,hc⟩;rw[List.take_of_length_le (by rw[List.length_map];omega)]at hO;dsimp only;exact Ok.cd (fun h=>by have:=dcT h;rw[List.length_map]at this;omega) (fun _=>aw.2 ⟨hO,show c.2.length<=60 by omega⟩)
 rintro c0 ⟨hO,b3⟩;refine Ok.bd (R:=fun o=>o=c0.2++(CLs S (kK S g.Z.length 0 g.Z.length) (dn c0.1)).map (toC (crR g level) true)) ?_ ?_
 ·refine cD (γ:=List (K2×Bool)×List ae) (len:=g.Z.length) (fun c x=>(c.1,c.2,x)) (fun a c=>c.2++(CLs S (kK S g.Z.length a (g.Z.length-a)) (dn c.1)).map (toC (crR g level) true)=c0.2++(CLs S (kK S g.Z.length 0 g.Z.length) (dn c0.1)).map (toC (crR g level) true)/\c.2.length<=60+a*40) (by omega) (by omega) (c0:=c0) ⟨rfl,by omega⟩ ?_ ?_
  ·rintro again a c ha ⟨I,hc⟩ ih;rw[show g.Z.length-a=(g.Z.length-(a+1))+1 by omega,B8]at I;dsimp only;refine Ok.cd (fun _=>?_) (fun h=>by have:=dcF h;omega);refine Ok.bd (R:=fun o=>o.2++(CLs S (kK S g.Z.length (a+1) (g.Z.length-(a+1))) (dn o.1)).map (toC (crR g level) true)=c0.2++(CLs S (kK S g.Z.length 0 g.Z.length) (dn c0.1)).map (toC (crR g level) true)/\o.2.length<=60+(a+1)*40) ?_ (fun o ho=>ih o ho);rw[wrap64_in (by omega) (by omega),show((a:Int)+1)=((a+1:Nat):Int)by omega];have key:∀(d b m:Nat) (c:List (K2×Bool)×List ae),b+d=g.Z.length->d<m->c.2.length+d<=60+(a+1)*40->c.2++(CLs S (xK S a b d++kK S g.Z.length (a+1) (g.Z.length-(a+1))) (dn c.1)).map (toC (crR g level) true)=c0.2++(CLs S (kK S g.Z.length 0 g.Z.length) (dn c0.1)).map (toC (crR g level) true)->
     Ok (aJ (α:=List (K2×Bool)×List ae×Int) (β:=List (K2×Bool)×List ae) m (fun D (z,C,E)=>(
           cdO (decide (E<(g.Z.length:Int))) (
            cdO (dX S (A2.mk (a:Int) E)) (
             cdO (!(getM false z (A2.mk (a:Int) E))) (
              bdO (cN 20000 (A2.mk (a:Int) E) true z S g.X0 g.Y0 g.Step g.Width g.Height g.Z level C) fun a6=>(
              D (a6.1,a6.2,Jy (E+1))
              )
             ) (
              D (z,C,Jy (E+1))
             )
            ) (
             D (z,C,Jy (E+1))
            )
           ) (
            some ((z,C))
           ))) (c.1,c.2,(b:Int))) fun o=>o.2++(CLs S (kK S g.Z.length (a+1) (g.Z.length-(a+1))) (dn o.1)).map (toC (crR g level) true)=c0.2++(CLs S (kK S g.Z.length 0 g.Z.length) (dn c0.1)).map (toC (crR g level) true)/\o.2.length<=60+(a+1)*40:=by
    intro d;induction d with
    |zero=>
     intro b m c b0 hm hc I;obtain⟨m,rfl⟩:∃k,m=k+1:=⟨m-1,by omega⟩;rw[lN];refine Ok.cd (fun h=>by have:=dcT h;omega) (fun _=>aw.2 ⟨I,show c.2.length<=_ by omega⟩)
    |succ d a1=>
     intro b m c b0 hm hc I;obtain⟨m,rfl⟩:∃k,m=k+1:=⟨m-1,by omega⟩;have nx:Jy ((b:Int)+1)=((b+1:Nat):Int):=by rw[wrap64_in (by omega) (by omega)];omega
     rw[DU]at I;rw[lN];dsimp only;rw[nx];clear nx;refine Ok.cd (fun _=>?_) (fun h=>by have:=dcF h;omega);cases hh:dX S (A2.mk (a:Int) (b:Int))with
     |false=>
      rw[hh,if_neg (by simp),List.nil_append]at I;exact Ok.cd (fun h=>by cases h) (fun _=>a1 (b+1) m c (by omega) (by omega) (by omega) I)
     |true=>
      rw[hh,if_pos rfl,List.append_assoc]at I;have hp:P (A2.mk (a:Int) (b:Int)):=by
       obtain⟨q,hq,e⟩:=mD.1 hh;rw[<-e];exact(hG.k q hq).1
      refine Ok.cd (fun _=>Ok.cd (fun h=>?_) (fun h=>?_)) (fun h=>by cases h)
      ·have h:dn c.1 (A2.mk (a:Int) (b:Int))=false:=by
        have:(!dn c.1 (A2.mk (a:Int) (b:Int)))=true:=h;simpa using this
       have I:c.2++(CLs S (A2.mk (a:Int) (b:Int)::(xK S a (b+1) d++kK S g.Z.length (a+1) (g.Z.length-(a+1)))) (dn c.1)).map (toC (crR g level) true)=_:=I;rw[CW h,List.map_cons]at I;have b4:(a+1)*40<=40*40:=Nat.mul_le_mul_right 40 (by omega);refine Ok.bde (Bp hG hP hl hp (by omega)) ?_;refine a1 (b+1) m (jX c.1 (W S 100 (dn c.1) (A2.mk (a:Int) (b:Int))),c.2++[ae.mk true ((W S 100 (dn c.1) (A2.mk (a:Int) (b:Int))).map (crR g level))]) (by omega) (by omega) (by dsimp only;rw[List.length_append,List.length_singleton];omega) ?_;rw[<-I,List.append_assoc];rfl
      ·have h:dn c.1 (A2.mk (a:Int) (b:Int))=true:=by
        have:(!dn c.1 (A2.mk (a:Int) (b:Int)))=false:=h;simpa using this
       have I:c.2++(CLs S (A2.mk (a:Int) (b:Int)::(xK S a (b+1) d++kK S g.Z.length (a+1) (g.Z.length-(a+1)))) (dn c.1)).map (toC (crR g level) true)=_:=I;rw[A4 h]at I;exact a1 (b+1) m c (by omega) (by omega) (by omega) I
   exact key (g.Z.length-(a+1)) (a+1) 20000 c (by omega) (by omega) (by rw[Nat.add_mul];omega) I
  ·rintro again c ⟨I,hc⟩;rw[Nat.sub_self]at I;dsimp only;refine Ok.cd (fun h=>by have:=dcT h;omega) (fun _=>aw.2 ?_);rw[<-I];show c.2=c.2++[];rw[List.append_nil]
 rintro out a0;refine Ok.bd (hF c0 hO out a0) (fun r hr=>aw.2 ⟨c0,hO,by rw[hr,a0]⟩)
end Go.L


set_option linter.all false
namespace Go.L
open Go Go.Eng
def kap(e:K2):Int:=e.e0*4096+e.e1
structure Cr (Z:List Int) (level:Int) (e:K2):Prop where
 i0:inR e.e0 Z.length=true
 i1:inR e.e1 Z.length=true
 z0:tc (gt Z e.e0)
 z1:tc (gt Z e.e1)
 ne:gt Z e.e0≠gt Z e.e1
 lt:e.e0<e.e1
theorem Cr.bd{Z:List Int}{level:Int}{e:K2}(h:Cr Z level e):0<=e.e0/\e.e0<e.e1/\e.e1<Z.length:=by
 have a:=iW.1 h.i0;have b:=iW.1 h.i1;have:=h.lt;omega
theorem uF{Z:List Int}{level:Int}(p:Z.length<=40){e f:K2}(he:Cr Z level e)(j:Cr Z level f)(h:kap e=kap f):e=f:=by
 have a:=he.bd;have b:=j.bd;unfold kap at h;obtain⟨e0,e1⟩:=e;obtain⟨f0,f1⟩:=f;dsimp only at*;have m:e0=f0:=by omega
 subst m;have h1:e1=f1:=by omega
 rw[h1]
def crE(Z:List Int)(level:Int)(e:K2):Rat:=Rat.divInt (level-2*gt Z e.e0) (2*(gt Z e.e1-gt Z e.e0))
theorem w9{g:ak}{level:Int}(m:-2097153<=level/\level<=2097153){e:K2}(h:Cr g.Z level e):cQ 20000 g level e=some (crP g level e)/\(crP g level e).A=e.e0/\(crP g level e).B=e.e1/\Qx (crP g level e).At (crE g.Z level e) 3:=by
 have key:Ok (cQ 20000 g level e) fun c=>c.A=e.e0/\c.B=e.e1/\Qx c.At (crE g.Z level e) 3:=by
  unfold cQ;have a:=h.z0;have b:=h.z1;have n:=h.ne;unfold tc at a b;refine Ok.gd h.i0 (Ok.gd h.i1 ?_);rw[wrap64_in (n:=2*gt g.Z e.e0) (by omega) (by omega),wrap64_in (n:=level-2*gt g.Z e.e0) (by omega) (by omega),wrap64_in (n:=gt g.Z e.e1-gt g.Z e.e0) (by omega) (by omega),wrap64_in (n:=2*(gt g.Z e.e1-gt g.Z e.e0)) (by omega) (by omega)];refine Ok.bd (Cb (by omega) (by omega) (by omega) (by omega) (by omega) (by omega)) ?_;rintro v ⟨j,-⟩;exact aw.2 ⟨rfl,rfl,j⟩
 obtain⟨c,e1,e2⟩:=key;have:crP g level e=c:=by unfold crP;rw[e1];rfl
 rw[this];exact⟨e1,e2⟩
theorem wX{g:ak}{level:Int}(m:-2097153<=level/\level<=2097153){e:K2}(h:Cr g.Z level e):bE 20000 g level e=some (crR g level e)/\(crR g level e).A=e.e0/\(crR g level e).B=e.e1/\R.Qx (crR g level e).At (crE g.Z level e) 3:=by
 have key:Ok (bE 20000 g level e) fun c=>c.A=e.e0/\c.B=e.e1/\R.Qx c.At (crE g.Z level e) 3:=by
  unfold bE;have a:=h.z0;have b:=h.z1;have n:=h.ne;unfold tc at a b;refine Ok.gd h.i0 (Ok.gd h.i1 ?_);rw[wrap64_in (n:=2*gt g.Z e.e0) (by omega) (by omega),wrap64_in (n:=level-2*gt g.Z e.e0) (by omega) (by omega),wrap64_in (n:=gt g.Z e.e1-gt g.Z e.e0) (by omega) (by omega),wrap64_in (n:=2*(gt g.Z e.e1-gt g.Z e.e0)) (by omega) (by omega)];refine Ok.bd (R.Cb (by omega) (by omega) (by omega) (by omega) (by omega) (by omega)) ?_;rintro v ⟨j,-⟩;exact aw.2 ⟨rfl,rfl,j⟩
 obtain⟨c,e1,e2⟩:=key;have:crR g level e=c:=by unfold crR;rw[e1];rfl
 rw[this];exact⟨e1,e2⟩
theorem Dd{g:ak}{level:Int}{w h:Nat}(I:Gd g w h)(hb:g.Z.any qu=false):Ge (rC g w h level) (Cr g.Z level):=by
 refine⟨fun q z=>?_⟩;unfold rC at z;obtain⟨t,J,e⟩:=List.mem_filterMap.1 z;have m:=Hp hb I J;have t0:=m 0 (by omega);have t1:=m 1 (by omega);have t2:=m 2 (by omega);change inR t.e0 g.Z.length=true/\tc (gt g.Z t.e0)at t0;change inR t.e1 g.Z.length=true/\tc (gt g.Z t.e1)at t1;change inR t.e2 g.Z.length=true/\tc (gt g.Z t.e2)at t2;have j:∀{a b:Int},(a,b)∈dE t->(inR a g.Z.length=true/\tc (gt g.Z a))/\inR b g.Z.length=true/\tc (gt g.Z b):=by
  intro a b h;simp only[dE,List.mem_cons,List.not_mem_nil,or_false,Prod.mk.injEq]at h;rcases h with⟨rfl,rfl⟩|⟨rfl,rfl⟩|⟨rfl,rfl⟩
  ·exact⟨t0,t1⟩
  ·exact⟨t1,t2⟩
  ·exact⟨t2,t0⟩
 have mk:∀{a b:Int},(a,b)∈dE t->abv g.Z level a≠abv g.Z level b->Cr g.Z level (A2.mk (mn a b) (mx a b)):=by
  intro a b hm M;obtain⟨⟨C,D⟩,E,b2⟩:=j hm;have p:gt g.Z a≠gt g.Z b:=fun h=>M (by unfold abv;rw[h])
  have N:a≠b:=fun h=>p (by rw[h])
  unfold mn mx;by_cases h:b<a
  ·rw[if_pos h,if_neg (by omega)];exact⟨E,C,b2,D,fun k=>p k.symm,h⟩
  ·rw[if_neg h,if_pos (by omega)];exact⟨C,E,D,b2,p,by show a<b;omega⟩
 obtain⟨⟨a,b,O,x1,T,e1⟩,⟨c,d,U,x2,Y,e2⟩⟩:=ur e;rw[e1,e2];exact⟨mk O (by rw[x1,T];simp),mk U (by rw[x2,Y];simp)⟩
def fK(c:ae):K2:=A2.mk (gt c.Points 0).A (gt c.Points 0).B
def kC(c:ae):Int:=kap (fK c)
def okC(c:ae):Prop:=0<c.Points.length/\0<=(fK c).e0/\(fK c).e0<40/\0<=(fK c).e1/\(fK c).e1<40
theorem zr{a b:K2}(ha:0<=a.e0/\a.e0<40/\0<=a.e1/\a.e1<40)(hb:0<=b.e0/\b.e0<40/\0<=b.e1/\b.e1<40):∃c,fV 20000 a b=some c/\(c<0↔kap a<kap b):=by
 unfold fV kap;by_cases h:a.e0=b.e0
 ·rw[show(a.e0 !=b.e0)=false by simpa using h];refine⟨_,rfl,?_⟩;rw[wrap64_in (by omega) (by omega)];omega
 ·rw[show(a.e0 !=b.e0)=true by simpa using h];refine⟨_,rfl,?_⟩;rw[wrap64_in (by omega) (by omega)];omega
theorem Dx{c:ae}(h:okC c):gx 20000 c=some (fK c):=by
 unfold gx;rw[show inR 0 c.Points.length=true by rw[iW];have:=h.1;omega];rfl
theorem C0{c:ae}(h:okC c):bt 20000 c=some (fK c):=by
 unfold bt;rw[show inR 0 c.Points.length=true by rw[iW];have:=h.1;omega];rfl
theorem EW{a b:ae}(ha:okC a)(hb:okC b):∃c,jz 20000 a b=some c/\(c<0↔kC a<kC b):=by
 obtain⟨c,e,h⟩:=zr (a:=fK a) (b:=fK b) ha.2 hb.2;refine⟨c,?_,h⟩;unfold jz;rw[Dx ha,Dx hb];show bdO (fV 20000 (fK a) (fK b)) _=_;rw[e];rfl
theorem Ia{a b:K2}(ha:0<=a.e0/\a.e0<40/\0<=a.e1/\a.e1<40)(hb:0<=b.e0/\b.e0<40/\0<=b.e1/\b.e1<40):dN 20000 a b=some (decide (kap a<kap b)):=by
 unfold dN kap;by_cases h:a.e0<b.e0
 ·rw[decide_eq_true h,decide_eq_true (show a.e0*4096+a.e1<b.e0*4096+b.e1 by omega)];rfl
 ·rw[decide_eq_false h];by_cases h1:a.e0=b.e0
  ·rw[show(a.e0==b.e0)=true by simpa using h1];show some (decide (a.e1<b.e1))=_;congr 1;rw[decide_eq_decide];omega
  ·rw[show(a.e0==b.e0)=false by simpa using h1,decide_eq_false (show ¬a.e0*4096+a.e1<b.e0*4096+b.e1 by omega)];rfl
theorem BI{α β:Type}{f:α->β}{p:β->Int}{q:α->Int}{x:α}:∀{l:List α},(∀y∈l,p (f y)=q y)->p (f x)=q x->mU (ltK p) (f x) (l.map f)=(mU (ltK q) x l).map f
 |[],_,_=>rfl
 |y::l,h,hx=>by
  have j:=h y (by simp);show(if decide (p (f y)<p (f x))=true then f y::mU (ltK p) (f x) (l.map f)else f x::f y::l.map f)=(if decide (q y<q x)=true then y::mU (ltK q) x l else x::y::l).map f;rw[j,hx];split
  ·rw[List.map_cons,BI (fun z m=>h z (List.mem_cons_of_mem _ m)) hx]
  ·rfl
theorem wi{α β:Type}{f:α->β}{p:β->Int}{q:α->Int}:∀{l:List α},(∀y∈l,p (f y)=q y)->hU (ltK p) (l.map f)=(hU (ltK q) l).map f
 |[],_=>rfl
 |x::l,h=>by
  show mU (ltK p) (f x) (hU (ltK p) (l.map f))=(mU (ltK q) x (hU (ltK q) l)).map f;rw[wi fun y j=>h y (List.mem_cons_of_mem _ j)];exact BI (fun y j=>h y (by
   rw[ik]at j;exact List.mem_cons_of_mem _ j)) (h x (by simp))
theorem Hx{l:List ae}(p:l.length<=200)(h:∀c∈l,okC c)(hd:l.Pairwise fun a b=>kC a≠kC b):aK 20000 l=some (hU (ltK kC) l):=by
 unfold aK;rw[decide_eq_true (show l.length<4611686018427387904 by omega)];refine zl (fun x y hx j=>EW (h x hx) (h y j)) fun x y hx j e=>?_
 apply Classical.byContradiction;intro m;exact Cu (R:=fun a b=>kC a≠kC b) (fun a b h k=>h k.symm) hd x hx y j m e
theorem DR{l:List K2}(z:l.length<=200)(h:∀e∈l,0<=e.e0/\e.e0<40/\0<=e.e1/\e.e1<40):aD 20000 l=some (hU (ltK kap) l):=by
 unfold aD;rw[decide_eq_true (show l.length<4611686018427387904 by omega)];refine zl (fun x y hx j=>zr (h x hx) (h y j)) fun x y hx j e=>?_
 have a:=h x hx;have b:=h y j;unfold kap at e;obtain⟨x0,x1⟩:=x;obtain⟨m,p⟩:=y;dsimp only at*;have q:x0=m:=by omega
 subst q;have h1:x1=p:=by omega
 rw[h1]
def gK:ae->ae->Bool:=ltK fun c=>-kC c
theorem HL{out:List ae}(hl:out.length<=10000)(h:∀c∈out,okC c):Ok (aJ (α:=List ae×Int) (β:=List ae) 20000 (fun D (C,E)=>(
              cdO (decide (E<(out.length:Int))) (
               bdO (aJ (α:=List ae×Int) (β:=List ae) 20000 (fun q (j,p)=>(
                cdO (decide (p>0)) (
                 gdO (inR p j.length) (
                 bdO (bt 20000 (gt j p)) fun I=>(
                 gdO (inR (Jy (p-1)) j.length) (
                 bdO (bt 20000 (gt j (Jy (p-1)))) fun J=>(
                 bdO (dN 20000 I J) fun M=>(
                 cdO M (
                  q ((j.set p.toNat (gt j (Jy (p-1)))).set (Jy (p-1)).toNat (gt j p),Jy (p-1))
                 ) (
                  some (j)
                 )
                 )
                 )
                 )
                 )
                 )
                ) (
                 some (j)
                )
               )) (C,E)) fun N=>(
                D (N,Jy (E+1))
               )
              ) (
               some (C)
              )
 )) (out,0)) fun r=>r=(hU gK out.reverse).reverse:=by
 have inner : ∀ (r z:List ae) (x:ae) (m:Nat),r.length<m->r.length<=10000->(∀c∈r,okC c)->okC x->Ok (aJ (α:=List ae×Int) (β:=List ae) m (fun q (j,p)=>(
                 cdO (decide (p>0)) (
                  gdO (inR p j.length) (
                  bdO (bt 20000 (gt j p)) fun I=>(
                  gdO (inR (Jy (p-1)) j.length) (
                  bdO (bt 20000 (gt j (Jy (p-1)))) fun J=>(
                  bdO (dN 20000 I J) fun M=>(
                  cdO M (
                   q ((j.set p.toNat (gt j (Jy (p-1)))).set (Jy (p-1)).toNat (gt j p),Jy (p-1))
                  ) (
                   some (j)
                  )
                  )
                  )
                  )
                  )
                  )
                 ) (
                  some (j)
                 )
  )) (r.reverse++x::z,(r.length:Int))) fun o=>o=(mU gK x r).reverse++z:=by
  intro r;induction r with
  |nil=>
   intro z x m hm _ _ _;obtain⟨m,rfl⟩:∃k,m=k+1:=⟨m-1,by omega⟩;rw[lN];exact Ok.cd (fun h=>by cases h) (fun _=>aw.2 rfl)
  |cons y r U=>
   intro z x m hm hr T hx;rw[List.length_cons]at hm hr;obtain⟨m,rfl⟩:∃k,m=k+1:=⟨m-1,by omega⟩;have Y:=T y (by simp);have hlen:(r.reverse++y::x::z).length=r.length+(z.length+2):=by simp
   have e0:(y::r).reverse++x::z=r.reverse++y::x::z:=by simp
   have e1:gt (r.reverse++y::x::z) ((r.length+1:Nat):Int)=x:=by
    rw[jV];simp[List.getD,List.getElem?_append_right]
   have e2:gt (r.reverse++y::x::z) ((r.length:Nat):Int)=y:=by
    rw[jV];simp[List.getD,List.getElem?_append_right]
   have e3:(((r.reverse++y::x::z).set (r.length+1) y).set r.length x)=r.reverse++x::y::z:=by
    rw[List.set_append_right _ _ (by simp),List.set_append_right _ _ (by simp)];simp
   rw[lN];dsimp only;rw[List.length_cons,e0,show Jy (((r.length+1:Nat):Int)-1)=((r.length:Nat):Int)by rw[wrap64_in (by omega) (by omega)];omega,e1,e2];refine Ok.cd (fun _=>?_) (fun h=>by have:=dcF h;omega);refine Ok.gd (by rw[aR];exact decide_eq_true (by omega)) (Ok.bde (C0 hx) (Ok.gd (by rw[aR];exact decide_eq_true (by omega)) (Ok.bde (C0 Y) (Ok.bde (Ia hx.2 Y.2) ?_))));have O:mU gK x (y::r)=if kC x<kC y then y::mU gK x r else x::y::r:=by
    show(if gK y x=true then y::mU gK x r else x::y::r)=_;have eg:gK y x=decide (kC x<kC y):=by
     show decide (-kC y< -kC x)=_;rw[decide_eq_decide];omega
    rw[eg];by_cases h:kC x<kC y
    ·rw[if_pos h,if_pos (decide_eq_true h)]
    ·rw[if_neg h,if_neg (by simpa using h)]
   rw[O];refine Ok.cd (fun h=>?_) (fun h=>aw.2 ?_)
   ·have h:kC x<kC y:=dcT h;rw[if_pos h,Int.toNat_natCast,Int.toNat_natCast,e3];refine(U (y::z) x m (by omega) (by omega) (fun c hc=>T c (List.mem_cons_of_mem _ hc)) hx).mono fun o e=>?_
    rw[e,List.reverse_cons,List.append_assoc];rfl
   ·have h:¬kC x<kC y:=dcF h;rw[if_neg h,List.reverse_cons,List.reverse_cons];simp
 refine cD (γ:=List ae) (len:=out.length) (fun c x=>(c,x)) (fun i c=>c=(hU gK (out.take i).reverse).reverse++out.drop i) (by omega) (by omega) (c0:=out) rfl ?_ ?_
 ·rintro again i c O rfl U;dsimp only;refine Ok.cd (fun _=>?_) (fun h=>by have:=dcF h;omega);have hm:∀c∈hU gK (out.take i).reverse,okC c:=fun c hc=>by
   rw[ik,List.mem_reverse]at hc;exact h c (List.mem_of_mem_take hc)
  have hlen:(hU gK (out.take i).reverse).length=i:=by rw[lP,List.length_reverse,List.length_take];omega
  have:=inner (hU gK (out.take i).reverse) (out.drop (i+1)) out[i] 20000 (by omega) (by omega) hm (h _ (List.getElem_mem O));rw[hlen]at this;rw[List.drop_eq_getElem_cons O];refine Ok.bd this fun o T=>U o ?_
  rw[T,oC O,List.reverse_append];rfl
 ·rintro again c rfl;refine Ok.cd (fun h=>by have:=dcT h;omega) (fun _=>aw.2 ?_);rw[List.take_length,List.drop_length,List.append_nil]
end Go.L

