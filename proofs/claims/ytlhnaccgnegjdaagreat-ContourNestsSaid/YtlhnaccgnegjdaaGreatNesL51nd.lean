import Derived.Test.YtlhnaccgnegjdaaGreatNesL51nb
set_option linter.all false
namespace Go.L
open Go Go.Eng
structure LsN (g:ak) (w h:Nat) (level:Int) (L:List Ln):Prop where
 len:L.length<=120
 pts:∀x∈L,x.2.length<=80/\(∀e∈x.2,Ce g w h level e)/\0<x.2.length
noncomputable def bN(g:ak)(level:Int)(L:List Ln)(i k:Nat):Bool:=
 (decide (i≠k)&&(L.getD k default).1)&&(wnN g level (L.getD k default).2 ((L.getD i default).2.headD (A2.mk 0 0))!=0)
theorem Db{g:ak}{level:Int}{L:List Ln}{i:Nat}:bN g level L i i=false:=by unfold bN;simp
theorem AW{α:Type}{l:List α}{k:Nat}{d:α}(h:k<l.length):l.getD k d=l[k]:=by simp[List.getD,geT h]
theorem Gi{l:List K2}(h:0<l.length):l.headD (A2.mk 0 0)=l[0]:=by
 cases l with
 |nil=>simp at h
 |cons a l=>rfl
theorem G0{n:Nat}(h:0<n):inR 0 n=true:=by
 rw[show(0:Int)=((0:Nat):Int)from rfl,aR];exact decide_eq_true h
theorem CF{α β:Type}[Inhabited α][Inhabited β]{f:α->β}{l:List α}(h:0<l.length):gt (l.map f) 0=f l[0]:=tJ (k:=0) h
theorem EC{i k:Nat}:((i:Int)!=(k:Int))=decide (i≠k):=by
 by_cases e:i=k
 ·subst e;simp
 ·have:(i:Int)≠(k:Int):=by omega
  rw[decide_eq_true e];exact bne_iff_ne.2 this
section
variable{g:ak}{w h:Nat}{level:Int}{L:List Ln}
theorem LsN.row(j:LsN g w h level L){i:Nat}(m:i<L.length):L[i].2.length<=80/\(∀e∈L[i].2,Ce g w h level e)/\0<L[i].2.length:=j.pts _ (List.getElem_mem m)
theorem FI{i k:Nat}(j:i<L.length)(m:k<L.length)(p:0<L[i].2.length):bN g level L i k=((decide (i≠k)&&L[k].1)&&(wnN g level L[k].2 L[i].2[0]!=0)):=by
 unfold bN;rw[AW j,AW m,Gi p]
theorem GO{n i k:Nat}{B:Nat->Nat->Bool}(N:n<=120)(I:∀j,B j j=false)(C:i<n)(E:k<n){β:Type}{Q:β->Prop}{K:Sum (List (List Bool)) (List (List Bool))->Option β}
  (h1:(List.range n).any (fun m=>B i m&&B m k)=true->Ok (K (.inr (na n B))) Q) (h2:(List.range n).any (fun m=>B i m&&B m k)=false->Ok (K (.inl (na n B))) Q):
  Ok (bdO (aJ (α:=List (List Bool)×Int) (β:=Sum (List (List Bool)) (List (List Bool))) 20000 (fun z (p,q)=>(
                  cdO (decide (q<(n:Int))) (
                   gdO (inR (i:Int) p.length) (
                   gdO (inR q (gt p (i:Int)).length) (
                   cdO (gt (gt p (i:Int)) q) (
                    gdO (inR q p.length) (
                    gdO (decide ((i:Int)≠q)) (
                    gdO (inR (k:Int) (gt p q).length) (
                    cdO (gt (gt p q) (k:Int)) (
                     some (Sum.inr ((p.set (i:Int).toNat (gt p (i:Int))).set q.toNat (gt p q)))
                    ) (
                     z ((p.set (i:Int).toNat (gt p (i:Int))).set q.toNat (gt p q),Jy (q+1))
                    )
                    )
                    )
                    )
                   ) (
                    z (p.set (i:Int).toNat (gt p (i:Int)),Jy (q+1))
                   )
                   )
                   )
                  ) (
                   some (Sum.inl p)
                  )
   )) (na n B,0)) K) Q:=by
 refine Ok.bd (R:=fun o=>(o=.inr (na n B)/\(List.range n).any (fun m=>B i m&&B m k)=true)\/(o=.inl (na n B)/\(List.range n).any (fun m=>B i m&&B m k)=false)) ?_ ?_
 ·refine cD (γ:=Unit) (len:=n) (fun _ x=>(na n B,x)) (fun m _=>(List.range m).any (fun m=>B i m&&B m k)=false) (by omega) (by omega) (c0:=()) rfl ?_ ?_
  ·rintro again m c hm D J;dsimp only;have stp:(B i m&&B m k)=false->Ok (again (na n B,Jy ((m:Int)+1))) _:=fun e=>J () (by rw[Bc (n:=n) hm,D,e];rfl)
   refine Ok.cd (fun _=>?_) (fun h=>by have:=dcF h;omega);refine Ok.gd (by rw[aR,vG];exact decide_eq_true C) (Ok.gd (by rw[aR,pt C];simpa using hm) ?_);rw[qb C hm,Int.toNat_natCast,Int.toNat_natCast,sU C,sU hm];refine Ok.cd (fun e1=>?_) (fun e1=>stp (by rw[e1];rfl));have M:i≠m:=by rintro rfl;rw[I]at e1;cases e1
   refine Ok.gd (by rw[aR,vG];exact decide_eq_true hm) (Ok.gd (decide_eq_true (by omega)) (Ok.gd (by rw[aR,pt hm];simpa using E) ?_));rw[qb hm E];refine Ok.cd (fun e2=>aw.2 (.inl ⟨rfl,?_⟩)) (fun e2=>stp (by rw[e2,Bool.and_false]));exact List.any_eq_true.2 ⟨m,List.mem_range.2 hm,by rw[e1,e2];rfl⟩
  ·rintro again c D;exact Ok.cd (fun h=>by have:=dcT h;omega) (fun _=>aw.2 (.inr ⟨rfl,D⟩))
 ·rintro o (⟨rfl,e⟩|⟨rfl,e⟩)
  ·exact h1 e
  ·exact h2 e
theorem HN(E:Gd g w h)(I:okL level)(C:LsN g w h level L)(J:xX (mJ g) level=0)(e1:gz 20000 g level=some (L.map (toL (crP g level)))):
  js 20000 g level=some (BS L.length (bN g level L),0):=by
 have M:=C.len;apply Ok.eq;unfold js;refine Ok.bde (FK g level) ?_;rw[J];refine Ok.cd (fun h=>by cases h) (fun _=>Ok.bde e1 ?_);rw[List.length_map];refine Ok.bd (R:=fun all=>all=L.map fun x=>x.2.map (plP g level)) ?_ ?_
 ·refine cD (γ:=List (List al)) (len:=L.length) (fun c x=>(c,x)) (fun k c=>c=(L.take k).map fun x=>x.2.map (plP g level)) (by omega) (by omega) (c0:=[]) rfl ?_ ?_
  ·rintro again k c q rfl m;dsimp only;obtain⟨a,b,-⟩:=C.row q;have hlen:(List.map (fun x=>x.2.map (plP g level)) (L.take k)).length<=120:=by rw[List.length_map,List.length_take];omega
   refine Ok.cd (fun _=>?_) (fun h=>by have:=dcF h;omega);refine Ok.gd (by rw[aR];exact decide_eq_true q) ?_;rw[tJ q];refine Ok.bde (FN E I a b) (Ok.gd (decide_eq_true (by omega)) (Ok.gd (decide_eq_true (by omega)) (m _ ?_)));dsimp only;rw[oC q,List.map_append];rfl
  ·rintro again c rfl;dsimp only;exact Ok.cd (fun h=>by have:=dcT h;omega) (fun _=>aw.2 (by rw[List.take_length]))
 ·rintro all rfl;refine Ok.gd (decide_eq_true (by omega)) (Ok.gd (decide_eq_true (by omega)) (Ok.gd (decide_eq_true (by omega)) ?_));rw[Int.toNat_natCast];refine Ok.bd (R:=fun o=>o=na L.length (bN g level L)) ?_ ?_
  ·rw[zd (B:=bN g level L)];refine cD (γ:=Unit) (len:=L.length) (fun _ x=>(wP L.length (bN g level L) x.toNat,x)) (fun k _=>True) (by omega) (by omega) (c0:=()) trivial ?_ ?_
   ·rintro again i c z-m;obtain⟨a,b,p⟩:=C.row z;dsimp only;rw[Int.toNat_natCast];refine Ok.cd (fun _=>?_) (fun h=>by have:=dcF h;omega);refine Ok.gd (decide_eq_true (by omega)) (Ok.gd (by rw[aR,EU];exact decide_eq_true z) ?_);rw[Dc];refine Ok.bd (R:=fun o=>o=wP L.length (bN g level L) (i+1)) ?_ ?_
    ·refine cD (γ:=Unit) (len:=L.length) (fun _ x=>(rX L.length (bN g level L) i x.toNat,x)) (fun k _=>True) (by omega) (by omega) (c0:=()) trivial ?_ ?_
     ·rintro again k c q-m;obtain⟨a',N,p'⟩:=C.row q;have m:=m () trivial;rw[wrap64_in (n:=(k:Int)+1) (by omega) (by omega),show(k:Int)+1=((k+1:Nat):Int)by omega,Int.toNat_natCast]at m;dsimp only;rw[Int.toNat_natCast,wrap64_in (n:=(k:Int)+1) (by omega) (by omega),show(k:Int)+1=((k+1:Nat):Int)by omega];refine Ok.cd (fun _=>?_) (fun h=>by have:=dcF h;omega);refine Ok.gd (by rw[aR];exact decide_eq_true q) ?_;rw[tJ q,EC];have D:=FI (g:=g) (level:=level) z q p;refine Ok.bde (b:=decide (i≠k)&&L[k].1) (by cases decide (i≠k)<;>rfl) (Ok.cd (fun hc=>?_) (fun hc=>?_))
      ·rw[List.length_map];refine Ok.gd (by rw[aR];exact decide_eq_true q) (Ok.gd (by rw[aR];exact decide_eq_true z) ?_);rw[tJ z,tJ q];refine Ok.gd (G0 (by rw[List.length_map];exact p)) ?_;rw[CF p];obtain⟨⟨v,O⟩,-⟩:=y8 E I a' N (b _ (List.getElem_mem p));refine Ok.bde O (Ok.gd (by rw[aR,Fb];exact decide_eq_true z) (Ok.gd (by rw[aR,Au z];simpa using q) ?_));dsimp only;rw[hc,Bool.true_and]at D;rw[<-D,C9 z];exact m
      ·rw[hc,Bool.false_and]at D;rw[xA D];exact m
     ·rintro again c-;dsimp only;rw[Int.toNat_natCast];exact Ok.cd (fun h=>by have:=dcT h;omega) (fun _=>aw.2 Bz)
    ·rintro o rfl;have m:=m () trivial;rw[wrap64_in (n:=(i:Int)+1) (by omega) (by omega),show(i:Int)+1=((i+1:Nat):Int)by omega,Int.toNat_natCast]at m;rw[wrap64_in (n:=(i:Int)+1) (by omega) (by omega),show(i:Int)+1=((i+1:Nat):Int)by omega];exact m
   ·rintro again c-;dsimp only;rw[Int.toNat_natCast];exact Ok.cd (fun h=>by have:=dcT h;omega) (fun _=>aw.2 CS)
  ·rintro o rfl;have T:∀j,bN g level L j j=false:=fun j=>Db
   generalize bN g level L=B at*;refine Ok.gd (decide_eq_true (by omega)) ?_;refine Ok.bd (R:=fun o=>o=BS L.length B) ?_ (by rintro o rfl;exact aw.2 rfl);rw[DJ (B:=B)];refine cD (γ:=Unit) (len:=L.length) (fun _ x=>(na L.length B,yA L.length B x.toNat,x)) (fun k _=>True) (by omega) (by omega) (c0:=()) trivial ?_ ?_
   ·rintro again i c z-m;have m:=m () trivial;rw[wrap64_in (n:=(i:Int)+1) (by omega) (by omega),show(i:Int)+1=((i+1:Nat):Int)by omega,Int.toNat_natCast]at m;dsimp only;rw[Int.toNat_natCast,wrap64_in (n:=(i:Int)+1) (by omega) (by omega),show(i:Int)+1=((i+1:Nat):Int)by omega];refine Ok.cd (fun _=>?_) (fun h=>by have:=dcF h;omega);refine Ok.gd (by rw[aR,HJ];exact decide_eq_true z) ?_;rw[F8];refine Ok.bd (R:=fun o=>o=(na L.length B,yA L.length B (i+1))) ?_ (by rintro o rfl;exact m);refine cD (γ:=Unit) (len:=L.length) (fun _ x=>(na L.length B,wj L.length B i x.toNat,x)) (fun k _=>True) (by omega) (by omega) (c0:=()) trivial ?_ ?_
    ·rintro again k c q-m;have m:=m () trivial;rw[wrap64_in (n:=(k:Int)+1) (by omega) (by omega),show(k:Int)+1=((k+1:Nat):Int)by omega,Int.toNat_natCast]at m;dsimp only;rw[Int.toNat_natCast,wrap64_in (n:=(k:Int)+1) (by omega) (by omega),show(k:Int)+1=((k+1:Nat):Int)by omega];refine Ok.cd (fun _=>?_) (fun h=>by have:=dcF h;omega);refine Ok.gd (by rw[aR,vG];exact decide_eq_true z) (Ok.gd (by rw[aR,pt z];simpa using q) ?_);rw[qb z q,sU z];refine Ok.cd (fun e1=>?_) (fun e1=>GO M T z q (fun e2=>?_) (fun e2=>?_))
     ·rw[AK (by unfold ta;rw[show B i k=false by simpa using e1,Bool.and_false])];exact m
     ·dsimp only;rw[AK (by unfold ta;rw[e2];rfl)];exact m
     ·dsimp only;refine Ok.gd (by rw[aR,Ho];exact decide_eq_true z) ?_;rw[GS (by unfold ta;rw[e2];simpa using e1)];exact m
    ·rintro again c-;dsimp only;rw[Int.toNat_natCast];exact Ok.cd (fun h=>by have:=dcT h;omega) (fun _=>aw.2 (by rw[EL]))
   ·rintro again c-;dsimp only;rw[Int.toNat_natCast];exact Ok.cd (fun h=>by have:=dcT h;omega) (fun _=>aw.2 Gz)
end
end Go.L


set_option linter.all false
namespace Go.L
open Go Go.Eng
section
variable{g:ak}{w h:Nat}{level:Int}{L:List Ln}
theorem HE(E:Gd g w h)(I:okL level)(J:LsN g w h level L):gR 20000 g (L.map (toL (crR g level)))=some (BS L.length (bN g level L)):=by
 have Y:=J.len;apply Ok.eq;unfold gR;rw[List.length_map];refine Ok.gd (decide_eq_true (by omega)) (Ok.gd (decide_eq_true (by omega)) (Ok.gd (decide_eq_true (by omega)) ?_));rw[Int.toNat_natCast];refine Ok.bd (R:=fun o=>o=na L.length (bN g level L)) ?_ ?_
 ·rw[zd (B:=bN g level L)];refine cD (γ:=Unit) (len:=L.length) (fun _ x=>(wP L.length (bN g level L) x.toNat,x)) (fun k _=>True) (by omega) (by omega) (c0:=()) trivial ?_ ?_
  ·rintro again i c z-q;obtain⟨a,b,p⟩:=J.row z;dsimp only;rw[Int.toNat_natCast];refine Ok.cd (fun _=>?_) (fun h=>by have:=dcF h;omega);refine Ok.gd (decide_eq_true (by omega)) (Ok.gd (by rw[aR,EU];exact decide_eq_true z) (Ok.gd (by rw[aR];exact decide_eq_true z) ?_));rw[tJ z];refine Ok.gd (G0 (by show 0<(L[i].2.map _).length;rw[List.length_map];exact p)) ?_;rw[show gt (toL (crR g level) L[i]).Points 0=crR g level L[i].2[0]from CF p];refine Ok.bde (uw E I (b _ (List.getElem_mem p))).1 ?_;rw[Dc];refine Ok.bd (R:=fun o=>o=wP L.length (bN g level L) (i+1)) ?_ ?_
   ·refine cD (γ:=Unit) (len:=L.length) (fun _ x=>(rX L.length (bN g level L) i x.toNat,x)) (fun k _=>True) (by omega) (by omega) (c0:=()) trivial ?_ ?_
    ·rintro again k c C-q;obtain⟨a',N,p'⟩:=J.row C;have q:=q () trivial;rw[wrap64_in (n:=(k:Int)+1) (by omega) (by omega),show(k:Int)+1=((k+1:Nat):Int)by omega,Int.toNat_natCast]at q;dsimp only;rw[Int.toNat_natCast,wrap64_in (n:=(k:Int)+1) (by omega) (by omega),show(k:Int)+1=((k+1:Nat):Int)by omega];have D:=FI (g:=g) (level:=level) z C p;refine Ok.cd (fun _=>?_) (fun h=>by have:=dcF h;omega);rw[EC];refine Ok.cd (fun M=>Ok.gd (by rw[aR];exact decide_eq_true C) ?_) (fun M=>?_)
     ·rw[tJ C];rw[M,Bool.true_and]at D;refine Ok.cd (fun hc=>?_) (fun hc=>?_)
      ·have hc:L[k].1=true:=hc;refine Ok.bde (Ev E I a' N) ?_;obtain⟨-,v,O⟩:=y8 E I a' N (b _ (List.getElem_mem p));refine Ok.bde O (Ok.gd (by rw[aR,Fb];exact decide_eq_true z) (Ok.gd (by rw[aR,Au z];simpa using C) ?_));dsimp only;rw[hc,Bool.true_and]at D;rw[<-D,C9 z];exact q
      ·have hc:L[k].1=false:=hc;rw[hc,Bool.false_and]at D;rw[xA D];exact q
     ·rw[M,Bool.false_and,Bool.false_and]at D;rw[xA D];exact q
    ·rintro again c-;dsimp only;rw[Int.toNat_natCast];exact Ok.cd (fun h=>by have:=dcT h;omega) (fun _=>aw.2 Bz)
   ·rintro o rfl;have q:=q () trivial;rw[wrap64_in (n:=(i:Int)+1) (by omega) (by omega),show(i:Int)+1=((i+1:Nat):Int)by omega,Int.toNat_natCast]at q;rw[wrap64_in (n:=(i:Int)+1) (by omega) (by omega),show(i:Int)+1=((i+1:Nat):Int)by omega];exact q
  ·rintro again c-;dsimp only;rw[Int.toNat_natCast];exact Ok.cd (fun h=>by have:=dcT h;omega) (fun _=>aw.2 CS)
 ·rintro o rfl;have T:∀j,bN g level L j j=false:=fun j=>Db
  generalize bN g level L=B at*;refine Ok.bd (R:=fun o=>o=BS L.length B) ?_ (by rintro o rfl;exact aw.2 rfl);refine cD (γ:=Unit) (len:=L.length) (fun _ x=>(na L.length B,(List.range x.toNat).map (fun j=>oW (ta L.length B j) L.length),x)) (fun k _=>True) (by omega) (by omega) (c0:=()) trivial ?_ ?_
  ·rintro again i c z-q;have q:=q () trivial;rw[wrap64_in (n:=(i:Int)+1) (by omega) (by omega),show(i:Int)+1=((i+1:Nat):Int)by omega,Int.toNat_natCast]at q;dsimp only;rw[Int.toNat_natCast,wrap64_in (n:=(i:Int)+1) (by omega) (by omega),show(i:Int)+1=((i+1:Nat):Int)by omega];refine Ok.cd (fun _=>?_) (fun h=>by have:=dcF h;omega);refine Ok.bd (R:=fun o=>o=(na L.length B,oW (ta L.length B i) L.length)) ?_ ?_
   ·refine cD (γ:=Unit) (len:=L.length) (fun _ x=>(na L.length B,oW (ta L.length B i) x.toNat,x)) (fun k _=>True) (by omega) (by omega) (c0:=()) trivial ?_ ?_
    ·rintro again k c C-q;have q:=q () trivial;rw[wrap64_in (n:=(k:Int)+1) (by omega) (by omega),show(k:Int)+1=((k+1:Nat):Int)by omega,Int.toNat_natCast]at q;dsimp only;rw[Int.toNat_natCast,wrap64_in (n:=(k:Int)+1) (by omega) (by omega),show(k:Int)+1=((k+1:Nat):Int)by omega];refine Ok.cd (fun _=>?_) (fun h=>by have:=dcF h;omega);refine Ok.gd (by rw[aR,vG];exact decide_eq_true z) (Ok.gd (by rw[aR,pt z];simpa using C) ?_);rw[qb z C,sU z];refine Ok.bd (R:=fun o=>o=(na L.length B,ta L.length B i k)) ?_ ?_
     ·refine cD (γ:=Unit) (len:=L.length) (fun _ x=>(na L.length B,!((List.range x.toNat).any fun m=>B i m&&B m k)&&B i k,x)) (fun m _=>True) (by omega) (by omega) (c0:=()) trivial ?_ ?_
      ·rintro again m c hm-q;have q:=q () trivial;rw[wrap64_in (n:=(m:Int)+1) (by omega) (by omega),show(m:Int)+1=((m+1:Nat):Int)by omega,Int.toNat_natCast,Bc (n:=L.length) hm]at q;dsimp only;rw[Int.toNat_natCast,wrap64_in (n:=(m:Int)+1) (by omega) (by omega),show(m:Int)+1=((m+1:Nat):Int)by omega];refine Ok.cd (fun _=>?_) (fun h=>by have:=dcF h;omega);generalize ha:(List.range m).any (fun m=>B i m&&B m k)=a at*;refine Ok.cd (fun hd=>?_) (fun hd=>?_)
       ·refine Ok.gd (by rw[aR,vG];exact decide_eq_true z) (Ok.gd (by rw[aR,pt z];simpa using hm) ?_);rw[qb z hm,sU z,sU hm];refine Ok.cd (fun e1=>?_) (fun e1=>?_)
        ·have U:i≠m:=by rintro rfl;rw[T]at e1;cases e1
         refine Ok.gd (by rw[aR,vG];exact decide_eq_true hm) (Ok.gd (decide_eq_true (show(i:Int)≠(m:Int)by omega)) (Ok.gd (by rw[aR,pt hm];simpa using C) ?_));rw[qb hm C];refine Ok.cd (fun e2=>?_) (fun e2=>?_)
         ·rw[e1,e2]at q;simpa using q
         ·rw[e1,e2]at q;simpa using q
        ·rw[e1]at q;simpa using q
       ·have:(!(a||(B i m&&B m k))&&B i k)=(!a&&B i k):=by
         rw[hd];cases h1:B i k<;>cases h2:a<;>simp[h1,h2]at hd ⊢
        rw[this]at q;exact q
      ·rintro again c-;dsimp only;rw[Int.toNat_natCast];exact Ok.cd (fun h=>by have:=dcT h;omega) (fun _=>aw.2 rfl)
     ·rintro o rfl;dsimp only;refine Ok.cd (fun e=>?_) (fun e=>?_)
      ·rw[oW,if_pos e]at q;exact q
      ·rw[oW,if_neg (by rw[e];decide)]at q;exact q
    ·rintro again c-;dsimp only;rw[Int.toNat_natCast];exact Ok.cd (fun h=>by have:=dcT h;omega) (fun _=>aw.2 rfl)
   ·rintro o rfl;dsimp only;have hlen:((List.range i).map (fun j=>oW (ta L.length B j) L.length)).length<=120:=by simp;omega
    refine Ok.gd (decide_eq_true (by omega)) (Ok.gd (decide_eq_true (by omega)) ?_);rw[List.range_succ,List.map_append]at q;exact q
  ·rintro again c-;dsimp only;rw[Int.toNat_natCast];exact Ok.cd (fun h=>by have:=dcT h;omega) (fun _=>aw.2 rfl)
end
theorem E1{n:Nat}{s:List Int}(m:s.length<n)(p:s.length<=9223372036854775806):fL n s s=some true:=by
 unfold fL;apply Ok.eq;refine Ok.cd (fun h=>by simp at h) (fun _=>Ok.bd (R:=fun o=>o=Sum.inl ()) ?_ (by rintro o rfl;exact aw.2 rfl));refine cD (γ:=Unit) (len:=s.length) (fun _ x=>x) (fun _ _=>True) m p (c0:=()) trivial ?_ ?_
 ·rintro again k c j-q;refine Ok.cd (fun _=>?_) (fun h=>by have:=dcF h;omega);exact Ok.gd (by rw[aR];exact decide_eq_true j) (Ok.gd (by rw[aR];exact decide_eq_true j) (Ok.cd (fun h=>by simp at h) (fun _=>q () trivial)))
 ·rintro again c-;exact Ok.cd (fun h=>by have:=dcT h;omega) (fun _=>aw.2 rfl)
theorem DI(g:ak)(level:Int):dH 20000 g level=some true:=by
 apply Ok.eq;unfold dH;refine Ok.bde D3 (Ok.cd (fun h=>by cases h) (fun _=>?_));refine Ok.bde (b:=decide ((g.Z.length:Int)<=36)) rfl (Ok.cd (fun _=>aw.2 rfl) (fun I=>?_));have j:g.Z.length<=40:=by
  have:(g.Z.length:Int)<=36:=by simpa using I
  omega
 by_cases q:xX (mJ g) level=0
 ·obtain⟨z,m⟩:=Em q;obtain⟨w,h,p⟩:=IM z;obtain⟨-,-,hb⟩:=Dj z;have C:-2097153<=level/\level<=2097153:=⟨m.2.1,m.2.2⟩;have e1:=Gc p hb j C;have e2:=F0 p hb j C;have hs:=FA p hb j level;have D:=F9 (level:=level) p hb;generalize rC g w h level=S at*;have E:LsN g w h level (wO S):=⟨FP hs,fun x hx=>by
   have J:=DY hs.len hx;refine⟨by omega,HO D hx,?_⟩;rcases uu.1 hx with⟨e,he,rfl⟩|⟨l,m,rfl⟩
   ·obtain⟨t,M⟩:=pW (S:=S) (e:=e);show 0<(path S e).length;rw[M];simp
   ·obtain⟨e,t,e1,-⟩:=(qf (stK S) (dnK S)).1 l m;show 0<l.length;rw[e1];simp⟩
  refine Ok.bde (HN p m E q e1) (Ok.bde (yP g level) ?_);rw[q];refine Ok.cd (fun h=>by cases h) (fun _=>Ok.cd (fun _=>Ok.bde e2 (Ok.bde (HE p m E) ?_)) (fun h=>by cases h));have:=E.len;exact Ok.bde (E1 (by rw[EX];omega) (by rw[EX];omega)) (aw.2 rfl)
 ·have N:(xX (mJ g) level !=0)=true:=by simpa using q
  have e1:js 20000 g level=some ([],xX (mJ g) level):=by
   unfold js;rw[FK];show cdO (xX (mJ g) level !=0) _ _=_;rw[N];rfl
  refine Ok.bde e1 (Ok.bde (yP g level) ?_);exact Ok.cd (fun _=>Ok.cd (fun _=>aw.2 rfl) (fun h=>by simp at h)) (fun h=>absurd (by simpa using h) q)
end Go.L

