import Derived.Test.YtfhhaadcodofnaaGreatChkL51cb
import Derived.Test.YtfhhaadcodofnaaGreatChkL51cb
set_option linter.all false
namespace Go.L
open Go Go.Eng
theorem Fm{x:ar}{a b:Rat}(ha:Qx x a 16)(hb:Qx x b 16):a=b:=by
 have h1:=R.sm (n:=20000) (j:=16) (k:=16) (by omega) (by omega) (show R.Qx x a 16 from ha) (show R.Qx x b 16 from hb);have h2:=R.sm (n:=20000) (j:=16) (k:=16) (by omega) (by omega) (show R.Qx x a 16 from ha) (show R.Qx x a 16 from ha);rw[h1,Rat.sub_self]at h2;have m:sgn (a-b).num=sgn (0:Rat).num:=Option.some.inj h2;rcases Jf (a-b)with⟨h,e⟩|⟨h,e⟩|⟨h,e⟩
 ·rw[e]at m;exact absurd m (by decide)
 ·grind
 ·rw[e]at m;exact absurd m (by decide)
theorem HL{x y:ar}{a b:Rat}(hx:Qx x a 16)(m:Qx y b 16):∃s,dN 20000 x y=some s/\((s==0)=decide (a=b)):=by
 obtain⟨s,e1,h1⟩:=Hz (n:=20000) (j:=16) (k:=16) (by omega) (by omega) (by omega) hx m;obtain⟨q,e2,h2⟩:=G0 (n:=20000) (j:=16) (k:=16) (by omega) (by omega) (by omega) hx m;rw[e1]at e2;obtain rfl:s=q:=Option.some.inj e2;refine⟨s,e1,?_⟩;by_cases h:a=b
 ·subst h;have:s=0:=by
   have z:¬s<0:=fun h=>by have:=h1.1 h;grind
   have C:¬s>0:=fun h=>by have:=h2.1 h;grind
   omega
  simp[this]
 ·have:s≠0:=by
   intro e;have z:¬a<b:=fun k=>by have:=h1.2 k;omega
   have C:¬b<a:=fun k=>by have:=h2.2 k;omega
   exact h (by grind)
  simp[h,this]
section
variable{g:an}{level:Int}
noncomputable def qB(x:ar)(b:Rat):Bool:=@decide (Qx x b 16) (Classical.propDecidable _)
theorem C8{x:ar}{b:Rat}:qB x b=true↔Qx x b 16:=by unfold qB;exact @decide_eq_true_iff _ (Classical.propDecidable _)
noncomputable def mB(g:an)(level:Int)(p:ah)(e:K2):Bool:=(p.A==e.e0)&&((p.B==e.e1)&&qB p.At (crE g.Z level e))
theorem G1(m:-2097153<=level/\level<=2097153){p:ah}(hp:zf p){e:K2}(he:Cr g.Z level e):kE 20000 p (crP g level e)=some (mB g level p e):=by
 obtain⟨-,a,b,c⟩:=xy m he;have c:Qx (crP g level e).At (crE g.Z level e) 16:=QL.mono c (by omega);unfold kE mB;rw[a,b];cases h1:(p.A==e.e0)with
 |false=>rfl
 |true=>
  cases h2:(p.B==e.e1)with
  |false=>rfl
  |true=>
   obtain⟨⟨d1,d2⟩,l1,l2⟩:=hp;rcases zr (n:=20000) (x:=p.At) (by omega) d1 d2 l1 l2 with⟨v1,-,r,j⟩|⟨v1,-⟩
   ·have v2:=mY (n:=20000) (x:=(crP g level e).At) (by omega) (by omega) c;obtain⟨s,es,hs⟩:=HL j c;have:qB p.At (crE g.Z level e)=decide (r=crE g.Z level e):=by
     rw[Bool.eq_iff_iff,C8,decide_eq_true_iff];exact⟨fun h=>Fm j h,fun h=>h▸j⟩
    show bdO (cD 20000 p.At) _=_;rw[v1];show bdO (cD 20000 (crP g level e).At) _=_;rw[v2];show bdO (dN 20000 p.At (crP g level e).At) _=_;rw[es];show some (s==0)=_;rw[hs,this];rfl
   ·have:qB p.At (crE g.Z level e)=false:=by
     cases q:qB p.At (crE g.Z level e)with
     |false=>rfl
     |true=>
      have:=mY (n:=20000) (x:=p.At) (by omega) (by omega) (C8.1 q);rw[v1]at this;cases this
    show bdO (cD 20000 p.At) _=_;rw[v1,this];rfl
theorem GZ{x y:ar}{b:Rat}(hx:GN x/\x.Num.Groups.length<=16/\x.Den.Groups.length<=16)(m:R.Qx y b 16):∃v,ga 20000 x y=some v/\(v=true↔Qx x b 16):=by
 obtain⟨⟨d1,d2⟩,l1,l2⟩:=hx;unfold ga;rcases zr (n:=20000) (x:=x) (by omega) d1 d2 l1 l2 with⟨-,v1,r,j⟩|⟨v0,v1⟩
 ·rw[v1];show ∃v,bdO (bY 20000 y) _=some v/\_;rw[R.mY (by omega) (by omega) m];show ∃v,bdO (eW 20000 x y) _=some v/\_;rw[R.sm (by omega) (by omega) (show R.Qx x r 16 from j) m];refine⟨_,rfl,?_⟩;rw[F4,decide_eq_true_iff];exact⟨fun h=>by
   have:r=b:=by grind
   exact this▸j,fun h=>by have:=Fm j h;grind⟩
 ·rw[v1];refine⟨false,rfl,fun h=>absurd h (by decide),fun h=>?_⟩;have:=mY (n:=20000) (x:=x) (by omega) (by omega) h;rw[v0]at this;cases this
noncomputable def eqL(g:an)(level:Int)(c:aa)(x:Ln):Bool:=(c.Closed==x.1)&&(decide (c.Points.length=x.2.length)&&(List.range x.2.length).all fun k=>mB g level (c.Points.getD k default) (x.2.getD k (A2.mk 0 0)))
theorem tu{n len:Nat}{p:Nat->Bool}{bad:Bool}{F:(Int->Option (Sum Unit Bool))->Int->Option (Sum Unit Bool)}(z:len<n)(C:len<=9223372036854775806)
  (step:∀again (k:Nat),k<len->F again (k:Int)=if p k=true then again (Ki ((k:Int)+1))else some (.inr bad)) (j:∀again,F again (len:Int)=some (.inl ())):
  aP n F 0=some (if (List.range len).all p=true then .inl ()else .inr bad):=by
 have key:∀(m k:Nat),len-k<m->k<=len->aP m F (k:Int)=some (if (List.range' k (len-k)).all p=true then .inl ()else .inr bad):=by
  intro m;induction m with
  |zero=>intro k h;omega
  |succ m q=>
   intro k hm hk;show F (aP m F) (k:Int)=_;by_cases h:k<len
   ·rw[step _ k h,wrap64_in (by omega) (by omega),show(k:Int)+1=((k+1:Nat):Int)by omega,show len-k=(len-(k+1))+1 by omega,List.range'_succ,List.all_cons];cases hp:p k with
    |true=>rw[if_pos rfl,q (k+1) (by omega) (by omega),Bool.true_and]
    |false=>rfl
   ·obtain rfl:k=len:=by omega
    rw[j,Nat.sub_self];rfl
 have:=key n 0 (by omega) (by omega);rw[Nat.sub_zero,<-List.range_eq_range']at this;exact this
theorem Fj{x:Ln}{k:Nat}(h:k<x.2.length){cr:K2->ah}:(x.2.map cr).getD k default=cr (x.2.getD k (A2.mk 0 0)):=by
 simp[List.getD,geT h]
theorem IA(j:-2097153<=level/\level<=2097153){c:aa}(hc:∀p∈c.Points,zf p){x:Ln}(hx:∀e∈x.2,Cr g.Z level e)(hlen:x.2.length<=100):mE 20000 c (toL (crP g level) x)=some (eqL g level c x):=by
 unfold mE eqL toL toC;dsimp only;cases h1:(c.Closed==x.1)with
 |false=>rfl
 |true=>
  show bdO (aF 20000 c.Points (x.2.map (crP g level))) _=_;unfold aF;rw[List.length_map];by_cases h2:c.Points.length=x.2.length
  ·rw[show((c.Points.length:Int)!=(x.2.length:Int))=false by simp[h2],decide_eq_true h2,h2];rw[tu (bad:=false) (len:=x.2.length) (p:=fun k=>mB g level (c.Points.getD k default) (x.2.getD k (A2.mk 0 0))) (by omega) (by omega) ?_ ?_]
   ·cases (List.range x.2.length).all fun k=>mB g level (c.Points.getD k default) (x.2.getD k (A2.mk 0 0))<;>rfl
   ·intro again k hk;have d1:decide ((k:Int)<(x.2.length:Int))=true:=by simpa using hk
    have hm:c.Points.getD k default∈c.Points:=by rw[List.getD,geT (by omega)];exact List.getElem_mem _
    have he:x.2.getD k (A2.mk 0 0)∈x.2:=by rw[List.getD,geT hk];exact List.getElem_mem _
    rw[d1,bj,decide_eq_true hk,jo,jo,Fj hk,G1 j (hc _ hm) (hx _ he)];cases mB g level (c.Points.getD k default) (x.2.getD k (A2.mk 0 0))<;>rfl
   ·intro again;have d1:decide ((x.2.length:Int)<(x.2.length:Int))=false:=by simp
    rw[d1];rfl
  ·rw[show((c.Points.length:Int)!=(x.2.length:Int))=true by rw[bne_iff_ne];omega,decide_eq_false h2];rfl
theorem CD(m:-2097153<=level/\level<=2097153){c:aa}(hc:∀p∈c.Points,zf p){x:Ln}(hx:∀e∈x.2,Cr g.Z level e)(hlen:x.2.length<=100):cX 20000 c (toL (crR g level) x)=some (eqL g level c x):=by
 unfold cX eqL toL toC;dsimp only;rw[List.length_map];cases h1:(c.Closed==x.1)with
 |false=>rw[show(c.Closed !=x.1)=true by rw[bne,h1];rfl];rfl
 |true=>
  rw[show(c.Closed !=x.1)=false by rw[bne,h1];rfl];by_cases h2:c.Points.length=x.2.length
  ·rw[show((c.Points.length:Int)!=(x.2.length:Int))=false by simp[h2],decide_eq_true h2,h2];show bdO (aP 20000 _ 0) _=_;rw[tu (bad:=false) (len:=x.2.length) (p:=fun k=>mB g level (c.Points.getD k default) (x.2.getD k (A2.mk 0 0))) (by omega) (by omega) ?_ ?_]
   ·cases (List.range x.2.length).all fun k=>mB g level (c.Points.getD k default) (x.2.getD k (A2.mk 0 0))<;>rfl
   ·intro again k hk;have d1:decide ((k:Int)<(x.2.length:Int))=true:=by simpa using hk
    have hm:c.Points.getD k default∈c.Points:=by rw[List.getD,geT (by omega)];exact List.getElem_mem _
    have he:x.2.getD k (A2.mk 0 0)∈x.2:=by rw[List.getD,geT hk];exact List.getElem_mem _
    obtain⟨-,a,b,q⟩:=xJ m (hx _ he);obtain⟨v,z,C⟩:=GZ (x:=(c.Points.getD k default).At) (hc _ hm) (QL.mono q (by omega));rw[d1,bj,decide_eq_true hk,jo,jo,Fj hk,a,b,z];unfold mB;have j:qB (c.Points.getD k default).At (crE g.Z level (x.2.getD k (A2.mk 0 0)))=v:=by rw[Bool.eq_iff_iff,C8,C]
    rw[j];cases e1:((c.Points.getD k default).A==(x.2.getD k (A2.mk 0 0)).e0)<;>cases e2:((c.Points.getD k default).B==(x.2.getD k (A2.mk 0 0)).e1)<;>cases v<;>simp only[bne,e1,e2]<;>rfl
   ·intro again;have d1:decide ((x.2.length:Int)<(x.2.length:Int))=false:=by simp
    rw[d1];rfl
  ·rw[show((c.Points.length:Int)!=(x.2.length:Int))=true by rw[bne_iff_ne];omega,decide_eq_false h2];rfl
end
end Go.L


set_option linter.all false
namespace Go.L
open Go Go.Eng
def vj(c:aa)(i:Nat):aa:=aa.mk true (c.Points.drop i++c.Points.take i)
def zj(c:aa)(i:Nat):aa:=if c.Closed=true then vj c i else c
theorem BV{c:aa}{i:Nat}{p:ah}(h:p∈(vj c i).Points):p∈c.Points:=by
 rcases List.mem_append.1 h with h|h
 ·exact List.mem_of_mem_drop h
 ·exact List.mem_of_mem_take h
theorem Bj{c:aa}{i:Nat}(j:i<=c.Points.length):(vj c i).Points.length=c.Points.length:=by
 show(c.Points.drop i++c.Points.take i).length=_;rw[List.length_append,List.length_drop,List.length_take];omega
theorem FK{a b:List ah}(h:a.length+b.length<=200):bl 20000 [a,b]=some (a++b):=by
 apply Ok.eq;unfold bl;refine Ok.bd (R:=fun s=>s=((a.length+b.length:Nat):Int)) ?_ ?_
 ·refine eC (γ:=Int) (len:=2) (fun s x=>(s,x)) (fun k s=>s=if k=0 then 0 else if k=1 then(a.length:Int)else((a.length+b.length:Nat):Int)) (by omega) (by omega) (c0:=0) rfl ?_ ?_
  ·rintro again k s hk rfl j;have j:=j _ rfl;dsimp only;refine Ok.cd (fun _=>?_) (fun h=>by have:=dcF h;simp at this;omega);refine Ok.gd (by rw[bj];exact decide_eq_true hk) ?_;rcases (show k=0\/k=1 by omega)with rfl|rfl
   ·have j:Ok (again ((a.length:Int),_)) _:=j;show Ok (gdO (!decide (Ki (0+(a.length:Int))<0)) (again (Ki (0+(a.length:Int)),_))) _;rw[wrap64_in (n:=0+(a.length:Int)) (by omega) (by omega),Int.zero_add];exact Ok.gd (by simp) j
   ·have j:Ok (again (((a.length+b.length:Nat):Int),_)) _:=j;show Ok (gdO (!decide (Ki ((a.length:Int)+(b.length:Int))<0)) (again (Ki ((a.length:Int)+(b.length:Int)),_))) _;rw[wrap64_in (n:=(a.length:Int)+(b.length:Int)) (by omega) (by omega),<-Int.natCast_add];exact Ok.gd (by simp;omega) j
  ·rintro again s rfl;exact Ok.cd (fun h=>by have:=dcT h;simp at this) (fun _=>aw.2 rfl)
 ·rintro s rfl;refine Ok.bd (R:=fun v=>v=[]) ?_ ?_
  ·unfold bz;rw[Int.sub_zero,wrap64_in (n:=((a.length+b.length:Nat):Int)) (by omega) (by omega)];refine Ok.gd (by simp;omega) (Ok.cd (fun h=>?_) (fun _=>aw.2 rfl));have h:=dcT h;exact Ok.gd (decide_eq_true h) (Ok.gd (decide_eq_true (by omega)) (Ok.gd (decide_eq_true (by omega)) (Ok.gd (by simp[inS];omega) (aw.2 rfl))))
  ·rintro v rfl;refine Ok.bd (R:=fun v=>v=a++b) ?_ (by rintro v rfl;exact aw.2 rfl);refine eC (γ:=List ah) (len:=2) (fun s x=>(s,x)) (fun k s=>s=if k=0 then[]else if k=1 then a else a++b) (by omega) (by omega) (c0:=[]) rfl ?_ ?_
   ·rintro again k s hk rfl j;have j:=j _ rfl;dsimp only;refine Ok.cd (fun _=>?_) (fun h=>by have:=dcF h;simp at this;omega);refine Ok.gd (by rw[bj];exact decide_eq_true hk) ?_;rcases (show k=0\/k=1 by omega)with rfl|rfl
    ·have j:Ok (again (a,_)) _:=j;show Ok (gdO (decide ((([]:List ah).length+a.length)*80<=140737488355328)) (gdO (decide (([]:List ah).length+a.length<=4611686018427387904)) (again (a,_)))) _;exact Ok.gd (decide_eq_true (by simp;omega)) (Ok.gd (decide_eq_true (by simp;omega)) j)
    ·have j:Ok (again (a++b,_)) _:=j;show Ok (gdO (decide ((a.length+b.length)*80<=140737488355328)) (gdO (decide (a.length+b.length<=4611686018427387904)) (again (a++b,_)))) _;exact Ok.gd (decide_eq_true (by omega)) (Ok.gd (decide_eq_true (by omega)) j)
   ·rintro again s rfl;exact Ok.cd (fun h=>by have:=dcT h;simp at this) (fun _=>aw.2 rfl)
def kq(c:aa)(j:Nat):K2:=A2.mk (c.Points.getD j default).A (c.Points.getD j default).B
def inK(e:K2):Prop:=0<=e.e0/\e.e0<40/\0<=e.e1/\e.e1<40
structure uK (c:aa) (i:Nat):Prop where
 lt:i<c.Points.length
 bd:∀j,j<c.Points.length->inK (kq c j)
 le:∀j,j<c.Points.length->j≠i->kap (kq c i)<kap (kq c j)
theorem uS(a b:K2):∃v,cU 20000 a b=some v:=by
 unfold cU;cases (a.e0 !=b.e0)
 ·exact⟨_,rfl⟩
 ·exact⟨_,rfl⟩
theorem BP{c:aa}(J:0<c.Points.length)(Y:c.Points.length<=80):∃i,i<c.Points.length/\gy 20000 c=some (zj c i)/\∀j,uK c j->i=j:=by
 cases hc:c.Closed with
 |false=>
  by_cases q:∃j,uK c j
  ·obtain⟨j,C⟩:=q;refine⟨j,C.lt,?_,fun k hk=>?_⟩
   ·unfold gy zj;rw[hc];rfl
   ·apply Classical.byContradiction;intro E;have h1:=C.le k hk.lt (fun e=>E e.symm);have h2:=hk.le j C.lt E;omega
  ·refine⟨0,J,?_,fun j C=>absurd ⟨j,C⟩ q⟩;unfold gy zj;rw[hc];rfl
 |true=>
  have key:Ok (gy 20000 c) fun r=>∃i,i<c.Points.length/\r=vj c i/\∀j,uK c j->i=j:=by
   unfold gy;rw[hc];refine Ok.cd (fun h=>by cases h) (fun _=>?_);refine Ok.bd (R:=fun s=>∃i:Nat,s=(i:Int)/\i<c.Points.length/\∀j,uK c j->i=j) ?_ ?_
   ·refine eC (γ:=Int) (len:=c.Points.length) (fun s x=>(s,x)) (fun m s=>∃i:Nat,s=(i:Int)/\i<c.Points.length/\∀j,uK c j->j<m->i=j) (by omega) (by omega) (c0:=0) ⟨0,rfl,J,fun j _ h=>by omega⟩ ?_ ?_
    ·rintro again m s hm ⟨i,rfl,D,C⟩ N;dsimp only;refine Ok.cd (fun _=>?_) (fun h=>by have:=dcF h;omega);refine Ok.gd (by rw[bj];exact decide_eq_true hm) (Ok.gd (by rw[bj];exact decide_eq_true D) ?_);rw[jo,jo];obtain⟨v,O⟩:=uS (kq c m) (kq c i);have T:∀j,uK c j->(v<0↔kap (kq c m)<kap (kq c i)):=fun j q=>by
      obtain⟨v',U,h'⟩:=tt (a:=kq c m) (b:=kq c i) (q.bd m hm) (q.bd i D);rw[O]at U;obtain rfl:=Option.some.inj U;exact h'
     refine Ok.bde O (Ok.cd (fun z=>?_) (fun z=>?_))
     ·have z:=dcT z;refine N _ ⟨m,rfl,hm,fun j q I=>?_⟩;apply Classical.byContradiction;intro E;have e:=C j q (by omega);subst e;have h1:=(T _ q).1 z;have h2:=q.le m hm E;omega
     ·have z:=dcF z;refine N _ ⟨i,rfl,D,fun j q I=>?_⟩;by_cases e:j=m
      ·subst e;apply Classical.byContradiction;intro E;exact z ((T _ q).2 (q.le i D E))
      ·exact C j q (by omega)
    ·rintro again s ⟨i,rfl,D,C⟩;dsimp only;exact Ok.cd (fun h=>by have:=dcT h;omega) (fun _=>aw.2 ⟨i,rfl,D,fun j q=>C j q q.lt⟩)
   ·rintro s ⟨i,rfl,D,C⟩;refine Ok.gd (by simp[inS];omega) (Ok.gd (by simp[inS];omega) ?_);have e1:(c.Points.drop ((i:Int)).toNat).take (((c.Points.length:Int)).toNat-((i:Int)).toNat)=c.Points.drop i:=by
     rw[Int.toNat_natCast,Int.toNat_natCast];exact List.take_of_length_le (by rw[List.length_drop];exact Nat.le_refl _)
    have e2:(c.Points.drop ((0:Int)).toNat).take (((i:Int)).toNat-((0:Int)).toNat)=c.Points.take i:=by
     show(c.Points.drop 0).take (((i:Int)).toNat-0)=_;rw[Int.toNat_natCast,Nat.sub_zero,List.drop_zero]
    rw[e1,e2];refine Ok.bde (FK (by rw[List.length_drop,List.length_take];omega)) (aw.2 ⟨i,D,rfl,C⟩)
  obtain⟨r,er,i,D,rfl,C⟩:=key;refine⟨i,D,?_,C⟩;unfold zj;rw[hc,if_pos rfl];exact er
section
variable{g:an}{level:Int}
noncomputable def tB(g:an)(level:Int)(c:aa)(x:Ln):Bool:=if c.Closed=true/\0<c.Points.length then(List.range c.Points.length).any fun i=>eqL g level (vj c i) x else eqL g level c x
theorem Gh(j:-2097153<=level/\level<=2097153){c:aa}(m:c.Points.length<=80)(hc:∀p∈c.Points,zf p){x:Ln}(hx:∀e∈x.2,Cr g.Z level e)(hlen:x.2.length<=100):gx 20000 c (toL (crR g level) x)=some (tB g level c x):=by
 unfold gx tB;cases h1:c.Closed with
 |false=>
  rw[if_neg (fun h=>absurd h.1 (by decide))];show bdO (cX 20000 c (toL (crR g level) x)) _=_;rw[CD j hc hx hlen];rfl
 |true=>
  by_cases h2:c.Points.length=0
  ·rw[if_neg (fun h=>by omega),show((c.Points.length:Int)==0)=true by simp[h2]];show bdO (cX 20000 c (toL (crR g level) x)) _=_;rw[CD j hc hx hlen];rfl
  ·rw[if_pos ⟨rfl,by omega⟩,show((c.Points.length:Int)==0)=false by rw[beq_eq_false_iff_ne];omega];show bdO (aP 20000 _ 0) _=_;rw[tu (len:=c.Points.length) (bad:=true) (p:=fun i=>!eqL g level (vj c i) x) (by omega) (by omega) ?_ ?_]
   ·have e:(List.range c.Points.length).any (fun i=>eqL g level (vj c i) x)=!((List.range c.Points.length).all fun i=>!eqL g level (vj c i) x):=by
     rw[List.not_all_eq_any_not];simp
    rw[e];cases (List.range c.Points.length).all fun i=>!eqL g level (vj c i) x<;>rfl
   ·intro again k hk;have d1:decide ((k:Int)<(c.Points.length:Int))=true:=by simpa using hk
    have e1:(c.Points.drop ((k:Int)).toNat).take (((c.Points.length:Int)).toNat-((k:Int)).toNat)=c.Points.drop k:=by
     rw[Int.toNat_natCast,Int.toNat_natCast];exact List.take_of_length_le (by rw[List.length_drop];exact Nat.le_refl _)
    have e2:(c.Points.drop ((0:Int)).toNat).take (((k:Int)).toNat-((0:Int)).toNat)=c.Points.take k:=by
     show(c.Points.drop 0).take (((k:Int)).toNat-0)=_;rw[Int.toNat_natCast,Nat.sub_zero,List.drop_zero]
    have l1:(c.Points.drop k).length<=80:=by rw[List.length_drop];omega
    have l2:(c.Points.take k).length<=80:=by rw[List.length_take];omega
    rw[d1,e1,e2,show inS (k:Int) (c.Points.length:Int) c.Points.length=true by simp[inS];omega,show inS 0 (k:Int) c.Points.length=true by simp[inS];omega,
     decide_eq_true (show(c.Points.drop k).length*80<=140737488355328 by omega),decide_eq_true (show(c.Points.drop k).length<=4611686018427387904 by omega),decide_eq_true (show((c.Points.drop k).length+(c.Points.take k).length)*80<=140737488355328 by omega),decide_eq_true (show(c.Points.drop k).length+(c.Points.take k).length<=4611686018427387904 by omega)]
    show bdO (cX 20000 (vj c k) (toL (crR g level) x)) _=_;rw[CD j (fun p hp=>hc p (BV hp)) hx hlen];cases eqL g level (vj c k) x<;>rfl
   ·intro again;have d1:decide ((c.Points.length:Int)<(c.Points.length:Int))=false:=by simp
    rw[d1];rfl
end
end Go.L

