import Derived.Test.YtfclmnpffhbcpaaGreatPldL55x
import Derived.Test.YtfclmnpffhbcpaaGreatPldL55x
set_option linter.all false
namespace Go.L
open Go Go.Eng
theorem EU{n:Nat}{s:List Int}(hl:s.length<=1024)(D:1024<n):fj n s=some (kpZ s s.length):=by
 apply Ok.eq;have a7:kpZ s 1=[s.getD 0 default]:=by simp[kpZ]
 unfold fj;refine Ok.cd (fun h=>aC.2 ?_) (fun h=>?_)
 ·have h:=dcT h;match s,h with
  |[],_=>rfl
  |[a],_=>simp[kpZ]
  |a::b::s,h=>simp at h;omega
 ·have h2:2<=s.length:=by have:=dcF h;omega
  refine Ok.bd (R:=fun o=>match o with|.inl _=>s=kpZ s s.length|.inr r=>r=kpZ s s.length) ?_ (fun o ho=>by cases o<;>exact aC.2 ho);refine ee (fun x:Int=>∃k:Nat,x=k/\1<=k/\k<=s.length/\kpZ s k=s.take k) (fun x=>s.length-x.toNat) ?_ n 1 ⟨1,rfl,by omega,by omega,by rw[a7,wz (by omega)];rfl⟩ (by simp;omega);rintro again x ⟨k,rfl,h1,hk,hP⟩ ih;refine Ok.cd (fun C=>?_) (fun S=>?_)
  ·have C:k<s.length:=by have:=dcT C;omega
   have ek:((k:Int)-1)=((k-1:Nat):Int):=by omega
   rw[wrap64_in (n:=(k:Int)-1) (by omega) (by omega),ek,bm,bm,dQ,dQ];refine Ok.gd (decide_eq_true C) (Ok.gd (decide_eq_true (by omega)) ?_);refine Ok.cd (fun he=>?_) (fun he=>?_)
   ·have he:=beq_iff_eq.1 he;have N:kpZ s (k+1)=s.take k:=by
     rw[kpZ,if_neg (fun h=>h.elim (by omega) (fun h=>h he)),hP]
    refine Ok.gd (by rw[nJ];omega) ?_;have a8:((k:Int)).toNat=k:=by omega
    rw[a8];refine Ok.bd (R:=fun o=>o.1.length=s.length/\(o.2:Int)=((kpZ s s.length).length:Nat)/\o.1.take (kpZ s s.length).length=kpZ s s.length) ?_ ?_
    ·refine ee (fun q:List Int×Int×Int=>∃m:Nat,q.2.2=m/\1<=m/\k+m<=s.length/\q.1.length=s.length/\q.2.1=((kpZ s (k+m)).length:Nat)/\(kpZ s (k+m)).length<=k+m-1/\q.1.take (kpZ s (k+m)).length=kpZ s (k+m)/\∀j,(kpZ s (k+m)).length<=j->q.1.getD j default=s.getD j default) (fun q=>s.length-q.2.2.toNat) ?_ n _ ?_ ?_
     ·rintro a6 ⟨b,x,y⟩ ⟨m,hm,m1,mk,O,T,hle,E,U⟩ Y;dsimp only at hm O T E U;subst hm T;dsimp only;have e1:((s.length-k:Nat):Int)=(s.length:Int)-k:=by omega
      refine Ok.cd (fun I=>?_) (fun J=>?_)
      ·have I:k+m<s.length:=by have:=dcT I;omega
       have em:((m:Int)).toNat=m:=by omega
       have b0:((m:Int)-1)=((m-1:Nat):Int):=by omega
       have Z:(((m-1:Nat):Int)).toNat=m-1:=by omega
       rw[wrap64_in (n:=(m:Int)-1) (by omega) (by omega),b0,em,Z,bm,bm,bm,bm,dQ,dQ];refine Ok.gd (decide_eq_true (by omega)) (Ok.gd (decide_eq_true (by omega)) (Ok.gd (decide_eq_true (by omega)) (Ok.gd (decide_eq_true (by omega)) ?_)));have g1:=U (k+m) (by omega);have g2:=U (k+(m-1)) (by omega);rw[g1,g2];have b1:k+(m-1)=k+m-1:=by omega
       rw[b1];have hw:Hy ((m:Int)+1)=((m+1:Nat):Int):=by rw[wrap64_in (by omega) (by omega)];omega
       rw[hw];clear hw;refine Ok.cd (fun D=>?_) (fun D=>?_)
       ·have D:s.getD (k+m) default≠s.getD (k+m-1) default:=by simpa using D
        have z:kpZ s (k+(m+1))=kpZ s (k+m)++[s.getD (k+m) default]:=by
         rw[<-Nat.add_assoc,kpZ,if_pos (.inr D)]
        have a1:Hy ((((kpZ s (k+m)).length:Nat):Int)+1)=(((kpZ s (k+m)).length+1:Nat):Int):=by rw[wrap64_in (by omega) (by omega)];omega
        rw[a1];clear a1;refine Ok.gd (decide_eq_true (by omega)) ?_;have en:((((kpZ s (k+m)).length:Nat):Int)).toNat=(kpZ s (k+m)).length:=by omega
        rw[en];refine Y _ ⟨m+1,rfl,by omega,by omega,by simpa using O,by rw[z];simp,by rw[z];simp;omega,?_,?_⟩ ?_
        ·dsimp only;rw[z,List.length_append,List.length_singleton,wz (by simp;omega),List.take_set_of_le (by omega),E];congr 1;rw[List.getD_eq_getElem?_getD,List.getElem?_set,if_pos rfl,O,if_pos (by omega)];rfl
        ·intro j hj;dsimp only;rw[z]at hj;simp only[List.length_append,List.length_singleton]at hj;have:=U j (by omega);simp only[List.getD,List.getElem?_set,if_neg (by omega:¬(kpZ s (k+m)).length=j)]at this ⊢;exact this
        ·show s.length-((m+1:Nat):Int).toNat<s.length-((m:Int)).toNat;omega
       ·have D:s.getD (k+m) default=s.getD (k+m-1) default:=by simpa using D
        have z:kpZ s (k+(m+1))=kpZ s (k+m):=by
         rw[<-Nat.add_assoc,kpZ,if_neg (fun h=>h.elim (by omega) (fun h=>h D))]
        refine Y _ ⟨m+1,rfl,by omega,by omega,O,by rw[z],by rw[z];omega,by rw[z];exact E,by rw[z];exact U⟩ ?_;show s.length-((m+1:Nat):Int).toNat<s.length-((m:Int)).toNat;omega
      ·have J:=dcF J;have e:k+m=s.length:=by omega
       rw[e]at E;refine aC.2 ⟨O,?_,E⟩;dsimp only;rw[e]
     ·exact⟨1,rfl,by omega,by omega,rfl,by show(k:Int)=_;rw[N,List.length_take,Nat.min_eq_left (by omega)],by rw[N,List.length_take];omega,by rw[N,List.length_take,Nat.min_eq_left (by omega)],fun j hj=>rfl⟩
     ·show s.length-1<n;omega
    ·rintro⟨b,x⟩ ⟨O,T,E⟩;dsimp only at O T E;subst T;dsimp only;have z:=zE (s:=s) s.length;refine Ok.gd (by rw[nJ];omega) (Ok.gd (by rw[nJ];omega) (aC.2 ?_));have en:((((kpZ s s.length).length:Nat):Int)).toNat=(kpZ s s.length).length:=by omega
     rw[en,Ax (by simp;omega)];show List.take _ _=_;rw[List.append_assoc,List.take_append_of_le_length (by rw[List.length_take];omega),List.take_take,Nat.min_self];exact E
   ·have he:=beq_eq_false_iff_ne.1 he;have hw:Hy ((k:Int)+1)=((k+1:Nat):Int):=by rw[wrap64_in (by omega) (by omega)];omega
    rw[hw];clear hw;refine ih _ ⟨k+1,rfl,by omega,by omega,?_⟩ (by omega);rw[kpZ,if_pos (.inr he),hP,wz C]
  ·have S:=dcF S;have e:k=s.length:=by omega
   subst e;refine aC.2 ?_;show s=_;rw[hP,List.take_length]
def vq(N u b:Int):Bool:=decide (b>0)&&decide (b<N*u)
def bnd(u z x:Int):List Int:=[x*u-2*z,x*u+2*z]
def mk0(N u z:Int)(xs:List Int):List Int:=[0,N*u]++xs.flatMap fun x=>(bnd u z x).filter (vq N u)
def mk1(N u z:Int)(xs:List Int):List Int:=kpZ (sI (mk0 N u z xs)) (sI (mk0 N u z xs)).length
def kI(l:List Int):List Int:=(List.range (l.length-1)).map fun i=>(l.getD i default+l.getD (i+1) default) / 2
def axM(N u z:Int)(xs:List Int):List Int:=sI (mk1 N u z xs++kI (mk1 N u z xs))
def mw(u z x m:Int):Bool:=decide (m-x*u<=2*z)&&decide (-(m-x*u)<=2*z)
def GV(u z:Int)(xs:List Int)(m:Int):Nat:=nc (fun k=>mw u z (xs.getD k default) m) xs.length
def BE(u z:Int)(xs:List Int)(m:Int):A4 Int:=A4.mk ((GV u z xs m:Nat):Int) 0 0 0
structure yh (N F z:Int) (xs:List Int):Prop where
 n:1<=N/\N<=1048576
 f:1<=F/\F<=1048576
 z:0<=z/\z<=2199023255552
 l:xs.length<=12
 x:∀x∈xs,-1048576<=x/\x<=1048576
theorem yh.nu{N F z:Int}{xs:List Int}(h:yh N F z xs):0<N*(4*F)/\N*(4*F)<=4398046511104:=by
 have:=h.n;have:=h.f;refine⟨Int.mul_pos (by omega) (by omega),?_⟩;have:=(ln (a:=N) (b:=4*F) (A:=1048576) (B:=4194304) (by omega) (by omega) (by omega) (by omega)).2;omega
theorem yh.xu{N F z:Int}{xs:List Int}(h:yh N F z xs){x:Int}(j:x∈xs):-4398046511104<=x*(4*F)/\x*(4*F)<=4398046511104:=by
 have:=h.x x j;have:=h.f;have:=ln (a:=x) (b:=4*F) (A:=1048576) (B:=4194304) (by omega) (by omega) (by omega) (by omega);omega
theorem zR(N u z:Int):∀(xs:List Int),(mk0 N u z xs).length<=2+2*xs.length:=by
 intro xs;unfold mk0;rw[List.length_append];have:(xs.flatMap fun x=>(bnd u z x).filter (vq N u)).length<=2*xs.length:=by
  induction xs with
  |nil=>simp
  |cons x xs j=>
   rw[List.flatMap_cons,List.length_append,List.length_cons];have:=List.length_filter_le (vq N u) (bnd u z x);have:(bnd u z x).length=2:=rfl;omega
 have:[0,N*u].length=2:=rfl;omega
theorem Bu{N u z:Int}{xs:List Int}(h:0<=N*u){m:Int}(hm:m∈mk0 N u z xs):0<=m/\m<=N*u:=by
 unfold mk0 at hm;rcases List.mem_append.1 hm with hm|hm
 ·simp at hm;omega
 ·obtain⟨x,_,j⟩:=List.mem_flatMap.1 hm;have:=(List.mem_filter.1 j).2;unfold vq at this;simp at this;omega
theorem AT{n:Nat}{l:List Int}(h:l.length<=1000):fh n l=some (sI l):=by
 unfold fh;have:decide (l.length<4611686018427387904)=true:=decide_eq_true (by omega);rw[this];rfl
theorem uO{l:List Int}{x:Int}:x∈sI l↔x∈l:=(qJ l).mem_iff
theorem qP(l:List Int):(sI l).length=l.length:=(qJ l).length_eq
theorem EN(l:List Int):(sI l).Pairwise fun a b=>a<=b:=(zL l).imp fun h=>dcT h
theorem Br(N u z:Int)(xs:List Int):(mk1 N u z xs).Pairwise (fun a b=>a<b)/\∀x,x∈mk1 N u z xs↔x∈mk0 N u z xs:=by
 obtain⟨h1,j,_⟩:=D5 (EN (mk0 N u z xs)) (sI (mk0 N u z xs)).length (Nat.le_refl _);refine⟨h1,fun x=>?_⟩;unfold mk1;rw[j,List.take_length,uO]
theorem Cz(N u z:Int)(xs:List Int):(mk1 N u z xs).length<=2+2*xs.length:=by
 unfold mk1;have h1:=zE (s:=sI (mk0 N u z xs)) (sI (mk0 N u z xs)).length;have j:=zR N u z xs;rw[qP]at h1 ⊢;omega
theorem Fu(N u z:Int)(xs:List Int):0<(mk1 N u z xs).length:=by
 unfold mk1;refine Co _ ?_;rw[qP];unfold mk0;simp
theorem Ef{l:List Int}{c:Int}(h:∀m∈l,0<=m/\m<=c):∀m∈kI l,0<=m/\m<=c:=by
 intro m hm;unfold kI at hm;obtain⟨i,hi,rfl⟩:=List.mem_map.1 hm;rw[List.mem_range]at hi;have h1:=h _ (sE (l:=l) (k:=i) (by omega));have j:=h _ (sE (l:=l) (k:=i+1) (by omega));omega
theorem BL{N F z:Int}{xs:List Int}(h:yh N F z xs):∀m∈axM N (4*F) z xs,0<=m/\m<=N*(4*F):=by
 have h1:∀m∈mk1 N (4*F) z xs,0<=m/\m<=N*(4*F):=fun m hm=>Bu (by have:=h.nu;omega) (((Br ..).2 m).1 hm)
 intro m hm;rcases List.mem_append.1 (uO.1 hm)with hm|hm
 ·exact h1 m hm
 ·exact Ef h1 m hm
theorem zf(N u z:Int)(xs:List Int):(axM N u z xs).length<=4+4*xs.length:=by
 unfold axM kI;rw[qP,List.length_append,List.length_map,List.length_range];have:=Cz N u z xs;omega
theorem getD_map{α β:Type}[Inhabited α][Inhabited β]{f:α->β}{l:List α}{k:Nat}(h:k<l.length):(l.map f).getD k default=f (l.getD k default):=by
 simp[List.getD,geT h]
theorem DP{n:Nat}(hn:2000<=n){N F z:Int}{xs:List Int}(h:yh N F z xs):oV n N F z xs=some (axM N (4*F) z xs,(axM N (4*F) z xs).map (BE (4*F) z xs)):=by
 have hN:=h.n;have hF:=h.f;have hz:=h.z;have hl:=h.l;have b3:=h.nu;have l0:=zR N (4*F) z xs;have l1:=Cz N (4*F) z xs;have p1:=Fu N (4*F) z xs;have lM:=zf N (4*F) z xs;have U:∀m∈mk1 N (4*F) z xs,0<=m/\m<=N*(4*F):=fun m hm=>Bu (by omega) (((Br ..).2 m).1 hm)
 have a7:=BL h;apply Ok.eq;unfold oV;rw[wrap64_in (n:=4*F) (by omega) (by omega),wrap64_in (n:=2*z) (by omega) (by omega),wrap64_in (n:=N*(4*F)) (by omega) (by omega)];refine Ok.bd (R:=fun o=>o=mk0 N (4*F) z xs) ?_ ?_
 ·refine eh (len:=xs.length) (fun k (c:List Int)=>c=mk0 N (4*F) z (xs.take k)) (by omega) (by omega) (by simp[mk0]) ?_ ?_
  ·rintro again k c hk rfl Y;refine Ok.cd (fun _=>Ok.gd (by rw[bm];simpa using hk) ?_) (fun h=>by simp at h;omega);have hx:=h.xu (sE hk);have lk:=zR N (4*F) z (xs.take k);have b4:(xs.take k).length=k:=by rw[List.length_take];omega
   rw[dQ,wrap64_in (n:=xs.getD k default*(4*F)) (by omega) (by omega),wrap64_in (n:=xs.getD k default*(4*F)-2*z) (by omega) (by omega),wrap64_in (n:=xs.getD k default*(4*F)+2*z) (by omega) (by omega)];refine Ok.bd (R:=fun o=>o=mk0 N (4*F) z (xs.take (k+1))) ?_ (fun o ho=>Y _ ho);have a8:(bnd (4*F) z (xs.getD k default)).length=2:=rfl;show Ok (aV (α:=List Int×Int) (β:=List Int) n (fun again s=>match s with
    |(D,E)=>cdO (decide (E<2)) (gdO (inR E (bnd (4*F) z (xs.getD k default)).length) (bdO (some (gt (bnd (4*F) z (xs.getD k default)) E)) fun O=>(cdO (decide (O>0)) (cdO (decide (O<N*(4*F))) (gdO (decide ((D.length+1)*8<=140737488355328)) (gdO (decide (D.length+1<=4611686018427387904)) (again (D++[O],Hy (E+1))))) (again (D,Hy (E+1)))) (again (D,Hy (E+1)))))) (some (D))) (mk0 N (4*F) z (xs.take k),0)) _
   generalize Z:bnd (4*F) z (xs.getD k default)=S at a8;have a1:mk0 N (4*F) z (xs.take (k+1))=mk0 N (4*F) z (xs.take k)++S.filter (vq N (4*F)):=by
    unfold mk0;rw[wz hk,List.flatMap_append,List.append_assoc];congr 2;simp only[List.flatMap_cons,List.flatMap_nil,List.append_nil];rw[Z]
   rw[a1];refine eh (len:=2) (fun j (c:List Int)=>c=mk0 N (4*F) z (xs.take k)++(S.take j).filter (vq N (4*F))) (by omega) (by omega) (by simp) ?_ ?_
   ·rintro I j c T rfl J;have lf:=List.length_filter_le (vq N (4*F)) (S.take j);have b5:(S.take j).length<=2:=by rw[List.length_take];omega
    refine Ok.cd (fun _=>Ok.gd (by rw[bm];simp;omega) ?_) (fun h=>by simp at h;omega);rw[dQ];refine Ok.bde rfl ?_;have hs:(S.take (j+1)).filter (vq N (4*F))=(S.take j).filter (vq N (4*F))++[S.getD j default].filter (vq N (4*F)):=by rw[wz (by omega),List.filter_append]
    refine Ok.cd (fun h1=>Ok.cd (fun h2=>?_) (fun h2=>?_)) (fun h1=>?_)
    ·refine Ok.gd (decide_eq_true (by rw[List.length_append];omega)) (Ok.gd (decide_eq_true (by rw[List.length_append];omega)) (J _ ?_));rw[hs,List.filter_cons_of_pos (by unfold vq;rw[h1,h2];rfl),List.filter_nil,List.append_assoc]
    ·refine J _ ?_;rw[hs,List.filter_cons_of_neg (by unfold vq;rw[h1,h2];decide),List.filter_nil,List.append_nil]
    ·refine J _ ?_;rw[hs,List.filter_cons_of_neg (by unfold vq;rw[h1];simp),List.filter_nil,List.append_nil]
   ·rintro I c rfl;refine Ok.cd (fun h=>by simp at h) (fun _=>aC.2 ?_);rw[show S.take 2=S from List.take_of_length_le (by omega)]
  ·rintro again c rfl;exact Ok.cd (fun h=>by simp at h) (fun _=>aC.2 (by rw[List.take_length]))
 ·rintro o rfl;refine Ok.bde (AT (by omega)) (Ok.gd (decide_eq_true (qP _)) ?_);refine Ok.bde (b:=mk1 N (4*F) z xs) (EU (by rw[qP];omega) (by omega)) ?_;refine Ok.bd (R:=fun o=>o=mk1 N (4*F) z xs++kI (mk1 N (4*F) z xs)) ?_ ?_
  ·rw[wrap64_in (n:=((mk1 N (4*F) z xs).length:Int)-1) (by omega) (by omega)];generalize mk1 N (4*F) z xs=C at*;refine eh (len:=C.length-1) (fun k (c:List Int)=>c=C++(kI C).take k) (by omega) (by omega) (by simp) ?_ ?_
   ·rintro again k c hk rfl Y;have b6:(kI C).length=C.length-1:=by simp[kI]
    have c1:(C++(kI C).take k).getD k default=C.getD k default:=by simp only[List.getD];rw[List.getElem?_append_left (by omega)]
    have c2:(C++(kI C).take k).getD (k+1) default=C.getD (k+1) default:=by simp only[List.getD];rw[List.getElem?_append_left (by omega)]
    have hlen:(C++(kI C).take k).length=C.length+k:=by rw[List.length_append,List.length_take];omega
    have i1:=U _ (sE (l:=C) (k:=k) (by omega));have i2:=U _ (sE (l:=C) (k:=k+1) (by omega));refine Ok.cd (fun _=>?_) (fun h=>by have:=dcF h;omega);have step:=Y (C++(kI C).take (k+1)) rfl;have hw:Hy ((k:Int)+1)=((k+1:Nat):Int):=GX (by omega);rw[hw]at step ⊢;clear hw;rw[bm,bm,dQ,dQ,c1,c2,hlen];refine Ok.gd (decide_eq_true (by omega)) (Ok.gd (decide_eq_true (by omega)) (Ok.gd (decide_eq_true (by omega)) (Ok.gd (decide_eq_true (by omega)) ?_)));rw[wrap64_in (n:=C.getD k default+C.getD (k+1) default) (by omega) (by omega),Int.tdiv_eq_ediv_of_nonneg (by omega),wrap64_in (by omega) (by omega)];have e:(kI C).take (k+1)=(kI C).take k++[(C.getD k default+C.getD (k+1) default) / 2]:=by
     rw[wz (by omega)];congr 2;unfold kI;simp[List.getD,hk]
    rw[e,<-List.append_assoc]at step;exact step
   ·rintro again c rfl;refine Ok.cd (fun h=>by have:=dcT h;omega) (fun _=>aC.2 ?_);rw[List.take_of_length_le (by simp[kI])]
  ·rintro o rfl;have a6:(mk1 N (4*F) z xs++kI (mk1 N (4*F) z xs)).length=(axM N (4*F) z xs).length:=by unfold axM;rw[qP]
   refine Ok.bde (b:=axM N (4*F) z xs) (AT (by omega)) (Ok.gd (decide_eq_true a6.symm) ?_);rw[a6];refine Ok.gd (decide_eq_true (by omega)) (Ok.gd (decide_eq_true (by omega)) (Ok.gd (decide_eq_true (by omega)) ?_));generalize axM N (4*F) z xs=M at*;have eM:((M.length:Int)).toNat=M.length:=by omega
   rw[eM];refine Ok.bd (R:=fun o=>o=M.map (BE (4*F) z xs)) ?_ (fun o ho=>aC.2 (by rw[ho]));refine eh (len:=M.length) (fun k (c:List (A4 Int))=>c.length=M.length/\(∀j,j<k->c.getD j default=BE (4*F) z xs (M.getD j default))/\(∀j,k<=j->j<M.length->c.getD j default=A4.mk 0 0 0 0)) (by omega) (by omega) ⟨by simp,fun j T=>by omega,fun j _ T=>by simp[List.getD,T]⟩ ?_ ?_
   ·rintro again k c hk ⟨c1,c2,c3⟩ Y;refine Ok.cd (fun _=>Ok.gd (by rw[bm];simpa using hk) ?_) (fun h=>by simp at h;omega);have hm:=a7 _ (sE hk);rw[dQ];generalize b0:M.getD k default=m at hm;refine Ok.bd (R:=fun o=>o.length=M.length/\o.getD k default=BE (4*F) z xs m/\∀j,j≠k->o.getD j default=c.getD j default) ?_ ?_
    ·refine eh (len:=xs.length) (fun i (d:List (A4 Int))=>d.length=M.length/\d.getD k default=A4.mk ((nc (fun q=>mw (4*F) z (xs.getD q default) m) i:Nat):Int) 0 0 0/\∀j,j≠k->d.getD j default=c.getD j default) (by omega) (by omega) ⟨c1,c3 k (Nat.le_refl _) hk,fun j _=>rfl⟩ ?_ ?_
     ·rintro I i d hi ⟨d1,d2,d3⟩ J;refine Ok.cd (fun _=>Ok.gd (by rw[bm];simpa using hi) ?_) (fun h=>by simp at h;omega);have hx:=h.xu (sE hi);rw[dQ,wrap64_in (n:=xs.getD i default*(4*F)) (by omega) (by omega),wrap64_in (n:=m-xs.getD i default*(4*F)) (by omega) (by omega)];refine Ok.bde rfl ?_;rw[wrap64_in (n:=0-(m-xs.getD i default*(4*F))) (by omega) (by omega)];have b1:Ok (cdO (decide (m-xs.getD i default*(4*F)<=2*z)) (some (decide (0-(m-xs.getD i default*(4*F))<=2*z))) (some false)) fun o=>o=mw (4*F) z (xs.getD i default) m:=by
       unfold mw;refine Ok.cd (fun h=>aC.2 ?_) (fun h=>aC.2 ?_)
       ·rw[h,Int.zero_sub];rfl
       ·rw[h];rfl
      refine Ok.bd b1 ?_;rintro o rfl;refine Ok.cd (fun Z=>?_) (fun Z=>?_)
      ·have t1:((i:Int)).tdiv 64=0:=by
        rw[Int.tdiv_eq_ediv_of_nonneg (by omega)];omega
       have t2:((i:Int)).tmod 64=(i:Int):=by
        rw[Int.tmod_eq_emod_of_nonneg (by omega)];omega
       rw[t1,t2,show Hy 0=0 from rfl,bm,dQ,d2];refine Ok.gd (decide_eq_true (by omega)) (Ok.gd (by rw[iH];omega) (Ok.gd (decide_eq_true (by omega)) ?_));have ek:((k:Int)).toNat=k:=by omega
       have g:A4.get (A4.mk ((nc (fun q=>mw (4*F) z (xs.getD q default) m) i:Nat):Int) 0 0 0) 0=((nc (fun q=>mw (4*F) z (xs.getD q default) m) i:Nat):Int):=rfl;rw[ek,g,Hs (by omega) (su _ i)];refine J _ ⟨by simpa using d1,?_,fun j T=>?_⟩
       ·rw[nc,Z,if_pos rfl,List.getD_eq_getElem?_getD,List.getElem?_set,if_pos rfl,if_pos (by omega)];rfl
       ·have:=d3 j T;simp only[List.getD,List.getElem?_set,if_neg (fun e=>T (Eq.symm e):¬k=j)]at this ⊢;exact this
      ·refine J _ ⟨d1,?_,d3⟩;rw[nc,Z];exact d2
     ·rintro I d ⟨d1,d2,d3⟩;exact Ok.cd (fun h=>by simp at h) (fun _=>aC.2 ⟨d1,d2,d3⟩)
    ·rintro o ⟨o1,o2,o3⟩;refine Y _ ⟨o1,fun j T=>?_,fun j T b2=>?_⟩
     ·by_cases e:j=k
      ·subst e;rw[o2,b0]
      ·rw[o3 j e];exact c2 j (by omega)
     ·rw[o3 j (by omega)];exact c3 j (by omega) b2
   ·rintro again c ⟨c1,c2,_⟩;refine Ok.cd (fun h=>by simp at h) (fun _=>aC.2 ?_);apply List.ext_getElem
    ·simp[c1]
    ·intro j h1 h2;have:=c2 j (by omega);rw[List.getElem_map];simpa [List.getD,geT h1,geT (show j<M.length by omega)]using this
end Go.L


set_option linter.all false
namespace Go.L
open Go Go.Eng
theorem Fy{n:Nat}{k:Nat}(hk:k<=1000):ch n (k:Int)=some []:=by
 apply Ok.eq;unfold ch;rw[Int.sub_zero,wrap64_in (by omega) (by omega)];refine Ok.gd (by rw[decide_eq_false (by omega)];rfl) (Ok.cd (fun h=>?_) (fun _=>aC.2 rfl));have h:=dcT h;refine Ok.gd (decide_eq_true (by omega)) (Ok.gd (decide_eq_true (by omega)) (Ok.gd (decide_eq_true (by omega)) (Ok.gd (by rw[nJ];omega) (aC.2 ?_))));rfl
def nf(cnt:Int->Int->Int)(m:Int)(L:List Int)(c:Int×Int×Int):Int×Int×Int:=L.foldl (fun c m'=>if cnt m m'<c.1 then(cnt m m',m,m')else c) c
def kU(cnt:Int->Int->Int)(L L':List Int)(c:Int×Int×Int):Int×Int×Int:=L.foldl (fun c m=>nf cnt m L' c) c
theorem AQ{cnt:Int->Int->Int}{m:Int}:∀(L:List Int) (c:Int×Int×Int),nf cnt m L c=c\/∃m',m'∈L/\nf cnt m L c=(cnt m m',m,m')
 |[],c=>.inl rfl
 |a::L,c=>by
  unfold nf;rw[List.foldl_cons];have h:=AQ (cnt:=cnt) (m:=m) L (if cnt m a<c.1 then(cnt m a,m,a)else c);unfold nf at h;rcases h with h|⟨m',h1,j⟩
  ·rw[h];split
   ·exact .inr ⟨a,by simp,rfl⟩
   ·exact .inl rfl
  ·exact .inr ⟨m',List.mem_cons_of_mem _ h1,j⟩
theorem An{cnt:Int->Int->Int}{L':List Int}:∀(L:List Int) (c:Int×Int×Int),kU cnt L L' c=c\/∃m m',m∈L/\m'∈L'/\kU cnt L L' c=(cnt m m',m,m')
 |[],c=>.inl rfl
 |a::L,c=>by
  unfold kU;rw[List.foldl_cons];have h:=An (cnt:=cnt) (L':=L') L (nf cnt a L' c);unfold kU at h;rcases h with h|⟨m,m',h1,j,q⟩
  ·rw[h];rcases AQ (cnt:=cnt) (m:=a) L' c with h|⟨m',h1,j⟩
   ·exact .inl h
   ·exact .inr ⟨a,m',by simp,h1,j⟩
  ·exact .inr ⟨m,m',List.mem_cons_of_mem _ h1,j,q⟩
def mW(P:List aE)(u j q:Int)(m m':Int):Int:=((P.countP fun p=>mw u j p.X m&&mw u q p.Y m':Nat):Int)
theorem uK{α:Type}[Inhabited α](q:α->Bool):∀(l:List α),(List.range l.length).countP (fun k=>q (l.getD k default))=l.countP q
 |[]=>rfl
 |a::l=>by
  rw[List.length_cons,List.range_succ_eq_map,List.countP_cons,List.countP_map,List.countP_cons];have:=uK q l;have e:((fun k=>q ((a::l).getD k default))∘Nat.succ)=fun k=>q (l.getD k default):=by funext k;rfl
  rw[e,this];rfl
theorem GI{n:Nat}(C:10<n){P:List aE}(z:P.length<=12)(u j q m m':Int):mi n (BE u j (P.map (·.X)) m) (BE u q (P.map (·.Y)) m')=some (mW P u j q m m'):=by
 unfold BE GV;rw[List.length_map,List.length_map];have E:=su (fun k=>mw u j ((P.map (·.X)).getD k default) m) P.length;have I:=su (fun k=>mw u q ((P.map (·.Y)).getD k default) m') P.length;have hp:2^P.length<=2^12:=Nat.pow_le_pow_right (by omega) z;have D:(2:Nat)^12=4096:=rfl;rw[DC C (by omega) (by omega),Du _ _ z];unfold mW;congr 2;refine(List.countP_congr fun k hk=>?_).trans (uK (fun p=>mw u j p.X m&&mw u q p.Y m') P);rw[getD_map (List.mem_range.1 hk),getD_map (List.mem_range.1 hk)]
end Go.L

