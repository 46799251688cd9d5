import Derived.Test.YtfhhaadcodofnaaGreatChkL51sd
import Derived.Test.YtfhhaadcodofnaaGreatChkL51c
import Derived.Test.YtfhhaadcodofnaaGreatChkL51sd
import Derived.Test.YtfhhaadcodofnaaGreatChkLD
import Derived.Test.YtfhhaadcodofnaaGreatPl6Chks
import Derived.Sort.AssemblyPlain
set_option linter.all false
namespace Go.L
open Go Go.Eng
section
variable{g:an}{level:Int}{w h:Nat}
end
end Go.L


set_option linter.all false
namespace Go.L
open Go Go.Eng
section
variable{S:List (K2×K2)}
theorem BX:∀{l m:List K2},l.Nodup->(∀x∈l,x∈m)->l.length<=m.length
 |[],_,_,_=>Nat.zero_le _
 |x::l,m,j,hs=>by
  rw[List.nodup_cons]at j;have hx:=hs x (by simp);have:=BX (m:=m.erase x) j.2 fun y q=>(List.mem_erase_of_ne (fun(e:y=x)=>j.1 (by rw[<-e];exact q))).2 (hs y (List.mem_cons_of_mem _ q))
  rw[List.length_erase_of_mem hx]at this;have:0<m.length:=List.length_pos_of_mem hx;rw[List.length_cons];omega
theorem Eg{l m:List K2}(q:l.Nodup)(hs:∀x∈l,x∈m)(z:m.length<=l.length):∀x∈m,x∈l:=by
 intro y j;apply Classical.byContradiction;intro hc;have:=BX (m:=m.erase y) q fun x hx=>(List.mem_erase_of_ne (fun(e:x=y)=>hc (by rw[<-e];exact hx))).2 (hs x hx)
 rw[List.length_erase_of_mem j]at this;have:0<m.length:=List.length_pos_of_mem j;omega
theorem FC(hp:S.Pairwise Rq)(E:S.length<=60){cr:K2->ah}:∀(L pre:List K2) (c:List (K2×Bool)×List aa),Op S cr pre c->(pre.flatMap (path S)).Nodup->(pre++L).Nodup->(∀e∈L,isS S e)->
  ∃O,Op S cr (pre++L) O/\((pre++L).flatMap (path S)).Nodup
 |[],pre,c,h,m,_,_=>by rw[List.append_nil];exact⟨c,h,m⟩
 |e::L,pre,c,h,m,I,hs=>by
  have j:e∉pre:=fun k=>(List.nodup_append.1 I).2.2 _ k _ (by simp) rfl
  obtain⟨hd,J,hO⟩:=h.step hp E (hs e (by simp)) j;have q:((pre++[e]).flatMap (path S)).Nodup:=by
   rw[List.flatMap_append,List.flatMap_cons,List.flatMap_nil,List.append_nil];refine List.nodup_append.2 ⟨m,?_,fun x hx y N z=>?_⟩
   ·rw[<-J];exact AN 100 _ e
   ·subst z;rw[<-J]at N;have h1:=zI 100 _ e x N;obtain⟨T,C,D⟩:=List.mem_flatMap.1 hx;rw[(h.mem x).2 ⟨T,C,D⟩]at h1;cases h1
  have:=FC hp E L (pre++[e]) _ hO q (by rw[List.append_assoc];exact I) fun x hx=>hs x (List.mem_cons_of_mem _ hx)
  rw[List.append_assoc]at this;exact this
theorem EL(hp:S.Pairwise Rq){e:K2}(h:e∈opK S):isS S e:=by
 have:=(List.mem_filter.1 h).2;unfold opn bk at this;exact um hp (by simpa using this)
theorem IG(hp:S.Pairwise Rq):(stK S).Nodup:=by
 unfold stK;refine(wR _ _).nodup_iff.2 ?_;unfold List.Nodup;rw[List.pairwise_map];exact hp.imp fun h=>h.1
theorem A8(hp:S.Pairwise Rq)(j:S.length<=60):Cl S (dnK S)/\((opK S).flatMap (path S)).Nodup:=by
 obtain⟨c,h1,h2⟩:=FC hp j (cr:=fun _=>default) (opK S) [] ([],[]) C3 .nil (by rw[List.nil_append];exact(IG hp).sublist List.filter_sublist) fun e he=>EL hp he
 rw[List.nil_append]at h1 h2;refine⟨?_,h2⟩;rw[<-h1.HZ fun _=>Iff.rfl];exact h1.cl
theorem E8(hp:S.Pairwise Rq)(hS:S.length<=60):Led S (dnK S):=by
 obtain⟨hC,-⟩:=A8 hp hS;let T:=S.filter fun q=>!dnK S q.1
 have Y:∀q∈T,q∈S/\dnK S q.1=false:=fun q D=>by
  have:=List.mem_filter.1 D;exact⟨this.1,by simpa using this.2⟩
 have pT:T.Pairwise Rq:=hp.sublist List.filter_sublist;have n1:(T.map (·.1)).Nodup:=by unfold List.Nodup;rw[List.pairwise_map];exact pT.imp fun h=>h.1
 have nx:∀q∈S,nxt S q.1=q.2:=fun q D=>xL (hp.imp fun h=>h.1) D
 have sub:∀x∈T.map (·.1),x∈T.map (·.2):=by
  intro x hx;obtain⟨q,D,rfl⟩:=List.mem_map.1 hx;obtain⟨I,hd⟩:=Y q D;have J:q.1∉opK S:=fun k=>by
   have:dnK S q.1=true:=Al.2 ⟨q.1,k,by obtain⟨t,ht⟩:=oF (S:=S) (e:=q.1);rw[ht];simp⟩;rw[this]at hd;cases hd
  have N:q.1∈stK S:=tm.2 (jA.2 ⟨q,I,rfl⟩);have hb:getM false (bk S) q.1=true:=by
   cases hc:getM false (bk S) q.1 with
   |true=>rfl
   |false=>exact absurd (List.mem_filter.2 ⟨N,by unfold opn;rw[hc];rfl⟩) J
  have hm:∃p∈bk S,p.1=q.1:=by
   apply Classical.byContradiction;intro hc;have:de (bk S) q.1=false:=by
    cases hk:de (bk S) q.1 with
    |false=>rfl
    |true=>exact absurd (jA.1 hk) hc
   rw[getM_none this]at hb;cases hb
  obtain⟨p,E,C⟩:=hm;unfold bk at E;obtain⟨j,m,rfl⟩:=List.mem_map.1 E;have C:j.2=q.1:=C;refine List.mem_map.2 ⟨j,List.mem_filter.2 ⟨m,?_⟩,C⟩;have O:de S j.1=true:=jA.2 ⟨j,m,rfl⟩;have:=hC j.1 O;rw[show getM (A2.mk 0 0) S j.1=q.1 by rw[<-C];exact nx j m,hd]at this;cases hc:dnK S j.1 with
  |false=>rfl
  |true=>have:=this.1 hc;cases this
 have all:=Eg n1 sub (by rw[List.length_map,List.length_map];exact Nat.le_refl _);intro x hx hd;obtain⟨q,D,rfl⟩:=jA.1 hx;have U:q∈T:=List.mem_filter.2 ⟨D,by rw[hd];rfl⟩;obtain⟨j,m,e⟩:=List.mem_map.1 (all q.2 (List.mem_map.2 ⟨q,U,rfl⟩));obtain⟨a,b⟩:=Y j m;rw[nx q D,<-e];exact⟨jA.2 ⟨j,a,rfl⟩,b⟩
where
 getM_none {κ α:Type} [DecidableEq κ] {z:α} {x:κ}:∀{l:List (κ×α)},de l x=false->getM z l x=z:=by
  intro l;induction l with
  |nil=>intro _;rfl
  |cons p l ih=>
   intro h;unfold de at h;unfold getM;simp_all;rw[show(x==p.1)=false by simpa using h.1];rfl
end
end Go.L


set_option linter.all false
namespace Go.L
open Go Go.Eng
abbrev R2:=Rat×Rat
def cr3(a b p:R2):Rat:=crQ (a.1-p.1) (a.2-p.2) (b.1-p.1) (b.2-p.2)
def on3(a b p:R2):Bool:=onQ (a.1-p.1) (a.2-p.2) (b.1-p.1) (b.2-p.2)
structure NM (a b c d:R2):Prop where
 hx:¬(cr3 a b c*cr3 a b d<0/\cr3 c d a*cr3 c d b<0)
 hc:on3 a b c=false
 hd:on3 a b d=false
 ha:on3 c d a=false
 hb:on3 c d b=false
theorem NM.symm{a b c d:R2}(h:NM a b c d):NM c d a b:=⟨fun k=>h.hx ⟨k.2,k.1⟩,h.ha,h.hb,h.hc,h.hd⟩
end Go.L


set_option linter.all false
namespace Go.L
open Go Go.Eng
section
variable{w:Nat}{Z:List Int}
theorem d1{a:Nat}:((((a+1:Nat):Int)-(a:Int):Int):Rat)=1:=by rw[show(((a+1:Nat):Int)-(a:Int):Int)=1 by omega,Rat.intCast_one]
end
end Go.L


set_option linter.all false
namespace Go.L
open Go Go.Eng
section
variable{w:Nat}{Z:List Int}
def Dis(l1 l2:Int)(j m:K2×K2):Prop:=l1=l2->j≠m/\∀e,(e=j.1\/e=j.2)->¬(e=m.1\/e=m.2)
theorem Dis.symm{l1 l2:Int}{j m:K2×K2}(h:Dis l1 l2 j m):Dis l2 l1 m j:=fun e=>⟨fun k=>(h e.symm).1 k.symm,fun x hx q=>(h e.symm).2 x q hx⟩
end
end Go.L


set_option linter.all false
namespace Go.L
open Go Go.Eng
section
variable{g:an}{level:Int}{w h:Nat}
end
end Go.L


set_option linter.all false
namespace Go.L
open Go Go.Eng
section
open Go.Sort
variable{α:Type}[Inhabited α]
def Pm(d j:Array α):Prop:=j.size=d.size/\j.toList.Perm d.toList
omit [Inhabited α] in
theorem Pm.refl(d:Array α):Pm d d:=⟨rfl,List.Perm.refl _⟩
omit [Inhabited α] in
theorem Pm.trans{d e f:Array α}(h:Pm d e)(k:Pm e f):Pm d f:=⟨k.1.trans h.1,k.2.trans h.2⟩
theorem B4{d j:Array α}{a b:Nat}(hb:b<=d.size)(h:PermIn a b d j):Pm d j:=by
 obtain⟨h1,-,m⟩:=permIn_mono d j a b 0 d.size (Nat.zero_le _) hb (Nat.le_refl _) h;refine⟨h1,?_⟩;have e1:d.extract 0 d.size=d:=by simp
 have e2:j.extract 0 d.size=j:=by rw[<-h1];simp
 rw[e1,e2]at m;exact m
theorem uz{d:Array α}{i j:Nat}(m:i<d.size)(q:j<d.size):Pm d (swp d i j):=
 B4 (Nat.le_refl _) (swp_permIn d 0 d.size i j (Nat.zero_le _) m (Nat.zero_le _) q (Nat.le_refl _))
theorem xg(lt:α->α->Bool)(a:Nat):∀(j:Nat) (d:Array α),j<d.size->Pm d (insInner lt a j d)
 |0,d,_=>Pm.refl d
 |j+1,d,h=>by
  unfold insInner;split
  ·have hs:=uz (d:=d) h (show j<d.size by omega);exact hs.trans (xg lt a j _ (by rw[hs.1];omega))
  ·exact Pm.refl d
theorem Ci(lt:α->α->Bool)(a b:Nat):∀(n i:Nat) (d:Array α),b-i<=n->b<=d.size->Pm d (insOuter lt a b i d):=by
 intro n;induction n with
 |zero=>intro i d j hb;rw[insOuter,if_neg (by omega)];exact Pm.refl d
 |succ n m=>
  intro i d j hb;rw[insOuter];split
  ·rename_i h;have h1:=xg lt a i d (by omega);exact h1.trans (m _ _ (by omega) (by rw[h1.1];exact hb))
  ·exact Pm.refl d
theorem FE(lt:α->α->Bool)(d:Array α){a b:Nat}(hb:b<=d.size):Pm d (Sort.insertionSort lt d a b):=Ci lt a b _ _ d (Nat.le_refl _) hb
theorem Dg(lt:α->α->Bool)(m first:Nat):∀(n root:Nat) (d:Array α),m-root<=n->first+m<=d.size->Pm d (siftDown lt m first root d):=by
 intro n;induction n with
 |zero=>intro root d z hs;rw[siftDown,dif_pos (by omega)];exact Pm.refl d
 |succ n q=>
  intro root d z hs;rw[siftDown];split
  ·exact Pm.refl d
  ·rename_i h;split
   ·split
    ·exact Pm.refl d
    ·split
     ·have h1:=uz (d:=d) (i:=first+root) (j:=first+(2*root+2)) (by omega) (by omega);exact h1.trans (q _ _ (by omega) (by rw[h1.1];exact hs))
     ·exact Pm.refl d
   ·split
    ·exact Pm.refl d
    ·have h1:=uz (d:=d) (i:=first+root) (j:=first+(2*root+1)) (by omega) (by omega);exact h1.trans (q _ _ (by omega) (by rw[h1.1];exact hs))
theorem Cd(lt:α->α->Bool)(j first:Nat):∀(k:Nat) (d:Array α),first+j<=d.size->Pm d (heapBuild lt j first k d)
 |0,d,_=>Pm.refl d
 |k+1,d,h=>by
  unfold heapBuild;have h1:=Dg lt j first _ k d (Nat.le_refl _) h
  exact h1.trans (Cd lt j first k _ (by rw[h1.1];exact h))
theorem E5(lt:α->α->Bool)(first:Nat):∀(k:Nat) (d:Array α),first+k<=d.size->Pm d (heapPop lt first k d)
 |0,d,_=>Pm.refl d
 |k+1,d,h=>by
  unfold heapPop;have m:=uz (d:=d) (i:=first) (j:=first+k) (by omega) (by omega);have h1:=Dg lt k first _ 0 (swp d first (first+k)) (Nat.le_refl _) (by rw[m.1];omega)
  have h2:=m.trans h1;exact h2.trans (E5 lt first k _ (by rw[h2.1];omega))
theorem G6(lt:α->α->Bool)(d:Array α){a b:Nat}(j:a<=b)(hb:b<=d.size):Pm d (Sort.heapSort lt d a b):=by
 unfold Sort.heapSort;have h1:=Cd lt (b-a) a ((b-a-1) / 2+1) d (by omega);exact h1.trans (E5 lt a (b-a) _ (by rw[h1.1];omega))
theorem It(lt:α->α->Bool)(d:Array α){a b:Nat}(h:b-a<50):(Sort.partialInsertionSort lt d a b).1=d:=by
 unfold Sort.partialInsertionSort partialIns;simp only[];split
 ·rfl
 ·rfl
theorem HJ(lt:α->α->Bool)(d:Array α){a b p:Nat}(q:a<=p)(z:p<b)(hb:b<=d.size):
  a<=(Sort.partition lt d a b p).1/\(Sort.partition lt d a b p).1<b/\Pm d (Sort.partition lt d a b p).2.2:=by
 rw[partition_fst,partition_arr];have m:=uz (d:=d) (i:=a) (j:=p) (by omega) (by omega);obtain⟨r1,r2,r3,-,-⟩:=partLoop_spec lt a b _ (a+1) (b-1) (swp d a p) (Nat.le_refl _) (by omega) (by omega) (by omega) (by rw[m.1];exact hb) (fun t _ _=>by omega) (fun t _ _=>by omega);have h1:=m.trans (B4 (by rw[m.1];exact hb) r3);exact⟨r1,r2,h1.trans (uz (by rw[h1.1];omega) (by rw[h1.1];omega))⟩
theorem JC(lt:α->α->Bool)(d:Array α){a b p:Nat}(q:a<=p)(z:p<b)(hb:b<=d.size):
  a<(Sort.partitionEqual lt d a b p).1/\(Sort.partitionEqual lt d a b p).1<=b/\Pm d (Sort.partitionEqual lt d a b p).2:=by
 unfold Sort.partitionEqual;have m:=uz (d:=d) (i:=a) (j:=p) (by omega) (by omega);obtain⟨r1,r2,r3,-,-⟩:=partEqLoop_spec lt a b _ (a+1) (b-1) (swp d a p) (Nat.le_refl _) (by omega) (by omega) (by omega) (by rw[m.1];exact hb) (fun t _ _=>by omega) (fun t _ _=>by omega);exact⟨r1,r2,m.trans (B4 (by rw[m.1];exact hb) r3)⟩
end
section
variable{γ β:Type}{cmp:γ->γ->Option Int}{l:List γ}
theorem Cm{d:Array (Fin l.length)}(h:d.toList.Perm (Array.ofFn (n:=l.length) id).toList):(Dp l d).Perm l:=by
 have e:(Array.ofFn (n:=l.length) id).toList.map (fun i=>l[i.1])=l:=by
  apply List.ext_getElem?;intro j;by_cases m:j<l.length
  ·simp[m]
  ·rw[List.getElem?_eq_none (by simp;omega),List.getElem?_eq_none (by omega)]
 have:=h.map fun i:Fin l.length=>l[i.1]
 rw[e]at this;exact this
theorem Ce{j:List γ}(hp:j.Perm l)(h:gM cmp l=true):gM cmp j=true:=by
 unfold gM at*;refine List.all_eq_true.2 fun x hx=>List.all_eq_true.2 fun y m=>?_
 exact List.all_eq_true.1 (List.all_eq_true.1 h x (hp.mem_iff.1 hx)) y (hp.mem_iff.1 m)
theorem xK{ok:Bool}{F:Inhabited (Fin l.length)->(Fin l.length->Fin l.length->Bool)->Array (Fin l.length)->β×Array (Fin l.length)}{Q:β->Prop}(j:0<l.length)(D:l.length<=20)(hc:gM cmp l=true)(m:ok=true)
  (z:∀(q:Inhabited (Fin l.length)) (d:Array (Fin l.length)),d.size=l.length->Pm d (F q (ltT cmp l) d).2/\Q (F q (ltT cmp l) d).1):Ok (tZ cmp l ok F) fun r=>Q r.1/\r.2.Perm l:=by
 obtain⟨⟨h1,h2⟩,C⟩:=z ⟨⟨0,j⟩⟩ (Array.ofFn id) (by simp);refine⟨((F ⟨⟨0,j⟩⟩ (ltT cmp l) (Array.ofFn id)).1,Dp l (F ⟨⟨0,j⟩⟩ (ltT cmp l) (Array.ofFn id)).2),?_,C,Cm h2⟩;unfold tZ;rw[dif_pos j,if_pos];rw[m,hc,h1];simp;omega
theorem qa{ok:Bool}{F:Inhabited (Fin l.length)->(Fin l.length->Fin l.length->Bool)->Array (Fin l.length)->β×Array (Fin l.length)}(q:0<l.length)(z:l.length<=20)(hc:gM cmp l=true)(j:ok=true)
  (C:∀(m:Inhabited (Fin l.length)) (d:Array (Fin l.length)),d.size=l.length->Pm d (F m (ltT cmp l) d).2):Ok (tZ cmp l ok F) fun r=>r.2.Perm l:=
 Ok.mono (xK (Q:=fun _=>True) q z hc j fun m d hd=>⟨C m d hd,trivial⟩) fun _ h=>h.2
end
section
variable{γ:Type}{cmp:γ->γ->Option Int}{l:List γ}{a b p lim:Int}
def wi(l:List γ)(a b:Int):Prop:=0<l.length/\l.length<=20/\0<=a/\a<=b/\b<=(l.length:Int)
theorem Hy(h:wi l a b)(hc:gM cmp l=true):Ok (D0 cmp l a b) fun r=>r.2.Perm l:=by
 obtain⟨j,m,h1,h2,q⟩:=h;unfold D0;refine qa j m hc ?_ fun z d hd=>?_
 ·simp;omega
 ·exact FE _ d (by omega)
theorem DY(h:wi l a b)(hc:gM cmp l=true)(j:b-a<=12):Ok (EF cmp l a b lim) fun r=>r.2.Perm l:=by
 obtain⟨m,q,h1,h2,z⟩:=h;unfold EF;refine qa m q hc ?_ fun C d hd=>?_
 ·simp;omega
 ·exact FE _ d (by omega)
theorem Gz(h:wi l a b)(hc:gM cmp l=true):Ok (Ef cmp l a b) fun r=>r.2.Perm l:=by
 obtain⟨j,m,h1,h2,q⟩:=h;unfold Ef;refine qa j m hc ?_ fun z d hd=>?_
 ·simp;omega
 ·exact G6 _ d (by omega) (by omega)
theorem He(h:wi l a b)(hc:gM cmp l=true):Ok (D1 cmp l a b) fun r=>r.2.Perm l:=by
 obtain⟨j,m,h1,h2,q⟩:=h;unfold D1;refine qa j m hc ?_ fun z d hd=>?_
 ·simp;omega
 ·exact B4 (a:=a.toNat) (b:=b.toNat) (by omega) (Go.Sort.breakPatterns_holds d _ _ (by omega) (by omega))
theorem HM(h:wi l a b)(hc:gM cmp l=true):Ok (EE cmp l a b) fun r=>r.2.Perm l:=by
 obtain⟨j,m,h1,h2,q⟩:=h;unfold EE;refine qa j m hc ?_ fun z d hd=>?_
 ·simp;omega
 ·exact B4 (a:=a.toNat) (b:=b.toNat) (by omega) (Go.Sort.reverseRange_holds d _ _ (by omega) (by omega))
theorem GR(h:wi l a b)(hc:gM cmp l=true)(j:a<b):Ok (Ew cmp l a b) fun r=>(a<=r.1.1/\r.1.1<b)/\r.2.Perm l:=by
 obtain⟨m,q,h1,h2,z⟩:=h;unfold Ew;refine xK (Q:=fun r:Int×Int=>a<=r.1/\r.1<b) m q hc (?_) fun C d hd=>?_
 ·simp;omega
 refine⟨Pm.refl d,?_⟩;obtain⟨D,E⟩:=Go.Sort.choosePivot_holds (ltT cmp l) d a.toNat b.toNat (by omega);dsimp only;omega
theorem Hp(h:wi l a b)(hc:gM cmp l=true)(j:a<b):Ok (CO cmp l a b) fun r=>r.2.Perm l:=by
 obtain⟨m,q,h1,h2,z⟩:=h;unfold CO;refine qa m q hc ?_ fun C d hd=>?_
 ·simp;omega
 ·dsimp only;rw[It _ d (by omega)];exact Pm.refl d
theorem HP(h:wi l a b)(hc:gM cmp l=true)(j:a<=p)(m:p<b):Ok (Ct cmp l a b p) fun r=>(a<r.1/\r.1<=b)/\r.2.Perm l:=by
 obtain⟨q,z,h1,h2,D⟩:=h;unfold Ct;refine xK (Q:=fun r=>a<r/\r<=b) q z hc (?_) fun E d hd=>?_
 ·simp;omega
 obtain⟨I,J,C⟩:=JC (ltT cmp l) d (a:=a.toNat) (b:=b.toNat) (p:=p.toNat) (by omega) (by omega) (by omega);refine⟨C,?_⟩;dsimp only;omega
theorem GK(h:wi l a b)(hc:gM cmp l=true)(j:a<=p)(m:p<b):Ok (Ez cmp l a b p) fun r=>(a<=r.1.1/\r.1.1<b)/\r.2.Perm l:=by
 obtain⟨q,z,h1,h2,D⟩:=h;unfold Ez;refine xK (Q:=fun r:Int×Bool=>a<=r.1/\r.1<b) q z hc (?_) fun E d hd=>?_
 ·simp;omega
 obtain⟨I,J,C⟩:=HJ (ltT cmp l) d (a:=a.toNat) (b:=b.toNat) (p:=p.toNat) (by omega) (by omega) (by omega);refine⟨C,?_⟩;dsimp only;omega
end
end Go.L


set_option linter.all false
namespace Go.L
open Go Go.Eng
theorem DI{σ α:Type}{Q:α->Prop}{f:(σ->Option α)->σ->Option α}(P:σ->Prop)(μ:σ->Nat)(step:∀again s,P s->(∀j,P j->μ j<μ s->Ok (again j) Q)->Ok (f again s) Q):∀(n:Nat) (s:σ),μ s<n->P s->Ok (aP n f s) Q
 |0,s,h,_=>by omega
 |n+1,s,h,q=>step _ s q fun j m hm=>DI P μ step n j (by omega) m
theorem FD{α:Type}[Inhabited α]{l:List α}{i:Int}(j:0<=i)(h1:i<(l.length:Int)):gt l i∈l:=by
 obtain⟨k,rfl⟩:∃k:Nat,i=(k:Int):=⟨i.toNat,by omega⟩;rw[jo,List.getD,geT (by omega)];exact List.getElem_mem _
abbrev cmC(x y:aa):Option Int:=bZ 20000 x y
structure StC (l:List aa) (d:List aa) (a b:Int):Prop where
 r:wi d a b
 p:d.Perm l
theorem StC.cm{l d:List aa}{a b:Int}(h:StC l d a b)(hc:gM cmC l=true):gM cmC d=true:=Ce h.p hc
theorem StC.to{l d m:List aa}{a b a' j:Int}(h:StC l d a b)(hp:m.Perm d)(h1:0<=a')(h2:a'<=j)(q:j<=b):StC l m a' j:=by
 obtain⟨⟨r0,r1,r2,r3,r4⟩,p⟩:=h;have:=hp.length_eq;exact⟨⟨by omega,by omega,h1,h2,by omega⟩,hp.trans p⟩
theorem FG{d:List aa}{a b:Int}(h:wi d a b)(hc:gM cmC d=true)(j:a<b):Ok (bdO (CO cmC d a b) fun w=>some w) fun r=>r.2.Perm d:=Ok.bd (Hp h hc j) fun w hw=>aw.2 hw
theorem FT{d:List aa}{a b p:Int}(h:wi d a b)(hc:gM cmC d=true)(j:a<=p)(m:p<b):Ok (bdO (Ct cmC d a b p) fun w=>some w) fun r=>(a<r.1/\r.1<=b)/\r.2.Perm d:=Ok.bd (HP h hc j m) fun w hw=>aw.2 hw
theorem AD(k:Fin 21):(ns 20000 (ae .u64 (k.1:Int))).isSome=true:=by
 revert k;decide
theorem Fi{l:List aa}(h0:0<l.length)(a8:l.length<=20)(hc:gM cmC l=true):Ok (aV 20000 l) fun r=>r.Perm l:=by
 unfold aV;obtain⟨v,hv⟩:=Option.isSome_iff_exists.1 (AD ⟨l.length,by omega⟩);refine Ok.bde hv (Ok.bd (R:=fun r=>r.Perm l) ?_ fun r q=>aw.2 q);unfold br;refine Ok.bd (R:=fun r=>r.Perm l) ?_ fun r q=>aw.2 q
 have b0:StC l l 0 (l.length:Int):=⟨⟨h0,a8,by omega,by omega,by omega⟩,List.Perm.refl _⟩;refine DI (fun s=>StC l s.1 s.2.1 s.2.2.1) (fun s=>(s.2.2.1-s.2.1).toNat) ?_ 20000 _ (by dsimp only;omega) b0;rintro again ⟨d,a,b,lim,wb,wp⟩ D ih;dsimp only at D ih ⊢;have hd:=D.cm hc;have q:=D.r;obtain⟨r0,r1,r2,r3,r4⟩:=q;have b4:(d.length:Int)<=20:=by omega
 rw[wrap64_in (n:=b-a) (by omega) (by omega)];have pf:∀{d:List aa} {x:Option (Unit×List aa)},Ok x (fun r=>r.2.Perm d)->Ok (bdO x fun w=>some w.2) fun r=>r.Perm d:=fun h=>Ok.bd h fun w hw=>aw.2 hw
 refine Ok.cd (fun _=>?_) (fun a6=>?_)
 ·exact Ok.bd (pf (Hy D.r hd)) fun r q=>Ok.gd (decide_eq_true q.length_eq) (aw.2 (q.trans D.p))
 have a6:¬b-a<=12:=dcF a6;refine Ok.cd (fun _=>?_) (fun _=>?_)
 ·exact Ok.bd (pf (Gz D.r hd)) fun r q=>Ok.gd (decide_eq_true q.length_eq) (aw.2 (q.trans D.p))
 refine Ok.bd (R:=fun o=>StC l o.1 a b) ?_ ?_
 ·refine Ok.cd (fun _=>?_) (fun _=>aw.2 D);exact Ok.bd (pf (He D.r hd)) fun r q=>Ok.gd (decide_eq_true q.length_eq) (aw.2 (D.to q r2 r3 (Int.le_refl _)))
 rintro⟨d1,b3⟩ J;dsimp only at J ⊢;refine Ok.bd (R:=fun o=>(a<=o.1/\o.1<b)/\o.2.2.Perm d1) (Ok.bd (GR J.r (J.cm hc) (by omega)) fun w hw=>aw.2 hw) ?_;rintro⟨m,hint,d2⟩ ⟨hm,N⟩;dsimp only at hm N ⊢;have O:=J.to N r2 r3 (Int.le_refl _);refine Ok.gd (decide_eq_true N.length_eq) (Ok.bd (R:=fun o=>StC l o.1 a b/\a<=o.2.1/\o.2.1<b) ?_ ?_)
 ·refine Ok.cd (fun _=>?_) (fun _=>aw.2 ⟨O,hm⟩);refine Ok.bd (pf (HM O.r (O.cm hc))) fun r q=>Ok.gd (decide_eq_true (q.trans N).length_eq) (aw.2 ⟨O.to q r2 r3 (Int.le_refl _),?_⟩)
  dsimp only;rw[wrap64_in (n:=b-1) (by omega) (by omega),wrap64_in (n:=m-a) (by omega) (by omega),wrap64_in (by omega) (by omega)];omega
 rintro⟨d3,piv,b1⟩ ⟨z,U,Y⟩;dsimp only at z U Y ⊢;refine Ok.bd (R:=fun o=>match o with|.inl d=>StC l d a b|.inr d=>d.Perm l) ?_ ?_
 ·refine Ok.cd (fun _=>Ok.cd (fun _=>Ok.cd (fun _=>?_) (fun _=>aw.2 z)) (fun _=>aw.2 z)) (fun _=>aw.2 z);refine Ok.bd (R:=fun o=>o.2.Perm d3) (FG z.r (z.cm hc) (by omega)) fun o C=>Ok.gd (decide_eq_true C.length_eq) ?_
  have a7:=z.to C r2 r3 (Int.le_refl _);exact Ok.cd (fun _=>aw.2 a7.p) (fun _=>aw.2 a7)
 rintro(d4|d4) j
 ·dsimp only at j ⊢;have b5:d4.length=d.length:=(j.p.trans D.p.symm).length_eq;refine Ok.bd (R:=fun o=>match o with|.inl x=>StC l x.1 x.2 b/\a<x.2|.inr _=>True) ?_ ?_
  ·refine Ok.cd (fun ha=>?_) (fun _=>aw.2 trivial);have ha:=dcT ha;rw[wrap64_in (n:=a-1) (by omega) (by omega)];refine Ok.gd (by simp[inR];omega) (Ok.gd (by simp[inR];omega) ?_);have g1:gt d4 (a-1)∈d4:=FD (by omega) (by omega);have g2:gt d4 piv∈d4:=FD (by omega) (by omega);refine Ok.bde (Bm (j.cm hc) g1 g2) (Ok.cd (fun _=>?_) (fun _=>aw.2 trivial));refine Ok.bd (R:=fun o=>(a<o.1/\o.1<=b)/\o.2.Perm d4) (FT j.r (j.cm hc) U Y) fun o C=>Ok.gd (decide_eq_true C.2.length_eq) (aw.2 ⟨j.to C.2 (by omega) (by omega) (Int.le_refl _),C.1.1⟩)
  ·rintro(⟨d5,a5⟩|u) h5
   ·dsimp only at h5 ⊢;have:=h5.1.r;unfold wi at this;exact ih _ h5.1 (by dsimp only;omega)
   ·dsimp only;refine Ok.bd (R:=fun o=>(a<=o.1/\o.1<b)/\o.2.2.Perm d4) (Ok.bd (GK j.r (j.cm hc) U Y) fun w hw=>aw.2 hw) ?_;rintro⟨m5,al,d5⟩ ⟨a1,E⟩;dsimp only at a1 E ⊢;have T:=j.to E r2 r3 (Int.le_refl _);refine Ok.gd (decide_eq_true E.length_eq) ?_;rw[wrap64_in (n:=m5-a) (by omega) (by omega),wrap64_in (n:=b-m5) (by omega) (by omega),wrap64_in (n:=m5+1) (by omega) (by omega)];refine Ok.cd (fun I=>?_) (fun I=>?_)
    ·have I:=dcT I;have hf:StC l d5 a m5:=T.to (List.Perm.refl _) r2 a1.1 (by omega);refine Ok.bd (pf (DY hf.r (hf.cm hc) (by omega))) fun o C=>Ok.gd (decide_eq_true (C.trans E).length_eq) ?_
     have hq:StC l o (m5+1) b:=T.to C (by omega) (by omega) (Int.le_refl _);exact ih _ hq (by dsimp only;omega)
    ·have I:=dcF I;have hf:StC l d5 (m5+1) b:=T.to (List.Perm.refl _) (by omega) (by omega) (Int.le_refl _);refine Ok.bd (pf (DY hf.r (hf.cm hc) (by omega))) fun o C=>Ok.gd (decide_eq_true (C.trans E).length_eq) ?_
     have hq:StC l o a m5:=T.to C r2 a1.1 (by omega);exact ih _ hq (by dsimp only;omega)
 ·exact aw.2 j
end Go.L

