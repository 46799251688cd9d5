import Derived.Test.YtglimpjlhfjgdaaGreatGrdL21a
set_option linter.all false
namespace Go.L
open Go Go.Eng
structure FOk (w N:Nat) (F T:List (A3 Int)):Prop where
 t:∀x∈F,okT N x=true
 sh:shut (F.flatMap eds)=true
 nd:(F.flatMap eds).Nodup
 len:F.length<=200
 A:∀f:Nat->Int,lin f (F.flatMap (cA w N))=0
 B:∀f:Nat->Int,lin f (F.flatMap (cB w N))=0
 C:∀f:Nat->Int,lin f (F.flatMap (cC w N))=lin f (T.flatMap (upN N))
 z:sI (F.map (zI w N))=0
theorem ye:∀{l:List Nat},asc l=true->l.Pairwise (·<·)
 |[],_=>List.Pairwise.nil
 |[_],_=>List.pairwise_singleton _ _
 |x::y::l,h=>by
  simp only[asc,Bool.and_eq_true]at h;have h1:x<y:=by simpa [Nat.blt_eq]using h.1
  have h2:=ye h.2;refine List.pairwise_cons.2 ⟨fun z j=>?_,h2⟩;rcases List.mem_cons.1 j with rfl|j
  ·exact h1
  ·exact Nat.lt_trans h1 ((List.pairwise_cons.1 h2).1 z j)
theorem tN{α β:Type}{f:α->β}:∀{l:List α},(l.map f).Nodup->l.Nodup
 |[],_=>List.nodup_nil
 |x::l,h=>by
  rw[List.map_cons,List.nodup_cons]at h;exact List.nodup_cons.2 ⟨fun j=>h.1 (List.mem_map_of_mem j),tN h.2⟩
theorem yj{f:Nat->Int}{M:Nat}{L:List (Nat×Int)}(h:∀m,m<=M->sM m L=0)(j:∀p∈L,p.1<=M):lin f L=0:=by
 rw[tY (M:=M) L j];have:∀n,n<=M+1->sI ((List.range n).map fun m=>sM m L*f m)=0:=by
  intro n;induction n with
  |zero=>intro _;rfl
  |succ n q=>
   intro z;rw[List.range_succ,List.map_append,nE,q (by omega)];simp[sI,h n (by omega)]
 exact this _ (Nat.le_refl _)
theorem wB{w N:Nat}{F T:List (A3 Int)}(h:okF w N F T=true):FOk w N F T:=by
 unfold okF at h;simp only[Bool.and_eq_true]at h;obtain⟨⟨⟨⟨⟨⟨⟨⟨⟨h1,h2⟩,q⟩,z⟩,C⟩,D⟩,E⟩,I⟩,J⟩,j⟩:=h;have hc:=fun m (hm:m<=N)=>List.all_eq_true.1 C m (List.mem_range.2 (by omega))
 simp only[Bool.and_eq_true,decide_eq_true_eq]at hc;refine⟨fun x O=>List.all_eq_true.1 h1 x O,h2,?_,lbT z,fun f=>?_,fun f=>?_,fun f=>?_,dcT j⟩
 ·have hp:=(pq 12 ((F.flatMap eds).map cdE)).nodup_iff.1 ((ye q).imp fun h=>Nat.ne_of_lt h);exact tN hp
 ·exact yj (fun m hm=>(hc m hm).1.1) fun p hp=>lbT (List.all_eq_true.1 D p hp)
 ·exact yj (fun m hm=>(hc m hm).1.2) fun p hp=>lbT (List.all_eq_true.1 E p hp)
 ·refine FZ (M:=N) ?_ I J;refine List.all_eq_true.2 fun m hm=>?_
  have hm:=List.mem_range.1 hm;exact decide_eq_true ((hc m (by omega)).2)
def inV(p:an):Prop:=(-1048576<=p.X/\p.X<=1048576)/\(-1048576<=p.Y/\p.Y<=1048576)/\(-1048576<=p.Z/\p.Z<=1048576)
theorem E5{n:Nat}{x:Int}(h:-1048576<=x/\x<=1048576):nT n x=some false:=by
 unfold nT;rw[decide_eq_false (by omega),decide_eq_false (by omega)];rfl
theorem Gn{n:Nat}(q:10<n){p:an}(h:inV p):rM n p=some false:=by
 apply Ok.eq;unfold rM cv cH;have hm:∀x∈[p.X,p.Y,p.Z],-1048576<=x/\x<=1048576:=by
  intro x j;simp only[List.mem_cons,List.not_mem_nil,or_false]at j;rcases j with rfl|rfl|rfl
  ·exact h.1
  ·exact h.2.1
  ·exact h.2.2
 have z:[p.X,p.Y,p.Z].length=3:=rfl;generalize [p.X,p.Y,p.Z]=s at*;refine Ok.bd (R:=fun v=>v=false) (Ok.bd (R:=fun v=>v=-1) (Ok.bd (R:=fun o=>o=Sum.inl ()) (oq (len:=s.length) (fun _=>True) (by omega) (by omega) trivial ?_ ?_) ?_) ?_) ?_
 ·intro again k hk _ m;refine Ok.cd (fun _=>Ok.gd (by rw[bb];exact decide_eq_true hk) ?_) (fun h=>by have:=dcF h;omega);refine Ok.bde (E5 (hm _ (by rw[fb];simp only[List.getD,geT hk,Option.getD_some];exact List.getElem_mem hk))) (Ok.cd (fun h=>by cases h) (fun _=>m trivial))
 ·intro again _;exact Ok.cd (fun h=>by have:=dcT h;omega) (fun _=>ar.2 rfl)
 ·rintro o rfl;exact ar.2 rfl
 ·rintro v rfl;exact ar.2 rfl
 ·rintro v rfl;exact ar.2 rfl
theorem D8{N:Nat}{V:List an}{F:List (A3 Int)}(q:∀p∈V,inV p)(E:N<=25)(I:V.length=2*N)(z:∀x∈F,okT N x=true)(J:F.length<=200):nJ 20000 (aj.mk V F)=some 0:=by
 apply Ok.eq;unfold nJ;dsimp only;refine Ok.cd (fun h=>by have:=dcT h;omega) (fun _=>Ok.cd (fun h=>by have:=dcT h;omega) (fun _=>?_));refine Ok.bde (b:=false) ?_ (Ok.cd (fun h=>by cases h) (fun _=>?_))
 ·apply Ok.eq;unfold ba bc;refine Ok.bd (R:=fun v=>v=-1) (Ok.bd (R:=fun o=>o=Sum.inl ()) (oq (len:=V.length) (fun _=>True) (by omega) (by omega) trivial ?_ ?_) ?_) ?_
  ·intro again k hk _ m;refine Ok.cd (fun _=>Ok.gd (by rw[bb];exact decide_eq_true hk) ?_) (fun h=>by have:=dcF h;omega);refine Ok.bde (Gn (by omega) (q _ (by rw[fb];simp only[List.getD,geT hk,Option.getD_some];exact List.getElem_mem hk))) (Ok.cd (fun h=>by cases h) (fun _=>m trivial))
  ·intro again _;exact Ok.cd (fun h=>by have:=dcT h;omega) (fun _=>ar.2 rfl)
  ·rintro o rfl;exact ar.2 rfl
  ·rintro v rfl;exact ar.2 rfl
 ·refine Ok.bd (R:=fun o=>o=Sum.inl ()) (oq (len:=F.length) (fun _=>True) (by omega) (by omega) trivial ?_ ?_) ?_
  ·intro again k hk _ m;have j:=z (F.getD k default) (by simp only[List.getD,geT hk,Option.getD_some];exact List.getElem_mem hk);rw[<-fb]at j;unfold okT at j;simp only[Bool.and_eq_true,decide_eq_true_eq,Bool.not_eq_true',beq_eq_false_iff_ne]at j;obtain⟨⟨⟨⟨⟨⟨⟨⟨M,a2⟩,a3⟩,O⟩,S⟩,C⟩,c1⟩,c2⟩,D⟩:=j;generalize gt F (k:Int)=t at*;refine Ok.cd (fun _=>Ok.gd (by rw[bb];exact decide_eq_true hk) ?_) (fun h=>by have:=dcF h;omega);refine Ok.cd (fun h=>by have:=dcT h;omega) (fun _=>Ok.cd (fun h=>by have:=dcT h;omega) (fun _=>?_));refine Ok.cd (fun h=>by have:=dcT h;omega) (fun _=>Ok.cd (fun h=>by have:=dcT h;omega) (fun _=>?_));refine Ok.cd (fun h=>by have:=dcT h;omega) (fun _=>Ok.cd (fun h=>by have:=dcT h;omega) (fun _=>?_));exact Ok.cd (fun h=>absurd (eq_of_beq h) a3) (fun _=>Ok.cd (fun h=>absurd (eq_of_beq h) C) (fun _=>Ok.cd (fun h=>absurd (eq_of_beq h) D) (fun _=>m trivial)))
  ·intro again _;exact Ok.cd (fun h=>by have:=dcT h;omega) (fun _=>ar.2 rfl)
  ·rintro o rfl;exact ar.2 rfl
def tC(s:List (A2 Int×Bool))(e:A2 Int):List (A2 Int×Bool):=al s e true
theorem tO{s:List (A2 Int×Bool)}{e k:A2 Int}:getM false (tC s e) k=(k==e||getM false s k):=by
 unfold tC;induction s with
 |nil=>simp only[al,getM];cases k==e<;>rfl
 |cons p s j=>
  simp only[al];cases h1:e==p.1 with
  |true=>
   have h1:=eq_of_beq h1;simp only[cond_true,getM];rw[h1];cases k==p.1<;>rfl
  |false=>
   simp only[cond_false,getM,j];cases h2:k==p.1 with
   |true=>
    have h2:=eq_of_beq h2;have:(k==e)=false:=by
     rw[beq_eq_false_iff_ne];rintro rfl;rw[h2]at h1;simp at h1
    rw[this];simp
   |false=>simp
theorem DD:∀(D:List (A2 Int)) (s:List (A2 Int×Bool)) (k:A2 Int),getM false (D.foldl tC s) k=(decide (k∈D)||getM false s k)
 |[],s,k=>by simp
 |d::D,s,k=>by
  rw[List.foldl_cons,DD D,tO];by_cases h:k=d
  ·subst h;simp
  ·have:(k==d)=false:=beq_eq_false_iff_ne.2 h;rw[this];simp[h]
def Cp(t:A3 Int)(v:Nat):Bool:=(t.e0==(v:Int))||((t.e1==(v:Int))||(t.e2==(v:Int)))
def arL(F:List (A3 Int))(k v:Nat):List Int:=((List.range k).filter fun i=>Cp (F.getD i default) v).map fun i:Nat=>(i:Int)
def arF(F:List (A3 Int))(N k:Nat):List (List Int):=(List.range N).map (arL F k)
theorem CJ(F:List (A3 Int))(k v:Nat):arL F (k+1) v=arL F k v++(if Cp (F.getD k default) v=true then[(k:Int)]else[]):=by
 unfold arL;rw[List.range_succ,List.filter_append,List.map_append];congr 1;rw[List.filter_cons,List.filter_nil];cases Cp (F.getD k default) v<;>rfl
theorem yy(F:List (A3 Int))(k v:Nat):(arL F k v).length<=k:=by
 unfold arL;rw[List.length_map];have:=List.length_filter_le (fun i=>Cp (F.getD i default) v) (List.range k);rw[List.length_range]at this;exact this
theorem pG{l:List (List Int)}{i j:Nat}{v:List Int}(h:i<l.length):(l.set i v).getD j default=if i=j then v else l.getD j default:=by
 simp only[List.getD];rw[List.getElem?_set];by_cases e:i=j
 ·subst e;simp[h]
 ·simp[e]
theorem uR{F:List (A3 Int)}{N k v:Nat}(h:v<N):(arF F N k).getD v default=arL F k v:=by
 unfold arF;simp[List.getD,h]
theorem Ej{F:List (A3 Int)}{N k a b c:Nat}(C:F.getD k default=A3.mk (a:Int) (b:Int) (c:Int))(D:a<N)(E:b<N)(hc:c<N)(J:a≠b)(n2:b≠c)(M:c≠a):
  (((arF F N k).set a (arL F k a++[(k:Int)])).set b (arL F k b++[(k:Int)])).set c (arL F k c++[(k:Int)])=arF F N (k+1):=by
 have m:∀j,(arF F N j).length=N:=fun j=>by simp[arF]
 apply List.ext_getElem
 ·simp[m]
 intro v h1 h2;rw[m]at h2;have e:∀(l:List (List Int)) (h:v<l.length),l[v]=l.getD v default:=fun l h=>by simp[List.getD,h]
 rw[e _ h1,e _ (by rw[m];exact h2),uR h2,CJ,C,pG (by simp[m,hc]),pG (by simp[m,E]),pG (by simp[m,D]),uR h2];have I:Cp (A3.mk (a:Int) (b:Int) (c:Int)) v=(decide (a=v)||(decide (b=v)||decide (c=v))):=by
  unfold Cp;dsimp only;have:∀x:Nat,((x:Int)==(v:Int))=decide (x=v):=fun x=>by
   by_cases h:x=v
   ·subst h;simp
   ·rw[decide_eq_false h,beq_eq_false_iff_ne];omega
  rw[this,this,this]
 rw[I];by_cases p:c=v
 ·subst p;simp
 ·by_cases q:b=v
  ·subst q;simp[p]
  ·by_cases z:a=v
   ·subst z;simp[p,q]
   ·simp[p,q,z]
end Go.L


set_option linter.all false
namespace Go.L
open Go Go.Eng
theorem wg{N:Nat}{t:A3 Int}(h:okT N t=true):∃a b c:Nat,t=A3.mk (a:Int) (b:Int) (c:Int)/\a<2*N/\b<2*N/\c<2*N/\a≠b/\b≠c/\c≠a:=by
 unfold okT at h;simp only[Bool.and_eq_true,decide_eq_true_eq,Bool.not_eq_true',beq_eq_false_iff_ne]at h;obtain⟨x,y,z⟩:=t;dsimp only at h;exact⟨x.toNat,y.toNat,z.toNat,by congr 1<;>omega,by omega,by omega,by omega,by omega,by omega,by omega⟩
theorem Ch{F:List (A3 Int)}{k:Nat}(h:(F.flatMap eds).Nodup)(hk:k<F.length):(((F.take k).flatMap eds)++eds (F.getD k default)).Nodup:=by
 rw[<-sX eds hk];rw[<-List.take_append_drop (k+1) F,List.flatMap_append,List.nodup_append]at h;exact h.1
def iG(n:Nat):{p:(List an->List (A3 Int)->Option (Sum (List (List Int)) Int))×(List an->List (A3 Int)->Sum (List (List Int)) Int->Option Int) // ∀V F,kj n (aj.mk V F)=bdO (nJ n (aj.mk V F)) fun v1=>cdO ((v1:Int)!=0) (some v1) (gdO (decide (0<=(V.length:Int))) (gdO (decide ((24:Int)*(V.length:Int)<=281474976710656)) (gdO (decide ((V.length:Int)<=9223372036854775807)) (bdO (p.1 V F) (p.2 V F)))))}:=⟨(_,_),fun _ _=>rfl⟩
theorem IX{n:Nat}(hn:300<n){N:Nat}{V:List an}{F:List (A3 Int)}(T:V.length=2*N)(hN:N<=25)(U:∀x∈F,okT N x=true)(lF:F.length<=200)(nd:(F.flatMap eds).Nodup):Ok ((iG n).1.1 V F) fun o=>o=Sum.inl (arF F (2*N) F.length):=by
 change Ok (aK n _ _) _;refine lf (γ:=List (A2 Int×Bool)×List (List Int)) (fun c x=>(c.1,c.2,x)) (fun k c=>c=(((F.take k).flatMap eds).foldl tC [],arF F (2*N) k)) (len:=F.length) (by omega) (by omega) (c0:=([],List.replicate (V.length:Int).toNat [])) (by
  rw[T];simp only[List.take_zero,List.flatMap_nil,List.foldl_nil];congr 1;unfold arF arL;simp[List.map_const'];omega) ?_ ?_
 ·rintro again k c hk rfl Y;dsimp only;have m:=Ch nd hk;have hm:F.getD k default∈F:=by simp only[List.getD,geT hk,Option.getD_some];exact List.getElem_mem hk
  obtain⟨a,b,c,I,D,p,q,O,n2,S⟩:=wg (U _ hm);have Z:=yy F k a;have a1:=yy F k b;have a6:=yy F k c;have C:∀j,(arF F (2*N) j).length=2*N:=fun j=>by simp[arF]
  have hs:=fun e=>DD ((F.take k).flatMap eds) [] e
  have es:=sX eds hk;rw[I]at m es;have J:=Ej (N:=2*N) I D p q O n2 S;unfold eds at m;dsimp only at m;rw[List.nodup_append]at m;obtain⟨_,a7,M⟩:=m;have m0:∀e∈[A2.mk (a:Int) (b:Int),A2.mk (b:Int) (c:Int),A2.mk (c:Int) (a:Int)],e∉(F.take k).flatMap eds:=fun e he hd=>M _ hd _ he rfl
  have q0:=m0 (A2.mk (a:Int) (b:Int)) (by simp);have q1:=m0 (A2.mk (b:Int) (c:Int)) (by simp);have q2:=m0 (A2.mk (c:Int) (a:Int)) (by simp);have z:∀e:A2 Int,getM false ([]:List (A2 Int×Bool)) e=false:=fun e=>rfl
  have r1:((A2.mk (b:Int) (c:Int))==(A2.mk (a:Int) (b:Int)))=false:=beq_eq_false_iff_ne.2 (by intro e;injection e with e1 e2;omega);have r2:((A2.mk (c:Int) (a:Int))==(A2.mk (a:Int) (b:Int)))=false:=beq_eq_false_iff_ne.2 (by intro e;injection e with e1 e2;omega);have r3:((A2.mk (c:Int) (a:Int))==(A2.mk (b:Int) (c:Int)))=false:=beq_eq_false_iff_ne.2 (by intro e;injection e with e1 e2;omega);have ga:gt (arF F (2*N) k) (a:Int)=arL F k a:=by rw[fb,uR D]
  refine Ok.cd (fun _=>Ok.gd (by rw[bb];exact decide_eq_true hk) ?_) (fun h=>by have:=dcF h;omega);rw[fb,I];refine Ok.bde rfl ?_;dsimp only;have E:∀(l:List (List Int)) (v:Nat),l.length=2*N->v<2*N->inR (v:Int) l.length=true:=fun l v h1 h2=>by rw[bb,h1];exact decide_eq_true h2
  have ea:(gt (arF F (2*N) k) (a:Int))=arL F k a:=by rw[fb,uR D]
  have eb:(gt ((arF F (2*N) k).set a (arL F k a++[(k:Int)])) (b:Int))=arL F k b:=by rw[fb,pG (by rw[C];exact D),if_neg O,uR p]
  have ec:(gt (((arF F (2*N) k).set a (arL F k a++[(k:Int)])).set b (arL F k b++[(k:Int)])) (c:Int))=arL F k c:=by rw[fb,pG (by rw[List.length_set,C];exact p),if_neg n2,pG (by rw[C];exact D),if_neg (fun h=>S h.symm),uR q]
  have g0:getM false (((F.take k).flatMap eds).foldl tC []) (A2.mk (a:Int) (b:Int))=false:=by rw[hs];simp[q0,z]
  have g1:getM false (al (((F.take k).flatMap eds).foldl tC []) (A2.mk (a:Int) (b:Int)) true) (A2.mk (b:Int) (c:Int))=false:=by
   show getM false (tC _ _) _=false;rw[tO,hs,r1];simp[q1,z]
  have g2:getM false (al (al (((F.take k).flatMap eds).foldl tC []) (A2.mk (a:Int) (b:Int)) true) (A2.mk (b:Int) (c:Int)) true) (A2.mk (c:Int) (a:Int))=false:=by
   show getM false (tC (tC _ _) _) _=false;rw[tO,tO,hs,r2,r3];simp[q2,z]
  rw[g0,g1,g2];refine Ok.cd (fun h=>by cases h) (fun _=>Ok.gd (E _ _ (C k) D) ?_);simp only[ea,Int.toNat_natCast,eb,ec];refine Ok.gd (decide_eq_true (by omega)) (Ok.gd (decide_eq_true (by omega)) (Ok.cd (fun h=>by cases h) (fun _=>Ok.gd (E _ _ (C k) p) (Ok.gd (E _ _ (by rw[List.length_set,C]) p) ?_))));refine Ok.gd (decide_eq_true (by omega)) (Ok.gd (decide_eq_true (by omega)) (Ok.cd (fun h=>by cases h) (fun _=>Ok.gd (E _ _ (C k) q) (Ok.gd (E _ _ (by rw[List.length_set,List.length_set,C]) q) ?_))));refine Ok.gd (decide_eq_true (by omega)) (Ok.gd (decide_eq_true (by omega)) (Y (_,_) ?_));rw[J,es,List.foldl_append];rfl
 ·rintro again c rfl;dsimp only;exact Ok.cd (fun h=>by have:=dcT h;omega) (fun _=>ar.2 rfl)
theorem HM:(iG 20000).1.2 [] (aC 2 2) (Sum.inl (arF (aC 2 2) (2*(2*2)) (aC 2 2).length))=some 0:=by kernel_rfl
theorem HY:(iG 20000).1.2 [] (aC 2 3) (Sum.inl (arF (aC 2 3) (2*(2*3)) (aC 2 3).length))=some 0:=by kernel_rfl
theorem H7:(iG 20000).1.2 [] (aC 2 4) (Sum.inl (arF (aC 2 4) (2*(2*4)) (aC 2 4).length))=some 0:=by kernel_rfl
theorem HK:(iG 20000).1.2 [] (aC 2 5) (Sum.inl (arF (aC 2 5) (2*(2*5)) (aC 2 5).length))=some 0:=by kernel_rfl
theorem HH:(iG 20000).1.2 [] (aC 2 6) (Sum.inl (arF (aC 2 6) (2*(2*6)) (aC 2 6).length))=some 0:=by kernel_rfl
theorem IG:(iG 20000).1.2 [] (aC 2 7) (Sum.inl (arF (aC 2 7) (2*(2*7)) (aC 2 7).length))=some 0:=by kernel_rfl
theorem HX:(iG 20000).1.2 [] (aC 2 8) (Sum.inl (arF (aC 2 8) (2*(2*8)) (aC 2 8).length))=some 0:=by kernel_rfl
theorem HT:(iG 20000).1.2 [] (aC 2 9) (Sum.inl (arF (aC 2 9) (2*(2*9)) (aC 2 9).length))=some 0:=by kernel_rfl
theorem GL:(iG 20000).1.2 [] (aC 2 10) (Sum.inl (arF (aC 2 10) (2*(2*10)) (aC 2 10).length))=some 0:=by kernel_rfl
theorem Hz:(iG 20000).1.2 [] (aC 2 11) (Sum.inl (arF (aC 2 11) (2*(2*11)) (aC 2 11).length))=some 0:=by kernel_rfl
theorem Hw:(iG 20000).1.2 [] (aC 2 12) (Sum.inl (arF (aC 2 12) (2*(2*12)) (aC 2 12).length))=some 0:=by kernel_rfl
theorem Il:(iG 20000).1.2 [] (aC 3 2) (Sum.inl (arF (aC 3 2) (2*(3*2)) (aC 3 2).length))=some 0:=by kernel_rfl
theorem H8:(iG 20000).1.2 [] (aC 3 3) (Sum.inl (arF (aC 3 3) (2*(3*3)) (aC 3 3).length))=some 0:=by kernel_rfl
theorem HW:(iG 20000).1.2 [] (aC 3 4) (Sum.inl (arF (aC 3 4) (2*(3*4)) (aC 3 4).length))=some 0:=by kernel_rfl
theorem Ik:(iG 20000).1.2 [] (aC 3 5) (Sum.inl (arF (aC 3 5) (2*(3*5)) (aC 3 5).length))=some 0:=by kernel_rfl
theorem Iq:(iG 20000).1.2 [] (aC 3 6) (Sum.inl (arF (aC 3 6) (2*(3*6)) (aC 3 6).length))=some 0:=by kernel_rfl
theorem Ig:(iG 20000).1.2 [] (aC 3 7) (Sum.inl (arF (aC 3 7) (2*(3*7)) (aC 3 7).length))=some 0:=by kernel_rfl
theorem It:(iG 20000).1.2 [] (aC 3 8) (Sum.inl (arF (aC 3 8) (2*(3*8)) (aC 3 8).length))=some 0:=by kernel_rfl
theorem Je:(iG 20000).1.2 [] (aC 4 2) (Sum.inl (arF (aC 4 2) (2*(4*2)) (aC 4 2).length))=some 0:=by kernel_rfl
theorem Ic:(iG 20000).1.2 [] (aC 4 3) (Sum.inl (arF (aC 4 3) (2*(4*3)) (aC 4 3).length))=some 0:=by kernel_rfl
theorem HG:(iG 20000).1.2 [] (aC 4 4) (Sum.inl (arF (aC 4 4) (2*(4*4)) (aC 4 4).length))=some 0:=by kernel_rfl
theorem IA:(iG 20000).1.2 [] (aC 4 5) (Sum.inl (arF (aC 4 5) (2*(4*5)) (aC 4 5).length))=some 0:=by kernel_rfl
theorem IP:(iG 20000).1.2 [] (aC 4 6) (Sum.inl (arF (aC 4 6) (2*(4*6)) (aC 4 6).length))=some 0:=by kernel_rfl
theorem Iv:(iG 20000).1.2 [] (aC 5 2) (Sum.inl (arF (aC 5 2) (2*(5*2)) (aC 5 2).length))=some 0:=by kernel_rfl
theorem I9:(iG 20000).1.2 [] (aC 5 3) (Sum.inl (arF (aC 5 3) (2*(5*3)) (aC 5 3).length))=some 0:=by kernel_rfl
theorem HQ:(iG 20000).1.2 [] (aC 5 4) (Sum.inl (arF (aC 5 4) (2*(5*4)) (aC 5 4).length))=some 0:=by kernel_rfl
theorem Ip:(iG 20000).1.2 [] (aC 5 5) (Sum.inl (arF (aC 5 5) (2*(5*5)) (aC 5 5).length))=some 0:=by kernel_rfl
theorem IW:(iG 20000).1.2 [] (aC 6 2) (Sum.inl (arF (aC 6 2) (2*(6*2)) (aC 6 2).length))=some 0:=by kernel_rfl
theorem IE:(iG 20000).1.2 [] (aC 6 3) (Sum.inl (arF (aC 6 3) (2*(6*3)) (aC 6 3).length))=some 0:=by kernel_rfl
theorem HI:(iG 20000).1.2 [] (aC 6 4) (Sum.inl (arF (aC 6 4) (2*(6*4)) (aC 6 4).length))=some 0:=by kernel_rfl
theorem H9:(iG 20000).1.2 [] (aC 7 2) (Sum.inl (arF (aC 7 2) (2*(7*2)) (aC 7 2).length))=some 0:=by kernel_rfl
theorem I8:(iG 20000).1.2 [] (aC 7 3) (Sum.inl (arF (aC 7 3) (2*(7*3)) (aC 7 3).length))=some 0:=by kernel_rfl
theorem Iw:(iG 20000).1.2 [] (aC 8 2) (Sum.inl (arF (aC 8 2) (2*(8*2)) (aC 8 2).length))=some 0:=by kernel_rfl
theorem Ib:(iG 20000).1.2 [] (aC 8 3) (Sum.inl (arF (aC 8 3) (2*(8*3)) (aC 8 3).length))=some 0:=by kernel_rfl
theorem Ih:(iG 20000).1.2 [] (aC 9 2) (Sum.inl (arF (aC 9 2) (2*(9*2)) (aC 9 2).length))=some 0:=by kernel_rfl
theorem Hh:(iG 20000).1.2 [] (aC 10 2) (Sum.inl (arF (aC 10 2) (2*(10*2)) (aC 10 2).length))=some 0:=by kernel_rfl
theorem G1:(iG 20000).1.2 [] (aC 11 2) (Sum.inl (arF (aC 11 2) (2*(11*2)) (aC 11 2).length))=some 0:=by kernel_rfl
theorem G7:(iG 20000).1.2 [] (aC 12 2) (Sum.inl (arF (aC 12 2) (2*(12*2)) (aC 12 2).length))=some 0:=by kernel_rfl
theorem I1{w h:Nat}(hw:2<=w)(hh:2<=h)(hm:w*h<=25):(iG 20000).1.2 [] (aC w h) (Sum.inl (arF (aC w h) (2*(w*h)) (aC w h).length))=some 0:=by
 refine BR (P:=fun w h=>(iG 20000).1.2 [] (aC w h) (Sum.inl (arF (aC w h) (2*(w*h)) (aC w h).length))=some 0) ?_ hw hh hm;rw[z6];simp only[List.forall_mem_cons,List.not_mem_nil,false_implies,implies_true,and_true];exact⟨HM,HY,H7,HK,HH,IG,HX,HT,GL,Hz,Hw,Il,H8,HW,Ik,Iq,Ig,It,Je,Ic,HG,IA,IP,Iv,I9,HQ,Ip,IW,IE,HI,H9,I8,Iw,Ib,Ih,Hh,G1,G7⟩
theorem GU{w h:Nat}(hw:2<=w)(hh:2<=h)(hm:w*h<=25){V:List an}(m:∀p∈V,inV p)(j:V.length=2*(w*h)):kj 20000 (aj.mk V (aC w h))=some 0:=by
 have k:=wB (tJ hw hh hm);rw[(iG 20000).2,D8 m hm j k.t k.len];apply Ok.eq;refine Ok.bde rfl (Ok.cd (fun h=>by cases h) (fun _=>?_));rw[j];refine Ok.gd (decide_eq_true (by omega)) ?_;refine Ok.gd (decide_eq_true (by omega)) ?_;refine Ok.gd (decide_eq_true (by omega)) ?_;refine Ok.bd (IX (by omega) j hm k.t k.len k.nd) ?_;rintro o rfl;exact Ok.of_eq (show(iG 20000).1.2 [] _ _=some 0 from I1 hw hh hm) rfl
end Go.L

