import Derived.Test.YtfclmnpffhbcpaaGreatPldL22d
set_option linter.all false
namespace Go.L
open Go Go.Eng
def qj(m:Nat)(t:List ae)(v:Rat):Prop:=∃V,qo m t V/\(0<t.length/\t.length<=1000)/\V.getD (t.length-1) 0=v
theorem A0{n m:Nat}{t:List ae}{kn:tN}{V:List Rat}{i:Int}{v:Rat}(B:qo m t V)(h:jE V i v)(D:t.length<=1000)(j:Int)(x2:List ah)(q:List au)(z:List ar)(C:List (A3 Int×Int)):
  Ok (cf n j x2 q z C t kn i) fun r=>qj m r.2 v:=by
 have E:=B.len;have hi:=iH.1 h.1;unfold cf cg;rw[wrap64_in (n:=i+1) (by omega) (by omega)];obtain⟨k,rfl⟩:∃k:Nat,i=(k:Int):=⟨i.toNat,by omega⟩;have e:(t.drop (0:Int).toNat).take (((k:Int)+1).toNat-(0:Int).toNat)=t.take (k+1):=by
  show(t.drop 0).take (((k:Int)+1).toNat-0)=_;rw[List.drop_zero];congr 1
 rw[e];have hlen:(t.take (k+1)).length=k+1:=by rw[List.length_take];omega
 refine Ok.gd (nJ.2 (by omega)) (Ok.bd (R:=fun o=>o=t.take (k+1)) (Ok.gd (decide_eq_true (by omega)) (Ok.gd (decide_eq_true (by omega)) (aC.2 rfl))) ?_);rintro o rfl;refine aC.2 ⟨V.take (k+1),B.take (k+1),by dsimp only;omega,?_⟩;dsimp only;rw[hlen,rA (by omega)];exact h.2
theorem D7{n:Nat}(q:5000<=n){x:an}{r:Rat}{k:Nat}(hk:k<=60)(h:Qx x r k):lP n x=some (sgn r.num):=by
 apply Ok.eq;unfold lP;refine Ok.bd (gE q hk h) fun z j=>?_
 have:=j.nl;exact Ok.bde (lV (by omega) (by omega) j.num) (aC.2 rfl)
structure zi (m:Nat) (x2:List ah) (p:au) (x5:List (A3 Int×Int)) (o:ar) (F:Int):Prop where
 ix:wo m x2.length x5
 k:o.Kind=0
 i:0<=o.A/\o.A<(x2.length:Int)
 b:o.B=0
 v:o.Value=A2.mk 0 0
 t:(gt x2 o.A).Turn=aT.mk 0 1 0 0
 f:(gt x2 o.A).Focal=F/\1<=F/\F<=1048576
 c:(gt x2 o.A).Centre=aE.mk 0 0
 pb:((-1048576<=p.X/\p.X<=1048576)/\(-1048576<=p.Y/\p.Y<=1048576))/\ -1048576<=p.Z/\p.Z<=1048576
 sb:((-1048576<=(gt x2 o.A).At.X/\(gt x2 o.A).At.X<=1048576)/\(-1048576<=(gt x2 o.A).At.Y/\(gt x2 o.A).At.Y<=1048576))/\ -1048576<=(gt x2 o.A).At.Z/\(gt x2 o.A).At.Z<=1048576
 z:p.Z<(gt x2 o.A).At.Z
theorem Es{n m:Nat}(C:5000<=n){x2:List ah}{p:au}{j:List (A3 Int×Int)}{o:ar}{F:Int}(w:zi m x2 p j o F)(z:List ar):
  Ok (dm n 3 x2 [p] z j o) fun r=>qj m r.2.2 (((-(p.Z-(gt x2 o.A).At.Z)):Int):Rat):=by
 unfold dm;refine Ok.bde rfl (Ok.bd (DS C w.ix rfl w.i w.b w.t w.pb w.sb z) ?_);rintro r ⟨V,B,h1,I,D,J⟩;exact Ok.bd (A0 B.tv D (by omega) 3 x2 [p] z j) fun q E=>aC.2 E
theorem CT{n m:Nat}(j:5000<=n){x2:List ah}{p:au}{C:List (A3 Int×Int)}{o:ar}{F:Int}(w:zi m x2 p C o F)(D:List ar){x:List an}(I:x.length=m)(J:∀k,k<m->Qx (x.getD k default) 0 4):
  Ok (gR n o 3 x2 [p] D C x) fun r=>r.2.2=false:=by
 unfold gR;refine Ok.gd (by rw[w.k];rfl) (Ok.bd (Es j w D) ?_);rintro r ⟨V,N,O,R⟩;refine Ok.bd (yU j N O.1 (by omega) I J) fun q E=>?_
 rw[R]at E;refine Ok.bde (D7 j (by omega) E) (aC.2 ?_);have S:=w.z;rw[Rat.num_intCast,pP (by omega)];rfl
def FP(x2:List ah)(p:au)(o:ar)(row:Int):Int:=if row=1 then-(p.Y-(gt x2 o.A).At.Y)else p.X-(gt x2 o.A).At.X
theorem DJ{n m:Nat}(E:5000<=n){x2:List ah}{p:au}{j:List (A3 Int×Int)}{o:ar}{F:Int}(w:zi m x2 p j o F)(C:List ar){row:Int}(hr:row=0\/row=1):
  Ok (cR n 3 x2 [p] C j o row) fun r=>qj m r.2.2 (((F*FP x2 p o row:Int):Rat) / (((-(p.Z-(gt x2 o.A).At.Z)):Int):Rat)):=by
 have hp:=w.pb;have hs:=w.sb;have hz:=w.z;have hf:=w.f;unfold cR;refine Ok.bde rfl (Ok.gd (by rw[w.k];rfl) (Ok.gd (iH.2 w.i) (Ok.bd (DS E w.ix rfl w.i w.b w.t w.pb w.sb C) ?_)));rintro r ⟨V,B,h1,h2,h3,hl⟩;rw[hf.1,w.c];have a7:A2.get o.Value row=0:=by rw[w.v];rcases hr with rfl|rfl<;>rfl
 rw[a7];have U:inR row 2=true:=iH.2 (by omega);have rest:∀(i D:Int),jE V i ((D:Int):Rat)->(-4194304<=D/\D<=4194304)->
   Ok (bdO (bP n 3 x2 [p] C j r.1 r.2.1 F i) fun I=>bdO (cH n 3 x2 [p] C j I.1 I.2.1 I.2.2 r.2.2.2.2) fun v59=>bdO (bk n 3 x2 [p] C j v59.1 v59.2.1 0) fun J=>bdO (aP n 3 x2 [p] C j J.1 J.2.1 J.2.2 v59.2.2) fun N=>gdO (inR row 2) (bdO (cS n 3 x2 [p] C j N.1 N.2.1 N.2.2 0) fun v66=>bdO (cf n 3 x2 [p] C j v66.1 v66.2.1 v66.2.2) fun a6=>some (a6.1,v66.2.1,a6.2)))
    fun r'=>qj m r'.2.2 (((F*D:Int):Rat) / (((-(p.Z-(gt x2 o.A).At.Z)):Int):Rat)):=by
  intro i D hD hb;have bF:=ln (a:=F) (b:=D) (A:=1048576) (B:=4194304) (by omega) (by omega) hb.1 hb.2;have hZ:0< -(p.Z-(gt x2 o.A).At.Z)/\ -(p.Z-(gt x2 o.A).At.Z)<=2097152:=by omega
  generalize-(p.Z-(gt x2 o.A).At.Z)=z at*;have hE:eU V [(i,((D:Int):Rat)),(r.2.2.2.2,((z:Int):Rat))]:=by
   have h0:eU V []:=fun k hk=>absurd hk (by simp)
   exact(h0.cons h3.1 h3.2).cons hD.1 hD.2
  refine Ok.bd (tM E B hE hl (by omega) (c:=F) (by omega) 0 (x:=D) (F*D) (by simp) rfl rfl (by unfold dc;omega) 3 x2 [p] C j) ?_;rintro r1 ⟨V1,B1,E1,l1⟩;have g0:jE V1 r1.2.2 ((F*D:Int):Rat):=E1 0 (by simp);have g1:jE V1 r.2.2.2.2 ((z:Int):Rat):=E1 2 (by simp);have hQ:tT (((F*D:Int):Rat) / ((z:Int):Rat)):=⟨F*D,z,by rw[Rat.divInt_eq_div],hZ.1,by rw[CW];omega,by rw[CW];omega,by rw[CW];omega⟩;have a8:((z:Int):Rat)≠0:=by
   intro e;have:((z:Int):Rat)=((0:Int):Rat):=by rw[e];rfl
   have:=Rat.intCast_inj.1 this;omega
  have O:Ok (cH n 3 x2 [p] C j r1.1 r1.2.1 r1.2.2 r.2.2.2.2) fun v=>jn m ((r1.2.2,((F*D:Int):Rat))::[(i,((D:Int):Rat)),(r.2.2.2.2,((z:Int):Rat))]) (300+2+1) (((F*D:Int):Rat) / ((z:Int):Rat)) v:=by
   unfold cH;refine Ok.bd (oK E B1 E1 l1 (by omega) (aD.mk 5 r1.2.2 r.2.2.2.2 0) hQ (.inr ⟨.inr (.inr (.inl ⟨rfl,g0.1,g1.1,?_⟩)),?_⟩) 3 x2 [p] C j) fun q S=>aC.2 S
   ·exact fun e=>a8 (g1.2.symm.trans e)
   ·show _=cV V1 r1.2.2 / cV V1 r.2.2.2.2;rw[g0.2,g1.2]
  generalize ((F*D:Int):Rat) / ((z:Int):Rat)=Q at*;refine Ok.bd O ?_;rintro r2 ⟨V2,B2,E2,l2⟩;refine Ok.bd (ya E B2 E2 l2 (by omega) (c:=0) (by omega) 3 x2 [p] C j) ?_;rintro r3 ⟨V3,B3,E3,l3⟩;have a0:jE V3 r3.2.2 ((0:Int):Rat):=E3 0 (by simp);have a1:jE V3 r2.2.2 Q:=E3 1 (by simp);have T:Ok (aP n 3 x2 [p] C j r3.1 r3.2.1 r3.2.2 r2.2.2) fun v=>jn m ((r3.2.2,((0:Int):Rat))::(r2.2.2,Q)::(r1.2.2,((F*D:Int):Rat))::[(i,((D:Int):Rat)),(r.2.2.2.2,((z:Int):Rat))]) (300+2+1+1+1) Q v:=by
   unfold aP;refine Ok.bd (oK E B3 E3 l3 (by omega) (aD.mk 2 r3.2.2 r2.2.2 0) hQ (.inr ⟨.inr (.inl ⟨.inl rfl,a0.1,a1.1⟩),?_⟩) 3 x2 [p] C j) fun q S=>aC.2 S
   show _=cV V3 r3.2.2+cV V3 r2.2.2;rw[a0.2,a1.2];show Q=((0:Int):Rat)+Q;rw[Rat.intCast_zero,Rat.zero_add]
  refine Ok.bd T ?_;rintro r4 ⟨V4,B4,E4,l4⟩;refine Ok.gd U (Ok.bd (R:=fun v=>∃V,jY m v.1 v.2.1 V/\jE V v.2.2 Q/\v.1.length<=1000) ?_ ?_)
  ·unfold cS;refine Ok.bd (ya E B4 E4 l4 (by omega) (c:=0) (by omega) 3 x2 [p] C j) ?_;rintro r5 ⟨V5,B5,E5,l5⟩;have b0:jE V5 r5.2.2 ((0:Int):Rat):=E5 0 (by simp);have b1:jE V5 r4.2.2 Q:=E5 1 (by simp);unfold aZ;refine Ok.bd (R:=fun v=>∃V,jY m v.1 v.2.1 V/\jE V v.2.2 Q/\v.1.length<=1000) (Ok.bd (oK E B5 E5 l5 (by omega) (aD.mk 3 r4.2.2 r5.2.2 0) hQ (.inr ⟨.inr (.inl ⟨.inr (.inl rfl),b1.1,b0.1⟩),?_⟩) 3 x2 [p] C j) ?_) (fun q S=>aC.2 S)
   ·show _=cV V5 r4.2.2-cV V5 r5.2.2;rw[b0.2,b1.2];show Q=Q-((0:Int):Rat);rw[Rat.intCast_zero];grind
   ·rintro r6 ⟨V6,B6,E6,l6⟩;exact aC.2 ⟨V6,B6,E6 0 (by simp),Nat.le_trans l6 (by omega)⟩
  ·rintro r6 ⟨V6,B6,h6,l6⟩;exact Ok.bd (A0 B6.tv h6 l6 3 x2 [p] C j) fun q S=>aC.2 S
 refine Ok.cd (fun h=>?_) (fun h=>?_)
 ·obtain rfl:row=1:=by simpa using h
  exact rest _ (-(p.Y-(gt x2 o.A).At.Y)) h2 (by omega)
 ·have b2:row=0:=by
   rcases hr with h'|h'
   ·exact h'
   ·subst h';cases h
  subst b2;exact rest _ (p.X-(gt x2 o.A).At.X) h1 (by omega)
end Go.L


set_option linter.all false
namespace Go.L
open Go Go.Eng
def eZ(F H:Int)(q:aE):ah:=ah.mk (au.mk q.X q.Y H) (aT.mk 0 1 0 0) F (aE.mk 0 0)
def eC(i:Nat):ar:=ar.mk 0 (i:Int) 0 0 (A2.mk 0 0) 1
def jt(P:List aE)(F H:Int)(p:au):aJ:=aJ.mk 3 (P.map (eZ F H)) [p] ((List.range P.length).map eC)
structure Ag (P:List aE) (F H:Int) (p:au):Prop where
 n:P.length<=12
 f:1<=F/\F<=1048576
 h:-1048576<=H/\H<=1048576
 P:∀q∈P,(-1048576<=q.X/\q.X<=1048576)/\ -1048576<=q.Y/\q.Y<=1048576
 pb:((-1048576<=p.X/\p.X<=1048576)/\(-1048576<=p.Y/\p.Y<=1048576))/\ -1048576<=p.Z/\p.Z<=1048576
 z:p.Z<H
theorem C2{α β:Type}[Inhabited α][Inhabited β]{f:α->β}{l:List α}{k:Nat}(h:k<l.length):(l.map f).getD k default=f (l.getD k default):=by simp[List.getD,h]
theorem yg{α:Type}[Inhabited α]{l:List α}{k:Nat}(h:k<l.length):l.getD k default∈l:=by simp only[List.getD,geT h,Option.getD_some];exact List.getElem_mem h
theorem zK{N k:Nat}(h:k<N):gt ((List.range N).map eC) (k:Int)=eC k:=by
 rw[dQ];simp[List.getD,h]
theorem DO{P:List aE}{F H:Int}{k:Nat}(h:k<P.length):gt (P.map (eZ F H)) (k:Int)=eZ F H (P.getD k default):=by rw[dQ,C2 h]
theorem BD{n:Nat}(q:10<n){lim:Int}(z:0<=lim/\lim<=9223372036854775807){s:List Int}(h:∀x∈s,-lim<=x/\x<=lim)(C:s.length<=5):kP n lim s=some false:=by
 apply Ok.eq;unfold kP cQ di;refine Ok.bd (R:=fun v=>v=false) (Ok.bd (R:=fun v=>v=-1) (Ok.bd (R:=fun o=>o=Sum.inl ()) (lS (len:=s.length) (fun _=>True) (by omega) (by omega) trivial ?_ ?_) ?_) ?_) ?_
 ·intro again k hk _ j;have hm:=h _ (yg hk);refine Ok.cd (fun _=>Ok.gd (by rw[bm];exact decide_eq_true hk) ?_) (fun h=>by have:=dcF h;omega);refine Ok.bde (b:=false) ?_ (Ok.cd (fun h=>by cases h) (fun _=>j trivial));unfold nK;rw[dQ,wrap64_in (by omega) (by omega),decide_eq_false (by omega),decide_eq_false (by omega)];rfl
 ·intro again _;exact Ok.cd (fun h=>by have:=dcT h;omega) (fun _=>aC.2 rfl)
 ·rintro o rfl;exact aC.2 rfl
 ·rintro v rfl;exact aC.2 rfl
 ·rintro v rfl;exact aC.2 rfl
theorem F4{n:Nat}(C:10<n){a:Int}{x1:Int}{x2:List ah}{j:List au}{q:List ar}(h:0<=a/\a<(x2.length:Int)):cn n [a] x1 x2 j q=some false:=by
 obtain⟨m,rfl⟩:∃m,n=m+2:=⟨n-2,by omega⟩;apply Ok.eq;unfold cn cW;refine Ok.bd (R:=fun v=>v=-1) (Ok.bd (R:=fun o=>o=Sum.inl ()) (lS (len:=1) (fun _=>True) (by omega) (by omega) trivial ?_ ?_) ?_) ?_
 ·intro again k hk _ z;obtain rfl:k=0:=by omega
  refine Ok.cd (fun _=>Ok.gd rfl (Ok.bde (b:=false) ?_ (Ok.cd (fun h=>by cases h) (fun _=>z trivial)))) (fun h=>by cases h);show jZ _ a _ _ _ _=_;unfold jZ;rw[decide_eq_false (by omega),decide_eq_false (by omega)];rfl
 ·intro again _;exact Ok.cd (fun h=>by cases h) (fun _=>aC.2 rfl)
 ·rintro o rfl;exact aC.2 rfl
 ·rintro v rfl;exact aC.2 rfl
theorem FR{n:Nat}(q:10<n){x1:Int}{x2:List ah}{p:au}{j:List ar}:cI n [0] x1 x2 [p] j=some false:=by
 obtain⟨m,rfl⟩:∃m,n=m+2:=⟨n-2,by omega⟩;rfl
theorem Ev{n:Nat}(D:5000<=n){P:List aE}{F H:Int}{p:au}(w:Ag P F H p):lK n (jt P F H p)=some 0:=by
 have C:=w.n;have z:(P.map (eZ F H)).length=P.length:=List.length_map ..;have hO:((List.range P.length).map eC).length=P.length:=by simp
 apply Ok.eq;unfold lK jt;dsimp only;refine Ok.gd rfl (Ok.cd (fun h=>by cases h) (fun _=>?_));refine Ok.cd (fun h=>by have:=dcT h;omega) (fun _=>Ok.cd (fun h=>by cases h) (fun _=>Ok.cd (fun h=>by have:=dcT h;omega) (fun _=>?_)));refine Ok.bd (R:=fun o=>o=Sum.inl ()) (lS (len:=(P.map (eZ F H)).length) (fun _=>True) (by omega) (by omega) trivial ?_ ?_) ?_
 ·intro again k hk _ j;rw[z]at hk;refine Ok.cd (fun _=>Ok.gd (by rw[bm,z];exact decide_eq_true hk) (Ok.bde (b:=0) ?_ (Ok.cd (fun h=>by cases h) (fun _=>j trivial)))) (fun h=>by have:=dcF h;omega);rw[DO hk];have E:=w.P _ (yg hk);have I:=w.h;have J:=w.f;unfold iV eZ;dsimp only;rw[BD (by omega) (by omega) (by
   intro x q;simp only[List.mem_cons,List.not_mem_nil,or_false]at q;omega) (by simp)]
  apply Ok.eq;refine Ok.bde rfl (Ok.cd (fun h=>by cases h) (fun _=>Ok.cd (fun h=>by have:=dcT h;omega) (fun _=>Ok.cd (fun h=>by have:=dcT h;omega) (fun _=>Ok.bde (b:=0) rfl (Ok.cd (fun h=>by cases h) (fun _=>Ok.gd rfl (aC.2 rfl)))))))
 ·intro again _;exact Ok.cd (fun h=>by have:=dcT h;omega) (fun _=>aC.2 rfl)
 rintro o rfl;refine Ok.bd (R:=fun o=>o=Sum.inl ()) (lS (len:=1) (fun _=>True) (by omega) (by omega) trivial ?_ ?_) ?_
 ·intro again k hk _ j;obtain rfl:k=0:=by omega
  refine Ok.cd (fun _=>Ok.gd rfl ?_) (fun h=>by cases h);have hp:=w.pb;rw[show gt [p] ((0:Nat):Int)=p from rfl,BD (by omega) (by omega) (by
   intro x q;simp only[List.mem_cons,List.not_mem_nil,or_false]at q;omega) (by simp)]
  exact Ok.bde rfl (Ok.cd (fun h=>by cases h) (fun _=>Ok.gd rfl (j trivial)))
 ·intro again _;exact Ok.cd (fun h=>by cases h) (fun _=>aC.2 rfl)
 rintro o rfl;refine Ok.bd (R:=fun o=>o=Sum.inl ()) (lS (len:=((List.range P.length).map eC).length) (fun _=>True) (by omega) (by omega) trivial ?_ ?_) ?_
 ·intro again k hk _ j;rw[hO]at hk;refine Ok.cd (fun _=>Ok.gd (by rw[bm,hO];exact decide_eq_true hk) ?_) (fun h=>by have:=dcF h;omega);rw[zK hk];refine Ok.cd (fun h=>by cases h) (fun _=>Ok.cd (fun h=>by cases h) (fun _=>Ok.bde (b:=[(k:Int)]) rfl ?_));refine Ok.bde (F4 (by omega) (by rw[z];omega)) (Ok.cd (fun h=>by cases h) (fun _=>Ok.bde (b:=[0]) rfl (Ok.bde (FR (by omega)) (Ok.cd (fun h=>by cases h) (fun _=>Ok.bde (b:=false) rfl (Ok.cd (fun h=>by cases h) (fun _=>?_)))))));refine Ok.cd (fun h=>by cases h) (fun _=>Ok.gd rfl (Ok.cd (fun h=>by cases h) (fun _=>?_)));rw[BD (by omega) (by omega) (by
   intro x q;simp only[eC,List.mem_cons,List.not_mem_nil,or_false]at q;omega) (by simp)]
  exact Ok.bde rfl (Ok.cd (fun h=>by cases h) (fun _=>j trivial))
 ·intro again _;exact Ok.cd (fun h=>by have:=dcT h;omega) (fun _=>aC.2 rfl)
 rintro o rfl;exact aC.2 rfl
def kG(j:Int):List Int:=if j=0 then[0,1,2,3,4,5]else[0,1,2]
def jg(j:Int)(k:Nat):List (A3 Int):=(List.range k).flatMap fun i:Nat=>(kG j).map fun a=>A3.mk j (i:Int) a
def lC(N:Nat):List (A3 Int):=jg 0 N++jg 1 1
theorem Fw(j:Int):(kG j).length<=6:=by unfold kG;split<;>simp
theorem uG(j:Int):∀k,(jg j k).length=k*(kG j).length
 |0=>by simp[jg]
 |k+1=>by
  have:=uG j k;unfold jg at this ⊢;rw[List.range_succ,List.flatMap_append,List.length_append,this];simp[Nat.add_mul]
theorem DV(j:Int)(k:Nat):jg j (k+1)=jg j k++(kG j).map fun a=>A3.mk j (k:Int) a:=by
 unfold jg;rw[List.range_succ,List.flatMap_append];simp
theorem FX{n:Nat}{j:Int}:iZ n 3 j=some (kG j):=by
 unfold iZ kG;by_cases h:j=0
 ·subst h;rfl
 ·have:(j==0)=false:=beq_eq_false_iff_ne.2 h;rw[this,if_neg h];rfl
theorem xv{n:Nat}(hn:5000<=n){P:List aE}{F H:Int}{p:au}(Y:P.length<=12):iq n (jt P F H p)=some (lC P.length):=by
 have hS:(P.map (eZ F H)).length=P.length:=List.length_map ..;have hO:((List.range P.length).map eC).length=P.length:=by simp
 apply Ok.eq;unfold iq jt;dsimp only;refine Ok.bd (R:=fun _=>True) (lS (len:=((List.range P.length).map eC).length) (fun _=>True) (by omega) (by omega) trivial ?_ ?_) ?_
 ·intro again k hk _ U;rw[hO]at hk;refine Ok.cd (fun _=>Ok.gd (by rw[bm,hO];exact decide_eq_true hk) ?_) (fun h=>by have:=dcF h;omega);rw[zK hk];exact Ok.gd rfl (U trivial)
 ·intro again _;exact Ok.cd (fun h=>by have:=dcT h;omega) (fun _=>aC.2 trivial)
 rintro _-;refine Ok.bd (R:=fun o=>o=lC P.length) (eh (len:=2) (fun k c=>c=if k=0 then[]else if k=1 then jg 0 P.length else lC P.length) (by omega) (by omega) rfl ?_ ?_) (fun o ho=>aC.2 ho)
 ·rintro again k c hk rfl U;refine Ok.cd (fun _=>Ok.gd (iH.2 (by simp;omega)) ?_) (fun h=>by have:=dcF h;omega);have one:∀(base:List (A3 Int)) (q:Int) (cnt:Nat),base.length<=100->cnt<=12->gt [((P.map (eZ F H)).length:Int),(([p]:List au).length:Int)] q=(cnt:Int)->
    Ok (aV (α:=List (A3 Int)×Int) (β:=List (A3 Int)) n (fun J (E,I)=>(
     cdO (decide (I<(gt [((P.map (eZ F H)).length:Int),(([p]:List au).length:Int)] q))) (
      bdO (iZ n 3 q) fun O=>(
      bdO (aV (α:=List (A3 Int)×Int) (β:=List (A3 Int)) n (fun C (z,D)=>(
       cdO (decide (D<(O.length:Int))) (
        gdO (inR D O.length) (
        cdO (!(getM false ([]:List (A3 Int×Bool)) (A3.mk q I (gt O D)))) (
         gdO (decide ((z.length+1)*24<=140737488355328)) (
         gdO (decide (z.length+1<=4611686018427387904)) (
         C (z++[A3.mk q I (gt O D)],Hy (D+1))
         )
         )
        ) (
         C (z,Hy (D+1))
        )
        )
       ) (
        some (z)
       )
      )) (E,0)) fun N=>(
       J (N,Hy (I+1))
      )
      )
     ) (
      some (E)
     )
    )) (base,0)) (fun o=>o=base++jg q cnt):=by
   intro base q cnt hb hc hg;refine eh (len:=cnt) (fun j c=>c=base++jg q j) (by omega) (by omega) (by simp[jg]) ?_ ?_
   ·rintro S j c hj rfl Z;have a7:=uG q j;have a1:=Fw q;have a8:j*(kG q).length<=12*6:=Nat.mul_le_mul (by omega) a1;refine Ok.cd (fun _=>Ok.bde FX ?_) (fun h=>by have:=dcF h;omega);refine Ok.bd (R:=fun o=>o=base++jg q (j+1)) (eh (len:=(kG q).length) (fun i c=>c=base++jg q j++((kG q).take i).map fun a=>A3.mk q (j:Int) a) (by omega) (by omega) (by simp) ?_ ?_) ?_
    ·rintro T i c hi rfl a6;refine Ok.cd (fun _=>Ok.gd (by rw[bm];exact decide_eq_true hi) (Ok.cd (fun _=>?_) (fun h=>by cases h))) (fun h=>by have:=dcF h;omega);have hl:(base++jg q j++((kG q).take i).map fun a=>A3.mk q (j:Int) a).length<=200:=by
      rw[List.length_append,List.length_append,List.length_map,List.length_take];omega
     refine Ok.gd (decide_eq_true (by omega)) (Ok.gd (decide_eq_true (by omega)) (a6 _ ?_));rw[List.take_add_one,geT hi,List.map_append,<-List.append_assoc,dQ];simp[List.getD,hi]
    ·rintro T c rfl;refine Ok.cd (fun h=>by have:=dcT h;omega) (fun _=>aC.2 ?_);rw[List.take_length,DV,List.append_assoc]
    ·rintro o rfl;exact Z _ rfl
   ·rintro S c rfl;exact Ok.cd (fun h=>by have:=dcT h;omega) (fun _=>aC.2 rfl)
  rcases (by omega:k=0\/k=1)with rfl|rfl
  ·refine Ok.bd (one [] 0 P.length (by simp) Y (by rw[show gt [((P.map (eZ F H)).length:Int),(([p]:List au).length:Int)] 0=((P.map (eZ F H)).length:Int)from rfl,hS])) ?_;rintro o rfl;exact U _ rfl
  ·have hl:=uG 0 P.length;have h6:(kG 0).length=6:=rfl;refine Ok.bd (one (jg 0 P.length) 1 1 (by rw[hl,h6];omega) (by omega) rfl) ?_;rintro o rfl;exact U _ rfl
 ·rintro again c rfl;exact Ok.cd (fun h=>by cases h) (fun _=>aC.2 rfl)
theorem CL(N:Nat):(lC N).length=3+6*N:=by
 unfold lC;rw[List.length_append,uG,uG,show(kG 0).length=6 from rfl,show(kG 1).length=3 from rfl];omega
theorem EF{N:Nat}{q i j:Int}(h:(q=0/\0<=i/\i<(N:Int)/\0<=j/\j<6)\/(q=1/\i=0/\0<=j/\j<3)):A3.mk q i j∈lC N:=by
 unfold lC jg;rw[List.mem_append];rcases h with⟨rfl,h1,D,z,C⟩|⟨rfl,rfl,z,C⟩
 ·refine .inl (List.mem_flatMap.2 ⟨i.toNat,List.mem_range.2 (by omega),List.mem_map.2 ⟨j,?_,by congr 1;omega⟩⟩);show j∈[0,1,2,3,4,5];simp only[List.mem_cons,List.not_mem_nil,or_false];omega
 ·refine .inr (List.mem_flatMap.2 ⟨0,by simp,List.mem_map.2 ⟨j,?_,rfl⟩⟩);show j∈[0,1,2];simp only[List.mem_cons,List.not_mem_nil,or_false];omega
theorem xh{n:Nat}(D:5000<=n){P:List aE}{F H:Int}{p:au}(q:P.length<=12):Ok (fz n (jt P F H p)) fun r=>r.1=3/\r.2.1=P.map (eZ F H)/\r.2.2.1=[p]/\r.2.2.2.1=(List.range P.length).map eC/\wo (3+6*P.length) (P.map (eZ F H)).length r.2.2.2.2:=by
 have J:=CL P.length;unfold fz;refine Ok.bde (xv D q) (Ok.bd (R:=fun o=>∀key∈lC P.length,kz o key=true/\inR (getM 0 o key) (3+6*P.length)=true) (eh (len:=(lC P.length).length) (fun k c=>∀key∈(lC P.length).take k,kz c key=true/\inR (getM 0 c key) (3+6*P.length)=true) (by omega) (by omega) (by simp) ?_ ?_) ?_)
 ·rintro again k c hk hc E;refine Ok.cd (fun _=>Ok.gd (by rw[bm];exact decide_eq_true hk) (E _ ?_)) (fun h=>by have:=dcF h;omega);intro key j;rw[List.take_add_one,geT hk,List.mem_append]at j;rw[xF,xj,dQ];have e:(lC P.length).getD k default=(lC P.length)[k]:=by simp[List.getD,hk]
  rw[e];by_cases he:key=(lC P.length)[k]
  ·rw[if_pos he,he,beq_self_eq_true];exact⟨rfl,iH.2 (by omega)⟩
  ·rw[if_neg he];rcases j with h|h
   ·obtain⟨a,b⟩:=hc key h;exact⟨by rw[a,Bool.or_true],b⟩
   ·exact absurd (by simpa using h) he
 ·rintro again c hc;rw[List.take_length]at hc;exact Ok.cd (fun h=>by have:=dcT h;omega) (fun _=>aC.2 hc)
 ·rintro o I;refine aC.2 ⟨rfl,rfl,rfl,rfl,fun z i C h=>I _ (EF ?_)⟩;rw[List.length_map]at h;exact h
end Go.L

