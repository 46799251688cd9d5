import Derived.Test.YtfclmnpffhbcpaaGreatPldL55z
set_option linter.all false
namespace Go.L
open Go Go.Eng
theorem xL{n:Nat}{f:aK}(hn:1000<=n)(h1:f.Strips.length<n/\f.Strips.length<=2000000)(h2:(pts f).length<=300):jN n f=some (xy f):=by
 apply Ok.eq;unfold jN xy;refine Ok.bde (qZ ..) (Ok.cd (fun h=>aC.2 ?_) (fun Y=>?_))
 ·rw[Ch.2 (kF h)];rfl
 rw[wN.2 (mU Y),Bool.false_or];clear Y;unfold pts at*;refine Ok.bd (R:=fun o=>match o with|.inl v=>v=(f.Strips.flatten.length:Int)/\f.Strips.flatten.any tA=false|.inr r=>r=2/\f.Strips.flatten.any tA=true) ?_ ?_
 ·refine eh (len:=f.Strips.length) (fun k (c:Int)=>c=((f.Strips.take k).flatten.length:Int)/\∀j,j<k->(f.Strips.getD j default).any tA=false) (by omega) (by omega) ⟨by simp,fun j E=>by omega⟩ ?_ ?_
  ·rintro again k c hk ⟨rfl,q⟩ Z;have hs:=sR f.Strips hk;refine Ok.cd (fun _=>Ok.gd (by rw[bm];simpa using hk) ?_) (fun h=>by simp at h;omega);rw[dQ];have I:=jF f.Strips hk;have J:=fun h=>Bg f.Strips tA hk h
   generalize N:f.Strips.getD k default=l at*;refine Ok.bd (R:=fun o=>match o with|.inl v=>v=(((f.Strips.take k).flatten.length+l.length:Nat):Int)/\l.any tA=false|.inr r=>r=2/\l.any tA=true) ?_ ?_
   ·refine eh (len:=l.length) (fun j (c:Int)=>c=(((f.Strips.take k).flatten.length+j:Nat):Int)/\∀i,i<j->tA (l.getD i default)=false) (by omega) (by omega) ⟨by simp,fun j E=>by omega⟩ ?_ ?_
    ·rintro C j c E ⟨rfl,O⟩ S;refine Ok.cd (fun _=>Ok.gd (by rw[bm];simpa using E) ?_) (fun h=>by simp at h;omega);rw[dQ];have D:tA (l.getD j default)=true->(2:Int)=2/\l.any tA=true:=fun h=>⟨rfl,CX E h⟩
     refine Ok.bde (qZ ..) (Ok.cd (fun h=>aC.2 (D ?_)) (fun g1=>?_))
     ·unfold tA;rw[Ch.2 (kF h)];rfl
     refine Ok.bde (qZ ..) (Ok.cd (fun h=>aC.2 (D ?_)) (fun g2=>?_))
     ·unfold tA;rw[Ch.2 (kF h)];simp
     refine S _ ⟨GX (by omega),fun i hi=>?_⟩;by_cases T:i=j
     ·subst T;unfold tA;rw[wN.2 (mU g1),wN.2 (mU g2)];rfl
     ·exact O i (by omega)
    ·rintro C c ⟨rfl,O⟩;exact Ok.cd (fun h=>by simp at h) (fun _=>aC.2 ⟨rfl,tB.2 O⟩)
   ·rintro(v|r) z
    ·obtain⟨rfl,hl⟩:=z;refine Z _ ⟨by rw[I,List.length_append],fun j E=>?_⟩;by_cases U:j=k
     ·subst U;rw[N];exact hl
     ·exact q j (by omega)
    ·exact aC.2 ⟨z.1,J z.2⟩
  ·rintro again c ⟨rfl,q⟩;exact Ok.cd (fun h=>by simp at h) (fun _=>aC.2 ⟨by rw[List.take_length],Ew _ _ q⟩)
 ·rintro(v|r) z
  ·obtain⟨rfl,z⟩:=z;rw[z];refine Ok.cd (fun h=>aC.2 ?_) (fun h=>aC.2 ?_)
   ·have:=dcT h;rw[if_neg (by simp),if_pos (by omega)]
   ·have:=dcF h;rw[if_neg (by simp),if_neg (by omega)]
  ·obtain⟨rfl,z⟩:=z;exact aC.2 (by rw[z];rfl)
theorem yF{n:Nat}(j:1000<=n){s:aF}{f:aK}(h1:f.Strips.length<n/\f.Strips.length<=2000000)(q:(pts f).length<=300)(ground:Int):pG n s f ground true=some (za s f ground):=by
 apply Ok.eq;unfold pG za;refine Ok.bde (FF n s) (Ok.cd (fun h=>aC.2 ?_) (fun h=>?_))
 ·rw[if_pos (by simpa using h)]
 rw[if_neg (by simpa using h)];refine Ok.bde (xL j h1 q) (Ok.cd (fun h=>aC.2 ?_) (fun h=>?_))
 ·rw[if_pos (by simpa using h)]
 rw[if_neg (by simpa using h)];refine Ok.bde (qZ ..) (Ok.cd (fun h=>aC.2 ?_) (fun h=>?_))
 ·rw[if_pos (Ch.2 (kF h))]
 rw[if_neg (by rw[wN.2 (mU h)];decide)];refine Ok.cd (fun h=>by cases h) (fun _=>?_);exact Ok.cd (fun h=>aC.2 (by rw[if_pos (dcT h)])) (fun h=>aC.2 (by rw[if_neg (dcF h)]))
theorem Bt{n:Nat}(z:1000<=n){ls:List (List aE)}(h1:ls.length<n/\ls.length<=2000000)(C:ls.flatten.length<=300):cj n ls=some ls.flatten:=by
 apply Ok.eq;unfold cj;refine Ok.bd (R:=fun o=>o=((ls.flatten.length:Nat):Int)) ?_ ?_
 ·refine eh (len:=ls.length) (fun k (c:Int)=>c=(((ls.take k).flatten.length:Nat):Int)) (by omega) (by omega) rfl ?_ ?_
  ·rintro again k c hk rfl j;have hs:=sR ls hk;refine Ok.cd (fun _=>Ok.gd (by rw[bm];simpa using hk) ?_) (fun h=>by simp at h;omega);rw[dQ,wrap64_in (n:=(((ls.take k).flatten.length:Nat):Int)+((ls.getD k default).length:Int)) (by omega) (by omega)];refine Ok.gd (by rw[decide_eq_false (by omega)];rfl) (j _ ?_);rw[jF ls hk,List.length_append];omega
  ·rintro again c rfl;exact Ok.cd (fun h=>by simp at h) (fun _=>aC.2 (by rw[List.take_length]))
 ·rintro o rfl;refine Ok.bde (Fy (by omega)) ?_;refine Ok.bd (R:=fun o=>o=ls.flatten) ?_ (fun o q=>aC.2 q);refine eh (len:=ls.length) (fun k (c:List aE)=>c=(ls.take k).flatten) (by omega) (by omega) rfl ?_ ?_
  ·rintro again k c hk rfl j;have hs:=sR ls hk;refine Ok.cd (fun _=>Ok.gd (by rw[bm];simpa using hk) ?_) (fun h=>by simp at h;omega);rw[dQ];refine Ok.gd (decide_eq_true (by omega)) (Ok.gd (decide_eq_true (by omega)) (j _ ?_));rw[jF ls hk]
  ·rintro again c rfl;exact Ok.cd (fun h=>by simp at h) (fun _=>aC.2 (by rw[List.take_length]))
theorem CV{n:Nat}(hn:5000<=n){s:aF}{f:aK}{ground:Int}(ok:OkS s)(h1:f.Strips.length<n/\f.Strips.length<=2000000)(O:(pts f).length<=12)(hp:∀p∈pts f,pt p.X/\pt p.Y)(hh:pt f.Height)(hg:pt ground)(E:¬f.Height<=ground):
  Ok (pv n s f ground) fun v=>
   v.1=(kU (mW (pts f) (4*s.Focal) (s.Along*(f.Height-ground)) (s.Across*(f.Height-ground))) (axM s.Width (4*s.Focal) (s.Along*(f.Height-ground)) ((pts f).map (·.X))) (axM s.Height (4*s.Focal) (s.Across*(f.Height-ground)) ((pts f).map (·.Y))) (257,0,0)).1/\
   Qx v.2.X (Rat.divInt (kU (mW (pts f) (4*s.Focal) (s.Along*(f.Height-ground)) (s.Across*(f.Height-ground))) (axM s.Width (4*s.Focal) (s.Along*(f.Height-ground)) ((pts f).map (·.X))) (axM s.Height (4*s.Focal) (s.Across*(f.Height-ground)) ((pts f).map (·.Y))) (257,0,0)).2.1 (4*s.Focal)) 3/\
   Qx v.2.Y (Rat.divInt (kU (mW (pts f) (4*s.Focal) (s.Along*(f.Height-ground)) (s.Across*(f.Height-ground))) (axM s.Width (4*s.Focal) (s.Along*(f.Height-ground)) ((pts f).map (·.X))) (axM s.Height (4*s.Focal) (s.Across*(f.Height-ground)) ((pts f).map (·.Y))) (257,0,0)).2.2 (4*s.Focal)) 3:=by
 have a7:=ok.fo;obtain⟨e1,b1,b2⟩:=xf ok hh hg E ok.al;obtain⟨e2,b3,b4⟩:=xf ok hh hg E ok.ac;unfold pv;rw[e1,e2];clear e1 e2;refine Ok.bde (Bt (by omega) h1 (by unfold pts at O;omega)) ?_;change Ok (bdO _ _) _;rw[show f.Strips.flatten=pts f from rfl];have I:yh s.Width s.Focal (s.Along*(f.Height-ground)) ((pts f).map (·.X)):=⟨ok.w,ok.fo,by omega,by simpa using O,fun x T=>by
  obtain⟨p,J,rfl⟩:=List.mem_map.1 T;exact(hp p J).1⟩
 have N:yh s.Height s.Focal (s.Across*(f.Height-ground)) ((pts f).map (·.Y)):=⟨ok.h,ok.fo,by omega,by simpa using O,fun x T=>by
  obtain⟨p,J,rfl⟩:=List.mem_map.1 T;exact(hp p J).2⟩
 generalize s.Along*(f.Height-ground)=z at*;generalize s.Across*(f.Height-ground)=C at*;generalize a8:pts f=P at*;refine Ok.bd (R:=fun o=>o=(P.map (·.X),P.map (·.Y))) ?_ ?_
 ·refine oY (σ:=List Int×List Int×Int) (fun(c:List Int×List Int) x=>(c.1,c.2,x)) (len:=P.length) (fun k (c:List Int×List Int)=>c=((P.take k).map (·.X),(P.take k).map (·.Y))) (by omega) (by omega) (c0:=([],[])) rfl ?_ ?_
  ·rintro again k c hk rfl Z;dsimp only;have lk:(P.take k).length<=12:=by rw[List.length_take];omega
   refine Ok.cd (fun _=>Ok.gd (by rw[bm];simpa using hk) ?_) (fun h=>by simp at h;omega);rw[dQ,List.length_map,List.length_map];refine Ok.gd (decide_eq_true (by omega)) (Ok.gd (decide_eq_true (by omega)) (Ok.gd (decide_eq_true (by omega)) (Ok.gd (decide_eq_true (by omega)) ?_)));have q:=Z ((P.take (k+1)).map (·.X),(P.take (k+1)).map (·.Y)) rfl;rw[jI hk,List.map_append,List.map_append]at q;exact q
  ·rintro again c rfl;exact Ok.cd (fun h=>by simp at h) (fun _=>aC.2 (by rw[List.take_length]))
 ·rintro o rfl;dsimp only;refine Ok.bde (DP (by omega) I) (Ok.bde (DP (by omega) N) ?_);have lx:=zf s.Width (4*s.Focal) z (P.map (·.X));have ly:=zf s.Height (4*s.Focal) C (P.map (·.Y));rw[List.length_map]at lx ly;have ix:=BL I;have iy:=BL N;have nx:=I.nu;have ny:=N.nu;generalize axM s.Width (4*s.Focal) z (P.map (·.X))=L at*;generalize axM s.Height (4*s.Focal) C (P.map (·.Y))=L' at*;dsimp only;refine Ok.bd (R:=fun o=>o=kU (mW P (4*s.Focal) z C) L L' (257,0,0)) ?_ ?_
  ·refine oY (σ:=Int×Int×Int×Int) (fun(c:Int×Int×Int) x=>(c.1,c.2.1,c.2.2,x)) (len:=L.length) (fun k (c:Int×Int×Int)=>c=kU (mW P (4*s.Focal) z C) (L.take k) L' (257,0,0)) (by omega) (by omega) (c0:=(257,0,0)) rfl ?_ ?_
   ·rintro again k c hk rfl Z;dsimp only;refine Ok.cd (fun _=>?_) (fun h=>by simp at h;omega);have hs:kU (mW P (4*s.Focal) z C) (L.take (k+1)) L' (257,0,0)=nf (mW P (4*s.Focal) z C) (L.getD k default) L' (kU (mW P (4*s.Focal) z C) (L.take k) L' (257,0,0)):=by
     unfold kU;rw[jI hk,List.foldl_append];rfl
    have q:=Z _ hs.symm;generalize kU (mW P (4*s.Focal) z C) (L.take k) L' (257,0,0)=c0 at*;refine Ok.bd (R:=fun o=>o=nf (mW P (4*s.Focal) z C) (L.getD k default) L' c0) ?_ (fun o ho=>by subst ho;exact q);refine oY (σ:=Int×Int×Int×Int) (fun(c:Int×Int×Int) x=>(c.1,c.2.1,c.2.2,x)) (len:=L'.length) (fun j (c:Int×Int×Int)=>c=nf (mW P (4*s.Focal) z C) (L.getD k default) (L'.take j) c0) (by omega) (by omega) (c0:=c0) rfl ?_ ?_
    ·rintro D j c U rfl a1;dsimp only;refine Ok.cd (fun _=>Ok.gd (by rw[bm,List.length_map];simpa using hk) (Ok.gd (by rw[bm,List.length_map];simpa using U) ?_)) (fun h=>by simp at h;omega);rw[dQ,dQ,getD_map hk,getD_map U,dQ,dQ];have a6:nf (mW P (4*s.Focal) z C) (L.getD k default) (L'.take (j+1)) c0=(fun c m'=>if mW P (4*s.Focal) z C (L.getD k default) m'<c.1 then(mW P (4*s.Focal) z C (L.getD k default) m',L.getD k default,m')else c) (nf (mW P (4*s.Focal) z C) (L.getD k default) (L'.take j) c0) (L'.getD j default):=by
      unfold nf;rw[jI U,List.foldl_append];rfl
     have S:=a1 _ rfl;rw[a6]at S;generalize nf (mW P (4*s.Focal) z C) (L.getD k default) (L'.take j) c0=c1 at*;dsimp only at S;refine Ok.bde (GI (by omega) O (4*s.Focal) z C (L.getD k default) (L'.getD j default)) ?_;refine Ok.cd (fun h=>?_) (fun h=>?_)
     ·rw[if_pos (dcT h)]at S;exact Ok.gd (by rw[bm];simpa using hk) (Ok.gd (by rw[bm];simpa using U) S)
     ·rw[if_neg (dcF h)]at S;exact S
    ·rintro D c rfl;refine Ok.cd (fun h=>by simp at h) (fun _=>aC.2 ?_);rw[show L'.take L'.length=L' from List.take_length]
   ·rintro again c rfl;refine Ok.cd (fun h=>by simp at h) (fun _=>aC.2 ?_);rw[show L.take L.length=L from List.take_length]
  ·rintro o rfl;have hb:(0<=(kU (mW P (4*s.Focal) z C) L L' (257,0,0)).2.1/\(kU (mW P (4*s.Focal) z C) L L' (257,0,0)).2.1<=4398046511104)/\(0<=(kU (mW P (4*s.Focal) z C) L L' (257,0,0)).2.2/\(kU (mW P (4*s.Focal) z C) L L' (257,0,0)).2.2<=4398046511104):=by
    rcases An (cnt:=mW P (4*s.Focal) z C) (L':=L') L (257,0,0)with h|⟨m,m',h1,O,h3⟩
    ·rw[h];decide
    ·rw[h3];dsimp only;have:=ix m h1;have:=iy m' O;constructor<;>constructor<;>omega
   generalize kU (mW P (4*s.Focal) z C) L L' (257,0,0)=b at*;obtain⟨b1,b2,b3⟩:=b;dsimp only at hb ⊢;rw[wrap64_in (n:=4*s.Focal) (by omega) (by omega)];refine Ok.bd (DR hn (by omega) (by omega) (by omega) (by omega) (by omega)) fun x T=>Ok.bd (DR hn (by omega) (by omega) (by omega) (by omega) (by omega)) fun y hy=>aC.2 ⟨rfl,T.1,hy.1⟩
theorem CP{n:Nat}{x:an}{v q:Int}{k:Nat}(C:5000<=n)(hk:k<=60)(E:0<q)(j:R.Qx x (Rat.divInt v q) k):Ok (fb n x) fun z=>R.Qx z (Rat.divInt (v.natAbs:Int) q) k:=by
 unfold fb;refine Ok.bde (R.xx C hk j) ?_;have e0:sgn (Rat.divInt v q).num=sgn v:=by
  have:=CJ (p:=v) (q:=q) (s:=0) (t:=1) E (by omega);rw[Rat.zero_divInt,Rat.sub_eq_add_neg,show-(0:Rat)=0 from rfl,Rat.add_zero]at this;rw[this,Int.mul_one,Int.zero_mul,Int.sub_zero]
 rw[e0];have hs:=dS v;refine Ok.cd (fun h=>?_) (fun h=>?_)
 ·have h:=dcT h;refine Ok.bd (R.xe C hk j) fun z D=>aC.2 ?_
  rw[Rat.neg_divInt]at D;rw[show(v.natAbs:Int)=-v by omega];exact D
 ·have h:=dcF h;refine Ok.bde (R.gE C hk j) (aC.2 ?_);rw[show(v.natAbs:Int)=v by omega];exact j
def oD(q F z p a:Int):Bool:=decide (2*((p-a*q).natAbs:Int)*F<=z*q)
theorem Dq(C:List Int):(kI C).length=C.length-1:=by simp[kI]
theorem EZ{C:List Int}{k:Nat}(hk:k<C.length-1):(kI C).getD k default=(C.getD k default+C.getD (k+1) default) / 2:=by
 unfold kI;simp[List.getD,hk]
theorem D1{N F z:Int}{xs:List Int}{m:Int}(hm:m∈mk0 N (4*F) z xs):∃h,m=2*h:=by
 unfold mk0 at hm;rcases List.mem_append.1 hm with hm|hm
 ·simp at hm;rcases hm with hm|hm
  ·exact⟨0,by omega⟩
  ·exact⟨N*(2*F),by rw[hm];grind⟩
 ·obtain⟨x,_,j⟩:=List.mem_flatMap.1 hm;have:=(List.mem_filter.1 j).1;unfold bnd at this;simp at this;rcases this with this|this
  ·exact⟨x*(2*F)-z,by rw[this];grind⟩
  ·exact⟨x*(2*F)+z,by rw[this];grind⟩
def G3(P:List aE)(q F j z p C:Int):Int:=((P.countP fun t=>oD q F j p t.X&&oD q F z C t.Y:Nat):Int)
theorem Ae{cnt:Int->Int->Int}{m:Int}:∀(L:List Int) (c:Int×Int×Int),(nf cnt m L c).1<=c.1/\∀m'∈L,(nf cnt m L c).1<=cnt m m'
 |[],c=>⟨Int.le_refl _,fun m' h=>by cases h⟩
 |a::L,c=>by
  unfold nf;rw[List.foldl_cons];have h:=Ae (cnt:=cnt) (m:=m) L (if cnt m a<c.1 then(cnt m a,m,a)else c);unfold nf at h;obtain⟨h1,j⟩:=h;have hc:(if cnt m a<c.1 then(cnt m a,m,a)else c).1<=c.1/\(if cnt m a<c.1 then(cnt m a,m,a)else c).1<=cnt m a:=by
   split
   ·dsimp only;omega
   ·omega
  exact⟨by omega,fun m' hm=>by
   rcases List.mem_cons.1 hm with e|hm
   ·rw[e];omega
   ·exact j m' hm⟩
theorem Am{cnt:Int->Int->Int}{L':List Int}:∀(L:List Int) (c:Int×Int×Int),(kU cnt L L' c).1<=c.1/\∀m∈L,∀m'∈L',(kU cnt L L' c).1<=cnt m m'
 |[],c=>⟨Int.le_refl _,fun m h=>by cases h⟩
 |a::L,c=>by
  unfold kU;rw[List.foldl_cons];have h:=Am (cnt:=cnt) (L':=L') L (nf cnt a L' c);unfold kU at h;obtain⟨h1,q⟩:=h;obtain⟨C,z⟩:=Ae (cnt:=cnt) (m:=a) L' c;exact⟨by omega,fun m hm m' j=>by
   rcases List.mem_cons.1 hm with e|hm
   ·rw[e];have:=z m' j;omega
   ·exact q m hm m' j⟩
def bst(s:aF)(f:aK)(ground:Int):Int×Int×Int:=
 kU (mW (pts f) (4*s.Focal) (s.Along*(f.Height-ground)) (s.Across*(f.Height-ground))) (axM s.Width (4*s.Focal) (s.Along*(f.Height-ground)) ((pts f).map (·.X))) (axM s.Height (4*s.Focal) (s.Across*(f.Height-ground)) ((pts f).map (·.Y))) (257,0,0)
theorem He{s:aF}{f:aK}{ground:Int}(ok:OkS s)(C:(pts f).length<=12)(hp:∀p∈pts f,pt p.X/\pt p.Y)(D:pt f.Height)(E:pt ground)(j:¬f.Height<=ground):
  yh s.Width s.Focal (s.Along*(f.Height-ground)) ((pts f).map (·.X))/\yh s.Height s.Focal (s.Across*(f.Height-ground)) ((pts f).map (·.Y)):=by
 obtain⟨_,I,J⟩:=xf ok D E j ok.al;obtain⟨_,N,O⟩:=xf ok D E j ok.ac;exact⟨⟨ok.w,ok.fo,by omega,by simpa using C,fun x z=>by
  obtain⟨p,q,rfl⟩:=List.mem_map.1 z;exact(hp p q).1⟩,⟨ok.h,ok.fo,by omega,by simpa using C,fun x z=>by
  obtain⟨p,q,rfl⟩:=List.mem_map.1 z;exact(hp p q).2⟩⟩
theorem Bq{s:aF}{f:aK}{ground:Int}(h:za s f ground=0):chk s=0/\pt f.Height/\(∀p∈pts f,pt p.X/\pt p.Y)/\pt ground/\¬f.Height<=ground:=by
 unfold za at h;have c1:chk s=0:=by
  by_cases k:chk s=0
  ·exact k
  ·rw[if_pos k]at h;exact absurd h k
 rw[if_neg (by simpa using c1)]at h;have c2:xy f=0:=by
  by_cases k:xy f=0
  ·exact k
  ·rw[if_pos k]at h;exact absurd h k
 rw[if_neg (by simpa using c2)]at h;have q:far ground=false:=by
  cases k:far ground with
  |false=>rfl
  |true=>rw[if_pos k]at h;cases h
 rw[if_neg (by rw[q];decide)]at h;have z:¬f.Height<=ground:=fun k=>by rw[if_pos k]at h;cases h
 have j:(far f.Height||(pts f).any tA)=false:=by
  cases k:(far f.Height||(pts f).any tA)with
  |false=>rfl
  |true=>unfold xy at c2;rw[if_pos k]at c2;cases c2
 rw[Bool.or_eq_false_iff]at j;refine⟨c1,wN.1 j.1,fun p hp=>?_,wN.1 q,z⟩;have:=List.any_eq_false.1 j.2 p hp;unfold tA at this;simp only[Bool.or_eq_true,not_or,Bool.not_eq_true]at this;exact⟨wN.1 this.1,wN.1 this.2⟩
theorem Ed{C:List Int}{t q:Int}(n:Nat):n<C.length->t<=C.getD n default*q->∃j,j<C.length/\t<=C.getD j default*q/\∀i,i<j->C.getD i default*q<t:=by
 induction n using Nat.strongRecOn with
 |ind n z=>
  intro D h;by_cases k:∃i,i<n/\t<=C.getD i default*q
  ·obtain⟨i,hi,hk⟩:=k;exact z i hi (by omega) hk
  ·exact⟨n,D,h,fun i hi=>by
    have:¬t<=C.getD i default*q:=fun e=>k ⟨i,hi,e⟩
    omega⟩
theorem CN{N F z:Int}{xs:List Int}(h:yh N F z xs){p q:Int}(hq:0<q)(h0:0<=p)(h1:p<=N*q):∃m,m∈axM N (4*F) z xs/\∀D,z<=D->∀x∈xs,mw (4*F) z x m=true->oD q F D p x=true:=by
 have hF:=h.f;have b6:=h.nu;obtain⟨pw,mem⟩:=Br N (4*F) z xs;have m0:0∈mk1 N (4*F) z xs:=(mem 0).2 (by unfold mk0;simp);have mN:N*(4*F)∈mk1 N (4*F) z xs:=(mem _).2 (by unfold mk0;simp);have lift:∀m,m∈mk1 N (4*F) z xs->m∈axM N (4*F) z xs:=fun m hm=>by unfold axM;rw[uO];exact List.mem_append_left _ hm
 have O:∀m,m∈kI (mk1 N (4*F) z xs)->m∈axM N (4*F) z xs:=fun m hm=>by unfold axM;rw[uO];exact List.mem_append_right _ hm
 have S:∀x∈xs,∀b,(b=x*(4*F)-2*z\/b=x*(4*F)+2*z)->0<b->b<N*(4*F)->b∈mk1 N (4*F) z xs:=fun x T b E b0 U=>(mem b).2 (by
  unfold mk0;refine List.mem_append_right _ (List.mem_flatMap.2 ⟨x,T,List.mem_filter.2 ⟨?_,?_⟩⟩)
  ·unfold bnd;rcases E with e|e<;>simp[e]
  ·unfold vq;rw[decide_eq_true b0,decide_eq_true U];rfl)
 have even:∀m,m∈mk1 N (4*F) z xs->∃e,m=2*e:=fun m hm=>D1 ((mem m).1 hm)
 have bd:∀m,m∈mk1 N (4*F) z xs->0<=m/\m<=N*(4*F):=fun m hm=>Bu (by omega) ((mem m).1 hm)
 have test:∀x D,z<=D->(x*(4*F)-2*z)*q<=p*(4*F)->p*(4*F)<=(x*(4*F)+2*z)*q->oD q F D p x=true:=by
  intro x D Y h1 h2;unfold oD;apply decide_eq_true;have b7:z*q<=D*q:=mrT Y (by omega);have e1:(x*(4*F)-2*z)*q=4*(x*q*F)-2*(z*q):=by grind
  have e2:(x*(4*F)+2*z)*q=4*(x*q*F)+2*(z*q):=by grind
  have e3:p*(4*F)=4*(p*F):=by grind
  rcases Int.le_total 0 (p-x*q)with k|k
  ·have e:((p-x*q).natAbs:Int)=p-x*q:=by omega
   rw[e];have e4:2*(p-x*q)*F=2*(p*F)-2*(x*q*F):=by grind
   omega
  ·have e:((p-x*q).natAbs:Int)=-(p-x*q):=by omega
   rw[e];have e4:2*-(p-x*q)*F=2*(x*q*F)-2*(p*F):=by grind
   omega
 have nb:∀{x m:Int},mw (4*F) z x m=true->x*(4*F)-2*z<=m/\m<=x*(4*F)+2*z:=by
  intro x m E;unfold mw at E;rw[Bool.and_eq_true]at E;have a:=dcT E.1;have b:=dcT E.2;omega
 have hmul:∀{a b:Int},a<=b->a*q<=b*q:=fun R=>mrT R (by omega)
 have a6:∀{a b:Int},a*q<b*q->a<b:=fun R=>Int.lt_of_mul_lt_mul_right R (by omega)
 have I:∀m,m∈mk1 N (4*F) z xs->m*q=p*(4*F)->∃m,m∈axM N (4*F) z xs/\∀D,z<=D->∀x∈xs,mw (4*F) z x m=true->oD q F D p x=true:=fun m hm e=>⟨m,lift m hm,fun D Y x T E=>by
  obtain⟨U,b2⟩:=nb E;have c1:=hmul U;have c2:=hmul b2;exact test x D Y (by omega) (by omega)⟩
 have mono:∀i j,i<=j->j<(mk1 N (4*F) z xs).length->(mk1 N (4*F) z xs).getD i default<=(mk1 N (4*F) z xs).getD j default:=fun i j a7 hj=>by
  rcases Nat.eq_or_lt_of_le a7 with e|k
  ·subst e;exact Int.le_refl _
  ·exact Eb (pw.imp fun h=>by omega) i j k hj
 obtain⟨iN,a8,eN⟩:=DY mN;have t1:p*(4*F)<=N*(4*F)*q:=by
  have:=mrT h1 (show 0<=4*F by omega);have e:N*q*(4*F)=N*(4*F)*q:=by grind
  omega
 obtain⟨j,hj,b8,J⟩:=Ed (C:=mk1 N (4*F) z xs) (t:=p*(4*F)) (q:=q) iN a8 (by rw[eN];exact t1);have mj:=sE hj;by_cases e:(mk1 N (4*F) z xs).getD j default*q=p*(4*F)
 ·exact I _ mj e
 have b9:0<j:=by
  rcases Nat.eq_zero_or_pos j with k|k
  ·subst k;obtain⟨i0,b3,e0⟩:=DY m0;have:=mono 0 i0 (by omega) b3;rw[e0]at this;have:=hmul this;have t0:0<=p*(4*F):=Int.mul_nonneg h0 (by omega);omega
  ·exact k
 have E:=J (j-1) (by omega);have Z:=sE (l:=mk1 N (4*F) z xs) (k:=j-1) (by omega);have a1:∀b,b∈mk1 N (4*F) z xs->b<=(mk1 N (4*F) z xs).getD (j-1) default\/(mk1 N (4*F) z xs).getD j default<=b:=by
  intro b b4;obtain⟨i,hi,eb⟩:=DY b4;rcases Nat.lt_or_ge i j with k|k
  ·left;rw[<-eb];exact mono i (j-1) (by omega) (by omega)
  ·right;rw[<-eb];exact mono j i k hi
 have b5:((mk1 N (4*F) z xs).getD (j-1) default+(mk1 N (4*F) z xs).getD j default) / 2∈kI (mk1 N (4*F) z xs):=by
  have:=sE (l:=kI (mk1 N (4*F) z xs)) (k:=j-1) (by rw[Dq];omega);rw[EZ (by omega),show j-1+1=j by omega]at this;exact this
 refine⟨_,O _ b5,?_⟩;obtain⟨a,ea⟩:=even _ Z;obtain⟨b,eb⟩:=even _ mj;have bA:=bd _ Z;have bB:=bd _ mj;generalize (mk1 N (4*F) z xs).getD (j-1) default=A at*;generalize (mk1 N (4*F) z xs).getD j default=B at*;have c0:A<B:=a6 (show A*q<B*q by omega);intro D Y x T hn;obtain⟨U,b2⟩:=nb hn;have em:(A+B) / 2=a+b:=by omega
 rw[em]at U b2;refine test x D Y ?_ ?_
 ·by_cases k:x*(4*F)-2*z<=A
  ·have:=hmul k;omega
  ·rcases a1 _ (S x T _ (.inl rfl) (by omega) (by omega))with g|g<;>omega
 ·by_cases k:B<=x*(4*F)+2*z
  ·have:=hmul k;omega
  ·rcases a1 _ (S x T _ (.inr rfl) (by omega) (by omega))with g|g<;>omega
theorem Dn{P:List aE}{u j z m m' q F z1 z2 p C:Int}(I:∀x∈P.map (·.X),mw u j x m=true->oD q F z1 p x=true)(J:∀y∈P.map (·.Y),mw u z y m'=true->oD q F z2 C y=true):mW P u j z m m'<=G3 P q F z1 z2 p C:=by
 unfold mW G3;have:=List.countP_mono_left (l:=P) (p:=fun t=>mw u j t.X m&&mw u z t.Y m') (q:=fun t=>oD q F z1 p t.X&&oD q F z2 C t.Y) fun t E D=>by
  rw[Bool.and_eq_true]at D ⊢;exact⟨I _ (List.mem_map_of_mem E) D.1,J _ (List.mem_map_of_mem E) D.2⟩
 omega
end Go.L

