import Derived.Test.YtlhnaccgnegjdaaGreatNesL51sd
import Derived.Test.YtlhnaccgnegjdaaGreatNesLsrt
import Derived.Test.YtlhnaccgnegjdaaGreatNesL51sd
set_option linter.all false
namespace Go.L
open Go Go.Eng
theorem Gn{g:ak}{w h:Nat}(j:Gd g w h){c:an}{r:Rat}(he:mO (gY g w h) c.A c.B=true)(m:Qx c.At r 16)(h0:0<=r)(h1:r<=1):
  ∃p,dO 20000 g c=some (p,0)/\Qx p.X (nO r (pxG g c.A) (pxG g c.B)) 27/\Qx p.Y (nO r (pyG g c.A) (pyG g c.B)) 27:=by
 obtain⟨i0,i1,i2⟩:=Ao j he;have v1:=p6 (n:=20000) (by omega) (by omega) m;have s1:=u5 (n:=20000) (by omega) (by omega) m;obtain⟨o1,C,D⟩:=mW (n:=20000) (v:=1) (by omega) (by omega) (by omega);obtain⟨k1,E,q⟩:=Gq (n:=20000) (by omega) (by omega) (by omega) m D;have one:Rat.divInt 1 1=1:=by rw[pr];rfl
 rw[one]at q;have e1:decide (sgn r.num<0)=false:=decide_eq_false (by have:=(Eh (a:=r));grind);have e2:decide (k1>0)=false:=decide_eq_false (fun hh=>by have:=q.1 hh;grind);obtain⟨⟨x1,I⟩,y1,J⟩:=E8 j i0 (by omega:c.A<g.Z.length);obtain⟨⟨x2,M⟩,y2,N⟩:=E8 j (by omega:0<=c.B) i2;have P1:Ok (bdO (dQ 20000 (pxG g c.A) (pxG g c.B) c.A c.B c.At.Num.Negative c.At.Num.Groups c.At.Den.Negative c.At.Den.Groups) fun O=>bdO (dQ 20000 (pyG g c.A) (pyG g c.B) c.A c.B c.At.Num.Negative c.At.Num.Groups c.At.Den.Negative c.At.Den.Groups) fun T=>some (al.mk O T,(0:Int))) fun r1=>r1.2=0/\Qx r1.1.X (nO r (pxG g c.A) (pxG g c.B)) 27/\Qx r1.1.Y (nO r (pyG g c.A) (pyG g c.B)) 27:=
  Ok.bd (CY m I M _ _) fun u hu=>Ok.bd (CY m J N _ _) fun v hv=>aw.2 ⟨rfl,hu,hv⟩
 obtain⟨⟨p,z⟩,U,hz,hX,hY⟩:=P1;dsimp only at hz hX hY;subst hz;refine⟨p,?_,hX,hY⟩;unfold dO;rw[Fm (by omega) j,he];show bdO (fF 20000 c.At) _=_;rw[v1];show bdO (bdO (dq 20000 c.At) _) _=_;rw[s1];show bdO (cdO (decide (sgn r.num<0)) _ (bdO (di 20000 1) _)) _=_;rw[e1,C];show bdO (bdO (fr 20000 c.At o1) _) _=_;rw[E];show cdO (decide (k1>0)) _ (gdO (!decide (g.Width=0)) _)=_;rw[e2,x1,x2,y1,y2,show(!decide (g.Width=0))=true by have:=j.dim.w;simp;omega];exact U
structure Ce (g:ak) (w h:Nat) (level:Int) (e:K2):Prop where
 cr:Cr g.Z level e
 ab:abv g.Z level e.e0≠abv g.Z level e.e1
 ed:mO (gY g w h) e.e0 e.e1=true
theorem F9{g:ak}{level:Int}{w h:Nat}(I:Gd g w h)(hb:g.Z.any qu=false):Ge (rC g w h level) (Ce g w h level):=by
 refine⟨fun q j=>?_⟩;have hc:=(Dd I hb).k q j;unfold rC at j;obtain⟨t,J,e⟩:=List.mem_filterMap.1 j;have mk:∀{a b:Int} {e:K2},e=A2.mk (mn a b) (mx a b)->(a,b)∈dE t->abv g.Z level a≠abv g.Z level b->Cr g.Z level e->Ce g w h level e:=by
  rintro a b e rfl hm p hc;have z:=hc.lt;refine⟨hc,?_,?_⟩
  ·dsimp only;unfold mn mx;by_cases h1:b<a
   ·rw[if_pos h1,if_neg (by omega)];exact fun k=>p k.symm
   ·by_cases h2:a<b
    ·rw[if_neg h1,if_pos h2];exact p
    ·have:a=b:=by omega
     exact absurd (by rw[this]) p
  ·unfold mO;rw[decide_eq_true z,Bool.true_and,List.any_eq_true];refine⟨t,J,?_⟩;rw[Bool.and_eq_true,qd,qd];dsimp only;simp only[dE,List.mem_cons,List.not_mem_nil,or_false,Prod.mk.injEq]at hm;unfold mn mx;rcases hm with⟨rfl,rfl⟩|⟨rfl,rfl⟩|⟨rfl,rfl⟩<;>constructor<;>split<;>simp
 obtain⟨⟨a,b,m,h1,h2,M⟩,c,d,N,C,D,E⟩:=ur e;exact⟨mk M m (by rw[h1,h2];simp) hc.1,mk E N (by rw[C,D];simp) hc.2⟩
section
variable{g:ak}{level:Int}{w h:Nat}
noncomputable def plP(g:ak)(level:Int)(e:K2):al:=((dO 20000 g (crP g level e)).getD default).1
def xG(g:ak)(level:Int)(e:K2):Rat:=nO (crE g.Z level e) (pxG g e.e0) (pxG g e.e1)
def yG(g:ak)(level:Int)(e:K2):Rat:=nO (crE g.Z level e) (pyG g e.e0) (pyG g e.e1)
theorem wV(q:Gd g w h)(j:okL level){e:K2}(he:Ce g w h level e):dO 20000 g (crP g level e)=some (plP g level e,0)/\Qx (plP g level e).X (xG g level e) 27/\Qx (plP g level e).Y (yG g level e) 27:=by
 obtain⟨-,a,b,c⟩:=w9 ⟨j.2.1,j.2.2⟩ he.cr;obtain⟨r0,r1⟩:=EB j.1 he.ab;obtain⟨p,e1,e2,m⟩:=Gn q (c:=crP g level e) (r:=crE g.Z level e) (by rw[a,b];exact he.ed) (QL.mono c (by omega)) (by grind) (by grind);have:plP g level e=p:=by unfold plP;rw[e1];rfl
 rw[this];rw[a,b]at e2 m;exact⟨e1,e2,m⟩
theorem rL{f:an->Option (al×Int)}{cr:K2->an}{pl:K2->al}:∀(l:List K2) (out:List al),(∀e∈l,f (cr e)=some (pl e,0))->jP f (l.map cr) out=some (out++l.map pl,0)
 |[],out,_=>by simp[jP]
 |e::l,out,h=>by
  rw[List.map_cons,jP,h e (by simp)];show jP f (l.map cr) (out++[pl e])=_;rw[rL l _ fun x hx=>h x (List.mem_cons_of_mem _ hx),List.append_assoc];rfl
end
end Go.L


set_option linter.all false
namespace Go.L
open Go Go.Eng
section
variable{S:List (K2×K2)}
end
end Go.L


set_option linter.all false
namespace Go.L
open Go Go.Eng
abbrev R2:=Rat×Rat
def cr3(a b p:R2):Rat:=crQ (a.1-p.1) (a.2-p.2) (b.1-p.1) (b.2-p.2)
def on3(a b p:R2):Bool:=onQ (a.1-p.1) (a.2-p.2) (b.1-p.1) (b.2-p.2)
structure NM (a b c d:R2):Prop where
 hx:¬(cr3 a b c*cr3 a b d<0/\cr3 c d a*cr3 c d b<0)
 hc:on3 a b c=false
 hd:on3 a b d=false
 ha:on3 c d a=false
 hb:on3 c d b=false
theorem NM.symm{a b c d:R2}(h:NM a b c d):NM c d a b:=⟨fun k=>h.hx ⟨k.2,k.1⟩,h.ha,h.hb,h.hc,h.hd⟩
end Go.L


set_option linter.all false
namespace Go.L
open Go Go.Eng
section
variable{w:Nat}{Z:List Int}
theorem d1{a:Nat}:((((a+1:Nat):Int)-(a:Int):Int):Rat)=1:=by rw[show(((a+1:Nat):Int)-(a:Int):Int)=1 by omega,Rat.intCast_one]
end
end Go.L


set_option linter.all false
namespace Go.L
open Go Go.Eng
section
variable{w:Nat}{Z:List Int}
def Dis(l1 l2:Int)(j m:K2×K2):Prop:=l1=l2->j≠m/\∀e,(e=j.1\/e=j.2)->¬(e=m.1\/e=m.2)
theorem Dis.symm{l1 l2:Int}{j m:K2×K2}(h:Dis l1 l2 j m):Dis l2 l1 m j:=fun e=>⟨fun k=>(h e.symm).1 k.symm,fun x hx p=>(h e.symm).2 x p hx⟩
end
end Go.L


set_option linter.all false
namespace Go.L
open Go Go.Eng
theorem GJ{g:ak}{w h:Nat}(m:Gd g w h){c:an}{r:Rat}(he:mO (gY g w h) c.A c.B=true)(q:Qx c.At r 16)(h0:0<=r)(h1:r<=1):
  ∃p,bs 20000 g c=some (p,0)/\R.Qx p.X (nO r (pxG g c.A) (pxG g c.B)) 27/\R.Qx p.Y (nO r (pyG g c.A) (pyG g c.B)) 27:=by
 obtain⟨i0,i1,i2⟩:=Ao m he;have j:R.Qx c.At r 16:=q;have v2:=R.p6 (n:=20000) (by omega) (by omega) j;have s2:=R.AM (n:=20000) (by omega) (by omega) j;obtain⟨U,C,D⟩:=R.mW (n:=20000) (v:=1) (by omega) (by omega) (by omega);have M:=R.lR (n:=20000) (by omega) (by omega) j D;have one:Rat.divInt 1 1=1:=by rw[pr];rfl
 rw[one]at M;have e1:decide (sgn r.num<0)=false:=decide_eq_false (by have:=(Eh (a:=r));grind);have e3:decide (sgn (r-1).num>0)=false:=decide_eq_false (fun hh=>by have:=GX.1 hh;grind);obtain⟨p1,E⟩:=Dp m i0 (by omega:c.A<g.Z.length);obtain⟨p2,I⟩:=Dp m (by omega:0<=c.B) i2;have P2:Ok (whR 20000 p1 p2 c) fun r2=>r2.2=0/\R.Qx r2.1.X (nO r (pxG g c.A) (pxG g c.B)) 27/\R.Qx r2.1.Y (nO r (pyG g c.A) (pyG g c.B)) 27:=
  Dw q E.2.1 I.2.1 fun u hu=>Dw q E.2.2 I.2.2 fun v hv=>aw.2 ⟨rfl,hu,hv⟩
 obtain⟨⟨p,z⟩,J,N,O,T⟩:=P2;dsimp only at N O T;subst N;refine⟨p,?_,O,T⟩;rw[Gr (by omega) m,he];unfold whK;show bdO (bM 20000 c.At) _=_;rw[v2];show bdO (dJ 20000 c.At) _=_;rw[s2];show cdO (decide (sgn r.num<0)) _ (bdO (bO 20000 1) _)=_;rw[e1,C];show bdO (aW 20000 c.At U) _=_;rw[M];show cdO (decide (sgn (r-1).num>0)) _ (bdO (bL 20000 g c.A) _)=_;rw[e3,E.1];show bdO (bL 20000 g c.B) _=_;rw[I.1];exact J
section
variable{g:ak}{level:Int}{w h:Nat}
theorem HQ{S:List (K2×K2)}:∀(f:Nat) (D:K2->Bool) (e:K2),(W S f D e).length<=mu S D+1
 |0,D,e=>by simp[W]
 |f+1,D,e=>by
  unfold W;by_cases j:D e=true
  ·rw[if_pos j];simp
  ·rw[if_neg j];by_cases m:dX S e=true
   ·rw[if_pos m,List.length_cons];have a:=HQ (S:=S) f (fun x=>x==e||D x) (getM (A2.mk 0 0) S e);have b:=uy (S:=S) (D:=D) m (by simpa using j);omega
   ·rw[if_neg m];simp
theorem Cx{S:List (K2×K2)}:∀(L:List K2) (D:K2->Bool),∀l∈CLs S L D,l.length<=S.length+1
 |[],_,l,j=>by cases j
 |e::L,D,l,j=>by
  unfold CLs at j;split at j
  ·exact Cx L _ l j
  ·rcases List.mem_cons.1 j with rfl|j
   ·have a:=HQ (S:=S) 100 D e;have b:=Bg S D;omega
   ·exact Cx L _ l j
theorem DY{S:List (K2×K2)}(m:S.length<=60){x:Ln}(hx:x∈wO S):x.2.length<=61:=by
 rcases uu.1 hx with⟨e,he,rfl⟩|⟨l,j,rfl⟩
 ·have a:=HQ (S:=S) 100 (fun _=>false) e;have b:=Bg S (fun _=>false);show(path S e).length<=61;unfold path;omega
 ·have:=Cx _ _ l j;show l.length<=61;omega
theorem HO{S:List (K2×K2)}{P:K2->Prop}(j:Ge S P){x:Ln}(hx:x∈wO S):∀e∈x.2,P e:=by
 have st:∀e∈stK S,P e:=fun e he=>by
  obtain⟨q,m,rfl⟩:=mD.1 (xg.1 he);exact(j.k q m).1
 rcases uu.1 hx with⟨e,he,rfl⟩|⟨l,p,rfl⟩
 ·exact fun y z=>zV j 100 (fun _=>false) e (st e (List.mem_filter.1 he).1) y z
 ·exact uj j _ _ st l p
end
end Go.L


set_option linter.all false
namespace Go.L
open Go Go.Eng
section
variable{g:ak}{level:Int}{w h:Nat}
noncomputable def plS(g:ak)(level:Int)(e:K2):al:=((bs 20000 g (crR g level e)).getD default).1
theorem uw(q:Gd g w h)(j:okL level){e:K2}(he:Ce g w h level e):bs 20000 g (crR g level e)=some (plS g level e,0)/\R.Qx (plS g level e).X (xG g level e) 27/\R.Qx (plS g level e).Y (yG g level e) 27:=by
 obtain⟨-,a,b,c⟩:=wX ⟨j.2.1,j.2.2⟩ he.cr;obtain⟨r0,r1⟩:=EB j.1 he.ab;obtain⟨p,e1,e2,m⟩:=GJ q (c:=crR g level e) (r:=crE g.Z level e) (by rw[a,b];exact he.ed) (QL.mono c (by omega)) (by grind) (by grind);have:plS g level e=p:=by unfold plS;rw[e1];rfl
 rw[this];rw[a,b]at e2 m;exact⟨e1,e2,m⟩
theorem Ev(m:Gd g w h)(p:okL level){x:Ln}(q:x.2.length<=80)(j:∀e∈x.2,Ce g w h level e):eM 20000 g (toL (crR g level) x)=some (x.2.map (plS g level),0):=by
 rw[EP (c:=toL (crR g level) x) (by show(x.2.map _).length<=80;rw[List.length_map];omega) fun y z=>by
  obtain⟨e,he,rfl⟩:=List.mem_map.1 z;exact⟨_,(uw m p (j e he)).1⟩]
 show jP (bs 20000 g) (x.2.map (crR g level)) []=_;rw[rL x.2 [] fun e he=>(uw m p (j e he)).1,List.nil_append]
theorem FN(m:Gd g w h)(p:okL level){x:Ln}(q:x.2.length<=80)(j:∀e∈x.2,Ce g w h level e):iZ 20000 g (toL (crP g level) x)=some (x.2.map (plP g level),0):=by
 rw[E3 (c:=toL (crP g level) x) (by show(x.2.map _).length<=80;rw[List.length_map];omega) fun y z=>by
  obtain⟨e,he,rfl⟩:=List.mem_map.1 z;exact⟨_,(wV m p (j e he)).1⟩]
 show jP (dO 20000 g) (x.2.map (crP g level)) []=_;rw[rL x.2 [] fun e he=>(wV m p (j e he)).1,List.nil_append]
noncomputable def wnN(g:ak)(level:Int)(l:List K2)(e:K2):Int:=
 (oV (onW (fun k=>xG g level (l.getD k (A2.mk 0 0))) (fun k=>yG g level (l.getD k (A2.mk 0 0))) (xG g level e) (yG g level e) l.length) (stW (fun k=>xG g level (l.getD k (A2.mk 0 0))) (fun k=>yG g level (l.getD k (A2.mk 0 0))) (xG g level e) (yG g level e) l.length) l.length 0 0).getD 0
theorem y8(z:Gd g w h)(C:okL level){l:List K2}(p:l.length<=80)(q:∀e∈l,Ce g w h level e){e:K2}(he:Ce g w h level e):
  (∃b,ib 20000 (l.map (plP g level)) (plP g level e)=some (wnN g level l e,b))/\∃b,eu 20000 (l.map (plS g level)) (plS g level e)=some (wnN g level l e,b):=by
 have J:At (l.map (plP g level)) (l.map (plS g level)) l.length (fun k=>xG g level (l.getD k (A2.mk 0 0))) (fun k=>yG g level (l.getD k (A2.mk 0 0))):=by
  refine⟨List.length_map _,List.length_map _,fun j D=>?_⟩;obtain⟨-,E,I⟩:=wV z C (q _ (AB D (A2.mk 0 0)));obtain⟨-,s1,s2⟩:=uw z C (q _ (AB D (A2.mk 0 0)));have e1:(l.map (plP g level)).getD j default=plP g level (l.getD j (A2.mk 0 0)):=by simp[List.getD,geT D]
  have e2:(l.map (plS g level)).getD j default=plS g level (l.getD j (A2.mk 0 0)):=by simp[List.getD,geT D]
  rw[e1,e2];exact⟨E,I,s1,s2⟩
 obtain⟨-,E,I⟩:=wV z C he;obtain⟨-,s1,s2⟩:=uw z C he;rw[Hs J p E I,HP J p s1 s2];unfold wnN;constructor
 ·cases oV _ _ l.length 0 0 with
  |none=>exact⟨true,rfl⟩
  |some m=>exact⟨false,rfl⟩
 ·cases oV _ _ l.length 0 0 with
  |none=>exact⟨false,rfl⟩
  |some m=>exact⟨_,rfl⟩
end
end Go.L


set_option linter.all false
namespace Go.L
open Go Go.Eng
def rX(n:Nat)(B:Nat->Nat->Bool)(i k:Nat):List (List Bool):=(List.range n).map fun j=>if j<i then(List.range n).map (B j)else if j=i then(List.range n).map fun c=>decide (c<k)&&B i c else[]
def wP(n:Nat)(B:Nat->Nat->Bool)(i:Nat):List (List Bool):=(List.range n).map fun j=>if j<i then(List.range n).map (B j)else[]
def na(n:Nat)(B:Nat->Nat->Bool):List (List Bool):=(List.range n).map fun j=>(List.range n).map (B j)
theorem Cw{α:Type}[Inhabited α]{f:Nat->α}{n k:Nat}(h:k<n):gt ((List.range n).map f) (k:Int)=f k:=by
 rw[wq (by simpa using h)];simp
theorem sP{α:Type}{f:Nat->α}{n k:Nat}{v:α}:((List.range n).map f).set k v=(List.range n).map fun j=>if j=k then v else f j:=by
 apply List.ext_getElem
 ·simp
 ·intro j h1 h2;simp only[List.getElem_set,List.getElem_map,List.getElem_range];by_cases e:k=j
  ·subst e;simp
  ·rw[if_neg e,if_neg (fun h=>e h.symm)]
theorem fe{α:Type}{f m:Nat->α}{n:Nat}(h:∀j,j<n->f j=m j):(List.range n).map f=(List.range n).map m:=
 List.map_congr_left fun j p=>h j (List.mem_range.1 p)
theorem z6{α:Type}{n:Nat}{v:α}:List.replicate n v=(List.range n).map fun _=>v:=by
 apply List.ext_getElem
 ·simp
 ·intro j h1 h2;simp
section
variable{n:Nat}{B:Nat->Nat->Bool}{i k:Nat}
theorem zd:List.replicate n ([]:List Bool)=wP n B 0:=by
 rw[z6];exact fe fun j _=>by rw[if_neg (by omega)]
theorem Dc:(wP n B i).set i (List.replicate n false)=rX n B i 0:=by
 unfold wP rX;rw[sP];refine fe fun j _=>?_
 by_cases e:j=i
 ·subst e;rw[if_pos rfl,if_neg (by omega),if_pos rfl,z6];exact fe fun c _=>by simp
 ·rw[if_neg e,if_neg e]
theorem Au(j:i<n):gt (rX n B i k) (i:Int)=(List.range n).map fun c=>decide (c<k)&&B i c:=by
 unfold rX;rw[Cw j,if_neg (by omega),if_pos rfl]
theorem C9(m:i<n):(rX n B i k).set i ((gt (rX n B i k) (i:Int)).set k (B i k))=rX n B i (k+1):=by
 rw[Au m];unfold rX;rw[sP,sP];refine fe fun j _=>?_
 by_cases e:j=i
 ·subst e;rw[if_pos rfl,if_neg (by omega),if_pos rfl];refine fe fun c _=>?_
  by_cases e:c=k
  ·subst e;rw[if_pos rfl,decide_eq_true (by omega)];rfl
  ·rw[if_neg e,show decide (c<k+1)=decide (c<k)by congr 1;exact propext ⟨fun _=>by omega,fun _=>by omega⟩]
 ·rw[if_neg e];by_cases h:j<i
  ·rw[if_pos h,if_pos h]
  ·rw[if_neg h,if_neg h,if_neg e,if_neg e]
theorem xA(m:B i k=false):rX n B i k=rX n B i (k+1):=by
 unfold rX;refine fe fun j _=>?_
 by_cases h:j<i
 ·rw[if_pos h,if_pos h]
 ·rw[if_neg h,if_neg h];by_cases e:j=i
  ·rw[if_pos e,if_pos e];refine fe fun c _=>?_
   by_cases e:c=k
   ·subst e;rw[m,Bool.and_false,Bool.and_false]
   ·rw[show decide (c<k+1)=decide (c<k)by congr 1;exact propext ⟨fun _=>by omega,fun _=>by omega⟩]
  ·rw[if_neg e,if_neg e]
theorem Bz:rX n B i n=wP n B (i+1):=by
 unfold rX wP;refine fe fun j _=>?_
 by_cases h:j<i
 ·rw[if_pos h,if_pos (by omega)]
 ·rw[if_neg h];by_cases e:j=i
  ·subst e;rw[if_pos rfl,if_pos (by omega)];exact fe fun c hc=>by rw[decide_eq_true hc,Bool.true_and]
  ·rw[if_neg e,if_neg (by omega)]
theorem CS:wP n B n=na n B:=fe fun j m=>by rw[if_pos m]
theorem Fb:(rX n B i k).length=n:=by simp[rX]
theorem EU:(wP n B i).length=n:=by simp[wP]
theorem vG:(na n B).length=n:=by simp[na]
theorem pt(j:i<n):gt (na n B) (i:Int)=(List.range n).map (B i):=by unfold na;rw[Cw j]
theorem qb(j:i<n)(m:k<n):gt (gt (na n B) (i:Int)) (k:Int)=B i k:=by rw[pt j,Cw m]
theorem sU(m:i<n):(na n B).set i (gt (na n B) (i:Int))=na n B:=by
 rw[pt m];unfold na;rw[sP];refine fe fun j _=>?_
 by_cases e:j=i
 ·rw[if_pos e,e]
 ·rw[if_neg e]
end
def ta(n:Nat)(B:Nat->Nat->Bool)(i k:Nat):Bool:=!((List.range n).any fun m=>B i m&&B m k)&&B i k
def oW(f:Nat->Bool):Nat->Int
 |0=>-1
 |k+1=>if f k=true then(k:Int)else oW f k
def yA(n:Nat)(B:Nat->Nat->Bool)(i:Nat):List Int:=(List.range n).map fun j=>if j<i then oW (ta n B j) n else 0
def wj(n:Nat)(B:Nat->Nat->Bool)(i k:Nat):List Int:=(List.range n).map fun j=>if j<i then oW (ta n B j) n else if j=i then oW (ta n B i) k else 0
def BS(n:Nat)(B:Nat->Nat->Bool):List Int:=(List.range n).map fun j=>oW (ta n B j) n
section
variable{n:Nat}{B:Nat->Nat->Bool}{i k:Nat}
theorem F8:(yA n B i).set i (-1)=wj n B i 0:=by
 unfold yA wj;rw[sP];refine fe fun j _=>?_
 by_cases e:j=i
 ·subst e;rw[if_pos rfl,if_neg (by omega),if_pos rfl];rfl
 ·rw[if_neg e,if_neg e]
theorem GS(hd:ta n B i k=true):(wj n B i k).set i (k:Int)=wj n B i (k+1):=by
 unfold wj;rw[sP];refine fe fun j _=>?_
 by_cases e:j=i
 ·subst e;rw[if_pos rfl,if_neg (by omega),if_pos rfl,oW,if_pos hd]
 ·rw[if_neg e,if_neg e,if_neg e]
theorem AK(hd:ta n B i k=false):wj n B i k=wj n B i (k+1):=by
 unfold wj;rw[show oW (ta n B i) (k+1)=oW (ta n B i) k by rw[oW,hd,if_neg (by decide)]]
theorem EL:wj n B i n=yA n B (i+1):=by
 unfold wj yA;refine fe fun j _=>?_
 by_cases h:j<i
 ·rw[if_pos h,if_pos (by omega)]
 ·rw[if_neg h];by_cases e:j=i
  ·subst e;rw[if_pos rfl,if_pos (by omega)]
  ·rw[if_neg e,if_neg (by omega)]
theorem DJ:List.replicate n (0:Int)=yA n B 0:=by
 rw[z6];exact fe fun j _=>by rw[if_neg (by omega)]
theorem Gz:yA n B n=BS n B:=fe fun j m=>by rw[if_pos m]
theorem HJ:(yA n B i).length=n:=by simp[yA]
theorem Ho:(wj n B i k).length=n:=by simp[wj]
theorem EX:(BS n B).length=n:=by simp[BS]
theorem Bc{f:Nat->Bool}{m:Nat}(h:m<n):((List.range (m+1)).any f)=((List.range m).any f||f m):=by
 rw[List.range_succ,List.any_append];simp
end
end Go.L

