import Derived.Test.YtglimpjlhfjgdaaGreatGrdL21f
set_option linter.all false
namespace Go.L
open Go Go.Eng
theorem Er{x y:ag}{v:Int}(j:isI x.Negative x.Groups v)(m:isI y.Negative y.Groups v)(p:x.Groups.length<=900):gJ 20000 x y=some true:=by
 obtain⟨e1,e2⟩:=Bl j m;apply Ok.eq;unfold gJ;rw[e1,e2];rw[e2]at p;refine Ok.cd (fun h=>by simp at h) (fun _=>Ok.cd (fun h=>by simp at h) (fun _=>?_));refine Ok.bd (R:=fun o=>o=Sum.inl ()) (oq (len:=y.Groups.length) (fun _=>True) (by omega) (by omega) trivial ?_ ?_) ?_
 ·intro again k hk _ q;refine Ok.cd (fun _=>Ok.gd (by rw[bb];exact decide_eq_true hk) (Ok.gd (by rw[bb];exact decide_eq_true hk) (Ok.cd (fun h=>by simp at h) (fun _=>q trivial)))) (fun h=>by have:=dcF h;omega)
 ·intro again _;exact Ok.cd (fun h=>by have:=dcT h;omega) (fun _=>ar.2 rfl)
 ·rintro o rfl;exact ar.2 rfl
theorem xA{g:ak}{w h:Nat}(m:Gd g w h)(p:∀z∈g.Z,-2147483648<z):qv g w h=cZ (w:Int) (w-1) (h-1):=by
 unfold qv;rw[m.W,List.filter_eq_self];intro t q;obtain⟨i0,i1,i2⟩:=w7 m (by rw[m.W];exact q);have j:∀i,inR i g.Z.length=true->(gt g.Z i != -2147483648)=true:=by
  intro i C;have D:=qa.1 C;obtain⟨k,rfl⟩:∃k:Nat,i=(k:Int):=⟨i.toNat,by omega⟩;have hk:k<g.Z.length:=by omega
  have:=p (g.Z.getD k default) (by simp only[List.getD,geT hk,Option.getD_some];exact List.getElem_mem hk);rw[fb];exact bne_iff_ne.2 (by omega)
 unfold iP;rw[j _ i0,j _ i1,j _ i2];rfl
theorem Dv{g:ak}{w h:Nat}{base:Int}(p:Plc g w h base){t:A3 Int}(q:t∈cZ (w:Int) (w-1) (h-1)):
  (0<=gt g.Z t.e0-base/\0<=gt g.Z t.e1-base/\0<=gt g.Z t.e2-base)/\lin (gp g.Z base) (upN (w*h) t)=(gt g.Z t.e0-base)+(gt g.Z t.e1-base)+(gt g.Z t.e2-base):=by
 obtain⟨i0,i1,i2⟩:=w7 p.gd (by rw[p.gd.W];exact q);have j:∀i,inR i g.Z.length=true->0<=gt g.Z i-base/\gp g.Z base i.toNat=gt g.Z i:=by
  intro i C;have D:=qa.1 C;obtain⟨k,rfl⟩:∃k:Nat,i=(k:Int):=⟨i.toNat,by omega⟩;have hk:k<g.Z.length:=by omega
  have:=p.z (g.Z.getD k default) (by simp only[List.getD,geT hk,Option.getD_some];exact List.getElem_mem hk);rw[fb];refine⟨by omega,?_⟩;unfold gp;rw[Int.toNat_natCast,if_pos hk]
 have E:gp g.Z base (w*h)=base:=by unfold gp;rw[if_neg (by rw[p.gd.m];omega)]
 have a:=j _ i0;have b:=j _ i1;have c:=j _ i2;refine⟨⟨a.1,b.1,c.1⟩,?_⟩;unfold upN lin;simp only[List.map_cons,List.map_nil,sI];rw[a.2,b.2,c.2,E];omega
theorem Ce{S:Int}(h:S.tmod 2=0):yf S=((S*S:Int):Rat) / 2:=by
 obtain⟨c,rfl⟩:=Int.dvd_of_tmod_eq_zero h;unfold yf;rw[show 2*c*(2*c)=2*(c*(2*c))by grind,Int.mul_ediv_cancel_left _ (by omega),ja]
 push_cast
 grind
theorem Bn{g:ak}{w h:Nat}{base:Int}(p:Plc g w h base)(hc:mh g=0):Ok (jk 20000 g base) fun r=>Qx r.1 ((wx g base w h:Int) / 6:Rat) 89/\Qx r.2.1 0 89/\r.2.2=0:=by
 have j:sy base=false:=pZ.2 p.b;have M:=p.b;have C:=xA p.gd (fun z hm=>by have:=p.z z hm;omega);obtain⟨v,D,v1,v2⟩:=E4 hc p.gd (by rw[p.gd.m];have:=p.m;omega) j;rw[D2 hc p.gd j,D];refine ar.2 ?_;rw[C]at v1 v2;have q:∀t∈cZ (w:Int) (w-1) (h-1),(0<=gt g.Z t.e0-base/\0<=gt g.Z t.e1-base/\0<=gt g.Z t.e2-base)/\upF (w*h) (gp g.Z base) t=36*((gt g.Z t.e0-base)+(gt g.Z t.e1-base)+(gt g.Z t.e2-base)):=by
  intro t E;obtain⟨a,b⟩:=Dv p E;refine⟨a,?_⟩;rw[<-b];have:=A1 (w*h) (gp g.Z base) [t];simp only[List.map_cons,List.map_nil,sI,List.flatMap_cons,List.flatMap_nil,List.append_nil,Int.add_zero]at this;exact this
 obtain⟨I,J⟩:=BT (hh:=fun k=>gt g.Z k-base) _ q;rw[J,Rat.mul_zero]at v2;rw[I,A1,Ce p.gd.dim.e]at v1;refine⟨?_,v2,rfl⟩;have e:((g.Step*g.Step:Int):Rat) / 2*(((36*lin (gp g.Z base) ((cZ (w:Int) (w-1) (h-1)).flatMap (upN (w*h))):Int):Rat) / 108)=((wx g base w h:Int):Rat) / 6:=by
  unfold wx
  push_cast
  grind
 rw[e]at v1;exact v1
theorem yb{g:ak}{w h:Nat}{base:Int}(p:Plc g w h base):∀l:List (A3 Int),(∀t∈l,t∈cZ (w:Int) (w-1) (h-1))->jS (l.map (ptG iY cP g.Z (2*base-1)))=((lin (gp g.Z base) (l.flatMap (upN (w*h))):Int):Rat) / 3+((l.length:Int):Rat) / 2
 |[],_=>by
  show(0:Rat)=((0:Int):Rat) / 3+((0:Int):Rat) / 2;grind
 |t::l,m=>by
  have q:=yb p l fun t z=>m t (List.mem_cons_of_mem _ z)
  obtain⟨⟨a,b,c⟩,e⟩:=Dv p (m t List.mem_cons_self);have hp:ptG iY cP g.Z (2*base-1) t=cP (h2 (hgt g.Z (2*base-1) t.e0)) (h2 (hgt g.Z (2*base-1) t.e1)) (h2 (hgt g.Z (2*base-1) t.e2)):=by
   unfold ptG ptQ ou;rw[if_pos (rI.2 (by unfold hgt;omega)),if_pos (rI.2 (by unfold hgt;omega)),if_pos (rI.2 (by unfold hgt;omega))]
  have j:∀k,h2 (hgt g.Z (2*base-1) k)=((gt g.Z k-base:Int):Rat)+1 / 2:=by
   intro k;rw[vv];unfold hgt;rw[show 2*gt g.Z k-(2*base-1)=2*(gt g.Z k-base)+1 by omega]
   push_cast
   grind
  rw[List.map_cons,jS,q,hp,j,j,j,List.flatMap_cons,kW,e,List.length_cons];unfold cP
  push_cast
  grind
theorem yq{g:ak}{w h:Nat}{base:Int}(p:Plc g w h base)(hc:mh g=0):∃v,iV 20000 g (2*base-1)=some (v,0)/\Qx v ((wx g base w h:Int) / 6+(((cZ (w:Int) (w-1) (h-1)).length*(g.Step*g.Step):Int):Rat) / 4:Rat) 98:=by
 have N:=p.b;obtain⟨-,-,q⟩:=yw hc;have D:=xA p.gd (fun z hm=>by have:=p.z z hm;omega);have j:(2*base-1).tmod 2≠0:=by
  intro h;have:=Int.dvd_of_tmod_eq_zero h;omega
 have E:okL (2*base-1):=⟨j,by omega,by omega⟩;have I:CH (mh g) (2*base-1)=0:=by
  unfold CH;rw[if_neg (by rw[hc];omega),if_neg j,if_neg (by omega),if_neg (by omega)]
 obtain⟨v,J,C⟩:=B1 p.gd q (by rw[p.gd.m];have:=p.m;omega) E;refine⟨v,by unfold iV;rw[Gc,I,J];rfl,?_⟩;have e:FM iY cP g w h (2*base-1)=((wx g base w h:Int):Rat) / 6+(((cZ (w:Int) (w-1) (h-1)).length*(g.Step*g.Step):Int):Rat) / 4:=by
  unfold FM arQ;rw[D,yb p _ fun t M=>M,Rat.divInt_eq_div];unfold wx
  push_cast
  grind
 rw[e]at C;exact C
theorem Hc{x y:ag}{p q:Int}{k:Nat}(hk:k<=250)(j:IL x p k)(m:isI y.Negative y.Groups q)(D:y.Groups.length<=k)(C:q≠0):Ok (fe 20000 x y) fun z=>R.Qx z.1 (Rat.divInt p q) k/\z.2=0:=by
 unfold fe;rw[R.jK (by omega) (by omega) m];refine Ok.bde rfl (Ok.cd (fun h=>?_) (fun _=>?_))
 ·have h:=eq_of_beq h;rcases cM q with⟨_,e⟩|⟨e,_⟩|⟨_,e⟩
  ·omega
  ·exact absurd e C
  ·omega
 ·exact Ok.bd (R.jV (by omega) hk j.1 m j.2 D C) fun z E=>ar.2 ⟨E,rfl⟩
end Go.L


set_option linter.all false
namespace Go.L
open Go Go.Eng
theorem D1{a:Int}(h:(Lit.int .i16 a).wf=true):-32768<=a/\a<=32767:=by
 simp[Lit.wf,IntKind.min,IntKind.max,IntKind.signed,IntKind.bits]at h;exact h
def sF:ak:=ak.mk 0 0 2 3 3 [0,0,0,0,4,0,0,0,0]
theorem Bi:fY 20000=some sF:=rfl
theorem yF:Gd sF 3 3:=by
 have j:sy 0=false:=pZ.2 (by omega);exact⟨⟨by decide,by decide,by decide,by decide,j,j⟩,rfl,rfl,by omega,by omega,rfl⟩
theorem yV:mh sF=0:=by
 unfold mh;rw[if_pos yF.dim,if_pos (by decide),if_neg (by decide)]
theorem DU{base:Int}(h:base<=0)(h2:-1000<=base):Plc sF 3 3 base:=⟨yF,by decide,by decide,by
 intro z j;simp only[sF,List.mem_cons,List.not_mem_nil,or_false]at j;omega,by omega,by omega⟩
theorem Hq:wx sF 0 3 3=96:=by decide
theorem GN:wx sF (-1) 3 3=192:=by decide
theorem FT:fM 20000=some true:=by
 have p0:=DU (base:=0) (by omega) (by omega);have j:=DU (base:=-1) (by omega) (by omega);apply Ok.eq;unfold fM;refine Ok.bde Bi (Ok.bd (Bn p0 yV) ?_);rintro⟨a,b,c⟩ ⟨m,-,rfl⟩;refine Ok.bde Bi (Ok.bde (Bw yF yV (by decide) (fun z p=>by have:=j.z z p;omega) (pZ.2 j.b)) (Ok.bd (zP j) ?_));rintro⟨v,d⟩ ⟨q,rfl⟩;obtain⟨l,el,C⟩:=yq p0 yV;refine Ok.bde Bi (Ok.bde el ?_);refine Ok.cd (fun _=>Ok.cd (fun _=>Ok.cd (fun _=>Ok.cd (fun _=>?_) (fun h=>by cases h)) (fun h=>by cases h)) (fun h=>by cases h)) (fun h=>by cases h);rw[Hq]at m C;rw[GN]at q;have e1:((96:Int):Rat) / 6=Rat.divInt 16 1:=by rw[ja];push_cast;grind
 have e2:((96:Int):Rat) / 6+(((cZ ((3:Nat):Int) (3-1) (3-1)).length*(sF.Step*sF.Step):Int):Rat) / 4=Rat.divInt 24 1:=by
  rw[pT,ja,show sF.Step=2 from rfl];push_cast;grind
 rw[e1]at m;rw[e2]at C;refine Ok.bd (R.gG (by omega) (by omega) (by omega)) fun x D=>Ok.bde (R.tF (by omega) (by omega) m D) (Ok.cd (fun _=>?_) (fun h=>by cases h))
 refine Ok.bd (R.sC (by omega) (by omega) (by omega)) fun y E=>Ok.bde (Er q.1 E (Nat.le_trans q.2 (by omega))) (Ok.cd (fun _=>?_) (fun h=>by cases h))
 exact Ok.bd (R.gG (by omega) (by omega) (by omega)) fun z p=>Ok.bde (R.tF (by omega) (by omega) C p) (ar.2 rfl)
theorem CU{w h:Nat}(hw:2<=w)(hh:2<=h)(hm:w*h<=25):(cZ (w:Int) (w-1) (h-1)).length<=100:=by
 rw[pT,Nat.mul_assoc];have:(w-1)*(h-1)<=w*h:=Nat.mul_le_mul (by omega) (by omega);omega
theorem Ay(g:ak)(base:Int)(hb:-32768<=base/\base<=32767):eC 20000 g base=some true:=by
 have O:Jt base=base:=wrap64_in (by omega) (by omega);apply Ok.eq;unfold eC;refine Ok.bde FT (Ok.cd (fun h=>by cases h) (fun _=>Ok.cd (fun _=>ar.2 rfl) (fun E=>?_)));have E:g.Z.length<=25:=by have:=dcF E;omega
 refine Ok.bde (rQ (by omega) g) ?_;by_cases hc:mh g=0
 case neg=>exact Ok.cd (fun _=>ar.2 rfl) (fun h=>absurd (by simpa using h) hc)
 refine Ok.cd (fun _=>ar.2 rfl) (fun _=>?_);rw[O];refine Ok.bd (R:=fun o=>o=Sum.inr true\/(o=Sum.inl ()/\∀z∈g.Z,base<=z/\z<=10000)) ?_ ?_
 ·refine oq (len:=g.Z.length) (fun k=>∀j,j<k->base<=g.Z.getD j default/\g.Z.getD j default<=10000) (by omega) (by omega) (fun j J=>absurd J (by omega)) ?_ ?_
  ·intro again k hk S ih;refine Ok.cd (fun _=>Ok.gd (by rw[bb];exact decide_eq_true hk) ?_) (fun h=>by have:=dcF h;omega);refine Ok.cd (fun _=>ar.2 (.inl rfl)) (fun h1=>Ok.cd (fun _=>ar.2 (.inl rfl)) (fun h2=>ih ?_));have h1:=dcF h1;have h2:=dcF h2;rw[fb]at h1 h2;intro j J;by_cases e:j<k
   ·exact S j e
   ·obtain rfl:j=k:=by omega
    omega
  ·intro again S;refine Ok.cd (fun h=>by have:=dcT h;omega) (fun _=>ar.2 (.inr ⟨rfl,fun z T=>?_⟩));obtain⟨j,J,rfl⟩:=List.getElem_of_mem T;have:=S j J;simpa [List.getD,J]using this
 rintro o (rfl|⟨rfl,T⟩)
 ·exact ar.2 rfl
 obtain⟨w,h,D⟩:=Hv hc;have M:=D.dim.s;have hX:=pZ.1 D.dim.x;have hY:=pZ.1 D.dim.y;have hw:=D.w1;have hh:=D.h1;have bX:0<=(w:Int)*g.Step/\(w:Int)*g.Step<=64*65536:=⟨Int.mul_nonneg (by omega) (by omega),Int.mul_le_mul (by omega) M.2 (by omega) (by omega)⟩;have bY:0<=(h:Int)*g.Step/\(h:Int)*g.Step<=64*65536:=⟨Int.mul_nonneg (by omega) (by omega),Int.mul_le_mul (by omega) M.2 (by omega) (by omega)⟩;dsimp only;rw[D.W,D.H,wrap64_in (n:=(w:Int)*g.Step) (by omega) (by omega),wrap64_in (n:=(h:Int)*g.Step) (by omega) (by omega),wrap64_in (n:=g.X0+(w:Int)*g.Step) (by omega) (by omega),wrap64_in (n:=g.Y0+(h:Int)*g.Step) (by omega) (by omega)];refine Ok.cd (fun _=>ar.2 rfl) (fun hx=>Ok.cd (fun _=>ar.2 rfl) (fun hy=>?_));have hx:=dcF hx;have hy:=dcF hy;have p:Plc g w h base:=⟨D,by omega,by omega,fun z hm=>by have:=T z hm;omega,by omega,by rw[<-D.m];exact E⟩;refine Ok.bd (Bn p hc) ?_;rintro⟨a,b,c⟩ ⟨U,I,rfl⟩;dsimp only at U I ⊢;have hT:=xA p.gd (fun z hm=>by have:=p.z z hm;omega);have a1:=CU hw.1 hh.1 p.m;have C:0<=g.Step*g.Step/\g.Step*g.Step<=65536*65536:=⟨Int.mul_nonneg (by omega) (by omega),Int.mul_le_mul M.2 M.2 (by omega) (by omega)⟩;have ea:mW 20000 g=some (((cZ (w:Int) (w-1) (h-1)).length*(g.Step*g.Step):Int),0):=by
  unfold mW;rw[rQ (by omega),hc,Dp (by omega) D,hT];show some (Jt (Jt (((cZ (w:Int) (w-1) (h-1)).length:Int)*g.Step)*g.Step),(0:Int))=_;generalize (cZ (w:Int) (w-1) (h-1)).length=n at*;have b1:0<=(n:Int)*g.Step/\(n:Int)*g.Step<=100*65536:=⟨Int.mul_nonneg (by omega) (by omega),Int.mul_le_mul (by omega) M.2 (by omega) (by omega)⟩;have b2:0<=(n:Int)*(g.Step*g.Step)/\(n:Int)*(g.Step*g.Step)<=100*(65536*65536):=⟨Int.mul_nonneg (by omega) C.1,Int.mul_le_mul (by omega) C.2 C.1 (by omega)⟩;rw[wrap64_in (n:=(n:Int)*g.Step) (by omega) (by omega),Int.mul_assoc,wrap64_in (by omega) (by omega)]
 refine Ok.bde ea ?_;have bA:0<=((cZ (w:Int) (w-1) (h-1)).length:Int)*(g.Step*g.Step)/\((cZ (w:Int) (w-1) (h-1)).length:Int)*(g.Step*g.Step)<=100*(65536*65536):=⟨Int.mul_nonneg (by omega) C.1,Int.mul_le_mul (by omega) C.2 C.1 (by omega)⟩;obtain⟨l,el,hl⟩:=yq p hc;rw[wrap64_in (n:=2*base) (by omega) (by omega),wrap64_in (n:=2*base-1) (by omega) (by omega)];refine Ok.bde el (Ok.bde (Bw D hc E (fun z hm=>by have:=p.z z hm;omega) (pZ.2 p.b)) ?_);dsimp only;refine Ok.cd (fun h=>by cases h) (fun _=>?_);refine Ok.bde (R.Ar (by omega) (by omega) I) (Ok.cd (fun h=>by cases h) (fun _=>?_));refine Ok.bde (R.nC (by omega) (by omega) I) (Ok.cd (fun h=>by cases h) (fun _=>?_));refine Ok.bd (R.xb (by omega) (by omega) (by omega) (by omega) (by omega) (by omega)) fun x Y=>Ok.bd (R.jj (by omega) (by omega) U Y.1) fun y N=>?_
 rw[Rat.divInt_eq_div]at N;refine Ok.bde (R.tF (by omega) (by omega) hl N) (Ok.cd (fun h=>by cases h) (fun _=>?_));refine Ok.bde (Cc p) (Ok.bd (zP p) ?_);rintro⟨v,d⟩ ⟨hv,rfl⟩;refine Ok.bde (DF p) (Ok.cd (fun h=>by cases h) (fun _=>Ok.cd (fun h=>by cases h) (fun _=>Ok.cd (fun h=>by cases h) (fun _=>?_))));refine Ok.bd (R.sC (by omega) (by omega) (by omega)) fun s hs=>?_
 refine Ok.bd (Hc (k:=3) (by omega) hv hs (gU hs (by rw[Ef];omega) (by rw[Ef];omega)) (by omega)) ?_;rintro⟨q,e⟩ ⟨hq,rfl⟩;rw[Rat.divInt_eq_div]at hq;exact Ok.bde (R.tF (by omega) (by omega) hq U) (ar.2 rfl)
end Go.L

