import Derived.Test.YtglimpjlhfjgdaaGreatSldL23j
import Derived.Test.YtglimpjlhfjgdaaGreatSldL52S1X
set_option linter.all false
namespace Go.L
open Go Go.Eng
theorem C5{a:Int}(h:(Lit.int .u8 a).wf=true):0<=a/\a<=255:=by
 simp[Lit.wf,IntKind.min,IntKind.max,IntKind.signed,IntKind.bits]at h;exact h
theorem Ji:gh 20000=some true:=by unfold gh;rfl
theorem Ff{a w:Nat}:((a:Int)).tdiv (w:Int)=((a / w:Nat):Int):=rfl
theorem IU{g:aj}{w h:Nat}{base:Int}(j:Gd g w h)(hm:w*h<=25)(D:∀z∈g.Z,base<=z/\z<=1048576)(E:-1048576<=base/\base<=1048576)(q:∀p∈cS g base,inV p):Plc g w h base:=by
 have C:=j.dim.s;have J:=oK.1 j.dim.x;have M:=oK.1 j.dim.y;have hw:=j.w1;have N:=j.h1;have mem:∀k,k<2*(w*h)->py g base k∈cS g base:=fun k hk=>List.mem_map.2 ⟨k,List.mem_range.2 (by rw[j.m];exact hk),rfl⟩
 have I:w<=w*h:=Nat.le_mul_of_pos_right w (by omega);have O:0<w*h:=by omega
 have e1:(h-1)*w<w*h:=by
  rw[Nat.mul_comm w h];exact Nat.mul_lt_mul_of_pos_right (by omega) (by omega)
 have h1:=q _ (mem (w-1) (by omega));have h2:=q _ (mem ((h-1)*w) (by omega));unfold inV py AK at h1 h2;dsimp only at h1 h2;have T:0<=((w:Int)-1)*g.Step/\((w:Int)-1)*g.Step<=64*65536:=⟨Int.mul_nonneg (by omega) (by omega),Int.mul_le_mul (by omega) C.2 (by omega) (by omega)⟩;have U:0<=((h:Int)-1)*g.Step/\((h:Int)-1)*g.Step<=64*65536:=⟨Int.mul_nonneg (by omega) (by omega),Int.mul_le_mul (by omega) C.2 (by omega) (by omega)⟩;refine⟨j,?_,?_,D,E,hm⟩
 ·have h1:=h1.1.2;rw[j.m,Nat.mod_eq_of_lt (by omega:w-1<w*h),j.W,AO,Nat.mod_eq_of_lt (by omega:w-1<w),show((w-1:Nat):Int)=(w:Int)-1 by omega,wrap64_in (n:=((w:Int)-1)*g.Step) (by omega) (by omega),wrap64_in (by omega) (by omega)]at h1;exact h1
 ·have h2:=h2.2.1.2;rw[j.m,Nat.mod_eq_of_lt e1,j.W,Ff,Nat.mul_div_cancel _ (by omega:0<w),show((h-1:Nat):Int)=(h:Int)-1 by omega,wrap64_in (n:=(h:Int)-1) (by omega) (by omega),wrap64_in (n:=((h:Int)-1)*g.Step) (by omega) (by omega),wrap64_in (by omega) (by omega)]at h2;exact h2
theorem E5{g:aj}{w h:Nat}{base:Int}{ox oy:Nat}{H:Int}(q:Pnt g w h base ox oy H):Ok (gR 20000 (az.mk (cS g base) (aG w h)) (ptP g ox oy H)) fun r=>r.2=0/\r.1=if 0<ovH g w base ox oy H then 1 else 0:=by
 have z:=q.p.gd;have K:=uI (qG z.w1.1 z.h1.1 q.p.m);have O:=Da z.w1.1 z.h1.1 q.p.m q.x q.y;unfold Hk at O;simp only[Bool.and_eq_true,decide_eq_true_eq]at O;have M:(cS g base).length=2*(w*h):=by rw[xj,z.m]
 have N:∀k,k<2*(w*h)->inV (gt (cS g base) (k:Int)):=fun k hk=>(Di q.p hk).2
 have E:∀p∈cS g base,inV p:=fun p hp=>by
  obtain⟨j,U,rfl⟩:=List.getElem_of_mem hp;have:=N j (by omega);rw[cZ]at this;simpa only[List.getD,geT U,Option.getD_some]using this
 obtain⟨D,I,J⟩:=BB (C:=fcs (ptP g ox oy H) (cS g base) (aG w h)) (Nat.le_trans zG K.len) fun c hc=>by
  have:=(List.mem_filter.1 hc).2;simpa using this
 refine(Ez (J5 z.w1.1 z.h1.1 q.p.m E M) (Aj K.len K.sh) q.inV N M K.t K.len (fun t T=>GX q (K.t t T) (List.all_eq_true.1 O.1.1 t T)) I J).mono ?_;rintro r ⟨h1,k,Y,k2,k3,k4⟩;exact⟨h1,by rw[k4,GP q Y k3]⟩
def PzH(g:aj)(w h:Nat)(H:Int)(o:Sum Unit Bool):Prop:=o=Sum.inr true\/(o=Sum.inl ()/\∀k,k<g.Z.length->bor w h k->gt g.Z (k:Int)<H)
theorem wg(g:aj)(k up:Int)(hk:0<=k/\k<=255)(hu:0<=up/\up<=255):cM 20000 g k up=some true:=by
 apply Ok.eq;unfold cM;refine Ok.bde Ji (Ok.cd (fun h=>by cases h) (fun _=>Ok.cd (fun _=>aC.2 rfl) (fun E=>Ok.cd (fun _=>aC.2 rfl) (fun h0=>?_))));have E:g.Z.length<=25:=by have:=dcF E;omega
 have h0:0<g.Z.length:=by
  have:¬(g.Z.length:Int)=0:=by simpa using h0
  omega
 refine Ok.bde (sZ (by omega) g) ?_;by_cases hc:pF g=0
 case neg=>exact Ok.cd (fun _=>aC.2 rfl) (fun h=>absurd (by simpa using h) hc)
 refine Ok.cd (fun _=>aC.2 rfl) (fun _=>?_);obtain⟨w,h,C⟩:=J6 hc;obtain⟨-,-,I⟩:=CJ hc;have b7:∀z∈g.Z,z=-2147483648\/(-1048576<=z/\z<=1048576):=fun z N=>by
  have:=List.any_eq_false.1 I _ N;unfold pO rY at this;by_cases e:z=-2147483648
  ·exact .inl e
  ·rw[show(z != -2147483648)=true by simpa using e]at this;simp at this;exact .inr (by omega)
 refine Ok.bd (Kp h0 E) ?_;rintro m ⟨m1,m2⟩;have mb:=b7 m m2;rw[wrap64_in (n:=m-1) (by omega) (by omega)];refine Ok.cd (fun _=>aC.2 rfl) (fun hb=>Ok.bd (Kd h0 E) ?_);have hb:=dcF hb;rintro M ⟨M1,M2⟩;refine Ok.cd (fun _=>aC.2 rfl) (fun hM=>Ok.gd (by rw[decide_eq_false (by omega)];rfl) ?_);have hM:=dcF hM;have e6:=m1 M M2;have zin:∀z∈g.Z,m<=z/\z<=10000:=fun z N=>⟨m1 z N,by have:=M1 z N;omega⟩
 rw[wrap64_in (n:=m-1+1) (by omega) (by omega),wrap64_in (n:=up) (by omega) (by omega),wrap64_in (n:=m-1+1+up) (by omega) (by omega)];obtain⟨H,hH⟩:∃H,H=m-1+1+up:=⟨_,rfl⟩;rw[<-hH,wrap64_in (n:=2*H) (by omega) (by omega),wrap64_in (n:=2*H-1) (by omega) (by omega)];have hw:=C.w1;have hh:=C.h1;have hW:=C.W;have b8:=C.H;have U:g.Z.length<=40:=by omega
 have ew:MR (g.Width-1)=((w-1:Nat):Int):=by rw[hW,wrap64_in (by omega) (by omega)];omega
 have eh:MR (g.Height-1)=((h-1:Nat):Int):=by rw[b8,wrap64_in (by omega) (by omega)];omega
 have emod:∀a:Nat,((a:Int)).tmod g.Width=((a%w:Nat):Int):=fun a=>by rw[hW,AO]
 have ediv:∀a:Nat,a<g.Z.length->MR (((a:Int)).tdiv g.Width)=((a / w:Nat):Int):=fun a J=>by
  have:=Nat.div_le_self a w;rw[hW,Ff];generalize a / w=q at*;exact wrap64_in (by omega) (by omega)
 refine Ok.bd (R:=PzH g w h H) ?_ ?_
 ·refine gO (γ:=Unit) (len:=g.Z.length) (fun _ x=>x) (fun n _=>∀k,k<n->bor w h k->gt g.Z (k:Int)<H) (by omega) (by omega) (c0:=()) (fun k hk=>by omega) ?_ ?_
  ·rintro again a c J hP ih;have next:(bor w h a->gt g.Z (a:Int)<H)->Ok (again (MR ((a:Int)+1))) (PzH g w h H):=fun h2=>ih () fun j hj=>by
    by_cases e:j=a
    ·subst e;exact h2
    ·exact hP j (by omega)
   have inner:Ok (cdO (decide (gt g.Z (a:Int)>=H)) (some (Sum.inr (true))) (again (MR ((a:Int)+1)))) (PzH g w h H):=
    Ok.cd (fun _=>aC.2 (.inl rfl)) (fun h2=>next fun _=>by have:=dcF h2;omega)
   refine Ok.cd (fun _=>?_) (fun h=>by have:=dcF h;omega);refine Ok.gd (by rw[bf];exact decide_eq_true J) (Ok.gd (by rw[hW];simp;omega) ?_);rw[emod,ediv a J,ew,eh];refine Ok.cd (fun _=>inner) (fun c1=>Ok.cd (fun _=>inner) (fun c2=>Ok.cd (fun _=>inner) (fun Y=>Ok.cd (fun _=>inner) (fun c4=>next fun hq=>?_))));exfalso;have c1:¬((a%w:Nat):Int)=0:=by simpa using c1
   have c2:¬((a / w:Nat):Int)=0:=by simpa using c2
   have Y:¬((a%w:Nat):Int)=((w-1:Nat):Int):=by simpa using Y
   have c4:¬((a / w:Nat):Int)=((h-1:Nat):Int):=by simpa using c4
   unfold bor at hq;omega
  ·rintro again c hP;exact Ok.cd (fun h=>by have:=dcT h;omega) (fun _=>aC.2 (.inr ⟨rfl,hP⟩))
 rintro o (rfl|⟨rfl,hd⟩)
 ·exact aC.2 rfl
 obtain⟨k0,rfl⟩:∃n:Nat,k=(n:Int):=⟨k.toNat,by omega⟩;have J:=Nat.mod_lt k0 h0;rw[wrap64_in (n:=(k0:Int)) (by omega) (by omega),AO];generalize k0%g.Z.length=a at*;rw[emod,ediv a J,ew,eh];have a8:w*h<=25:=by rw[<-C.m];exact E
 have a1:a%w<w:=Nat.mod_lt _ (by omega);have a6:a / w<h:=Nat.div_lt_of_lt_mul (by rw[<-C.m];exact J);have b9:a / w*w+a%w=a:=by rw[Nat.mul_comm];exact Nat.div_add_mod a w
 generalize a%w=oi at*;generalize a / w=oj at*;dsimp only;refine Ok.gd (by rw[hW];simp;omega) (Ok.cd (fun _=>aC.2 rfl) (fun c1=>Ok.cd (fun _=>aC.2 rfl) (fun c2=>Ok.cd (fun _=>aC.2 rfl) (fun Y=>Ok.cd (fun _=>aC.2 rfl) (fun c4=>?_)))));have c1:¬((oi:Nat):Int)=0:=by simpa using c1
 have c2:¬((oj:Nat):Int)=0:=by simpa using c2
 have Y:¬((oi:Nat):Int)=((w-1:Nat):Int):=by simpa using Y
 have c4:¬((oj:Nat):Int)=((h-1:Nat):Int):=by simpa using c4
 refine Ok.gd (by rw[bf];exact decide_eq_true J) (Ok.cd (fun _=>aC.2 rfl) (fun a7=>?_));have a7:gt g.Z (a:Int)≠H:=by simpa using a7
 have b3:(2*H-1).tmod 2≠0:=fun e=>by have:=Int.dvd_of_tmod_eq_zero e;omega
 have O:okL (2*H-1):=⟨b3,by omega,by omega⟩;obtain⟨level,c5⟩:∃l,l=2*H-1:=⟨_,rfl⟩;rw[<-c5]at O ⊢;have hgt:∀j,j<g.Z.length->gt g.Z (j:Int)∈g.Z:=fun j hj=>by rw[cZ];simp only[List.getD,geT hj,Option.getD_some];exact List.getElem_mem hj
 have hL:Lw g w h level:=KK C fun j hj=>⟨by have:=zin _ (hgt j hj);omega,fun c6=>by
  unfold abv;exact decide_eq_false (by have:=hd j hj c6;omega)⟩
 have e1:=HK C I U ⟨O.2.1,O.2.2⟩;have b4:=K6 hL C I U;have c7:=Gy (level:=level) C I;have hs:=FN C I U level;obtain⟨b5,c8⟩:=E7 hL C O.1 a1 a6;obtain⟨T,D⟩:=DX b4 (cO w g.Z level oi oj);rw[b5]at T;have hlen:=F3 hs;generalize eS:oa g w h level=S at*;have c9:ES (pF g) level=0:=by
  unfold ES;rw[hc,if_neg (by omega),if_neg O.1,if_neg (by have:=O.2.1;omega),if_neg (by have:=O.2.2;omega)]
 have e3:js 20000 g level=some ((uT S).map (toL (crP g level)),0):=by unfold js;rw[IB,c9,e1];rfl
 refine Ok.bde e3 (Ok.bde (GR C hc E (fun z N=>by have:=zin z N;omega) (oK.2 (by omega))) (Ok.cd (fun h=>by cases h) (fun _=>Ok.cd (fun h=>by cases h) (fun _=>?_))));have bd:∀x∈uT S,-60<=fR (x.2.map fun e=>cO w g.Z level oi oj (e,nxt S e))/\fR (x.2.map fun e=>cO w g.Z level oi oj (e,nxt S e))<=60:=by
  intro x hx;have e7:=(D x hx).2.2;have:∀l:List K2,-(l.length:Int)<=fR (l.map fun e=>cO w g.Z level oi oj (e,nxt S e))/\fR (l.map fun e=>cO w g.Z level oi oj (e,nxt S e))<=(l.length:Int):=by
   intro l;induction l with
   |nil=>exact⟨Int.le_refl _,Int.le_refl _⟩
   |cons y l ih=>
    have hy:-1<=cO w g.Z level oi oj (y,nxt S y)/\cO w g.Z level oi oj (y,nxt S y)<=1:=Gh;rw[List.map_cons,List.length_cons];show _<=cO w g.Z level oi oj (y,nxt S y)+fR _/\cO w g.Z level oi oj (y,nxt S y)+fR _<=_;omega
  have:=this x.2;omega
 refine Ok.bd (R:=fun o=>o=Sum.inl (b2 (abv g.Z level (cel w oj oi)))) ?_ ?_
 ·refine gO (γ:=Int) (len:=(uT S).length) (fun s x=>(s,x)) (fun k s=>s=fR (((uT S).take k).map fun x=>fR (x.2.map fun e=>cO w g.Z level oi oj (e,nxt S e)))/\ -60*(k:Int)<=s/\s<=60*(k:Int)) (by omega) (by omega) (c0:=0) ⟨rfl,by omega,by omega⟩ ?_ ?_
  ·rintro again k s hk ⟨e,b0,b1⟩ ih;have hx:=List.getElem_mem hk;obtain⟨c1,c2,Y⟩:=D _ hx;have cb:=bd _ hx;dsimp only;refine Ok.cd (fun _=>?_) (fun h=>by have:=dcF h;rw[List.length_map]at this;omega);refine Ok.gd (by rw[bf];exact decide_eq_true (by rw[List.length_map];exact hk)) ?_;rw[I8 hk];have e4:(uT S)[k]=(true,(uT S)[k].2):=by rw[<-c1]
   have ht:=BO C hc O c2 Y (fun e he=>by
    obtain⟨q,hq,rfl⟩:=iZ.1 (c2.st e he);exact(c7.k q hq).1) a1 a6 (fun e he=>by
    obtain⟨q,hq,rfl⟩:=iZ.1 (c2.st e he);rw[show nxt S q.1=q.2 from qs (b4.pw.imp fun h=>h.1) hq];exact c8 q hq)
   rw[<-e4]at ht;refine Ok.bde ht (Ok.cd (fun h=>by cases h) (fun _=>ih _ ⟨?_,?_,?_⟩))
   ·dsimp only;rw[wrap64_in (by omega) (by omega),ur hk,List.map_append,nR,<-e];show s+_=s+(_+0);rw[Int.add_zero]
   ·dsimp only;rw[wrap64_in (by omega) (by omega)];push_cast;omega
   ·dsimp only;rw[wrap64_in (by omega) (by omega)];push_cast;omega
  ·rintro again s ⟨e,b0,b1⟩;rw[List.take_length,T]at e;dsimp only;exact Ok.cd (fun h=>by have:=dcT h;rw[List.length_map]at this;omega) (fun _=>aC.2 (by rw[e]))
 ·rintro o rfl;dsimp only;have lV:(cS g (m-1)).length<=50:=by rw[xj];omega
  have lF:=(uI (qG hw.1 hh.1 a8)).len;by_cases hV:∀p∈cS g (m-1),inV p
  ·have p:=IU C a8 (base:=m-1) (fun z N=>by have:=zin z N;omega) (by omega) hV;have hS:=C.dim.s;have hX:=oK.1 C.dim.x;have hY:=oK.1 C.dim.y;have b1:=yF p.x hX.1 (by omega) a1;have e8:=yF p.y hY.1 (by omega) a6;rw[wrap64_in (n:=(oi:Int)*g.Step) (by omega) (by omega),wrap64_in (n:=g.X0+(oi:Int)*g.Step) (by omega) (by omega),wrap64_in (n:=(oj:Int)*g.Step) (by omega) (by omega),wrap64_in (n:=g.Y0+(oj:Int)*g.Step) (by omega) (by omega)];have b6:mS g.Z (m-1) (oj*w+oi)=gt g.Z (a:Int):=by
    unfold mS;rw[b9,if_pos J,cZ]
   have q:Pnt g w h (m-1) oi oj H:=⟨p,by omega,by omega,by omega,by omega,by rw[b6];exact a7⟩;refine Ok.bd (E5 q) ?_;rintro⟨r1,r2⟩ ⟨q1,q2⟩;dsimp only at q1 q2;subst q1;refine Ok.cd (fun h=>by cases h) (fun _=>Ok.cd (fun _=>aC.2 ?_) (fun h=>by cases h));dsimp only;rw[q2];have ec:cel w oj oi=(a:Int):=by unfold cel;omega
   unfold ovH;rw[b6,ec];unfold b2 abv;have e9:=zin _ (hgt a J);by_cases e5:H<gt g.Z (a:Int)
   ·rw[if_pos (by omega),decide_eq_true (by omega)];rfl
   ·rw[if_neg (by omega),decide_eq_false (by omega)];rfl
  ·exact Ok.bde (BU hV lV (by omega)) (Ok.cd (fun _=>aC.2 rfl) (fun h=>by cases h))
end Go.L

