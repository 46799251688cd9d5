import Derived.Test.YtglimpjlhfjgdaaGreatGrdL21c
set_option linter.all false
namespace Go.L
open Go Go.Eng
theorem Ed{D:List (A2 Int)}(h:shut D=true){e:A2 Int}(he:e∈D):y9 e∈D:=by
 have h1:=AD h e;have h2:0<Cr e D:=by
  unfold Cr;rw[List.countP_pos_iff];exact⟨e,he,Bz.2 rfl⟩
 rw[<-h1]at h2;unfold Cr at h2;rw[List.countP_pos_iff]at h2;obtain⟨x,m,j⟩:=h2;rw[Bz.1 j];exact m
theorem E8{s:List (A2 Int×Bool)}{k:A2 Int}{v:Bool}{p:A2 Int×Bool}(h:p∈al s k v):p∈s\/p.1=k:=by
 induction s with
 |nil=>exact .inr (by simp only[al,List.mem_singleton]at h;rw[h])
 |cons q s m=>
  simp only[al]at h;cases j:k==q.1 with
  |true=>
   rw[j,cond_true]at h;rcases List.mem_cons.1 h with rfl|h
   ·exact .inr rfl
   ·exact .inl (List.mem_cons_of_mem _ h)
  |false=>
   rw[j,cond_false]at h;rcases List.mem_cons.1 h with rfl|h
   ·exact .inl List.mem_cons_self
   ·rcases m h with h|h
    ·exact .inl (List.mem_cons_of_mem _ h)
    ·exact .inr h
theorem FC:∀(D:List (A2 Int)) (s:List (A2 Int×Bool)) (p:A2 Int×Bool),p∈D.foldl tC s->p∈s\/p.1∈D
 |[],s,p,h=>.inl h
 |d::D,s,p,h=>by
  rw[List.foldl_cons]at h;rcases FC D _ p h with h|h
  ·rcases E8 h with h|h
   ·exact .inl h
   ·exact .inr (h▸List.mem_cons_self)
  ·exact .inr (List.mem_cons_of_mem _ h)
theorem xB{σ ε:Type}{f:σ->ε->Option σ}{s:σ}:∀l:List ε,(∀e∈l,f s e=some s)->pz f s l=some s
 |[],_=>rfl
 |e::l,h=>by
  rw[pz,h e List.mem_cons_self];exact xB l fun e he=>h e (List.mem_cons_of_mem _ he)
theorem zw{V:List an}{F:List (A3 Int)}(q:F.length<=200)(hs:shut (F.flatMap eds)=true):jy 20000 (aj.mk V F)=some []:=by
 unfold jy;apply Ok.eq;dsimp only;refine Ok.bd (R:=fun o=>o=(F.flatMap eds).foldl tC []) ?_ ?_
 ·refine kZ (fun k c=>c=((F.take k).flatMap eds).foldl tC []) (len:=F.length) (by omega) (by omega) rfl ?_ ?_
  ·rintro again k c hk rfl j;refine Ok.cd (fun _=>Ok.gd (by rw[bb];exact decide_eq_true hk) (Ok.bde rfl (j _ ?_))) (fun h=>by have:=dcF h;omega);rw[sX eds hk,List.foldl_append,fb];rfl
  ·rintro again c rfl;exact Ok.cd (fun h=>by have:=dcT h;omega) (fun _=>ar.2 (by rw[List.take_length]))
 ·rintro o rfl;refine⟨[],D0 fun p hp=>?_,rfl⟩;rw[xB p fun e he=>?_]
  ·rfl
  ·have hm:=(FC _ _ _ (hp.mem_iff.1 he)).resolve_left (by simp);have m:=Ed hs hm;have:getM false ((F.flatMap eds).foldl tC []) (A2.mk e.1.e1 e.1.e0)=true:=by
    rw[DD,decide_eq_true (show A2.mk e.1.e1 e.1.e0∈F.flatMap eds from m)];rfl
   rw[this];rfl
theorem E2{V:List an}{F:List (A3 Int)}(j:F.length<=200)(p:V.length<=100)(hs:shut (F.flatMap eds)=true):om 20000 (aj.mk V F)=some []:=by
 unfold om;apply Ok.eq;refine Ok.bde (zw j hs) (Ok.bd (R:=fun o=>o=[]) ?_ ?_)
 ·refine lf (γ:=List (List Int)×List (Int×Bool)) (fun c x=>(c.1,c.2,x)) (fun _ c=>c=([],[])) (len:=V.length) (by omega) (by omega) (c0:=([],[])) rfl ?_ ?_
  ·rintro again k c hk rfl m;exact Ok.cd (fun _=>Ok.cd (fun _=>m _ rfl) (fun h=>by cases h)) (fun h=>by have:=dcF h;dsimp only at this;omega)
  ·rintro again c rfl;exact Ok.cd (fun h=>by have:=dcT h;dsimp only at this;omega) (fun _=>ar.2 rfl)
 ·rintro o rfl;exact ar.2 rfl
def gp(Z:List Int)(base:Int)(m:Nat):Int:=if m<Z.length then Z.getD m default else base
theorem DE{a b:Nat}:((a:Int)).tdiv (b:Int)=((a / b:Nat):Int):=rfl
structure Plc (g:ak) (w h:Nat) (base:Int):Prop where
 gd:Gd g w h
 x:g.X0+(w:Int)*g.Step<=1048576
 y:g.Y0+(h:Int)*g.Step<=1048576
 z:∀z∈g.Z,base<=z/\z<=1048576
 b:-1048576<=base/\base<=1048576
 m:w*h<=25
theorem Im{w h v:Nat}(hw:2<=w)(hh:2<=h):(v%(w*h))%w<w/\(v%(w*h)) / w<h:=by
 have j:0<w*h:=Nat.mul_pos (by omega) (by omega);exact⟨Nat.mod_lt _ (by omega),Nat.div_lt_of_lt_mul (Nat.mod_lt _ j)⟩
theorem Fm{X S:Int}{W k:Nat}(h:X+(W:Int)*S<=1048576)(m:-1048576<=X)(j:0<=S)(hk:k<W):0<=(k:Int)*S/\ -1048576<=X+(k:Int)*S/\X+(k:Int)*S<=1048576:=by
 have h1:0<=(k:Int)*S:=Int.mul_nonneg (by omega) j;have h2:(k:Int)*S<=(W:Int)*S:=mrT (by omega) j;omega
theorem FY{g:ak}{w h:Nat}{base:Int}(p:Plc g w h base)(m:Nat):base<=gp g.Z base m/\gp g.Z base m<=1048576:=by
 unfold gp;split
 ·rename_i hm;exact p.z _ (by simp only[List.getD,geT hm,Option.getD_some];exact List.getElem_mem hm)
 ·have:=p.b;omega
theorem mC{g:ak}{w h:Nat}{base:Int}(p:Plc g w h base){k:Nat}(hk:k<2*(w*h)):
  gt (ns g base) (k:Int)=an.mk (g.X0+gxI w (w*h) k*g.Step) (g.Y0+gyI w (w*h) k*g.Step) (gp g.Z base (cnZ (w*h) k))/\inV (gt (ns g base) (k:Int)):=by
 have q:=p.gd;have z:=q.m;have D:=q.W;have E:=p.m;rw[fb];have I:(ns g base).getD k default=sJ g base k:=by
  have:k<(ns g base).length:=by rw[pM];omega
  simp only[List.getD,geT this,Option.getD_some];simp[ns]
 rw[I];have J:=pZ.1 q.dim.x;have M:=pZ.1 q.dim.y;have N:=q.dim.s;obtain⟨g1,g2⟩:=Im (v:=k) q.w1.1 q.h1.1;have O:=Fm p.x J.1 (by omega) g1;have S:=Fm p.y M.1 (by omega) g2;have T:=FY p (cnZ (w*h) k);have C:=p.b;have e:sJ g base k=an.mk (g.X0+gxI w (w*h) k*g.Step) (g.Y0+gyI w (w*h) k*g.Step) (gp g.Z base (cnZ (w*h) k)):=by
  unfold sJ BZ gxI gyI;rw[z,D,zC,DE];generalize (k%(w*h))%w=a at*;generalize (k%(w*h)) / w=c at*;have U:c<64:=by have:=q.h1.2;omega
  rw[wrap64_in (n:=(a:Int)*g.Step) (by omega) (by omega),wrap64_in (n:=g.X0+(a:Int)*g.Step) (by omega) (by omega),wrap64_in (n:=(c:Int)) (by omega) (by omega),wrap64_in (n:=(c:Int)*g.Step) (by omega) (by omega),wrap64_in (n:=g.Y0+(c:Int)*g.Step) (by omega) (by omega)];congr 1;unfold gp cnZ;by_cases j:k<w*h
  ·rw[if_pos j,show Nat.blt k (w*h)=true by simpa [Nat.blt_eq]using j,cond_true,z,if_pos j,fb]
  ·have:Nat.blt k (w*h)=false:=by
    cases C:Nat.blt k (w*h)with
    |false=>rfl
    |true=>rw[Nat.blt_eq]at C;exact absurd C j
   rw[if_neg j,this,cond_false,z,if_neg (by omega)]
 refine⟨e,?_⟩;rw[e];unfold inV gxI gyI;dsimp only;omega
end Go.L


set_option linter.all false
namespace Go.L
open Go Go.Eng
def IL(x:ag)(v:Int)(k:Nat):Prop:=isI x.Negative x.Groups v/\x.Groups.length<=k
theorem IL.of{v:Int}(h:-9223372036854775808<=v)(h2:v<=9223372036854775807):Ok (dw 20000 v) fun z=>IL z v 3:=(sC (by omega) h h2).mono fun z j=>⟨j,fw j h h2⟩
theorem IL.mul{x y:ag}{a b:Int}{j k:Nat}(m:IL x a j)(p:IL y b k)(h:j+k<=400):Ok (bF 20000 x y) fun z=>IL z (a*b) (j+k):=
 (kR (by omega) m.1 p.1 (Nat.le_trans m.2 (by omega)) (Nat.le_trans p.2 (by omega))).mono fun z q=>⟨q,eD m.1 p.1 q m.2 p.2⟩
theorem IL.mono{x:ag}{a:Int}{j k:Nat}(m:IL x a j)(h:j<=k):IL x a k:=⟨m.1,Nat.le_trans m.2 h⟩
theorem IL.add{x y:ag}{a b:Int}{k:Nat}(j:IL x a k)(m:IL y b k)(h:k<=400):Ok (gB 20000 x y) fun z=>IL z (a+b) (k+1):=
 (xj (by omega) j.1 m.1 (Nat.le_trans j.2 h) (Nat.le_trans m.2 h)).mono fun z p=>⟨p,rT j.1 m.1 p j.2 m.2⟩
theorem IL.sub{x y:ag}{a b:Int}{k:Nat}(j:IL x a k)(m:IL y b k)(h:k<=400):Ok (jU 20000 x y) fun z=>IL z (a-b) (k+1):=by
 unfold jU;refine Ok.bde (fX (by omega) (Nat.le_trans j.2 (by omega)) j.1) (Ok.bde (fX (by omega) (Nat.le_trans m.2 (by omega)) m.1) ?_);have e:-b=if (!y.Negative)=true then-vl y.Groups else vl y.Groups:=by rw[m.1.2.2];cases y.Negative<;>simp
 refine Ok.bd (BI (by omega) j.1.1 j.1.2.2 m.1.1 e (Nat.le_trans j.2 h) (Nat.le_trans m.2 h)) fun z p=>ar.2 ?_
 rw[<-Int.sub_eq_add_neg]at p;exact⟨p,vt j.1 m.1 p j.2 m.2⟩
theorem IL.tight{x:ag}{a:Int}{j k:Nat}(m:IL x a j)(h:-pB k<a)(h2:a<pB k):IL x a k:=⟨m.1,gU m.1 h h2⟩
def IV(u:A3 ag)(x y z:Int)(k:Nat):Prop:=IL u.e0 x k/\IL u.e1 y k/\IL u.e2 z k
theorem AN{p:an}(h:inV p):Ok (kx 20000 (an.mk 0 0 0) p) fun u=>IV u p.X p.Y p.Z 3:=by
 obtain⟨h1,h2,q⟩:=h;unfold kx;dsimp only;rw[wrap64_in (n:=p.X-0) (by omega) (by omega),wrap64_in (n:=p.Y-0) (by omega) (by omega),wrap64_in (n:=p.Z-0) (by omega) (by omega),Int.sub_zero,Int.sub_zero,Int.sub_zero];exact Ok.bd (IL.of (by omega) (by omega)) fun a j=>Ok.bd (IL.of (by omega) (by omega)) fun b m=>Ok.bd (IL.of (by omega) (by omega)) fun c hc=>ar.2 ⟨j,m,hc⟩
theorem EW{u v:A3 ag}{a b c d e f:Int}{k:Nat}(hk:k<=50)(hu:IV u a b c k)(j:IV v d e f k):Ok (od 20000 u v) fun z=>IV z (b*f-c*e) (c*d-a*f) (a*e-b*d) (k+k+1):=by
 obtain⟨u1,u2,u3⟩:=hu;obtain⟨v1,v2,v3⟩:=j;unfold od;refine Ok.bd (u2.mul v3 (by omega)) fun N m=>Ok.bd (u3.mul v2 (by omega)) fun O p=>Ok.bd (m.sub p (by omega)) fun S q=>?_
 refine Ok.bd (u3.mul v1 (by omega)) fun T C=>Ok.bd (u1.mul v3 (by omega)) fun U D=>Ok.bd (C.sub D (by omega)) fun Y E=>?_
 refine Ok.bd (u1.mul v2 (by omega)) fun Z I=>Ok.bd (u2.mul v1 (by omega)) fun p8 J=>Ok.bd (I.sub J (by omega)) fun p9 M=>ar.2 ⟨q,E,M⟩
theorem G6{u v:A3 ag}{a b c d e f:Int}{j k:Nat}(M:3<=j+k/\j+k<=50)(hu:IV u a b c j)(p:IV v d e f k):Ok (rG 20000 u v) fun z=>IL z (a*d+b*e+c*f) (j+k+3):=by
 obtain⟨u1,u2,u3⟩:=hu;obtain⟨v1,v2,v3⟩:=p;unfold rG;refine Ok.bd (IL.of (by omega) (by omega)) fun p0 q=>Ok.bd (u1.mul v1 (by omega)) fun N C=>Ok.bd ((q.mono (by omega)).add C (by omega)) fun O D=>?_
 refine Ok.bd (u2.mul v2 (by omega)) fun S E=>Ok.bd (D.add (E.mono (by omega)) (by omega)) fun T I=>?_
 refine Ok.bd (u3.mul v3 (by omega)) fun U J=>Ok.bd (I.add (J.mono (by omega)) (by omega)) fun Y m=>ar.2 ?_
 rw[Int.zero_add]at m;exact m
def uW(X Y S:Int)(w N:Nat)(f:Nat->Int)(t:A3 Int):Int:=Ct (X+gxI w N t.e0.toNat*S) (Y+gyI w N t.e0.toNat*S) (f (cnZ N t.e0.toNat)) (X+gxI w N t.e1.toNat*S) (Y+gyI w N t.e1.toNat*S) (f (cnZ N t.e1.toNat)) (X+gxI w N t.e2.toNat*S) (Y+gyI w N t.e2.toNat*S) (f (cnZ N t.e2.toNat))
theorem Dg(X Y S:Int)(w N:Nat)(f:Nat->Int)(t:A3 Int):uW X Y S w N f t=X*S*lin f (cA w N t)+Y*S*lin f (cB w N t)+S*S*lin f (cC w N t):=by
 unfold uW Ct cA cB cC lin;simp only[List.map_cons,List.map_nil,sI];grind
theorem Fy(X Y S:Int)(w N:Nat)(f:Nat->Int):∀l:List (A3 Int),sI (l.map (uW X Y S w N f))=X*S*lin f (l.flatMap (cA w N))+Y*S*lin f (l.flatMap (cB w N))+S*S*lin f (l.flatMap (cC w N))
 |[]=>by simp[lin,sI]
 |t::l=>by
  rw[List.map_cons,sI,List.flatMap_cons,List.flatMap_cons,List.flatMap_cons,kW,kW,kW,Fy X Y S w N f l,Dg];grind
theorem A1(N:Nat)(f:Nat->Int):∀l:List (A3 Int),sI (l.map (upF N f))=36*lin f (l.flatMap (upN N))
 |[]=>rfl
 |t::l=>by
  rw[List.map_cons,sI,List.flatMap_cons,kW,A1 N f l];unfold upF upN lin;simp only[List.map_cons,List.map_nil,sI];omega
def wx(g:ak)(base:Int)(w h:Nat):Int:=g.Step*g.Step*lin (gp g.Z base) ((cZ (w:Int) (w-1) (h-1)).flatMap (upN (w*h)))
theorem DN{g:ak}{w h:Nat}{base:Int}(p:Plc g w h base):sI ((aC w h).map (uW g.X0 g.Y0 g.Step w (w*h) (gp g.Z base)))=wx g base w h:=by
 have k:=wB (tJ p.gd.w1.1 p.gd.h1.1 p.m);rw[Fy,k.A,k.B,k.C];unfold wx;simp
theorem D5{a b c d e f u v w:Int}{M:Int}(j:0<=M)(h1:-M<=a/\a<=M)(h2:-M<=b/\b<=M)(p:-M<=c/\c<=M)(q:-M<=d/\d<=M)(C:-M<=e/\e<=M)(D:-M<=f/\f<=M)(E:-M<=u/\u<=M)(I:-M<=v/\v<=M)(J:-M<=w/\w<=M):
  -(6*(M*(M*M)))<=Ct a b c d e f u v w/\Ct a b c d e f u v w<=6*(M*(M*M)):=by
 have m:0<=M*M:=Int.mul_nonneg j j;have t:∀{x y z:Int},(-M<=x/\x<=M)->(-M<=y/\y<=M)->(-M<=z/\z<=M)-> -(M*(M*M))<=x*(y*z)/\x*(y*z)<=M*(M*M):=fun N O S=>D4 N (D4 O S j j) j m
 have e:Ct a b c d e f u v w=a*(e*w)-a*(f*v)+(b*(f*u)-b*(d*w))+(c*(d*v)-c*(e*u)):=by unfold Ct;grind
 rw[e];have t1:=t h1 C J;have t2:=t h1 D I;have t3:=t h2 D E;have t4:=t h2 q J;have t5:=t p q I;have t6:=t p C E;omega
end Go.L


set_option linter.all false
namespace Go.L
open Go Go.Eng
theorem H6{g:ak}{w h:Nat}{base:Int}(p:Plc g w h base):∀q∈ns g base,inV q:=by
 intro q j;obtain⟨k,hk,rfl⟩:=List.getElem_of_mem j;have h2:k<2*(w*h):=by rw[pM,p.gd.m]at hk;exact hk
 have:=(mC p h2).2;rw[fb]at this;simpa [List.getD,hk]using this
theorem AZ{g:ak}{w h:Nat}{base:Int}(p:Plc g w h base):kj 20000 (aj.mk (ns g base) (aC w h))=some 0:=
 GU p.gd.w1.1 p.gd.h1.1 p.m (H6 p) (by rw[pM,p.gd.m])
theorem Cc{g:ak}{w h:Nat}{base:Int}(p:Plc g w h base):lJ 20000 (aj.mk (ns g base) (aC w h))=some ([],0):=by
 have k:=wB (tJ p.gd.w1.1 p.gd.h1.1 p.m);unfold lJ;rw[AZ p,E2 k.len (by rw[pM,p.gd.m];have:=p.m;omega) k.sh];rfl
theorem Ef:pB 3=1000000000000000000000000000:=rfl
theorem EZ{g:ak}{w h:Nat}{base:Int}(p:Plc g w h base){a b c:Nat}(E:a<2*(w*h))(I:b<2*(w*h))(hc:c<2*(w*h)):
  -6917529027641081856<=uW g.X0 g.Y0 g.Step w (w*h) (gp g.Z base) (A3.mk (a:Int) (b:Int) (c:Int))/\uW g.X0 g.Y0 g.Step w (w*h) (gp g.Z base) (A3.mk (a:Int) (b:Int) (c:Int))<=6917529027641081856:=by
 have z:=mC p E;have C:=mC p I;have D:=mC p hc;have j:=z.2;have m:=C.2;have q:=D.2;rw[z.1]at j;rw[C.1]at m;rw[D.1]at q;exact D5 (M:=1048576) (by omega) j.1 j.2.1 j.2.2 m.1 m.2.1 m.2.2 q.1 q.2.1 q.2.2
theorem FK{f:A3 Int->Int}{B:Int}(j:0<=B):∀l:List (A3 Int),(∀t∈l,-B<=f t/\f t<=B)->l.length<=200-> -(200*B)<=sI (l.map f)/\sI (l.map f)<=200*B:=by
 intro l h m;have h1:=Fw j l h;have h2:(l.length:Int)*B<=200*B:=mrT (by omega) j;omega
theorem zP{g:ak}{w h:Nat}{base:Int}(p:Plc g w h base):Ok (ln 20000 (aj.mk (ns g base) (aC w h))) fun r=>IL r.1 (wx g base w h) 3/\r.2=0:=by
 have k:=wB (tJ p.gd.w1.1 p.gd.h1.1 p.m);have D:(ns g base).length=2*(w*h):=by rw[pM,p.gd.m]
 have a1:=p.m;have hD:∀t∈aC w h,-6917529027641081856<=uW g.X0 g.Y0 g.Step w (w*h) (gp g.Z base) t/\uW g.X0 g.Y0 g.Step w (w*h) (gp g.Z base) t<=6917529027641081856:=by
  intro t E;obtain⟨a,b,c,j,q,C,hc,_⟩:=wg (k.t t E);rw[j];exact EZ p q C hc
 rw[<-DN p];unfold ln;refine Ok.bde (AZ p) (Ok.cd (fun h=>by cases h) (fun _=>Ok.bde (zw k.len k.sh) (Ok.cd (fun h=>by cases h) (fun _=>?_))));have kl:=k.len;have kt:=k.t;generalize aC w h=F at*;refine Ok.bd (IL.of (by omega) (by omega)) fun M I=>?_
 refine Ok.bd (R:=fun o=>IL (ag.mk o.1 o.2) (sI (F.map (uW g.X0 g.Y0 g.Step w (w*h) (gp g.Z base)))) 3) ?_ ?_
 ·dsimp only;refine lf (γ:=Bool×List Int) (fun c x=>(c.1,c.2,x)) (fun k c=>IL (ag.mk c.1 c.2) (sI ((F.take k).map (uW g.X0 g.Y0 g.Step w (w*h) (gp g.Z base)))) 3) (len:=F.length) (by omega) (by omega) (c0:=(M.Negative,M.Groups)) I ?_ ?_
  ·rintro again k c hk hc ih;have hm:F.getD k default∈F:=by simp only[List.getD,geT hk,Option.getD_some];exact List.getElem_mem hk
   obtain⟨a,b,d,j,q,C,N,_⟩:=wg (kt _ hm);have O:=mC p q;have S:=mC p C;have T:=mC p N;dsimp only;refine Ok.cd (fun _=>Ok.gd (by rw[bb];exact decide_eq_true hk) ?_) (fun h=>by have:=dcF h;omega);rw[fb,j];dsimp only;refine Ok.gd (by rw[bb,D];exact decide_eq_true q) (Ok.bd (AN O.2) fun u hu=>?_);refine Ok.gd (by rw[bb,D];exact decide_eq_true C) (Ok.bd (AN S.2) fun v U=>?_);refine Ok.gd (by rw[bb,D];exact decide_eq_true N) (Ok.bd (AN T.2) fun x Y=>?_);rw[O.1]at hu;rw[S.1]at U;rw[T.1]at Y;refine Ok.bd (EW (by omega) U Y) fun y hy=>Ok.bd (G6 (by omega) hu hy) fun z hz=>Ok.bd (IL.add (hc.mono (by omega)) (hz.mono (k:=20) (by omega)) (by omega)) fun s hs=>?_
   refine ih (s.Negative,s.Groups) ?_;have e:=we (f:=uW g.X0 g.Y0 g.Step w (w*h) (gp g.Z base)) hk;rw[e,j];have J:=FK (by omega) ((F.take (k+1))) (fun t E=>hD t (List.mem_of_mem_take E)) (by rw[List.length_take];omega);rw[e,j]at J;have hs:=hs.tight (k:=3) (by rw[Ef];show _<sI _+uW g.X0 g.Y0 g.Step w (w*h) (gp g.Z base) (A3.mk (a:Int) (b:Int) (d:Int));omega) (by rw[Ef];show sI _+uW g.X0 g.Y0 g.Step w (w*h) (gp g.Z base) (A3.mk (a:Int) (b:Int) (d:Int))<_;omega);exact hs
  ·rintro again c hc;dsimp only;rw[List.take_length]at hc;exact Ok.cd (fun h=>by have:=dcT h;omega) (fun _=>ar.2 hc)
 ·rintro o ho;exact ar.2 ⟨ho,rfl⟩
def vX(Y S:Int)(w N:Nat)(f:Nat->Int)(t:A3 Int):Int:=((Y+gyI w N t.e1.toNat*S)-(Y+gyI w N t.e0.toNat*S))*(f (cnZ N t.e2.toNat)-f (cnZ N t.e0.toNat))-(f (cnZ N t.e1.toNat)-f (cnZ N t.e0.toNat))*((Y+gyI w N t.e2.toNat*S)-(Y+gyI w N t.e0.toNat*S))
def vY(X S:Int)(w N:Nat)(f:Nat->Int)(t:A3 Int):Int:=(f (cnZ N t.e1.toNat)-f (cnZ N t.e0.toNat))*((X+gxI w N t.e2.toNat*S)-(X+gxI w N t.e0.toNat*S))-((X+gxI w N t.e1.toNat*S)-(X+gxI w N t.e0.toNat*S))*(f (cnZ N t.e2.toNat)-f (cnZ N t.e0.toNat))
def vZ(X Y S:Int)(w N:Nat)(t:A3 Int):Int:=((X+gxI w N t.e1.toNat*S)-(X+gxI w N t.e0.toNat*S))*((Y+gyI w N t.e2.toNat*S)-(Y+gyI w N t.e0.toNat*S))-((Y+gyI w N t.e1.toNat*S)-(Y+gyI w N t.e0.toNat*S))*((X+gxI w N t.e2.toNat*S)-(X+gxI w N t.e0.toNat*S))
theorem DH(Y S:Int)(w N:Nat)(f:Nat->Int):∀l:List (A3 Int),sI (l.map (vX Y S w N f))=S*lin f (l.flatMap (cA w N))
 |[]=>by simp[lin,sI]
 |t::l=>by
  rw[List.map_cons,sI,List.flatMap_cons,kW,DH Y S w N f l];unfold vX cA lin;simp only[List.map_cons,List.map_nil,sI];grind
theorem C6(X S:Int)(w N:Nat)(f:Nat->Int):∀l:List (A3 Int),sI (l.map (vY X S w N f))=S*lin f (l.flatMap (cB w N))
 |[]=>by simp[lin,sI]
 |t::l=>by
  rw[List.map_cons,sI,List.flatMap_cons,kW,C6 X S w N f l];unfold vY cB lin;simp only[List.map_cons,List.map_nil,sI];grind
theorem C7(X Y S:Int)(w N:Nat):∀l:List (A3 Int),sI (l.map (vZ X Y S w N))=S*S*sI (l.map (zI w N))
 |[]=>by simp[sI]
 |t::l=>by
  rw[List.map_cons,sI,C7 X Y S w N l,List.map_cons,sI];unfold vZ zI;grind
theorem Dk{a b c d:Int}(h1:-2097152<=a/\a<=2097152)(h2:-2097152<=b/\b<=2097152)(j:-2097152<=c/\c<=2097152)(m:-2097152<=d/\d<=2097152):
  Jt ((Jt (a*b))-(Jt (c*d)))=a*b-c*d/\ -8796093022208<=a*b-c*d/\a*b-c*d<=8796093022208:=by
 have p:=D4 h1 h2 (by omega) (by omega);have q:=D4 j m (by omega) (by omega);rw[wrap64_in (n:=a*b) (by omega) (by omega),wrap64_in (n:=c*d) (by omega) (by omega),wrap64_in (by omega) (by omega)];exact⟨rfl,by omega,by omega⟩
theorem DF{g:ak}{w h:Nat}{base:Int}(p:Plc g w h base):mK 20000 (aj.mk (ns g base) (aC w h))=some (A3.mk 0 0 0,0):=by
 have k:=wB (tJ p.gd.w1.1 p.gd.h1.1 p.m);have S:(ns g base).length=2*(w*h):=by rw[pM,p.gd.m]
 have a1:=p.m;have s1:=DH g.Y0 g.Step w (w*h) (gp g.Z base) (aC w h);have s2:=C6 g.X0 g.Step w (w*h) (gp g.Z base) (aC w h);have Y:=C7 g.X0 g.Y0 g.Step w (w*h) (aC w h);rw[k.A,Int.mul_zero]at s1;rw[k.B,Int.mul_zero]at s2;rw[k.z,Int.mul_zero]at Y;apply Ok.eq;unfold mK;refine Ok.bde (AZ p) (Ok.cd (fun h=>by cases h) (fun _=>?_));have kl:=k.len;have kt:=k.t;generalize aC w h=F at*;dsimp only;refine Ok.bd (R:=fun o=>o=(sI (F.map (vX g.Y0 g.Step w (w*h) (gp g.Z base))),sI (F.map (vY g.X0 g.Step w (w*h) (gp g.Z base))),sI (F.map (vZ g.X0 g.Y0 g.Step w (w*h))))) ?_ ?_
 ·refine lf (γ:=Int×Int×Int) (fun c x=>(c.1,c.2.1,c.2.2,x)) (fun k c=>(c=(sI ((F.take k).map (vX g.Y0 g.Step w (w*h) (gp g.Z base))),sI ((F.take k).map (vY g.X0 g.Step w (w*h) (gp g.Z base))),sI ((F.take k).map (vZ g.X0 g.Y0 g.Step w (w*h)))))/\((-(k*8796093022208)<=c.1/\c.1<=k*8796093022208)/\(-(k*8796093022208)<=c.2.1/\c.2.1<=k*8796093022208)/\(-(k*8796093022208)<=c.2.2/\c.2.2<=k*8796093022208))) (len:=F.length) (by omega) (by omega) (c0:=(0,0,0)) ⟨rfl,by simp⟩ ?_ ?_
  ·rintro again k c hk ⟨rfl,c1,c2,c3⟩ ih;have hm:F.getD k default∈F:=by simp only[List.getD,geT hk,Option.getD_some];exact List.getElem_mem hk
   obtain⟨a,b,d,et,ha,hb,hd,_⟩:=wg (kt _ hm);obtain⟨va,T⟩:=mC p ha;obtain⟨vb,U⟩:=mC p hb;obtain⟨vd,D⟩:=mC p hd;rw[va]at T;rw[vb]at U;rw[vd]at D;dsimp only at c1 c2 c3 ⊢;refine Ok.cd (fun _=>Ok.gd (by rw[bb];exact decide_eq_true hk) ?_) (fun h=>by have:=dcF h;omega);rw[fb,et];dsimp only;refine Ok.gd (by rw[bb,S];exact decide_eq_true ha) (Ok.gd (by rw[bb,S];exact decide_eq_true hb) (Ok.gd (by rw[bb,S];exact decide_eq_true hd) ?_));rw[va,vb,vd];have e1:=we (f:=vX g.Y0 g.Step w (w*h) (gp g.Z base)) hk;have e2:=we (f:=vY g.X0 g.Step w (w*h) (gp g.Z base)) hk;have e3:=we (f:=vZ g.X0 g.Y0 g.Step w (w*h)) hk;rw[et]at e1 e2 e3;unfold inV at T U D;dsimp only at T U D ⊢;have dX:vX g.Y0 g.Step w (w*h) (gp g.Z base) (A3.mk (a:Int) (b:Int) (d:Int))=((g.Y0+gyI w (w*h) b*g.Step)-(g.Y0+gyI w (w*h) a*g.Step))*(gp g.Z base (cnZ (w*h) d)-gp g.Z base (cnZ (w*h) a))-(gp g.Z base (cnZ (w*h) b)-gp g.Z base (cnZ (w*h) a))*((g.Y0+gyI w (w*h) d*g.Step)-(g.Y0+gyI w (w*h) a*g.Step)):=rfl;have dY:vY g.X0 g.Step w (w*h) (gp g.Z base) (A3.mk (a:Int) (b:Int) (d:Int))=(gp g.Z base (cnZ (w*h) b)-gp g.Z base (cnZ (w*h) a))*((g.X0+gxI w (w*h) d*g.Step)-(g.X0+gxI w (w*h) a*g.Step))-((g.X0+gxI w (w*h) b*g.Step)-(g.X0+gxI w (w*h) a*g.Step))*(gp g.Z base (cnZ (w*h) d)-gp g.Z base (cnZ (w*h) a)):=rfl;have dZ:vZ g.X0 g.Y0 g.Step w (w*h) (A3.mk (a:Int) (b:Int) (d:Int))=((g.X0+gxI w (w*h) b*g.Step)-(g.X0+gxI w (w*h) a*g.Step))*((g.Y0+gyI w (w*h) d*g.Step)-(g.Y0+gyI w (w*h) a*g.Step))-((g.Y0+gyI w (w*h) b*g.Step)-(g.Y0+gyI w (w*h) a*g.Step))*((g.X0+gxI w (w*h) d*g.Step)-(g.X0+gxI w (w*h) a*g.Step)):=rfl;generalize g.X0+gxI w (w*h) a*g.Step=j at*;generalize g.X0+gxI w (w*h) b*g.Step=E at*;generalize g.X0+gxI w (w*h) d*g.Step=I at*;generalize g.Y0+gyI w (w*h) a*g.Step=q at*;generalize g.Y0+gyI w (w*h) b*g.Step=J at*;generalize g.Y0+gyI w (w*h) d*g.Step=M at*;generalize gp g.Z base (cnZ (w*h) a)=C at*;generalize gp g.Z base (cnZ (w*h) b)=N at*;generalize gp g.Z base (cnZ (w*h) d)=O at*;have w1:Jt (J-q)=J-q:=wrap64_in (by omega) (by omega);have w2:Jt (O-C)=O-C:=wrap64_in (by omega) (by omega);have w3:Jt (N-C)=N-C:=wrap64_in (by omega) (by omega);have w4:Jt (M-q)=M-q:=wrap64_in (by omega) (by omega);have w5:Jt (I-j)=I-j:=wrap64_in (by omega) (by omega);have w6:Jt (E-j)=E-j:=wrap64_in (by omega) (by omega);rw[w1,w2,w3,w4,w5,w6];obtain⟨t1,u1⟩:=Dk (a:=J-q) (b:=O-C) (c:=N-C) (d:=M-q) (by omega) (by omega) (by omega) (by omega);obtain⟨t2,u2⟩:=Dk (a:=N-C) (b:=I-j) (c:=E-j) (d:=O-C) (by omega) (by omega) (by omega) (by omega);obtain⟨t3,u3⟩:=Dk (a:=E-j) (b:=M-q) (c:=J-q) (d:=I-j) (by omega) (by omega) (by omega) (by omega);rw[t1,t2,t3,<-dX,<-dY,<-dZ];rw[<-dX]at u1;rw[<-dY]at u2;rw[<-dZ]at u3;have a6:(k:Int)<200:=by omega
   rw[wrap64_in (n:=sI ((F.take k).map (vX g.Y0 g.Step w (w*h) (gp g.Z base)))+_) (by omega) (by omega),wrap64_in (n:=sI ((F.take k).map (vY g.X0 g.Step w (w*h) (gp g.Z base)))+_) (by omega) (by omega),wrap64_in (n:=sI ((F.take k).map (vZ g.X0 g.Y0 g.Step w (w*h)))+_) (by omega) (by omega)];refine ih (_,_,_) ⟨by rw[e1,e2,e3],?_⟩;dsimp only;have ek:((k+1:Nat):Int)*8796093022208=(k:Int)*8796093022208+8796093022208:=by omega
   rw[ek];omega
  ·rintro again c ⟨rfl,_⟩;dsimp only;rw[List.take_length];exact Ok.cd (fun h=>by have:=dcT h;omega) (fun _=>ar.2 rfl)
 ·rintro o rfl;rw[s1,s2,Y];exact ar.2 rfl
end Go.L

