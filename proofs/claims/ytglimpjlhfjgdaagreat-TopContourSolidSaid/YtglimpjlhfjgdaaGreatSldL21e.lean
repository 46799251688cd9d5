import Derived.Test.YtglimpjlhfjgdaaGreatSldL21b
set_option linter.all false
namespace Go.L
open Go Go.Eng
theorem tN{N:Nat}{t:A3 Int}(h:okT N t=true):∃a b c:Nat,t=A3.mk (a:Int) (b:Int) (c:Int)/\a<2*N/\b<2*N/\c<2*N/\a≠b/\b≠c/\c≠a:=by
 unfold okT at h;simp only[Bool.and_eq_true,decide_eq_true_eq,Bool.not_eq_true',beq_eq_false_iff_ne]at h;obtain⟨x,y,z⟩:=t;dsimp only at h;exact⟨x.toNat,y.toNat,z.toNat,by congr 1<;>omega,by omega,by omega,by omega,by omega,by omega,by omega⟩
theorem Es{F:List (A3 Int)}{k:Nat}(h:(F.flatMap eds).Nodup)(hk:k<F.length):(((F.take k).flatMap eds)++eds (F.getD k default)).Nodup:=by
 rw[<-rO eds hk];rw[<-List.take_append_drop (k+1) F,List.flatMap_append,List.nodup_append]at h;exact h.1
def gy(n:Nat):{p:(List ar->List (A3 Int)->Option (Sum (List (List Int)) Int))×(List ar->List (A3 Int)->Sum (List (List Int)) Int->Option Int) // ∀V F,gD n (az.mk V F)=bdO (jO n (az.mk V F)) fun v1=>cdO ((v1:Int)!=0) (some v1) (gdO (decide (0<=(V.length:Int))) (gdO (decide ((24:Int)*(V.length:Int)<=281474976710656)) (gdO (decide ((V.length:Int)<=9223372036854775807)) (bdO (p.1 V F) (p.2 V F)))))}:=⟨(_,_),fun _ _=>rfl⟩
theorem Mx{n:Nat}(hn:300<n){N:Nat}{V:List ar}{F:List (A3 Int)}(U:V.length=2*N)(hN:N<=25)(Y:∀x∈F,okT N x=true)(lF:F.length<=200)(nd:(F.flatMap eds).Nodup):Ok ((gy n).1.1 V F) fun o=>o=Sum.inl (arF F (2*N) F.length):=by
 change Ok (aQ n _ _) _;refine gO (γ:=List (A2 Int×Bool)×List (List Int)) (fun c x=>(c.1,c.2,x)) (fun k c=>c=(((F.take k).flatMap eds).foldl tg [],arF F (2*N) k)) (len:=F.length) (by omega) (by omega) (c0:=([],List.replicate (V.length:Int).toNat [])) (by
  rw[U];simp only[List.take_zero,List.flatMap_nil,List.foldl_nil];congr 1;unfold arF arL;simp[List.map_const'];omega) ?_ ?_
 ·rintro again k c hk rfl ih;dsimp only;have m:=Es nd hk;have hm:F.getD k default∈F:=by simp only[List.getD,geT hk,Option.getD_some];exact List.getElem_mem hk
  obtain⟨a,b,c,I,D,p,q,O,n2,T⟩:=tN (Y _ hm);have a1:=zD F k a;have a6:=zD F k b;have a7:=zD F k c;have C:∀j,(arF F (2*N) j).length=2*N:=fun j=>by simp[arF]
  have hs:=fun e=>Ey ((F.take k).flatMap eds) [] e
  have es:=rO eds hk;rw[I]at m es;have J:=GY (N:=2*N) I D p q O n2 T;unfold eds at m;dsimp only at m;rw[List.nodup_append]at m;obtain⟨_,a8,M⟩:=m;have m0:∀e∈[A2.mk (a:Int) (b:Int),A2.mk (b:Int) (c:Int),A2.mk (c:Int) (a:Int)],e∉(F.take k).flatMap eds:=fun e he hd=>M _ hd _ he rfl
  have q0:=m0 (A2.mk (a:Int) (b:Int)) (by simp);have q1:=m0 (A2.mk (b:Int) (c:Int)) (by simp);have q2:=m0 (A2.mk (c:Int) (a:Int)) (by simp);have z:∀e:A2 Int,getM false ([]:List (A2 Int×Bool)) e=false:=fun e=>rfl
  have r1:((A2.mk (b:Int) (c:Int))==(A2.mk (a:Int) (b:Int)))=false:=beq_eq_false_iff_ne.2 (by intro e;injection e with e1 e2;omega);have r2:((A2.mk (c:Int) (a:Int))==(A2.mk (a:Int) (b:Int)))=false:=beq_eq_false_iff_ne.2 (by intro e;injection e with e1 e2;omega);have r3:((A2.mk (c:Int) (a:Int))==(A2.mk (b:Int) (c:Int)))=false:=beq_eq_false_iff_ne.2 (by intro e;injection e with e1 e2;omega);have ga:gt (arF F (2*N) k) (a:Int)=arL F k a:=by rw[cZ,um D]
  refine Ok.cd (fun _=>Ok.gd (by rw[bf];exact decide_eq_true hk) ?_) (fun h=>by have:=dcF h;omega);rw[cZ,I];refine Ok.bde rfl ?_;dsimp only;have E:∀(l:List (List Int)) (v:Nat),l.length=2*N->v<2*N->inR (v:Int) l.length=true:=fun l v h1 h2=>by rw[bf,h1];exact decide_eq_true h2
  have ea:(gt (arF F (2*N) k) (a:Int))=arL F k a:=by rw[cZ,um D]
  have eb:(gt ((arF F (2*N) k).set a (arL F k a++[(k:Int)])) (b:Int))=arL F k b:=by rw[cZ,oC (by rw[C];exact D),if_neg O,um p]
  have ec:(gt (((arF F (2*N) k).set a (arL F k a++[(k:Int)])).set b (arL F k b++[(k:Int)])) (c:Int))=arL F k c:=by rw[cZ,oC (by rw[List.length_set,C];exact p),if_neg n2,oC (by rw[C];exact D),if_neg (fun h=>T h.symm),um q]
  have g0:getM false (((F.take k).flatMap eds).foldl tg []) (A2.mk (a:Int) (b:Int))=false:=by rw[hs];simp[q0,z]
  have g1:getM false (aW (((F.take k).flatMap eds).foldl tg []) (A2.mk (a:Int) (b:Int)) true) (A2.mk (b:Int) (c:Int))=false:=by
   show getM false (tg _ _) _=false;rw[tz,hs,r1];simp[q1,z]
  have g2:getM false (aW (aW (((F.take k).flatMap eds).foldl tg []) (A2.mk (a:Int) (b:Int)) true) (A2.mk (b:Int) (c:Int)) true) (A2.mk (c:Int) (a:Int))=false:=by
   show getM false (tg (tg _ _) _) _=false;rw[tz,tz,hs,r2,r3];simp[q2,z]
  rw[g0,g1,g2];refine Ok.cd (fun h=>by cases h) (fun _=>Ok.gd (E _ _ (C k) D) ?_);simp only[ea,Int.toNat_natCast,eb,ec];refine Ok.gd (decide_eq_true (by omega)) (Ok.gd (decide_eq_true (by omega)) (Ok.cd (fun h=>by cases h) (fun _=>Ok.gd (E _ _ (C k) p) (Ok.gd (E _ _ (by rw[List.length_set,C]) p) ?_))));refine Ok.gd (decide_eq_true (by omega)) (Ok.gd (decide_eq_true (by omega)) (Ok.cd (fun h=>by cases h) (fun _=>Ok.gd (E _ _ (C k) q) (Ok.gd (E _ _ (by rw[List.length_set,List.length_set,C]) q) ?_))));refine Ok.gd (decide_eq_true (by omega)) (Ok.gd (decide_eq_true (by omega)) (ih (_,_) ?_));rw[J,es,List.foldl_append];rfl
 ·rintro again c rfl;dsimp only;exact Ok.cd (fun h=>by have:=dcT h;omega) (fun _=>aC.2 rfl)
theorem Mo:(gy 20000).1.2 [] (aG 2 2) (Sum.inl (arF (aG 2 2) (2*(2*2)) (aG 2 2).length))=some 0:=by kernel_rfl
theorem Lv:(gy 20000).1.2 [] (aG 2 3) (Sum.inl (arF (aG 2 3) (2*(2*3)) (aG 2 3).length))=some 0:=by kernel_rfl
theorem Mp:(gy 20000).1.2 [] (aG 2 4) (Sum.inl (arF (aG 2 4) (2*(2*4)) (aG 2 4).length))=some 0:=by kernel_rfl
theorem LV:(gy 20000).1.2 [] (aG 2 5) (Sum.inl (arF (aG 2 5) (2*(2*5)) (aG 2 5).length))=some 0:=by kernel_rfl
theorem LL:(gy 20000).1.2 [] (aG 2 6) (Sum.inl (arF (aG 2 6) (2*(2*6)) (aG 2 6).length))=some 0:=by kernel_rfl
theorem LB:(gy 20000).1.2 [] (aG 2 7) (Sum.inl (arF (aG 2 7) (2*(2*7)) (aG 2 7).length))=some 0:=by kernel_rfl
theorem Ml:(gy 20000).1.2 [] (aG 2 8) (Sum.inl (arF (aG 2 8) (2*(2*8)) (aG 2 8).length))=some 0:=by kernel_rfl
theorem LN:(gy 20000).1.2 [] (aG 2 9) (Sum.inl (arF (aG 2 9) (2*(2*9)) (aG 2 9).length))=some 0:=by kernel_rfl
theorem K0:(gy 20000).1.2 [] (aG 2 10) (Sum.inl (arF (aG 2 10) (2*(2*10)) (aG 2 10).length))=some 0:=by kernel_rfl
theorem Kq:(gy 20000).1.2 [] (aG 2 11) (Sum.inl (arF (aG 2 11) (2*(2*11)) (aG 2 11).length))=some 0:=by kernel_rfl
theorem KI:(gy 20000).1.2 [] (aG 2 12) (Sum.inl (arF (aG 2 12) (2*(2*12)) (aG 2 12).length))=some 0:=by kernel_rfl
theorem Mz:(gy 20000).1.2 [] (aG 3 2) (Sum.inl (arF (aG 3 2) (2*(3*2)) (aG 3 2).length))=some 0:=by kernel_rfl
theorem L4:(gy 20000).1.2 [] (aG 3 3) (Sum.inl (arF (aG 3 3) (2*(3*3)) (aG 3 3).length))=some 0:=by kernel_rfl
theorem Mc:(gy 20000).1.2 [] (aG 3 4) (Sum.inl (arF (aG 3 4) (2*(3*4)) (aG 3 4).length))=some 0:=by kernel_rfl
theorem Lk:(gy 20000).1.2 [] (aG 3 5) (Sum.inl (arF (aG 3 5) (2*(3*5)) (aG 3 5).length))=some 0:=by kernel_rfl
theorem Ms:(gy 20000).1.2 [] (aG 3 6) (Sum.inl (arF (aG 3 6) (2*(3*6)) (aG 3 6).length))=some 0:=by kernel_rfl
theorem Mk:(gy 20000).1.2 [] (aG 3 7) (Sum.inl (arF (aG 3 7) (2*(3*7)) (aG 3 7).length))=some 0:=by kernel_rfl
theorem Ls:(gy 20000).1.2 [] (aG 3 8) (Sum.inl (arF (aG 3 8) (2*(3*8)) (aG 3 8).length))=some 0:=by kernel_rfl
theorem MA:(gy 20000).1.2 [] (aG 4 2) (Sum.inl (arF (aG 4 2) (2*(4*2)) (aG 4 2).length))=some 0:=by kernel_rfl
theorem LU:(gy 20000).1.2 [] (aG 4 3) (Sum.inl (arF (aG 4 3) (2*(4*3)) (aG 4 3).length))=some 0:=by kernel_rfl
theorem Ly:(gy 20000).1.2 [] (aG 4 4) (Sum.inl (arF (aG 4 4) (2*(4*4)) (aG 4 4).length))=some 0:=by kernel_rfl
theorem LH:(gy 20000).1.2 [] (aG 4 5) (Sum.inl (arF (aG 4 5) (2*(4*5)) (aG 4 5).length))=some 0:=by kernel_rfl
theorem LY:(gy 20000).1.2 [] (aG 4 6) (Sum.inl (arF (aG 4 6) (2*(4*6)) (aG 4 6).length))=some 0:=by kernel_rfl
theorem Ll:(gy 20000).1.2 [] (aG 5 2) (Sum.inl (arF (aG 5 2) (2*(5*2)) (aG 5 2).length))=some 0:=by kernel_rfl
theorem Lj:(gy 20000).1.2 [] (aG 5 3) (Sum.inl (arF (aG 5 3) (2*(5*3)) (aG 5 3).length))=some 0:=by kernel_rfl
theorem LS:(gy 20000).1.2 [] (aG 5 4) (Sum.inl (arF (aG 5 4) (2*(5*4)) (aG 5 4).length))=some 0:=by kernel_rfl
theorem LC:(gy 20000).1.2 [] (aG 5 5) (Sum.inl (arF (aG 5 5) (2*(5*5)) (aG 5 5).length))=some 0:=by kernel_rfl
theorem LI:(gy 20000).1.2 [] (aG 6 2) (Sum.inl (arF (aG 6 2) (2*(6*2)) (aG 6 2).length))=some 0:=by kernel_rfl
theorem LF:(gy 20000).1.2 [] (aG 6 3) (Sum.inl (arF (aG 6 3) (2*(6*3)) (aG 6 3).length))=some 0:=by kernel_rfl
theorem Mt:(gy 20000).1.2 [] (aG 6 4) (Sum.inl (arF (aG 6 4) (2*(6*4)) (aG 6 4).length))=some 0:=by kernel_rfl
theorem MF:(gy 20000).1.2 [] (aG 7 2) (Sum.inl (arF (aG 7 2) (2*(7*2)) (aG 7 2).length))=some 0:=by kernel_rfl
theorem Mj:(gy 20000).1.2 [] (aG 7 3) (Sum.inl (arF (aG 7 3) (2*(7*3)) (aG 7 3).length))=some 0:=by kernel_rfl
theorem MJ:(gy 20000).1.2 [] (aG 8 2) (Sum.inl (arF (aG 8 2) (2*(8*2)) (aG 8 2).length))=some 0:=by kernel_rfl
theorem Lm:(gy 20000).1.2 [] (aG 8 3) (Sum.inl (arF (aG 8 3) (2*(8*3)) (aG 8 3).length))=some 0:=by kernel_rfl
theorem MG:(gy 20000).1.2 [] (aG 9 2) (Sum.inl (arF (aG 9 2) (2*(9*2)) (aG 9 2).length))=some 0:=by kernel_rfl
theorem KP:(gy 20000).1.2 [] (aG 10 2) (Sum.inl (arF (aG 10 2) (2*(10*2)) (aG 10 2).length))=some 0:=by kernel_rfl
theorem KS:(gy 20000).1.2 [] (aG 11 2) (Sum.inl (arF (aG 11 2) (2*(11*2)) (aG 11 2).length))=some 0:=by kernel_rfl
theorem KZ:(gy 20000).1.2 [] (aG 12 2) (Sum.inl (arF (aG 12 2) (2*(12*2)) (aG 12 2).length))=some 0:=by kernel_rfl
theorem Mq{w h:Nat}(hw:2<=w)(j:2<=h)(hm:w*h<=25):(gy 20000).1.2 [] (aG w h) (Sum.inl (arF (aG w h) (2*(w*h)) (aG w h).length))=some 0:=by
 refine C1 (P:=fun w h=>(gy 20000).1.2 [] (aG w h) (Sum.inl (arF (aG w h) (2*(w*h)) (aG w h).length))=some 0) ?_ hw j hm;rw[AW];simp only[List.forall_mem_cons,List.not_mem_nil,false_implies,implies_true,and_true];exact⟨Mo,Lv,Mp,LV,LL,LB,Ml,LN,K0,Kq,KI,Mz,L4,Mc,Lk,Ms,Mk,Ls,MA,LU,Ly,LH,LY,Ll,Lj,LS,LC,LI,LF,Mt,MF,Mj,MJ,Lm,MG,KP,KS,KZ⟩
theorem J5{w h:Nat}(hw:2<=w)(m:2<=h)(hm:w*h<=25){V:List ar}(q:∀p∈V,inV p)(j:V.length=2*(w*h)):gD 20000 (az.mk V (aG w h))=some 0:=by
 have k:=uI (qG hw m hm);rw[(gy 20000).2,Hb q hm j k.t k.len];apply Ok.eq;refine Ok.bde rfl (Ok.cd (fun h=>by cases h) (fun _=>?_));rw[j];refine Ok.gd (decide_eq_true (by omega)) ?_;refine Ok.gd (decide_eq_true (by omega)) ?_;refine Ok.gd (decide_eq_true (by omega)) ?_;refine Ok.bd (Mx (by omega) j hm k.t k.len k.nd) ?_;rintro o rfl;exact Ok.of_eq (show(gy 20000).1.2 [] _ _=some 0 from Mq hw m hm) rfl
end Go.L


set_option linter.all false
namespace Go.L
open Go Go.Eng
theorem yZ{D:List (A2 Int)}(h:shut D=true){e:A2 Int}(he:e∈D):sH e∈D:=by
 have h1:=B8 h e;have h2:0<Eh e D:=by
  unfold Eh;rw[List.countP_pos_iff];exact⟨e,he,DF.2 rfl⟩
 rw[<-h1]at h2;unfold Eh at h2;rw[List.countP_pos_iff]at h2;obtain⟨x,m,j⟩:=h2;rw[DF.1 j];exact m
theorem HL{s:List (A2 Int×Bool)}{k:A2 Int}{v:Bool}{p:A2 Int×Bool}(h:p∈aW s k v):p∈s\/p.1=k:=by
 induction s with
 |nil=>exact .inr (by simp only[aW,List.mem_singleton]at h;rw[h])
 |cons q s m=>
  simp only[aW]at h;cases j:k==q.1 with
  |true=>
   rw[j,cond_true]at h;rcases List.mem_cons.1 h with rfl|h
   ·exact .inr rfl
   ·exact .inl (List.mem_cons_of_mem _ h)
  |false=>
   rw[j,cond_false]at h;rcases List.mem_cons.1 h with rfl|h
   ·exact .inl List.mem_cons_self
   ·rcases m h with h|h
    ·exact .inl (List.mem_cons_of_mem _ h)
    ·exact .inr h
theorem HY:∀(D:List (A2 Int)) (s:List (A2 Int×Bool)) (p:A2 Int×Bool),p∈D.foldl tg s->p∈s\/p.1∈D
 |[],s,p,h=>.inl h
 |d::D,s,p,h=>by
  rw[List.foldl_cons]at h;rcases HY D _ p h with h|h
  ·rcases HL h with h|h
   ·exact .inl h
   ·exact .inr (h▸List.mem_cons_self)
  ·exact .inr (List.mem_cons_of_mem _ h)
theorem wW{σ ε:Type}{f:σ->ε->Option σ}{s:σ}:∀l:List ε,(∀e∈l,f s e=some s)->kY f s l=some s
 |[],_=>rfl
 |e::l,h=>by
  rw[kY,h e List.mem_cons_self];exact wW l fun e he=>h e (List.mem_cons_of_mem _ he)
theorem Aj{V:List ar}{F:List (A3 Int)}(q:F.length<=200)(hs:shut (F.flatMap eds)=true):fA 20000 (az.mk V F)=some []:=by
 unfold fA;apply Ok.eq;dsimp only;refine Ok.bd (R:=fun o=>o=(F.flatMap eds).foldl tg []) ?_ ?_
 ·refine iB (fun k c=>c=((F.take k).flatMap eds).foldl tg []) (len:=F.length) (by omega) (by omega) rfl ?_ ?_
  ·rintro again k c hk rfl j;refine Ok.cd (fun _=>Ok.gd (by rw[bf];exact decide_eq_true hk) (Ok.bde rfl (j _ ?_))) (fun h=>by have:=dcF h;omega);rw[rO eds hk,List.foldl_append,cZ];rfl
  ·rintro again c rfl;exact Ok.cd (fun h=>by have:=dcT h;omega) (fun _=>aC.2 (by rw[List.take_length]))
 ·rintro o rfl;refine⟨[],DA fun p hp=>?_,rfl⟩;rw[wW p fun e he=>?_]
  ·rfl
  ·have hm:=(HY _ _ _ (hp.mem_iff.1 he)).resolve_left (by simp);have m:=yZ hs hm;have:getM false ((F.flatMap eds).foldl tg []) (A2.mk e.1.e1 e.1.e0)=true:=by
    rw[Ey,decide_eq_true (show A2.mk e.1.e1 e.1.e0∈F.flatMap eds from m)];rfl
   rw[this];rfl
def mS(Z:List Int)(base:Int)(m:Nat):Int:=if m<Z.length then Z.getD m default else base
theorem Gq{a b:Nat}:((a:Int)).tdiv (b:Int)=((a / b:Nat):Int):=rfl
structure Plc (g:aj) (w h:Nat) (base:Int):Prop where
 gd:Gd g w h
 x:g.X0+((w:Int)-1)*g.Step<=1048576
 y:g.Y0+((h:Int)-1)*g.Step<=1048576
 z:∀z∈g.Z,base<=z/\z<=1048576
 b:-1048576<=base/\base<=1048576
 m:w*h<=25
theorem L0{w h v:Nat}(hw:2<=w)(m:2<=h):(v%(w*h))%w<w/\(v%(w*h)) / w<h:=by
 have j:0<w*h:=Nat.mul_pos (by omega) (by omega);exact⟨Nat.mod_lt _ (by omega),Nat.div_lt_of_lt_mul (Nat.mod_lt _ j)⟩
theorem yF{X S:Int}{W k:Nat}(h:X+((W:Int)-1)*S<=1048576)(m:-1048576<=X)(j:0<=S)(hk:k<W):0<=(k:Int)*S/\ -1048576<=X+(k:Int)*S/\X+(k:Int)*S<=1048576:=by
 have h1:0<=(k:Int)*S:=Int.mul_nonneg (by omega) j;have h2:(k:Int)*S<=((W:Int)-1)*S:=mrT (by omega) j;omega
theorem I4{g:aj}{w h:Nat}{base:Int}(p:Plc g w h base)(m:Nat):base<=mS g.Z base m/\mS g.Z base m<=1048576:=by
 unfold mS;split
 ·rename_i hm;exact p.z _ (by simp only[List.getD,geT hm,Option.getD_some];exact List.getElem_mem hm)
 ·have:=p.b;omega
theorem Di{g:aj}{w h:Nat}{base:Int}(p:Plc g w h base){k:Nat}(hk:k<2*(w*h)):
  gt (cS g base) (k:Int)=ar.mk (g.X0+gxI w (w*h) k*g.Step) (g.Y0+gyI w (w*h) k*g.Step) (mS g.Z base (cnZ (w*h) k))/\inV (gt (cS g base) (k:Int)):=by
 have q:=p.gd;have z:=q.m;have D:=q.W;have E:=p.m;rw[cZ];have I:(cS g base).getD k default=py g base k:=by
  have:k<(cS g base).length:=by rw[xj];omega
  simp only[List.getD,geT this,Option.getD_some];simp[cS]
 rw[I];have J:=oK.1 q.dim.x;have M:=oK.1 q.dim.y;have N:=q.dim.s;obtain⟨g1,g2⟩:=L0 (v:=k) q.w1.1 q.h1.1;have O:=yF p.x J.1 (by omega) g1;have b2:=yF p.y M.1 (by omega) g2;have T:=I4 p (cnZ (w*h) k);have C:=p.b;have e:py g base k=ar.mk (g.X0+gxI w (w*h) k*g.Step) (g.Y0+gyI w (w*h) k*g.Step) (mS g.Z base (cnZ (w*h) k)):=by
  unfold py AK gxI gyI;rw[z,D,Bh,Gq];generalize (k%(w*h))%w=a at*;generalize (k%(w*h)) / w=c at*;have U:c<64:=by have:=q.h1.2;omega
  rw[wrap64_in (n:=(a:Int)*g.Step) (by omega) (by omega),wrap64_in (n:=g.X0+(a:Int)*g.Step) (by omega) (by omega),wrap64_in (n:=(c:Int)) (by omega) (by omega),wrap64_in (n:=(c:Int)*g.Step) (by omega) (by omega),wrap64_in (n:=g.Y0+(c:Int)*g.Step) (by omega) (by omega)];congr 1;unfold mS cnZ;by_cases j:k<w*h
  ·rw[if_pos j,show Nat.blt k (w*h)=true by simpa [Nat.blt_eq]using j,cond_true,z,if_pos j,cZ]
  ·have:Nat.blt k (w*h)=false:=by
    cases C:Nat.blt k (w*h)with
    |false=>rfl
    |true=>rw[Nat.blt_eq]at C;exact absurd C j
   rw[if_neg j,this,cond_false,z,if_neg (by omega)]
 refine⟨e,?_⟩;rw[e];unfold inV gxI gyI;dsimp only;omega
end Go.L


set_option linter.all false
namespace Go.L
open Go Go.Eng
def IL(x:ah)(v:Int)(k:Nat):Prop:=isI x.Negative x.Groups v/\x.Groups.length<=k
theorem IL.of{v:Int}(h:-9223372036854775808<=v)(h2:v<=9223372036854775807):Ok (cj 20000 v) fun z=>IL z v 3:=(x9 (by omega) h h2).mono fun z j=>⟨j,jF j h h2⟩
theorem IL.mul{x y:ah}{a b:Int}{j k:Nat}(m:IL x a j)(p:IL y b k)(h:j+k<=400):Ok (br 20000 x y) fun z=>IL z (a*b) (j+k):=
 (qx (by omega) m.1 p.1 (Nat.le_trans m.2 (by omega)) (Nat.le_trans p.2 (by omega))).mono fun z q=>⟨q,gU m.1 p.1 q m.2 p.2⟩
theorem IL.mono{x:ah}{a:Int}{j k:Nat}(m:IL x a j)(h:j<=k):IL x a k:=⟨m.1,Nat.le_trans m.2 h⟩
theorem IL.add{x y:ah}{a b:Int}{k:Nat}(j:IL x a k)(m:IL y b k)(h:k<=400):Ok (cq 20000 x y) fun z=>IL z (a+b) (k+1):=
 (FT (by omega) j.1 m.1 (Nat.le_trans j.2 h) (Nat.le_trans m.2 h)).mono fun z p=>⟨p,vr j.1 m.1 p j.2 m.2⟩
theorem IL.sub{x y:ah}{a b:Int}{k:Nat}(j:IL x a k)(m:IL y b k)(h:k<=400):Ok (iS 20000 x y) fun z=>IL z (a-b) (k+1):=by
 unfold iS;refine Ok.bde (eT (by omega) (Nat.le_trans j.2 (by omega)) j.1) (Ok.bde (eT (by omega) (Nat.le_trans m.2 (by omega)) m.1) ?_);have e:-b=if (!y.Negative)=true then-vl y.Groups else vl y.Groups:=by rw[m.1.2.2];cases y.Negative<;>simp
 refine Ok.bd (CS (by omega) j.1.1 j.1.2.2 m.1.1 e (Nat.le_trans j.2 h) (Nat.le_trans m.2 h)) fun z p=>aC.2 ?_
 rw[<-Int.sub_eq_add_neg]at p;exact⟨p,Aa j.1 m.1 p j.2 m.2⟩
theorem IL.tight{x:ah}{a:Int}{j k:Nat}(m:IL x a j)(h:-pB k<a)(h2:a<pB k):IL x a k:=⟨m.1,kK m.1 h h2⟩
def IV(u:A3 ah)(x y z:Int)(k:Nat):Prop:=IL u.e0 x k/\IL u.e1 y k/\IL u.e2 z k
theorem Hv{u v:A3 ah}{a b c d e f:Int}{k:Nat}(hk:k<=50)(hu:IV u a b c k)(j:IV v d e f k):Ok (cW 20000 u v) fun z=>IV z (b*f-c*e) (c*d-a*f) (a*e-b*d) (k+k+1):=by
 obtain⟨u1,u2,u3⟩:=hu;obtain⟨v1,v2,v3⟩:=j;unfold cW;refine Ok.bd (u2.mul v3 (by omega)) fun N m=>Ok.bd (u3.mul v2 (by omega)) fun O p=>Ok.bd (m.sub p (by omega)) fun T q=>?_
 refine Ok.bd (u3.mul v1 (by omega)) fun U C=>Ok.bd (u1.mul v3 (by omega)) fun Y D=>Ok.bd (C.sub D (by omega)) fun p6 E=>?_
 refine Ok.bd (u1.mul v2 (by omega)) fun p7 I=>Ok.bd (u2.mul v1 (by omega)) fun p8 J=>Ok.bd (I.sub J (by omega)) fun p9 M=>aC.2 ⟨q,E,M⟩
theorem Kr{u v:A3 ah}{a b c d e f:Int}{j k:Nat}(M:3<=j+k/\j+k<=50)(hu:IV u a b c j)(p:IV v d e f k):Ok (dH 20000 u v) fun z=>IL z (a*d+b*e+c*f) (j+k+3):=by
 obtain⟨u1,u2,u3⟩:=hu;obtain⟨v1,v2,v3⟩:=p;unfold dH;refine Ok.bd (IL.of (by omega) (by omega)) fun p0 q=>Ok.bd (u1.mul v1 (by omega)) fun N C=>Ok.bd ((q.mono (by omega)).add C (by omega)) fun O D=>?_
 refine Ok.bd (u2.mul v2 (by omega)) fun T E=>Ok.bd (D.add (E.mono (by omega)) (by omega)) fun U I=>?_
 refine Ok.bd (u3.mul v3 (by omega)) fun Y J=>Ok.bd (I.add (J.mono (by omega)) (by omega)) fun p6 m=>aC.2 ?_
 rw[Int.zero_add]at m;exact m
end Go.L

