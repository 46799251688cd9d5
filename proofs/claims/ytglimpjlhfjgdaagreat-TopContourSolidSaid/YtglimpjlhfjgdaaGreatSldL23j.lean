import Derived.Test.YtglimpjlhfjgdaaGreatSldL23f
import Derived.KernelRfl
set_option linter.all false
namespace Go.L
open Go Go.Eng
theorem JE(k:Int)(u v w:A3 Int):ctF k v w u=ctF k u v w:=by
 unfold ctF;rw[show dtV v w u=dtV u v w by unfold dtV;grind];exact(zl _ _ _ _).symm
theorem IX{k:Int}{u v w:A3 Int}(h:okK k u v w):okK k v w u:=by
 unfold okK at*;rw[show dtV v w u=dtV u v w by unfold dtV;grind];exact fun j=>⟨(h j).2.1,(h j).2.2,(h j).1⟩
def psT(k:Int)(c:A3 (A3 Int)):Int:=psE k c.e0 c.e1+(psE k c.e1 c.e2+psE k c.e2 c.e0)
def xP(k:Int)(c:A3 (A3 Int)):Prop:=okK k c.e0 c.e1 c.e2
structure Pnt (g:aj) (w h:Nat) (base:Int) (ox oy:Nat) (H:Int):Prop where
 p:Plc g w h base
 x:1<=ox/\ox+1<w
 y:1<=oy/\oy+1<h
 b:base<H
 hi:H<=1048576
 c:mS g.Z base (oy*w+ox)≠H
def ptP(g:aj)(ox oy:Nat)(H:Int):ar:=ar.mk (g.X0+(ox:Int)*g.Step) (g.Y0+(oy:Int)*g.Step) H
section
variable{g:aj}{w h:Nat}{base:Int}{ox oy:Nat}{H:Int}
theorem Pnt.inV(q:Pnt g w h base ox oy H):inV (ptP g ox oy H):=by
 have j:=oK.1 q.p.gd.dim.x;have m:=oK.1 q.p.gd.dim.y;have z:=q.p.gd.dim.s;have C:=yF q.p.x j.1 (by omega) (show ox<w by have:=q.x;omega);have b2:=yF q.p.y m.1 (by omega) (show oy<h by have:=q.y;omega);have D:=q.p.b;have:=q.b;have:=q.hi;unfold Go.L.inV ptP;dsimp only;omega
theorem tq(q:Pnt g w h base ox oy H){k:Nat}(hk:k<2*(w*h)):vwP (ptP g ox oy H) (cS g base) (k:Int)=A3.mk ((plO w (w*h) ox oy (k:Int)).e0*g.Step) ((plO w (w*h) ox oy (k:Int)).e1*g.Step) (mS g.Z base (cnZ (w*h) k)-H):=by
 unfold vwP ptP plO;rw[(Di q.p hk).1];dsimp only;rw[Int.toNat_natCast,Int.sub_mul,Int.sub_mul];congr 1<;>omega
def ovH(g:aj)(w:Nat)(base:Int)(ox oy:Nat)(H:Int):Int:=mS g.Z base (oy*w+ox)-H
theorem Cq(q:Pnt g w h base ox oy H){k:Nat}(hk:k<2*(w*h))(z:(plO w (w*h) ox oy (k:Int)).e0=0)(h1:(plO w (w*h) ox oy (k:Int)).e1=0):
  (k<w*h->mS g.Z base (cnZ (w*h) k)-H=ovH g w base ox oy H)/\(¬k<w*h->mS g.Z base (cnZ (w*h) k)-H<0):=by
 unfold plO gxI gyI at z h1;rw[Int.toNat_natCast]at z h1;dsimp only at z h1;constructor
 ·intro j;rw[Nat.mod_eq_of_lt j]at z h1;have e:k=oy*w+ox:=by
   have:=Nat.div_add_mod k w;have e1:k%w=ox:=by omega
   have e2:k / w=oy:=by omega
   rw[e1,e2,Nat.mul_comm]at this;omega
  unfold cnZ ovH;rw[show Nat.blt k (w*h)=true by simpa [Nat.blt_eq]using j,cond_true,e]
 ·intro C;unfold cnZ;rw[show Nat.blt k (w*h)=false by
   cases D:Nat.blt k (w*h)with
   |false=>rfl
   |true=>rw[Nat.blt_eq]at D;exact absurd D C,cond_false]
  unfold mS;rw[if_neg (by rw[q.p.gd.m];omega)];have:=q.b;omega
theorem Fb{k S:Int}(hk:2<=k)(j:0<S){a:A2 Int}(p:(-1<=a.e0/\a.e0<=1)/\ -1<=a.e1/\a.e1<=1){z:Int}:(sgK k (A3.mk (a.e0*S) (a.e1*S) z)<0↔sgO a<0)/\(0<sgK k (A3.mk (a.e0*S) (a.e1*S) z)↔0<sgO a):=by
 have e:sgK k (A3.mk (a.e0*S) (a.e1*S) z)=(a.e1-k*a.e0)*S:=by unfold sgK;grind
 rw[e];have key:(a.e1-k*a.e0<0↔sgO a<0)/\(0<a.e1-k*a.e0↔0<sgO a):=by
  unfold sgO;rcases (by omega:a.e0=-1\/a.e0=0\/a.e0=1)with h|h|h<;>rw[h]<;>simp<;>omega
 rw[<-key.1,<-key.2];generalize a.e1-k*a.e0=m;refine⟨⟨fun h=>zS (by omega) h,fun h=>npI h j⟩,⟨fun h=>wj (by omega) h,fun h=>ppI h j⟩⟩
theorem Jm{S:Int}(j:0<S){b c:A2 Int}{y z:Int}:(plV (A3.mk (b.e0*S) (b.e1*S) y) (A3.mk (c.e0*S) (c.e1*S) z)<0↔crO b c<0)/\(0<plV (A3.mk (b.e0*S) (b.e1*S) y) (A3.mk (c.e0*S) (c.e1*S) z)↔0<crO b c):=by
 have e:plV (A3.mk (b.e0*S) (b.e1*S) y) (A3.mk (c.e0*S) (c.e1*S) z)=crO b c*(S*S):=by unfold plV crO;grind
 have h2:=ppI j j;rw[e];generalize crO b c=m;refine⟨⟨fun h=>zS (by omega) h,fun h=>npI h h2⟩,⟨fun h=>wj (by omega) h,fun h=>ppI h h2⟩⟩
def exR(w N ox oy:Nat)(r:A3 Int):Int:=bif tpO w N ox oy r then exO (plO w N ox oy r.e1) (plO w N ox oy r.e2)else 0
theorem Gw(q:Pnt g w h base ox oy H){k:Int}(hk:2<=k){a b c:Nat}(U:a<2*(w*h))(hb:b<2*(w*h))(hc:c<2*(w*h))(G:Gf w (w*h) ox oy (A3.mk (a:Int) (b:Int) (c:Int)))
  (ok:xP k (crn (ptP g ox oy H) (cS g base) (A3.mk (a:Int) (b:Int) (c:Int)))):ctC k (crn (ptP g ox oy H) (cS g base) (A3.mk (a:Int) (b:Int) (c:Int)))=psT k (crn (ptP g ox oy H) (cS g base) (A3.mk (a:Int) (b:Int) (c:Int)))+if 0<ovH g w base ox oy H then exR w (w*h) ox oy (A3.mk (a:Int) (b:Int) (c:Int))else 0:=by
 have E:0<g.Step:=by have:=q.p.gd.dim.s;omega
 have G:=G.sep;have ta:=Cq q U;unfold xP at ok;unfold ctC psT exR tpO isO;unfold crn at ok ⊢;dsimp only at ok G ⊢;rw[tq q U,tq q hb,tq q hc]at ok ⊢;generalize plO w (w*h) ox oy (a:Int)=A at*;generalize plO w (w*h) ox oy (b:Int)=B at*;generalize plO w (w*h) ox oy (c:Int)=C at*;generalize mS g.Z base (cnZ (w*h) a)-H=j at*;generalize mS g.Z base (cnZ (w*h) b)-H=I at*;generalize mS g.Z base (cnZ (w*h) c)-H=J at*;rcases G with⟨f,f0,f1,f2⟩|⟨⟨z0,z1⟩,sB,sC,f,f1,f2⟩
 ·have m:∀{X:A2 Int} {z:Int},0<f.e0*X.e0+f.e1*X.e1->0<f.e0*(A3.mk (X.e0*g.Step) (X.e1*g.Step) z).e0+f.e1*(A3.mk (X.e0*g.Step) (X.e1*g.Step) z).e1:=fun {X z} h=>by
   have:=ppI h E;have e:(f.e0*X.e0+f.e1*X.e1)*g.Step=f.e0*(X.e0*g.Step)+f.e1*(X.e1*g.Step):=by grind
   show 0<f.e0*(X.e0*g.Step)+f.e1*(X.e1*g.Step);omega
  rw[Ha (m f0) (m f1) (m f2) ok];have nz:¬(A.e0=0/\A.e1=0):=fun⟨M,h1⟩=>by rw[M,h1]at f0;omega
  have:(decide (A.e0=0)&&decide (A.e1=0)&&decide ((a:Int)<((w*h:Nat):Int)))=false:=by
   by_cases M:A.e0=0
   ·rw[decide_eq_false (fun h1:A.e1=0=>nz ⟨M,h1⟩)];simp
   ·rw[decide_eq_false M];rfl
  rw[this,cond_false];split<;>omega
 ·have ov:=q.c;have O:ovH g w base ox oy H≠0:=fun e=>ov (by unfold ovH at e;omega)
  obtain⟨t1,t2⟩:=ta z0 z1;have T:j≠0:=by
   by_cases D:a<w*h
   ·rw[t1 D];exact O
   ·have:=t2 D;omega
  rw[GG (show(A3.mk (A.e0*g.Step) (A.e1*g.Step) j).e0=0 by dsimp only;rw[z0];omega) (show(A3.mk (A.e0*g.Step) (A.e1*g.Step) j).e1=0 by dsimp only;rw[z1];omega) T ok];rw[decide_eq_true z0,decide_eq_true z1];have e1:=Fb hk E sB (z:=I);have e2:=Fb hk E sC (z:=J);have Y:=Jm E (b:=B) (c:=C) (y:=I) (z:=J);have ex:EN j (sgK k (A3.mk (B.e0*g.Step) (B.e1*g.Step) I)) (sgK k (A3.mk (C.e0*g.Step) (C.e1*g.Step) J)) (plV (A3.mk (B.e0*g.Step) (B.e1*g.Step) I) (A3.mk (C.e0*g.Step) (C.e1*g.Step) J))=if 0<j then exO B C else 0:=by
   unfold EN exO;simp only[e1.1,e1.2,e2.1,e2.2,Y.1,Y.2];by_cases N:0<j
   ·rw[if_pos N,if_pos N];by_cases c1:sgO B<0/\0<sgO C/\0<crO B C
    ·rw[if_pos c1,decide_eq_true c1.1,decide_eq_true c1.2.1,decide_eq_true c1.2.2];rfl
    ·rw[if_neg c1,show(decide (sgO B<0)&&decide (0<sgO C)&&decide (0<crO B C))=false by
      rw[Bool.eq_false_iff];simp only[ne_eq,Bool.and_eq_true,decide_eq_true_eq];exact fun h=>c1 ⟨h.1.1,h.1.2,h.2⟩,cond_false]
     by_cases c2:0<sgO B/\sgO C<0/\crO B C<0
     ·rw[if_pos c2,decide_eq_true c2.1,decide_eq_true c2.2.1,decide_eq_true c2.2.2];rfl
     ·rw[if_neg c2,show(decide (0<sgO B)&&decide (sgO C<0)&&decide (crO B C<0))=false by
       rw[Bool.eq_false_iff];simp only[ne_eq,Bool.and_eq_true,decide_eq_true_eq];exact fun h=>c2 ⟨h.1.1,h.1.2,h.2⟩];rfl
   ·rw[if_neg N,if_neg N]
  dsimp only at ex ⊢;rw[ex];by_cases D:a<w*h
  ·rw[decide_eq_true (show(a:Int)<((w*h:Nat):Int)by omega),<-t1 D];simp only[Bool.and_self,cond_true];omega
  ·have:=t2 D;rw[decide_eq_false (show ¬(a:Int)<((w*h:Nat):Int)by omega),if_neg (by omega:¬0<j)];simp only[Bool.and_false,cond_false];split<;>omega
end
end Go.L


set_option linter.all false
namespace Go.L
open Go Go.Eng
section
variable{g:aj}{w h:Nat}{base:Int}{ox oy:Nat}{H:Int}
theorem qH{k:Int}{p:ar}{V:List ar}{t:A3 Int}(ok:xP k (crn p V t)):xP k (crn p V (rt3 t)):=IX ok
theorem Cg{k:Int}{p:ar}{V:List ar}{t:A3 Int}:ctC k (crn p V (rt3 t))=ctC k (crn p V t):=JE k _ _ _
theorem BL{k:Int}{p:ar}{V:List ar}{t:A3 Int}:psT k (crn p V (rt3 t))=psT k (crn p V t):=by
 show psE k (crn p V t).e1 (crn p V t).e2+(psE k (crn p V t).e2 (crn p V t).e0+psE k (crn p V t).e0 (crn p V t).e1)=psE k (crn p V t).e0 (crn p V t).e1+(psE k (crn p V t).e1 (crn p V t).e2+psE k (crn p V t).e2 (crn p V t).e0);omega
theorem FW{N:Nat}{t:A3 Int}{a b c:Nat}(e:t=A3.mk (a:Int) (b:Int) (c:Int))(j:a<2*N)(m:b<2*N)(hc:c<2*N)(W n x y:Nat):
  ∃a' p q:Nat,mQ W n x y t=A3.mk (a':Int) (p:Int) (q:Int)/\a'<2*N/\p<2*N/\q<2*N:=by
 rcases qI W n x y t with h|h|h<;>rw[h,e]
 ·exact⟨a,b,c,rfl,j,m,hc⟩
 ·exact⟨b,c,a,rfl,m,hc,j⟩
 ·exact⟨c,a,b,rfl,hc,j,m⟩
theorem FA(q:Pnt g w h base ox oy H){k:Int}(hk:2<=k){t:A3 Int}(C:okT (w*h) t=true)(D:okO w (w*h) ox oy t=true)(ok:xP k (crn (ptP g ox oy H) (cS g base) t)):
  ctC k (crn (ptP g ox oy H) (cS g base) t)=psT k (crn (ptP g ox oy H) (cS g base) t)+if 0<ovH g w base ox oy H then exT w (w*h) ox oy t else 0:=by
 obtain⟨a,b,c,E,I,J,hc,_⟩:=tN C;obtain⟨a',T,U,M,j,m,p⟩:=FW E I J hc w (w*h) ox oy;have G:=Il D;have ex:exT w (w*h) ox oy t=exR w (w*h) ox oy (mQ w (w*h) ox oy t):=rfl;rw[ex];have key:xP k (crn (ptP g ox oy H) (cS g base) (mQ w (w*h) ox oy t))/\ctC k (crn (ptP g ox oy H) (cS g base) (mQ w (w*h) ox oy t))=ctC k (crn (ptP g ox oy H) (cS g base) t)/\psT k (crn (ptP g ox oy H) (cS g base) (mQ w (w*h) ox oy t))=psT k (crn (ptP g ox oy H) (cS g base) t):=by
  rcases qI w (w*h) ox oy t with e|e|e<;>rw[e]
  ·exact⟨ok,rfl,rfl⟩
  ·exact⟨qH ok,Cg,BL⟩
  ·exact⟨qH (qH ok),Cg.trans Cg,BL.trans BL⟩
 obtain⟨z,N,O⟩:=key;rw[<-N,<-O];rw[M]at G z ⊢;exact Gw q hk j m p G z
theorem GX(q:Pnt g w h base ox oy H){t:A3 Int}(ht:okT (w*h) t=true)(ho:okO w (w*h) ox oy t=true):
  ∃f:A3 Int,0<dV f (crn (ptP g ox oy H) (cS g base) t).e0/\0<dV f (crn (ptP g ox oy H) (cS g base) t).e1/\0<dV f (crn (ptP g ox oy H) (cS g base) t).e2:=by
 obtain⟨a,b,c,et,ha,hb,hc,_⟩:=tN ht;obtain⟨a',b',c',er,D,O,U⟩:=FW et ha hb hc w (w*h) ox oy;have G:=(Il ho).sep;have hS:0<g.Step:=by have:=q.p.gd.dim.s;omega
 have key:∃f:A3 Int,0<dV f (crn (ptP g ox oy H) (cS g base) (mQ w (w*h) ox oy t)).e0/\0<dV f (crn (ptP g ox oy H) (cS g base) (mQ w (w*h) ox oy t)).e1/\0<dV f (crn (ptP g ox oy H) (cS g base) (mQ w (w*h) ox oy t)).e2:=by
  rw[er]at G ⊢;have ta:=Cq q D;unfold crn;dsimp only at G ⊢;rw[tq q D,tq q O,tq q U];generalize plO w (w*h) ox oy (a':Int)=A at*;generalize plO w (w*h) ox oy (b':Int)=B at*;generalize plO w (w*h) ox oy (c':Int)=C at*;generalize mS g.Z base (cnZ (w*h) a')-H=E at*;generalize mS g.Z base (cnZ (w*h) b')-H=I at*;generalize mS g.Z base (cnZ (w*h) c')-H=J at*;have m:∀{f X:A2 Int},0<f.e0*X.e0+f.e1*X.e1->0<f.e0*(X.e0*g.Step)+f.e1*(X.e1*g.Step):=fun {f X} h=>by
   have:=ppI h hS;have e:(f.e0*X.e0+f.e1*X.e1)*g.Step=f.e0*(X.e0*g.Step)+f.e1*(X.e1*g.Step):=by grind
   omega
  rcases G with⟨f,f0,f1,f2⟩|⟨⟨z0,z1⟩,-,-,f,f1,f2⟩
  ·refine⟨A3.mk f.e0 f.e1 0,?_,?_,?_⟩<;>unfold dV<;>dsimp only<;>rw[Int.zero_mul,Int.add_zero]
   ·exact m f0
   ·exact m f1
   ·exact m f2
  ·have Y:ovH g w base ox oy H≠0:=fun e=>q.c (by unfold ovH at e;omega)
   have a1:E≠0:=by
    obtain⟨t1,t2⟩:=ta z0 z1;by_cases hl:a'<w*h
    ·rw[t1 hl];exact Y
    ·have:=t2 hl;omega
   have j:∀{X:A2 Int} {z s M:Int},0<f.e0*X.e0+f.e1*X.e1->(s=1\/s=-1)->z<M-> -M<z->0<dV (A3.mk (M*f.e0) (M*f.e1) s) (A3.mk (X.e0*g.Step) (X.e1*g.Step) z):=fun {X z s M} hX hs h1 h2=>by
    have h3:=m hX;have e:dV (A3.mk (M*f.e0) (M*f.e1) s) (A3.mk (X.e0*g.Step) (X.e1*g.Step) z)=M*(f.e0*(X.e0*g.Step)+f.e1*(X.e1*g.Step))+s*z:=by unfold dV;dsimp only;grind
    rw[e];generalize f.e0*(X.e0*g.Step)+f.e1*(X.e1*g.Step)=T at*;have h4:=zzI (a:=M) (b:=T-1) (by omega) (by omega);have h5:M*(T-1)=M*T-M:=by rw[Int.mul_sub,Int.mul_one]
    rcases hs with rfl|rfl<;>omega
   have e0:∀{M s:Int},dV (A3.mk (M*f.e0) (M*f.e1) s) (A3.mk (A.e0*g.Step) (A.e1*g.Step) E)=s*E:=fun {M s}=>by
    unfold dV;dsimp only;rw[z0,z1];grind
   rcases (by omega:0<E\/E<0)with hz|hz
   ·exact⟨A3.mk ((1+I.natAbs+J.natAbs:Int)*f.e0) ((1+I.natAbs+J.natAbs:Int)*f.e1) 1,by rw[e0];omega,j f1 (.inl rfl) (by omega) (by omega),j f2 (.inl rfl) (by omega) (by omega)⟩
   ·exact⟨A3.mk ((1+I.natAbs+J.natAbs:Int)*f.e0) ((1+I.natAbs+J.natAbs:Int)*f.e1) (-1),by rw[e0];omega,j f1 (.inr rfl) (by omega) (by omega),j f2 (.inr rfl) (by omega) (by omega)⟩
 obtain⟨f,N,h1,h2⟩:=key;refine⟨f,?_⟩;rcases qI w (w*h) ox oy t with e|e|e<;>rw[e]at N h1 h2
 ·exact⟨N,h1,h2⟩
 ·exact⟨h2,N,h1⟩
 ·exact⟨h1,h2,N⟩
theorem Dk{k:Int}{p:ar}{V:List ar}{F:List (A3 Int)}(j:lQ k (fcs p V F)){t:A3 Int}(m:t∈F):xP k (crn p V t):=by
 intro q;have hm:crn p V t∈fcs p V F:=List.mem_filter.2 ⟨List.mem_map_of_mem m,by
  have:dtC (crn p V t)≠0:=q;simpa using this⟩
 obtain⟨r1,r2,r3⟩:=j _ hm;exact⟨r2,r3,r1⟩
theorem GU(q:Pnt g w h base ox oy H){t:A3 Int}(U:okT (w*h) t=true)(m:klO w (w*h) ox oy t=true):¬xP 1 (crn (ptP g ox oy H) (cS g base) t):=by
 intro ok;obtain⟨a,b,c,Y,ha,hb,hc,_⟩:=tN U;obtain⟨a',N,O,er,D,E,I⟩:=FW Y ha hb hc w (w*h) ox oy;have hS:0<g.Step:=by have:=q.p.gd.dim.s;omega
 have j:xP 1 (crn (ptP g ox oy H) (cS g base) (mQ w (w*h) ox oy t)):=by
  rcases qI w (w*h) ox oy t with e|e|e<;>rw[e]
  ·exact ok
  ·exact qH ok
  ·exact qH (qH ok)
 unfold klO tpO isO at m;rw[er]at m j;have ta:=Cq q D;unfold xP crn at j;dsimp only at m j;rw[tq q D,tq q E,tq q I]at j;generalize plO w (w*h) ox oy (a':Int)=A at*;generalize plO w (w*h) ox oy (N:Int)=B at*;generalize plO w (w*h) ox oy (O:Int)=C at*;simp only[Bool.and_eq_true,decide_eq_true_eq,Bool.not_eq_true',decide_eq_false_iff_not]at m;obtain⟨⟨⟨z0,z1⟩,a1⟩,hB,J⟩:=m;have t1:=(ta z0 z1).1 (by omega);have M:ovH g w base ox oy H≠0:=fun e=>q.c (by unfold ovH at e;omega)
 rw[t1]at j;generalize ovH g w base ox oy H=z at*;generalize mS g.Z base (cnZ (w*h) N)-H=T at*;generalize mS g.Z base (cnZ (w*h) O)-H=zc at*;unfold okK at j;have hD:dtV (A3.mk (A.e0*g.Step) (A.e1*g.Step) z) (A3.mk (B.e0*g.Step) (B.e1*g.Step) T) (A3.mk (C.e0*g.Step) (C.e1*g.Step) zc)=z*(crO B C*(g.Step*g.Step)):=by unfold dtV crO;dsimp only;rw[z0,z1];grind
 have hs:sdK 1 (A3.mk (A.e0*g.Step) (A.e1*g.Step) z) (A3.mk (B.e0*g.Step) (B.e1*g.Step) T)=0:=by unfold sdK;dsimp only;rw[z0,z1,hB];grind
 refine(j ?_).2.2 hs;rw[hD];intro e;rcases Int.mul_eq_zero.1 e with e|e
 ·exact M e
 ·rcases Int.mul_eq_zero.1 e with e|e
  ·exact J e
  ·rcases Int.mul_eq_zero.1 e with e|e<;>omega
theorem GP(q:Pnt g w h base ox oy H){k:Int}(hk:1<=k)(z:lQ k (fcs (ptP g ox oy H) (cS g base) (aG w h))):
  sI ((fcs (ptP g ox oy H) (cS g base) (aG w h)).map (ctC k))=if 0<ovH g w base ox oy H then 1 else 0:=by
 have K:=uI (qG q.p.gd.w1.1 q.p.gd.h1.1 q.p.m);have O:=Da q.p.gd.w1.1 q.p.gd.h1.1 q.p.m q.x q.y;unfold Hk at O;simp only[Bool.and_eq_true,decide_eq_true_eq]at O;obtain⟨⟨C,D⟩,E⟩:=O;have kt:=K.t;have I:=K.nd;have J:=K.sh;generalize aG w h=F at*;have h2:2<=k:=by
  rcases (by omega:k=1\/2<=k)with e|e
  ·subst e;obtain⟨t,j,M⟩:=List.any_eq_true.1 E;exact absurd (Dk z j) (GU q (kt t j) M)
  ·exact e
 unfold fcs;rw[BE (fun c hc=>by
  have:dtC c=0:=by simpa using hc
  unfold dtC at this;unfold ctC ctF ctK;rw[this,if_neg (by omega),if_neg (by omega)]),List.map_map]
 have e1:sI (F.map (ctC k∘crn (ptP g ox oy H) (cS g base)))=sI (F.map fun t=>psT k (crn (ptP g ox oy H) (cS g base) t)+if 0<ovH g w base ox oy H then exT w (w*h) ox oy t else 0):=
  CK fun t j=>FA q h2 (kt t j) (List.all_eq_true.1 C t j) (Dk z j)
 rw[e1,BS];have e2:sI (F.map fun t=>psT k (crn (ptP g ox oy H) (cS g base) t))=0:=by
  have:=Eb J I (g:=fun e=>psE k (vwP (ptP g ox oy H) (cS g base) e.e0) (vwP (ptP g ox oy H) (cS g base) e.e1)) fun e=>Gk k _ _
  rw[JD]at this;exact this
 rw[e2,Int.zero_add];split
 ·exact D
 ·have:∀l:List (A3 Int),sI (l.map fun _=>(0:Int))=0:=by
   intro l;induction l with
   |nil=>rfl
   |cons x l N=>rw[List.map_cons,sI,N];rfl
  exact this F
end
end Go.L


set_option linter.all false
namespace Go.L
open Go Go.Eng
theorem Kp{l:List Int}(E:0<l.length)(M:l.length<=25):Ok (cU 20000 l) fun m=>(∀z∈l,m<=z)/\m∈l:=by
 have mem:∀{k:Nat},k<l.length->gt l (k:Int)∈l:=fun hk=>by rw[cZ];simp only[List.getD,geT hk,Option.getD_some];exact List.getElem_mem hk
 unfold cU;refine Ok.gd (by simp;omega) (Ok.gd (by rw[show(0:Int)=((0:Nat):Int)from rfl,bf];exact decide_eq_true E) ?_);refine Ok.bd (R:=fun m=>(∀z∈l,m<=z)/\m∈l) ?_ fun m hm=>aC.2 hm
 refine fu (fun c=>(1<=c.2/\c.2<=(l.length:Int))/\(∀j:Nat,(j:Int)<c.2->j<l.length->c.1<=gt l (j:Int))/\c.1∈l) (fun c=>((l.length:Int)-c.2).toNat) ?_ 20000 _ ⟨⟨by omega,by dsimp only;omega⟩,fun j p _=>by
  have:j=0:=by dsimp only at p;omega
  subst this;exact Int.le_refl _,mem E⟩ (by dsimp only;omega)
 rintro again ⟨m,i⟩ ⟨⟨h1,h2⟩,q,C⟩ I;dsimp only at h1 h2 q C ⊢;obtain⟨k,rfl⟩:∃k:Nat,i=(k:Int):=⟨i.toNat,by omega⟩;refine Ok.cd (fun hk=>?_) (fun hk=>?_)
 ·have hk:k<l.length:=by have:=dcT hk;omega
  refine Ok.gd (by rw[bf];exact decide_eq_true hk) ?_;rw[wrap64_in (n:=(k:Int)+1) (by omega) (by omega)];refine I _ ⟨⟨by dsimp only;omega,by dsimp only;omega⟩,fun j p D=>?_,?_⟩ (by dsimp only;omega)
  ·dsimp only at p ⊢;unfold mn;by_cases e:j=k
   ·subst e;split<;>omega
   ·have:=q j (by omega) D;split<;>omega
  ·dsimp only;unfold mn;split
   ·exact mem hk
   ·exact C
 ·have hk:=dcF hk;refine aC.2 ⟨fun z J=>?_,C⟩;obtain⟨j,p,rfl⟩:=List.getElem_of_mem J;have:=q j (by omega) p;rw[cZ]at this;simpa only[List.getD,geT p,Option.getD_some]using this
theorem Kd{l:List Int}(E:0<l.length)(M:l.length<=25):Ok (fL 20000 l) fun m=>(∀z∈l,z<=m)/\m∈l:=by
 have mem:∀{k:Nat},k<l.length->gt l (k:Int)∈l:=fun hk=>by rw[cZ];simp only[List.getD,geT hk,Option.getD_some];exact List.getElem_mem hk
 unfold fL;refine Ok.gd (by simp;omega) (Ok.gd (by rw[show(0:Int)=((0:Nat):Int)from rfl,bf];exact decide_eq_true E) ?_);refine Ok.bd (R:=fun m=>(∀z∈l,z<=m)/\m∈l) ?_ fun m hm=>aC.2 hm
 refine fu (fun c=>(1<=c.2/\c.2<=(l.length:Int))/\(∀j:Nat,(j:Int)<c.2->j<l.length->gt l (j:Int)<=c.1)/\c.1∈l) (fun c=>((l.length:Int)-c.2).toNat) ?_ 20000 _ ⟨⟨by omega,by dsimp only;omega⟩,fun j p _=>by
  have:j=0:=by dsimp only at p;omega
  subst this;exact Int.le_refl _,mem E⟩ (by dsimp only;omega)
 rintro again ⟨m,i⟩ ⟨⟨h1,h2⟩,q,C⟩ I;dsimp only at h1 h2 q C ⊢;obtain⟨k,rfl⟩:∃k:Nat,i=(k:Int):=⟨i.toNat,by omega⟩;refine Ok.cd (fun hk=>?_) (fun hk=>?_)
 ·have hk:k<l.length:=by have:=dcT hk;omega
  refine Ok.gd (by rw[bf];exact decide_eq_true hk) ?_;rw[wrap64_in (n:=(k:Int)+1) (by omega) (by omega)];refine I _ ⟨⟨by dsimp only;omega,by dsimp only;omega⟩,fun j p D=>?_,?_⟩ (by dsimp only;omega)
  ·dsimp only at p ⊢;unfold mx;by_cases e:j=k
   ·subst e;split<;>omega
   ·have:=q j (by omega) D;split<;>omega
  ·dsimp only;unfold mx;split
   ·exact mem hk
   ·exact C
 ·have hk:=dcF hk;refine aC.2 ⟨fun z J=>?_,C⟩;obtain⟨j,p,rfl⟩:=List.getElem_of_mem J;have:=q j (by omega) p;rw[cZ]at this;simpa only[List.getD,geT p,Option.getD_some]using this
theorem Jo{x:Int}:jE 20000 x=some (decide (¬(-1048576<=x/\x<=1048576))):=by
 unfold jE;by_cases h:-1048576<=x/\x<=1048576
 ·rw[decide_eq_false (by omega:¬x< -1048576),decide_eq_false (by omega:¬x>1048576),decide_eq_false (fun c=>c h)];rfl
 ·rw[decide_eq_true (p:=¬(-1048576<=x/\x<=1048576)) h];by_cases h1:x< -1048576
  ·rw[decide_eq_true h1];rfl
  ·rw[decide_eq_false h1,decide_eq_true (by omega:x>1048576)];rfl
theorem Kk{p:ar}(h:¬inV p):kZ 20000 p=some true:=by
 apply Ok.eq;unfold kZ bn bG;have hm:¬∀x∈[p.X,p.Y,p.Z],-1048576<=x/\x<=1048576:=fun q=>h ⟨q _ (by simp),q _ (by simp),q _ (by simp)⟩
 have I:[p.X,p.Y,p.Z].length=3:=rfl;generalize [p.X,p.Y,p.Z]=s at*;refine Ok.bd (R:=fun v=>v=true) (Ok.bd (R:=fun v=>0<=v) (Ok.bd (R:=fun o=>∃k:Nat,o=Sum.inr (k:Int)) (nP (len:=s.length) (fun k=>∀j,j<k-> -1048576<=gt s (j:Int)/\gt s (j:Int)<=1048576) (by omega) (by omega) (fun j m=>absurd m (by omega)) ?_ ?_) ?_) ?_) ?_
 ·intro again k hk z C;refine Ok.cd (fun _=>Ok.gd (by rw[bf];exact decide_eq_true hk) ?_) (fun h=>by have:=dcF h;omega);refine Ok.bde Jo (Ok.cd (fun _=>aC.2 ⟨k,rfl⟩) (fun h=>C fun j m=>?_));have h:=dcF h;by_cases e:j=k
  ·subst e;omega
  ·exact z j (by omega)
 ·intro again z;refine absurd (fun x D=>?_) hm;obtain⟨j,m,rfl⟩:=List.getElem_of_mem D;have:=z j m;rw[cZ]at this;simpa only[List.getD,geT m,Option.getD_some]using this
 ·rintro o ⟨k,rfl⟩;exact aC.2 (by omega)
 ·rintro v E;exact aC.2 (decide_eq_true E)
 ·rintro v rfl;exact aC.2 rfl
theorem D0{V:List ar}{F:List (A3 Int)}(h:¬∀p∈V,inV p)(I:V.length<=50)(J:F.length<=200):gD 20000 (az.mk V F)=some 2:=by
 have z:jO 20000 (az.mk V F)=some 2:=by
  apply Ok.eq;unfold jO;dsimp only;refine Ok.cd (fun h=>by have:=dcT h;omega) (fun _=>Ok.cd (fun h=>by have:=dcT h;omega) (fun _=>?_));refine Ok.bde (b:=true) ?_ (Ok.cd (fun _=>aC.2 rfl) (fun h=>by cases h));apply Ok.eq;unfold aU aV;refine Ok.bd (R:=fun v=>0<=v) (Ok.bd (R:=fun o=>∃k:Nat,o=Sum.inr (k:Int)) (nP (len:=V.length) (fun k=>∀j,j<k->inV (gt V (j:Int))) (by omega) (by omega) (fun j m=>absurd m (by omega)) ?_ ?_) ?_) ?_
  ·intro again k hk q C;refine Ok.cd (fun _=>Ok.gd (by rw[bf];exact decide_eq_true hk) ?_) (fun h=>by have:=dcF h;omega);by_cases hi:inV (gt V (k:Int))
   ·refine Ok.bde (BN (by omega) hi) (Ok.cd (fun h=>by cases h) (fun _=>C fun j m=>?_));by_cases e:j=k
    ·subst e;exact hi
    ·exact q j (by omega)
   ·exact Ok.bde (Kk hi) (Ok.cd (fun _=>aC.2 ⟨k,rfl⟩) (fun h=>by cases h))
  ·intro again q;refine absurd (fun x D=>?_) h;obtain⟨j,m,rfl⟩:=List.getElem_of_mem D;have:=q j m;rw[cZ]at this;simpa only[List.getD,geT m,Option.getD_some]using this
  ·rintro o ⟨k,rfl⟩;exact aC.2 (by omega)
  ·rintro v E;exact aC.2 (decide_eq_true E)
 apply Ok.eq;unfold gD;exact Ok.bde z (Ok.cd (fun _=>aC.2 rfl) (fun h=>by cases h))
theorem BU{V:List ar}{F:List (A3 Int)}{p:ar}(h:¬∀p∈V,inV p)(j:V.length<=50)(m:F.length<=200):gR 20000 (az.mk V F) p=some (0,2):=by
 apply Ok.eq;unfold gR;exact Ok.bde (D0 h j m) (Ok.cd (fun _=>aC.2 rfl) (fun h=>by cases h))
end Go.L


set_option linter.all false
namespace Go.L
open Go Go.Eng
def mV:aj:=aj.mk 0 0 2 3 3 [0,0,0,0,4,0,0,0,0]
def w7:az:=az.mk (cS mV (-1)) (aG 3 3)
theorem JY:jj 20000 mV (-1)=some (w7,0):=by kernel_rfl
theorem Kg:gD 20000 (az.mk (cS mV (-1)) (aG 3 3))=some 0:=by kernel_rfl
theorem Kc:fA 20000 (az.mk (cS mV (-1)) (aG 3 3))=some []:=Aj (uI (qG (w:=3) (h:=3) (by omega) (by omega) (by omega))).len (uI (qG (w:=3) (h:=3) (by omega) (by omega) (by omega))).sh
theorem JZ:nf 20000 w7=some (ah.mk false [192],0):=by
 unfold nf w7;rw[Kg,Kc];kernel_rfl
end Go.L

