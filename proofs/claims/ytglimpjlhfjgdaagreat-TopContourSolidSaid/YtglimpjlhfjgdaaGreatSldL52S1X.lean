import Derived.Test.YtglimpjlhfjgdaaGreatSldL51sd
import Derived.Test.YtglimpjlhfjgdaaGreatSldLsrt
import Derived.Test.YtglimpjlhfjgdaaGreatSldLsrt
import Derived.Test.YtglimpjlhfjgdaaGreatSldL51t
import Derived.Test.YtglimpjlhfjgdaaGreatSldL02oB
import Derived.KernelRfl
import Derived.Test.YtglimpjlhfjgdaaGreatSldL01p
import Derived.Test.YtglimpjlhfjgdaaGreatSldL51t
set_option linter.all false
namespace Go.L
open Go Go.Eng
theorem G8{g:aj}{w h:Nat}(j:Gd g w h){c:aw}{r:Rat}(he:pH (jd g w h) c.A c.B=true)(m:Qx c.At r 16)(h0:0<=r)(h1:r<=1):
  ∃p,de 20000 g c=some (p,0)/\Qx p.X (oU r (pxG g c.A) (pxG g c.B)) 27/\Qx p.Y (oU r (pyG g c.A) (pyG g c.B)) 27:=by
 obtain⟨i0,i1,i2⟩:=CF j he;have v1:=yb (n:=20000) (by omega) (by omega) m;have s1:=td (n:=20000) (by omega) (by omega) m;obtain⟨o1,C,D⟩:=oh (n:=20000) (v:=1) (by omega) (by omega) (by omega);obtain⟨U,E,q⟩:=HH (n:=20000) (by omega) (by omega) (by omega) m D;have one:Rat.divInt 1 1=1:=by rw[jM];rfl
 rw[one]at q;have e1:decide (sgn r.num<0)=false:=decide_eq_false (by have:=(H7 (a:=r));grind);have e2:decide (U>0)=false:=decide_eq_false (fun hh=>by have:=q.1 hh;grind);obtain⟨⟨x1,I⟩,y1,J⟩:=HX j i0 (by omega:c.A<g.Z.length);obtain⟨⟨x2,M⟩,y2,N⟩:=HX j (by omega:0<=c.B) i2;have P1:Ok (bdO (dh 20000 (pxG g c.A) (pxG g c.B) c.A c.B c.At.Num.Negative c.At.Num.Groups c.At.Den.Negative c.At.Den.Groups) fun v25=>bdO (dh 20000 (pyG g c.A) (pyG g c.B) c.A c.B c.At.Num.Negative c.At.Num.Groups c.At.Den.Negative c.At.Den.Groups) fun O=>some (aE.mk v25 O,(0:Int))) fun r1=>r1.2=0/\Qx r1.1.X (oU r (pxG g c.A) (pxG g c.B)) 27/\Qx r1.1.Y (oU r (pyG g c.A) (pyG g c.B)) 27:=
  Ok.bd (DG m I M _ _) fun u hu=>Ok.bd (DG m J N _ _) fun v hv=>aC.2 ⟨rfl,hu,hv⟩
 obtain⟨⟨p,z⟩,T,hz,hX,hY⟩:=P1;dsimp only at hz hX hY;subst hz;refine⟨p,?_,hX,hY⟩;unfold de;rw[ET (by omega) j,he];show bdO (fJ 20000 c.At) _=_;rw[v1];show bdO (bdO (cK 20000 c.At) _) _=_;rw[s1];show bdO (cdO (decide (sgn r.num<0)) _ (bdO (cg 20000 1) _)) _=_;rw[e1,C];show bdO (bdO (ee 20000 c.At o1) _) _=_;rw[E];show cdO (decide (U>0)) _ (gdO (!decide (g.Width=0)) _)=_;rw[e2,x1,x2,y1,y2,show(!decide (g.Width=0))=true by have:=j.dim.w;simp;omega];exact T
structure Ce (g:aj) (w h:Nat) (level:Int) (e:K2):Prop where
 cr:Cr g.Z level e
 ab:abv g.Z level e.e0≠abv g.Z level e.e1
 ed:pH (jd g w h) e.e0 e.e1=true
theorem Gy{g:aj}{level:Int}{w h:Nat}(I:Gd g w h)(J:g.Z.any pO=false):Ge (oa g w h level) (Ce g w h level):=by
 refine⟨fun q j=>?_⟩;have hc:=(CC I J).k q j;unfold oa at j;obtain⟨t,M,e⟩:=List.mem_filterMap.1 j;have mk:∀{a b:Int} {e:K2},e=A2.mk (mn a b) (mx a b)->(a,b)∈dE t->abv g.Z level a≠abv g.Z level b->Cr g.Z level e->Ce g w h level e:=by
  rintro a b e rfl hm p hc;have z:=hc.lt;refine⟨hc,?_,?_⟩
  ·dsimp only;unfold mn mx;by_cases h1:b<a
   ·rw[if_pos h1,if_neg (by omega)];exact fun k=>p k.symm
   ·by_cases h2:a<b
    ·rw[if_neg h1,if_pos h2];exact p
    ·have:a=b:=by omega
     exact absurd (by rw[this]) p
  ·unfold pH;rw[decide_eq_true z,Bool.true_and,List.any_eq_true];refine⟨t,M,?_⟩;rw[Bool.and_eq_true,tF,tF];dsimp only;simp only[dE,List.mem_cons,List.not_mem_nil,or_false,Prod.mk.injEq]at hm;unfold mn mx;rcases hm with⟨rfl,rfl⟩|⟨rfl,rfl⟩|⟨rfl,rfl⟩<;>constructor<;>split<;>simp
 obtain⟨⟨a,b,m,h1,h2,N⟩,c,d,O,C,D,E⟩:=oe e;exact⟨mk N m (by rw[h1,h2];simp) hc.1,mk E O (by rw[C,D];simp) hc.2⟩
section
variable{g:aj}{level:Int}{w h:Nat}
noncomputable def plP(g:aj)(level:Int)(e:K2):aE:=((de 20000 g (crP g level e)).getD default).1
def xG(g:aj)(level:Int)(e:K2):Rat:=oU (crE g.Z level e) (pxG g e.e0) (pxG g e.e1)
def yG(g:aj)(level:Int)(e:K2):Rat:=oU (crE g.Z level e) (pyG g e.e0) (pyG g e.e1)
theorem ze(q:Gd g w h)(j:okL level){e:K2}(he:Ce g w h level e):de 20000 g (crP g level e)=some (plP g level e,0)/\Qx (plP g level e).X (xG g level e) 27/\Qx (plP g level e).Y (yG g level e) 27:=by
 obtain⟨-,a,b,c⟩:=vW ⟨j.2.1,j.2.2⟩ he.cr;obtain⟨r0,r1⟩:=B9 j.1 he.ab;obtain⟨p,e1,e2,m⟩:=G8 q (c:=crP g level e) (r:=crE g.Z level e) (by rw[a,b];exact he.ed) (QL.mono c (by omega)) (by grind) (by grind);have:plP g level e=p:=by unfold plP;rw[e1];rfl
 rw[this];rw[a,b]at e2 m;exact⟨e1,e2,m⟩
theorem vc{f:aw->Option (aE×Int)}{cr:K2->aw}{pl:K2->aE}:∀(l:List K2) (out:List aE),(∀e∈l,f (cr e)=some (pl e,0))->jz f (l.map cr) out=some (out++l.map pl,0)
 |[],out,_=>by simp[jz]
 |e::l,out,h=>by
  rw[List.map_cons,jz,h e (by simp)];show jz f (l.map cr) (out++[pl e])=_;rw[vc l _ fun x j=>h x (List.mem_cons_of_mem _ j),List.append_assoc];rfl
theorem x7{r:Rat}{X0 a b o St:Int}:oU r (X0+a*St) (X0+b*St)-Rat.divInt (X0+o*St) 1=(St:Rat)*(((a:Rat)+r*((b-a:Int):Rat))-(o:Rat)):=by
 unfold oU;rw[jM,jM,jM,show X0+b*St-(X0+a*St)=(b-a)*St by rw[Int.sub_mul];omega];simp only[Rat.intCast_add,Rat.intCast_mul];grind
theorem zk(j:Gd g w h){e:K2}{o:Int}:xG g level e-Rat.divInt (g.X0+o*g.Step) 1=(g.Step:Rat)*(uX w g.Z level e-(o:Rat)):=by
 unfold xG pxG uX;rw[x7,j.W]
theorem zB(j:Gd g w h){e:K2}{o:Int}:yG g level e-Rat.divInt (g.Y0+o*g.Step) 1=(g.Step:Rat)*(uY w g.Z level e-(o:Rat)):=by
 unfold yG pyG uY;rw[x7,j.W]
theorem D2{on:Nat->Bool}{st:Nat->Int->Int}{c:Nat->Int}(hc:∀k,-1<=c k/\c k<=1)(q:∀k m,-1000<=m/\m<=1000->st k m=m+c k)(r:Nat):∀(j:Nat) (m:Int),(∀k,j<=k->k<j+r->on k=false)-> -1000+(r:Int)<=m->m<=1000-(r:Int)->nM on st r j m=some (m+fR ((List.range' j r).map c)):=by
 induction r with
 |zero=>intro j m _ _ _;show some m=some (m+0);rw[Int.add_zero]
 |succ r z=>
  intro j m p h1 h2;have:=hc j;rw[nM,p j (Nat.le_refl _) (by omega),q j m (by omega)];show nM on st r (j+1) (m+c j)=_;rw[z (j+1) (m+c j) (fun k a b=>p k (by omega) (by omega)) (by omega) (by omega),List.range'_succ,List.map_cons];show some (m+c j+_)=some (m+(c j+_));rw[Int.add_assoc];rfl
theorem D7{α:Type}{F:K2->α}{z:K2}{l:List K2}:(List.range' 0 l.length).map (fun k=>F (l.getD k z))=l.map F:=by
 apply List.ext_getElem
 ·simp
 ·intro k h1 h2;have:k<l.length:=by simpa using h2
  simp[List.getD,geT this]
theorem BO(q:Gd g w h)(I:pF g=0)(J:okL level){S:List (K2×K2)}{l:List K2}(M:Cyc S l)(a1:l.length<=60)(C:∀e∈l,Ce g w h level e){oi oj:Nat}(hi:oi<w)(N:oj<h)(O:∀e∈l,onO w g.Z level oi oj (e,nxt S e)=false):
  jq 20000 g (toL (crP g level) (true,l)) (oi:Int) (oj:Int)=some (fR (l.map fun e=>cO w g.Z level oi oj (e,nxt S e)),0):=by
 have hs:=q.dim.s;have fx:=s8.1 q.dim.x;have fy:=s8.1 q.dim.y;have hw:=q.w1;have hh:=q.h1;have hW:=q.W;have hH:=q.H;have b1:=nQ (a:=(oi:Int)) (b:=g.Step) (A:=63) (B:=65536) (by omega) (by omega) (by omega) (by omega);have b2:=nQ (a:=(oj:Int)) (b:=g.Step) (A:=63) (B:=65536) (by omega) (by omega) (by omega) (by omega);have T:gN 20000 g (toL (crP g level) (true,l))=some (l.map (plP g level),0):=by
  rw[Fw (c:=toL (crP g level) (true,l)) (by show(l.map _).length<=80;rw[List.length_map];omega) fun x hx=>by
   obtain⟨e,he,rfl⟩:=List.mem_map.1 hx;exact⟨_,(ze q J (C e he)).1⟩]
  show jz (de 20000 g) (l.map (crP g level)) []=_;rw[vc l [] fun e he=>(ze q J (C e he)).1,List.nil_append]
 obtain⟨u,eu,hu⟩:=oh (n:=20000) (v:=g.X0+(oi:Int)*g.Step) (by omega) (by omega) (by omega);obtain⟨v,ev,hv⟩:=oh (n:=20000) (v:=g.Y0+(oj:Int)*g.Step) (by omega) (by omega) (by omega);have hA:AtW (l.map (plP g level)) (l.map (plP g level)) l.length (fun k=>xG g level (l.getD k (A2.mk 0 0))) (fun k=>yG g level (l.getD k (A2.mk 0 0))):=by
  refine⟨List.length_map _,List.length_map _,fun j N=>?_⟩;obtain⟨-,Y,p2⟩:=ze q J (C _ (mI N (A2.mk 0 0)));have e:(l.map (plP g level)).getD j default=plP g level (l.getD j (A2.mk 0 0)):=by simp[List.getD,geT N]
  rw[e];exact⟨Y,p2,Y,p2⟩
 have D:=Ix hA (by omega) (p:=aE.mk u v) (hu.mono (by omega)) (hv.mono (by omega));have sp:(0:Rat)<(g.Step:Rat):=oI (by omega);have U:∀k,k<l.length->onW (fun k=>xG g level (l.getD k (A2.mk 0 0))) (fun k=>yG g level (l.getD k (A2.mk 0 0))) (Rat.divInt (g.X0+(oi:Int)*g.Step) 1) (Rat.divInt (g.Y0+(oj:Int)*g.Step) 1) l.length k=false:=fun k hk=>by
  unfold onW;dsimp only;rw[M.go k hk,zk q,zk q,zB q,zB q,JV sp];exact O _ (mI hk _)
 have E:nM (onW (fun k=>xG g level (l.getD k (A2.mk 0 0))) (fun k=>yG g level (l.getD k (A2.mk 0 0))) (Rat.divInt (g.X0+(oi:Int)*g.Step) 1) (Rat.divInt (g.Y0+(oj:Int)*g.Step) 1) l.length) (stW (fun k=>xG g level (l.getD k (A2.mk 0 0))) (fun k=>yG g level (l.getD k (A2.mk 0 0))) (Rat.divInt (g.X0+(oi:Int)*g.Step) 1) (Rat.divInt (g.Y0+(oj:Int)*g.Step) 1) l.length) l.length 0 0=some (fR (l.map fun e=>cO w g.Z level oi oj (e,nxt S e))):=by
  refine(D2 (c:=fun k=>ctr (xG g level (l.getD k (A2.mk 0 0))-Rat.divInt (g.X0+(oi:Int)*g.Step) 1) (yG g level (l.getD k (A2.mk 0 0))-Rat.divInt (g.Y0+(oj:Int)*g.Step) 1) (xG g level (l.getD ((k+1)%l.length) (A2.mk 0 0))-Rat.divInt (g.X0+(oi:Int)*g.Step) 1) (yG g level (l.getD ((k+1)%l.length) (A2.mk 0 0))-Rat.divInt (g.Y0+(oj:Int)*g.Step) 1)) (fun _=>Gh) (fun k m hm=>HD hm) l.length 0 0 (fun k _ hk=>U k (by omega)) (by omega) (by omega)).trans ?_;rw[Int.zero_add,<-D7 (z:=A2.mk 0 0)];congr 2;refine List.map_congr_left fun k hk=>?_
  have hk:k<l.length:=by rw[List.mem_range'_1]at hk;omega
  show ctr _ _ _ _=cO w g.Z level oi oj _;rw[M.go k hk,zk q,zk q,zB q,zB q,Iv sp];rfl
 rw[E]at D;unfold jq;rw[sZ (by omega),I,T,wrap64_in (n:=(oi:Int)*g.Step) (by omega) (by omega),wrap64_in (n:=(oj:Int)*g.Step) (by omega) (by omega),wrap64_in (n:=g.X0+_) (by omega) (by omega),wrap64_in (n:=g.Y0+_) (by omega) (by omega),eu,ev];rw[decide_eq_false (show ¬(oi:Int)<0 by omega),decide_eq_false (show ¬(oi:Int)>=g.Width by omega),decide_eq_false (show ¬(oj:Int)<0 by omega),decide_eq_false (show ¬(oj:Int)>=g.Height by omega)];show bdO (fY 20000 (l.map (plP g level)) (aE.mk u v)) _=_;rw[D];show cdO ((((l.map (plP g level)).length:Int):Int)==0) _ _=_;rw[show((((l.map (plP g level)).length:Int):Int)==0)=false by rw[List.length_map];have:=M.pos;simp;intro e;rw[e]at this;simp at this];rfl
end
end Go.L


set_option linter.all false
namespace Go.L
open Go Go.Eng
def bor(w h k:Nat):Prop:=k%w=0\/k / w=0\/k%w=w-1\/k / w=h-1
theorem KK{g:aj}{w h:Nat}{level:Int}(q:Gd g w h)(p:∀k,k<g.Z.length->gt g.Z (k:Int)≠ -2147483648/\(bor w h k->abv g.Z level (k:Int)=false)):Lw g w h level:=by
 refine⟨fun k hk=>(p k hk).1,fun j i C hi hc=>?_⟩;have hm:(j*w+i)%w=i:=by rw[Nat.mul_comm j w,Nat.mul_add_mod,Nat.mod_eq_of_lt hi]
 have z:(j*w+i) / w=j:=by rw[Nat.mul_comm j w,Nat.mul_add_div (by omega),Nat.div_eq_of_lt hi,Nat.add_zero]
 refine(p (j*w+i) ?_).2 (by unfold bor;rw[hm,z];omega);rw[q.m];have:(j+1)*w<=h*w:=Nat.mul_le_mul_right w (by omega);rw[Nat.add_mul,Nat.one_mul,Nat.mul_comm h w]at this;omega
end Go.L


set_option linter.unusedVariables false
namespace Go.L
open Go Go.Eng
end Go.L


set_option linter.unusedVariables false
namespace Go.L
open Go Go.Eng
end Go.L


set_option linter.all false
namespace Go.L
open Go Go.Eng
end Go.L


set_option linter.all false
namespace Go.L
open Go Go.Eng
theorem oK{z:Int}:rY z=false↔ -1048576<=z/\z<=1048576:=by
 unfold rY;rw[Bool.or_eq_false_iff,decide_eq_false_iff_not,decide_eq_false_iff_not];omega
end Go.L


set_option linter.all false
namespace Go.L
open Go Go.Eng
def u5(n:Int)(t:A3 Int):List (A3 Int):=[t,A3.mk (MR (t.e0+n)) (MR (t.e2+n)) (MR (t.e1+n))]
def tc(n a b:Int):List (A3 Int):=[A3.mk a (MR (a+n)) (MR (b+n)),A3.mk a (MR (b+n)) b]
def xR(n:Int)(k:Nat):List (A3 Int):=tc n (k:Int) (MR ((k:Int)+1))++tc n (MR ((MR (n-1))-(k:Int))) (MR ((MR (n-2))-(k:Int)))
def Ch(n W:Int)(k:Nat):List (A3 Int):=tc n (MR ((MR ((MR ((k:Int)*W))+W))-1)) (MR ((MR ((MR ((MR ((k:Int)+1))*W))+W))-1))++tc n (MR ((MR ((k:Int)+1))*W)) (MR ((k:Int)*W))
def aG(w h:Nat):List (A3 Int):=(cJ (w:Int) (w-1) (h-1)).flatMap (u5 ((w*h:Nat):Int))++(List.range (w-1)).flatMap (xR ((w*h:Nat):Int))++(List.range (h-1)).flatMap (Ch ((w*h:Nat):Int) (w:Int))
def sI:List Int->Int
 |[]=>0
 |x::l=>x+sI l
theorem mh:∀a b:List Int,sI (a++b)=sI a+sI b
 |[],b=>by simp[sI]
 |x::a,b=>by rw[List.cons_append,sI,sI,mh a b];omega
theorem BS{ε:Type}{f g:ε->Int}:∀l:List ε,sI (l.map fun x=>f x+g x)=sI (l.map f)+sI (l.map g)
 |[]=>rfl
 |x::l=>by simp only[List.map_cons,sI,BS l];omega
def lin(f:Nat->Int)(L:List (Nat×Int)):Int:=sI (L.map fun p=>p.2*f p.1)
def rR(m:Nat):List (Nat×Int)->Int
 |[]=>0
 |p::L=>(bif Nat.beq p.1 m then p.2 else 0)+rR m L
theorem I0{a b:Nat}(h:a≠b):Nat.beq a b=false:=by
 cases j:Nat.beq a b with
 |false=>rfl
 |true=>exact absurd (Nat.eq_of_beq_eq_true j) h
theorem CT{f:Nat->Int}{i:Nat}{c:Int}:∀n,sI ((List.range n).map fun m=>(bif Nat.beq i m then c else 0)*f m)=if i<n then c*f i else 0
 |0=>rfl
 |n+1=>by
  rw[List.range_succ,List.map_append,mh,CT n];simp only[List.map_cons,List.map_nil,sI];by_cases h:i=n
  ·subst h;rw[if_neg (by omega),if_pos (by omega),Nat.beq_refl];simp
  ·rw[I0 h];by_cases h2:i<n
   ·rw[if_pos h2,if_pos (by omega)];simp
   ·rw[if_neg h2,if_neg (by omega)];simp
theorem tJ{f:Nat->Int}{M:Nat}:∀L:List (Nat×Int),(∀p∈L,p.1<=M)->lin f L=sI ((List.range (M+1)).map fun m=>rR m L*f m)
 |[],_=>by
  have:∀n,sI ((List.range n).map fun m=>rR m []*f m)=0:=by
   intro n;induction n with
   |zero=>rfl
   |succ n j=>rw[List.range_succ,List.map_append,mh,j];simp[rR,sI]
  rw[this];rfl
 |p::L,h=>by
  have j:=tJ (f:=f) L fun q z=>h q (by simp[z])
  have h1:=CT (f:=f) (i:=p.1) (c:=p.2) (M+1);rw[if_pos (by have:=h p (by simp);omega)]at h1;have e:(fun m=>rR m (p::L)*f m)=fun m=>(bif Nat.beq p.1 m then p.2 else 0)*f m+rR m L*f m:=by
   funext m;rw[rR,Int.add_mul]
  rw[e,BS,h1,<-j];simp[lin,sI]
theorem Jt{f:Nat->Int}{M:Nat}{L j:List (Nat×Int)}(h:(List.range (M+1)).all (fun m=>decide (rR m L=rR m j))=true)(z:L.all (fun p=>Nat.ble p.1 M)=true)(q:j.all (fun p=>Nat.ble p.1 M)=true):lin f L=lin f j:=by
 rw[tJ (M:=M) L fun p hp=>lbT (List.all_eq_true.1 z p hp),tJ (M:=M) j fun p hp=>lbT (List.all_eq_true.1 q p hp)];congr 1;refine List.map_congr_left fun m hm=>?_
 rw[dcT (List.all_eq_true.1 h m hm)]
def cnZ(N v:Nat):Nat:=bif Nat.blt v N then v else N
def eds(t:A3 Int):List (A2 Int):=[A2.mk t.e0 t.e1,A2.mk t.e1 t.e2,A2.mk t.e2 t.e0]
def eqE(a b:A2 Int):Bool:=(a.e0==b.e0)&&(a.e1==b.e1)
def sH(a:A2 Int):A2 Int:=A2.mk a.e1 a.e0
def Eh(k:A2 Int)(l:List (A2 Int)):Nat:=l.countP (eqE k)
theorem DF{a b:A2 Int}:eqE a b=true↔a=b:=by
 obtain⟨a0,j⟩:=a;obtain⟨m,p⟩:=b;simp[eqE]
def pX:List Nat->List Nat×List Nat
 |[]=>([],[])
 |x::l=>(x::(pX l).2,(pX l).1)
def mrg:Nat->List Nat->List Nat->List Nat
 |0,a,b=>a++b
 |_+1,[],b=>b
 |_+1,x::a,[]=>x::a
 |n+1,x::a,y::b=>bif Nat.ble x y then x::mrg n a (y::b)else y::mrg n (x::a) b
def BI:Nat->List Nat->List Nat
 |0,l=>l
 |n+1,l=>match l with|[]=>[]|[x]=>[x]|_=>mrg 1000 (BI n (pX l).1) (BI n (pX l).2)
theorem vj:∀l:List Nat,((pX l).1++(pX l).2).Perm l
 |[]=>List.Perm.refl _
 |x::l=>by
  show((x::(pX l).2)++(pX l).1).Perm (x::l);rw[List.cons_append];exact((List.perm_append_comm).trans (vj l)).cons x
theorem xe:∀(n:Nat) (a b:List Nat),(mrg n a b).Perm (a++b)
 |0,_,_=>List.Perm.refl _
 |_+1,[],b=>List.Perm.refl _
 |_+1,x::a,[]=>by rw[mrg,List.append_nil]
 |n+1,x::a,y::b=>by
  rw[mrg];cases Nat.ble x y with
  |true=>exact(xe n a (y::b)).cons x
  |false=>
   refine((xe n (x::a) b).cons y).trans ?_;exact(List.perm_middle).symm
theorem oD:∀(n:Nat) (l:List Nat),(BI n l).Perm l
 |0,_=>List.Perm.refl _
 |n+1,l=>by
  unfold BI;split
  ·exact List.Perm.refl _
  ·exact List.Perm.refl _
  ·exact(xe _ _ _).trans (((oD n _).append (oD n _)).trans (vj l))
def eqL:List Nat->List Nat->Bool
 |[],[]=>true
 |x::a,y::b=>Nat.beq x y&&eqL a b
 |_,_=>false
theorem EE:∀{a b:List Nat},eqL a b=true->a=b
 |[],[],_=>rfl
 |x::a,y::b,h=>by
  simp only[eqL,Bool.and_eq_true]at h;rw[Nat.eq_of_beq_eq_true h.1,EE h.2]
 |[],_::_,h=>by cases h
 |_::_,[],h=>by cases h
def cdE(k:A2 Int):Nat:=k.e0.toNat*64+k.e1.toNat
def dcE(c:Nat):A2 Int:=A2.mk ((c / 64:Nat):Int) ((c%64:Nat):Int)
def inE(k:A2 Int):Bool:=decide (0<=k.e0)&&decide (k.e0<64)&&decide (0<=k.e1)&&decide (k.e1<64)
theorem H3{k:A2 Int}(h:inE k=true):dcE (cdE k)=k:=by
 obtain⟨a,b⟩:=k;unfold inE at h;simp only[Bool.and_eq_true,decide_eq_true_eq]at h;unfold dcE cdE;congr 1
 ·show(((a.toNat*64+b.toNat) / 64:Nat):Int)=a;omega
 ·show(((a.toNat*64+b.toNat)%64:Nat):Int)=b;omega
def shut(D:List (A2 Int)):Bool:=D.all inE&&eqL (BI 12 (D.map cdE)) (BI 12 (D.map fun k=>cdE (sH k)))
theorem B8{D:List (A2 Int)}(h:shut D=true)(k:A2 Int):Eh (sH k) D=Eh k D:=by
 unfold shut at h;rw[Bool.and_eq_true]at h;have j:∀k∈D,inE k=true:=fun k hk=>List.all_eq_true.1 h.1 k hk
 have hp:(D.map cdE).Perm (D.map fun k=>cdE (sH k)):=(oD 12 _).symm.trans ((EE h.2)▸oD 12 _);have hp:=hp.map dcE;rw[List.map_map,List.map_map]at hp;have e1:D.map (dcE∘cdE)=D:=by
  have:D.map (dcE∘cdE)=D.map id:=List.map_congr_left fun k hk=>H3 (j k hk)
  rw[this,List.map_id]
 have e2:D.map (dcE∘fun k=>cdE (sH k))=D.map sH:=List.map_congr_left fun k hk=>H3 (by
  have:=j k hk;unfold inE at this ⊢;simp only[Bool.and_eq_true,decide_eq_true_eq]at this ⊢;exact⟨⟨⟨this.1.2,this.2⟩,this.1.1.1⟩,this.1.1.2⟩)
 rw[e1,e2]at hp;unfold Eh;rw[hp.countP_eq,List.countP_map];congr 1;funext x;show eqE (sH k) (sH x)=eqE k x;unfold eqE sH;rw[Bool.and_comm]
def okT(N:Nat)(t:A3 Int):Bool:=decide (0<=t.e0)&&decide (t.e0<2*(N:Int))&&!(t.e0==t.e1)&&decide (0<=t.e1)&&decide (t.e1<2*(N:Int))&&!(t.e1==t.e2)&&decide (0<=t.e2)&&decide (t.e2<2*(N:Int))&&!(t.e2==t.e0)
end Go.L

