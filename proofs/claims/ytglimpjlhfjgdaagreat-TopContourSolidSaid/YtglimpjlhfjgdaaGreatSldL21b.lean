import Derived.Test.YtglimpjlhfjgdaaGreatSldL52S1X
set_option linter.all false
namespace Go.L
open Go Go.Eng
theorem IT{n:Nat}{s:List Int}(j:0<s.length)(z:s.length<n)(C:s.length<=9223372036854775806):Ok (cU n s) fun v=>v∈s:=by
 unfold cU;have hm:∀k,k<s.length->gt s (k:Int)∈s:=fun k hk=>by rw[cZ];simp only[List.getD,geT hk,Option.getD_some];exact List.getElem_mem hk
 refine Ok.gd (by simp;omega) (Ok.gd (by rw[iK];omega) (Ok.bd (R:=fun v=>v∈s) ?_ (fun v p=>aC.2 p)));refine fu (fun x:Int×Int=>∃k:Nat,x.2=(k:Int)/\k<=s.length/\x.1∈s) (fun x=>s.length-x.2.toNat) ?_ n _ ⟨1,rfl,j,hm 0 j⟩ (by simp;omega);rintro again ⟨c,x⟩ ⟨k,q,hk,hc⟩ m;obtain rfl:x=(k:Int):=q;dsimp only at m hc ⊢;refine Ok.cd (fun h=>?_) (fun _=>aC.2 hc);have h:=dcT h;refine Ok.gd (by rw[bf];exact decide_eq_true (by omega)) ?_;rw[wrap64_in (by omega) (by omega)];refine m _ ⟨k+1,by simp,by omega,?_⟩ ?_
 ·have h1:=hm k (by omega);dsimp only;unfold mn;split
  ·assumption
  ·assumption
 ·simp;omega
def AK(g:aj)(k:Int)(z:Int):ar:=ar.mk (MR (g.X0+(MR ((k.tmod g.Width)*g.Step)))) (MR (g.Y0+(MR ((MR (k.tdiv g.Width))*g.Step)))) z
def py(g:aj)(base:Int)(k:Nat):ar:=AK g ((k%g.Z.length:Nat):Int) (if k<g.Z.length then gt g.Z (k:Int)else base)
def cS(g:aj)(base:Int):List ar:=(List.range (2*g.Z.length)).map (py g base)
theorem Bh{a b:Nat}:((a:Int)).tmod (b:Int)=((a%b:Nat):Int):=by rw[Int.tmod_eq_emod_of_nonneg (by omega)];rfl
theorem xj(g:aj)(base:Int):(cS g base).length=2*g.Z.length:=by simp[cS]
theorem Ki{l m:List (A3 Int)}(h:l.length<=100000):(gdO (decide ((l.length+2)*24<=140737488355328)) (gdO (decide (l.length+2<=4611686018427387904)) (some (l++m))):Option (List (A3 Int)))=some (l++m):=by
 rw[decide_eq_true (show(l.length+2)*24<=140737488355328 by omega),decide_eq_true (show l.length+2<=4611686018427387904 by omega)];rfl
theorem y9{n:Nat}{a b c:Int}{V:List ar}{l:List (A3 Int)}(h:l.length<=100000):ef n a b V l c=some (l++tc c a b):=Ki h
theorem Bu{α β:Type}[Inhabited α](f:α->List β){l:List α}{k:Nat}(h:k<l.length):(l.take (k+1)).flatMap f=(l.take k).flatMap f++f (l.getD k default):=by
 rw[List.take_add_one,geT h,List.flatMap_append];simp[List.getD,geT h]
theorem zL(n:Int):∀l:List (A3 Int),(l.flatMap (u5 n)).length=2*l.length
 |[]=>rfl
 |t::l=>by rw[List.flatMap_cons,List.length_append,zL n l];simp[u5];omega
theorem Bb(n:Int)(k:Nat):((List.range k).flatMap (xR n)).length=4*k:=by
 induction k with
 |zero=>rfl
 |succ k j=>rw[List.range_succ,List.flatMap_append,List.length_append,j];simp[xR,tc];omega
theorem EX(n W:Int)(k:Nat):((List.range k).flatMap (Ch n W)).length=4*k:=by
 induction k with
 |zero=>rfl
 |succ k j=>rw[List.range_succ,List.flatMap_append,List.length_append,j];simp[Ch,tc];omega
theorem GR{g:aj}{w h:Nat}{base:Int}(p:Gd g w h)(h0:pF g=0)(a6:g.Z.length<=25)(E:∀z∈g.Z,base<=z/\ -2147483648<z)(hb:rY base=false):jj 20000 g base=some (az.mk (cS g base) (aG w h),0):=by
 have hw:=p.w1;have hh:=p.h1;have hH:=p.H;have I:=p.W;have hm:=p.m;have a7:4<=g.Z.length:=by rw[hm];exact Nat.mul_le_mul hw.1 hh.1
 have hN:¬((g.Z.length:Nat):Int)=0:=by omega
 have J:¬g.Width=0:=by omega
 have U:w<=25:=by have:w*1<=w*h:=Nat.mul_le_mul_left _ (by omega);omega
 have Y:h<=25:=by have:1*h<=w*h:=Nat.mul_le_mul_right _ (by omega);omega
 apply Ok.eq;unfold jj;refine Ok.bde (sZ (by omega) g) ?_;rw[h0];refine Ok.cd (fun h=>by cases h) (fun _=>Ok.cd (fun h=>by have:=dcT h;omega) (fun _=>?_));refine Ok.bde (Ic (by omega) (by omega)) (Ok.cd (fun h=>?_) (fun _=>?_))
 ·rw[List.any_eq_true]at h;obtain⟨z,M,N⟩:=h;have:=(E z M).2;have:(-2147483648:Int)=z:=by simpa using N
  omega
 refine Ok.bde IJ ?_;rw[hb];refine Ok.cd (fun h=>by cases h) (fun _=>Ok.bd (IT (by omega) (by omega) (by omega)) fun v hv=>Ok.cd (fun h=>by have:=dcT h;have:=(E v hv).1;omega) (fun _=>?_));refine Ok.bd (R:=fun o=>o=cS g base) ?_ ?_
 ·refine iB (len:=2*g.Z.length) (fun k c=>c=(List.range k).map (py g base)) (by omega) (by omega) rfl ?_ ?_
  ·rintro again k c hk rfl q;have step:=q ((List.range (k+1)).map (py g base)) rfl;rw[List.range_succ,List.map_append]at step;dsimp only;rw[wrap64_in (n:=2*(g.Z.length:Int)) (by omega) (by omega),Bh];refine Ok.cd (fun _=>Ok.gd (by simpa using hN) (Ok.gd (by simpa using J) ?_)) (fun h=>by have:=dcF h;omega);refine Ok.cd (fun j=>?_) (fun C=>?_)
   ·have j:k<g.Z.length:=by have:=dcT j;omega
    refine Ok.gd (by rw[bf];exact decide_eq_true j) (Ok.gd (decide_eq_true (by simp;omega)) (Ok.gd (decide_eq_true (by simp;omega)) ?_));have e:py g base k=AK g ((k%g.Z.length:Nat):Int) (gt g.Z (k:Int)):=by unfold py;rw[if_pos j]
    simp only[List.map_cons,List.map_nil,e]at step;exact step
   ·have C:¬k<g.Z.length:=by have:=dcF C;omega
    refine Ok.gd (decide_eq_true (by simp;omega)) (Ok.gd (decide_eq_true (by simp;omega)) ?_);have e:py g base k=AK g ((k%g.Z.length:Nat):Int) base:=by unfold py;rw[if_neg C]
    simp only[List.map_cons,List.map_nil,e]at step;exact step
  ·rintro again c rfl;dsimp only;rw[wrap64_in (n:=2*(g.Z.length:Int)) (by omega) (by omega)];exact Ok.cd (fun h=>by have:=dcT h;omega) (fun _=>aC.2 rfl)
 rintro V rfl;have hT:jd g w h=cJ (w:Int) (w-1) (h-1):=by
  unfold jd;rw[I,List.filter_eq_self];intro t ht;obtain⟨i0,i1,i2⟩:=xi p (by rw[I];exact ht);have D:∀i,inR i g.Z.length=true->(gt g.Z i != -2147483648)=true:=by
   intro i hi;have a8:=iK.1 hi;obtain⟨k,rfl⟩:∃k:Nat,i=(k:Int):=⟨i.toNat,by omega⟩;have hk:k<g.Z.length:=by omega
   have:=(E (g.Z.getD k default) (by simp only[List.getD,geT hk,Option.getD_some];exact List.getElem_mem hk)).2;rw[cZ];exact bne_iff_ne.2 (by omega)
  unfold gQ;rw[D _ i0,D _ i1,D _ i2];rfl
 have b0:(cJ (w:Int) (w-1) (h-1)).length<=1300:=by
  rw[sS];have:2*(w-1)*(h-1)<=2*25*25:=Nat.mul_le_mul (by omega) (by omega);omega
 refine Ok.bde (KG (by omega) p) ?_;rw[hT];generalize O:cJ (w:Int) (w-1) (h-1)=T at*;refine Ok.bd (R:=fun o=>o=T.flatMap (u5 (g.Z.length:Int))) ?_ ?_
 ·refine iB (len:=T.length) (fun k c=>c=(T.take k).flatMap (u5 (g.Z.length:Int))) (by omega) (by omega) rfl ?_ ?_
  ·rintro again k c hk rfl q;have hl:((T.take k).flatMap (u5 (g.Z.length:Int))).length<=8000:=by rw[zL,List.length_take];omega
   refine Ok.cd (fun _=>?_) (fun h=>by have:=dcF h;omega);refine Ok.gd (by rw[bf];exact decide_eq_true hk) (Ok.gd (decide_eq_true (by omega)) (Ok.gd (decide_eq_true (by omega)) (q _ ?_)));rw[Bu _ hk,cZ];rfl
  ·rintro again c rfl;exact Ok.cd (fun h=>by simp at h) (fun _=>aC.2 (by rw[List.take_length]))
 rintro F0 rfl;have b1:(T.flatMap (u5 (g.Z.length:Int))).length<=2600:=by rw[zL];omega
 rw[wrap64_in (n:=g.Width-1) (by omega) (by omega),wrap64_in (n:=g.Height-1) (by omega) (by omega)];refine Ok.bd (R:=fun o=>o=T.flatMap (u5 (g.Z.length:Int))++(List.range (w-1)).flatMap (xR (g.Z.length:Int))) ?_ ?_
 ·refine iB (len:=w-1) (fun k c=>c=T.flatMap (u5 (g.Z.length:Int))++(List.range k).flatMap (xR (g.Z.length:Int))) (by omega) (by omega) (by simp) ?_ ?_
  ·rintro again k c hk rfl q;have hl:=Bb (g.Z.length:Int) k;have step:=q (T.flatMap (u5 (g.Z.length:Int))++(List.range (k+1)).flatMap (xR (g.Z.length:Int))) rfl;rw[List.range_succ,List.flatMap_append,<-List.append_assoc]at step;refine Ok.cd (fun _=>?_) (fun h=>by have:=dcF h;omega);refine Ok.bde (y9 (by rw[List.length_append];omega)) (Ok.bde (y9 (by rw[List.length_append,List.length_append];simp only[tc,List.length_cons,List.length_nil];omega)) ?_);simp only[List.flatMap_cons,List.flatMap_nil,List.append_nil,xR]at step;rw[<-List.append_assoc]at step;exact step
  ·rintro again c rfl;exact Ok.cd (fun h=>by have:=dcT h;omega) (fun _=>aC.2 rfl)
 rintro F1 rfl;have a1:=Bb (g.Z.length:Int) (w-1);refine Ok.bd (R:=fun o=>o=T.flatMap (u5 (g.Z.length:Int))++(List.range (w-1)).flatMap (xR (g.Z.length:Int))++(List.range (h-1)).flatMap (Ch (g.Z.length:Int) (w:Int))) ?_ ?_
 ·rw[I];refine iB (len:=h-1) (fun k c=>c=T.flatMap (u5 (g.Z.length:Int))++(List.range (w-1)).flatMap (xR (g.Z.length:Int))++(List.range k).flatMap (Ch (g.Z.length:Int) (w:Int))) (by omega) (by omega) (by simp) ?_ ?_
  ·rintro again k c hk rfl q;have hl:=EX (g.Z.length:Int) (w:Int) k;have step:=q (T.flatMap (u5 (g.Z.length:Int))++(List.range (w-1)).flatMap (xR (g.Z.length:Int))++(List.range (k+1)).flatMap (Ch (g.Z.length:Int) (w:Int))) rfl;rw[List.range_succ,List.flatMap_append,<-List.append_assoc]at step;refine Ok.cd (fun _=>?_) (fun h=>by have:=dcF h;omega);refine Ok.bde (y9 (by rw[List.length_append,List.length_append];omega)) (Ok.bde (y9 (by rw[List.length_append,List.length_append,List.length_append];simp only[tc,List.length_cons,List.length_nil];omega)) ?_);simp only[List.flatMap_cons,List.flatMap_nil,List.append_nil,Ch]at step;rw[<-List.append_assoc]at step;exact step
  ·rintro again c rfl;exact Ok.cd (fun h=>by have:=dcT h;omega) (fun _=>aC.2 rfl)
 rintro F2 rfl;refine aC.2 ?_;unfold aG;rw[O,hm]
end Go.L


set_option linter.all false
namespace Go.L
open Go Go.Eng
theorem rO{β:Type}(f:A3 Int->List β){l:List (A3 Int)}{k:Nat}(h:k<l.length):(l.take (k+1)).flatMap f=(l.take k).flatMap f++f (l.getD k default):=by
 rw[List.take_add_one,geT h,List.flatMap_append];simp[List.getD,geT h]
end Go.L


set_option linter.all false
namespace Go.L
open Go Go.Eng
def Hi:List (Nat×Nat):=(List.range 13).flatMap fun w=>(List.range 13).filterMap fun h=>if 2<=w/\2<=h/\w*h<=25 then some (w,h)else none
theorem Ds{w h:Nat}(hw:2<=w)(j:2<=h)(hm:w*h<=25):(w,h)∈Hi:=by
 have h1:w*2<=w*h:=Nat.mul_le_mul_left _ j;have h2:2*h<=w*h:=Nat.mul_le_mul_right _ hw;refine List.mem_flatMap.2 ⟨w,List.mem_range.2 (by omega),List.mem_filterMap.2 ⟨h,List.mem_range.2 (by omega),?_⟩⟩;rw[if_pos ⟨hw,j,hm⟩]
def gxI(w N v:Nat):Int:=(((v%N)%w:Nat):Int)
def gyI(w N v:Nat):Int:=(((v%N) / w:Nat):Int)
def cA(w N:Nat)(t:A3 Int):List (Nat×Int):=[(cnZ N t.e0.toNat,gyI w N t.e2.toNat-gyI w N t.e1.toNat),(cnZ N t.e1.toNat,gyI w N t.e0.toNat-gyI w N t.e2.toNat),(cnZ N t.e2.toNat,gyI w N t.e1.toNat-gyI w N t.e0.toNat)]
def cB(w N:Nat)(t:A3 Int):List (Nat×Int):=[(cnZ N t.e0.toNat,gxI w N t.e1.toNat-gxI w N t.e2.toNat),(cnZ N t.e1.toNat,gxI w N t.e2.toNat-gxI w N t.e0.toNat),(cnZ N t.e2.toNat,gxI w N t.e0.toNat-gxI w N t.e1.toNat)]
def cC(w N:Nat)(t:A3 Int):List (Nat×Int):=[(cnZ N t.e0.toNat,gxI w N t.e1.toNat*gyI w N t.e2.toNat-gyI w N t.e1.toNat*gxI w N t.e2.toNat),(cnZ N t.e1.toNat,gyI w N t.e0.toNat*gxI w N t.e2.toNat-gxI w N t.e0.toNat*gyI w N t.e2.toNat),(cnZ N t.e2.toNat,gxI w N t.e0.toNat*gyI w N t.e1.toNat-gyI w N t.e0.toNat*gxI w N t.e1.toNat)]
def zI(w N:Nat)(t:A3 Int):Int:=(gxI w N t.e1.toNat-gxI w N t.e0.toNat)*(gyI w N t.e2.toNat-gyI w N t.e0.toNat)-(gyI w N t.e1.toNat-gyI w N t.e0.toNat)*(gxI w N t.e2.toNat-gxI w N t.e0.toNat)
def upN(N:Nat)(t:A3 Int):List (Nat×Int):=[(t.e0.toNat,1),(t.e1.toNat,1),(t.e2.toNat,1),(N,-3)]
def asc:List Nat->Bool
 |x::y::l=>Nat.blt x y&&asc (y::l)
 |_=>true
def okF(w N:Nat)(F T:List (A3 Int)):Bool:=
 F.all (okT N)&&shut (F.flatMap eds)&&asc (BI 12 ((F.flatMap eds).map cdE))&&Nat.ble F.length 200&&
 (List.range (N+1)).all (fun m=>decide (rR m (F.flatMap (cA w N))=0)&&decide (rR m (F.flatMap (cB w N))=0)&&decide (rR m (F.flatMap (cC w N))=rR m (T.flatMap (upN N))))&&
 (F.flatMap (cA w N)).all (fun p=>Nat.ble p.1 N)&&(F.flatMap (cB w N)).all (fun p=>Nat.ble p.1 N)&&(F.flatMap (cC w N)).all (fun p=>Nat.ble p.1 N)&&(T.flatMap (upN N)).all (fun p=>Nat.ble p.1 N)&&decide (sI (F.map (zI w N))=0)
theorem My:okF 2 4 (aG 2 2) (cJ 2 1 1)=true:=by kernel_rfl
theorem LW:okF 2 6 (aG 2 3) (cJ 2 1 2)=true:=by kernel_rfl
theorem Lh:okF 2 8 (aG 2 4) (cJ 2 1 3)=true:=by kernel_rfl
theorem Lt:okF 2 10 (aG 2 5) (cJ 2 1 4)=true:=by kernel_rfl
theorem LJ:okF 2 12 (aG 2 6) (cJ 2 1 5)=true:=by kernel_rfl
theorem LM:okF 2 14 (aG 2 7) (cJ 2 1 6)=true:=by kernel_rfl
theorem Mn:okF 2 16 (aG 2 8) (cJ 2 1 7)=true:=by kernel_rfl
theorem L6:okF 2 18 (aG 2 9) (cJ 2 1 8)=true:=by kernel_rfl
theorem Kl:okF 2 20 (aG 2 10) (cJ 2 1 9)=true:=by kernel_rfl
theorem JW:okF 2 22 (aG 2 11) (cJ 2 1 10)=true:=by kernel_rfl
theorem Ke:okF 2 24 (aG 2 12) (cJ 2 1 11)=true:=by kernel_rfl
theorem L3:okF 3 6 (aG 3 2) (cJ 3 2 1)=true:=by kernel_rfl
theorem LD:okF 3 9 (aG 3 3) (cJ 3 2 2)=true:=by kernel_rfl
theorem LK:okF 3 12 (aG 3 4) (cJ 3 2 3)=true:=by kernel_rfl
theorem MD:okF 3 15 (aG 3 5) (cJ 3 2 4)=true:=by kernel_rfl
theorem Lg:okF 3 18 (aG 3 6) (cJ 3 2 5)=true:=by kernel_rfl
theorem Mi:okF 3 21 (aG 3 7) (cJ 3 2 6)=true:=by kernel_rfl
theorem Lf:okF 3 24 (aG 3 8) (cJ 3 2 7)=true:=by kernel_rfl
theorem Li:okF 4 8 (aG 4 2) (cJ 4 3 1)=true:=by kernel_rfl
theorem L7:okF 4 12 (aG 4 3) (cJ 4 3 2)=true:=by kernel_rfl
theorem LX:okF 4 16 (aG 4 4) (cJ 4 3 3)=true:=by kernel_rfl
theorem LQ:okF 4 20 (aG 4 5) (cJ 4 3 4)=true:=by kernel_rfl
theorem Lx:okF 4 24 (aG 4 6) (cJ 4 3 5)=true:=by kernel_rfl
theorem Mw:okF 5 10 (aG 5 2) (cJ 5 4 1)=true:=by kernel_rfl
theorem Mg:okF 5 15 (aG 5 3) (cJ 5 4 2)=true:=by kernel_rfl
theorem Mv:okF 5 20 (aG 5 4) (cJ 5 4 3)=true:=by kernel_rfl
theorem Mb:okF 5 25 (aG 5 5) (cJ 5 4 4)=true:=by kernel_rfl
theorem L8:okF 6 12 (aG 6 2) (cJ 6 5 1)=true:=by kernel_rfl
theorem LZ:okF 6 18 (aG 6 3) (cJ 6 5 2)=true:=by kernel_rfl
theorem LP:okF 6 24 (aG 6 4) (cJ 6 5 3)=true:=by kernel_rfl
theorem L5:okF 7 14 (aG 7 2) (cJ 7 6 1)=true:=by kernel_rfl
theorem Lr:okF 7 21 (aG 7 3) (cJ 7 6 2)=true:=by kernel_rfl
theorem Mm:okF 8 16 (aG 8 2) (cJ 8 7 1)=true:=by kernel_rfl
theorem Mu:okF 8 24 (aG 8 3) (cJ 8 7 2)=true:=by kernel_rfl
theorem ME:okF 9 18 (aG 9 2) (cJ 9 8 1)=true:=by kernel_rfl
theorem Ko:okF 10 20 (aG 10 2) (cJ 10 9 1)=true:=by kernel_rfl
theorem KC:okF 11 22 (aG 11 2) (cJ 11 10 1)=true:=by kernel_rfl
theorem J9:okF 12 24 (aG 12 2) (cJ 12 11 1)=true:=by kernel_rfl
theorem C1{P:Nat->Nat->Prop}(H:∀p∈Hi,P p.1 p.2){w h:Nat}(hw:2<=w)(j:2<=h)(hm:w*h<=25):P w h:=H _ (Ds hw j hm)
theorem AW:Hi=[(2,2),(2,3),(2,4),(2,5),(2,6),(2,7),(2,8),(2,9),(2,10),(2,11),(2,12),(3,2),(3,3),(3,4),(3,5),(3,6),(3,7),(3,8),(4,2),(4,3),(4,4),(4,5),(4,6),(5,2),(5,3),(5,4),(5,5),(6,2),(6,3),(6,4),(7,2),(7,3),(8,2),(8,3),(9,2),(10,2),(11,2),(12,2)]:=by decide
theorem qG{w h:Nat}(hw:2<=w)(j:2<=h)(hm:w*h<=25):okF w (w*h) (aG w h) (cJ (w:Int) (w-1) (h-1))=true:=by
 refine C1 (P:=fun w h=>okF w (w*h) (aG w h) (cJ (w:Int) (w-1) (h-1))=true) ?_ hw j hm;rw[AW];simp only[List.forall_mem_cons,List.not_mem_nil,false_implies,implies_true,and_true];exact⟨My,LW,Lh,Lt,LJ,LM,Mn,L6,Kl,JW,Ke,L3,LD,LK,MD,Lg,Mi,Lf,Li,L7,LX,LQ,Lx,Mw,Mg,Mv,Mb,L8,LZ,LP,L5,Lr,Mm,Mu,ME,Ko,KC,J9⟩
end Go.L


set_option linter.all false
namespace Go.L
open Go Go.Eng
structure FOk (w N:Nat) (F T:List (A3 Int)):Prop where
 t:∀x∈F,okT N x=true
 sh:shut (F.flatMap eds)=true
 nd:(F.flatMap eds).Nodup
 len:F.length<=200
 A:∀f:Nat->Int,lin f (F.flatMap (cA w N))=0
 B:∀f:Nat->Int,lin f (F.flatMap (cB w N))=0
 C:∀f:Nat->Int,lin f (F.flatMap (cC w N))=lin f (T.flatMap (upN N))
 z:sI (F.map (zI w N))=0
theorem yO:∀{l:List Nat},asc l=true->l.Pairwise (·<·)
 |[],_=>List.Pairwise.nil
 |[_],_=>List.pairwise_singleton _ _
 |x::y::l,h=>by
  simp only[asc,Bool.and_eq_true]at h;have h1:x<y:=by simpa [Nat.blt_eq]using h.1
  have h2:=yO h.2;refine List.pairwise_cons.2 ⟨fun z j=>?_,h2⟩;rcases List.mem_cons.1 j with rfl|j
  ·exact h1
  ·exact Nat.lt_trans h1 ((List.pairwise_cons.1 h2).1 z j)
theorem tI{α β:Type}{f:α->β}:∀{l:List α},(l.map f).Nodup->l.Nodup
 |[],_=>List.nodup_nil
 |x::l,h=>by
  rw[List.map_cons,List.nodup_cons]at h;exact List.nodup_cons.2 ⟨fun j=>h.1 (List.mem_map_of_mem j),tI h.2⟩
theorem yT{f:Nat->Int}{M:Nat}{L:List (Nat×Int)}(h:∀m,m<=M->rR m L=0)(j:∀p∈L,p.1<=M):lin f L=0:=by
 rw[tJ (M:=M) L j];have:∀n,n<=M+1->sI ((List.range n).map fun m=>rR m L*f m)=0:=by
  intro n;induction n with
  |zero=>intro _;rfl
  |succ n q=>
   intro z;rw[List.range_succ,List.map_append,mh,q (by omega)];simp[sI,h n (by omega)]
 exact this _ (Nat.le_refl _)
theorem uI{w N:Nat}{F T:List (A3 Int)}(h:okF w N F T=true):FOk w N F T:=by
 unfold okF at h;simp only[Bool.and_eq_true]at h;obtain⟨⟨⟨⟨⟨⟨⟨⟨⟨h1,h2⟩,q⟩,z⟩,C⟩,D⟩,E⟩,I⟩,J⟩,j⟩:=h;have hc:=fun m (hm:m<=N)=>List.all_eq_true.1 C m (List.mem_range.2 (by omega))
 simp only[Bool.and_eq_true,decide_eq_true_eq]at hc;refine⟨fun x O=>List.all_eq_true.1 h1 x O,h2,?_,lbT z,fun f=>?_,fun f=>?_,fun f=>?_,dcT j⟩
 ·have hp:=(oD 12 ((F.flatMap eds).map cdE)).nodup_iff.1 ((yO q).imp fun h=>Nat.ne_of_lt h);exact tI hp
 ·exact yT (fun m hm=>(hc m hm).1.1) fun p hp=>lbT (List.all_eq_true.1 D p hp)
 ·exact yT (fun m hm=>(hc m hm).1.2) fun p hp=>lbT (List.all_eq_true.1 E p hp)
 ·refine Jt (M:=N) ?_ I J;refine List.all_eq_true.2 fun m hm=>?_
  have hm:=List.mem_range.1 hm;exact decide_eq_true ((hc m (by omega)).2)
def inV(p:ar):Prop:=(-1048576<=p.X/\p.X<=1048576)/\(-1048576<=p.Y/\p.Y<=1048576)/\(-1048576<=p.Z/\p.Z<=1048576)
theorem G3{n:Nat}{x:Int}(h:-1048576<=x/\x<=1048576):jE n x=some false:=by
 unfold jE;rw[decide_eq_false (by omega),decide_eq_false (by omega)];rfl
theorem BN{n:Nat}(q:10<n){p:ar}(h:inV p):kZ n p=some false:=by
 apply Ok.eq;unfold kZ bn bG;have hm:∀x∈[p.X,p.Y,p.Z],-1048576<=x/\x<=1048576:=by
  intro x j;simp only[List.mem_cons,List.not_mem_nil,or_false]at j;rcases j with rfl|rfl|rfl
  ·exact h.1
  ·exact h.2.1
  ·exact h.2.2
 have z:[p.X,p.Y,p.Z].length=3:=rfl;generalize [p.X,p.Y,p.Z]=s at*;refine Ok.bd (R:=fun v=>v=false) (Ok.bd (R:=fun v=>v=-1) (Ok.bd (R:=fun o=>o=Sum.inl ()) (nP (len:=s.length) (fun _=>True) (by omega) (by omega) trivial ?_ ?_) ?_) ?_) ?_
 ·intro again k hk _ m;refine Ok.cd (fun _=>Ok.gd (by rw[bf];exact decide_eq_true hk) ?_) (fun h=>by have:=dcF h;omega);refine Ok.bde (G3 (hm _ (by rw[cZ];simp only[List.getD,geT hk,Option.getD_some];exact List.getElem_mem hk))) (Ok.cd (fun h=>by cases h) (fun _=>m trivial))
 ·intro again _;exact Ok.cd (fun h=>by have:=dcT h;omega) (fun _=>aC.2 rfl)
 ·rintro o rfl;exact aC.2 rfl
 ·rintro v rfl;exact aC.2 rfl
 ·rintro v rfl;exact aC.2 rfl
theorem Hb{N:Nat}{V:List ar}{F:List (A3 Int)}(q:∀p∈V,inV p)(E:N<=25)(I:V.length=2*N)(z:∀x∈F,okT N x=true)(J:F.length<=200):jO 20000 (az.mk V F)=some 0:=by
 apply Ok.eq;unfold jO;dsimp only;refine Ok.cd (fun h=>by have:=dcT h;omega) (fun _=>Ok.cd (fun h=>by have:=dcT h;omega) (fun _=>?_));refine Ok.bde (b:=false) ?_ (Ok.cd (fun h=>by cases h) (fun _=>?_))
 ·apply Ok.eq;unfold aU aV;refine Ok.bd (R:=fun v=>v=-1) (Ok.bd (R:=fun o=>o=Sum.inl ()) (nP (len:=V.length) (fun _=>True) (by omega) (by omega) trivial ?_ ?_) ?_) ?_
  ·intro again k hk _ m;refine Ok.cd (fun _=>Ok.gd (by rw[bf];exact decide_eq_true hk) ?_) (fun h=>by have:=dcF h;omega);refine Ok.bde (BN (by omega) (q _ (by rw[cZ];simp only[List.getD,geT hk,Option.getD_some];exact List.getElem_mem hk))) (Ok.cd (fun h=>by cases h) (fun _=>m trivial))
  ·intro again _;exact Ok.cd (fun h=>by have:=dcT h;omega) (fun _=>aC.2 rfl)
  ·rintro o rfl;exact aC.2 rfl
  ·rintro v rfl;exact aC.2 rfl
 ·refine Ok.bd (R:=fun o=>o=Sum.inl ()) (nP (len:=F.length) (fun _=>True) (by omega) (by omega) trivial ?_ ?_) ?_
  ·intro again k hk _ m;have j:=z (F.getD k default) (by simp only[List.getD,geT hk,Option.getD_some];exact List.getElem_mem hk);rw[<-cZ]at j;unfold okT at j;simp only[Bool.and_eq_true,decide_eq_true_eq,Bool.not_eq_true',beq_eq_false_iff_ne]at j;obtain⟨⟨⟨⟨⟨⟨⟨⟨M,a2⟩,a3⟩,O⟩,b2⟩,C⟩,c1⟩,c2⟩,D⟩:=j;generalize gt F (k:Int)=t at*;refine Ok.cd (fun _=>Ok.gd (by rw[bf];exact decide_eq_true hk) ?_) (fun h=>by have:=dcF h;omega);refine Ok.cd (fun h=>by have:=dcT h;omega) (fun _=>Ok.cd (fun h=>by have:=dcT h;omega) (fun _=>?_));refine Ok.cd (fun h=>by have:=dcT h;omega) (fun _=>Ok.cd (fun h=>by have:=dcT h;omega) (fun _=>?_));refine Ok.cd (fun h=>by have:=dcT h;omega) (fun _=>Ok.cd (fun h=>by have:=dcT h;omega) (fun _=>?_));exact Ok.cd (fun h=>absurd (eq_of_beq h) a3) (fun _=>Ok.cd (fun h=>absurd (eq_of_beq h) C) (fun _=>Ok.cd (fun h=>absurd (eq_of_beq h) D) (fun _=>m trivial)))
  ·intro again _;exact Ok.cd (fun h=>by have:=dcT h;omega) (fun _=>aC.2 rfl)
  ·rintro o rfl;exact aC.2 rfl
def tg(s:List (A2 Int×Bool))(e:A2 Int):List (A2 Int×Bool):=aW s e true
theorem tz{s:List (A2 Int×Bool)}{e k:A2 Int}:getM false (tg s e) k=(k==e||getM false s k):=by
 unfold tg;induction s with
 |nil=>simp only[aW,getM];cases k==e<;>rfl
 |cons p s j=>
  simp only[aW];cases h1:e==p.1 with
  |true=>
   have h1:=eq_of_beq h1;simp only[cond_true,getM];rw[h1];cases k==p.1<;>rfl
  |false=>
   simp only[cond_false,getM,j];cases h2:k==p.1 with
   |true=>
    have h2:=eq_of_beq h2;have:(k==e)=false:=by
     rw[beq_eq_false_iff_ne];rintro rfl;rw[h2]at h1;simp at h1
    rw[this];simp
   |false=>simp
theorem Ey:∀(D:List (A2 Int)) (s:List (A2 Int×Bool)) (k:A2 Int),getM false (D.foldl tg s) k=(decide (k∈D)||getM false s k)
 |[],s,k=>by simp
 |d::D,s,k=>by
  rw[List.foldl_cons,Ey D,tz];by_cases h:k=d
  ·subst h;simp
  ·have:(k==d)=false:=beq_eq_false_iff_ne.2 h;rw[this];simp[h]
def Ep(t:A3 Int)(v:Nat):Bool:=(t.e0==(v:Int))||((t.e1==(v:Int))||(t.e2==(v:Int)))
def arL(F:List (A3 Int))(k v:Nat):List Int:=((List.range k).filter fun i=>Ep (F.getD i default) v).map fun i:Nat=>(i:Int)
def arF(F:List (A3 Int))(N k:Nat):List (List Int):=(List.range N).map (arL F k)
theorem Gi(F:List (A3 Int))(k v:Nat):arL F (k+1) v=arL F k v++(if Ep (F.getD k default) v=true then[(k:Int)]else[]):=by
 unfold arL;rw[List.range_succ,List.filter_append,List.map_append];congr 1;rw[List.filter_cons,List.filter_nil];cases Ep (F.getD k default) v<;>rfl
theorem zD(F:List (A3 Int))(k v:Nat):(arL F k v).length<=k:=by
 unfold arL;rw[List.length_map];have:=List.length_filter_le (fun i=>Ep (F.getD i default) v) (List.range k);rw[List.length_range]at this;exact this
theorem oC{l:List (List Int)}{i j:Nat}{v:List Int}(h:i<l.length):(l.set i v).getD j default=if i=j then v else l.getD j default:=by
 simp only[List.getD];rw[List.getElem?_set];by_cases e:i=j
 ·subst e;simp[h]
 ·simp[e]
theorem um{F:List (A3 Int)}{N k v:Nat}(h:v<N):(arF F N k).getD v default=arL F k v:=by
 unfold arF;simp[List.getD,h]
theorem GY{F:List (A3 Int)}{N k a b c:Nat}(C:F.getD k default=A3.mk (a:Int) (b:Int) (c:Int))(D:a<N)(E:b<N)(hc:c<N)(J:a≠b)(n2:b≠c)(M:c≠a):
  (((arF F N k).set a (arL F k a++[(k:Int)])).set b (arL F k b++[(k:Int)])).set c (arL F k c++[(k:Int)])=arF F N (k+1):=by
 have m:∀j,(arF F N j).length=N:=fun j=>by simp[arF]
 apply List.ext_getElem
 ·simp[m]
 intro v h1 h2;rw[m]at h2;have e:∀(l:List (List Int)) (h:v<l.length),l[v]=l.getD v default:=fun l h=>by simp[List.getD,h]
 rw[e _ h1,e _ (by rw[m];exact h2),um h2,Gi,C,oC (by simp[m,hc]),oC (by simp[m,E]),oC (by simp[m,D]),um h2];have I:Ep (A3.mk (a:Int) (b:Int) (c:Int)) v=(decide (a=v)||(decide (b=v)||decide (c=v))):=by
  unfold Ep;dsimp only;have:∀x:Nat,((x:Int)==(v:Int))=decide (x=v):=fun x=>by
   by_cases h:x=v
   ·subst h;simp
   ·rw[decide_eq_false h,beq_eq_false_iff_ne];omega
  rw[this,this,this]
 rw[I];by_cases p:c=v
 ·subst p;simp
 ·by_cases q:b=v
  ·subst q;simp[p]
  ·by_cases z:a=v
   ·subst z;simp[p,q]
   ·simp[p,q,z]
end Go.L

