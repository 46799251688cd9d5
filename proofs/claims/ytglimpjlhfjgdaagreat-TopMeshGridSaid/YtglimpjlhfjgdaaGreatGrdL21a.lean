import Derived.Test.YtglimpjlhfjgdaaGreatGrdL52S1X
set_option linter.all false
namespace Go.L
open Go Go.Eng
theorem FI{n:Nat}{s:List Int}(j:0<s.length)(z:s.length<n)(C:s.length<=9223372036854775806):Ok (gO n s) fun v=>v∈s:=by
 unfold gO;have hm:∀k,k<s.length->gt s (k:Int)∈s:=fun k hk=>by rw[fb];simp only[List.getD,geT hk,Option.getD_some];exact List.getElem_mem hk
 refine Ok.gd (by simp;omega) (Ok.gd (by rw[qa];omega) (Ok.bd (R:=fun v=>v∈s) ?_ (fun v p=>ar.2 p)));refine dx (fun x:Int×Int=>∃k:Nat,x.2=(k:Int)/\k<=s.length/\x.1∈s) (fun x=>s.length-x.2.toNat) ?_ n _ ⟨1,rfl,j,hm 0 j⟩ (by simp;omega);rintro again ⟨c,x⟩ ⟨k,q,hk,hc⟩ m;obtain rfl:x=(k:Int):=q;dsimp only at m hc ⊢;refine Ok.cd (fun h=>?_) (fun _=>ar.2 hc);have h:=dcT h;refine Ok.gd (by rw[bb];exact decide_eq_true (by omega)) ?_;rw[wrap64_in (by omega) (by omega)];refine m _ ⟨k+1,by simp,by omega,?_⟩ ?_
 ·have h1:=hm k (by omega);dsimp only;unfold mn;split
  ·assumption
  ·assumption
 ·simp;omega
def BZ(g:ak)(k:Int)(z:Int):an:=an.mk (Jt (g.X0+(Jt ((k.tmod g.Width)*g.Step)))) (Jt (g.Y0+(Jt ((Jt (k.tdiv g.Width))*g.Step)))) z
def sJ(g:ak)(base:Int)(k:Nat):an:=BZ g ((k%g.Z.length:Nat):Int) (if k<g.Z.length then gt g.Z (k:Int)else base)
def ns(g:ak)(base:Int):List an:=(List.range (2*g.Z.length)).map (sJ g base)
theorem zC{a b:Nat}:((a:Int)).tmod (b:Int)=((a%b:Nat):Int):=by rw[Int.tmod_eq_emod_of_nonneg (by omega)];rfl
theorem pM(g:ak)(base:Int):(ns g base).length=2*g.Z.length:=by simp[ns]
theorem gd2{l m:List (A3 Int)}(h:l.length<=100000):(gdO (decide ((l.length+2)*24<=140737488355328)) (gdO (decide (l.length+2<=4611686018427387904)) (some (l++m))):Option (List (A3 Int)))=some (l++m):=by
 rw[decide_eq_true (show(l.length+2)*24<=140737488355328 by omega),decide_eq_true (show l.length+2<=4611686018427387904 by omega)];rfl
theorem ze{n:Nat}{a b c:Int}{V:List an}{l:List (A3 Int)}(h:l.length<=100000):fE n a b V l c=some (l++uf c a b):=gd2 h
theorem AA{α β:Type}[Inhabited α](f:α->List β){l:List α}{k:Nat}(h:k<l.length):(l.take (k+1)).flatMap f=(l.take k).flatMap f++f (l.getD k default):=by
 rw[List.take_add_one,geT h,List.flatMap_append];simp[List.getD,geT h]
theorem yY(n:Int):∀l:List (A3 Int),(l.flatMap (vh n)).length=2*l.length
 |[]=>rfl
 |t::l=>by rw[List.flatMap_cons,List.length_append,yY n l];simp[vh];omega
theorem Au(n:Int)(k:Nat):((List.range k).flatMap (xL n)).length=4*k:=by
 induction k with
 |zero=>rfl
 |succ k j=>rw[List.range_succ,List.flatMap_append,List.length_append,j];simp[xL,uf];omega
theorem Dc(n W:Int)(k:Nat):((List.range k).flatMap (A7 n W)).length=4*k:=by
 induction k with
 |zero=>rfl
 |succ k j=>rw[List.range_succ,List.flatMap_append,List.length_append,j];simp[A7,uf];omega
theorem Bw{g:ak}{w h:Nat}{base:Int}(p:Gd g w h)(h0:mh g=0)(a6:g.Z.length<=25)(E:∀z∈g.Z,base<=z/\ -2147483648<z)(hb:sy base=false):kq 20000 g base=some (aj.mk (ns g base) (aC w h),0):=by
 have hw:=p.w1;have hh:=p.h1;have hH:=p.H;have I:=p.W;have hm:=p.m;have a7:4<=g.Z.length:=by rw[hm];exact Nat.mul_le_mul hw.1 hh.1
 have hN:¬((g.Z.length:Nat):Int)=0:=by omega
 have J:¬g.Width=0:=by omega
 have S:w<=25:=by have:w*1<=w*h:=Nat.mul_le_mul_left _ (by omega);omega
 have U:h<=25:=by have:1*h<=w*h:=Nat.mul_le_mul_right _ (by omega);omega
 apply Ok.eq;unfold kq;refine Ok.bde (rQ (by omega) g) ?_;rw[h0];refine Ok.cd (fun h=>by cases h) (fun _=>Ok.cd (fun h=>by have:=dcT h;omega) (fun _=>?_));refine Ok.bde (Hy (by omega) (by omega)) (Ok.cd (fun h=>?_) (fun _=>?_))
 ·rw[List.any_eq_true]at h;obtain⟨z,M,N⟩:=h;have:=(E z M).2;have:(-2147483648:Int)=z:=by simpa using N
  omega
 refine Ok.bde DT ?_;rw[hb];refine Ok.cd (fun h=>by cases h) (fun _=>Ok.bd (FI (by omega) (by omega) (by omega)) fun v hv=>Ok.cd (fun h=>by have:=dcT h;have:=(E v hv).1;omega) (fun _=>?_));refine Ok.bd (R:=fun o=>o=ns g base) ?_ ?_
 ·refine kZ (len:=2*g.Z.length) (fun k c=>c=(List.range k).map (sJ g base)) (by omega) (by omega) rfl ?_ ?_
  ·rintro again k c hk rfl q;have step:=q ((List.range (k+1)).map (sJ g base)) rfl;rw[List.range_succ,List.map_append]at step;dsimp only;rw[wrap64_in (n:=2*(g.Z.length:Int)) (by omega) (by omega),zC];refine Ok.cd (fun _=>Ok.gd (by simpa using hN) (Ok.gd (by simpa using J) ?_)) (fun h=>by have:=dcF h;omega);refine Ok.cd (fun j=>?_) (fun C=>?_)
   ·have j:k<g.Z.length:=by have:=dcT j;omega
    refine Ok.gd (by rw[bb];exact decide_eq_true j) (Ok.gd (decide_eq_true (by simp;omega)) (Ok.gd (decide_eq_true (by simp;omega)) ?_));have e:sJ g base k=BZ g ((k%g.Z.length:Nat):Int) (gt g.Z (k:Int)):=by unfold sJ;rw[if_pos j]
    simp only[List.map_cons,List.map_nil,e]at step;exact step
   ·have C:¬k<g.Z.length:=by have:=dcF C;omega
    refine Ok.gd (decide_eq_true (by simp;omega)) (Ok.gd (decide_eq_true (by simp;omega)) ?_);have e:sJ g base k=BZ g ((k%g.Z.length:Nat):Int) base:=by unfold sJ;rw[if_neg C]
    simp only[List.map_cons,List.map_nil,e]at step;exact step
  ·rintro again c rfl;dsimp only;rw[wrap64_in (n:=2*(g.Z.length:Int)) (by omega) (by omega)];exact Ok.cd (fun h=>by have:=dcT h;omega) (fun _=>ar.2 rfl)
 rintro V rfl;have hT:qv g w h=cZ (w:Int) (w-1) (h-1):=by
  unfold qv;rw[I,List.filter_eq_self];intro t ht;obtain⟨i0,i1,i2⟩:=w7 p (by rw[I];exact ht);have D:∀i,inR i g.Z.length=true->(gt g.Z i != -2147483648)=true:=by
   intro i hi;have a8:=qa.1 hi;obtain⟨k,rfl⟩:∃k:Nat,i=(k:Int):=⟨i.toNat,by omega⟩;have hk:k<g.Z.length:=by omega
   have:=(E (g.Z.getD k default) (by simp only[List.getD,geT hk,Option.getD_some];exact List.getElem_mem hk)).2;rw[fb];exact bne_iff_ne.2 (by omega)
  unfold iP;rw[D _ i0,D _ i1,D _ i2];rfl
 have b0:(cZ (w:Int) (w-1) (h-1)).length<=1300:=by
  rw[pT];have:2*(w-1)*(h-1)<=2*25*25:=Nat.mul_le_mul (by omega) (by omega);omega
 refine Ok.bde (Dp (by omega) p) ?_;rw[hT];generalize O:cZ (w:Int) (w-1) (h-1)=T at*;refine Ok.bd (R:=fun o=>o=T.flatMap (vh (g.Z.length:Int))) ?_ ?_
 ·refine kZ (len:=T.length) (fun k c=>c=(T.take k).flatMap (vh (g.Z.length:Int))) (by omega) (by omega) rfl ?_ ?_
  ·rintro again k c hk rfl q;have Y:((T.take k).flatMap (vh (g.Z.length:Int))).length<=8000:=by rw[yY,List.length_take];omega
   refine Ok.cd (fun _=>?_) (fun h=>by have:=dcF h;omega);refine Ok.gd (by rw[bb];exact decide_eq_true hk) (Ok.gd (decide_eq_true (by omega)) (Ok.gd (decide_eq_true (by omega)) (q _ ?_)));rw[AA _ hk,fb];rfl
  ·rintro again c rfl;exact Ok.cd (fun h=>by simp at h) (fun _=>ar.2 (by rw[List.take_length]))
 rintro F0 rfl;have b1:(T.flatMap (vh (g.Z.length:Int))).length<=2600:=by rw[yY];omega
 rw[wrap64_in (n:=g.Width-1) (by omega) (by omega),wrap64_in (n:=g.Height-1) (by omega) (by omega)];refine Ok.bd (R:=fun o=>o=T.flatMap (vh (g.Z.length:Int))++(List.range (w-1)).flatMap (xL (g.Z.length:Int))) ?_ ?_
 ·refine kZ (len:=w-1) (fun k c=>c=T.flatMap (vh (g.Z.length:Int))++(List.range k).flatMap (xL (g.Z.length:Int))) (by omega) (by omega) (by simp) ?_ ?_
  ·rintro again k c hk rfl q;have Y:=Au (g.Z.length:Int) k;have step:=q (T.flatMap (vh (g.Z.length:Int))++(List.range (k+1)).flatMap (xL (g.Z.length:Int))) rfl;rw[List.range_succ,List.flatMap_append,<-List.append_assoc]at step;refine Ok.cd (fun _=>?_) (fun h=>by have:=dcF h;omega);refine Ok.bde (ze (by rw[List.length_append];omega)) (Ok.bde (ze (by rw[List.length_append,List.length_append];simp only[uf,List.length_cons,List.length_nil];omega)) ?_);simp only[List.flatMap_cons,List.flatMap_nil,List.append_nil,xL]at step;rw[<-List.append_assoc]at step;exact step
  ·rintro again c rfl;exact Ok.cd (fun h=>by have:=dcT h;omega) (fun _=>ar.2 rfl)
 rintro F1 rfl;have a1:=Au (g.Z.length:Int) (w-1);refine Ok.bd (R:=fun o=>o=T.flatMap (vh (g.Z.length:Int))++(List.range (w-1)).flatMap (xL (g.Z.length:Int))++(List.range (h-1)).flatMap (A7 (g.Z.length:Int) (w:Int))) ?_ ?_
 ·rw[I];refine kZ (len:=h-1) (fun k c=>c=T.flatMap (vh (g.Z.length:Int))++(List.range (w-1)).flatMap (xL (g.Z.length:Int))++(List.range k).flatMap (A7 (g.Z.length:Int) (w:Int))) (by omega) (by omega) (by simp) ?_ ?_
  ·rintro again k c hk rfl q;have Y:=Dc (g.Z.length:Int) (w:Int) k;have step:=q (T.flatMap (vh (g.Z.length:Int))++(List.range (w-1)).flatMap (xL (g.Z.length:Int))++(List.range (k+1)).flatMap (A7 (g.Z.length:Int) (w:Int))) rfl;rw[List.range_succ,List.flatMap_append,<-List.append_assoc]at step;refine Ok.cd (fun _=>?_) (fun h=>by have:=dcF h;omega);refine Ok.bde (ze (by rw[List.length_append,List.length_append];omega)) (Ok.bde (ze (by rw[List.length_append,List.length_append,List.length_append];simp only[uf,List.length_cons,List.length_nil];omega)) ?_);simp only[List.flatMap_cons,List.flatMap_nil,List.append_nil,A7]at step;rw[<-List.append_assoc]at step;exact step
  ·rintro again c rfl;exact Ok.cd (fun h=>by have:=dcT h;omega) (fun _=>ar.2 rfl)
 rintro F2 rfl;refine ar.2 ?_;unfold aC;rw[O,hm]
end Go.L


set_option linter.all false
namespace Go.L
open Go Go.Eng
theorem D4{a b:Int}{A B:Int}(j:-A<=a/\a<=A)(m:-B<=b/\b<=B)(p:0<=A)(q:0<=B):-(A*B)<=a*b/\a*b<=A*B:=sa j.1 j.2 m.1 m.2
theorem sX{β:Type}(f:A3 Int->List β){l:List (A3 Int)}{k:Nat}(h:k<l.length):(l.take (k+1)).flatMap f=(l.take k).flatMap f++f (l.getD k default):=by
 rw[List.take_add_one,geT h,List.flatMap_append];simp[List.getD,geT h]
theorem we{f:A3 Int->Int}{l:List (A3 Int)}{k:Nat}(h:k<l.length):sI ((l.take (k+1)).map f)=sI ((l.take k).map f)+f (l.getD k default):=by
 rw[List.take_add_one,geT h,List.map_append,nE];simp[List.getD,geT h,sI]
theorem Fw{f:A3 Int->Int}{B:Int}(j:0<=B):∀l:List (A3 Int),(∀t∈l,-B<=f t/\f t<=B)-> -(l.length*B)<=sI (l.map f)/\sI (l.map f)<=l.length*B
 |[],_=>by simp[sI]
 |t::l,h=>by
  have h1:=h t (by simp);have h2:=Fw j l fun t m=>h t (by simp[m])
  rw[List.map_cons,sI,List.length_cons];have e:((l.length+1:Nat):Int)*B=(l.length:Int)*B+B:=by rw[Int.natCast_add,Int.add_mul];simp
  rw[e];omega
theorem BT{N:Nat}{f:Nat->Int}{hh:Int->Int}:∀T:List (A3 Int),(∀t∈T,(0<=hh t.e0/\0<=hh t.e1/\0<=hh t.e2)/\upF N f t=36*(hh t.e0+hh t.e1+hh t.e2))->
  jS (T.map (xh hh))=(sI (T.map (upF N f)):Rat) / 108/\jS (T.map (yh hh))=0
 |[],_=>⟨by show(0:Rat)=((0:Int):Rat) / 108;grind,rfl⟩
 |t::T,h=>by
  obtain⟨⟨a,b,c⟩,e⟩:=h t (by simp);obtain⟨i1,i2⟩:=BT T fun t q=>h t (by simp[q])
  have a':(0:Rat)<=(hh t.e0:Int):=by exact_mod_cast a
  have j:(0:Rat)<=(hh t.e1:Int):=by exact_mod_cast b
  have m:(0:Rat)<=(hh t.e2:Int):=by exact_mod_cast c
  have z:xh hh t=((hh t.e0:Int)+((hh t.e1:Int)+(hh t.e2:Int):Rat)) / 3:=Gx a' j m;have C:yh hh t=0:=(Fk _ _ _).p a' j m;rw[List.map_cons,List.map_cons,List.map_cons,jS,jS,sI,z,C,i1,i2,e];refine⟨?_,by grind⟩
  push_cast
  grind
end Go.L


set_option linter.all false
namespace Go.L
open Go Go.Eng
def Gw:List (Nat×Nat):=(List.range 13).flatMap fun w=>(List.range 13).filterMap fun h=>if 2<=w/\2<=h/\w*h<=25 then some (w,h)else none
theorem Ey{w h:Nat}(hw:2<=w)(hh:2<=h)(hm:w*h<=25):(w,h)∈Gw:=by
 have h1:w*2<=w*h:=Nat.mul_le_mul_left _ hh;have h2:2*h<=w*h:=Nat.mul_le_mul_right _ hw;refine List.mem_flatMap.2 ⟨w,List.mem_range.2 (by omega),List.mem_filterMap.2 ⟨h,List.mem_range.2 (by omega),?_⟩⟩;rw[if_pos ⟨hw,hh,hm⟩]
def gxI(w N v:Nat):Int:=(((v%N)%w:Nat):Int)
def gyI(w N v:Nat):Int:=(((v%N) / w:Nat):Int)
def cA(w N:Nat)(t:A3 Int):List (Nat×Int):=[(cnZ N t.e0.toNat,gyI w N t.e2.toNat-gyI w N t.e1.toNat),(cnZ N t.e1.toNat,gyI w N t.e0.toNat-gyI w N t.e2.toNat),(cnZ N t.e2.toNat,gyI w N t.e1.toNat-gyI w N t.e0.toNat)]
def cB(w N:Nat)(t:A3 Int):List (Nat×Int):=[(cnZ N t.e0.toNat,gxI w N t.e1.toNat-gxI w N t.e2.toNat),(cnZ N t.e1.toNat,gxI w N t.e2.toNat-gxI w N t.e0.toNat),(cnZ N t.e2.toNat,gxI w N t.e0.toNat-gxI w N t.e1.toNat)]
def cC(w N:Nat)(t:A3 Int):List (Nat×Int):=[(cnZ N t.e0.toNat,gxI w N t.e1.toNat*gyI w N t.e2.toNat-gyI w N t.e1.toNat*gxI w N t.e2.toNat),(cnZ N t.e1.toNat,gyI w N t.e0.toNat*gxI w N t.e2.toNat-gxI w N t.e0.toNat*gyI w N t.e2.toNat),(cnZ N t.e2.toNat,gxI w N t.e0.toNat*gyI w N t.e1.toNat-gyI w N t.e0.toNat*gxI w N t.e1.toNat)]
def zI(w N:Nat)(t:A3 Int):Int:=(gxI w N t.e1.toNat-gxI w N t.e0.toNat)*(gyI w N t.e2.toNat-gyI w N t.e0.toNat)-(gyI w N t.e1.toNat-gyI w N t.e0.toNat)*(gxI w N t.e2.toNat-gxI w N t.e0.toNat)
def upN(N:Nat)(t:A3 Int):List (Nat×Int):=[(t.e0.toNat,1),(t.e1.toNat,1),(t.e2.toNat,1),(N,-3)]
def asc:List Nat->Bool
 |x::y::l=>Nat.blt x y&&asc (y::l)
 |_=>true
def okF(w N:Nat)(F T:List (A3 Int)):Bool:=
 F.all (okT N)&&shut (F.flatMap eds)&&asc (A5 12 ((F.flatMap eds).map cdE))&&Nat.ble F.length 200&&
 (List.range (N+1)).all (fun m=>decide (sM m (F.flatMap (cA w N))=0)&&decide (sM m (F.flatMap (cB w N))=0)&&decide (sM m (F.flatMap (cC w N))=sM m (T.flatMap (upN N))))&&
 (F.flatMap (cA w N)).all (fun p=>Nat.ble p.1 N)&&(F.flatMap (cB w N)).all (fun p=>Nat.ble p.1 N)&&(F.flatMap (cC w N)).all (fun p=>Nat.ble p.1 N)&&(T.flatMap (upN N)).all (fun p=>Nat.ble p.1 N)&&decide (sI (F.map (zI w N))=0)
theorem HR:okF 2 4 (aC 2 2) (cZ 2 1 1)=true:=by kernel_rfl
theorem Jd:okF 2 6 (aC 2 3) (cZ 2 1 2)=true:=by kernel_rfl
theorem IZ:okF 2 8 (aC 2 4) (cZ 2 1 3)=true:=by kernel_rfl
theorem H5:okF 2 10 (aC 2 5) (cZ 2 1 4)=true:=by kernel_rfl
theorem I4:okF 2 12 (aC 2 6) (cZ 2 1 5)=true:=by kernel_rfl
theorem Ix:okF 2 14 (aC 2 7) (cZ 2 1 6)=true:=by kernel_rfl
theorem II:okF 2 16 (aC 2 8) (cZ 2 1 7)=true:=by kernel_rfl
theorem H4:okF 2 18 (aC 2 9) (cZ 2 1 8)=true:=by kernel_rfl
theorem Hu:okF 2 20 (aC 2 10) (cZ 2 1 9)=true:=by kernel_rfl
theorem Hb:okF 2 22 (aC 2 11) (cZ 2 1 10)=true:=by kernel_rfl
theorem Hg:okF 2 24 (aC 2 12) (cZ 2 1 11)=true:=by kernel_rfl
theorem HZ:okF 3 6 (aC 3 2) (cZ 3 2 1)=true:=by kernel_rfl
theorem Iu:okF 3 9 (aC 3 3) (cZ 3 2 2)=true:=by kernel_rfl
theorem IJ:okF 3 12 (aC 3 4) (cZ 3 2 3)=true:=by kernel_rfl
theorem IS:okF 3 15 (aC 3 5) (cZ 3 2 4)=true:=by kernel_rfl
theorem Iy:okF 3 18 (aC 3 6) (cZ 3 2 5)=true:=by kernel_rfl
theorem IC:okF 3 21 (aC 3 7) (cZ 3 2 6)=true:=by kernel_rfl
theorem Ia:okF 3 24 (aC 3 8) (cZ 3 2 7)=true:=by kernel_rfl
theorem HN:okF 4 8 (aC 4 2) (cZ 4 3 1)=true:=by kernel_rfl
theorem IU:okF 4 12 (aC 4 3) (cZ 4 3 2)=true:=by kernel_rfl
theorem HU:okF 4 16 (aC 4 4) (cZ 4 3 3)=true:=by kernel_rfl
theorem Io:okF 4 20 (aC 4 5) (cZ 4 3 4)=true:=by kernel_rfl
theorem IY:okF 4 24 (aC 4 6) (cZ 4 3 5)=true:=by kernel_rfl
theorem HS:okF 5 10 (aC 5 2) (cZ 5 4 1)=true:=by kernel_rfl
theorem IK:okF 5 15 (aC 5 3) (cZ 5 4 2)=true:=by kernel_rfl
theorem ID:okF 5 20 (aC 5 4) (cZ 5 4 3)=true:=by kernel_rfl
theorem I0:okF 5 25 (aC 5 5) (cZ 5 4 4)=true:=by kernel_rfl
theorem Ie:okF 6 12 (aC 6 2) (cZ 6 5 1)=true:=by kernel_rfl
theorem HP:okF 6 18 (aC 6 3) (cZ 6 5 2)=true:=by kernel_rfl
theorem HL:okF 6 24 (aC 6 4) (cZ 6 5 3)=true:=by kernel_rfl
theorem Is:okF 7 14 (aC 7 2) (cZ 7 6 1)=true:=by kernel_rfl
theorem Iz:okF 7 21 (aC 7 3) (cZ 7 6 2)=true:=by kernel_rfl
theorem H3:okF 8 16 (aC 8 2) (cZ 8 7 1)=true:=by kernel_rfl
theorem IQ:okF 8 24 (aC 8 3) (cZ 8 7 2)=true:=by kernel_rfl
theorem I2:okF 9 18 (aC 9 2) (cZ 9 8 1)=true:=by kernel_rfl
theorem GY:okF 10 20 (aC 10 2) (cZ 10 9 1)=true:=by kernel_rfl
theorem G3:okF 11 22 (aC 11 2) (cZ 11 10 1)=true:=by kernel_rfl
theorem Hp:okF 12 24 (aC 12 2) (cZ 12 11 1)=true:=by kernel_rfl
theorem BR{P:Nat->Nat->Prop}(H:∀p∈Gw,P p.1 p.2){w h:Nat}(hw:2<=w)(hh:2<=h)(hm:w*h<=25):P w h:=H _ (Ey hw hh hm)
theorem z6:Gw=[(2,2),(2,3),(2,4),(2,5),(2,6),(2,7),(2,8),(2,9),(2,10),(2,11),(2,12),(3,2),(3,3),(3,4),(3,5),(3,6),(3,7),(3,8),(4,2),(4,3),(4,4),(4,5),(4,6),(5,2),(5,3),(5,4),(5,5),(6,2),(6,3),(6,4),(7,2),(7,3),(8,2),(8,3),(9,2),(10,2),(11,2),(12,2)]:=by decide
theorem tJ{w h:Nat}(hw:2<=w)(hh:2<=h)(hm:w*h<=25):okF w (w*h) (aC w h) (cZ (w:Int) (w-1) (h-1))=true:=by
 refine BR (P:=fun w h=>okF w (w*h) (aC w h) (cZ (w:Int) (w-1) (h-1))=true) ?_ hw hh hm;rw[z6];simp only[List.forall_mem_cons,List.not_mem_nil,false_implies,implies_true,and_true];exact⟨HR,Jd,IZ,H5,I4,Ix,II,H4,Hu,Hb,Hg,HZ,Iu,IJ,IS,Iy,IC,Ia,HN,IU,HU,Io,IY,HS,IK,ID,I0,Ie,HP,HL,Is,Iz,H3,IQ,I2,GY,G3,Hp⟩
end Go.L

