import Derived.Test.YtfclmnpffhbcpaaGreatPldLD
import Derived.Test.YtfclmnpffhbcpaaGreatPl6Plds
import Derived.KernelRfl
import Derived.Test.YtfclmnpffhbcpaaGreatPldL02s
import Derived.Test.YtfclmnpffhbcpaaGreatPldL02p
import Derived.Test.YtfclmnpffhbcpaaGreatPldL02s
import Derived.Test.YtfclmnpffhbcpaaGreatPldL02s
import Derived.Test.YtfclmnpffhbcpaaGreatPl2Plds
import Derived.Test.YtfclmnpffhbcpaaGreatSc10Plds
set_option linter.all false
namespace Go.L
open Go Go.Eng
structure OkS (s:aF):Prop where
 w:1<=s.Width/\s.Width<=1048576
 h:1<=s.Height/\s.Height<=1048576
 lo:-1048576<=s.Low/\s.Low<=1048576
 hi:-1048576<=s.High/\s.High<=1048576
 ac:1<=s.Across/\s.Across<=1048576
 al:1<=s.Along/\s.Along<=1048576
 fo:1<=s.Focal/\s.Focal<=1048576
 ov:0<=s.Overlap/\s.Overlap<=95
 si:0<=s.Sidelap/\s.Sidelap<=95
 vi:1<=s.Views/\s.Views<=16
open Classical in
noncomputable def chk(s:aF):Int:=if OkS s then(if s.Low>s.High then 5 else 0)else 2
theorem nR{s:aF}(h:¬OkS s):chk s=2:=if_neg h
theorem FG{s:aF}(h:OkS s)(k:s.Low>s.High):chk s=5:=by unfold chk;rw[if_pos h,if_pos k]
theorem Ej{s:aF}(h:OkS s)(k:s.Low<=s.High):chk s=0:=by unfold chk;rw[if_pos h,if_neg (by omega)]
theorem En{s:aF}(h:chk s=0):OkS s/\s.Low<=s.High:=by
 unfold chk at h;split at h
 ·rename_i k;split at h
  ·cases h
  ·exact⟨k,by omega⟩
 ·cases h
theorem qK(n:Nat)(a m:Int):fl n a m=some (decide (1<=a/\a<=m)):=by
 unfold fl;by_cases h:a>=1
 ·have:decide (a>=1)=true:=by simpa using h
  rw[this];show some _=_;congr 1;apply decide_eq_decide.2;omega
 ·have:decide (a>=1)=false:=by simpa using h
  rw[this];show some _=_;congr 1;symm;rw[decide_eq_false_iff_not];omega
theorem A8(n:Nat)(a:Int):jk n a=some (decide (0<=a/\a<=95)):=by
 unfold jk;by_cases h:a>=0
 ·have:decide (a>=0)=true:=by simpa using h
  rw[this];show some _=_;congr 1;apply decide_eq_decide.2;omega
 ·have:decide (a>=0)=false:=by simpa using h
  rw[this];show some _=_;congr 1;symm;rw[decide_eq_false_iff_not];omega
def pt(a:Int):Prop:=-1048576<=a/\a<=1048576
instance (a:Int):Decidable (pt a):=inferInstanceAs (Decidable (_/\_))
theorem qZ(n:Nat)(a:Int):fB n a=some (decide (pt a)):=by
 unfold fB;by_cases h:a>= -1048576
 ·have:decide (a>= -1048576)=true:=by simpa using h
  rw[this];show some _=_;congr 1;apply decide_eq_decide.2;unfold pt;omega
 ·have:decide (a>= -1048576)=false:=by simpa using h
  rw[this];show some _=_;congr 1;symm;rw[decide_eq_false_iff_not];unfold pt;omega
theorem kF{p:Prop}[Decidable p](h:(!decide p)=true):¬p:=by simpa using h
theorem mU{p:Prop}[Decidable p](h:(!decide p)=false):p:=by simpa using h
theorem FF(n:Nat)(s:aF):nD n s=some (chk s):=by
 apply Ok.eq;unfold nD;refine Ok.bde (qK ..) (Ok.cd (fun h=>aC.2 (nR fun k=>kF h k.w).symm) (fun h1=>?_));refine Ok.bde (qK ..) (Ok.cd (fun h=>aC.2 (nR fun k=>kF h k.h).symm) (fun q=>?_));refine Ok.bde (qZ ..) (Ok.cd (fun h=>aC.2 (nR fun k=>kF h k.lo).symm) (fun z=>?_));refine Ok.bde (qZ ..) (Ok.cd (fun h=>aC.2 (nR fun k=>kF h k.hi).symm) (fun C=>?_));refine Ok.bde (qK ..) (Ok.cd (fun h=>aC.2 (nR fun k=>kF h k.ac).symm) (fun D=>?_));refine Ok.bde (qK ..) (Ok.cd (fun h=>aC.2 (nR fun k=>kF h k.al).symm) (fun E=>?_));refine Ok.bde (qK ..) (Ok.cd (fun h=>aC.2 (nR fun k=>kF h k.fo).symm) (fun I=>?_));refine Ok.bde (A8 ..) (Ok.cd (fun h=>aC.2 (nR fun k=>kF h k.ov).symm) (fun J=>?_));refine Ok.bde (A8 ..) (Ok.cd (fun h=>aC.2 (nR fun k=>kF h k.si).symm) (fun N=>?_));refine Ok.bde (qK ..) (Ok.cd (fun h=>aC.2 (nR fun k=>kF h k.vi).symm) (fun j=>?_));have ok:OkS s:=⟨mU h1,mU q,mU z,mU C,mU D,mU E,mU I,mU J,mU N,mU j⟩;exact Ok.cd (fun h=>aC.2 (FG ok (dcT h)).symm) (fun h=>aC.2 (Ej ok (by have:=dcF h;omega)).symm)
def far(a:Int):Bool:=!decide (pt a)
theorem Ch{a:Int}:far a=true↔¬pt a:=by unfold far;rw[Bool.not_eq_true',decide_eq_false_iff_not]
theorem wN{a:Int}:far a=false↔pt a:=by unfold far;rw[Bool.not_eq_false',decide_eq_true_eq]
theorem EG{a b:Int}(j:0<=a/\a<=2097152)(q:1<=b/\b<=1048576):0<=a*b/\a*b<=2199023255552:=by
 have h1:=Int.mul_le_mul j.2 q.2 (by omega) (by omega);have z:=Int.mul_nonneg j.1 (by omega:0<=b);omega
end Go.L


set_option linter.all false
namespace Go.L
open Go Go.Eng
theorem xf{s:aF}(ok:OkS s){j ground a:Int}(h1:pt j)(C:pt ground)(D:¬j<=ground)(z:1<=a/\a<=1048576):
  Hy (a*Hy (j-ground))=a*(j-ground)/\1<=a*(j-ground)/\a*(j-ground)<=2199023255552:=by
 unfold pt at h1 C;have e:=wrap64_in (n:=j-ground) (by omega) (by omega);have p:=EG (a:=j-ground) (b:=a) (by omega) z;rw[Int.mul_comm]at p;have q:=Int.mul_le_mul z.1 (show 1<=j-ground by omega) (by omega) (by omega);rw[e,wrap64_in (by omega) (by omega)];exact⟨rfl,by omega,by omega⟩
end Go.L


set_option linter.all false
namespace Go.L
open Go Go.Eng
def ra(num den:Int):Int:=num / (2*den)
def rb(N num den:Int):Int:=N-num / (2*den)
end Go.L


set_option linter.all false
namespace Go.L
open Go Go.Eng
theorem getD_eq{α:Type}[Inhabited α]{l:List α}{k:Nat}(h:k<l.length):l.getD k default=l[k]:=by simp[List.getD,h]
theorem jI{α:Type}[Inhabited α]{l:List α}{k:Nat}(h:k<l.length):l.take (k+1)=l.take k++[l.getD k default]:=by
 rw[getD_eq h,List.take_succ_eq_append_getElem h]
end Go.L


set_option linter.all false
namespace Go.L
open Go Go.Eng
def fsz(x:aK):Nat:=(1+(((x.Strips.map fun z=>((z.map fun z=>(1+(1+0))).sum+1)).sum+1)+0))
def pts(f:aK):List aE:=f.Strips.flatten
theorem Fc(l:List aE):(l.map fun _=>(1+(1+0))).sum=2*l.length:=by
 induction l with
 |nil=>rfl
 |cons x l j=>rw[List.map_cons,List.sum_cons,j,List.length_cons];omega
theorem By(ls:List (List aE)):ls.length+2*ls.flatten.length<=(ls.map fun z=>((z.map fun z=>(1+(1+0))).sum+1)).sum:=by
 induction ls with
 |nil=>simp
 |cons l ls j=>rw[List.map_cons,List.sum_cons,Fc,List.flatten_cons,List.length_append,List.length_cons];omega
theorem yA{f:aK}(h:fsz f<=1048576):(pts f).length<=1048576/\f.Strips.length<=1048576:=by
 have:=By f.Strips;unfold fsz at h;unfold pts;omega
theorem jF(ls:List (List aE)){k:Nat}(hk:k<ls.length):(ls.take (k+1)).flatten=(ls.take k).flatten++ls.getD k default:=by
 rw[jI hk,List.flatten_append];simp
theorem zu(ls:List (List aE))(k:Nat):(ls.take k).flatten.length<=ls.flatten.length:=by
 have:ls.flatten=(ls.take k).flatten++(ls.drop k).flatten:=by rw[<-List.flatten_append,List.take_append_drop]
 rw[this,List.length_append];omega
theorem sR(ls:List (List aE)){k:Nat}(hk:k<ls.length):(ls.take k).flatten.length+(ls.getD k default).length<=ls.flatten.length:=by
 have:=zu ls (k+1);rw[jF ls hk,List.length_append]at this;exact this
def tA(p:aE):Bool:=far p.X||far p.Y
def xy(f:aK):Int:=if far f.Height||(pts f).any tA then 2 else if (pts f).length>256 then 3 else 0
theorem Ew(ls:List (List aE))(p:aE->Bool):(∀k,k<ls.length->(ls.getD k default).any p=false)->ls.flatten.any p=false:=by
 intro h;rw[List.any_eq_false];intro x q;obtain⟨l,z,j⟩:=List.mem_flatten.1 q;obtain⟨k,hk,rfl⟩:=List.getElem_of_mem z;have:=h k hk;rw[getD_eq hk,List.any_eq_false]at this;exact this x j
theorem Bg(ls:List (List aE))(p:aE->Bool){k:Nat}(hk:k<ls.length)(h:(ls.getD k default).any p=true):ls.flatten.any p=true:=by
 rw[getD_eq hk]at h;obtain⟨x,j,hp⟩:=List.any_eq_true.1 h;exact List.any_eq_true.2 ⟨x,List.mem_flatten.2 ⟨_,List.getElem_mem hk,j⟩,hp⟩
theorem GX{k:Nat}(h:k<=100000000):Hy ((k:Int)+1)=((k+1:Nat):Int):=by rw[wrap64_in (by omega) (by omega)];omega
end Go.L


set_option linter.all false
namespace Go.L
open Go Go.Eng
noncomputable def za(s:aF)(f:aK)(ground:Int):Int:=
 if chk s≠0 then chk s else if xy f≠0 then xy f else if far ground then 2 else if f.Height<=ground then 20 else 0
end Go.L


set_option linter.all false
namespace Go.L
open Go Go.Eng
def kpZ(s:List Int):Nat->List Int
 |0=>[]
 |t+1=>if t=0\/s.getD t default≠s.getD (t-1) default then kpZ s t++[s.getD t default]else kpZ s t
theorem zE{s:List Int}:∀t,(kpZ s t).length<=t
 |0=>Nat.le_refl _
 |t+1=>by
  unfold kpZ;have:=zE (s:=s) t;split
  ·simp;omega
  ·omega
theorem Co{s:List Int}:∀t,0<t->0<(kpZ s t).length
 |1,_=>by simp[kpZ]
 |t+2,_=>by
  have:=Co (s:=s) (t+1) (by omega);rw[kpZ];split
  ·simp
  ·exact this
theorem sE{l:List Int}{k:Nat}(h:k<l.length):l.getD k default∈l:=by
 rw[List.getD_eq_getElem?_getD,geT h];exact List.getElem_mem h
theorem DY{s:List Int}{x:Int}(h:x∈s):∃j,j<s.length/\s.getD j default=x:=by
 obtain⟨j,q,e⟩:=List.getElem_of_mem h;exact⟨j,q,by simp[List.getD,geT q,e]⟩
theorem wz{s:List Int}{k:Nat}(hk:k<s.length):s.take (k+1)=s.take k++[s.getD k default]:=by
 rw[List.take_add_one,List.getD_eq_getElem?_getD,geT hk];rfl
theorem Eb:∀{s:List Int},s.Pairwise (fun a b=>a<=b)->∀i j,i<j->j<s.length->s.getD i default<=s.getD j default
 |[],_,i,j,_,h=>by simp at h
 |a::s,h,0,j+1,_,q=>(List.pairwise_cons.1 h).1 _ (sE (by simpa using q))
 |a::s,h,i+1,j+1,z,q=>Eb (s:=s) (List.pairwise_cons.1 h).2 i j (by omega) (by simpa using q)
theorem D5{s:List Int}(hs:s.Pairwise (fun a b=>a<=b)):∀t,t<=s.length->(kpZ s t).Pairwise (fun a b=>a<b)/\(∀x,x∈kpZ s t↔x∈s.take t)/\(∀x,x∈kpZ s t->∀j,t<=j+1->j<s.length->x<=s.getD j default)
 |0,_=>⟨.nil,by simp[kpZ],fun x h=>by cases h⟩
 |t+1,N=>by
  obtain⟨h1,E,I⟩:=D5 hs t (by omega);have hle:∀x,x∈kpZ s t->x<=s.getD t default:=fun x q=>by
   have:=I x q (t-1) (by omega) (by omega);rcases Nat.eq_zero_or_pos t with C|C
   ·subst C;cases q
   ·have:=Eb hs (t-1) t (by omega) (by omega);omega
  have D:∀j,t+1<=j+1->j<s.length->s.getD t default<=s.getD j default:=fun j h D=>by
   rcases Nat.eq_or_lt_of_le (show t<=j by omega)with e|e
   ·subst e;exact Int.le_refl _
   ·exact Eb hs t j e D
  have hm:∀x,x∈s.take (t+1)↔x∈s.take t\/x=s.getD t default:=fun x=>by rw[wz (by omega)];simp
  rw[kpZ];by_cases hk:t=0\/s.getD t default≠s.getD (t-1) default
  ·rw[if_pos hk];refine⟨List.pairwise_append.2 ⟨h1,by simp,fun x q y J=>?_⟩,fun x=>by rw[hm,<-E];simp,fun x q j h z=>?_⟩
   ·obtain rfl:y=s.getD t default:=by simpa using J
    rcases Nat.eq_zero_or_pos t with C|C
    ·subst C;cases q
    ·have O:=I x q (t-1) (by omega) (by omega);have a2:=Eb hs (t-1) t (by omega) (by omega);have a3:=hk.resolve_left (by omega);omega
   ·rcases List.mem_append.1 q with q|q
    ·have:=hle x q;have:=D j h z;omega
    ·obtain rfl:x=s.getD t default:=by simpa using q
     exact D j h z
  ·rw[if_neg hk];have C:t≠0:=fun h=>hk (.inl h)
   have he:s.getD t default=s.getD (t-1) default:=Decidable.byContradiction fun h=>hk (.inr h)
   refine⟨h1,fun x=>?_,fun x q j h z=>?_⟩
   ·rw[hm,<-E];constructor
    ·exact .inl
    ·rintro(h|h)
     ·exact h
     ·rw[h,he];refine(E _).2 ?_;have e:t=t-1+1:=by omega
      rw[e,wz (by omega)];simp
   ·have:=hle x q;have:=D j h z;omega
end Go.L


set_option linter.all false
namespace Go.L
open Go Go.Eng
def yw(x:Nat):Nat:=(List.range 12).countP fun k=>x.testBit k
def GZ:Bool:=(List.range 12).all fun k=>(List.range (2^k)).all fun c=>nY .or .u64 (c:Int) (vS .u64 1 (k:Int))==((c+2^k:Nat):Int)
theorem F5:GZ=true:=by kernel_rfl
def Dv:Bool:=(List.range 4096).all fun x=>fg 0 (x:Int)==some ((yw x:Nat):Int)
theorem D4:Dv=true:=by kernel_rfl
end Go.L


set_option linter.all false
namespace Go.L
open Go Go.Eng
def nc(f:Nat->Bool):Nat->Nat
 |0=>0
 |k+1=>nc f k+if f k then 2^k else 0
theorem su(f:Nat->Bool):∀k,nc f k<2^k
 |0=>by simp[nc]
 |k+1=>by
  have:=su f k;rw[nc,Nat.pow_succ];split<;>omega
theorem vO(f:Nat->Bool)(j:Nat):∀k,(nc f k).testBit j=(decide (j<k)&&f j)
 |0=>by simp[nc]
 |k+1=>by
  have D:=su f k;have z:=vO f j k;rw[nc];cases C:f k with
  |false=>
   simp only[Bool.false_eq_true,if_false,Nat.add_zero];rw[z];by_cases q:j=k
   ·subst q;simp[C]
   ·have:decide (j<k)=decide (j<k+1):=by rw[decide_eq_decide];omega
    rw[this]
  |true=>
   simp only[if_true];rw[Nat.add_comm];by_cases q:j=k
   ·subst q;rw[Nat.testBit_two_pow_add_eq,z];simp[C]
   ·rcases Nat.lt_or_ge j k with h|h
    ·rw[Nat.testBit_two_pow_add_gt h,z];have:decide (j<k)=decide (j<k+1):=by rw[decide_eq_decide];omega
     rw[this]
    ·have h1:(2^k+nc f k).testBit j=false:=by
      apply Nat.testBit_lt_two_pow;have:2^(k+1)<=2^j:=Nat.pow_le_pow_right (by omega) (by omega);rw[Nat.pow_succ]at this;omega
     rw[h1];simp;intro E;omega
theorem Hs{k c:Nat}(hk:k<12)(hc:c<2^k):nY .or .u64 (c:Int) (vS .u64 1 (k:Int))=((c+2^k:Nat):Int):=by
 have h:=F5;unfold GZ at h;rw[List.all_eq_true]at h;have h:=h k (List.mem_range.2 hk);rw[List.all_eq_true]at h;exact beq_iff_eq.1 (h c (List.mem_range.2 hc))
theorem Gz{a b:Nat}(j:a<4096)(z:b<4096):nY .and .u64 (a:Int) (b:Int)=((a &&& b:Nat):Int):=by
 have q:a &&& b<4096:=Nat.lt_of_le_of_lt Nat.and_le_left j;unfold nY;have e:(BitVec.ofInt 64 (a:Int) &&& BitVec.ofInt 64 (b:Int)).toNat=a &&& b:=by
  rw[BitVec.toNat_and,BitVec.ofInt_natCast,BitVec.ofInt_natCast,BitVec.toNat_ofNat,BitVec.toNat_ofNat,Nat.mod_eq_of_lt (by omega),Nat.mod_eq_of_lt (by omega)]
 show IntKind.u64.wrap ((BitVec.ofInt 64 (a:Int) &&& BitVec.ofInt 64 (b:Int)).toNat:Int)=_;rw[e,<-ke,aO (by omega) (by omega)]
theorem Ey{n x:Nat}(h:x<4096):fg n (x:Int)=some ((yw x:Nat):Int):=by
 have k:=D4;unfold Dv at k;rw[List.all_eq_true]at k;exact beq_iff_eq.1 (k x (List.mem_range.2 h))
theorem a4z(a:Int){k:Nat}(j:k≠0)(hk:k<4):A4.get (A4.mk a 0 0 0) (k:Int)=0:=by
 rcases (by omega:k=1\/k=2\/k=3)with h|h|h<;>subst h<;>rfl
theorem DC{n a b:Nat}(J:10<n)(C:a<4096)(E:b<4096):mi n (A4.mk (a:Int) 0 0 0) (A4.mk (b:Int) 0 0 0)=some ((yw (a &&& b):Nat):Int):=by
 have q:a &&& b<4096:=Nat.lt_of_le_of_lt Nat.and_le_left C;have hp:yw (a &&& b)<=12:=Nat.le_trans List.countP_le_length (by simp);apply Ok.eq;unfold mi;refine Ok.bd (R:=fun o=>o=((yw (a &&& b):Nat):Int)) ?_ (fun o I=>aC.2 I);have z:nY .and .u64 0 0=0:=by kernel_rfl
 have z2:fg n 0=some 0:=Ey (n:=n) (x:=0) (by omega);refine eh (len:=4) (fun k (c:Int)=>c=if k=0 then 0 else((yw (a &&& b):Nat):Int)) (by omega) (by omega) rfl ?_ ?_
 ·rintro again k c hk rfl D;refine Ok.cd (fun _=>?_) (fun h=>by simp at h;omega);refine Ok.gd (by rw[bm];simpa using hk) ?_;by_cases j:k=0
  ·subst j;have e1:A4.get (A4.mk (a:Int) 0 0 0) ((0:Nat):Int)=(a:Int):=rfl;have e2:A4.get (A4.mk (b:Int) 0 0 0) ((0:Nat):Int)=(b:Int):=rfl;rw[e1,e2,Gz C E];refine Ok.bde (Ey q) ?_;rw[if_pos rfl,Int.zero_add,wrap64_in (n:=((yw (a &&& b):Nat):Int)) (by omega) (by omega)];exact D _ (if_neg (by omega)).symm
  ·rw[a4z _ j hk,a4z _ j hk,z];refine Ok.bde z2 ?_;rw[if_neg j,Int.add_zero,wrap64_in (n:=((yw (a &&& b):Nat):Int)) (by omega) (by omega)];exact D _ (if_neg (by omega)).symm
 ·rintro again c rfl;exact Ok.cd (fun h=>by simp at h) (fun _=>aC.2 rfl)
theorem Du(f g:Nat->Bool){m:Nat}(hm:m<=12):yw (nc f m &&& nc g m)=(List.range m).countP fun k=>f k&&g k:=by
 unfold yw;have e:∀k,(nc f m &&& nc g m).testBit k=(decide (k<m)&&(f k&&g k)):=fun k=>by
  rw[Nat.testBit_and,vO,vO];cases decide (k<m)<;>simp
 rw[List.countP_congr (q:=fun k=>decide (k<m)&&(f k&&g k)) (fun k _=>by rw[e])];obtain⟨d,j⟩:∃d,12=m+d:=⟨12-m,by omega⟩;rw[j,List.range_add,List.countP_append];have z:List.countP (fun k=>decide (k<m)&&(f k&&g k)) ((List.range d).map (m+·))=0:=by
  rw[List.countP_eq_zero];intro x C;obtain⟨y,_,rfl⟩:=List.mem_map.1 C;have:decide (m+y<m)=false:=decide_eq_false (by omega);rw[this];simp
 rw[z,Nat.add_zero];exact List.countP_congr fun k hk=>by simp[List.mem_range.1 hk]
end Go.L

