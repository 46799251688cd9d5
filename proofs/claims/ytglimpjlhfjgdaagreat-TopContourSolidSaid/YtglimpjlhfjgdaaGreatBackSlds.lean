import Derived.RangeFuncBox
import Derived.RangeFuncLeaves
import Derived.RangeFuncCalls
import Derived.Shelf.Abstract
import Derived.WalkKit
import Derived.OwnWalkIn
import Derived.TacticsInMore
import Derived.LoopNIn
import Derived.LoopIn
import Derived.Test.YtglimpjlhfjgdaaGreatChecked
import Derived.Test.YtglimpjlhfjgdaaGreatEng14Slds
set_option linter.all false
namespace Go.Proofs.YtglimpjlhfjgdaaGreat
open Go Go.RowKit Go.Shelf Go.Proofs
attribute [local go_sem] Oper.semAt_some
def upto{α:Type}(f:Nat->α)(k:Nat):List α:=(List.range k).map f
theorem uS{α:Type}(f:Nat->α)(k:Nat):upto f (k+1)=upto f k++[f k]:=by simp[upto,List.range_succ]
theorem AI{α:Type}(f:Nat->α)(k:Nat):(upto f k).length=k:=by simp[upto]
def bw(zs:List Int)(j:Nat):Nat×Int:=(zs.length-1-j,zs[zs.length-1-j]?.getD 0)
def zu(q:IntKind)(n₀:Nat)(W:World)(sv:Value)(zs:List Int):Prop:=
 ((∃a cap,sv=.slice a 0 cap)/\zs=[])\/∃b off cap,sv=.slice (some ⟨b,off,none⟩) zs.length cap/\(zs≠[]->b<n₀)/\∀j,j<zs.length->W.cell? ⟨b,off+j,none⟩=some (.int q (zs[j]?.getD 0))
theorem zu.below{q:IntKind}{n₀:Nat}{A B:World}(h:Below n₀ A B){sv:Value}{zs:List Int}:zu q n₀ A sv zs->zu q n₀ B sv zs
 |.inl e=>.inl e
 |.inr ⟨b,off,cap,e,hb,hc⟩=>.inr ⟨b,off,cap,e,hb,fun j hj=>(h.cell (p:=⟨b,off+j,none⟩) (hb (by rintro rfl;simp at hj))).trans (hc j hj)⟩
def KB(n₀ Bs:Nat)(W W':World):Prop:=Below n₀ W W'/\W'.cell? ⟨Bs,0,none⟩=W.cell? ⟨Bs,0,none⟩
theorem KB.refl(n₀ Bs:Nat)(W:World):KB n₀ Bs W W:=⟨Below.refl _ _,rfl⟩
theorem KB.trans{n₀ Bs:Nat}{A B C:World}(h:KB n₀ Bs A B)(k:KB n₀ Bs B C):KB n₀ Bs A C:=⟨h.1.trans k.1,k.2.trans h.2⟩
theorem KB.putObj{n₀ Bs:Nat}{w:World}(hn:n₀<=w.heap.size)(hb:Bs<w.heap.size)(W:World)(l:Nat)(o o':Obj)(hl:w.heap.size<=l)(h:W.heap[l]?=some o)(h1:o.isCells=false)(h2:o.isWalk=false):KB n₀ Bs W (W.putObj l o'):=
 ⟨belowK_b hn W l o o' hl h h1 h2,(belowK_b (n₀:=Bs+1) (w:=w) (by omega) W l o o' hl h h1 h2).cell (p:=⟨Bs,0,none⟩) (Nat.lt_succ_self _)⟩
set_option maxRecDepth 100000 in
set_option maxHeartbeats 2000000 in
theorem Fm(F:Fence)(n:Nat)(hf:F.fn 189)(hro:F.round=none)(hn:1<=n)(l Bs n₀ b off cap:Nat)(zs:List Int)(hreach:zs.length<=1099511627776)(hb:zs≠[]->b<n₀){α:Type}(g:Nat->α)(encs:α->Array Value)(hg:∀j,j<zs.length->encs (g j)=#[.int .i64 ((zs.length-1-j:Nat):Int),.int .u32 (zs[zs.length-1-j]?.getD 0)])(J Jx:List α->World->Prop)
  (hY:∀pre x W,J pre W->pre.length<zs.length->YieldAt F (n-1) Tryz.prog l (encs x) W fun e W'=>
   (e=.returned (.bool true)/\J (pre++[x]) W'/\KB n₀ Bs W W')\/(e=.returned (.bool false)/\Jx (pre++[x]) W'))
  (W:World) (hBs:W.cell? ⟨Bs,0,none⟩=some (.slice (some ⟨b,off,none⟩) zs.length cap)) (hc:∀j,j<zs.length->W.cell? ⟨b,off+j,none⟩=some (.int .u32 (zs[j]?.getD 0))) (h0:J [] W):
  CallsIn F n Tryz.prog 189 #[.func (.yield l) #[] #[],.pointer (some ⟨Bs,0,none⟩)] W fun e W'=>(∃v,e=.returned v)/\
   ((∃ys,ys=upto g zs.length/\J ys W')\/(∃pre,(∃k,k<=zs.length/\pre=upto g k)/\Jx pre W')):=by
 refine callsIn_of_wp Tryz.func189 rfl hf ?_ hro;simp only[Tryz.ntmps189,List.size_toArray,List.length_cons,List.length_nil,Nat.reduceAdd,Nat.reduceSub,Array.replicate_succ,Array.replicate_zero,List.push_toArray,List.append_toArray,List.nil_append,List.cons_append]
 gi_wp2
 gi_loopw [3] (fun i wr=>∃k:Nat,k<=zs.length/\i=.int .i64 ((zs.length:Int)-1-k)/\J (upto g k) wr/\KB n₀ Bs W wr)
  (fun i _=>(intOf i+1).toNat)
 case atStart=>exact⟨0,Nat.zero_le _,by first|rfl|simp,h0,KB.refl _ _ _⟩
 case round=>
  obtain⟨k,hk,rfl,hJs,hnx⟩:=hrel;by_cases hlt:k<zs.length
  ·have hne:zs≠[]:=by rintro rfl;simp at hlt
   have hcx:wr.cell? ⟨b,off+(zs.length-1-k),none⟩=some (.int .u32 (zs[zs.length-1-k]?.getD 0)):=(hnx.1.cell (p:=⟨b,off+(zs.length-1-k),none⟩) (hb hne)).trans (hc _ (by omega));have hBs':=hnx.2.trans hBs;obtain⟨fn,tmps,assign,body,hy,hR⟩:=hY _ (g k) wr hJs (by rw[AI];exact hlt);have hi:((zs.length:Int)-1-k)=((zs.length-1-k:Nat):Int):=by omega
   rw[hg k hlt]at hy;rw[hi]
   gi_wp2
   refine hR.mono ?_;rintro e W3 (⟨rfl,hJ3,hk3⟩|⟨rfl,hJx3⟩)
   ·gi_wp2
    go_roundw
    case rel=>exact⟨k+1,by omega,by (congr 1;omega),by rw[uS];exact hJ3,hnx.trans hk3⟩
    case measure=>(simp only[intOf,List.getD_eq_getElem?_getD];first|omega|(simp;done)|(simp;omega))
   ·gi_wp2
    refine bodyPost_ret (results_none rfl _ _ _) rfl ?_;exact⟨⟨_,rfl⟩,.inr ⟨_,⟨k+1,by omega,(uS _ _).symm⟩,hJx3⟩⟩
  ·obtain rfl:k=zs.length:=by omega
   have hi:((zs.length:Int)-1-zs.length)=-1:=by omega
   rw[hi]
   gi_wp2
   go_end0
   exact⟨⟨_,rfl⟩,.inl ⟨_,rfl,hJs⟩⟩
set_option maxRecDepth 100000 in
set_option maxHeartbeats 1000000 in
theorem yX(F:Fence)(n:Nat)(hf:F.fn 189)(hro:F.round=none)(l Bs:Nat){α:Type}(J:List α->World->Prop)(W:World){a:Option Addr}{cap:Nat}(hBs:W.cell? ⟨Bs,0,none⟩=some (.slice a 0 cap))(h0:J [] W):
  CallsIn F n Tryz.prog 189 #[.func (.yield l) #[] #[],.pointer (some ⟨Bs,0,none⟩)] W fun e W'=>(∃v,e=.returned v)/\J [] W':=by
 refine callsIn_of_wp Tryz.func189 rfl hf ?_ hro;simp only[Tryz.ntmps189,List.size_toArray,List.length_cons,List.length_nil,Nat.reduceAdd,Nat.reduceSub,Array.replicate_succ,Array.replicate_zero,List.push_toArray,List.append_toArray,List.nil_append,List.cons_append]
 gi_wp2
 gi_loopw [3] (fun i wr=>i=.int .i64 (-1)/\J [] wr) (fun _ _=>0)
 case atStart=>exact⟨rfl,h0⟩
 case round=>
  obtain⟨rfl,hJs⟩:=hrel
  gi_wp2
  go_end0
  exact⟨⟨_,rfl⟩,hJs⟩
set_option maxHeartbeats 1000000 in
theorem zF(F:Fence)(n:Nat)(hf:F.fn 155)(hro:F.round=none)(a:Option Addr)(len cap:Nat)(w:World):
  CallsIn F n Tryz.prog 155 #[.slice a len cap] w fun e w'=>e=.returned (.func (.func 189) #[] #[.pointer (some ⟨w.heap.size,0,none⟩)])/\w'=w.alloc (.cells #[.slice a len cap] 29):=by
 refine callsIn_of_wp Tryz.func155 rfl hf ?_ hro;simp only[Tryz.ntmps155,List.size_toArray,List.length_cons,List.length_nil,Nat.reduceAdd,Nat.reduceSub,Array.replicate_succ,Array.replicate_zero,List.push_toArray,List.append_toArray,List.nil_append,List.cons_append]
 gi_wp2
 go_ret
 exact⟨rfl,rfl⟩
theorem rM(F:Fence)(n:Nat)(hf:F.fn 189)(hro:F.round=none)(hn:1<=n)(Bs n₀:Nat)(sv:Value)(zs:List Int)(hreach:zs.length<=1099511627776){α:Type}(g:Nat->α)(encs:α->Array Value)(hg:∀j,j<zs.length->encs (g j)=#[.int .i64 ((zs.length-1-j:Nat):Int),.int .u32 (zs[zs.length-1-j]?.getD 0)])(w:World)(hBl:Bs<w.heap.size)(hn₀:n₀<=w.heap.size)
  (hc:w.cell? ⟨Bs,0,none⟩=some sv) (hI:zu .u32 n₀ w sv zs):
  SeqStopsK F n Tryz.prog 189 #[.pointer (some ⟨Bs,0,none⟩)] encs (KB n₀ Bs) (fun ys=>ys=upto g zs.length)
   (fun pre=>∃k,k<=zs.length/\pre=upto g k) zs.length w:=fun l J Jx W hW _ _ hY h0=>by
 have hc':=(hW.cell (p:=⟨Bs,0,none⟩) hBl).trans hc;rcases hI.below (hW.mono hn₀)with⟨⟨a0,cap0,rfl⟩,rfl⟩|⟨b,off,cap,rfl,hb,hcs⟩
 ·exact(yX F n hf hro l Bs J W hc' h0).mono fun e W' ⟨he,hj⟩=>⟨he,.inl ⟨_,rfl,hj⟩⟩
 ·exact Fm F n hf hro hn l Bs n₀ b off cap zs hreach hb g encs hg J Jx hY W hc' hcs h0
def qj:List Int->Int:=List.foldl (fun s v=>IntKind.u64.wrap (IntKind.u64.wrap (s*1000000000)+IntKind.u64.wrap v)) 0
theorem Cb(l:List Int)(x:Int):qj (l++[x])=IntKind.u64.wrap (IntKind.u64.wrap (qj l*1000000000)+IntKind.u64.wrap x):=by simp[qj]
set_option maxRecDepth 100000 in
set_option maxHeartbeats 2000000 in
theorem HT(F:Fence)(n:Nat)(h1:F.fn 149)(h2:F.fn 155)(h3:F.fn 189)(hro:F.round=none)(hn:3<=n)(a:Option Addr)(len cap:Nat)(zs:List Int)
  (hreach:zs.length<=1099511627776) (w:World) (hI:zu .u32 w.heap.size w (.slice a len cap) zs) (hlen:len=zs.length):
  CallsIn F n Tryz.prog 149 #[.slice a len cap] w fun e W'=>
   (e=.returned (if zs.length>2 then .tuple #[.int .u64 0,.bool false]else .tuple #[.int .u64 (qj ((upto (bw zs) zs.length).map (·.2))),.bool true]))/\Below w.heap.size w W':=by
 have hn1:1<=n:=by omega
 subst hlen;refine callsIn_of_wp_marks Tryz.func149 rfl h1 ?_ hro;simp only[Tryz.ntmps149,List.size_toArray,List.length_cons,List.length_nil,Nat.reduceAdd,Nat.reduceSub,Array.replicate_succ,Array.replicate_zero,List.push_toArray,List.append_toArray,List.nil_append,List.cons_append]
 gi_wp2_with (gi_at_call 155;refine(zF F (n-1) h2 hro _ _ _ _).mono ?_;rintro e w' ⟨rfl,rfl⟩)
 case inl=>
  refine⟨_,?_,rfl,Below.refl _ _⟩;simp[results,Tryz.f149,go_sem]
 have h:¬zs.length>2:=by omega
 have bS:=Boxed.new w 105 (.int .u64 0);have bN:=Boxed.new (w.alloc (.cells #[.int .u64 0] 105)) 29 (.slice a zs.length cap);rw[World.size_alloc]at bN;have hB0:Below w.heap.size w ((w.alloc (.cells #[.int .u64 0] 105)).alloc (.cells #[.slice a zs.length cap] 29)):=((Below.refl _ w).alloc (Nat.le_refl _) _).alloc (by simp) _;refine wpIn_rangeFunc_ownF hro hn1 (gf:=189) (lb:=#[.pointer (some ⟨w.heap.size+1,0,none⟩)]) rfl h3 (enters_of Tryz.func189 (by kernel_rfl) rfl)
  (rM F (n-1) h3 hro (by omega) (w.heap.size+1) w.heap.size _ zs hreach (bw zs) (fun x:Nat×Int=>#[Value.int .i64 (x.1:Int),Value.int .u32 x.2]) (fun j _=>rfl) _ (by simp) (by simp;omega) bN.cell (hI.below hB0)) KB.trans (KB.putObj (by simp;omega) (by simp)) (Below.refl _ _) (fun _=>rfl)
  (fun pre W=>(W.cell? ⟨w.heap.size,0,none⟩=some (.int .u64 (qj (pre.map (·.2))))/\W.frozen? ⟨w.heap.size,0,none⟩=false)/\Below w.heap.size w W)
  (fun _ _ _=>False)
  (OwnFrom.and (Own.from (fun s A B row hs hg hr=>⟨cell_kept hs.1 hg hr,(frozen_kept hs.1 hg hr).trans hs.2⟩) _) (ownFrom_below (Nat.le_refl _) (by simp;omega)))
  (fun _ _ _ _ _ hs _ _=>hs)
  ⟨⟨(bS.alloc _).cell,(bS.alloc _).frozen⟩,hB0⟩
  (fun x=>{tmps:=#[.slice a zs.length cap,undef,.int .u64 0,.bool false,.pointer (some ⟨w.heap.size,0,none⟩),undef,.int .u32 x.2,.slice a zs.length cap,.int .i64 zs.length,.bool (decide ((2:Int)<zs.length)),.slice a zs.length cap,.func (.func 189) #[] #[.pointer (some ⟨w.heap.size+1,0,none⟩)],.int .i64 (x.1:Int),.int .u32 x.2,undef,undef,undef,undef,undef,undef],defers:=[]}) ?assign ?body ?done ?stop
 case assign=>
  intro l x W K hK
  gi_wp2
  exact hK
 case body=>
  rintro l pre x W ⟨⟨hc,hf⟩,hB⟩ _
  gi_wp2
  exact⟨KeepsOthers.setCell _ _ _,⟨(Below.refl w.heap.size W).setCell (p:=⟨w.heap.size,0,none⟩) (Nat.le_refl _) _,World.cell?_setCell_other _ _ _ _ (by simp)⟩,⟨by rw[List.map_append,List.map_cons,List.map_nil,Cb];exact World.cell?_setCell_same' _ _ _ (by rw[hc];rfl),by rw[World.frozen?_setCell];exact hf⟩,hB.setCell (p:=⟨w.heap.size,0,none⟩) (Nat.le_refl _) _⟩
 case done=>
  rintro D ys W hD rfl ⟨⟨hc,_⟩,hB⟩ hK
  gi_wp2
  refine⟨by simp,.inl ⟨_,_,rfl,run_takeDeferred hK,?_⟩⟩;refine⟨_,?_,rfl,hB.trans (belowK_b (w:=w) (Nat.le_refl _) W D _ _ (by simp at hD;omega) hK rfl rfl)⟩;simp[results,Tryz.f149,go_sem]
 case stop=>
  rintro D c pre W _ _ h _;exact h.elim
def nC(a b:Int):Int:=if a<b then-1 else if a>b then 1 else 0
set_option maxHeartbeats 1000000 in
theorem HQ(F:Fence)(n:Nat)(hf:F.fn 190)(hro:F.round=none)(x:Int)(w:World):
  CallsIn F n Tryz.prog 190 #[.int .u32 x] w fun e w'=>e=.returned (.bool false)/\w'=w:=by
 refine callsIn_of_wp Tryz.func190 rfl hf ?_ hro;simp only[Tryz.ntmps190,List.size_toArray,List.length_cons,List.length_nil,Nat.reduceAdd,Nat.reduceSub,Array.replicate_succ,Array.replicate_zero,List.push_toArray,List.append_toArray,List.nil_append,List.cons_append]
 gi_wp2
 go_ret
 simp
set_option maxHeartbeats 1000000 in
theorem HV(F:Fence)(n:Nat)(hf:F.fn 188)(hro:F.round=none)(x:Int)(w:World):
  CallsIn F n Tryz.prog 188 #[.int .i64 x] w fun e w'=>e=.returned (.bool false)/\w'=w:=by
 refine callsIn_of_wp Tryz.func188 rfl hf ?_ hro;simp only[Tryz.ntmps188,List.size_toArray,List.length_cons,List.length_nil,Nat.reduceAdd,Nat.reduceSub,Array.replicate_succ,Array.replicate_zero,List.push_toArray,List.append_toArray,List.nil_append,List.cons_append]
 gi_wp2
 go_ret
 simp
set_option maxHeartbeats 2000000 in
theorem Gx(F:Fence)(n:Nat)(hf:F.fn 156)(hf2:F.fn 190)(hro:F.round=none)(hn:1<=n)(x y:Int)(w:World):
  CallsIn F n Tryz.prog 156 #[.int .u32 x,.int .u32 y] w fun e w'=>e=.returned (.int .i64 (nC x y))/\w'=w:=by
 refine callsIn_of_wp Tryz.func156 rfl hf ?_ hro;simp only[Tryz.ntmps156,List.size_toArray,List.length_cons,List.length_nil,Nat.reduceAdd,Nat.reduceSub,Array.replicate_succ,Array.replicate_zero,List.push_toArray,List.append_toArray,List.nil_append,List.cons_append]
 gi_wp2_with (gi_at_call 190;refine(HQ F (n-1) hf2 hro _ _).mono ?_;rintro e w' ⟨rfl,rfl⟩)
 all_goals go_ret
 all_goals (refine⟨?_,rfl⟩;refine congrArg (fun r:Int=>Ending.returned (.int .i64 r)) (a₁:=_) ?_;unfold nC;repeat' split)
 all_goals omega
set_option maxHeartbeats 2000000 in
theorem G7(F:Fence)(n:Nat)(hf:F.fn 154)(hf2:F.fn 188)(hro:F.round=none)(hn:1<=n)(x y:Int)(w:World):
  CallsIn F n Tryz.prog 154 #[.int .i64 x,.int .i64 y] w fun e w'=>e=.returned (.int .i64 (nC x y))/\w'=w:=by
 refine callsIn_of_wp Tryz.func154 rfl hf ?_ hro;simp only[Tryz.ntmps154,List.size_toArray,List.length_cons,List.length_nil,Nat.reduceAdd,Nat.reduceSub,Array.replicate_succ,Array.replicate_zero,List.push_toArray,List.append_toArray,List.nil_append,List.cons_append]
 gi_wp2_with (gi_at_call 188;refine(HV F (n-1) hf2 hro _ _).mono ?_;rintro e w' ⟨rfl,rfl⟩)
 all_goals go_ret
 all_goals (refine⟨?_,rfl⟩;refine congrArg (fun r:Int=>Ending.returned (.int .i64 r)) (a₁:=_) ?_;unfold nC;repeat' split)
 all_goals omega
def C8(xs ys:List Int)(r:Int):Prop:=
 ((∀j:Nat,j<xs.length->xs[j]?.getD 0=ys[j]?.getD 0)/\r=0)\/
 ∃j:Nat,j<xs.length/\xs[j]?.getD 0≠ys[j]?.getD 0/\(∀i:Nat,j<i->i<xs.length->xs[i]?.getD 0=ys[i]?.getD 0)/\r=nC (xs[j]?.getD 0) (ys[j]?.getD 0)
def pP:List Int->List Int->Int
 |x::xs,y::ys=>if pP xs ys≠0 then pP xs ys else nC x y
 |_,_=>0
theorem Ea(x:Int):nC x x=0:=by simp[nC]
theorem Hp{x y:Int}(h:x≠y):nC x y≠0:=by
 unfold nC;split
 ·omega
 ·split<;>omega
theorem lX:∀(xs ys:List Int) (r:Int),xs.length=ys.length->C8 xs ys r->r=pP xs ys
 |[],[],r,_,h=>by
  rcases h with⟨_,rfl⟩|⟨j,hj,_⟩
  ·rfl
  ·simp at hj
 |x::xs,y::ys,r,hl,h=>by
  simp only[pP];have hl':xs.length=ys.length:=by simpa using hl
  rcases h with⟨h,rfl⟩|⟨j,hj,hne,hgt,rfl⟩
  ·have h0:pP xs ys=0:=(lX xs ys 0 hl' (.inl ⟨fun j hj=>by simpa using h (j+1) (by simpa using hj),rfl⟩)).symm;have hx:x=y:=by simpa using h 0 (by simp)
   rw[if_neg (by simp[h0]),hx,Ea]
  ·cases j with
   |zero=>
    have h0:pP xs ys=0:=(lX xs ys 0 hl' (.inl ⟨fun j hj=>by simpa using hgt (j+1) (by omega) (by simpa using hj),rfl⟩)).symm;rw[if_neg (by simp[h0])];simp
   |succ j=>
    have hne':xs[j]?.getD 0≠ys[j]?.getD 0:=by simpa using hne
    have h1:=lX xs ys (nC (xs[j]?.getD 0) (ys[j]?.getD 0)) hl' (.inr ⟨j,by simpa using hj,hne',fun i hi hi'=>by simpa using hgt (i+1) (by omega) (by simpa using hi'),rfl⟩);rw[<-h1,if_pos (Hp hne')];simp
 |[],_::_,_,hl,_=>by simp at hl
 |_::_,[],_,hl,_=>by simp at hl
set_option maxRecDepth 100000 in
set_option maxHeartbeats 4000000 in
theorem BZ(F:Fence)(n:Nat)(h1:F.fn 138)(h2:F.fn 155)(h3:F.fn 189)(h4:F.fn 154)(h5:F.fn 188)(h6:F.fn 156)(h7:F.fn 190)
  (hro:F.round=none) (hn:5<=n) (a a':Option Addr) (cap cap':Nat) (xs ys:List Int) (hx:xs.length<=1099511627776) (hy:ys.length<=1099511627776) (w:World)
  (hI:zu .u32 w.heap.size w (.slice a xs.length cap) xs) (hJ:zu .u32 w.heap.size w (.slice a' ys.length cap') ys):
  CallsIn F n Tryz.prog 138 #[.slice a xs.length cap,.slice a' ys.length cap'] w fun e W'=>
   (∃r,e=.returned (.int .i64 r)/\(xs.length≠ys.length->r=nC xs.length ys.length)/\(xs.length=ys.length->C8 xs ys r))/\Below w.heap.size w W':=by
 have hn1:1<=n:=by omega
 refine callsIn_of_wp_marks Tryz.func138 rfl h1 ?_ hro;simp only[Tryz.ntmps138,List.size_toArray,List.length_cons,List.length_nil,Nat.reduceAdd,Nat.reduceSub,Array.replicate_succ,Array.replicate_zero,List.push_toArray,List.append_toArray,List.nil_append,List.cons_append]
 gi_wp2_with first
  |(gi_at_call 155;refine(zF F (n-1) h2 hro _ _ _ _).mono ?_;rintro e w' ⟨rfl,rfl⟩)
  |(gi_at_call 154;refine(G7 F (n-1) h4 h5 hro (by omega) _ _ _).mono ?_;rintro e w' ⟨rfl,rfl⟩)
 ·rename_i hne;have hne':xs.length≠ys.length:=by rintro e;simp[e]at hne
  refine⟨_,?_,⟨_,rfl,fun _=>rfl,fun e=>absurd e hne'⟩,((Below.refl _ w).alloc (Nat.le_refl _) _).alloc (by simp) _⟩;have bR:=Boxed.new (w.alloc (.cells #[.slice a' ys.length cap'] 29)) 3 (.int .i64 (nC xs.length ys.length));have hc:=bR.cell;rw[World.size_alloc]at hc;simp[results,Tryz.f138,go_sem,hc]
 have hnb:((xs.length:Int)!=ys.length)=false:=by assumption
 have hle:xs.length<=ys.length:=by have:=bne_eq_false_iff_eq.1 hnb;omega
 have hge:ys.length<=xs.length:=by have:=bne_eq_false_iff_eq.1 hnb;omega
 have bA:=Boxed.new w 29 (.slice a' ys.length cap');have bR:=Boxed.new (w.alloc (.cells #[.slice a' ys.length cap'] 29)) 3 (.int .i64 0);have bN:=Boxed.new ((w.alloc (.cells #[.slice a' ys.length cap'] 29)).alloc (.cells #[.int .i64 0] 3)) 29 (.slice a xs.length cap);simp only[World.size_alloc]at bR bN;have hB0:Below w.heap.size w (((w.alloc (.cells #[.slice a' ys.length cap'] 29)).alloc (.cells #[.int .i64 0] 3)).alloc (.cells #[.slice a xs.length cap] 29)):=
  (((Below.refl _ w).alloc (Nat.le_refl _) _).alloc (by simp) _).alloc (by simp;omega) _
 have hA0:=((bA.alloc (.cells #[.int .i64 0] 3)).alloc (.cells #[.slice a xs.length cap] 29));have hR0:=bR.alloc (.cells #[.slice a xs.length cap] 29);refine wpIn_rangeFunc_ownF hro hn1 (gf:=189) (lb:=#[.pointer (some ⟨w.heap.size+1+1,0,none⟩)]) rfl h3 (enters_of Tryz.func189 (by kernel_rfl) rfl)
  (rM F (n-1) h3 hro (by omega) (w.heap.size+1+1) w.heap.size _ xs hx (fun j=>Fin.ofNat (xs.length-1+1) j) (fun x:Fin (xs.length-1+1)=>#[Value.int .i64 ((xs.length-1-x.1:Nat):Int),Value.int .u32 (xs[xs.length-1-x.1]?.getD 0)])
   (fun j hj=>by simp only[Fin.ofNat];rw[Nat.mod_eq_of_lt (by omega)]) _ (by simp) (by simp;omega) bN.cell (hI.below hB0)) KB.trans (KB.putObj (by simp;omega) (by simp)) (Below.refl _ _) (fun _=>rfl)
  (fun pre W=>((∀x∈pre,xs[xs.length-1-x.1]?.getD 0=ys[xs.length-1-x.1]?.getD 0)/\W.cell? ⟨w.heap.size,0,none⟩=some (.slice a' ys.length cap')/\W.cell? ⟨w.heap.size+1,0,none⟩=some (.int .i64 0)/\W.frozen? ⟨w.heap.size+1,0,none⟩=false)/\Below w.heap.size w W)
  (fun c pre W=>(c=.ret/\∃ini last,pre=ini++[last]/\(∀x∈ini,xs[xs.length-1-x.1]?.getD 0=ys[xs.length-1-x.1]?.getD 0)/\xs[xs.length-1-last.1]?.getD 0≠ys[xs.length-1-last.1]?.getD 0/\
   W.cell? ⟨w.heap.size+1,0,none⟩=some (.int .i64 (nC (xs[xs.length-1-last.1]?.getD 0) (ys[xs.length-1-last.1]?.getD 0))))/\Below w.heap.size w W)
  (OwnFrom.and (Own.from (fun s A B row hs hg hr=>⟨hs.1,cell_kept hs.2.1 hg hr,cell_kept hs.2.2.1 hg hr,(frozen_kept hs.2.2.1 hg hr).trans hs.2.2.2⟩) _) (ownFrom_below (Nat.le_refl _) (by simp;omega)))
  (fun c=>OwnFrom.and (Own.from (fun s A B row hs hg hr=>by obtain⟨hc,ini,last,e1,e2,e3,e4⟩:=hs;exact⟨hc,ini,last,e1,e2,e3,cell_kept e4 hg hr⟩) _) (ownFrom_below (Nat.le_refl _) (by simp;omega)))
  ⟨⟨by simp,hA0.cell,hR0.cell,hR0.frozen⟩,hB0⟩
  (fun x=>{tmps:=#[.slice a xs.length cap,.slice a' ys.length cap',undef,.pointer (some ⟨w.heap.size,0,none⟩),.pointer (some ⟨w.heap.size+1,0,none⟩),.int .i64 ((xs.length-1-x.1:Nat):Int),.int .u32 (xs[xs.length-1-x.1]?.getD 0),.slice a xs.length cap,.int .i64 xs.length,.slice a' ys.length cap',.int .i64 ys.length,.bool false,undef,undef,undef,undef,undef,.slice a xs.length cap,.func (.func 189) #[] #[.pointer (some ⟨w.heap.size+1+1,0,none⟩)],.int .i64 ((xs.length-1-x.1:Nat):Int),.int .u32 (xs[xs.length-1-x.1]?.getD 0),undef,undef,undef,undef,undef,undef,undef,undef,undef,undef,undef,undef],defers:=[]}) ?assign ?body ?done ?stop
 case assign=>
  intro l x W K hK
  gi_wp2
  exact hK
 case body=>
  rintro l pre x W ⟨⟨hp,hcA,hcR,hfR⟩,hB⟩ hpl;have hlt:xs.length-1-x.1<ys.length:=by omega
  obtain⟨b',o',e1,e2,e3⟩:∃b' o',a'=some ⟨b',o',none⟩/\(ys≠[]->b'<w.heap.size)/\∀j,j<ys.length->w.cell? ⟨b',o'+j,none⟩=some (.int .u32 (ys[j]?.getD 0)):=by
   rcases hJ with⟨h,rfl⟩|⟨b',o',cap2,h,h2,h3⟩
   ·simp at hlt
   ·injection h with h4 h5 h6
    exact⟨b',o',h4,h2,h3⟩
  subst e1;have hne:ys≠[]:=by rintro rfl;simp at hlt
  have hcy:W.cell? ⟨b',o'+(xs.length-1-x.1),none⟩=some (.int .u32 (ys[xs.length-1-x.1]?.getD 0)):=(hB.cell (p:=⟨b',o'+(xs.length-1-x.1),none⟩) (e2 hne)).trans (e3 _ hlt);have hn2:1<=n-1-1:=by omega
  gi_wp2_with (gi_at_call 156;refine(CallsIn.inRound l (Gx F (n-1-1-1) h6 h7 hro (by omega) _ _ _)).mono ?_;rintro e w' ⟨rfl,rfl⟩)
  ·have hb:(xs[xs.length-1-x.1]?.getD 0!=ys[xs.length-1-x.1])=true:=by assumption
   have hy:ys[xs.length-1-x.1]?.getD 0=ys[xs.length-1-x.1]:=by simp[hlt]
   exact⟨KeepsOthers.setCell _ _ _,⟨rfl,pre,x,rfl,hp,by rw[hy];exact bne_iff_ne.1 hb,by rw[hy];exact World.cell?_setCell_same' _ _ _ (by rw[hcR];rfl)⟩,hB.setCell (p:=⟨w.heap.size+1,0,none⟩) (by simp) _⟩
  ·have hb:(xs[xs.length-1-x.1]?.getD 0!=ys[xs.length-1-x.1])=false:=by assumption
   have hy:ys[xs.length-1-x.1]?.getD 0=ys[xs.length-1-x.1]:=by simp[hlt]
   refine⟨KeepsOthers.refl _,KB.refl _ _ _,⟨fun z hz=>?_,hcA,hcR,hfR⟩,hB⟩;rcases List.mem_append.1 hz with hz|hz
   ·exact hp z hz
   ·obtain rfl:=List.mem_singleton.1 hz;rw[hy];exact bne_eq_false_iff_eq.1 hb
 case done=>
  rintro D ys' W hD rfl ⟨⟨hp,hcA,hcR,hfR⟩,hB⟩ hK
  gi_wp2
  have hK':=(KeepsOthers.setCell W ⟨w.heap.size+1,0,none⟩ (.int .i64 0)).same D _ hK rfl;refine⟨by simp,.inl ⟨_,_,rfl,run_takeDeferred hK',?_⟩⟩;have hc5:=cell_kept (World.cell?_setCell_same' W ⟨w.heap.size+1,0,none⟩ (.int .i64 0) (by rw[hcR];rfl)) (grownBy_putObj' _ D (.deferred none)) (fun r e=>by cases e;exact⟨_,hK',rfl⟩);refine⟨.int .i64 0,?_,⟨0,rfl,fun h=>absurd (by omega) h,fun _=>.inl ⟨fun j hj=>?_,rfl⟩⟩,(hB.setCell (p:=⟨w.heap.size+1,0,none⟩) (by simp) _).trans (belowK_b (w:=w) (Nat.le_refl _) _ D _ _ (by simp at hD;omega) hK' rfl rfl)⟩
  ·simp[results,Tryz.f138,go_sem,hc5]
  ·have:=hp (Fin.ofNat (xs.length-1+1) (xs.length-1-j)) (by simp only[upto,List.mem_map,List.mem_range];exact⟨xs.length-1-j,by omega,rfl⟩);simp only[Fin.ofNat]at this;rw[Nat.mod_eq_of_lt (by omega),show xs.length-1-(xs.length-1-j)=j by omega]at this;exact this
 case stop=>
  rintro D c pre W hD ⟨k,hk,rfl⟩ ⟨⟨rfl,ini,last,e1,e2,e3,hcr⟩,hB⟩ hK
  gi_wp2
  refine⟨by simp,.inl ⟨_,_,rfl,run_takeDeferred hK,?_⟩⟩;have hc5:=cell_kept hcr (grownBy_putObj' _ D (.deferred none)) (fun r e=>by cases e;exact⟨_,hK,rfl⟩);obtain⟨k',rfl⟩:∃k',k=k'+1:=by
   cases k with
   |zero=>simp[upto]at e1
   |succ k'=>exact⟨k',rfl⟩
  rw[uS]at e1;obtain⟨rfl,e5⟩:=List.append_inj' e1 rfl;simp only[List.cons.injEq,and_true]at e5;have hv:last.1=k':=by rw[<-e5];simp only[Fin.ofNat];exact Nat.mod_eq_of_lt (by omega)
  rw[hv]at e3 hc5;refine⟨_,?_,⟨_,rfl,fun h=>absurd (by omega) h,fun _=>.inr ⟨xs.length-1-k',by omega,e3,fun i hi hi'=>?_,rfl⟩⟩,hB.trans (belowK_b (w:=w) (Nat.le_refl _) W D _ _ (by simp at hD;omega) hK rfl rfl)⟩
  ·simp[results,Tryz.f138,go_sem,hc5]
  ·have:=e2 (Fin.ofNat (xs.length-1+1) (xs.length-1-i)) (by simp only[upto,List.mem_map,List.mem_range];exact⟨xs.length-1-i,by omega,rfl⟩);simp only[Fin.ofNat]at this;rw[Nat.mod_eq_of_lt (by omega),show xs.length-1-(xs.length-1-i)=i by omega]at this;exact this
end Go.Proofs.YtglimpjlhfjgdaaGreat
