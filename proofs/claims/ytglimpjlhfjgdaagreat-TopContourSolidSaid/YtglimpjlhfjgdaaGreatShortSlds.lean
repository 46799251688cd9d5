import Derived.Test.YtglimpjlhfjgdaaGreatExtSlds
import Derived.Test.YtglimpjlhfjgdaaGreatSc6Slds
import Derived.Deep.OwnRows
import Derived.OrdersHeld
import Derived.OrdersIn
set_option linter.all false
namespace Go.Proofs.YtglimpjlhfjgdaaGreat
open Go Go.RowKit Go.Shelf Go.Proofs
attribute [local go_sem] Oper.semAt_some
set_option maxRecDepth 100000 in
set_option maxHeartbeats 2000000 in
theorem HR(F:Fence)(n:Nat)(hf:F.fn 136)(hro:F.round=none)(b off cap:Nat)(zs:List Int)(hreach:zs.length<=1099511627776)(w:World)(hcap:zs.length<=cap)
  (hc:∀j,j<zs.length->w.cell? ⟨b,off+j,none⟩=some (.int .u32 (zs[j]?.getD 0))):
  CallsIn F n Tryz.prog 136 #[.slice (some ⟨b,off,none⟩) zs.length cap] w fun e w'=>
   (∃k,k<=zs.length/\e=.returned (.slice (some ⟨b,off,none⟩) k cap)/\(∀j,k<=j->j<zs.length->zs[j]?.getD 0=0)/\(0<k->zs[k-1]?.getD 0≠0))/\w'=w:=by
 refine callsIn_of_wp Tryz.func136 rfl hf ?_ hro;simp only[Tryz.ntmps136,List.size_toArray,List.length_cons,List.length_nil,Nat.reduceAdd,Nat.reduceSub,Array.replicate_succ,Array.replicate_zero,List.push_toArray,List.append_toArray,List.nil_append,List.cons_append]
 gi_wp2
 gi_loopw [0] (fun i wr=>∃k:Nat,k<=zs.length/\i=.slice (some ⟨b,off,none⟩) k cap/\(∀j,k<=j->j<zs.length->zs[j]?.getD 0=0)/\wr=w)
  (fun i _=>match i with|.slice _ k _=>k|_=>0)
 case atStart=>exact⟨zs.length,Nat.le_refl _,rfl,fun j h1 h2=>by omega,rfl⟩
 case round=>
  obtain⟨k,hk,rfl,hz,rfl⟩:=hrel;by_cases hlt:0<k
  ·have hcx:=hc (k-1) (by omega);have hi:((k:Int)-1)=((k-1:Nat):Int):=by omega
   gi_wp2
   ·rename_i h0;have h0':zs[k-1]?.getD 0=0:=by simpa using h0
    refine⟨⟨k-1,by omega,rfl,fun j h1 h2=>?_,trivial⟩,by show k-1<k;omega⟩;by_cases hj:j=k-1
    ·rw[hj];exact h0'
    ·exact hz j (by omega) h2
   ·rename_i h0;have h0':zs[k-1]?.getD 0≠0:=by simpa using h0
    gi_wp2
    go_ret
    exact⟨⟨k,hk,rfl,hz,fun _=>h0'⟩,rfl⟩
  ·obtain rfl:k=0:=by omega
   gi_wp2
   gi_wp2
   go_ret
   exact⟨⟨0,Nat.zero_le _,rfl,hz,fun h=>absurd h (Nat.lt_irrefl _)⟩,rfl⟩
section
variable{P:Program}{ops:Array Oper}{Q:Exit->Act->World->Prop}{md:Region.Mode}{n l:Nat}
theorem GB(hL:¬LetsOut Q)(hd:(ops.toList.all fun o=>match o.op with|.defer _=>false|_=>true)=true){i:Nat}{K:Act->World->Prop}{a:Act}{w:World}(h:wpOp P ops Q i K a w):wpOpIn (Fence.wide.inRound l) n P ops Q i K a w:=by
 unfold wpOp at h;unfold wpOpIn;cases ho:ops[i]? with
 |none=>rw[ho]at h;exact h
 |some o=>
  rw[ho]at h;simp only at h ⊢;split
  ·rename_i hw;rw[if_pos hw]at h;rcases h with h|⟨_,h⟩
   ·refine⟨fun _ _=>trivial,?_⟩;have hnd:∀c,o.op≠Op.defer c:=by
     intro c e;have hm:o∈ops.toList:=by rw[<-Array.getElem?_toList]at ho;exact List.mem_of_getElem? ho
     have:=List.all_eq_true.1 hd o hm;rw[e]at this;simp at this
    rw[Oper.semAt_plain _ _ _ hnd];unfold Oper.wp at h;generalize (execOp a.eval o).run P w=r at*;cases r with
    |ok x w'=>
     cases x
     case enter f args=>exact⟨by intro h;simp[Fence.wide]at h,CallsIn.inRound l (callsIn_wide.2 h)⟩
     case row row args=>
      refine⟨by intro h;simp[Fence.wide]at h,fun c cs hr=>?_⟩;obtain⟨v,w'',h1,h2⟩:=h c cs;exact⟨v,w'',h1,stepsIn_wide.2 h2⟩
     all_goals first|exact h|exact h.elim
    |halt x w'=>cases x<;>exact h
   ·exact(hL h).elim
  ·rename_i hw;rw[if_neg hw]at h;exact⟨fun _ _=>trivial,h⟩
theorem qY{i:Nat}{o:Oper}{K:Act->World->Prop}{a:Act}{w:World}(ho:ops[i]?=some o)(hw:Region.wanted o (yielded ops a.tmps)=true)(h:o.wp P a w K Q):wpOp P ops Q i K a w:=by
 unfold wpOp;rw[ho];simp only[hw,if_true];exact .inl h
theorem zZ(hL:¬LetsOut Q)(hd:(ops.toList.all fun o=>match o.op with|.defer _=>false|_=>true)=true):∀(fuel:Nat) (listed:Array Bool) (a:Act) (w:World),wpAny P md ops Q fuel listed a w->wpAnyIn (Fence.wide.inRound l) n P md ops Q fuel listed a w
 |0,_,_,_,h=>h
 |fuel+1,_,_,_,h=>⟨h.1,fun i hi=>GB hL hd (wpOp_mono (fun a' w' h'=>zZ hL hd fuel _ a' w' h') (h.2 i hi))⟩
end
def bW(d:Int):List Int->List Int×Int
 |[]=>([],0)
 |g::l=>(IntKind.u32.wrap (IntKind.u64.wrap ((IntKind.u64.wrap (IntKind.u64.wrap ((bW d l).2*1000000000)+IntKind.u64.wrap g)).tdiv d))::(bW d l).1,(IntKind.u64.wrap (IntKind.u64.wrap ((bW d l).2*1000000000)+IntKind.u64.wrap g)).tmod d)
def wI(d:Int)(zs:List Int)(s:(Nat->Int)×Int)(x:Nat):(Nat->Int)×Int:=
 (fun j=>if j=zs.length-1-x then IntKind.u32.wrap (IntKind.u64.wrap ((IntKind.u64.wrap (IntKind.u64.wrap (s.2*1000000000)+IntKind.u64.wrap (zs[zs.length-1-x]?.getD 0))).tdiv d))else s.1 j,
  (IntKind.u64.wrap (IntKind.u64.wrap (s.2*1000000000)+IntKind.u64.wrap (zs[zs.length-1-x]?.getD 0))).tmod d)
def nk(d:Int)(zs:List Int)(l:List Nat):(Nat->Int)×Int:=l.foldl (wI d zs) (fun _=>0,0)
theorem sL(d:Int)(zs:List Int)(l:List Nat)(x:Nat):nk d zs (l++[x])=wI d zs (nk d zs l) x:=by simp[nk]
theorem jH(d:Int):∀zs,(bW d zs).1.length=zs.length
 |[]=>rfl
 |z::zs=>by simp[bW,jH d zs]
theorem ve(d:Int)(zs:List Int):∀k,k<=zs.length->(nk d zs (List.range k)).2=(bW d (zs.drop (zs.length-k))).2/\(∀j,j<zs.length-k->(nk d zs (List.range k)).1 j=0)/\
  ∀j,(zs.length-k)<=j->j<zs.length->(nk d zs (List.range k)).1 j=(bW d (zs.drop (zs.length-k))).1[j-(zs.length-k)]?.getD 0
 |0,_=>by
  refine⟨by simp[nk,bW],fun j _=>rfl,fun j h1 h2=>by omega⟩
 |k+1,hk=>by
  obtain⟨h1,h2,h3⟩:=ve d zs k (by omega);have e:zs.drop (zs.length-(k+1))=(zs[zs.length-1-k]?.getD 0)::zs.drop (zs.length-k):=by
   rw[List.drop_eq_getElem_cons (by omega:zs.length-(k+1)<zs.length)];congr 1
   ·rw[geT (by omega)];simp only[Option.getD_some];congr 1;omega
   ·congr 1;omega
  rw[List.range_succ,sL,e];refine⟨?_,?_,?_⟩
  ·simp only[wI,bW,h1]
  ·intro j hj;simp only[wI];rw[if_neg (by omega)];exact h2 j (by omega)
  ·intro j hj hj2;simp only[wI,bW];by_cases hjk:j=zs.length-1-k
   ·rw[if_pos hjk,(by omega:j-(zs.length-(k+1))=0),h1];simp
   ·rw[if_neg hjk,h3 j (by omega) hj2,(by omega:j-(zs.length-(k+1))=(j-(zs.length-k))+1)];simp
theorem uR(d:Int)(zs:List Int):(nk d zs (List.range zs.length)).2=(bW d zs).2/\∀j,j<zs.length->(nk d zs (List.range zs.length)).1 j=(bW d zs).1[j]?.getD 0:=by
 obtain⟨h1,h2,h3⟩:=ve d zs zs.length (Nat.le_refl _);simp only[Nat.sub_self,List.drop_zero,Nat.sub_zero,Nat.zero_le,true_implies]at h1 h3;exact⟨h1,h3⟩
set_option maxRecDepth 100000 in
set_option maxHeartbeats 4000000 in
theorem E8(n:Nat)(h1:Fence.wide.fn 186)(h2:Fence.wide.fn 155)(h3:Fence.wide.fn 189)(hro:Fence.wide.round=none)(hn:5<=n)(a:Option Addr)(cap:Nat)(zs:List Int)(d:Int)(hd:0<d)(hd2:d<=4294967295)
  (hreach:zs.length<=1099511627776) (w:World) (hI:zu .u32 w.heap.size w (.slice a zs.length cap) zs):
  CallsIn Fence.wide n Tryz.prog 186 #[.slice a zs.length cap,.int .u32 d] w fun e W'=>
   (∃k,k<=zs.length/\e=.returned (.tuple #[.slice (some ⟨w.heap.size+2,0,none⟩) k zs.length,.int .u32 (IntKind.u32.wrap (bW d zs).2)])/\(∀j,k<=j->j<zs.length->(bW d zs).1[j]?.getD 0=0)/\(0<k->(bW d zs).1[k-1]?.getD 0≠0)/\
    ∀j,j<zs.length->W'.cell? ⟨w.heap.size+2,j,none⟩=some (.int .u32 ((bW d zs).1[j]?.getD 0)))/\Below w.heap.size w W':=by
 have hn1:1<=n:=by omega
 refine callsIn_of_wp_marks Tryz.func186 rfl h1 ?_ hro;simp only[Tryz.ntmps186,List.size_toArray,List.length_cons,List.length_nil,Nat.reduceAdd,Nat.reduceSub,Array.replicate_succ,Array.replicate_zero,List.push_toArray,List.append_toArray,List.nil_append,List.cons_append];have hmk:∀W:World,(Instr.makeSlice 29 (.int .i64 (zs.length:Int)) (.int .i64 (zs.length:Int))).run Tryz.prog W=.ok (.slice (some ⟨W.heap.size,0,none⟩) zs.length zs.length) (W.alloc (.cells (madeCells #[.int .u32 0] zs.length) 106)):=fun W=>
  run_make_row' 29 106 (.int .u32 0) 4 rfl (by kernel_rfl) rfl .i64 .i64 zs.length (by omega) (by omega) W
 gi_wp2_with (gi_at_call 155;refine(zF Fence.wide (n-1) h2 hro _ _ _ _).mono ?_;rintro e w' ⟨rfl,rfl⟩)
 have hB0:Below w.heap.size w (((((w.alloc (.cells #[.int .u32 d] 106)).alloc (.cells #[.slice (some ⟨w.heap.size+1+1,0,none⟩) zs.length zs.length] 29)).alloc (.cells (madeCells #[.int .u32 0] zs.length) 106)).alloc (.cells #[.int .u64 0] 105)).alloc (.cells #[.slice a zs.length cap] 29)):=
  (((((Below.refl _ w).alloc (Nat.le_refl _) _).alloc (by simp) _).alloc (by simp;omega) _).alloc (by simp;omega) _).alloc (by simp;omega) _
 have bD:=Boxed.new w 106 (.int .u32 d);have bQ:=Boxed.new (w.alloc (.cells #[.int .u32 d] 106)) 29 (.slice (some ⟨w.heap.size+1+1,0,none⟩) zs.length zs.length);have bR:=Boxed.new (((w.alloc (.cells #[.int .u32 d] 106)).alloc (.cells #[.slice (some ⟨w.heap.size+1+1,0,none⟩) zs.length zs.length] 29)).alloc (.cells (madeCells #[.int .u32 0] zs.length) 106)) 105 (.int .u64 0);have bN:=Boxed.new ((((w.alloc (.cells #[.int .u32 d] 106)).alloc (.cells #[.slice (some ⟨w.heap.size+1+1,0,none⟩) zs.length zs.length] 29)).alloc (.cells (madeCells #[.int .u32 0] zs.length) 106)).alloc (.cells #[.int .u64 0] 105)) 29 (.slice a zs.length cap);simp only[World.size_alloc]at bQ bR bN;refine wpIn_rangeFunc_ownF hro hn1 (gf:=189) (lb:=#[.pointer (some ⟨w.heap.size+1+1+1+1,0,none⟩)]) rfl h3 (enters_of Tryz.func189 (by kernel_rfl) rfl)
  (rM Fence.wide (n-1) h3 hro (by omega) (w.heap.size+1+1+1+1) w.heap.size _ zs hreach (fun j=>Fin.ofNat (zs.length-1+1) j) (fun x:Fin (zs.length-1+1)=>#[Value.int .i64 ((zs.length-1-x.1:Nat):Int),Value.int .u32 (zs[zs.length-1-x.1]?.getD 0)])
   (fun j hj=>by simp only[Fin.ofNat];rw[Nat.mod_eq_of_lt (by omega)]) _ (by simp) (by simp;omega) bN.cell (hI.below hB0)) KB.trans (KB.putObj (by simp;omega) (by simp)) (Below.refl _ _) (fun _=>rfl)
  (fun pre W=>((∀j,j<zs.length->W.cell? ⟨w.heap.size+1+1,j,none⟩=some (.int .u32 ((nk d zs (pre.map (·.1))).1 j))/\W.frozen? ⟨w.heap.size+1+1,j,none⟩=false)/\
   (W.cell? ⟨w.heap.size+1+1+1,0,none⟩=some (.int .u64 (nk d zs (pre.map (·.1))).2)/\W.frozen? ⟨w.heap.size+1+1+1,0,none⟩=false)/\
   W.cell? ⟨w.heap.size,0,none⟩=some (.int .u32 d)/\(W.cell? ⟨w.heap.size+1,0,none⟩=some (.slice (some ⟨w.heap.size+1+1,0,none⟩) zs.length zs.length)/\W.frozen? ⟨w.heap.size+1,0,none⟩=false))/\Below w.heap.size w W)
  (fun _ _ _=>False)
  (OwnFrom.and (Own.from (fun s A B row hs hg hr=>⟨fun j hj=>⟨cell_kept (hs.1 j hj).1 hg hr,(frozen_kept (hs.1 j hj).1 hg hr).trans (hs.1 j hj).2⟩,⟨cell_kept hs.2.1.1 hg hr,(frozen_kept hs.2.1.1 hg hr).trans hs.2.1.2⟩,cell_kept hs.2.2.1 hg hr,cell_kept hs.2.2.2.1 hg hr,(frozen_kept hs.2.2.2.1 hg hr).trans hs.2.2.2.2⟩) _) (ownFrom_below (Nat.le_refl _) (by simp;omega)))
  (fun _ _ _ _ _ hs _ _=>hs)
  ⟨?init,hB0⟩
  (fun x=>{tmps:=#[.slice a zs.length cap,.int .u32 d,undef,.pointer (some ⟨w.heap.size,0,none⟩),.pointer (some ⟨w.heap.size+1,0,none⟩),.int .u32 0,.pointer (some ⟨w.heap.size+1+1+1,0,none⟩),.int .i64 ((zs.length-1-x.1:Nat):Int),.int .u32 (zs[zs.length-1-x.1]?.getD 0),undef,
   .slice a zs.length cap,.int .i64 zs.length,.slice (some ⟨w.heap.size+1+1,0,none⟩) zs.length zs.length,.slice a zs.length cap,.func (.func 189) #[] #[.pointer (some ⟨w.heap.size+1+1+1+1,0,none⟩)],.int .i64 ((zs.length-1-x.1:Nat):Int),.int .u32 (zs[zs.length-1-x.1]?.getD 0),
   undef,undef,undef,undef,undef,undef,undef,undef,undef,undef,undef,undef,undef,undef,undef,undef,undef,undef,undef,undef,undef],defers:=[]}) ?assign ?body ?done ?stop
 case assign=>
  intro l x W K hK
  gi_wp2
  exact hK
 case stop=>
  rintro D c pre W _ _ h _;exact h.elim
 case init=>
  have hmc:∀j,j<zs.length->(madeCells #[Value.int .u32 0] zs.length)[j]?=some (Value.int .u32 0):=fun j hj=>by
   have h:=Go.Eng.jY #[Value.int .u32 0] zs.length (by simp);have e:zs.length*(#[Value.int IntKind.u32 0]:Array Value).size=zs.length:=by simp
   rw[e]at h;rw[<-Array.getElem?_toList,h];simp[hj]
  refine⟨fun j hj=>⟨?_,?_⟩,⟨?_,?_⟩,?_,?_,?_⟩
  ·have:=hmc j hj
   go_simp
   rfl
  all_goals go_simp
  all_goals rfl
 case body=>
  rintro l pre x W ⟨⟨hq,⟨hr,hrf⟩,hdc,hsl,hslf⟩,hB⟩ hpl;have hqx:=hq (zs.length-1-x.1) (by omega);have hqc:=hqx.1;have hqf:=hqx.2;have hqc':W.drew.cell? ⟨w.heap.size+1+1,zs.length-1-x.1,none⟩=some (.int .u32 ((nk d zs (pre.map (·.1))).1 (zs.length-1-x.1))):=hqc;have hqf':W.drew.frozen? ⟨w.heap.size+1+1,zs.length-1-x.1,none⟩=false:=hqf;have hr':W.drew.cell? ⟨w.heap.size+1+1+1,0,none⟩=some (.int .u64 (nk d zs (pre.map (·.1))).2):=hr;have hrf':W.drew.frozen? ⟨w.heap.size+1+1+1,0,none⟩=false:=hrf;have hdw:IntKind.u64.wrap d=d:=by rw[IntKind.wrap_u64];omega
  have hd0:(d==0)=false:=by simp;omega
  have hd1:¬d=0:=by omega
  gi_wp2
  obtain⟨N,hN⟩:∃N,IntKind.u64.wrap (IntKind.u64.wrap ((nk d zs (pre.map (·.1))).2*1000000000)+IntKind.u64.wrap (zs[zs.length-1-x.1]?.getD 0))=N:=⟨_,rfl⟩;simp only[hN];refine wpIn_mono (Q:=fun e a' W'=>e=.normal/\W'=(W.drew.setCell ⟨w.heap.size+1+1,zs.length-1-x.1,none⟩ (.int .u32 (IntKind.u32.wrap (IntKind.u64.wrap (N.tdiv d))))).setCell ⟨w.heap.size+1+1+1,0,none⟩ (.int .u64 (N.tmod d))) ?_ ?_
  ·refine wpIn_region_any follows (zZ ?lets ?nodefer _ _ _ _ (wpAny_of_held (S:=fun V=>V.cell? ⟨w.heap.size+1,0,none⟩=some (.slice (some ⟨w.heap.size+1+1,0,none⟩) zs.length zs.length)/\V.cell? ⟨w.heap.size,0,none⟩=some (.int .u32 d)) _ _ _ _ ?_))
   case nodefer=>kernel_rfl
   case lets=>rintro⟨_,_,h,_⟩;cases h
   refine wpAnyH_take (i:=0) (v:=.slice (some ⟨w.heap.size+1+1,0,none⟩) zs.length zs.length) (fuel:=13) rfl (by kernel_rfl) (by kernel_rfl) (by kernel_rfl) (fun c a w h=>by cases h.1) (.inl ⟨by kernel_rfl,fun V ⟨s1,s2⟩=>by go_simp⟩) ⟨hsl,hdc⟩ ?_;refine wpAnyH_take (i:=1) (v:=.int .i64 ((zs.length-1-x.1:Nat):Int)) (fuel:=12) rfl (by kernel_rfl) (by kernel_rfl) (by kernel_rfl) (fun c a w h=>by cases h.1) (.inl ⟨by kernel_rfl,fun V ⟨s1,s2⟩=>by go_simp⟩) ⟨hsl,hdc⟩ ?_;refine wpAnyH_take (i:=2) (v:=.int .u64 N) (fuel:=11) rfl (by kernel_rfl) (by kernel_rfl) (by kernel_rfl) (fun c a w h=>by cases h.1) (.inl ⟨by kernel_rfl,fun V ⟨s1,s2⟩=>by go_simp⟩) ⟨hsl,hdc⟩ ?_;refine wpAnyH_take (i:=3) (v:=.int .u32 d) (fuel:=10) rfl (by kernel_rfl) (by kernel_rfl) (by kernel_rfl) (fun c a w h=>by cases h.1) (.inl ⟨by kernel_rfl,fun V ⟨s1,s2⟩=>by go_simp⟩) ⟨hsl,hdc⟩ ?_;refine wpAnyH_take (i:=4) (v:=.int .u64 d) (fuel:=9) rfl (by kernel_rfl) (by kernel_rfl) (by kernel_rfl) (fun c a w h=>by cases h.1) (.inl ⟨by kernel_rfl,fun V ⟨s1,s2⟩=>by go_simp⟩) ⟨hsl,hdc⟩ ?_;refine wpAnyH_take (i:=5) (v:=.int .u64 (IntKind.u64.wrap (N.tdiv d))) (fuel:=8) rfl (by kernel_rfl) (by kernel_rfl) (by kernel_rfl) (fun c a w h=>by cases h.1) (.inl ⟨by kernel_rfl,fun V ⟨s1,s2⟩=>by go_simp⟩) ⟨hsl,hdc⟩ ?_;refine wpAnyH_take (i:=6) (v:=.int .u32 (IntKind.u32.wrap (IntKind.u64.wrap (N.tdiv d)))) (fuel:=7) rfl (by kernel_rfl) (by kernel_rfl) (by kernel_rfl) (fun c a w h=>by cases h.1) (.inl ⟨by kernel_rfl,fun V ⟨s1,s2⟩=>by go_simp⟩) ⟨hsl,hdc⟩ ?_;refine wpAnyH_take (i:=7) (v:=.int .u64 N) (fuel:=6) rfl (by kernel_rfl) (by kernel_rfl) (by kernel_rfl) (fun c a w h=>by cases h.1) (.inl ⟨by kernel_rfl,fun V ⟨s1,s2⟩=>by go_simp⟩) ⟨hsl,hdc⟩ ?_;refine wpAnyH_take (i:=8) (v:=.int .u32 d) (fuel:=5) rfl (by kernel_rfl) (by kernel_rfl) (by kernel_rfl) (fun c a w h=>by cases h.1) (.inl ⟨by kernel_rfl,fun V ⟨s1,s2⟩=>by go_simp⟩) ⟨hsl,hdc⟩ ?_;refine wpAnyH_take (i:=9) (v:=.int .u64 d) (fuel:=4) rfl (by kernel_rfl) (by kernel_rfl) (by kernel_rfl) (fun c a w h=>by cases h.1) (.inl ⟨by kernel_rfl,fun V ⟨s1,s2⟩=>by go_simp⟩) ⟨hsl,hdc⟩ ?_;refine wpAnyH_take (i:=10) (v:=.int .u64 (N.tmod d)) (fuel:=3) rfl (by kernel_rfl) (by kernel_rfl) (by kernel_rfl) (fun c a w h=>by cases h.1) (.inl ⟨by kernel_rfl,fun V ⟨s1,s2⟩=>by go_simp⟩) ⟨hsl,hdc⟩ ?_;refine wpAnyH_take (i:=11) (v:=.pointer (some ⟨w.heap.size+1+1,zs.length-1-x.1,none⟩)) (fuel:=2) rfl (by kernel_rfl) (by kernel_rfl) (by kernel_rfl) (fun c a w h=>by cases h.1) (.inl ⟨by kernel_rfl,fun V ⟨s1,s2⟩=>by go_simp;intro h;omega⟩) ⟨hsl,hdc⟩ ?_;refine wpAnyH_all (rs:=[12]) (by kernel_rfl) (by simp) (fun i hi=>?_);obtain rfl:=List.mem_singleton.1 hi;refine qY rfl (by kernel_rfl) ?_;unfold Oper.wp
   go_simp
   refine wpAnyH_all (rs:=[13]) (by kernel_rfl) (by simp) (fun i hi=>?_);obtain rfl:=List.mem_singleton.1 hi;refine qY rfl (by kernel_rfl) ?_;unfold Oper.wp
   go_simp
   refine wpAnyH_done (by kernel_rfl) ⟨rfl,rfl⟩ _
  ·rintro e a' W' ⟨rfl,rfl⟩;have em:(pre++[x]).map (·.1)=pre.map (·.1)++[x.1]:=by simp
   refine⟨(KeepsOthers.drew W).trans ((KeepsOthers.setCell _ _ _).trans (KeepsOthers.setCell _ _ _)),⟨((Below.refl w.heap.size W).drew.setCell (p:=⟨w.heap.size+1+1,zs.length-1-x.1,none⟩) (by show _<=w.heap.size+1+1;omega) _).setCell (p:=⟨w.heap.size+1+1+1,0,none⟩) (by show _<=w.heap.size+1+1+1;omega) _,?_⟩,
    ⟨fun j hj=>⟨?_,?_⟩,⟨?_,?_⟩,?_,?_,?_⟩,((hB.drew.setCell (p:=⟨w.heap.size+1+1,zs.length-1-x.1,none⟩) (by show _<=w.heap.size+1+1;omega) _).setCell (p:=⟨w.heap.size+1+1+1,0,none⟩) (by show _<=w.heap.size+1+1+1;omega) _)⟩
   ·rw[World.cell?_setCell_other _ _ _ _ (by simp),World.cell?_setCell_other _ _ _ _ (by simp)];rfl
   ·rw[em,sL];simp only[wI,hN];rw[World.cell?_setCell_other _ _ _ _ (by simp)];by_cases hjx:j=zs.length-1-x.1
    ·subst hjx;rw[if_pos rfl];exact World.cell?_setCell_same' _ _ _ (by rw[hqc'];rfl)
    ·rw[if_neg hjx,World.cell?_setCell_other _ _ _ _ (by simp only[ne_eq,Addr.mk.injEq,true_and,and_true];omega)];exact(hq j hj).1
   ·rw[World.frozen?_setCell,World.frozen?_setCell];exact(hq j hj).2
   ·rw[em,sL];simp only[wI,hN];exact World.cell?_setCell_same' _ _ _ (by rw[World.cell?_setCell_other _ _ _ _ (by simp),hr'];rfl)
   ·rw[World.frozen?_setCell,World.frozen?_setCell];exact hrf
   ·rw[World.cell?_setCell_other _ _ _ _ (by simp),World.cell?_setCell_other _ _ _ _ (by simp)];exact hdc
   ·rw[World.cell?_setCell_other _ _ _ _ (by simp),World.cell?_setCell_other _ _ _ _ (by simp)];exact hsl
   ·rw[World.frozen?_setCell,World.frozen?_setCell];exact hslf
 case done=>
  rintro D ys W hD rfl ⟨⟨hq,⟨hr,hrf⟩,hdc,hsl,hslf⟩,hB⟩ hK;have el:(upto (fun j=>Fin.ofNat (zs.length-1+1) j) zs.length).map (·.1)=List.range zs.length:=by
   apply List.ext_getElem
   ·simp[upto]
   ·intro i h1 h2;have hi:i<zs.length:=by simpa using h2
    simp only[upto,List.map_map,List.getElem_map,List.getElem_range,Function.comp,Fin.ofNat];exact Nat.mod_eq_of_lt (by omega)
  rw[el]at hq hr;rw[(uR d zs).1]at hr;have hqs:∀j,j<(bW d zs).1.length->W.drew.cell? ⟨w.heap.size+1+1,0+j,none⟩=some (.int .u32 ((bW d zs).1[j]?.getD 0)):=fun j hj=>by
   rw[jH]at hj;rw[Nat.zero_add,<-(uR d zs).2 j hj];exact(hq j hj).1
  have ht:=callsIn_wide.1 (HR Fence.wide 5 trivial rfl (w.heap.size+1+1) 0 zs.length (bW d zs).1 (by rw[jH];exact hreach) W.drew (by rw[jH];exact Nat.le_refl _) hqs);rw[jH]at ht;have hr':W.drew.cell? ⟨w.heap.size+1+1+1,0,none⟩=some (.int .u64 (bW d zs).2):=hr;have hsl':W.drew.cell? ⟨w.heap.size+1,0,none⟩=some (.slice (some ⟨w.heap.size+1+1,0,none⟩) zs.length zs.length):=hsl;have hslf':W.drew.frozen? ⟨w.heap.size+1,0,none⟩=false:=hslf
  gi_wp2
  rename_i Q' K hKK;refine wpIn_mono (Q:=fun e a' W'=>e=.normal/\K a' W') ?_ (fun e a' W' ⟨he,h⟩=>by subst he;exact h);refine wpIn_wide.2 (wp_region_held (S:=fun V=>V.cell? ⟨w.heap.size+1+1+1,0,none⟩=some (.int .u64 (bW d zs).2)) follows ?_);refine wpAnyH_take (i:=2) (v:=.int .u64 (bW d zs).2) (fuel:=5) rfl (by kernel_rfl) (by kernel_rfl) (by kernel_rfl) (fun c a w h=>by cases h.1) (.inl ⟨by kernel_rfl,fun V s1=>by go_simp⟩) hr ?_;refine wpAnyH_take (i:=3) (v:=.int .u32 (IntKind.u32.wrap (bW d zs).2)) (fuel:=4) rfl (by kernel_rfl) (by kernel_rfl) (by kernel_rfl) (fun c a w h=>by cases h.1) (.inl ⟨by kernel_rfl,fun V s1=>by go_simp⟩) hr ?_;refine wpAnyH_all (rs:=[0]) (by kernel_rfl) (by simp) (fun i hi=>?_);obtain rfl:=List.mem_singleton.1 hi;refine qY rfl (by kernel_rfl) ?_;unfold Oper.wp
  go_simp
  refine wpAnyH_all (rs:=[1]) (by kernel_rfl) (by simp) (fun i hi=>?_);obtain rfl:=List.mem_singleton.1 hi;refine qY rfl (by kernel_rfl) ?_;unfold Oper.wp
  go_simp
  refine ht.mono ?_;rintro e' w' ⟨⟨k,hk,rfl,hz,hnz⟩,rfl⟩
  go_simp
  refine wpAnyH_all (rs:=[4]) (by kernel_rfl) (by simp) (fun i hi=>?_);obtain rfl:=List.mem_singleton.1 hi;refine qY rfl (by kernel_rfl) ?_;unfold Oper.wp
  go_simp
  refine wpAnyH_all (rs:=[5]) (by kernel_rfl) (by simp) (fun i hi=>?_);obtain rfl:=List.mem_singleton.1 hi;refine qY rfl (by kernel_rfl) ?_;unfold Oper.wp
  go_simp
  refine wpAnyH_done (by kernel_rfl) ⟨rfl,hKK _ _ ?_⟩ _
  gi_wp2
  have hK':(W.setCell ⟨w.heap.size+1,0,none⟩ (.slice (some ⟨w.heap.size+1+1,0,none⟩) k zs.length)).drew.heap[D]?=some (.deferred (some [])):=(KeepsOthers.setCell W ⟨w.heap.size+1,0,none⟩ _).same D _ hK rfl;refine⟨by simp,.inl ⟨_,_,rfl,run_takeDeferred hK',?_⟩⟩;have hc4:(W.setCell ⟨w.heap.size+1,0,none⟩ (.slice (some ⟨w.heap.size+1+1,0,none⟩) k zs.length)).drew.cell? ⟨w.heap.size+1,0,none⟩=some (.slice (some ⟨w.heap.size+1+1,0,none⟩) k zs.length):=World.cell?_setCell_same' W _ _ (by rw[hsl];rfl);have hc5:=cell_kept hc4 (grownBy_putObj' _ D (.deferred none)) (fun r e=>by cases e;exact⟨_,hK',rfl⟩);refine⟨.tuple #[.slice (some ⟨w.heap.size+2,0,none⟩) k zs.length,.int .u32 (IntKind.u32.wrap (bW d zs).2)],?_,⟨k,hk,rfl,hz,hnz,fun j hj=>?_⟩,(hB.setCell (p:=⟨w.heap.size+1,0,none⟩) (by simp) _).drew.trans (belowK_b (w:=w) (Nat.le_refl _) _ D _ _ (by simp at hD;omega) hK' rfl rfl)⟩
  ·simp[results,Tryz.f186,go_sem,hc5]
  ·have h:=(hq j hj).1;rw[(uR d zs).2 j hj]at h;refine cell_kept (?_:(W.setCell ⟨w.heap.size+1,0,none⟩ (.slice (some ⟨w.heap.size+1+1,0,none⟩) k zs.length)).drew.cell? ⟨w.heap.size+2,j,none⟩=_) (grownBy_putObj' _ D (.deferred none)) (fun r e=>by cases e;exact⟨_,hK',rfl⟩);show(W.setCell ⟨w.heap.size+1,0,none⟩ _).cell? ⟨w.heap.size+1+1,j,none⟩=_;rw[World.cell?_setCell_other _ _ _ _ (by simp)];exact h
theorem wc:∀(l:List Int) (k:Nat),k<=l.length->(∀j,k<=j->j<l.length->l[j]?.getD 0=0)->(0<k->l[k-1]?.getD 0≠0)->l.take k=Go.L.nL l
 |[],k,hk,_,_=>by simp[Go.L.nL]
 |d::l,0,_,hz,_=>by
  have ih:=wc l 0 (Nat.zero_le _) (fun j _ h=>by simpa using hz (j+1) (Nat.zero_le _) (by simpa using h)) (fun h=>absurd h (Nat.lt_irrefl _));have hd:d=0:=by simpa using hz 0 (Nat.le_refl _) (by simp)
  rw[List.take_zero]at ih ⊢;unfold Go.L.nL;rw[<-ih];subst hd;rfl
 |d::l,k+1,hk,hz,hn=>by
  have hk':k<=l.length:=by simpa using hk
  have ih:=wc l k hk' (fun j h1 h2=>by simpa using hz (j+1) (by omega) (by simpa using h2)) (fun h=>by
   have:=hn (by omega);obtain⟨m,rfl⟩:∃m,k=m+1:=⟨k-1,by omega⟩;simpa using this)
  rw[List.take_succ_cons];unfold Go.L.nL;rw[<-ih];cases k with
  |zero=>
   have hd:d≠0:=by simpa using hn (by omega)
   have:(d==0)=false:=by simpa using hd
   simp[this]
  |succ m=>
   cases l with
   |nil=>simp at hk'
   |cons e l=>simp
theorem nG(d:Int):∀l,bW d l=Go.L.bW d l
 |[]=>rfl
 |g::l=>by
  simp only[bW,Go.L.bW,<-nG d l,Go.Eng.jr]
section
open Go.Eng
variable{w:World}{mu:Nat->Prop}{π:List (Option PB)}
theorem zX(k:IntKind):∀(l:List Int) (b o:Nat),(∀j,j<l.length->w.cell? ⟨b,o+j,none⟩=some (.int k (l[j]?.getD 0)))->RvC w mu π (l.flatMap (Go.Eng.iC k)) b o
 |[],_,_,_=>trivial
 |x::l,b,o,h=>by
  refine⟨⟨.int k x,by simpa using h 0 (by simp),rfl,rfl⟩,zX k l b (o+1) fun j hj=>?_⟩;have:=h (j+1) (by simpa using hj);rw[show o+1+j=o+(j+1)by omega,this];simp
end
open Go.Eng in
def By:List AV->Option AV
 |[a,.at (.int .u32 d)]=>(match qo a with
  |some l=>(match decide (0<d)&&decide (d<=4294967295)with
   |true=>some (.tup [Go.Eng.slT (Go.Eng.iC .u32) (Go.L.nL (Go.L.bW d l).1),.at (.int .u32 (aa .u32 (Go.L.bW d l).2))])
   |false=>none)
  |none=>none)
 |_=>none
open Go.Eng in
theorem tx:lB Tryz.prog 186 By:=by
 intro args r h out w vs hout ha;unfold By at h;split at h
 ·rename_i A d;split at h
  ·rename_i l hl;split at h
   ·rename_i hd;cases h;simp only[Bool.and_eq_true,decide_eq_true_eq]at hd;obtain⟨v,vs',rfl,hv,u,us',rfl,hu,rfl⟩:=ha;cases hu;obtain⟨hlen,a,cap,rfl,hN⟩:=ns hl hv;have:=callsIn_wide.1 (E8 5 trivial trivial trivial rfl (Nat.le_refl _) a cap l d hd.1 hd.2 hlen w hN);refine this.mono ?_;rintro e w' ⟨⟨k,hk,rfl,hz,hn,hc⟩,hB⟩;rw[nG]at hz hn hc;have hk':k<=(Go.L.bW d l).1.length:=by rw[<-nG,jH];exact hk
    have ht:=wc (Go.L.bW d l).1 k hk' (fun j h1 h2=>hz j h1 (by rw[<-nG,jH]at h2;exact h2)) hn;have htl:(Go.L.nL (Go.L.bW d l).1).length=k:=by rw[<-ht,List.length_take];omega
    refine⟨_,rfl,nX hB,_,rfl,_,_,rfl,?_,_,_,rfl,?_,rfl⟩
    ·refine .inr (.inl ⟨w.heap.size+2,0,l.length,?_,by rw[htl];exact hk,fun _ ho=>?_,?_⟩)
     ·show _=Value.slice _ (Go.L.nL (Go.L.bW d l).1).length _;rw[htl]
     ·exact absurd (hout _ ho) (by omega)
     ·refine zX .u32 _ _ _ fun j hj=>?_
      rw[htl]at hj;rw[Nat.zero_add,hc j (by omega),<-ht];simp[hj]
    ·show _=Value.int _ _;rw[nG,jr]
   ·cases h
  ·cases h
 ·cases h
end Go.Proofs.YtglimpjlhfjgdaaGreat
