import Derived.Test.YtfclmnpffhbcpaaGreatSc11Plds
import Derived.Sort.Grow
set_option linter.all false
set_option linter.unusedVariables false
namespace Go.Eng
open Go Go.RowKit
variable[Dr]
variable{K:Nat}{P:Program}
theorem yX{B mu:Nat->Prop}{w:World}{π:List (Option PB)}(os:Array Obj)(q:∀b,B b->b<w.heap.size):Ext B w (Sort.grow w os) mu mu π π:=
 ⟨fun b j=>Sort.heap_grow_old w os (q b j),by simp,fun b j h=>⟨Sort.heap_grow_old w os j,h⟩,fun _ _ h=>h,rfl,rfl,rfl,fun _=>Nat.le_refl _⟩
theorem Inv.GH{out B:Nat->Prop}{w:World}{π:List (Option PB)}{H:List Blk}(j:Inv out B w π H)(os:Array Obj):Inv out B (Sort.grow w os) π H:=by
 have z:Ext B w (Sort.grow w os) (aY out π H) (aY out π H) π π:=yX os j.bound;refine⟨j.len,fun b C=>Nat.lt_of_lt_of_le (j.bound b C) z.size,j.out_lt,fun i x p b h1 q D=>⟨(j.baseO i x p b h1 q D).1,Nat.lt_of_lt_of_le (j.baseO i x p b h1 q D).2 z.size⟩,fun i x p h1 q=>?_,j.sepO⟩;exact fD.ext z (fun b C=>Sort.heap_grow_old w os (j.baseO i x p b h1 q C).2) (j.ok i x p h1 q)
theorem Cq(k:IntKind)(j:List Int):j.flatMap (iC k)=j.map fun z=>AV.at (.int k z):=by
 induction j with
 |nil=>rfl
 |cons z j q=>rw[List.flatMap_cons,q];rfl
theorem Al{w:World}{mu:Nat->Prop}{π:List (Option PB)}(k:IntKind):∀j:List Int,RvL w mu π (j.map fun z=>AV.at (.int k z)) (j.map (Value.int k))
 |[]=>rfl
 |z::j=>⟨_,_,rfl,rfl,Al k j⟩
theorem cM.row{f:FuncId}{D q:List Int}(hlen:q.length=D.length)(h1:1<=D.length)
  (hs:∀(blk off cap:Nat) (w:World),Sort.Holds (Value.int .i64) w blk off D.toArray->blk<w.heap.size->Calls P f #[.slice (some ⟨blk,off,none⟩) D.length cap] w fun e w'=>
   e=.returned (.tuple #[])/\∃n os,w'=Sort.grow (Sort.putRow (Value.int .i64) (Sort.ahead w n) blk off q.toArray) os):
  cM K P f [.hs 0 0 D.length 1] [.own (D.flatMap (iC .i64))] (ki []) [.own (q.flatMap (iC .i64))]:=by
 intro out B w π vs O R;obtain⟨v,S,rfl,T,U⟩:=R;have U:S=[]:=U;subst U;rcases T with⟨hz,_⟩|⟨p,a,cap,hp,rfl,a6,Y,R⟩
 ·omega
 obtain⟨rfl,a7⟩:=R (by omega);obtain⟨⟨c,e,hb,hc⟩,hC⟩:=O.ok 0 _ p rfl hp;rw[Cq]at hC;have hblk:=(O.base 0 _ p rfl hp rfl).2;have hH:Sort.Holds (Value.int .i64) w p.blk (p.off+0) D.toArray:=by
  intro j I;have E:j<D.length:=by simpa using I
  refine⟨?_,by simp[World.frozen?,hb]⟩;obtain⟨u,g1,_,g3⟩:=RvC.get _ p.blk p.off j (.at (.int .i64 D[j])) hC (by simp[E]);have g3:u=.int .i64 D[j]:=g3;rw[Nat.add_zero,g1,g3];simp[E]
 refine(hs p.blk (p.off+0) cap w hH hblk).mono ?_;rintro e w' ⟨rfl,n,os,rfl⟩;have E:∀j v,(q.map (Value.int .i64))[j]?=some v->(Sort.putRow (Value.int .i64) (Sort.ahead w n) p.blk (p.off+0) q.toArray).cell? ⟨p.blk,p.off+j,none⟩=some v:=by
  intro j v I;have J:j<q.length:=by have:=aW I;simpa using this
  have:=Sort.cell?_putRow (Value.int .i64) (Sort.ahead w n) p.blk (p.off+0) D.toArray q.toArray (Sort.holds_ahead _ _ _ _ _ _ hH) (by simp[hlen]) j (by simpa using J);rw[Nat.add_zero]at this;rw[Nat.add_zero,this];simp[J]at I ⊢;exact I
 obtain⟨hE,N⟩:=O.tX (w':=Sort.putRow (Value.int .i64) (Sort.ahead w n) p.blk (p.off+0) q.toArray) (i:=0) (x:=.own (D.flatMap (iC .i64))) rfl hp rfl (.own (q.flatMap (iC .i64)))
  (by simp) (fun b Z=>by simp[Sort.putRow,Sort.mapBlock,Array.getElem?_modify,Ne.symm Z]) rfl rfl rfl (fun _=>Nat.le_add_right _ _) (fun hE=>by
   refine⟨⟨Sort.putCells (Value.int .i64) (p.off+0) q.toArray c,e,by simp[Sort.putRow,Sort.mapBlock,Array.getElem?_modify,hb,Sort.onCells],by simp[Sort.putCells,hc]⟩,?_⟩;rw[Cq .i64 q];exact jO _ _ _ _ (Al .i64 q) (fun v T=>by obtain⟨z,_,rfl⟩:=List.mem_map.1 T;rfl) E)
 have a1:Ext B _ (Sort.grow (Sort.putRow (Value.int .i64) (Sort.ahead w n) p.blk (p.off+0) q.toArray) os) (aY out π [.own (q.flatMap (iC .i64))]) (aY out π [.own (q.flatMap (iC .i64))]) π π:=yX os N.bound;have C:=hE.trans a1;exact⟨_,π,rfl,⟨C.low,C.size,C.keep,C.os,C.tape,C.output,qs.refl π,C.drawn⟩,N.GH os,⟨#[],rfl,rfl⟩⟩
theorem cM.Gn{f:FuncId}(hs:∀(p:Option Addr) (cap:Nat) (w:World),Calls P f #[.slice p 0 cap] w fun e w'=>e=.returned (.tuple #[])/\w'=w):
  cM K P f [.hs 0 0 0 1] [.own []] (ki []) [.own []]:=by
 intro out B w π vs E C;obtain⟨v,j,rfl,I,q⟩:=C;have q:j=[]:=q;subst q;have fin:∀e w',(e=Ending.returned (.tuple #[])/\w'=w)->∃u π',e=.returned u/\EK K B w w' (aY out π [.own []]) (aY out π' [.own []]) π π'/\Inv out B w' π' [.own []]/\Rv w' (aY out π' [.own []]) π' (ki []) u:=by
  rintro e w' ⟨rfl,rfl⟩;exact⟨_,π,rfl,EK.id,E,⟨#[],rfl,rfl⟩⟩
 rcases I with⟨_,rfl⟩|⟨p,a,cap,hp,rfl,D,z,C⟩
 ·exact(hs none 0 w).mono fin
 ·exact(hs (some a) cap w).mono fin
theorem vB(x:Int):∀l:List Int,(Go.L.Dc x l).Perm (x::l)
 |[]=>List.Perm.refl _
 |y::l=>by
  unfold Go.L.Dc;split
  ·exact List.Perm.refl _
  ·exact((vB x l).cons y).trans (List.Perm.swap x y l)
theorem qJ:∀l:List Int,(Go.L.sI l).Perm l
 |[]=>List.Perm.refl _
 |x::l=>(vB x _).trans ((qJ l).cons x)
theorem CD(x:Int):∀l:List Int,l.Pairwise (fun a b=>decide (a<=b)=true)->(Go.L.Dc x l).Pairwise (fun a b=>decide (a<=b)=true)
 |[],_=>List.pairwise_singleton _ _
 |y::l,h=>by
  unfold Go.L.Dc;obtain⟨h1,C⟩:=List.pairwise_cons.1 h;split
  ·rename_i q;refine List.pairwise_cons.2 ⟨fun z j=>?_,h⟩;rcases List.mem_cons.1 j with rfl|j
   ·exact decide_eq_true q
   ·have:=dcT (h1 z j);exact decide_eq_true (by omega)
  ·rename_i q;refine List.pairwise_cons.2 ⟨fun z j=>?_,CD x l C⟩;rcases List.mem_cons.1 ((vB x l).mem_iff.1 j)with rfl|j
   ·exact decide_eq_true (by omega)
   ·exact h1 z j
theorem zL:∀l:List Int,(Go.L.sI l).Pairwise (fun a b=>decide (a<=b)=true)
 |[]=>List.Pairwise.nil
 |x::l=>CD x _ (zL l)
theorem Fk(l:List Int):Go.L.sI l=l.mergeSort fun x y=>decide (x<=y):=
 List.Perm.eq_of_pairwise (le:=fun a b=>decide (a<=b)=true) (fun a b _ _ h1 j=>by simp at h1 j;omega) (zL l)
  (List.pairwise_mergeSort (fun a b c h1 j=>by simp at*;omega) (fun a b=>by simp;omega) l) ((qJ l).trans (List.mergeSort_perm l _).symm)
theorem Ep {f:FuncId} (hs:∀(blk off cap:Nat) (j:List Int) (w:World),Sort.Holds (Value.int .i64) w blk off j.toArray->blk<w.heap.size->j.length<4611686018427387904->Calls P f #[.slice (some ⟨blk,off,none⟩) j.length cap] w fun e w'=>
      e=.returned (.tuple #[])/\∃n os,w'=Sort.grow (Sort.putRow (Value.int .i64) (Sort.ahead w n) blk off (j.mergeSort fun x y=>decide (x<=y)).toArray) os)
 (q:∀(p:Option Addr) (cap:Nat) (w:World),Calls P f #[.slice p 0 cap] w fun e w'=>e=.returned (.tuple #[])/\w'=w) {j:List Int} (C:decide (j.length<4611686018427387904)=true):
 cM K P f [.hs 0 0 j.length 1] [.own (j.flatMap (iC .i64))] (ki []) [.own ((Go.L.sI j).flatMap (iC .i64))]:=by
 cases j with
 |nil=>exact cM.Gn q
 |cons z j=>
  exact cM.row (qJ _).length_eq (by simp) fun blk off cap w h1 D=>(hs blk off cap (z::j) w h1 D (dcT C)).mono fun e w' ⟨e1,n,os,e2⟩=>⟨e1,n,os,by rw[Fk];exact e2⟩
end Go.Eng

