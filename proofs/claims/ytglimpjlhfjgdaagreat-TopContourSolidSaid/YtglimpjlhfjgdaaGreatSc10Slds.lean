import Derived.Test.YtglimpjlhfjgdaaGreatSc11Slds
import Derived.Sort.Grow
set_option linter.all false
set_option linter.unusedVariables false
namespace Go.Eng
open Go Go.RowKit
variable[Dr]
variable{K:Nat}{P:Program}
theorem uy{B mu:Nat->Prop}{w:World}{π:List (Option PB)}(os:Array Obj)(m:∀b,B b->b<w.heap.size):Ext B w (Sort.grow w os) mu mu π π:=
 ⟨fun b j=>Sort.heap_grow_old w os (m b j),by simp,fun b j h=>⟨Sort.heap_grow_old w os j,h⟩,fun _ _ h=>h,rfl,rfl,rfl,fun _=>Nat.le_refl _⟩
theorem Inv.H5{out B:Nat->Prop}{w:World}{π:List (Option PB)}{H:List Blk}(j:Inv out B w π H)(os:Array Obj):Inv out B (Sort.grow w os) π H:=by
 have m:Ext B w (Sort.grow w os) (aI out π H) (aI out π H) π π:=uy os j.bound;refine⟨j.len,fun b q=>Nat.lt_of_lt_of_le (j.bound b q) m.size,j.out_lt,fun i x p b h1 h2 z=>⟨(j.baseO i x p b h1 h2 z).1,Nat.lt_of_lt_of_le (j.baseO i x p b h1 h2 z).2 m.size⟩,fun i x p h1 h2=>?_,j.sepO⟩;exact dy.ext m (fun b q=>Sort.heap_grow_old w os (j.baseO i x p b h1 h2 q).2) (j.ok i x p h1 h2)
theorem Dw(k:IntKind)(j:List Int):j.flatMap (iC k)=j.map fun z=>AV.at (.int k z):=by
 induction j with
 |nil=>rfl
 |cons z j m=>rw[List.flatMap_cons,m];rfl
theorem Ah{w:World}{mu:Nat->Prop}{π:List (Option PB)}(k:IntKind):∀j:List Int,RvL w mu π (j.map fun z=>AV.at (.int k z)) (j.map (Value.int k))
 |[]=>rfl
 |z::j=>⟨_,_,rfl,rfl,Ah k j⟩
theorem dr.row{f:FuncId}{C m:List Int}(hlen:m.length=C.length)(h1:1<=C.length)
  (hs:∀(blk off cap:Nat) (w:World),Sort.Holds (Value.int .i64) w blk off C.toArray->blk<w.heap.size->Calls P f #[.slice (some ⟨blk,off,none⟩) C.length cap] w fun e w'=>
   e=.returned (.tuple #[])/\∃n os,w'=Sort.grow (Sort.putRow (Value.int .i64) (Sort.ahead w n) blk off m.toArray) os):
  dr K P f [.hs 0 0 C.length 1] [.own (C.flatMap (iC .i64))] (gL []) [.own (m.flatMap (iC .i64))]:=by
 intro out B w π vs M N;obtain⟨v,O,rfl,T,U⟩:=N;have U:O=[]:=U;subst U;rcases T with⟨hz,_⟩|⟨p,a,cap,hp,rfl,a7,Y,N⟩
 ·omega
 obtain⟨rfl,a8⟩:=N (by omega);obtain⟨⟨c,e,hb,hc⟩,hC⟩:=M.ok 0 _ p rfl hp;rw[Dw]at hC;have hblk:=(M.base 0 _ p rfl hp rfl).2;have hH:Sort.Holds (Value.int .i64) w p.blk (p.off+0) C.toArray:=by
  intro j E;have D:j<C.length:=by simpa using E
  refine⟨?_,by simp[World.frozen?,hb]⟩;obtain⟨u,g1,_,g3⟩:=RvC.get _ p.blk p.off j (.at (.int .i64 C[j])) hC (by simp[D]);have g3:u=.int .i64 C[j]:=g3;rw[Nat.add_zero,g1,g3];simp[D]
 refine(hs p.blk (p.off+0) cap w hH hblk).mono ?_;rintro e w' ⟨rfl,n,os,rfl⟩;have D:∀j v,(m.map (Value.int .i64))[j]?=some v->(Sort.putRow (Value.int .i64) (Sort.ahead w n) p.blk (p.off+0) m.toArray).cell? ⟨p.blk,p.off+j,none⟩=some v:=by
  intro j v E;have I:j<m.length:=by have:=aK E;simpa using this
  have:=Sort.cell?_putRow (Value.int .i64) (Sort.ahead w n) p.blk (p.off+0) C.toArray m.toArray (Sort.holds_ahead _ _ _ _ _ _ hH) (by simp[hlen]) j (by simpa using I);rw[Nat.add_zero]at this;rw[Nat.add_zero,this];simp[I]at E ⊢;exact E
 obtain⟨hE,J⟩:=M.pv (w':=Sort.putRow (Value.int .i64) (Sort.ahead w n) p.blk (p.off+0) m.toArray) (i:=0) (x:=.own (C.flatMap (iC .i64))) rfl hp rfl (.own (m.flatMap (iC .i64)))
  (by simp) (fun b a1=>by simp[Sort.putRow,Sort.mapBlock,Array.getElem?_modify,Ne.symm a1]) rfl rfl rfl (fun _=>Nat.le_add_right _ _) (fun hE=>by
   refine⟨⟨Sort.putCells (Value.int .i64) (p.off+0) m.toArray c,e,by simp[Sort.putRow,Sort.mapBlock,Array.getElem?_modify,hb,Sort.onCells],by simp[Sort.putCells,hc]⟩,?_⟩;rw[Dw .i64 m];exact gV _ _ _ _ (Ah .i64 m) (fun v T=>by obtain⟨z,_,rfl⟩:=List.mem_map.1 T;rfl) D)
 have a6:Ext B _ (Sort.grow (Sort.putRow (Value.int .i64) (Sort.ahead w n) p.blk (p.off+0) m.toArray) os) (aI out π [.own (m.flatMap (iC .i64))]) (aI out π [.own (m.flatMap (iC .i64))]) π π:=uy os J.bound;have q:=hE.trans a6;exact⟨_,π,rfl,⟨q.low,q.size,q.keep,q.os,q.tape,q.output,mR.refl π,q.drawn⟩,J.H5 os,⟨#[],rfl,rfl⟩⟩
end Go.Eng

