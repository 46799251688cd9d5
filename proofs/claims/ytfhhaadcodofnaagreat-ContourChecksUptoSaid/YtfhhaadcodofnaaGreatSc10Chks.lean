import Derived.Test.YtfhhaadcodofnaaGreatSc11Chks
import Derived.Sort.Grow
set_option linter.all false
set_option linter.unusedVariables false
namespace Go.Eng
open Go Go.RowKit
variable[Dr]
variable{K:Nat}{P:Program}
theorem tA{B mu:Nat->Prop}{w:World}{π:List (Option PB)}(os:Array Obj)(j:∀b,B b->b<w.heap.size):Ext B w (Sort.grow w os) mu mu π π:=
 ⟨fun b hb=>Sort.heap_grow_old w os (j b hb),by simp,fun b hb h=>⟨Sort.heap_grow_old w os hb,h⟩,fun _ _ h=>h,rfl,rfl,rfl,fun _=>Nat.le_refl _⟩
theorem Inv.ER{out B:Nat->Prop}{w:World}{π:List (Option PB)}{H:List Blk}(j:Inv out B w π H)(os:Array Obj):Inv out B (Sort.grow w os) π H:=by
 have m:Ext B w (Sort.grow w os) (aL out π H) (aL out π H) π π:=tA os j.bound;refine⟨j.len,fun b hb=>Nat.lt_of_lt_of_le (j.bound b hb) m.size,j.out_lt,fun i x p b h1 h2 q=>⟨(j.baseO i x p b h1 h2 q).1,Nat.lt_of_lt_of_le (j.baseO i x p b h1 h2 q).2 m.size⟩,fun i x p h1 h2=>?_,j.sepO⟩;exact gT.ext m (fun b hb=>Sort.heap_grow_old w os (j.baseO i x p b h1 h2 hb).2) (j.ok i x p h1 h2)
theorem DV(k:IntKind)(j:List Int):j.flatMap (iC k)=j.map fun z=>AV.at (.int k z):=by
 induction j with
 |nil=>rfl
 |cons z j m=>rw[List.flatMap_cons,m];rfl
theorem By{w:World}{mu:Nat->Prop}{π:List (Option PB)}(k:IntKind):∀j:List Int,RvL w mu π (j.map fun z=>AV.at (.int k z)) (j.map (Value.int k))
 |[]=>rfl
 |z::j=>⟨_,_,rfl,rfl,By k j⟩
theorem bO.row{f:FuncId}{C m:List Int}(hlen:m.length=C.length)(h1:1<=C.length)
  (hs:∀(blk off cap:Nat) (w:World),Sort.Holds (Value.int .i64) w blk off C.toArray->blk<w.heap.size->Calls P f #[.slice (some ⟨blk,off,none⟩) C.length cap] w fun e w'=>
   e=.returned (.tuple #[])/\∃n os,w'=Sort.grow (Sort.putRow (Value.int .i64) (Sort.ahead w n) blk off m.toArray) os):
  bO K P f [.hs 0 0 C.length 1] [.own (C.flatMap (iC .i64))] (jv []) [.own (m.flatMap (iC .i64))]:=by
 intro out B w π vs N ha;obtain⟨v,O,rfl,T,U⟩:=ha;have U:O=[]:=U;subst U;rcases T with⟨hz,_⟩|⟨p,a,cap,hp,rfl,a7,Y,ha⟩
 ·omega
 obtain⟨rfl,a8⟩:=ha (by omega);obtain⟨⟨c,e,hb,hc⟩,hC⟩:=N.ok 0 _ p rfl hp;rw[DV]at hC;have hblk:=(N.base 0 _ p rfl hp rfl).2;have hH:Sort.Holds (Value.int .i64) w p.blk (p.off+0) C.toArray:=by
  intro j E;have D:j<C.length:=by simpa using E
  refine⟨?_,by simp[World.frozen?,hb]⟩;obtain⟨u,g1,_,g3⟩:=RvC.get _ p.blk p.off j (.at (.int .i64 C[j])) hC (by simp[D]);have g3:u=.int .i64 C[j]:=g3;rw[Nat.add_zero,g1,g3];simp[D]
 refine(hs p.blk (p.off+0) cap w hH hblk).mono ?_;rintro e w' ⟨rfl,n,os,rfl⟩;have D:∀j v,(m.map (Value.int .i64))[j]?=some v->(Sort.putRow (Value.int .i64) (Sort.ahead w n) p.blk (p.off+0) m.toArray).cell? ⟨p.blk,p.off+j,none⟩=some v:=by
  intro j v E;have I:j<m.length:=by have:=aT E;simpa using this
  have:=Sort.cell?_putRow (Value.int .i64) (Sort.ahead w n) p.blk (p.off+0) C.toArray m.toArray (Sort.holds_ahead _ _ _ _ _ _ hH) (by simp[hlen]) j (by simpa using I);rw[Nat.add_zero]at this;rw[Nat.add_zero,this];simp[I]at E ⊢;exact E
 obtain⟨hE,J⟩:=N.rm (w':=Sort.putRow (Value.int .i64) (Sort.ahead w n) p.blk (p.off+0) m.toArray) (i:=0) (x:=.own (C.flatMap (iC .i64))) rfl hp rfl (.own (m.flatMap (iC .i64)))
  (by simp) (fun b a1=>by simp[Sort.putRow,Sort.mapBlock,Array.getElem?_modify,Ne.symm a1]) rfl rfl rfl (fun _=>Nat.le_add_right _ _) (fun hE=>by
   refine⟨⟨Sort.putCells (Value.int .i64) (p.off+0) m.toArray c,e,by simp[Sort.putRow,Sort.mapBlock,Array.getElem?_modify,hb,Sort.onCells],by simp[Sort.putCells,hc]⟩,?_⟩;rw[DV .i64 m];exact iV _ _ _ _ (By .i64 m) (fun v T=>by obtain⟨z,_,rfl⟩:=List.mem_map.1 T;rfl) D)
 have a6:Ext B _ (Sort.grow (Sort.putRow (Value.int .i64) (Sort.ahead w n) p.blk (p.off+0) m.toArray) os) (aL out π [.own (m.flatMap (iC .i64))]) (aL out π [.own (m.flatMap (iC .i64))]) π π:=tA os J.bound;have q:=hE.trans a6;exact⟨_,π,rfl,⟨q.low,q.size,q.keep,q.os,q.tape,q.output,pQ.refl π,q.drawn⟩,J.ER os,⟨#[],rfl,rfl⟩⟩
end Go.Eng

