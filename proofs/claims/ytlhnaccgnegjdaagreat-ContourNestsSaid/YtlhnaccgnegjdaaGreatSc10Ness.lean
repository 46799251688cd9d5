import Derived.Test.YtlhnaccgnegjdaaGreatSc11Ness
import Derived.Sort.Grow
set_option linter.all false
set_option linter.unusedVariables false
namespace Go.Eng
open Go Go.RowKit
variable[Dr]
variable{K:Nat}{P:Program}
theorem vS{B mu:Nat->Prop}{w:World}{π:List (Option PB)}(os:Array Obj)(j:∀b,B b->b<w.heap.size):Ext B w (Sort.grow w os) mu mu π π:=
 ⟨fun b hb=>Sort.heap_grow_old w os (j b hb),by simp,fun b hb h=>⟨Sort.heap_grow_old w os hb,h⟩,fun _ _ h=>h,rfl,rfl,rfl,fun _=>Nat.le_refl _⟩
theorem Inv.Hg{out B:Nat->Prop}{w:World}{π:List (Option PB)}{H:List Blk}(j:Inv out B w π H)(os:Array Obj):Inv out B (Sort.grow w os) π H:=by
 have m:Ext B w (Sort.grow w os) (aG out π H) (aG out π H) π π:=vS os j.bound;refine⟨j.len,fun b hb=>Nat.lt_of_lt_of_le (j.bound b hb) m.size,j.out_lt,fun i x p b h1 h2 q=>⟨(j.baseO i x p b h1 h2 q).1,Nat.lt_of_lt_of_le (j.baseO i x p b h1 h2 q).2 m.size⟩,fun i x p h1 h2=>?_,j.sepO⟩;exact eD.ext m (fun b hb=>Sort.heap_grow_old w os (j.baseO i x p b h1 h2 hb).2) (j.ok i x p h1 h2)
theorem CN(k:IntKind)(j:List Int):j.flatMap (iC k)=j.map fun z=>AV.at (.int k z):=by
 induction j with
 |nil=>rfl
 |cons z j m=>rw[List.flatMap_cons,m];rfl
theorem BL{w:World}{mu:Nat->Prop}{π:List (Option PB)}(k:IntKind):∀j:List Int,RvL w mu π (j.map fun z=>AV.at (.int k z)) (j.map (Value.int k))
 |[]=>rfl
 |z::j=>⟨_,_,rfl,rfl,BL k j⟩
theorem fh.row{f:FuncId}{C m:List Int}(hlen:m.length=C.length)(h1:1<=C.length)
  (hs:∀(blk off cap:Nat) (w:World),Sort.Holds (Value.int .i64) w blk off C.toArray->blk<w.heap.size->Calls P f #[.slice (some ⟨blk,off,none⟩) C.length cap] w fun e w'=>
   e=.returned (.tuple #[])/\∃n os,w'=Sort.grow (Sort.putRow (Value.int .i64) (Sort.ahead w n) blk off m.toArray) os):
  fh K P f [.hs 0 0 C.length 1] [.own (C.flatMap (iC .i64))] (jg []) [.own (m.flatMap (iC .i64))]:=by
 intro out B w π vs N ha;obtain⟨v,O,rfl,T,U⟩:=ha;have U:O=[]:=U;subst U;rcases T with⟨hz,_⟩|⟨p,a,cap,hp,rfl,a2,Y,ha⟩
 ·omega
 obtain⟨rfl,a3⟩:=ha (by omega);obtain⟨⟨c,e,hb,hc⟩,hC⟩:=N.ok 0 _ p rfl hp;rw[CN]at hC;have E:=(N.base 0 _ p rfl hp rfl).2;have hH:Sort.Holds (Value.int .i64) w p.blk (p.off+0) C.toArray:=by
  intro j I;have D:j<C.length:=by simpa using I
  refine⟨?_,by simp[World.frozen?,hb]⟩;obtain⟨u,g1,_,g3⟩:=RvC.get _ p.blk p.off j (.at (.int .i64 C[j])) hC (by simp[D]);have g3:u=.int .i64 C[j]:=g3;rw[Nat.add_zero,g1,g3];simp[D]
 refine(hs p.blk (p.off+0) cap w hH E).mono ?_;rintro e w' ⟨rfl,n,os,rfl⟩;have D:∀j v,(m.map (Value.int .i64))[j]?=some v->(Sort.putRow (Value.int .i64) (Sort.ahead w n) p.blk (p.off+0) m.toArray).cell? ⟨p.blk,p.off+j,none⟩=some v:=by
  intro j v I;have J:j<m.length:=by have:=aN I;simpa using this
  have:=Sort.cell?_putRow (Value.int .i64) (Sort.ahead w n) p.blk (p.off+0) C.toArray m.toArray (Sort.holds_ahead _ _ _ _ _ _ hH) (by simp[hlen]) j (by simpa using J);rw[Nat.add_zero]at this;rw[Nat.add_zero,this];simp[J]at I ⊢;exact I
 obtain⟨hE,M⟩:=N.se (w':=Sort.putRow (Value.int .i64) (Sort.ahead w n) p.blk (p.off+0) m.toArray) (i:=0) (x:=.own (C.flatMap (iC .i64))) rfl hp rfl (.own (m.flatMap (iC .i64)))
  (by simp) (fun b a0=>by simp[Sort.putRow,Sort.mapBlock,Array.getElem?_modify,Ne.symm a0]) rfl rfl rfl (fun _=>Nat.le_add_right _ _) (fun hE=>by
   refine⟨⟨Sort.putCells (Value.int .i64) (p.off+0) m.toArray c,e,by simp[Sort.putRow,Sort.mapBlock,Array.getElem?_modify,hb,Sort.onCells],by simp[Sort.putCells,hc]⟩,?_⟩;rw[CN .i64 m];exact jY _ _ _ _ (BL .i64 m) (fun v T=>by obtain⟨z,_,rfl⟩:=List.mem_map.1 T;rfl) D)
 have a1:Ext B _ (Sort.grow (Sort.putRow (Value.int .i64) (Sort.ahead w n) p.blk (p.off+0) m.toArray) os) (aG out π [.own (m.flatMap (iC .i64))]) (aG out π [.own (m.flatMap (iC .i64))]) π π:=vS os M.bound;have q:=hE.trans a1;exact⟨_,π,rfl,⟨q.low,q.size,q.keep,q.os,q.tape,q.output,pO.refl π,q.drawn⟩,M.Hg os,⟨#[],rfl,rfl⟩⟩
end Go.Eng

