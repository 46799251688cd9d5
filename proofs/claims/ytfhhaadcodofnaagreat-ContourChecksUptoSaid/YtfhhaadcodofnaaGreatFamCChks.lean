import Derived.Test.YtfhhaadcodofnaaGreatSc19Chks
import Derived.Test.YtfhhaadcodofnaaGreatSortCChks
import Derived.Test.YtfhhaadcodofnaaGreatProg
import Derived.Test.YtfhhaadcodofnaaGreatChecked
import Derived.KernelRfl
import Derived.Shelf.SlSortCmp.SmallK
set_option linter.all false
namespace Go.Proofs.YtfhhaadcodofnaaGreat
open Go Go.Shelf Go.Eng Go.Proofs
theorem mF{g:FuncId}(eg:∀args w,(callFunc g args).run Tryz.prog w=.ok (.enter g args) w):Fam Tryz.prog g 2 87 88 89 91 90 92 93 94 46 where
 I:=fun {n} ih cf a b h1 h2 h3 enc cb blk off cap w hk he hc hH hb=>by
  have hs:(Array.ofFn (n:=n) id).size=n:=Array.size_ofFn;have h:=AnyQ.insertionSortCmpFunc (P:=Tryz.prog) (ρ:=fp) {jr with} 2 Tryz.isAgg30 Tryz.sizeOf30 enc hk he cf g cb blk off cap a b (Array.ofFn id) w eg (by rw[hs];exact hc) hH hb h1 (by rw[hs];exact h2) (by rw[hs];exact h3);rw[hs]at h;exact h
 H:=fun {n} ih cf a b h1 h2 h3 enc cb blk off cap w hk he hc hH hb=>by
  have hs:(Array.ofFn (n:=n) id).size=n:=Array.size_ofFn;have h:=AnyQ.heapSortCmpFunc (P:=Tryz.prog) (ρ:=fp) {jr with} 2 Tryz.isAgg30 Tryz.sizeOf30 enc cf g cb blk off cap a b (Array.ofFn id) (Array.ofFn id) w w eg (by rw[hs];exact hc) ⟨hk,he,hH,hb⟩ rfl (SWK.start hH) h1 (by rw[hs];exact h2) (by rw[hs];exact h3);rw[hs]at h;exact h
 B:=fun {n} ih cf a b h1 h2 h3 enc cb blk off cap w hk he hc hH hb=>by
  have hs:(Array.ofFn (n:=n) id).size=n:=Array.size_ofFn;have h:=AnyQ.breakPatternsCmpFunc (P:=Tryz.prog) (ρ:=fp) {jr with} 2 Tryz.isAgg30 Tryz.sizeOf30 enc g cb blk off cap a b (Array.ofFn id) (Array.ofFn id) w w ⟨hk,he,hH,hb⟩ rfl (SWK.start hH) h1 (by rw[hs];exact h2) (by rw[hs];exact h3);rw[hs]at h;exact h
 V:=fun {n} ih cf a b h1 h2 h3 enc cb blk off cap w hk he hc hH hb=>by
  have hs:(Array.ofFn (n:=n) id).size=n:=Array.size_ofFn;have h:=AnyQ.reverseRangeCmpFunc (P:=Tryz.prog) (ρ:=fp) {jr with} 2 Tryz.isAgg30 Tryz.sizeOf30 enc g cb blk off cap a b (Array.ofFn id) (Array.ofFn id) w w ⟨hk,he,hH,hb⟩ rfl (SWK.start hH) h1 (by rw[hs];exact h2) (by rw[hs];exact h3);rw[hs]at h;exact h
 C:=fun {n} ih cf a b h1 h2 h3 enc cb blk off cap w hk he hc hH hb=>by
  have hs:(Array.ofFn (n:=n) id).size=n:=Array.size_ofFn;have h:=AnyQ.choosePivotCmpFunc (P:=Tryz.prog) (ρ:=fp) {jr with} 2 Tryz.isAgg30 Tryz.sizeOf30 enc cf g cb blk off cap a b (Array.ofFn id) (Array.ofFn id) w w eg (by rw[hs];exact hc) ⟨hk,he,hH,hb⟩ rfl (SWK.start hH) h1 (by rw[hs];exact h2) (by rw[hs];exact h3);rw[hs]at h;exact h
 Q:=fun {n} ih cf a b h1 h2 h3 enc cb blk off cap w hk he hc hH hb=>by
  have hs:(Array.ofFn (n:=n) id).size=n:=Array.size_ofFn;have h:=AnyQ.partialInsertionSortCmpFunc (P:=Tryz.prog) (ρ:=fp) {jr with} 2 Tryz.isAgg30 Tryz.sizeOf30 enc cf g cb blk off cap a b (Array.ofFn id) (Array.ofFn id) w w eg (by rw[hs];exact hc) ⟨hk,he,hH,hb⟩ rfl (SWK.start hH) h1 (by rw[hs];exact h2) (by rw[hs];exact h3);rw[hs]at h;exact h
 E:=fun {n} ih cf a b p h1 h1' h2 h3 enc cb blk off cap w hk he hc hH hb=>by
  have hs:(Array.ofFn (n:=n) id).size=n:=Array.size_ofFn;have h:=AnyQ.partitionEqualCmpFunc (P:=Tryz.prog) (ρ:=fp) {jr with} 2 Tryz.isAgg30 Tryz.sizeOf30 enc cf g cb blk off cap a b p (Array.ofFn id) (Array.ofFn id) w w eg (by rw[hs];exact hc) ⟨hk,he,hH,hb⟩ rfl (SWK.start hH) h1 h1' (by rw[hs];exact h2) (by rw[hs];exact h3);rw[hs]at h;exact h
 T:=fun {n} ih cf a b p h1 h1' h2 h3 enc cb blk off cap w hk he hc hH hb=>by
  have hs:(Array.ofFn (n:=n) id).size=n:=Array.size_ofFn;have h:=AnyQ.partitionCmpFunc (P:=Tryz.prog) (ρ:=fp) {jr with} 2 Tryz.isAgg30 Tryz.sizeOf30 enc cf g cb blk off cap a b p (Array.ofFn id) (Array.ofFn id) w w eg (by rw[hs];exact hc) ⟨hk,he,hH,hb⟩ rfl (SWK.start hH) h1 h1' (by rw[hs];exact h2) (by rw[hs];exact h3);rw[hs]at h;exact h
 S:=fun {n} ih cf a b lim h1 h2 h12 h3 enc cb blk off cap w hk he hc hH hb=>by
  have hs:(Array.ofFn (n:=n) id).size=n:=Array.size_ofFn;have h:=AnyQ.pdqsortCmpFunc_small (P:=Tryz.prog) (ρ:=fp) {jr with} 2 Tryz.isAgg30 Tryz.sizeOf30 enc hk he cf g cb blk off cap a b lim (Array.ofFn id) w eg (by rw[hs];exact hc) hH hb h1 (by rw[hs];exact h2) (by rw[hs];exact h3) h12;rw[hs]at h;exact h
end Go.Proofs.YtfhhaadcodofnaaGreat
