import Derived.Test.YtglimpjlhfjgdaaGreatEng16Slds
import Derived.Test.YtglimpjlhfjgdaaGreatBackSlds
import Derived.KernelRfl
set_option linter.all false
namespace Go.Proofs.YtglimpjlhfjgdaaGreat
open Go Go.RowKit Go.Proofs Go.Eng
theorem MI:rQ Tryz.prog:=by
 have h:(Tryz.prog.funcs.toList.all fun fn=>!(decide (fn.name= "runtime.NumGoroutine")))=true:=by kernel_rfl
 intro f fn hf;have hm:fn∈Tryz.prog.funcs.toList:=by rw[<-Array.getElem?_toList]at hf;exact List.mem_of_getElem? hf
 have:=List.all_eq_true.1 h fn hm;simpa using this
theorem follows:Tryz.prog.follows .mixedOrders=true:=by kernel_rfl
def DP:List AV->Option (List Int)
 |[]=>some []
 |.at (.int .u32 n)::l=>(match DP l with|some r=>some (n::r)|none=>none)
 |_=>none
def qo:AV->Option (List Int)
 |.at (.slice none 0 0)=>some []
 |.sl _ cs len=>(match decide (cs.length=len)&&decide (len<=1099511627776),DP cs with|true,r=>r|_,_=>none)
 |_=>none
section
variable{w:World}{mu:Nat->Prop}{π:List (Option PB)}
theorem xx:∀(cs:List AV) (zs:List Int) (b o:Nat),DP cs=some zs->RvC w mu π cs b o->zs.length=cs.length/\∀j,j<zs.length->w.cell? ⟨b,o+j,none⟩=some (.int .u32 (zs[j]?.getD 0))
 |[],zs,b,o,h,_=>by cases h;exact⟨rfl,fun j hj=>by simp at hj⟩
 |c::cs,zs,b,o,h,hc=>by
  unfold DP at h;split at h
  ·rename_i e;cases e
  ·rename_i n l e;cases e;split at h
   ·rename_i r hr;cases h;obtain⟨⟨v,h1,_,h2⟩,h3⟩:=hc;obtain⟨g1,g2⟩:=xx cs r b (o+1) hr h3;refine⟨by simp[g1],fun j hj=>?_⟩;cases j with
    |zero=>rw[show v=Value.int .u32 n from h2]at h1;simpa using h1
    |succ j=>
     have:=g2 j (by simpa using hj);rw[show o+1+j=o+(j+1)by omega]at this;simpa using this
   ·cases h
  ·cases h
theorem ns{A:AV}{v:Value}{zs:List Int}(h:qo A=some zs)(hv:Rv w mu π A v):zs.length<=1099511627776/\∃a cap,v=.slice a zs.length cap/\zu .u32 w.heap.size w v zs:=by
 unfold qo at h;split at h
 ·cases h;cases hv;exact⟨by simp,none,0,rfl,.inl ⟨⟨_,_,rfl⟩,rfl⟩⟩
 ·rename_i nl cs len;split at h
  ·rename_i hb;simp only[Bool.and_eq_true,decide_eq_true_eq]at hb;rcases hv with⟨_,rfl,rfl,rfl⟩|⟨b,o,cap,rfl,h1,h2,h3⟩|⟨rfl,rfl,a,cap,rfl⟩
   rotate_left 2
   ·cases h;exact⟨by simp,some a,cap,rfl,.inl ⟨⟨_,_,rfl⟩,rfl⟩⟩
   ·cases h;exact⟨by simp,none,0,rfl,.inl ⟨⟨_,_,rfl⟩,rfl⟩⟩
   ·obtain⟨g1,g2⟩:=xx cs zs b o h h3;have hl:zs.length=len:=by omega
    subst hl;refine⟨by omega,_,cap,rfl,.inr ⟨b,o,cap,rfl,fun hne=>?_,g2⟩⟩;have:cs≠[]:=by rintro rfl;simp at g1;exact hne g1
    cases cs with
    |nil=>exact(this rfl).elim
    |cons c cs=>obtain⟨⟨u,hu,_⟩,_⟩:=h3;exact World.block_lt_of_cell? _ ⟨b,o,none⟩ hu
  ·cases h
 ·cases h
end
theorem nX{w w':World}{out:Nat->Prop}(h:Below w.heap.size w w'):Ext (Lo w.heap.size) w w' out out [] []:=
 ⟨h.block,h.size,fun b hb ho=>⟨h.block b hb,ho⟩,by simp,h.os,h.tape,h.output,fun e=>by cases e⟩
def CL:List AV->Option AV
 |[a]=>(match qo a with
  |some l=>(match decide (l.length>2)with
   |true=>some (.tup [.at (.int .u64 0),.at (.bool false)])
   |false=>some (.tup [.at (.int .u64 (qj l.reverse)),.at (.bool true)]))
  |none=>none)
 |_=>none
theorem G1(zs:List Int):(upto (bw zs) zs.length).map (·.2)=zs.reverse:=by
 apply List.ext_getElem
 ·simp[upto]
 ·intro i h1 h2;have hi:i<zs.length:=by simpa using h2
  simp only[upto,List.map_map,List.getElem_map,List.getElem_range,Function.comp,bw,List.getElem_reverse];rw[geT (by omega)];rfl
theorem pj:lB Tryz.prog 149 CL:=by
 intro args r h out w vs hout ha;unfold CL at h;split at h
 ·rename_i A;split at h
  ·rename_i l hl;obtain⟨v,vs',rfl,hv,rfl⟩:=ha;obtain⟨hlen,a,cap,rfl,hN⟩:=ns hl hv;have:=callsIn_wide.1 (HT Fence.wide 3 trivial trivial trivial rfl (Nat.le_refl _) a l.length cap l hlen w hN rfl);refine this.mono ?_;rintro e w' ⟨rfl,hB⟩;split at h
   ·rename_i hd;cases h;simp only[decide_eq_true_eq]at hd;rw[if_pos hd];exact⟨_,rfl,nX hB,_,rfl,_,_,rfl,rfl,_,_,rfl,rfl,rfl⟩
   ·rename_i hd;cases h;simp only[decide_eq_false_iff_not]at hd;rw[if_neg hd,G1];exact⟨_,rfl,nX hB,_,rfl,_,_,rfl,rfl,_,_,rfl,rfl,rfl⟩
  ·cases h
 ·cases h
def GV:List AV->Option AV
 |[a,b]=>(match qo a,qo b with
  |some l,some k=>(match decide (l.length=k.length)with
   |true=>some (.at (.int .i64 (pP l k)))
   |false=>some (.at (.int .i64 (nC l.length k.length))))
  |_,_=>none)
 |_=>none
theorem kB:lB Tryz.prog 138 GV:=by
 intro args r h out w vs hout ha;unfold GV at h;split at h
 ·rename_i A B;split at h
  ·rename_i l k hl hk;obtain⟨v,vs',rfl,hv,u,us',rfl,hu,rfl⟩:=ha;obtain⟨hlen,a,cap,rfl,hN⟩:=ns hl hv;obtain⟨hlen',a',cap',rfl,hN'⟩:=ns hk hu;have:=callsIn_wide.1 (BZ Fence.wide 5 trivial trivial trivial trivial trivial trivial trivial rfl (Nat.le_refl _) a a' cap cap' l k hlen hlen' w hN hN');refine this.mono ?_;rintro e w' ⟨⟨r',rfl,h1,h2⟩,hB⟩;split at h
   ·rename_i hd;cases h;simp only[decide_eq_true_eq]at hd;rw[<-lX l k r' hd (h2 hd)];exact⟨_,rfl,nX hB,rfl⟩
   ·rename_i hd;cases h;simp only[decide_eq_false_iff_not]at hd;rw[<-h1 hd];exact⟨_,rfl,nX hB,rfl⟩
  ·cases h
 ·cases h
def X0:FuncId->Option (List AV->Option AV):=fun f=>match Nat.beq f 149 with|true=>some CL|false=>(match Nat.beq f 138 with|true=>some GV|false=>none)
theorem MP:∀f F,X0 f=some F->lB Tryz.prog f F:=by
 intro f F h;unfold X0 at h;split at h
 ·rename_i e;cases h;rw[Nat.eq_of_beq_eq_true e];exact pj
 ·split at h
  ·rename_i e;cases h;rw[Nat.eq_of_beq_eq_true e];exact kB
  ·cases h
end Go.Proofs.YtglimpjlhfjgdaaGreat
