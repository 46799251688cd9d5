import Derived.Test.YtfclmnpffhbcpaaGreatEng16Plds
import Derived.Test.YtfclmnpffhbcpaaGreatBackPlds
import Derived.KernelRfl
set_option linter.all false
namespace Go.Proofs.YtfclmnpffhbcpaaGreat
open Go Go.RowKit Go.Proofs Go.Eng
theorem Hh:zA Tryz.prog:=by
 have h:(Tryz.prog.funcs.toList.all fun fn=>!(decide (fn.name= "runtime.NumGoroutine")))=true:=by kernel_rfl
 intro f fn hf;have hm:fn∈Tryz.prog.funcs.toList:=by rw[<-Array.getElem?_toList]at hf;exact List.mem_of_getElem? hf
 have:=List.all_eq_true.1 h fn hm;simpa using this
theorem follows:Tryz.prog.follows .mixedOrders=true:=by kernel_rfl
def De:List AV->Option (List Int)
 |[]=>some []
 |.at (.int .u32 n)::l=>(match De l with|some r=>some (n::r)|none=>none)
 |_=>none
def sB:AV->Option (List Int)
 |.at (.slice none 0 0)=>some []
 |.sl _ cs len=>(match decide (cs.length=len)&&decide (len<=1099511627776),De cs with|true,r=>r|_,_=>none)
 |_=>none
section
variable{w:World}{mu:Nat->Prop}{π:List (Option PB)}
theorem xT:∀(cs:List AV) (zs:List Int) (b o:Nat),De cs=some zs->RvC w mu π cs b o->zs.length=cs.length/\∀j,j<zs.length->w.cell? ⟨b,o+j,none⟩=some (.int .u32 (zs[j]?.getD 0))
 |[],zs,b,o,h,_=>by cases h;exact⟨rfl,fun j hj=>by simp at hj⟩
 |c::cs,zs,b,o,h,hc=>by
  unfold De at h;split at h
  ·rename_i e;cases e
  ·rename_i n l e;cases e;split at h
   ·rename_i r hr;cases h;obtain⟨⟨v,h1,_,h2⟩,h3⟩:=hc;obtain⟨g1,g2⟩:=xT cs r b (o+1) hr h3;refine⟨by simp[g1],fun j hj=>?_⟩;cases j with
    |zero=>rw[show v=Value.int .u32 n from h2]at h1;simpa using h1
    |succ j=>
     have:=g2 j (by simpa using hj);rw[show o+1+j=o+(j+1)by omega]at this;simpa using this
   ·cases h
  ·cases h
theorem pQ{A:AV}{v:Value}{zs:List Int}(h:sB A=some zs)(hv:Rv w mu π A v):zs.length<=1099511627776/\∃a cap,v=.slice a zs.length cap/\ze .u32 w.heap.size w v zs:=by
 unfold sB at h;split at h
 ·cases h;cases hv;exact⟨by simp,none,0,rfl,.inl ⟨⟨_,_,rfl⟩,rfl⟩⟩
 ·rename_i nl cs len;split at h
  ·rename_i hb;simp only[Bool.and_eq_true,decide_eq_true_eq]at hb;rcases hv with⟨_,rfl,rfl,rfl⟩|⟨b,o,cap,rfl,h1,h2,h3⟩|⟨rfl,rfl,a,cap,rfl⟩
   rotate_left 2
   ·cases h;exact⟨by simp,some a,cap,rfl,.inl ⟨⟨_,_,rfl⟩,rfl⟩⟩
   ·cases h;exact⟨by simp,none,0,rfl,.inl ⟨⟨_,_,rfl⟩,rfl⟩⟩
   ·obtain⟨g1,g2⟩:=xT cs zs b o h h3;have hl:zs.length=len:=by omega
    subst hl;refine⟨by omega,_,cap,rfl,.inr ⟨b,o,cap,rfl,fun hne=>?_,g2⟩⟩;have:cs≠[]:=by rintro rfl;simp at g1;exact hne g1
    cases cs with
    |nil=>exact(this rfl).elim
    |cons c cs=>obtain⟨⟨u,hu,_⟩,_⟩:=h3;exact World.block_lt_of_cell? _ ⟨b,o,none⟩ hu
  ·cases h
 ·cases h
end
theorem qV{w w':World}{out:Nat->Prop}(h:Below w.heap.size w w'):Ext (Lo w.heap.size) w w' out out [] []:=
 ⟨h.block,h.size,fun b hb ho=>⟨h.block b hb,ho⟩,by simp,h.os,h.tape,h.output,fun e=>by cases e⟩
def Cu:List AV->Option AV
 |[a]=>(match sB a with
  |some l=>(match decide (l.length>2)with
   |true=>some (.tup [.at (.int .u64 0),.at (.bool false)])
   |false=>some (.tup [.at (.int .u64 (sA l.reverse)),.at (.bool true)]))
  |none=>none)
 |_=>none
theorem Fq(zs:List Int):(upto (bw zs) zs.length).map (·.2)=zs.reverse:=by
 apply List.ext_getElem
 ·simp[upto]
 ·intro i h1 h2;have hi:i<zs.length:=by simpa using h2
  simp only[upto,List.map_map,List.getElem_map,List.getElem_range,Function.comp,bw,List.getElem_reverse];rw[geT (by omega)];rfl
theorem rB:Au Tryz.prog 122 Cu:=by
 intro args r h out w vs hout ha;unfold Cu at h;split at h
 ·rename_i A;split at h
  ·rename_i l hl;obtain⟨v,vs',rfl,hv,rfl⟩:=ha;obtain⟨hlen,a,cap,rfl,hN⟩:=pQ hl hv;have:=callsIn_wide.1 (FD Fence.wide 3 trivial trivial trivial rfl (Nat.le_refl _) a l.length cap l hlen w hN rfl);refine this.mono ?_;rintro e w' ⟨rfl,hB⟩;split at h
   ·rename_i hd;cases h;simp only[decide_eq_true_eq]at hd;rw[if_pos hd];exact⟨_,rfl,qV hB,_,rfl,_,_,rfl,rfl,_,_,rfl,rfl,rfl⟩
   ·rename_i hd;cases h;simp only[decide_eq_false_iff_not]at hd;rw[if_neg hd,Fq];exact⟨_,rfl,qV hB,_,rfl,_,_,rfl,rfl,_,_,rfl,rfl,rfl⟩
  ·cases h
 ·cases h
def Fm:List AV->Option AV
 |[a,b]=>(match sB a,sB b with
  |some l,some k=>(match decide (l.length=k.length)with
   |true=>some (.at (.int .i64 (rX l k)))
   |false=>some (.at (.int .i64 (qg l.length k.length))))
  |_,_=>none)
 |_=>none
theorem nB:Au Tryz.prog 121 Fm:=by
 intro args r h out w vs hout ha;unfold Fm at h;split at h
 ·rename_i A B;split at h
  ·rename_i l k hl hk;obtain⟨v,vs',rfl,hv,u,us',rfl,hu,rfl⟩:=ha;obtain⟨hlen,a,cap,rfl,hN⟩:=pQ hl hv;obtain⟨hlen',a',cap',rfl,hN'⟩:=pQ hk hu;have:=callsIn_wide.1 (BI Fence.wide 5 trivial trivial trivial trivial trivial trivial trivial rfl (Nat.le_refl _) a a' cap cap' l k hlen hlen' w hN hN');refine this.mono ?_;rintro e w' ⟨⟨r',rfl,h1,h2⟩,hB⟩;split at h
   ·rename_i hd;cases h;simp only[decide_eq_true_eq]at hd;rw[<-oP l k r' hd (h2 hd)];exact⟨_,rfl,qV hB,rfl⟩
   ·rename_i hd;cases h;simp only[decide_eq_false_iff_not]at hd;rw[<-h1 hd];exact⟨_,rfl,qV hB,rfl⟩
  ·cases h
 ·cases h
def X0:FuncId->Option (List AV->Option AV):=fun f=>match Nat.beq f 122 with|true=>some Cu|false=>(match Nat.beq f 121 with|true=>some Fm|false=>none)
theorem Hv:∀f F,X0 f=some F->Au Tryz.prog f F:=by
 intro f F h;unfold X0 at h;split at h
 ·rename_i e;cases h;rw[Nat.eq_of_beq_eq_true e];exact rB
 ·split at h
  ·rename_i e;cases h;rw[Nat.eq_of_beq_eq_true e];exact nB
  ·cases h
end Go.Proofs.YtfclmnpffhbcpaaGreat
