import Derived.Test.YtglimpjlhfjgdaaGreatSc11Slds
import Derived.Test.YtglimpjlhfjgdaaGreatScMSlds
import Derived.Test.YtglimpjlhfjgdaaGreatEng16Slds
set_option linter.all false
set_option linter.unusedVariables false
namespace Go.Eng
open Go Go.RowKit
variable[Dr]
section
variable{P:Program}
inductive Md where
 |inl
 |mut
 |loc
def Jn(l:List Nat):List (Nat×Bool):=l.map fun b=>(b,true)
theorem xq{H:List Blk}:∀l:List Nat,ik H (Jn l)
 |[]=>trivial
 |_::l=>xq (H:=H) l
theorem yP:∀(n:Nat) (xs:List Blk),wP (List.replicate n true) xs
 |0,_=>by cases ‹List Blk›<;>trivial
 |n+1,[]=>by simp[List.replicate_succ,wP]
 |n+1,x::xs=>by rw[List.replicate_succ];exact yP n xs
noncomputable def Gn:Option Blk->Blk->Bool
 |some (.own a),.own b=>tC a b
 |some (.fix a),.fix b=>tC a b
 |_,_=>false
theorem Gr{x:Option Blk}{y:Blk}(h:Gn x y=true):x=some y:=by
 unfold Gn at h;split at h
 ·rw[kF _ _ h]
 ·rw[kF _ _ h]
 ·cases h
noncomputable def z6(H:List Blk)(args:List AV)(rd:List Nat):List (Nat×Blk)->List (Nat×Blk)->List (Nat×Blk)
 |acc,[]=>acc
 |acc,(d,x)::ws=>match Gn H[d]? x&&((nv args).contains d&&(rd.contains d&&(acc++ws).all (fun q=>!Nat.beq q.1 d)))with
  |true=>z6 H args rd acc ws
  |false=>z6 H args rd (acc++[(d,x)]) ws
theorem wV{f:FuncId}{args:List AV}{H:List Blk}{v:AV}{rd:List Nat}{n:Nat}:∀(ws acc:List (Nat×Blk)),gz P f args H (.loc v (acc++ws) rd n)->gz P f args H (.loc v (z6 H args rd acc ws) rd n)
 |[],acc,h=>by rw[List.append_nil]at h;exact h
 |(d,x)::ws,acc,h=>by
  unfold z6;split
  ·rename_i hc;simp only[Bool.and_eq_true]at hc;exact wV ws acc (iT d x acc ws h rfl (Gr hc.1) hc.2.1 hc.2.2.1 hc.2.2.2)
  ·exact wV ws (acc++[(d,x)]) (by rw[List.append_assoc];exact h)
noncomputable def zP(P:Program)(call:dw)(n:Nat)(fn:Func)(args:List AV)(H:List Blk):Option uf:=
 let keep:=Jn (reach H n ((bL args).foldl qA []));match oR keep&&keep.all (fun q=>Nat.blt q.1 H.length)with
 |false=>none
 |true=>match nZ P call n fn (rnL keep args) (rnH H keep keep)with
  |none=>none
  |some (r,H1)=>match Nat.ble keep.length H1.length with
   |false=>none
   |true=>some (.loc (rfA (fun k=>(xM keep.length keep H.length (H1.length-keep.length))[k]?) r) (z6 H args (keep.map (·.1)) [] (C0 keep.length keep H.length (H1.length-keep.length) (List.replicate H1.length true) H1)) (keep.map (·.1)) (H1.length-keep.length))
noncomputable def jJ(P:Program)(md:FuncId->Md)(ext:FuncId->Option (List AV->Option AV)):Nat->dw
 |0,_,_,_=>none
 |n+1,f,args,H=>
  match P.funcs[f]? with
  |none=>none
  |some fn=>
   match md f with
   |.inl=>(match nZ P (jJ P md ext n) n fn args H with|some (v,H')=>some (.whole v H')|none=>none)
   |.mut=>zP P (jJ P md ext n) n fn args H
   |.loc=>
    let l:=reach H n ((bL args).foldl qA []);match nJ (iO H (fun b=>l.contains b) n) args with
    |none=>none
    |some j=>match ext f with
     |some F=>(match F j with|some r=>(match kb r with|[]=>oH n l H [] r|_=>none)|none=>none)
     |none=>(match nZ P (jJ P md ext n) n fn j []with|some (r,G)=>oH n l H G r|none=>none)
theorem xV(z:rQ P)(hm:P.follows .mixedOrders=true){call:dw}(j:fP P call){n:Nat}{f:FuncId}{fn:Func}(C:P.funcs[f]?=some fn){args:List AV}{H:List Blk}{r:uf}(h:zP P call n fn args H=some r):gz P f args H r:=by
 unfold zP at h;simp only at h;generalize p:Jn (reach H n ((bL args).foldl qA []))=keep at*;have hp:ik H keep:=by rw[<-p];exact xq _
 split at h
 ·cases h
 ·rename_i hk;rw[Bool.and_eq_true]at hk;split at h
  ·cases h
  ·rename_i r0 H1 D;split at h
   ·cases h
   ·rename_i hle;cases h;have q:dr keep.length P f (rnL keep args) (rnH H keep keep) r0 H1:=fun out B w π vs E I=>(jX z hm j C D E I).mono fun e w' ⟨u,π',h1,h2,J,M⟩=>⟨u,π',h1,h2.ek,J,M⟩
    have hle:=lbT hle;exact wV _ [] (xa (m:=H1.length-keep.length) keep.length keep (List.replicate H1.length true) q hp (yP _ _) (by omega) (List.length_replicate ..) hk.1 hk.2 (Nat.ble_eq_true_of_le (Nat.le_refl _)) rfl rfl rfl rfl rfl)
theorem pN(D:rQ P)(hm:P.follows .mixedOrders=true){md:FuncId->Md}{ext:FuncId->Option (List AV->Option AV)}(I:∀f F,ext f=some F->lB P f F):
  ∀n,fP P (jJ P md ext n)
 |0,f,args,H,r,h=>by simp[jJ]at h
 |n+1,f,args,H,r,h=>by
  have ih:=pN (md:=md) D hm I n;unfold jJ at h;split at h
  ·cases h
  ·rename_i fn N;split at h
   ·split at h
    ·rename_i v H1 hv;cases h;intro out B w π vs O T;exact jX D hm ih N hv O T
    ·cases h
   ·exact xV D hm ih N h
   ·simp only at h;generalize hl:reach H n ((bL args).foldl qA [])=l at*;split at h
    ·cases h
    ·rename_i z U;have core:∀(G:List Blk) (r0:AV),oH n l H G r0=some r->
       (∀(out:Nat->Prop) (w:World) (vs:List Value),(∀b,out b->b<w.heap.size)->RvL w out [] z vs->
        Calls P f vs.toArray w fun e w'=>∃u πG,e=.returned u/\Ext (Lo w.heap.size) w w' out (aI out πG G) [] πG/\Inv out (Lo w.heap.size) w' πG G/\Rv w' (aI out πG G) πG r0 u)->gz P f args H r:=by
      intro G r0 j b0;cases r with
      |whole v H1=>
       unfold oH at j;split at j
       ·cases j
       ·simp only at j;split at j<;>cases j
      |loc v ws rd m=>
       have b4:rd=l:=by
        unfold oH at j;split at j
        ·cases j;rfl
        ·simp only at j;split at j
         ·cases j;rfl
         ·cases j
       subst b4;intro H' hlen E out B w π vs O hπ T;obtain⟨Y,b5,c8,b6,b7⟩:=iI rd H' H O (fun b hb b8=>.inl (E b hb b8));have b9:=Ext.vX Y b5;have hL:Eu w (aI out π H') (aI out π (aN H' (ct H rd))) π H (fun b=>rd.contains b):=by
        intro b p cs c0 a1 hp;have a6:b∈rd:=by simpa using c0
        have J:b<H.length:=by rcases a1 with h|h<;>exact aK h
        have M:H'[b]?=some (.own cs)\/H'[b]?=some (.fix cs):=by rw[E b a6 J];exact a1
        refine⟨eU O M hp,?_⟩;have a7:∃y,H'[b]?=some y/\y.isLive=true:=by rcases M with h|h<;>exact⟨_,h,rfl⟩
        obtain⟨y,hy,c3⟩:=a7;have c4:=O.base b y p hy hp c3;have b1:(aN H' (ct H rd))[b]?=some (.fix cs):=by
         rcases a1 with h|h
         ·exact b6 b a6 _ cs h rfl
         ·rw[b7 b (fun x cs' _ h' e=>by rw[h]at h';cases h';cases e),E b a6 J];exact h
        rintro(h|⟨i,x,q,h1,h2,h3,h4⟩)
        ·exact c4.1 (O.out_lt _ h)
        ·by_cases b3:i=b
         ·subst b3;rw[b1]at h1;cases h1;simp[Blk.eN]at h2
         ·exact Y.sepO i b x (.fix cs) q p _ b3 h1 b1 h3 hp h2 h4 rfl
       have c5:RvL w (aI out π (aN H' (ct H rd))) [] z vs:=lz (fun A v A' hA c6=>nq hL b9 n A A' v hA c6) args z vs T U;refine(b0 _ w vs (zU Y) c5).mono ?_;rintro e w' ⟨u,πG,rfl,k1,k2,k3⟩;obtain⟨π',q1,q2,q3,q4⟩:=Bk j hlen E O hπ k1 k2 k3;exact⟨u,π',rfl,q1,q2,q3,q4⟩
     split at h
     ·rename_i F hF;split at h
      ·rename_i r0 a8;split at h
       ·refine core [] r0 h ?_;intro out w vs C T;refine(I f F hF z r0 a8 out w vs C T).mono ?_;rintro e w' ⟨u,rfl,k1,k2⟩;refine⟨u,[],rfl,?_,⟨rfl,fun b hb=>Nat.lt_of_lt_of_le hb k1.size,C,by simp,by simp,by simp⟩,?_⟩
        ·rw[jt];exact k1
        ·rw[jt];exact k2
       ·cases h
      ·cases h
     ·split at h
      ·rename_i r0 G a8;refine core G r0 h ?_;intro out w vs C T;have c7:Inv out (Lo w.heap.size) w [] []:=⟨rfl,fun _ h=>h,C,by simp,by simp,by simp⟩;have:=jX D hm ih N a8 c7 (by rw[jt];exact T);rw[jt]at this;exact this
      ·cases h
theorem aT.Jk(j:rQ P)(hm:P.follows .mixedOrders=true){md:FuncId->Md}{ext:FuncId->Option (List AV->Option AV)}(p:∀f F,ext f=some F->lB P f F){n m:Nat}{f:FuncId}{fn:Func}(z:P.funcs[f]?=some fn){args:List AV}{r:AV}(h:vL P (jJ P md ext m) n fn args=some r):aT P f args r:=
 fun out w vs q C=>xH j hm (pN j hm p m) z h out w vs q C
end
end Go.Eng

