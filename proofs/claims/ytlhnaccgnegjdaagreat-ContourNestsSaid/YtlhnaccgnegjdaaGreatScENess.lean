import Derived.Test.YtlhnaccgnegjdaaGreatSc11Ness
import Derived.Test.YtlhnaccgnegjdaaGreatScMNess
import Derived.Test.YtlhnaccgnegjdaaGreatEng16Ness
set_option linter.all false
set_option linter.unusedVariables false
namespace Go.Eng
open Go Go.RowKit
variable[Dr]
section
variable{P:Program}
inductive Md where
 |inl
 |mut
 |loc
def HY(l:List Nat):List (Nat×Bool):=l.map fun b=>(b,true)
theorem xo{H:List Blk}:∀l:List Nat,kI H (HY l)
 |[]=>trivial
 |_::l=>xo (H:=H) l
theorem yU:∀(n:Nat) (xs:List Blk),xY (List.replicate n true) xs
 |0,_=>by cases ‹List Blk›<;>trivial
 |n+1,[]=>by simp[List.replicate_succ,xY]
 |n+1,x::xs=>by rw[List.replicate_succ];exact yU n xs
noncomputable def FT:Option Blk->Blk->Bool
 |some (.own a),.own b=>vA a b
 |some (.fix a),.fix b=>vA a b
 |_,_=>false
theorem ED{x:Option Blk}{y:Blk}(h:FT x y=true):x=some y:=by
 unfold FT at h;split at h
 ·rw[oq _ _ h]
 ·rw[oq _ _ h]
 ·cases h
noncomputable def AA(H:List Blk)(args:List AV)(rd:List Nat):List (Nat×Blk)->List (Nat×Blk)->List (Nat×Blk)
 |acc,[]=>acc
 |acc,(d,x)::ws=>match FT H[d]? x&&((pM args).contains d&&(rd.contains d&&(acc++ws).all (fun q=>!Nat.beq q.1 d)))with
  |true=>AA H args rd acc ws
  |false=>AA H args rd (acc++[(d,x)]) ws
theorem x5{f:FuncId}{args:List AV}{H:List Blk}{v:AV}{rd:List Nat}{n:Nat}:∀(ws acc:List (Nat×Blk)),iK P f args H (.loc v (acc++ws) rd n)->iK P f args H (.loc v (AA H args rd acc ws) rd n)
 |[],acc,h=>by rw[List.append_nil]at h;exact h
 |(d,x)::ws,acc,h=>by
  unfold AA;split
  ·rename_i hc;simp only[Bool.and_eq_true]at hc;exact x5 ws acc (fG d x acc ws h rfl (ED hc.1) hc.2.1 hc.2.2.1 hc.2.2.2)
  ·exact x5 ws (acc++[(d,x)]) (by rw[List.append_assoc];exact h)
noncomputable def Ag(P:Program)(call:ef)(n:Nat)(fn:Func)(args:List AV)(H:List Blk):Option vh:=
 let keep:=HY (reach H n ((cj args).foldl r8 []));match qZ keep&&keep.all (fun q=>Nat.blt q.1 H.length)with
 |false=>none
 |true=>match qn P call n fn (rnL keep args) (rnH H keep keep)with
  |none=>none
  |some (r,H1)=>match Nat.ble keep.length H1.length with
   |false=>none
   |true=>some (.loc (rfA (fun k=>(yF keep.length keep H.length (H1.length-keep.length))[k]?) r) (AA H args (keep.map (·.1)) [] (CL keep.length keep H.length (H1.length-keep.length) (List.replicate H1.length true) H1)) (keep.map (·.1)) (H1.length-keep.length))
noncomputable def lL(P:Program)(md:FuncId->Md)(ext:FuncId->Option (List AV->Option AV)):Nat->ef
 |0,_,_,_=>none
 |n+1,f,args,H=>
  match P.funcs[f]? with
  |none=>none
  |some fn=>
   match md f with
   |.inl=>(match qn P (lL P md ext n) n fn args H with|some (v,H')=>some (.whole v H')|none=>none)
   |.mut=>Ag P (lL P md ext n) n fn args H
   |.loc=>
    let l:=reach H n ((cj args).foldl r8 []);match qe (km H (fun b=>l.contains b) n) args with
    |none=>none
    |some j=>match ext f with
     |some F=>(match F j with|some r=>(match nv r with|[]=>qB n l H [] r|_=>none)|none=>none)
     |none=>(match qn P (lL P md ext n) n fn j []with|some (r,G)=>qB n l H G r|none=>none)
theorem yK(z:tU P)(hm:P.follows .mixedOrders=true){call:ef}(j:gU P call){n:Nat}{f:FuncId}{fn:Func}(D:P.funcs[f]?=some fn){args:List AV}{H:List Blk}{r:vh}(h:Ag P call n fn args H=some r):iK P f args H r:=by
 unfold Ag at h;simp only at h;generalize p:HY (reach H n ((cj args).foldl r8 []))=keep at*;have hp:kI H keep:=by rw[<-p];exact xo _
 split at h
 ·cases h
 ·rename_i C;rw[Bool.and_eq_true]at C;split at h
  ·cases h
  ·rename_i r0 H1 E;split at h
   ·cases h
   ·rename_i hle;cases h;have q:fh keep.length P f (rnL keep args) (rnH H keep keep) r0 H1:=fun out B w π vs I ha=>(mc z hm j D E I ha).mono fun e w' ⟨u,π',h1,h2,J,M⟩=>⟨u,π',h1,h2.ek,J,M⟩
    have hle:=lbT hle;exact x5 _ [] (xN (m:=H1.length-keep.length) keep.length keep (List.replicate H1.length true) q hp (yU _ _) (by omega) (List.length_replicate ..) C.1 C.2 (Nat.ble_eq_true_of_le (Nat.le_refl _)) rfl rfl rfl rfl rfl)
theorem ry(D:tU P)(hm:P.follows .mixedOrders=true){md:FuncId->Md}{ext:FuncId->Option (List AV->Option AV)}(I:∀f F,ext f=some F->oO P f F):
  ∀n,gU P (lL P md ext n)
 |0,f,args,H,r,h=>by simp[lL]at h
 |n+1,f,args,H,r,h=>by
  have ih:=ry (md:=md) D hm I n;unfold lL at h;split at h
  ·cases h
  ·rename_i fn N;split at h
   ·split at h
    ·rename_i v H1 hv;cases h;intro out B w π vs O ha;exact mc D hm ih N hv O ha
    ·cases h
   ·exact yK D hm ih N h
   ·simp only at h;generalize hl:reach H n ((cj args).foldl r8 [])=l at*;split at h
    ·cases h
    ·rename_i z T;have core:∀(G:List Blk) (r0:AV),qB n l H G r0=some r->
       (∀(out:Nat->Prop) (w:World) (vs:List Value),(∀b,out b->b<w.heap.size)->RvL w out [] z vs->
        Calls P f vs.toArray w fun e w'=>∃u πG,e=.returned u/\Ext (Lo w.heap.size) w w' out (aG out πG G) [] πG/\Inv out (Lo w.heap.size) w' πG G/\Rv w' (aG out πG G) πG r0 u)->iK P f args H r:=by
      intro G r0 j a3;cases r with
      |whole v H1=>
       unfold qB at j;split at j
       ·cases j
       ·simp only at j;split at j<;>cases j
      |loc v ws rd m=>
       have a6:rd=l:=by
        unfold qB at j;split at j
        ·cases j;rfl
        ·simp only at j;split at j
         ·cases j;rfl
         ·cases j
       subst a6;intro H' hlen E out B w π vs O hπ ha;obtain⟨U,a7,b9,a8,a9⟩:=jI rd H' H O (fun b hb b0=>.inl (E b hb b0));have b1:=Ext.Ae U a7;have hL:DG w (aG out π H') (aG out π (aQ H' (cK H rd))) π H (fun b=>rd.contains b):=by
        intro b p cs b3 Y hp;have a0:b∈rd:=by simpa using b3
        have J:b<H.length:=by rcases Y with h|h<;>exact aN h
        have M:H'[b]?=some (.own cs)\/H'[b]?=some (.fix cs):=by rw[E b a0 J];exact Y
        refine⟨fT O M hp,?_⟩;have a1:∃y,H'[b]?=some y/\y.isLive=true:=by rcases M with h|h<;>exact⟨_,h,rfl⟩
        obtain⟨y,hy,b4⟩:=a1;have b5:=O.base b y p hy hp b4;have a4:(aQ H' (cK H rd))[b]?=some (.fix cs):=by
         rcases Y with h|h
         ·exact a8 b a0 _ cs h rfl
         ·rw[a9 b (fun x cs' _ h' e=>by rw[h]at h';cases h';cases e),E b a0 J];exact h
        rintro(h|⟨i,x,q,h1,h2,h3,h4⟩)
        ·exact b5.1 (O.out_lt _ h)
        ·by_cases a5:i=b
         ·subst a5;rw[a4]at h1;cases h1;simp[Blk.fQ]at h2
         ·exact U.sepO i b x (.fix cs) q p _ a5 h1 a4 h3 hp h2 h4 rfl
       have b6:RvL w (aG out π (aQ H' (cK H rd))) [] z vs:=nI (fun A v A' hA b7=>pC hL b1 n A A' v hA b7) args z vs ha T;refine(a3 _ w vs (Aa U) b6).mono ?_;rintro e w' ⟨u,πG,rfl,k1,k2,k3⟩;obtain⟨π',q1,q2,q3,q4⟩:=A1 j hlen E O hπ k1 k2 k3;exact⟨u,π',rfl,q1,q2,q3,q4⟩
     split at h
     ·rename_i F hF;split at h
      ·rename_i r0 a2;split at h
       ·refine core [] r0 h ?_;intro out w vs C ha;refine(I f F hF z r0 a2 out w vs C ha).mono ?_;rintro e w' ⟨u,rfl,k1,k2⟩;refine⟨u,[],rfl,?_,⟨rfl,fun b hb=>Nat.lt_of_lt_of_le hb k1.size,C,by simp,by simp,by simp⟩,?_⟩
        ·rw[kF];exact k1
        ·rw[kF];exact k2
       ·cases h
      ·cases h
     ·split at h
      ·rename_i r0 G a2;refine core G r0 h ?_;intro out w vs C ha;have b8:Inv out (Lo w.heap.size) w [] []:=⟨rfl,fun _ h=>h,C,by simp,by simp,by simp⟩;have:=mc D hm ih N a2 b8 (by rw[kF];exact ha);rw[kF]at this;exact this
      ·cases h
theorem aO.HW(j:tU P)(hm:P.follows .mixedOrders=true){md:FuncId->Md}{ext:FuncId->Option (List AV->Option AV)}(p:∀f F,ext f=some F->oO P f F){n m:Nat}{f:FuncId}{fn:Func}(z:P.funcs[f]?=some fn){args:List AV}{r:AV}(h:wW P (lL P md ext m) n fn args=some r):aO P f args r:=
 fun out w vs q ha=>yI j hm (ry j hm p m) z h out w vs q ha
end
end Go.Eng

