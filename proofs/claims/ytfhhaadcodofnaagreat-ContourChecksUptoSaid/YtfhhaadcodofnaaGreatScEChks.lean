import Derived.Test.YtfhhaadcodofnaaGreatSc11Chks
import Derived.Test.YtfhhaadcodofnaaGreatScMChks
import Derived.Test.YtfhhaadcodofnaaGreatEng16Chks
set_option linter.all false
set_option linter.unusedVariables false
namespace Go.Eng
open Go Go.RowKit
variable[Dr]
section
variable{P:Program}
inductive Md where
 |inl
 |mut
 |loc
def Ii(l:List Nat):List (Nat×Bool):=l.map fun b=>(b,true)
theorem xQ{H:List Blk}:∀l:List Nat,mh H (Ii l)
 |[]=>trivial
 |_::l=>xQ (H:=H) l
theorem zC:∀(n:Nat) (xs:List Blk),yl (List.replicate n true) xs
 |0,_=>by cases ‹List Blk›<;>trivial
 |n+1,[]=>by simp[List.replicate_succ,yl]
 |n+1,x::xs=>by rw[List.replicate_succ];exact zC n xs
noncomputable def Fc:Option Blk->Blk->Bool
 |some (.own a),.own b=>wE a b
 |some (.fix a),.fix b=>wE a b
 |_,_=>false
theorem Gr{x:Option Blk}{y:Blk}(h:Fc x y=true):x=some y:=by
 unfold Fc at h;split at h
 ·rw[ou _ _ h]
 ·rw[ou _ _ h]
 ·cases h
noncomputable def Bg(H:List Blk)(args:List AV)(rd:List Nat):List (Nat×Blk)->List (Nat×Blk)->List (Nat×Blk)
 |acc,[]=>acc
 |acc,(d,x)::ws=>match Fc H[d]? x&&((pP args).contains d&&(rd.contains d&&(acc++ws).all (fun q=>!Nat.beq q.1 d)))with
  |true=>Bg H args rd acc ws
  |false=>Bg H args rd (acc++[(d,x)]) ws
theorem ya{f:FuncId}{args:List AV}{H:List Blk}{v:AV}{rd:List Nat}{n:Nat}:∀(ws acc:List (Nat×Blk)),jh P f args H (.loc v (acc++ws) rd n)->jh P f args H (.loc v (Bg H args rd acc ws) rd n)
 |[],acc,h=>by rw[List.append_nil]at h;exact h
 |(d,x)::ws,acc,h=>by
  unfold Bg;split
  ·rename_i hc;simp only[Bool.and_eq_true]at hc;exact ya ws acc (gw d x acc ws h rfl (Gr hc.1) hc.2.1 hc.2.2.1 hc.2.2.2)
  ·exact ya ws (acc++[(d,x)]) (by rw[List.append_assoc];exact h)
noncomputable def AP(P:Program)(call:eN)(n:Nat)(fn:Func)(args:List AV)(H:List Blk):Option vP:=
 let keep:=Ii (reach H n ((cJ args).foldl sS []));match rr keep&&keep.all (fun q=>Nat.blt q.1 H.length)with
 |false=>none
 |true=>match qc P call n fn (rnL keep args) (rnH H keep keep)with
  |none=>none
  |some (r,H1)=>match Nat.ble keep.length H1.length with
   |false=>none
   |true=>some (.loc (rfA (fun k=>(y6 keep.length keep H.length (H1.length-keep.length))[k]?) r) (Bg H args (keep.map (·.1)) [] (DF keep.length keep H.length (H1.length-keep.length) (List.replicate H1.length true) H1)) (keep.map (·.1)) (H1.length-keep.length))
noncomputable def lZ(P:Program)(md:FuncId->Md)(ext:FuncId->Option (List AV->Option AV)):Nat->eN
 |0,_,_,_=>none
 |n+1,f,args,H=>
  match P.funcs[f]? with
  |none=>none
  |some fn=>
   match md f with
   |.inl=>(match qc P (lZ P md ext n) n fn args H with|some (v,H')=>some (.whole v H')|none=>none)
   |.mut=>AP P (lZ P md ext n) n fn args H
   |.loc=>
    let l:=reach H n ((cJ args).foldl sS []);match qt (kH H (fun b=>l.contains b) n) args with
    |none=>none
    |some j=>match ext f with
     |some F=>(match F j with|some r=>(match nI r with|[]=>qJ n l H [] r|_=>none)|none=>none)
     |none=>(match qc P (lZ P md ext n) n fn j []with|some (r,G)=>qJ n l H G r|none=>none)
theorem za(C:ui P)(hm:P.follows .mixedOrders=true){call:eN}(j:iJ P call){n:Nat}{f:FuncId}{fn:Func}(D:P.funcs[f]?=some fn){args:List AV}{H:List Blk}{r:vP}(h:AP P call n fn args H=some r):jh P f args H r:=by
 unfold AP at h;simp only at h;generalize q:Ii (reach H n ((cJ args).foldl sS []))=keep at*;have hp:mh H keep:=by rw[<-q];exact xQ _
 split at h
 ·cases h
 ·rename_i hk;rw[Bool.and_eq_true]at hk;split at h
  ·cases h
  ·rename_i r0 H1 E;split at h
   ·cases h
   ·rename_i hle;cases h;have z:bO keep.length P f (rnL keep args) (rnH H keep keep) r0 H1:=fun out B w π vs I ha=>(mL C hm j D E I ha).mono fun e w' ⟨u,π',h1,h2,J,N⟩=>⟨u,π',h1,h2.ek,J,N⟩
    have hle:=lbT hle;exact ya _ [] (yO (m:=H1.length-keep.length) keep.length keep (List.replicate H1.length true) z hp (zC _ _) (by omega) (List.length_replicate ..) hk.1 hk.2 (Nat.ble_eq_true_of_le (Nat.le_refl _)) rfl rfl rfl rfl rfl)
theorem rM(D:ui P)(hm:P.follows .mixedOrders=true){md:FuncId->Md}{ext:FuncId->Option (List AV->Option AV)}(I:∀f F,ext f=some F->oZ P f F):
  ∀n,iJ P (lZ P md ext n)
 |0,f,args,H,r,h=>by simp[lZ]at h
 |n+1,f,args,H,r,h=>by
  have ih:=rM (md:=md) D hm I n;unfold lZ at h;split at h
  ·cases h
  ·rename_i fn O;split at h
   ·split at h
    ·rename_i v H1 hv;cases h;intro out B w π vs T ha;exact mL D hm ih O hv T ha
    ·cases h
   ·exact za D hm ih O h
   ·simp only at h;generalize hl:reach H n ((cJ args).foldl sS [])=l at*;split at h
    ·cases h
    ·rename_i z U;have core:∀(G:List Blk) (r0:AV),qJ n l H G r0=some r->
       (∀(out:Nat->Prop) (w:World) (vs:List Value),(∀b,out b->b<w.heap.size)->RvL w out [] z vs->
        Calls P f vs.toArray w fun e w'=>∃u πG,e=.returned u/\Ext (Lo w.heap.size) w w' out (aL out πG G) [] πG/\Inv out (Lo w.heap.size) w' πG G/\Rv w' (aL out πG G) πG r0 u)->jh P f args H r:=by
      intro G r0 j b0;cases r with
      |whole v H1=>
       unfold qJ at j;split at j
       ·cases j
       ·simp only at j;split at j<;>cases j
      |loc v ws rd m=>
       have b4:rd=l:=by
        unfold qJ at j;split at j
        ·cases j;rfl
        ·simp only at j;split at j
         ·cases j;rfl
         ·cases j
       subst b4;intro H' hlen E out B w π vs T hπ ha;obtain⟨Y,b5,c8,b6,b7⟩:=jV rd H' H T (fun b hb b8=>.inl (E b hb b8));have b9:=Ext.AU Y b5;have hL:Eu w (aL out π H') (aL out π (aR H' (dd H rd))) π H (fun b=>rd.contains b):=by
        intro b p cs c0 a1 hp;have a6:b∈rd:=by simpa using c0
        have J:b<H.length:=by rcases a1 with h|h<;>exact aT h
        have N:H'[b]?=some (.own cs)\/H'[b]?=some (.fix cs):=by rw[E b a6 J];exact a1
        refine⟨gb T N hp,?_⟩;have a7:∃y,H'[b]?=some y/\y.isLive=true:=by rcases N with h|h<;>exact⟨_,h,rfl⟩
        obtain⟨y,hy,c3⟩:=a7;have c4:=T.base b y p hy hp c3;have b1:(aR H' (dd H rd))[b]?=some (.fix cs):=by
         rcases a1 with h|h
         ·exact b6 b a6 _ cs h rfl
         ·rw[b7 b (fun x cs' _ h' e=>by rw[h]at h';cases h';cases e),E b a6 J];exact h
        rintro(h|⟨i,x,q,h1,h2,h3,h4⟩)
        ·exact c4.1 (T.out_lt _ h)
        ·by_cases b3:i=b
         ·subst b3;rw[b1]at h1;cases h1;simp[Blk.iA]at h2
         ·exact Y.sepO i b x (.fix cs) q p _ b3 h1 b1 h3 hp h2 h4 rfl
       have c5:RvL w (aL out π (aR H' (dd H rd))) [] z vs:=ny (fun A v A' hA c6=>pv hL b9 n A A' v hA c6) args z vs ha U;refine(b0 _ w vs (Am Y) c5).mono ?_;rintro e w' ⟨u,πG,rfl,k1,k2,k3⟩;obtain⟨π',q1,q2,q3,q4⟩:=Bx j hlen E T hπ k1 k2 k3;exact⟨u,π',rfl,q1,q2,q3,q4⟩
     split at h
     ·rename_i F hF;split at h
      ·rename_i r0 a8;split at h
       ·refine core [] r0 h ?_;intro out w vs C ha;refine(I f F hF z r0 a8 out w vs C ha).mono ?_;rintro e w' ⟨u,rfl,k1,k2⟩;refine⟨u,[],rfl,?_,⟨rfl,fun b hb=>Nat.lt_of_lt_of_le hb k1.size,C,by simp,by simp,by simp⟩,?_⟩
        ·rw[lG];exact k1
        ·rw[lG];exact k2
       ·cases h
      ·cases h
     ·split at h
      ·rename_i r0 G a8;refine core G r0 h ?_;intro out w vs C ha;have c7:Inv out (Lo w.heap.size) w [] []:=⟨rfl,fun _ h=>h,C,by simp,by simp,by simp⟩;have:=mL D hm ih O a8 c7 (by rw[lG];exact ha);rw[lG]at this;exact this
      ·cases h
theorem aQ.IV(j:ui P)(hm:P.follows .mixedOrders=true){md:FuncId->Md}{ext:FuncId->Option (List AV->Option AV)}(q:∀f F,ext f=some F->oZ P f F){n m:Nat}{f:FuncId}{fn:Func}(C:P.funcs[f]?=some fn){args:List AV}{r:AV}(h:xz P (lZ P md ext m) n fn args=some r):aQ P f args r:=
 fun out w vs z ha=>zn j hm (rM j hm q m) C h out w vs z ha
end
end Go.Eng

