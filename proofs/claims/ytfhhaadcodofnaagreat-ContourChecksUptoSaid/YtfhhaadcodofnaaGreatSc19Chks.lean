import Derived.Test.YtfhhaadcodofnaaGreatSc13Chks
import Derived.Shelf.SlSortCmp.KitK
import Derived.Test.YtfhhaadcodofnaaGreatSc17Chks
import Derived.Sort.Defs
import Derived.Shelf.SlSortCmp.PdqK
set_option linter.all false
set_option linter.unusedVariables false
namespace Go.Eng
open Go Go.RowKit Go.Proofs
variable[Dr]
variable{K:Nat}{P:Program}
def yN(P:Program)(f g:FuncId)(k n:Nat)(q:Inhabited (Fin n))(xs:List Value)(cf:Fin n->Fin n->Int)(ret:Value)(j:Array (Fin n)):Prop:=
 ∀(enc:Fin n->List Value) (cb:Array Value) (blk off cap:Nat) (w:World),(∀x,(enc x).length=k)->(∀x,∀v∈enc x,v.oneCell'=true)->CmpLays P g cb enc k cf blk off n w->
  Sort.HoldsK enc k w blk off (Array.ofFn id)->blk<w.heap.size->
  Calls P f ((Value.slice (some ⟨blk,off,none⟩) n cap::(xs++[Value.func (.func g) #[] cb])).toArray) w fun e w'=>e=.returned ret/\∃m os,w'=sortWorldK enc k w blk off m j os
omit [Dr] in
theorem Dx{w:World}{mu:Nat->Prop}{π:List (Option PB)}:∀(xs:List Value) (j:List AV) (vs:List Value),RvL w mu π (xs.map AV.at++j) vs->∃us,vs=xs++us/\RvL w mu π j us
 |[],j,vs,h=>⟨vs,rfl,h⟩
 |x::xs,j,vs,h=>by
  obtain⟨v,m,rfl,q,z⟩:=h;have q:v=x:=q;subst q;obtain⟨us,rfl,h2⟩:=Dx xs j m z;exact⟨us,rfl,h2⟩
theorem bO.J2{γ:Type}{c:γ->List AV}{k:Nat}{l:List γ}{Hc:List Blk}{caps caps':List AV}{f g:FuncId}{cf:γ->γ->Int}{xs:List Value}{ret:Value}{R:AV}{C:Array (Fin l.length)}(h0:0<l.length)
  (hs:yN P f g k l.length ⟨⟨0,h0⟩⟩ xs (fun i j=>cf l[i.1] l[j.1]) ret C) (b7:C.size=l.length) (b8:∀w mu π,Rv w mu π R ret) (hk:∀x,(c x).length=k) (hpure:∀x,cJ (c x)=[])
  (hcaps:SnL (.own (l.flatMap c)::Hc) (fun b=>b !=0) caps caps')
  (hcmp:∀x∈l,∀y∈l,@aQ ⟨true⟩ P g ([.agg (c x),.agg (c y)]++caps') (.at (.int .i64 (cf x y)))):
  bO K P f (.hs 0 0 l.length k::(xs.map AV.at++[.fn g [] caps])) (.own (l.flatMap c)::Hc) R (.own ((C.toList.map fun i=>l[i.1]).flatMap c)::Hc):=by
 intro out B w π vs E ha;obtain⟨v,e3,rfl,hv,ha⟩:=ha;obtain⟨us,rfl,e4⟩:=Dx xs _ e3 ha;obtain⟨v2,e5,rfl,hf,J⟩:=e4;have J:e5=[]:=J;subst J;rcases hv with⟨hz,_⟩|⟨p,a,cap,hp,rfl,j2,e6,b9⟩
 ·omega
 obtain⟨rfl,j3⟩:=b9 (by omega);obtain⟨fa,fc,rfl,N,e7⟩:=hf;have N:fa.toList=[]:=N;have N:fa=#[]:=by simpa using N
 subst N;obtain⟨⟨cells,ty,hb,e8⟩,hC⟩:=E.ok 0 _ p rfl hp;have hblk:=(E.base 0 _ p rfl hp rfl).2;generalize hH:(.own (l.flatMap c)::Hc:List Blk)=H at*;have Y:H[0]?=some (.own (l.flatMap c)):=by rw[<-hH];rfl
 have hmul:∀b,aL out π H b->b<w.heap.size:=by
  rintro b (h|⟨i,x,q,h1,h2,h3,h4⟩)
  ·exact E.bound _ (E.out_lt _ h)
  ·exact(E.baseO i x q b h1 h3 h4).2
 have c0:aL out π H p.blk:=.inr ⟨0,_,p,Y,rfl,hp,rfl⟩;let mu':Nat->Prop:=fun b=>out b\/b=p.blk
 have I:∀b,mu' b->aL out π H b:=fun b h=>h.elim .inl fun e=>e▸c0
 have b0:yU w (aL out π H) mu' π H (fun b=>b !=0):=by
  refine⟨?_,?_⟩
  ·intro b q cs b1 c3 U;have b3:b≠0:=by simpa using b1
   have b4:∃y,H[b]?=some y/\y.isLive=true:=by rcases c3 with h|h<;>exact⟨_,h,rfl⟩
   obtain⟨y,hy,c4⟩:=b4;refine⟨gb E c3 U,?_⟩;rintro(ho|he)
   ·exact(E.base b y q hy U c4).1 (E.out_lt _ ho)
   ·exact E.sepO 0 b _ y p q _ (Ne.symm b3) Y hy hp U rfl rfl (by rw[<-he];exact Blk.ln c4)
  ·intro b q rs b1 hb U;have b3:b≠0:=by simpa using b1
   have c5:∀c,(Blk.rows rs).owns q c->¬mu' c:=by
    rintro c hc (ho|he)
    ·exact(E.baseO b _ q c hb U hc).1 (E.out_lt _ ho)
    ·exact E.sepO 0 b _ _ p q _ (Ne.symm b3) Y hb hp U rfl rfl (by rw[<-he];exact hc)
   exact⟨RvW.frz I rs _ _ _ (fun k len es cs s e1 e2=>c5 s.1 (.inr ⟨k,len,es,cs,s,e1,e2,rfl⟩)) (E.ok b _ q hb U).2.1,c5 _ (.inl rfl)⟩
 have e9:=hcaps w _ _ π _ b0 I e7
 letI j4:Inhabited (Fin l.length):=⟨⟨0,h0⟩⟩
 have m:∀(i:Fin l.length) (t:Nat),t<k->∃u,w.cell? ⟨p.blk,p.off+0+(i.1*k+t),none⟩=some u/\u.oneCell'=true/\∃A,(c l[i.1])[t]?=some A/\Rv w (aL out π H) π A u:=by
  intro i t ht;have hA:(c l[i.1])[t]?=some ((c l[i.1])[t]'(by rw[hk];exact ht)):=geT (by rw[hk];exact ht);obtain⟨u,g1,g2,g3⟩:=RvC.get _ p.blk p.off (i.1*k+t) _ hC (by rw[yD hk l i.1 t i.2 ht];exact hA);exact⟨u,by rw[Nat.add_zero];exact g1,g2,_,hA,g3⟩
 let enc:Fin l.length->List Value:=fun i=>(List.range k).map fun t=>(w.cell? ⟨p.blk,p.off+0+(i.1*k+t),none⟩).getD default
 have z:∀i,(enc i).length=k:=fun i=>by simp[enc]
 have a1:∀i t (h:t<(enc i).length) u,w.cell? ⟨p.blk,p.off+0+(i.1*k+t),none⟩=some u->(enc i)[t]=u:=fun i t h u hu=>by simp only[enc,List.getElem_map,List.getElem_range,hu,Option.getD_some]
 have c6:∀i,∀v∈enc i,v.oneCell'=true:=by
  intro i v hv;obtain⟨t,ht,rfl⟩:=List.getElem_of_mem hv;obtain⟨u,g1,g2,_⟩:=m i t (by rw[z]at ht;exact ht);rw[a1 i t ht u g1];exact g2
 have h5:∀i,RvL w mu' [] (c l[i.1]) (enc i):=by
  intro i;refine lY (π:=π) I _ _ (hpure _) (x8 _ _ (by rw[hk,z]) fun t h1 h2=>?_);obtain⟨u,g1,_,A,g3,g4⟩:=m i t (by rw[z]at h2;exact h2);rw[a1 i t h2 u g1];rw[geT h1]at g3;cases g3;exact g4
 have h6:(Array.ofFn (n:=l.length) id).size=l.length:=by simp
 have O:Sort.HoldsK enc k w p.blk (p.off+0) (Array.ofFn id):=by
  intro j T;have T:j<(Array.ofFn (n:=l.length) id).size*k:=by simpa using T
  have k0:0<k:=by
   rcases Nat.eq_zero_or_pos k with h|h
   ·subst h;simp at T
   ·exact h
  have hdiv:j / k<(Array.ofFn (n:=l.length) id).size:=Nat.div_lt_of_lt_mul (by rw[Nat.mul_comm];exact T);have a7:=Nat.mod_lt j k0;have e:=Nat.div_add_mod j k;have ed:(Array.ofFn (n:=l.length) id)[j / k]! =⟨j / k,by simpa using hdiv⟩:=by rw[getElem!_pos (Array.ofFn (n:=l.length) id) _ hdiv];simp
  refine⟨?_,by simp[World.frozen?,hb]⟩;rw[Sort.get_flatK _ _ _ _ T,ed];obtain⟨u,g1,_⟩:=m ⟨j / k,by simpa using hdiv⟩ (j%k) a7;have c7:=g1;rw[show(⟨j / k,by simpa using hdiv⟩:Fin l.length).1*k+j%k=j by show j / k*k+j%k=j;rw[Nat.mul_comm];exact e]at c7;rw[c7,getElem!_pos _ _ (by rw[z];exact a7),a1 _ _ _ u g1];rfl
 have h7:=yA (P:=P) (α:=Fin l.length) (c:=c) (g:=g) (caps:=caps') (cf:=cf) (el:=fun i=>l[i.1]) (enc:=enc) (k:=k) (blk:=p.blk) (off:=p.off+0) (size:=l.length) (w:=w) (mu:=mu') (cb:=fc.toList)
  (fun x y=>hcmp _ (List.getElem_mem _) _ (List.getElem_mem _)) (fun b h=>hmul b (I b h)) (.inr rfl) e9 h5
 have a8:=hs enc fc.toList.toArray p.blk (p.off+0) cap w z c6 h7 O hblk;have h8:fc.toList.toArray=fc:=by simp
 rw[h8]at a8;refine a8.mono ?_;rintro e w' ⟨rfl,n,os,rfl⟩;generalize c8:(C.toList.map fun i=>l[i.1])=l' at*;have a6:∀j v,(Sort.flatK enc k C).toList[j]?=some v->(Sort.putRowK enc k (Sort.ahead w n) p.blk (p.off+0) C).cell? ⟨p.blk,p.off+0+j,none⟩=some v:=by
  intro j v T;have b5:j<(Sort.flatK enc k C).size:=by have:=aT T;simpa using this
  have h:=(Sort.holdsK_putRowK enc k (Sort.ahead w n) p.blk (p.off+0) (Array.ofFn (n:=l.length) id) C O (by rw[b7,h6])) j b5;rw[h.1];rw[Array.getElem?_toList,Array.getElem?_eq_getElem b5]at T;rw[getElem!_pos _ j b5];exact T
 obtain⟨hE,b6⟩:=E.rm (w':=Sort.putRowK enc k (Sort.ahead w n) p.blk (p.off+0) C) (i:=0) Y hp rfl (.own (l'.flatMap c))
  (by simp[Sort.putRowK,Sort.putRow,Sort.mapBlock,Sort.ahead]) (fun b h9=>by simp[Sort.putRowK,Sort.putRow,Sort.mapBlock,Sort.ahead,Array.getElem?_modify,Ne.symm h9]) rfl rfl rfl (fun _=>Nat.le_add_right _ _) (fun hE=>by
   have j0:(l'.flatMap c).length=(l.flatMap c).length:=by rw[nm hk,nm hk,<-c8];simp[b7]
   refine⟨⟨Sort.putCells id (p.off+0) (Sort.flatK enc k C) cells,ty,by simp[Sort.putRowK,Sort.putRow,Sort.mapBlock,Sort.ahead,Array.getElem?_modify,hb,Sort.onCells],by simp[Sort.putCells,e8]⟩,?_⟩;refine iV _ (Sort.flatK enc k C).toList _ _ ?_ ?_ (fun j v T=>by have:=a6 j v T;rwa[Nat.add_zero]at this)
   ·have e:l'.flatMap c=C.toList.flatMap (fun i=>c l[i.1]):=by rw[<-c8,List.flatMap_map]
    have U:RvL w (aL out π H) π (C.toList.flatMap fun i=>c l[i.1]) (C.toList.flatMap enc):=yX (fun i=>x8 _ _ (by rw[hk,z]) fun t h1 h2=>by
     obtain⟨u,g1,_,A,g3,g4⟩:=m i t (by rw[z]at h2;exact h2);rw[a1 i t h2 u g1];rw[geT h1]at g3;cases g3;exact g4) _
    rw[<-e]at U;rw[rz z];exact RvL.ext hE _ _ U
   ·rw[rz z];intro v hv;obtain⟨i,_,hv⟩:=List.mem_flatMap.1 hv;exact c6 i v hv)
 have c9:H.set 0 (.own (l'.flatMap c))=.own (l'.flatMap c)::Hc:=by rw[<-hH];rfl
 rw[c9]at hE b6;have j1:Ext B _ (Sort.grow (Sort.putRowK enc k (Sort.ahead w n) p.blk (p.off+0) C) os) (aL out π (.own (l'.flatMap c)::Hc)) (aL out π (.own (l'.flatMap c)::Hc)) π π:=tA os b6.bound;have D:=hE.trans j1;exact⟨_,π,rfl,⟨D.low,D.size,D.keep,D.os,D.tape,D.output,pQ.refl π,D.drawn⟩,b6.ER os,b8 _ _ _⟩
end Go.Eng


set_option linter.unusedVariables false
namespace Go.Eng
open Go Go.RowKit Go.Proofs
section
variable{γ β:Type}
def gM(cmp:γ->γ->Option Int)(l:List γ):Bool:=l.all fun x=>l.all fun y=>(cmp x y).isSome
def Gc(cmp:γ->γ->Option Int)(x y:γ):Int:=(cmp x y).getD 0
def ltT(cmp:γ->γ->Option Int)(l:List γ)(i j:Fin l.length):Bool:=ltOf (fun i j:Fin l.length=>Gc cmp l[i.1] l[j.1]) i j
def Dp(l:List γ)(d:Array (Fin l.length)):List γ:=d.toList.map fun i=>l[i.1]
noncomputable def tZ(cmp:γ->γ->Option Int)(l:List γ)(ok:Bool)(F:Inhabited (Fin l.length)->(Fin l.length->Fin l.length->Bool)->Array (Fin l.length)->β×Array (Fin l.length)):Option (β×List γ):=
 if h:0<l.length then
  if (ok&&gM cmp l&&decide (l.length<4611686018427387904)&&decide ((F ⟨⟨0,h⟩⟩ (ltT cmp l) (Array.ofFn id)).2.size=l.length))=true then
   some ((F ⟨⟨0,h⟩⟩ (ltT cmp l) (Array.ofFn id)).1,Dp l (F ⟨⟨0,h⟩⟩ (ltT cmp l) (Array.ofFn id)).2)
  else none
 else none
theorem El{cmp:γ->γ->Option Int}{l:List γ}{ok:Bool}{F:Inhabited (Fin l.length)->(Fin l.length->Fin l.length->Bool)->Array (Fin l.length)->β×Array (Fin l.length)}{r:β×List γ}(h:tZ cmp l ok F=some r):
  ∃j:0<l.length,ok=true/\gM cmp l=true/\l.length<4611686018427387904/\(F ⟨⟨0,j⟩⟩ (ltT cmp l) (Array.ofFn id)).2.size=l.length/\r=((F ⟨⟨0,j⟩⟩ (ltT cmp l) (Array.ofFn id)).1,Dp l (F ⟨⟨0,j⟩⟩ (ltT cmp l) (Array.ofFn id)).2):=by
 unfold tZ at h;split at h
 ·rename_i j;split at h
  ·rename_i h1;simp only[Bool.and_eq_true,decide_eq_true_eq]at h1;exact⟨j,h1.1.1.1,h1.1.1.2,h1.1.2,h1.2,(Option.some.inj h).symm⟩
  ·cases h
 ·cases h
noncomputable def D0(cmp:γ->γ->Option Int)(l:List γ)(a b:Int):Option (Unit×List γ):=tZ cmp l (decide (0<=a)&&decide (a<=b)&&decide (b<=(l.length:Int))) fun _ lt d=>((),Sort.insertionSort lt d a.toNat b.toNat)
noncomputable def Ef(cmp:γ->γ->Option Int)(l:List γ)(a b:Int):Option (Unit×List γ):=tZ cmp l (decide (0<=a)&&decide (a<=b)&&decide (b<=(l.length:Int))) fun _ lt d=>((),Sort.heapSort lt d a.toNat b.toNat)
noncomputable def D1(cmp:γ->γ->Option Int)(l:List γ)(a b:Int):Option (Unit×List γ):=tZ cmp l (decide (0<=a)&&decide (a<=b)&&decide (b<=(l.length:Int))) fun _ lt d=>((),Sort.breakPatterns d a.toNat b.toNat)
noncomputable def EE(cmp:γ->γ->Option Int)(l:List γ)(a b:Int):Option (Unit×List γ):=tZ cmp l (decide (0<=a)&&decide (a<=b)&&decide (b<=(l.length:Int))) fun _ lt d=>((),Sort.reverseRange d a.toNat b.toNat)
noncomputable def Ew(cmp:γ->γ->Option Int)(l:List γ)(a b:Int):Option ((Int×Int)×List γ):=tZ cmp l (decide (0<=a)&&decide (a<b)&&decide (b<=(l.length:Int))) fun _ lt d=>((((Sort.choosePivot lt d a.toNat b.toNat).1:Nat),Sort.hintCode (Sort.choosePivot lt d a.toNat b.toNat).2),d)
noncomputable def CO(cmp:γ->γ->Option Int)(l:List γ)(a b:Int):Option (Bool×List γ):=tZ cmp l (decide (0<=a)&&decide (a<b)&&decide (b<=(l.length:Int))) fun _ lt d=>((Sort.partialInsertionSort lt d a.toNat b.toNat).2,(Sort.partialInsertionSort lt d a.toNat b.toNat).1)
noncomputable def Ct(cmp:γ->γ->Option Int)(l:List γ)(a b p:Int):Option (Int×List γ):=tZ cmp l (decide (0<=a)&&decide (a<=p)&&decide (p<b)&&decide (b<=(l.length:Int))) fun _ lt d=>(((Sort.partitionEqual lt d a.toNat b.toNat p.toNat).1:Nat),(Sort.partitionEqual lt d a.toNat b.toNat p.toNat).2)
noncomputable def Ez(cmp:γ->γ->Option Int)(l:List γ)(a b p:Int):Option ((Int×Bool)×List γ):=tZ cmp l (decide (0<=a)&&decide (a<=p)&&decide (p<b)&&decide (b<=(l.length:Int))) fun _ lt d=>((((Sort.partition lt d a.toNat b.toNat p.toNat).1:Nat),(Sort.partition lt d a.toNat b.toNat p.toNat).2.1),(Sort.partition lt d a.toNat b.toNat p.toNat).2.2)
noncomputable def EF(cmp:γ->γ->Option Int)(l:List γ)(a b lim:Int):Option (Unit×List γ):=tZ cmp l (decide (0<=a)&&decide (a<=b)&&decide (b<=(l.length:Int))&&decide (b-a<=12)) fun _ lt d=>((),Sort.insertionSort lt d a.toNat b.toNat)
theorem Bm{cmp:γ->γ->Option Int}{l:List γ}(h:gM cmp l=true){x y:γ}(hx:x∈l)(j:y∈l):cmp x y=some (Gc cmp x y):=by
 unfold gM at h;have h1:=List.all_eq_true.1 h x hx;have h2:=List.all_eq_true.1 h1 y j;obtain⟨v,m⟩:=Option.isSome_iff_exists.1 h2;unfold Gc;rw[m];rfl
end
section
variable[Dr]{K:Nat}{P:Program}{γ:Type}{c:γ->List AV}{k:Nat}{l:List γ}{Hc:List Blk}{caps caps':List AV}{f g:FuncId}{cmp:γ->γ->Option Int}
structure Fam (P:Program) (g:FuncId) (k:Nat) (fI fH fB fV fC fQ fE fP fS:FuncId):Prop where
 I:∀{n:Nat} (ih:Inhabited (Fin n)) (cf:Fin n->Fin n->Int) (a b:Nat),a<=b->b<=n->n<4611686018427387904->yN P fI g k n ih [.int .i64 a,.int .i64 b] cf (.tuple #[]) (Sort.insertionSort (ltOf cf) (Array.ofFn id) a b)
 H:∀{n:Nat} (ih:Inhabited (Fin n)) (cf:Fin n->Fin n->Int) (a b:Nat),a<=b->b<=n->n<4611686018427387904->yN P fH g k n ih [.int .i64 a,.int .i64 b] cf (.tuple #[]) (Sort.heapSort (ltOf cf) (Array.ofFn id) a b)
 B:∀{n:Nat} (ih:Inhabited (Fin n)) (cf:Fin n->Fin n->Int) (a b:Nat),a<=b->b<=n->n<4611686018427387904->yN P fB g k n ih [.int .i64 a,.int .i64 b] cf (.tuple #[]) (Sort.breakPatterns (Array.ofFn id) a b)
 V:∀{n:Nat} (ih:Inhabited (Fin n)) (cf:Fin n->Fin n->Int) (a b:Nat),a<=b->b<=n->n<4611686018427387904->yN P fV g k n ih [.int .i64 a,.int .i64 b] cf (.tuple #[]) (Sort.reverseRange (Array.ofFn id) a b)
 C:∀{n:Nat} (ih:Inhabited (Fin n)) (cf:Fin n->Fin n->Int) (a b:Nat),a<b->b<=n->n<4611686018427387904->yN P fC g k n ih [.int .i64 a,.int .i64 b] cf (.tuple #[.int .i64 ((Sort.choosePivot (ltOf cf) (Array.ofFn id) a b).1:Nat),.int .i64 (Sort.hintCode (Sort.choosePivot (ltOf cf) (Array.ofFn id) a b).2)]) (Array.ofFn id)
 Q:∀{n:Nat} (ih:Inhabited (Fin n)) (cf:Fin n->Fin n->Int) (a b:Nat),a<b->b<=n->n<4611686018427387904->yN P fQ g k n ih [.int .i64 a,.int .i64 b] cf (.bool (Sort.partialInsertionSort (ltOf cf) (Array.ofFn id) a b).2) (Sort.partialInsertionSort (ltOf cf) (Array.ofFn id) a b).1
 E:∀{n:Nat} (ih:Inhabited (Fin n)) (cf:Fin n->Fin n->Int) (a b p:Nat),a<=p->p<b->b<=n->n<4611686018427387904->yN P fE g k n ih [.int .i64 a,.int .i64 b,.int .i64 p] cf (.int .i64 ((Sort.partitionEqual (ltOf cf) (Array.ofFn id) a b p).1:Nat)) (Sort.partitionEqual (ltOf cf) (Array.ofFn id) a b p).2
 T:∀{n:Nat} (ih:Inhabited (Fin n)) (cf:Fin n->Fin n->Int) (a b p:Nat),a<=p->p<b->b<=n->n<4611686018427387904->yN P fP g k n ih [.int .i64 a,.int .i64 b,.int .i64 p] cf (.tuple #[.int .i64 ((Sort.partition (ltOf cf) (Array.ofFn id) a b p).1:Nat),.bool (Sort.partition (ltOf cf) (Array.ofFn id) a b p).2.1]) (Sort.partition (ltOf cf) (Array.ofFn id) a b p).2.2
 S:∀{n:Nat} (ih:Inhabited (Fin n)) (cf:Fin n->Fin n->Int) (a b:Nat) (lim:Int),a<=b->b<=n->b-a<=12->n<4611686018427387904->yN P fS g k n ih [.int .i64 a,.int .i64 b,.int .i64 lim] cf (.tuple #[]) (Sort.insertionSort (ltOf cf) (Array.ofFn id) a b)
theorem mm{β:Type}{xs:List Value}{R:AV}{ret:Value}{F:Inhabited (Fin l.length)->(Fin l.length->Fin l.length->Bool)->Array (Fin l.length)->β×Array (Fin l.length)}{ok:Bool}{r:β×List γ}(z:tZ cmp l ok F=some r)
  (hk:∀x,(c x).length=k) (hpure:∀x,cJ (c x)=[]) (hcaps:SnL (.own (l.flatMap c)::Hc) (fun b=>b !=0) caps caps')
  (hcmp:∀x y v,cmp x y=some v->@aQ ⟨true⟩ P g ([.agg (c x),.agg (c y)]++caps') (.at (.int .i64 v)))
  (hs:∀m:0<l.length,ok=true->l.length<4611686018427387904->r.1=(F ⟨⟨0,m⟩⟩ (ltT cmp l) (Array.ofFn id)).1->
   yN P f g k l.length ⟨⟨0,m⟩⟩ xs (fun i j=>Gc cmp l[i.1] l[j.1]) ret (F ⟨⟨0,m⟩⟩ (ltT cmp l) (Array.ofFn id)).2/\∀w mu π,Rv w mu π R ret):
  bO K P f (.hs 0 0 l.length k::(xs.map AV.at++[.fn g [] caps])) (.own (l.flatMap c)::Hc) R (.own (r.2.flatMap c)::Hc):=by
 obtain⟨m,h1,h2,C,D,q⟩:=El z;obtain⟨a,b⟩:=hs m h1 C (by rw[q]);have:=bO.J2 (K:=K) (Hc:=Hc) (cf:=Gc cmp) m a D b hk hpure hcaps (fun x hx y E=>hcmp x y _ (Bm h2 hx E));rw[q];exact this
omit [Dr] in
theorem jw{a:Int}(h:0<=a):∃m:Nat,a=(m:Int):=⟨a.toNat,by omega⟩
variable{fI fH fB fV fC fQ fE fP fS:FuncId}(F:Fam P g k fI fH fB fV fC fQ fE fP fS)(hk:∀x,(c x).length=k)(hpure:∀x,cJ (c x)=[])(hcaps:SnL (.own (l.flatMap c)::Hc) (fun b=>b !=0) caps caps')
variable(hcmp:∀x y v,cmp x y=some v->@aQ ⟨true⟩ P g ([.agg (c x),.agg (c y)]++caps') (.at (.int .i64 v))){a b p lim:Int}
include F hk hpure hcaps hcmp
theorem bO.D0{r:Unit×List γ}(j:D0 cmp l a b=some r):bO K P fI [.hs 0 0 l.length k,.at (.int .i64 a),.at (.int .i64 b),.fn g [] caps] (.own (l.flatMap c)::Hc) (.tup []) (.own (r.2.flatMap c)::Hc):=
 mm (xs:=[.int .i64 a,.int .i64 b]) (ret:=.tuple #[]) j hk hpure hcaps hcmp fun q h1 m _=>by
  simp only[Bool.and_eq_true,decide_eq_true_eq]at h1;obtain⟨a,rfl⟩:=jw h1.1.1;obtain⟨b,rfl⟩:=jw (a:=b) (by omega);exact⟨F.I _ _ a b (by omega) (by omega) m,fun _ _ _=>⟨#[],rfl,rfl⟩⟩
theorem bO.Ef{r:Unit×List γ}(j:Ef cmp l a b=some r):bO K P fH [.hs 0 0 l.length k,.at (.int .i64 a),.at (.int .i64 b),.fn g [] caps] (.own (l.flatMap c)::Hc) (.tup []) (.own (r.2.flatMap c)::Hc):=
 mm (xs:=[.int .i64 a,.int .i64 b]) (ret:=.tuple #[]) j hk hpure hcaps hcmp fun q h1 m _=>by
  simp only[Bool.and_eq_true,decide_eq_true_eq]at h1;obtain⟨a,rfl⟩:=jw h1.1.1;obtain⟨b,rfl⟩:=jw (a:=b) (by omega);exact⟨F.H _ _ a b (by omega) (by omega) m,fun _ _ _=>⟨#[],rfl,rfl⟩⟩
theorem bO.D1{r:Unit×List γ}(j:D1 cmp l a b=some r):bO K P fB [.hs 0 0 l.length k,.at (.int .i64 a),.at (.int .i64 b),.fn g [] caps] (.own (l.flatMap c)::Hc) (.tup []) (.own (r.2.flatMap c)::Hc):=
 mm (xs:=[.int .i64 a,.int .i64 b]) (ret:=.tuple #[]) j hk hpure hcaps hcmp fun q h1 m _=>by
  simp only[Bool.and_eq_true,decide_eq_true_eq]at h1;obtain⟨a,rfl⟩:=jw h1.1.1;obtain⟨b,rfl⟩:=jw (a:=b) (by omega);exact⟨F.B _ _ a b (by omega) (by omega) m,fun _ _ _=>⟨#[],rfl,rfl⟩⟩
theorem bO.EE{r:Unit×List γ}(j:EE cmp l a b=some r):bO K P fV [.hs 0 0 l.length k,.at (.int .i64 a),.at (.int .i64 b),.fn g [] caps] (.own (l.flatMap c)::Hc) (.tup []) (.own (r.2.flatMap c)::Hc):=
 mm (xs:=[.int .i64 a,.int .i64 b]) (ret:=.tuple #[]) j hk hpure hcaps hcmp fun q h1 m _=>by
  simp only[Bool.and_eq_true,decide_eq_true_eq]at h1;obtain⟨a,rfl⟩:=jw h1.1.1;obtain⟨b,rfl⟩:=jw (a:=b) (by omega);exact⟨F.V _ _ a b (by omega) (by omega) m,fun _ _ _=>⟨#[],rfl,rfl⟩⟩
theorem bO.Ew{r:(Int×Int)×List γ}(j:Ew cmp l a b=some r):bO K P fC [.hs 0 0 l.length k,.at (.int .i64 a),.at (.int .i64 b),.fn g [] caps] (.own (l.flatMap c)::Hc) (.tup [.at (.int .i64 r.1.1),.at (.int .i64 r.1.2)]) (.own (r.2.flatMap c)::Hc):=
 mm (xs:=[.int .i64 a,.int .i64 b]) (ret:=.tuple #[.int .i64 r.1.1,.int .i64 r.1.2]) j hk hpure hcaps hcmp fun q h1 m e=>by
  simp only[Bool.and_eq_true,decide_eq_true_eq]at h1;obtain⟨a,rfl⟩:=jw h1.1.1;obtain⟨b,rfl⟩:=jw (a:=b) (by omega);exact⟨by rw[e];exact F.C _ _ a b (by omega) (by omega) m,fun _ _ _=>⟨_,rfl,_,_,rfl,rfl,_,_,rfl,rfl,rfl⟩⟩
theorem bO.CO{r:Bool×List γ}(j:CO cmp l a b=some r):bO K P fQ [.hs 0 0 l.length k,.at (.int .i64 a),.at (.int .i64 b),.fn g [] caps] (.own (l.flatMap c)::Hc) (.at (.bool r.1)) (.own (r.2.flatMap c)::Hc):=
 mm (xs:=[.int .i64 a,.int .i64 b]) (ret:=.bool r.1) j hk hpure hcaps hcmp fun q h1 m e=>by
  simp only[Bool.and_eq_true,decide_eq_true_eq]at h1;obtain⟨a,rfl⟩:=jw h1.1.1;obtain⟨b,rfl⟩:=jw (a:=b) (by omega);exact⟨by rw[e];exact F.Q _ _ a b (by omega) (by omega) m,fun _ _ _=>rfl⟩
theorem bO.Ct{r:Int×List γ}(j:Ct cmp l a b p=some r):bO K P fE [.hs 0 0 l.length k,.at (.int .i64 a),.at (.int .i64 b),.at (.int .i64 p),.fn g [] caps] (.own (l.flatMap c)::Hc) (.at (.int .i64 r.1)) (.own (r.2.flatMap c)::Hc):=
 mm (xs:=[.int .i64 a,.int .i64 b,.int .i64 p]) (ret:=.int .i64 r.1) j hk hpure hcaps hcmp fun q h1 m e=>by
  simp only[Bool.and_eq_true,decide_eq_true_eq]at h1;obtain⟨a,rfl⟩:=jw h1.1.1.1;obtain⟨p,rfl⟩:=jw (a:=p) (by omega);obtain⟨b,rfl⟩:=jw (a:=b) (by omega);exact⟨by rw[e];exact F.E _ _ a b p (by omega) (by omega) (by omega) m,fun _ _ _=>rfl⟩
theorem bO.Ez{r:(Int×Bool)×List γ}(j:Ez cmp l a b p=some r):bO K P fP [.hs 0 0 l.length k,.at (.int .i64 a),.at (.int .i64 b),.at (.int .i64 p),.fn g [] caps] (.own (l.flatMap c)::Hc) (.tup [.at (.int .i64 r.1.1),.at (.bool r.1.2)]) (.own (r.2.flatMap c)::Hc):=
 mm (xs:=[.int .i64 a,.int .i64 b,.int .i64 p]) (ret:=.tuple #[.int .i64 r.1.1,.bool r.1.2]) j hk hpure hcaps hcmp fun q h1 m e=>by
  simp only[Bool.and_eq_true,decide_eq_true_eq]at h1;obtain⟨a,rfl⟩:=jw h1.1.1.1;obtain⟨p,rfl⟩:=jw (a:=p) (by omega);obtain⟨b,rfl⟩:=jw (a:=b) (by omega);exact⟨by rw[e];exact F.T _ _ a b p (by omega) (by omega) (by omega) m,fun _ _ _=>⟨_,rfl,_,_,rfl,rfl,_,_,rfl,rfl,rfl⟩⟩
theorem bO.EF{r:Unit×List γ}(j:EF cmp l a b lim=some r):bO K P fS [.hs 0 0 l.length k,.at (.int .i64 a),.at (.int .i64 b),.at (.int .i64 lim),.fn g [] caps] (.own (l.flatMap c)::Hc) (.tup []) (.own (r.2.flatMap c)::Hc):=
 mm (xs:=[.int .i64 a,.int .i64 b,.int .i64 lim]) (ret:=.tuple #[]) j hk hpure hcaps hcmp fun q h1 m _=>by
  simp only[Bool.and_eq_true,decide_eq_true_eq]at h1;obtain⟨a,rfl⟩:=jw h1.1.1.1;obtain⟨b,rfl⟩:=jw (a:=b) (by omega);exact⟨F.S _ _ a b lim (by omega) (by omega) (by omega) m,fun _ _ _=>⟨#[],rfl,rfl⟩⟩
end
end Go.Eng

