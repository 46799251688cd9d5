import Derived.Test.YtfhhaadcodofnaaGreatChkL51cd
set_option linter.all false
namespace Go.L
open Go Go.Eng
theorem vZ{S:List (K2×K2)}:∀(L:List K2) (D:K2->Bool),(∀f,de S f=true->D f=false->f∈L)->L.Pairwise (fun a b=>kap a<kap b)->∀l∈CLs S L D,∃e t,l=e::t/\∀f∈l,de S f=true->f=e\/kap e<kap f
 |[],_,_,_,l,j=>by cases j
 |e::L,D,q,hp,l,j=>by
  obtain⟨E,z⟩:=List.pairwise_cons.1 hp;unfold CLs at j;split at j
  ·rename_i he;refine vZ L D (fun f m hd=>?_) z l j;rcases List.mem_cons.1 (q f m hd)with rfl|h
   ·rw[he]at hd;cases hd
   ·exact h
  ·rename_i he;have he:D e=false:=by simpa using he
   obtain⟨t,C⟩:=AM (S:=S) (f:=100) (D:=D) (by omega) he;rcases List.mem_cons.1 j with rfl|j
   ·refine⟨e,t,C,fun f m I=>?_⟩;rcases List.mem_cons.1 (q f I (zI _ _ _ _ m))with h|h
    ·exact .inl h
    ·exact .inr (E f h)
   ·refine vZ L _ (fun f m hd=>?_) z l j;have h1:D f=false:=by
     cases h:D f with
     |false=>rfl
     |true=>rw[h,Bool.or_true]at hd;cases hd
    rcases List.mem_cons.1 (q f m h1)with rfl|h
    ·rw[C]at hd;simp at hd
    ·exact h
structure LsC (g:an) (level:Int) (L:List Ln):Prop where
 z40:g.Z.length<=40
 len:L.length<=120
 cr:∀x∈L,∀e∈x.2,Cr g.Z level e
 l100:∀x∈L,x.2.length<=100
 ne:∀x∈L,0<x.2.length
 hd:∀x∈L,x.1=true->∀k,0<k->k<x.2.length->kap (x.2.getD 0 (A2.mk 0 0))<kap (x.2.getD k (A2.mk 0 0))
 srt:L.Pairwise fun a b=>kL a<kL b
theorem IQ{g:an}{level:Int}{S:List (K2×K2)}(hs:SS g level S):LsC g level (vg S):=by
 obtain⟨z,I⟩:=A8 hs.pw hs.len;have C:=E8 hs.pw hs.len;obtain⟨-,-,-,d⟩:=yi hs.pw hs.len (stK S) (dnK S) z C fun e he=>tm.1 he
 refine⟨hs.z40,E7 hs,fun x hx=>(hs.pts hx).1,fun x hx=>(hs.pts hx).2,fun x hx=>?_,fun x hx hc k J hk=>?_,wV hs⟩
 ·rcases yb.1 hx with⟨e,he,rfl⟩|⟨l,m,rfl⟩
  ·obtain⟨t,D⟩:=oF (S:=S) (e:=e);show 0<(path S e).length;rw[D];simp
  ·obtain⟨e,t,e1,-⟩:=(qi (stK S) (dnK S)).1 l m;show 0<l.length;rw[e1];simp
 ·rcases yb.1 hx with⟨e,he,rfl⟩|⟨l,m,rfl⟩
  ·cases hc
  ·have j:=d l m;obtain⟨e,t,e1,h1⟩:=vZ (stK S) (dnK S) (fun f E _=>tm.2 E) hs.keys l m;dsimp only at hk ⊢;have hm:=nD hk (A2.mk 0 0);have q:l.getD 0 (A2.mk 0 0)=e:=by rw[e1];rfl
   rw[q];rcases h1 _ hm (j.st _ hm)with h|h
   ·exfalso;rw[<-q]at h;have:=getD_inj j.nd hk (by omega) h;omega
   ·exact h
section
variable{g:an}{level:Int}{c:aa}{x y:Ln}
theorem sC(h:eqL g level c x=true):c.Closed=x.1/\c.Points.length=x.2.length/\∀k,k<x.2.length->kq c k=x.2.getD k (A2.mk 0 0):=by
 unfold eqL at h;rw[Bool.and_eq_true,Bool.and_eq_true,List.all_eq_true]at h;refine⟨by simpa using h.1,dcT h.2.1,fun k hk=>?_⟩;have:=h.2.2 k (List.mem_range.2 hk);unfold mB at this;rw[Bool.and_eq_true,Bool.and_eq_true]at this;have a:(c.Points.getD k default).A=(x.2.getD k (A2.mk 0 0)).e0:=by simpa using this.1
 have b:(c.Points.getD k default).B=(x.2.getD k (A2.mk 0 0)).e1:=by simpa using this.2.1
 unfold kq;rw[a,b]
theorem HO(h:eqL g level c x=true)(k:eqL g level c y=true):x=y:=by
 obtain⟨j,a2,a3⟩:=sC h;obtain⟨m,b2,q⟩:=sC k;obtain⟨x1,x2⟩:=x;obtain⟨z,C⟩:=y;dsimp only at*;have e1:x1=z:=j.symm.trans m;have e2:x2=C:=by
  apply List.ext_getElem
  ·omega
  ·intro i h1 h2;have u:=a3 i h1;have v:=q i h2;rw[u]at v;simpa [List.getD,geT h1,geT h2]using v
 rw[e1,e2]
theorem CL{i k:Nat}(j:i<c.Points.length)(hk:k<c.Points.length):kq (vj c i) k=kq c (if k<c.Points.length-i then i+k else k-(c.Points.length-i)):=by
 have e:(vj c i).Points.getD k default=c.Points.getD (if k<c.Points.length-i then i+k else k-(c.Points.length-i)) default:=by
  show(c.Points.drop i++c.Points.take i).getD k default=_;simp only[List.getD];congr 1;by_cases h:k<c.Points.length-i
  ·rw[if_pos h,List.getElem?_append_left (by rw[List.length_drop];exact h),List.getElem?_drop]
  ·rw[if_neg h,List.getElem?_append_right (by rw[List.length_drop];omega),List.length_drop,List.getElem?_take_of_lt (by omega)]
 unfold kq;rw[e]
theorem FF{Z:List Int}{e:K2}(h:Cr Z level e)(j:Z.length<=40):inK e:=by
 have:=h.bd;unfold inK;omega
theorem E4{L:List Ln}(C:LsC g level L)(hx:x∈L){j:Nat}(z:j<c.Points.length)(h:eqL g level (vj c j) x=true):uK c j:=by
 obtain⟨D,a2,a3⟩:=sC h;have D:true=x.1:=D;rw[Bj (by omega)]at a2;have q:∀m,m<c.Points.length->∃k,k<x.2.length/\kq c m=x.2.getD k (A2.mk 0 0)/\(m≠j->0<k):=by
  intro m hm;by_cases h1:j<=m
  ·refine⟨m-j,by omega,?_,fun E=>by omega⟩;rw[<-a3 (m-j) (by omega),CL z (by omega),if_pos (by omega)];congr 1;omega
  ·refine⟨m+c.Points.length-j,by omega,?_,fun E=>by omega⟩;rw[<-a3 (m+c.Points.length-j) (by omega),CL z (by omega),if_neg (by omega)];congr 1;omega
 have e0:kq c j=x.2.getD 0 (A2.mk 0 0):=by
  rw[<-a3 0 (by omega),CL z (by omega),if_pos (by omega)];rfl
 refine⟨z,fun m hm=>?_,fun m hm E=>?_⟩
 ·obtain⟨k,I,J,-⟩:=q m hm;rw[J];exact FF (C.cr x hx _ (nD I _)) C.z40
 ·obtain⟨k,I,J,N⟩:=q m hm;rw[J,e0];exact C.hd x hx D.symm k (N E) I
theorem CS{L:List Ln}(z:LsC g level L)(hx:x∈L){i:Nat}(C:i<c.Points.length)(h:∀j,uK c j->i=j):tB g level c x=eqL g level (zj c i) x:=by
 unfold tB zj;cases hc:c.Closed with
 |false=>rw[if_neg (fun h=>absurd h.1 (by decide)),if_neg (by decide)]
 |true=>
  rw[if_pos ⟨rfl,by omega⟩,if_pos rfl,Bool.eq_iff_iff,List.any_eq_true];constructor
  ·rintro⟨j,q,m⟩;have q:=List.mem_range.1 q;rw[h j (E4 z hx q m)];exact m
  ·intro m;exact⟨i,List.mem_range.2 C,m⟩
theorem EM(j:c.Points.length=0)(hx:0<x.2.length):tB g level c x=false:=by
 unfold tB;rw[if_neg (by omega)];cases h:eqL g level c x with
 |false=>rfl
 |true=>have:=(sC h).2.1;omega
end
end Go.L


set_option linter.all false
namespace Go.L
open Go Go.Eng
theorem zt{α:Type}[DecidableEq α]:∀{l m:List α},l.Nodup->(∀x∈l,x∈m)->l.length<=m.length
 |[],m,_,_=>Nat.zero_le _
 |x::l,m,j,hs=>by
  rw[List.nodup_cons]at j;have h1:=hs x (by simp);have h2:=zt (l:=l) (m:=m.erase x) j.2 fun y q=>(List.mem_erase_of_ne (by rintro rfl;exact j.1 q)).2 (hs y (List.mem_cons_of_mem _ q))
  rw[List.length_erase_of_mem h1]at h2;have:=List.length_pos_of_mem h1;rw[List.length_cons];omega
theorem C5{α:Type}[DecidableEq α]{l m:List α}(q:l.Nodup)(hs:∀x∈l,x∈m)(z:m.length<=l.length):∀x∈m,x∈l:=by
 intro x hx;apply Classical.byContradiction;intro h;have:=zt (l:=l) (m:=m.erase x) q fun y j=>(List.mem_erase_of_ne (by rintro rfl;exact h j)).2 (hs y j)
 rw[List.length_erase_of_mem hx]at this;have:=List.length_pos_of_mem hx;omega
section
variable{g:an}{level:Int}{L:List Ln}
theorem LsC.inj(m:LsC g level L){i k:Nat}(j:i<L.length)(hk:k<L.length)(h:kL L[i]=kL L[k]):i=k:=by
 have:=List.pairwise_iff_getElem.1 m.srt;rcases Nat.lt_trichotomy i k with h1|h1|h1
 ·have:=this i k j hk h1;omega
 ·exact h1
 ·have:=this k i hk j h1;omega
theorem LsC.one(j:LsC g level L){c:aa}{i k:Nat}(m:i<L.length)(hk:k<L.length)(h:eqL g level c L[i]=true)(q:eqL g level c L[k]=true):i=k:=
 j.inj m hk (by rw[HO h q])
theorem vo(q:LsC g level L){c:aa}{k:Nat}(hk:k<L.length)(h:eqL g level c L[k]=true):okC c/\kC c=kL L[k]:=by
 obtain⟨-,a2,a3⟩:=sC h;have m:=q.ne _ (List.getElem_mem hk);have e:fK c=L[k].2.getD 0 (A2.mk 0 0):=by
  rw[<-a3 0 m];rfl
 have j:=FF (q.cr _ (List.getElem_mem hk) _ (nD m (A2.mk 0 0))) q.z40;rw[<-e]at j;refine⟨⟨by omega,j⟩,?_⟩;unfold kC kL;rw[e];cases z:L[k].2 with
 |nil=>rw[z]at m;simp at m
 |cons a t=>rfl
noncomputable def ixL(g:an)(level:Int)(L:List Ln)(c:aa):Nat:=((List.range L.length).find? fun k=>eqL g level c (L.getD k default)).getD 0
theorem HV(q:LsC g level L){c:aa}{k:Nat}(hk:k<L.length)(h:eqL g level c L[k]=true):ixL g level L c=k:=by
 have e:∀{m},m<L.length->L.getD m default=L[m]! :=fun {m} hm=>by simp[List.getD,geT hm,hm]
 unfold ixL;cases j:(List.range L.length).find? fun k=>eqL g level c (L.getD k default)with
 |none=>
  have:=List.find?_eq_none.1 j k (List.mem_range.2 hk);rw[show L.getD k default=L[k]by simp[List.getD,geT hk],h]at this;exact absurd rfl this
 |some m=>
  have hm:=List.mem_range.1 (List.mem_of_find?_eq_some j);have:=List.find?_some j;rw[show L.getD m default=L[m]by simp[List.getD,geT hm]]at this;exact q.one hm hk this h
def Mt(g:an)(level:Int)(L:List Ln)(l:List aa)(m:List Nat):Prop:=m.length=l.length/\∀j (h:j<l.length) (q:j<m.length),∃hk:m[j]<L.length,tB g level l[j] L[m[j]]=true
def Good(g:an)(level:Int)(L:List Ln)(l:List aa):Prop:=l.length=L.length/\∃j,Mt g level L l j/\j.Nodup
structure Gv (g:an) (level:Int) (L:List Ln) (l gv:List aa):Prop where
 len:gv.length=l.length
 eq:∀j (h:j<l.length) (h':j<gv.length),∀x∈L,tB g level l[j] x=eqL g level gv[j] x
theorem HN(z:LsC g level L){l gv r:List aa}(T:Gv g level L l gv)(h:Good g level L l)(Y:(∀c∈gv,okC c)->gv.Pairwise (fun a b=>kC a≠kC b)->r=fJ (ltK kC) gv):
  r.length=L.length/\∀k (hk:k<L.length) (C:k<r.length),eqL g level r[k] L[k]=true:=by
 obtain⟨hn,I,⟨m1,m2⟩,J⟩:=h;have a6:=T.len;have mt:∀j (h:j<gv.length),∃(h1:j<I.length) (h2:I[j]<L.length),eqL g level gv[j] L[I[j]]=true:=fun j D=>by
  obtain⟨h2,E⟩:=m2 j (by omega) (by omega);exact⟨by omega,h2,by rw[<-T.eq j (by omega) D _ (List.getElem_mem h2)];exact E⟩
 have ok:∀c∈gv,okC c:=fun c hc=>by
  obtain⟨j,D,rfl⟩:=List.getElem_of_mem hc;obtain⟨h1,h2,E⟩:=mt j D;exact(vo z h2 E).1
 have pw:gv.Pairwise fun a b=>kC a≠kC b:=by
  rw[List.pairwise_iff_getElem];intro i j hi D N he;obtain⟨a1,a2,a3⟩:=mt i hi;obtain⟨b1,b2,b3⟩:=mt j D;rw[(vo z a2 a3).2,(vo z b2 b3).2]at he;have:=(List.pairwise_iff_getElem.1 J) i j a1 b1 N;exact this (z.inj a2 b2 he)
 obtain rfl:=Y ok pw;have hlen:(fJ (ltK kC) gv).length=L.length:=by rw[kR];omega
 refine⟨hlen,fun k hk C=>?_⟩;have srt:(fJ (ltK kC) gv).Pairwise fun a b=>kC a<kC b:=qF pw
 have mem:∀p∈fJ (ltK kC) gv,∃k,∃hk:k<L.length,eqL g level p L[k]=true:=fun p hp=>by
  obtain⟨j,D,rfl⟩:=List.getElem_of_mem (iw.1 hp);obtain⟨h1,h2,E⟩:=mt j D;exact⟨_,h2,E⟩
 generalize fJ (ltK kC) gv=r at*;have O:r.map kC=L.map kL:=by
  have U:(r.map kC).Pairwise (·<·):=by rw[List.pairwise_map];exact srt
  have sB:(L.map kL).Pairwise (·<·):=by rw[List.pairwise_map];exact z.srt
  have sub:∀a∈r.map kC,a∈L.map kL:=fun a ha=>by
   obtain⟨p,hp,rfl⟩:=List.mem_map.1 ha;obtain⟨k,hk,he⟩:=mem p hp;rw[(vo z hk he).2];exact List.mem_map.2 ⟨_,List.getElem_mem hk,rfl⟩
  have nd:(r.map kC).Nodup:=U.imp fun {a b} h=>by omega
  have sup:=C5 nd sub (by rw[List.length_map,List.length_map];omega);exact oW (κ:=fun a=>a) U sB fun a=>⟨sub a,sup a⟩
 obtain⟨m,hm,he⟩:=mem _ (List.getElem_mem C);have e1:kC r[k]=kL L[k]:=by
  have:=congrArg (fun q=>q[k]?) O;simpa [hk,C]using this
 rw[(vo z hm he).2]at e1;have:=z.inj hm hk e1;subst this;exact he
theorem Gx(z:LsC g level L){l gv r:List aa}(C:Gv g level L l gv)(hp:r.Perm gv)(D:r.length=L.length)(h:∀k (hk:k<L.length) (E:k<r.length),eqL g level r[k] L[k]=true):Good g level L l:=by
 have q:=C.len;have I:=hp.length_eq;have e:r.map (ixL g level L)=List.range L.length:=by
  apply List.ext_getElem
  ·simp[D]
  ·intro k h1 h2;rw[List.getElem_map,List.getElem_range];rw[List.length_map]at h1;exact HV z (by omega) (h k (by omega) h1)
 refine⟨by omega,gv.map (ixL g level L),⟨by rw[List.length_map,q],fun j J m=>?_⟩,?_⟩
 ·rw[List.length_map]at m;obtain⟨k,hk,N⟩:=List.getElem_of_mem (hp.mem_iff.2 (List.getElem_mem m));have h1:=h k (by omega) hk;rw[N]at h1;have h2:=HV z (show k<L.length by omega) h1;have e2:(gv.map (ixL g level L))[j]'(by rw[List.length_map];exact m)=k:=by rw[List.getElem_map];exact h2
  refine⟨by rw[e2];omega,?_⟩;rw[C.eq j J m _ (List.getElem_mem _)];simp only[e2];exact h1
 ·have h1:=(hp.map (ixL g level L)).nodup_iff.1;rw[e]at h1;exact h1 List.nodup_range
end
end Go.L


set_option linter.all false
namespace Go.L
open Go Go.Eng
theorem C6{gv:List aa}(q:gv.length<=20)(m:∀c∈gv,0<c.Points.length):∃r,aW 20000 gv=some r/\r.Perm gv/\((∀c∈gv,okC c)->gv.Pairwise (fun a b=>kC a≠kC b)->r=fJ (ltK kC) gv):=by
 have srt:(∀c∈gv,okC c)->gv.Pairwise (fun a b=>kC a≠kC b)->aJ 20000 gv=some (fJ (ltK kC) gv):=fun h hd=>by
  unfold aJ;rw[decide_eq_true (show gv.length<4611686018427387904 by omega)];refine wD (fun x y hx j=>?_) fun x y hx j e=>?_
  ·obtain⟨c,e,z⟩:=tt (a:=fK x) (b:=fK y) (h x hx).2 (h y j).2;refine⟨c,?_,z⟩;unfold bZ;rw[xE (h x hx),xE (h y j)];show bdO (cU 20000 (fK x) (fK y)) _=_;rw[e];rfl
  ·apply Classical.byContradiction;intro C;exact Az (R:=fun a b=>kC a≠kC b) (fun a b h k=>h k.symm) hd x hx y j C e
 unfold aW;cases hs:aJ 20000 gv with
 |some r=>
  refine⟨r,rfl,?_,fun h hd=>?_⟩
  ·unfold aJ at hs;rw[decide_eq_true (show gv.length<4611686018427387904 by omega)]at hs;have hs:sq (fun x y=>bZ 20000 x y) gv=some r:=hs;unfold sq at hs;split at hs
   ·cases hs;exact wR _ _
   ·cases hs
  ·have:=srt h hd;rw[hs]at this;exact Option.some.inj this
 |none=>
  have D:0<gv.length:=by
   rcases Nat.eq_zero_or_pos gv.length with h|h
   ·have e:gv=[]:=List.length_eq_zero_iff.1 h;subst e;have:=srt (fun c hc=>by cases hc) List.Pairwise.nil;rw[hs]at this;cases this
   ·exact h
  have hc:gM cmC gv=true:=by
   unfold gM;refine List.all_eq_true.2 fun x hx=>List.all_eq_true.2 fun y j=>?_
   have E:dw 20000 x=some (fK x):=by
    unfold dw;rw[show inR 0 x.Points.length=true by rw[kY];have:=m x hx;omega];rfl
   have I:dw 20000 y=some (fK y):=by
    unfold dw;rw[show inR 0 y.Points.length=true by rw[kY];have:=m y j;omega];rfl
   obtain⟨v,J⟩:=uS (fK x) (fK y);have:cmC x y=some v:=by
    unfold cmC bZ;rw[E,I];show bdO (cU 20000 (fK x) (fK y)) _=_;rw[J];rfl
   rw[this];rfl
  obtain⟨r,N,hp⟩:=Fi D q hc;refine⟨r,N,hp,fun h hd=>?_⟩;have:=srt h hd;rw[hs]at this;cases this
section
variable{g:an}{level:Int}{L:List Ln}
def usd(n:Nat)(j:List Nat):List Bool:=(List.range n).map fun k=>j.contains k
theorem HF{n:Nat}{j:List Nat}:(usd n j).length=n:=by simp[usd]
theorem G8{n:Nat}{j:List Nat}{k:Nat}(h:k<n):gt (usd n j) (k:Int)=j.contains k:=by
 unfold usd;rw[pM (by simpa using h)];simp
theorem Hn{n:Nat}{m:List Nat}{k:Nat}(h:k<n):(usd n m).set k true=usd n (k::m):=by
 unfold usd;apply List.ext_getElem
 ·simp
 ·intro j h1 h2;simp only[List.getElem_set,List.getElem_map,List.getElem_range,List.contains_cons];by_cases e:k=j
  ·subst e;simp
  ·rw[if_neg e,show(j==k)=false by simpa using fun h=>e h.symm,Bool.false_or]
theorem HQ{n:Nat}:List.replicate n false=usd n []:=by
 unfold usd;apply List.ext_getElem
 ·simp
 ·intro j h1 h2;simp
open Classical in
theorem HC(hl:-2097153<=level/\level<=2097153)(hL:LsC g level L){l:List aa}(b4:l.length<=20)(a6:∀c∈l,c.Points.length<=80/\∀p∈c.Points,zf p)
  (N:∀c∈l,∀i (J:i<L.length) k (hk:k<L.length),tB g level c L[i]=true->tB g level c L[k]=true->i=k):gV 20000 l (L.map (toL (crR g level)))=some (decide (Good g level L l)):=by
 have hn:=hL.len;apply Ok.eq;unfold gV;rw[List.length_map];refine Ok.cd (fun h=>aw.2 ?_) (fun h=>?_)
 ·have h:(l.length:Int)≠(L.length:Int):=bne_iff_ne.1 h;exact(decide_eq_false fun O=>h (by rw[O.1])).symm
 have h:l.length=L.length:=by
  have:¬(l.length:Int)≠(L.length:Int):=fun Y=>by rw[bne_iff_ne.2 Y]at h;cases h
  omega
 refine Ok.gd (decide_eq_true (by omega)) (Ok.gd (decide_eq_true (by omega)) (Ok.gd (decide_eq_true (by omega)) ?_));rw[Int.toNat_natCast,HQ];refine Ok.bd (R:=fun o=>(o=.inl ()/\Good g level L l)\/(o=.inr false/\¬Good g level L l)) ?_ ?_
 ·refine eC (γ:=List Nat) (len:=l.length) (fun z x=>(usd L.length z,x)) (fun m z=>z.Nodup/\z.length=m/\∀j (h:j<l.length) (Y:j<z.reverse.length),∃hk:z.reverse[j]<L.length,tB g level l[j] L[z.reverse[j]]=true) (by omega) (by omega) (c0:=[]) ⟨List.nodup_nil,rfl,fun j h Y=>by simp at Y⟩ ?_ ?_
  ·rintro again m z hm ⟨k1,k2,k3⟩ D;dsimp only;obtain⟨a7,T⟩:=a6 _ (List.getElem_mem hm);refine Ok.cd (fun _=>?_) (fun h=>by have:=dcF h;omega);refine Ok.gd (by rw[bj];exact decide_eq_true hm) ?_;rw[pM hm];refine Ok.bd (R:=fun o=>(o=(usd L.length z,false)/\∀k (hk:k<L.length),k∈z\/tB g level l[m] L[k]=false)\/∃j,∃hj:j<L.length,j∉z/\tB g level l[m] L[j]=true/\o=(usd L.length (j::z),true)) ?_ ?_
   ·refine eC (n:=20000) (γ:=Option Nat) (len:=L.length) (fun s x=>(match s with|none=>usd L.length z|some j=>usd L.length (j::z),s.isSome,x)) (fun q s=>match s with|none=>∀k (hk:k<L.length),k<q->k∈z\/tB g level l[m] L[k]=false|some j=>∃hj:j<L.length,j∉z/\tB g level l[m] L[j]=true) (by omega) (by omega) (c0:=none) (fun k _ h=>by omega) ?_ ?_
    ·rintro again q s E I D;dsimp only;refine Ok.cd (fun _=>?_) (fun h=>by have:=dcF h;omega);refine Ok.gd (by rw[bj];exact decide_eq_true E) ?_;cases s with
     |some j=>exact Ok.cd (fun h=>by cases h) (fun _=>D (some j) I)
     |none=>
      refine Ok.cd (fun _=>?_) (fun h=>by cases h);dsimp only at I ⊢;refine Ok.gd (by rw[bj,HF];exact decide_eq_true E) ?_;rw[G8 E,E1 E];refine Ok.cd (fun hu=>?_) (fun hu=>?_)
      ·have hu:q∉z:=by simpa using hu
       refine Ok.bde (Gh hl a7 T (hL.cr _ (List.getElem_mem E)) (hL.l100 _ (List.getElem_mem E))) (Ok.cd (fun U=>?_) (fun U=>?_))
       ·have D:=D (some q) ⟨E,hu,U⟩;rw[Int.toNat_natCast,Hn E];exact D
       ·refine D none fun k hk a8=>?_
        by_cases e:k=q
        ·subst e;exact .inr U
        ·exact I k hk (by omega)
      ·have hu:q∈z:=by simpa using hu
       refine D none fun k hk a8=>?_
       by_cases e:k=q
       ·subst e;exact .inl hu
       ·exact I k hk (by omega)
    ·rintro again s I;dsimp only;refine Ok.cd (fun h=>by have:=dcT h;omega) (fun _=>aw.2 ?_);cases s with
     |none=>exact .inl ⟨rfl,fun k hk=>I k hk hk⟩
     |some j=>
      obtain⟨a,b,c⟩:=I;exact .inr ⟨j,a,b,c,rfl⟩
   ·rintro o (⟨rfl,b0⟩|⟨j,hj,b3,U,rfl⟩)
    ·dsimp only;refine Ok.cd (fun _=>aw.2 (.inr ⟨rfl,?_⟩)) (fun h=>by cases h);rintro⟨-,qs,⟨q1,q2⟩,q3⟩;have same:∀i (J:i<m),∃(h1:i<qs.length) (h2:i<z.reverse.length),qs[i]=z.reverse[i]:=fun i J=>by
      have h2:i<z.reverse.length:=by rw[List.length_reverse];omega
      obtain⟨a1,a2⟩:=q2 i (by omega) (by omega);obtain⟨b1,b2⟩:=k3 i (by omega) h2;exact⟨by omega,h2,N _ (List.getElem_mem (by omega)) _ a1 _ b1 a2 b2⟩
     obtain⟨c1,c2⟩:=q2 m hm (by omega);rcases b0 _ c1 with h5|h5
     ·obtain⟨i,J,he⟩:=List.getElem_of_mem (List.mem_reverse.2 h5);have C:i<m:=by rw[List.length_reverse]at J;omega
      obtain⟨h1,h2,h3⟩:=same i C;have:=(List.pairwise_iff_getElem.1 q3) i m h1 (by omega) C;exact this (by rw[h3,he])
     ·rw[c2]at h5;cases h5
    ·dsimp only;refine Ok.cd (fun h=>by cases h) (fun _=>D (j::z) ⟨List.nodup_cons.2 ⟨b3,k1⟩,by rw[List.length_cons,k2],fun i J C=>?_⟩);rw[List.length_reverse,List.length_cons]at C;by_cases e:i<z.length
     ·obtain⟨b1,b2⟩:=k3 i J (by rw[List.length_reverse];exact e);have ee:(j::z).reverse[i]'(by rw[List.length_reverse,List.length_cons];omega)=z.reverse[i]'(by rw[List.length_reverse];exact e):=by
       simp only[List.reverse_cons];rw[List.getElem_append_left (by rw[List.length_reverse];exact e)]
      simp only[ee];exact⟨b1,b2⟩
     ·have e:i=z.length:=by omega
      subst e;have ee:(j::z).reverse[z.length]'(by rw[List.length_reverse,List.length_cons];omega)=j:=by
       simp only[List.reverse_cons];rw[List.getElem_append_right (by rw[List.length_reverse];exact Nat.le_refl _)];simp
      simp only[ee];refine⟨hj,?_⟩;subst k2;exact U
  ·rintro again z ⟨k1,k2,k3⟩;dsimp only;refine Ok.cd (fun h=>by have:=dcT h;omega) (fun _=>aw.2 (.inl ⟨rfl,h,z.reverse,⟨by rw[List.length_reverse,k2],k3⟩,?_⟩));exact(List.reverse_perm z).nodup_iff.2 k1
 ·rintro o (⟨rfl,O⟩|⟨rfl,O⟩)
  ·exact aw.2 (decide_eq_true O).symm
  ·exact aw.2 (decide_eq_false O).symm
end
end Go.L

