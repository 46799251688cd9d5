import Derived.Test.YtfhhaadcodofnaaGreatChkL51cg
set_option linter.all false
namespace Go.L
open Go Go.Eng
section
variable{g:an}{level:Int}{L:List Ln}
def GvP(l gv:List aa):Prop:=∀j (h:j<l.length) (m:j<gv.length),0<l[j].Points.length/\∃i,i<l[j].Points.length/\gv[j]=zj l[j] i/\∀k,uK l[j] k->i=k
theorem EH{c:aa}{i:Nat}(j:i<=c.Points.length):(zj c i).Points.length=c.Points.length/\∀p∈(zj c i).Points,p∈c.Points:=by
 unfold zj;split
 ·exact⟨Bj j,fun p hp=>BV hp⟩
 ·exact⟨rfl,fun p hp=>hp⟩
theorem Hr(C:-2097153<=level/\level<=2097153)(m:LsC g level L){r:List aa}(D:∀c∈r,∀p∈c.Points,zf p):
  ∃v,aG 20000 r (L.map (toL (crP g level)))=some v/\(v=true↔r.length=L.length/\∀k (hk:k<L.length) (j:k<r.length),eqL g level r[k] L[k]=true):=by
 have E:=m.len;unfold aG;rw[List.length_map];by_cases h:r.length=L.length
 ·rw[show((r.length:Int)!=(L.length:Int))=false by simp[h]];show ∃v,bdO (aP 20000 _ 0) _=some v/\_;rw[tu (len:=r.length) (bad:=false) (p:=fun k=>eqL g level (r.getD k default) (L.getD k default)) (by omega) (by omega) ?_ ?_]
  ·refine⟨(List.range r.length).all fun k=>eqL g level (r.getD k default) (L.getD k default),?_,?_⟩
   ·cases (List.range r.length).all fun k=>eqL g level (r.getD k default) (L.getD k default)<;>rfl
   ·rw[List.all_eq_true];constructor
    ·refine fun q=>⟨h,fun k hk j=>?_⟩
     have:=q k (List.mem_range.2 j);simpa [List.getD,geT hk,geT j]using this
    ·rintro⟨-,q⟩ k hk;have hk:=List.mem_range.1 hk;have hk:k<L.length:=by omega
     have:=q k hk (by omega);simpa [List.getD,geT hk,geT (show k<r.length by omega)]using this
  ·intro again k j;have d1:decide ((k:Int)<(r.length:Int))=true:=by simpa using j
   have hk:k<L.length:=by omega
   rw[d1,bj,bj,decide_eq_true hk,decide_eq_true j,pM j,E1 hk,IA C (D _ (List.getElem_mem j)) (m.cr _ (List.getElem_mem hk)) (m.l100 _ (List.getElem_mem hk))];have e:eqL g level (r.getD k default) (L.getD k default)=eqL g level r[k] L[k]:=by simp[List.getD,geT hk,geT j]
   rw[e];cases eqL g level r[k] L[k]<;>rfl
  ·intro again;have d1:decide ((r.length:Int)<(r.length:Int))=false:=by simp
   rw[d1];rfl
 ·rw[show((r.length:Int)!=(L.length:Int))=true by rw[bne_iff_ne];omega];exact⟨false,rfl,fun z=>absurd z (by decide),fun z=>absurd z.1 h⟩
theorem GP(hl:-2097153<=level/\level<=2097153)(E:LsC g level L)(hc:gj 20000 g level=some 0)(e1:im 20000 g level=some (L.map (toL (crP g level)))){l:List aa}(a1:l.length<=20)(I:∀c∈l,c.Points.length<=80/\∀p∈c.Points,zf p):
  ∃v,ik 20000 g level l=some v/\((v=0/\Good g level L l)\/(v=12/\¬Good g level L l)):=by
 have key:Ok (ik 20000 g level l) fun v=>(v=0/\Good g level L l)\/(v=12/\¬Good g level L l):=by
  unfold ik;refine Ok.bde hc (Ok.cd (fun h=>by cases h) (fun _=>?_));refine Ok.bd (R:=fun o=>(o=.inr 12/\∃j,∃h:j<l.length,l[j].Points.length=0)\/∃gv,o=.inl gv/\gv.length=l.length/\GvP l gv) ?_ ?_
  ·refine eC (γ:=List aa) (len:=l.length) (fun s x=>(s,x)) (fun m gv=>gv.length=m/\GvP l gv) (by omega) (by omega) (c0:=[]) ⟨rfl,fun j h J=>by simp at J⟩ ?_ ?_
   ·rintro again m gv hm ⟨C,D⟩ ih;dsimp only;refine Ok.cd (fun _=>?_) (fun h=>by have:=dcF h;omega);refine Ok.gd (by rw[bj];exact decide_eq_true hm) ?_;rw[pM hm];refine Ok.cd (fun h=>aw.2 (.inl ⟨rfl,m,hm,by simpa using h⟩)) (fun h=>?_);have N:0<l[m].Points.length:=by
     have:¬(l[m].Points.length:Int)=0:=by simpa using h
     omega
    obtain⟨i,T,ei,z⟩:=BP N (I _ (List.getElem_mem hm)).1;refine Ok.bde ei (Ok.gd (decide_eq_true (by omega)) (Ok.gd (decide_eq_true (by omega)) (ih _ ⟨by rw[List.length_append,C];rfl,fun j h J=>?_⟩)));rw[List.length_append,List.length_singleton]at J;by_cases e:j<gv.length
    ·rw[List.getElem_append_left e];exact D j h e
    ·have e:j=gv.length:=by omega
     subst e;subst C;rw[List.getElem_append_right (Nat.le_refl _)];simp only[Nat.sub_self,List.getElem_cons_zero];exact⟨N,i,T,rfl,z⟩
   ·rintro again gv ⟨C,D⟩;dsimp only;exact Ok.cd (fun h=>by have:=dcT h;omega) (fun _=>aw.2 (.inr ⟨gv,rfl,C,D⟩))
  ·rintro o (⟨rfl,j,z,N⟩|⟨gv,rfl,C,D⟩)
   ·refine aw.2 (.inr ⟨rfl,?_⟩);rintro⟨-,ks,⟨q1,q2⟩,-⟩;obtain⟨c1,c2⟩:=q2 j z (by omega);rw[EM N (E.ne _ (List.getElem_mem c1))]at c2;cases c2
   ·dsimp only;have U:Gv g level L l gv:=⟨C,fun j h J x hx=>by
     obtain⟨-,i,T,e,z⟩:=D j h J;rw[e];exact CS E hx T z⟩
    have q:∀c∈gv,0<c.Points.length/\∀p∈c.Points,zf p:=fun c hc=>by
     obtain⟨j,z,rfl⟩:=List.getElem_of_mem hc;obtain⟨N,i,T,e,-⟩:=D j (by omega) z;obtain⟨a,b⟩:=EH (c:=l[j]) (i:=i) (by omega);rw[e];exact⟨by omega,fun p hp=>(I _ (List.getElem_mem _)).2 p (b p hp)⟩
    obtain⟨r,er,hp,hs⟩:=C6 (gv:=gv) (by omega) fun c hc=>(q c hc).1
    refine Ok.bde er (Ok.gd (decide_eq_true hp.length_eq) (Ok.bde e1 ?_));obtain⟨v,ev,Y⟩:=Hr hl E (r:=r) fun c hc=>(q c (hp.mem_iff.1 hc)).2
    refine Ok.bde ev (Ok.cd (fun h=>aw.2 (.inr ⟨rfl,fun hg=>?_⟩)) (fun h=>aw.2 (.inl ⟨rfl,?_⟩)))
    ·have:=Y.2 (HN E U hg hs);rw[this]at h;cases h
    ·have O:=Y.1 (by cases v with|true=>rfl|false=>cases h);exact Gx E U hp O.1 O.2
 obtain⟨v,a,b⟩:=key;exact⟨v,a,b⟩
end
def dgC(x:ar):Int:=(x.Num.Groups.length:Int)+(x.Den.Groups.length:Int)
theorem Em{n:Nat}{x:ar}(h:qsz x<=1048576):gB n x=some (dgC x):=by
 unfold qsz isz at h;rw[Du,Du]at h;unfold gB dgC;rw[wrap64_in (by omega) (by omega)]
def Gm(x:ah):Bool:=decide (dgC x.At>16)
theorem CB(g:an)(level:Int)(l:List aa)(hd:∀c∈l,∀x∈c.Points,GN x.At)(hb:∀c∈l,∀x∈c.Points,qsz x.At<=1048576):cY 20000 g level l=some true:=by
 apply Ok.eq;unfold cY;refine Ok.bde D9 (Ok.cd (fun h=>by cases h) (fun _=>?_));refine Ok.bde (b:=decide ((g.Z.length:Int)<=40)) rfl (Ok.cd (fun _=>aw.2 rfl) (fun h4=>?_));have E:g.Z.length<=40:=by
  have:(g.Z.length:Int)<=40:=by simpa using h4
  omega
 refine Ok.cd (fun _=>aw.2 rfl) (fun C=>?_);have C:l.length<=20:=by have:=dcF C;omega
 refine Ok.bd (R:=fun o=>o=.inr true\/(o=.inl ()/\∀c∈l,c.Points.length<=80/\∀p∈c.Points,zf p)) ?_ ?_
 ·refine eC (γ:=Unit) (len:=l.length) (fun _ x=>x) (fun m _=>∀j (h:j<l.length),j<m->l[j].Points.length<=80/\∀p∈l[j].Points,zf p) (by omega) (by omega) (c0:=()) (fun j h h'=>by omega) ?_ ?_
  ·rintro again m c hm hP ih;refine Ok.cd (fun _=>?_) (fun h=>by have:=dcF h;omega);refine Ok.gd (by rw[bj];exact decide_eq_true hm) ?_;rw[pM hm];refine Ok.cd (fun _=>aw.2 (.inl rfl)) (fun I=>?_);have I:l[m].Points.length<=80:=by have:=dcF I;omega
   have D:=List.getElem_mem hm;refine Ok.bde (yz (p:=Gm) (c:=true) (s:=l[m].Points) (by omega) (by omega) ?_ ?_) ?_
   ·intro again k hk;have d1:decide ((k:Int)<(l[m].Points.length:Int))=true:=by simpa using hk
    have hq:l[m].Points.getD k default∈l[m].Points:=by simp only[List.getD,geT hk,Option.getD_some];exact List.getElem_mem hk
    rw[d1,bj,decide_eq_true hk,jo,Em (hb _ D _ hq)];show cdO (Gm (l[m].Points.getD k default)) _ _=_;cases Gm (l[m].Points.getD k default)<;>rfl
   ·intro again;have d1:decide ((l[m].Points.length:Int)<(l[m].Points.length:Int))=false:=by simp
    rw[d1];rfl
   ·cases T:l[m].Points.any Gm with
    |true=>exact aw.2 (.inl rfl)
    |false=>
     rw[if_neg (by decide)];refine ih () fun j h h'=>?_
     by_cases e:j=m
     ·subst e;refine⟨I,fun p hp=>⟨hd _ D p hp,?_⟩⟩;have U:Gm p=false:=by simpa using(List.any_eq_false.1 T) p hp
      have:=dcF U;unfold dgC at this;omega
     ·exact hP j h (by omega)
  ·rintro again c hP;exact Ok.cd (fun h=>by have:=dcT h;omega) (fun _=>aw.2 (.inr ⟨rfl,fun c hc=>by
    obtain⟨j,Y,rfl⟩:=List.getElem_of_mem hc;exact hP j Y Y⟩))
 ·rintro o (rfl|⟨rfl,z⟩)
  ·exact aw.2 rfl
  ·dsimp only;by_cases h0:zd (nA g) level=0
   ·obtain⟨a1,J⟩:=F7 h0;obtain⟨w,h,hg⟩:=I4 a1;obtain⟨-,-,N⟩:=Dl a1;have J:-2097153<=level/\level<=2097153:=⟨J.2.1,J.2.2⟩;have e1:=GD hg N E J;have e2:=G2 hg N E J;have hs:=Fk hg N E level;generalize tG g w h level=S at*;have O:=IQ hs;obtain⟨v,ev,hv⟩:=GP J O (by rw[F6,h0]) e1 C z;refine Ok.bde ev (Ok.bde (zP g level) ?_);rw[h0];refine Ok.cd (fun h=>by cases h) (fun _=>Ok.bde e2 ?_);have a6:∀c∈l,∀i (hi:i<(vg S).length) k (hk:k<(vg S).length),tB g level c (vg S)[i]=true->tB g level c (vg S)[k]=true->i=k:=fun c hc i hi k hk h1 h2=>by
     rcases Nat.eq_zero_or_pos c.Points.length with hz|hz
     ·rw[EM hz (O.ne _ (List.getElem_mem hi))]at h1;cases h1
     ·obtain⟨q,hq,-,Y⟩:=BP hz (z c hc).1;rw[CS O (List.getElem_mem hi) hq Y]at h1;rw[CS O (List.getElem_mem hk) hq Y]at h2;exact O.one hi hk h1 h2
    refine Ok.bde (HC J O C z a6) ?_
    classical
    rcases hv with⟨rfl,hG⟩|⟨rfl,hG⟩
    ·rw[decide_eq_true hG];exact Ok.cd (fun _=>aw.2 rfl) (fun h=>by cases h)
    ·rw[decide_eq_false hG];exact Ok.cd (fun h=>by cases h) (fun _=>aw.2 rfl)
   ·have nz:(zd (nA g) level !=0)=true:=by simpa using h0
    have e1:ik 20000 g level l=some (zd (nA g) level):=by
     unfold ik;rw[F6];show cdO (zd (nA g) level !=0) _ _=_;rw[nz];rfl
    refine Ok.bde e1 (Ok.bde (zP g level) ?_);exact Ok.cd (fun _=>aw.2 (by simp)) (fun h=>absurd (by simpa using h) h0)
def lsK(c:aa):Nat:=1+(((c.Points.map fun z=>csz z).sum+1)+0)
def J0(l:List aa):Nat:=(l.map fun z=>lsK z).sum+1
theorem AK{α:Type}{f:α->Nat}:∀{l:List α} {x:α},x∈l->f x<=(l.map f).sum
 |y::l,x,h=>by
  rw[List.map_cons,List.sum_cons];rcases List.mem_cons.1 h with rfl|h
  ·omega
  ·have:=AK (f:=f) h;omega
theorem Cx(g:an)(level:Int)(l:List aa)(hd:∀c∈l,∀x∈c.Points,GN x.At)(hb:J0 l<=1048576):cY 20000 g level l=some true:=
 CB g level l hd fun c hc x hx=>by
  have h1:1+(((c.Points.map csz).sum+1)+0)<=(l.map lsK).sum:=AK (f:=lsK) hc;have h2:csz x<=(c.Points.map csz).sum:=AK (f:=csz) hx;have hb:(l.map lsK).sum+1<=1048576:=hb;have j:qsz x.At<=csz x:=by unfold csz;omega
  omega
end Go.L

