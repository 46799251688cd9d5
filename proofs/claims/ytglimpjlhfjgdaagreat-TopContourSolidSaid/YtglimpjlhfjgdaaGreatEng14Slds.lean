import Derived.Test.YtglimpjlhfjgdaaGreatEng11Slds
set_option linter.all false
namespace Go.Eng
open Go Go.RowKit
variable[Dr]
def X.sO:X->Exit
 |.normal=>.normal
 |.exit id=>.exit id
 |.ret=>.ret
section
variable{P:Program}{out:Nat->Prop}{B:Nat->Prop}
theorem kr(p:rQ P)(hm:P.follows .mixedOrders=true){call:dw}(m:fP P call){ops:Array Oper}{id:Nat}{draw:Bool}{st st':St}(h:iY P call ops.toList draw st=some st')
  {w:World} {π:List (Option PB)} {a:Act} (q:Rep out B w π st a) {Q:Exit->Act->World->Prop}
  (z:∀a' w' π',Rep out B w' π' st' a'->Ext B w w' (aI out π st.heap) (aI out π' st'.heap) π π'->Q .normal a' w'):(Code.region id ops draw).wp P Q a w:=by
 cases draw with
 |true=>exact BT p hm m h q z
 |false=>
  have C:gj P call ops.toList ops.toList st=some st':=h;refine wp_region ?_;have:=rB p m (Q:=Q) ops.toList 0 st st' w π a (fun j=>by simp) C q z;rw[List.range_eq_range'];simpa using this
theorem vY(U:rQ P)(hm:P.follows .mixedOrders=true){call:dw}(J:fP P call){n:Nat}:∀(c:Code) (st st':St) (x:X) (w:World) (π:List (Option PB)) (a:Act) (Q:Exit->Act->World->Prop),
  evalCode P call n c st=some (x,st')->Rep out B w π st a->(∀a' w' π',Rep out B w' π' st' a'->Ext B w w' (aI out π st.heap) (aI out π' st'.heap) π π'->Q x.sO a' w')->c.wp P Q a w:=by
 intro c;induction c with
 |skip=>intro st st' x w π a Q h j m;simp only[evalCode]at h;cases h;exact wp_skip (m a w π j (Ext.refl _ _ _))
 |label l=>intro st st' x w π a Q h j m;simp only[evalCode]at h;cases h;exact wp_label (m a w π j (Ext.refl _ _ _))
 |region id ops draw=>
  intro st st' x w π a Q h j m;simp only[evalCode]at h;split at h
  ·rename_i st1 h1;cases h;exact kr U hm J h1 j m
  ·cases h
 |seq c d I M=>
  intro st st' x w π a Q h j m;simp only[evalCode]at h;split at h
  ·rename_i st1 h1;refine wp_seq (I st st1 .normal w π a _ h1 j fun a' w' π' p q=>?_);exact M st1 st' x w' π' a' Q h p fun N O π'' C D=>m N O π'' C (q.trans D)
  ·rename_i r E;refine wp_seq (I st st' x w π a _ h j fun a' w' π' p q=>?_);have:=m a' w' π' p q;cases x with
   |normal=>exact(E st' h).elim
   |exit id=>exact this
   |ret=>exact this
 |cond o c d I M=>
  intro st st' x w π a Q h j m;simp only[evalCode]at h;split at h
  ·rename_i hc;have Y:a.eval o=.bool true:=by have:=jb j.slots o;rw[hc]at this;exact this
   exact wp_cond_true Y (I st st' x w π a Q h j m)
  ·rename_i hc;have Y:a.eval o=.bool false:=by have:=jb j.slots o;rw[hc]at this;exact this
   exact wp_cond_false Y (M st st' x w π a Q h j m)
  ·cases h
 |block id c T=>
  intro st st' x w π a Q h j m;simp only[evalCode]at h;split at h
  ·rename_i z st1 h1;split at h
   ·rename_i he;have he:z=id:=by simpa using he
    subst he;cases h;refine wp_block (T st st' (.exit z) w π a _ h1 j fun a' w' π' p q=>?_);simp only[X.sO,Exit.inBlock,if_true];exact m a' w' π' p q
   ·rename_i he;have he:¬z=id:=by simpa using he
    cases h;refine wp_block (T st st' (.exit z) w π a _ h1 j fun a' w' π' p q=>?_);simp only[X.sO,Exit.inBlock,if_neg he];exact m a' w' π' p q
  ·rename_i r E;refine wp_block (T st st' x w π a _ h j fun a' w' π' p q=>?_);have:=m a' w' π' p q;cases x with
   |exit z=>exact(E z st' h).elim
   |normal=>exact this
   |ret=>exact this
 |loop c T=>
  intro st st' x w π a Q h j m;simp only[evalCode]at h;have gen:∀(k:Nat) (st:St) (w:World) (π:List (Option PB)) (a:Act),iter (evalCode P call n c) k st=some (x,st')->Rep out B w π st a->
    (∀a' w' π',Rep out B w' π' st' a'->Ext B w w' (aI out π st.heap) (aI out π' st'.heap) π π'->Q x.sO a' w')->Code.rounds P c Q k a w:=by
   intro k;induction k with
   |zero=>intro st w π a h;cases h
   |succ k a1=>
    intro st w π a h j m;simp only[iter]at h;split at h
    ·rename_i st1 h1;refine T st st1 .normal w π a _ h1 j fun a' w' π' p q=>?_
     exact a1 st1 w' π' a' h p fun N O π'' C D=>m N O π'' C (q.trans D)
    ·rename_i r E;refine T st st' x w π a _ h j fun a' w' π' p q=>?_
     have:=m a' w' π' p q;cases x with
     |normal=>exact(E st' h).elim
     |exit id=>exact this
     |ret=>exact this
  exact wp_loop_rounds n (gen n st w π a h j m)
 |exit id=>intro st st' x w π a Q h j m;simp only[evalCode]at h;cases h;exact wp_exit (m a w π j (Ext.refl _ _ _))
 |ret=>intro st st' x w π a Q h j m;simp only[evalCode]at h;cases h;exact wp_ret (m a w π j (Ext.refl _ _ _))
 |rangeFunc f ps c d _ _=>intro st st' x w π a Q h j m;simp only[evalCode]at h;cases h
 |scope c _=>intro st st' x w π a Q h j m;simp only[evalCode]at h;cases h
 |goto l=>intro st st' x w π a Q h j m;simp only[evalCode]at h;cases h
 |refuse s=>intro st st' x w π a Q h j m;simp only[evalCode]at h;cases h
def Fi(a:Act):ResultVar->Sem Value
 |.tmp t=>pure (a.tmps.getD t undef)
 |.cell x t=>do loadVar t (<-asAddr (a.tmps.getD x undef))
theorem xU{w:World}{π:List (Option PB)}{st:St}{a:Act}(j:Rep out B w π st a){r:ResultVar}{v:AV}(h:vS P st r=some v):
  ∃u,(Fi a r).run P w=.ok u w/\Rv w (aI out π st.heap) π v u:=by
 cases r with
 |tmp t=>
  simp only[vS]at h;cases h;exact⟨_,rfl,jG j.slots t⟩
 |cell x t=>
  simp only[vS]at h;have m:=jG j.slots x;obtain⟨u,h1,h2⟩:=va (P:=P) j.inv m h;have hp:∃p,a.tmps.getD x undef=.pointer (some p):=by
   unfold yI at h;split at h
   ·split at h
    ·rename_i n cs z q;obtain⟨b,o,e1,_⟩:=pC j.inv m q;exact⟨_,e1⟩
    ·cases h
   ·obtain⟨p,u,e1,_⟩:=s9 j.inv m h;exact⟨_,e1⟩
   ·cases h
  obtain⟨p,e1⟩:=hp;rw[e1]at h1;refine⟨u,?_,h2⟩;simp only[Fi,e1];simpa [Instr.loadAt,Instr.sureAddr,asAddr]using h1
theorem qp{w:World}{π:List (Option PB)}{st:St}{a:Act}(p:Rep out B w π st a):∀(rs:List ResultVar) (vs:List AV),dx P st rs=some vs->
  ∃us:List Value,(rs.mapM (Fi a)).run P w=.ok us w/\RvL w (aI out π st.heap) π vs us
 |[],vs,h=>by cases h;exact⟨[],rfl,rfl⟩
 |r::rs,vs,h=>by
  simp only[dx]at h;split at h
  ·rename_i v j q m;cases h;obtain⟨u,h1,h2⟩:=xU p q;obtain⟨us,z,C⟩:=qp p rs j m;refine⟨u::us,?_,u,us,rfl,h2,C⟩;simp only[List.mapM_cons,Sem.run_bind,h1,Result.andThen_ok,z,Sem.run_pure]
  ·cases h
theorem AR{w:World}{mu:Nat->Prop}{π:List (Option PB)}{vs:List AV}{us:List Value}(h:RvL w mu π vs us):Rv w mu π (gL vs) (if h:us.toArray.size=1 then us.toArray[0]else .tuple us.toArray):=by
 match vs,us,h with
 |[],_,h=>cases h;exact⟨#[],rfl,rfl⟩
 |[v],_,h=>
  obtain⟨u,m,rfl,h1,rfl⟩:=h;simpa [gL]using h1
 |v1::v2::vs,_,h=>
  obtain⟨u1,m,rfl,h1,u2,j,rfl,h2,p⟩:=h;have:¬(u1::u2::j).toArray.size=1:=by simp
  rw[dif_neg this];exact⟨_,rfl,u1,_,rfl,h1,u2,_,rfl,h2,p⟩
theorem kJ{w:World}{π:List (Option PB)}{st:St}{a:Act}(j:Rep out B w π st a){fn:Func}{vs:List AV}(h:dx P st fn.results.toList=some vs):
  ∃u,(results fn a.tmps).run P w=.ok u w/\Rv w (aI out π st.heap) π (gL vs) u:=by
 obtain⟨us,h1,h2⟩:=qp j _ _ h;refine⟨_,?_,AR h2⟩;have key:∀F:ResultVar->Sem Value,(∀r,F r=Fi a r)->(fn.results.toList.mapM F).run P w=.ok us w:=by
  intro F m;rw[show F=Fi a from funext m];exact h1
 unfold results;rw[Array.mapM_eq_mapM_toList];simp only[Sem.run_bind,Sem.run_map];rw[key _ (fun r=>by cases r<;>rfl)];rfl
theorem jX(z:rQ P)(hm:P.follows .mixedOrders=true){call:dw}(p:fP P call){n:Nat}{f:FuncId}{fn:Func}(I:P.funcs[f]?=some fn){args:List AV}{H H':List Blk}{v:AV}(h:nZ P call n fn args H=some (v,H'))
  {w:World} {π:List (Option PB)} {vs:List Value} (J:Inv out B w π H) (E:RvL w (aI out π H) π args vs):
  Calls P f vs.toArray w fun e w'=>∃u π',e=.returned u/\Ext B w w' (aI out π H) (aI out π' H') π π'/\Inv out B w' π' H'/\Rv w' (aI out π' H') π' v u:=by
 unfold nZ at h;split at h
 ·cases h
 ·rename_i c hc;refine calls_of_wp I hc ?_;have hlen:=RvL.length _ _ E;have M:Rep out B w π ⟨args++pd (fn.ntmps-args.length),H⟩ {tmps:=vs.toArray++Array.replicate (fn.ntmps-vs.toArray.size) undef,defers:=[]}:=by
   refine⟨rfl,?_,J⟩;simp only[Array.toList_append,Array.toList_replicate,List.size_toArray,hlen];refine RvL.append _ _ _ _ E ?_;refine RvL.ml _ _ (by simp[pd]) fun i x y h1 h2=>?_
   have:=List.mem_of_getElem? h1;simp[pd]at this;rw[this.2];trivial
  have fin:∀(x:X) (st:St) (j:List AV),(∀id,x≠.exit id)->evalCode P call n c ⟨args++pd (fn.ntmps-args.length),H⟩=some (x,st)->dx P st fn.results.toList=some j->v=gL j->H'=st.heap->
    c.wp P (bodyPost P fn fun e w'=>∃u π',e=.returned u/\Ext B w w' (aI out π H) (aI out π' H') π π'/\Inv out B w' π' H'/\Rv w' (aI out π' H') π' v u) {tmps:=vs.toArray++Array.replicate (fn.ntmps-vs.toArray.size) undef,defers:=[]} w:=by
   intro x st j N he C O T;subst O;subst T;refine vY z hm p c _ st x w π _ _ he M fun a' w' π' m q=>?_
   obtain⟨u,r1,r2⟩:=kJ m C;cases x with
   |normal=>exact⟨m.defers,u,r1,u,π',rfl,q,m.inv,r2⟩
   |ret=>exact⟨m.defers,u,r1,u,π',rfl,q,m.inv,r2⟩
   |exit id=>exact(N id rfl).elim
  split at h
  ·cases h
  ·rename_i x st D he;split at h
   ·rename_i j C;cases h;exact fin x st j (fun id e=>D id e) he C rfl rfl
   ·cases h
  ·cases h
end
end Go.Eng


namespace Go.Eng
open Go Go.RowKit
variable[Dr]
section
variable{w:World}{mu mu':Nat->Prop}{π π':List (Option PB)}
theorem qn{f:AV->Option AV}(m:∀A v p,Rv w mu π A v->f A=some p->Rv w mu' π' p v):∀(cs cs':List AV) (b o:Nat),RvC w mu π cs b o->nJ f cs=some cs'->RvC w mu' π' cs' b o/\cs'.length=cs.length
 |[],cs',b,o,_,h=>by cases h;exact⟨trivial,rfl⟩
 |c::cs,cs',b,o,hc,h=>by
  simp only[nJ]at h;split at h
  ·rename_i y ys q j;cases h;obtain⟨⟨v,h1,h2,z⟩,C⟩:=hc;obtain⟨i1,i2⟩:=qn m cs ys b (o+1) C j;exact⟨⟨⟨v,h1,h2,m c v y z q⟩,i1⟩,by simp[i2]⟩
  ·cases h
theorem lz{f:AV->Option AV}(q:∀A v z,Rv w mu π A v->f A=some z->Rv w mu' π' z v):∀(cs cs':List AV) (vs:List Value),RvL w mu π cs vs->nJ f cs=some cs'->RvL w mu' π' cs' vs
 |[],cs',vs,m,h=>by cases h;cases m;rfl
 |c::cs,cs',vs,m,h=>by
  simp only[nJ]at h;split at h
  ·rename_i y ys C p;cases h;obtain⟨v,j,rfl,D,E⟩:=m;exact⟨v,j,rfl,q c v y D C,lz q cs ys j E p⟩
  ·cases h
theorem Ext.less(h:∀b,mu' b->mu b):Ext (fun _=>False) w w mu mu' π π:=⟨fun _ _=>rfl,Nat.le_refl _,fun b _ m=>⟨rfl,fun j=>m (h b j)⟩,fun _ _ h=>h,rfl,rfl,rfl,fun _=>Nat.le_refl _⟩
def Eu(w:World)(mu mu':Nat->Prop)(π:List (Option PB))(H:List Blk)(ok:Nat->Bool):Prop:=
 ∀(b:Nat) (p:PB) (cs:List AV),ok b=true->(H[b]?=some (.own cs)\/H[b]?=some (.fix cs))->π[b]?=some (some p)->RvC w mu π cs p.blk p.off/\¬mu' p.blk
theorem nq{H:List Blk}{ok:Nat->Bool}(U:Eu w mu mu' π H ok)(Y:∀b,mu' b->mu b):∀(n:Nat) (A D:AV) (v:Value),Rv w mu π A v->iO H ok n A=some D->Rv w mu' [] D v:=by
 have T:Ext (fun _=>False) w w mu mu' [] []:=Ext.less Y;intro n;induction n with
 |zero=>
  intro A D v C h;cases A<;>simp only[iO]at h
  case unk=>cases h;trivial
  case «at»=>cases h;exact C
  case sl nl cs len=>cases h;exact Rv.ext T (.sl nl cs len) v C
  case pp cs off=>cases h;exact Rv.ext T (.pp cs off) v C
  all_goals cases h
 |succ n I=>
  intro A D v C h;cases A<;>simp only[iO]at h
  case unk=>cases h;trivial
  case «at»=>cases h;exact C
  case sl nl cs len=>cases h;exact Rv.ext T (.sl nl cs len) v C
  case pp cs off=>cases h;exact Rv.ext T (.pp cs off) v C
  case hc=>cases h
  case hs b off len es=>
   split at h
   ·rename_i cs m E q;split at h
    ·rename_i cs' j;cases h;rcases C with⟨rfl,rfl⟩|⟨p,a,cap,h1,rfl,h2,J,h3⟩
     ·have:cs=[]/\m=0:=by
       simp only[gC]at q;split at q
       ·split at q
        ·cases q;simp
        ·cases q
       ·split at q
        ·cases q;simp
        ·cases q
       ·cases q
      obtain⟨rfl,rfl⟩:=this;cases j;exact .inl ⟨rfl,rfl,rfl,rfl⟩
     obtain⟨ab,ao,a6⟩:=a;simp only at J;subst J;have key:∀c:List AV,(H[b]?=some (.own c)\/H[b]?=some (.fix c))->off+len*es<=c.length->cs=(c.drop off).take (len*es)->m=len->Rv w mu' [] (.sl true cs' m) (.slice (some ⟨ab,ao,none⟩) len cap):=by
      intro c hc hle e1 e2;subst e1;subst e2;obtain⟨g1,g2⟩:=U b p c E hc h1;have hr:=RvC.take (m*es) _ _ _ (RvC.drop off c _ _ g1);obtain⟨M,k2⟩:=qn (fun A v D C z=>I A D v C z) _ cs' _ _ hr j;by_cases N:0<cap
      ·obtain⟨e1,_⟩:=h3 N;cases e1;exact .inr (.inl ⟨_,_,cap,rfl,h2,fun _=>g2,M⟩)
      ·have hm:m=0:=by omega
       subst hm;have:cs'=[]:=by rw[<-List.length_eq_zero_iff,k2];simp
       subst this;exact .inr (.inl ⟨_,_,cap,rfl,h2,fun h=>(h rfl).elim,trivial⟩)
     simp only[gC]at q;split at q
     ·rename_i c hc;split at q
      ·rename_i hle;cases q;exact key c (.inl hc) (by simpa using hle) rfl rfl
      ·cases q
     ·rename_i c hc;split at q
      ·rename_i hle;cases q;exact key c (.inr hc) (by simpa using hle) rfl rfl
      ·cases q
     ·cases q
    ·cases h
   ·cases h
  case hp b off=>
   obtain⟨p,h1,rfl⟩:=C;split at h
   ·rename_i c E hc;split at h
    ·rename_i cs' j;cases h;obtain⟨g1,g2⟩:=U b p c E (.inl hc) h1;obtain⟨M,_⟩:=qn (fun A v D C z=>I A D v C z) _ cs' _ _ g1 j;exact⟨_,_,rfl,fun _=>g2,M⟩
    ·cases h
   ·rename_i c E hc;split at h
    ·rename_i cs' j;cases h;obtain⟨g1,g2⟩:=U b p c E (.inr hc) h1;obtain⟨M,_⟩:=qn (fun A v D C z=>I A D v C z) _ cs' _ _ g1 j;exact⟨_,_,rfl,fun _=>g2,M⟩
    ·cases h
   ·cases h
  case mp b=>cases h
  case agg cs=>
   split at h
   ·rename_i cs' j;cases h;obtain⟨vs,rfl,hv⟩:=C;exact⟨vs,rfl,lz (fun A v D C z=>I A D v C z) _ cs' _ hv j⟩
   ·cases h
  case tup cs=>
   split at h
   ·rename_i cs' j;cases h;obtain⟨vs,rfl,hv⟩:=C;exact⟨vs,rfl,lz (fun A v D C z=>I A D v C z) _ cs' _ hv j⟩
   ·cases h
  case fn f fs cs=>
   split at h
   ·rename_i a1 cs' O j;cases h;obtain⟨a,c,rfl,h1,h2⟩:=C;exact⟨a,c,rfl,lz (fun A v D C z=>I A D v C z) _ a1 _ h1 O,lz (fun A v D C z=>I A D v C z) _ cs' _ h2 j⟩
   ·cases h
theorem Cc{H:List Blk}{ok:Nat->Bool}(J:Eu w mu mu' π H ok)(D:∀b,mu' b->mu b){ρ:Nat->Option Nat}(hρ:∀b c,ρ b=some c->∀p,π[b]?=some (some p)->π'[c]?=some (some p)):
  ∀(n:Nat) (A j:AV) (v:Value),Rv w mu π A v->BK H ok ρ n A=some j->Rv w mu' π' j v:=by
 have hs:∀(n:Nat) (A j:AV) (v:Value),Rv w mu π A v->iO H ok n A=some j->Rv w mu' π' j v:=fun n A j v m h=>(nq J D n A j v m h).lift
 have leaf:∀(n:Nat) (b off len es:Nat) (j:AV) (v:Value),Rv w mu π (.hs b off len es) v->(match ρ b with|some c=>some (AV.hs c off len es)|none=>iO H ok n (.hs b off len es))=some j->Rv w mu' π' j v:=by
  intro n b off len es j v m h;split at h
  ·rename_i c hc;cases h;rcases m with m|⟨p,a,cap,h1,h2⟩
   ·exact .inl m
   ·exact .inr ⟨p,a,cap,hρ b c hc p h1,h2⟩
  ·exact hs n _ _ v m h
 have q:∀(n:Nat) (b off:Nat) (j:AV) (v:Value),Rv w mu π (.hp b off) v->(match ρ b with|some c=>some (AV.hp c off)|none=>iO H ok n (.hp b off))=some j->Rv w mu' π' j v:=by
  intro n b off j v m h;split at h
  ·rename_i c hc;cases h;obtain⟨p,h1,h2⟩:=m;exact⟨p,hρ b c hc p h1,h2⟩
  ·exact hs n _ _ v m h
 intro n;induction n with
 |zero=>
  intro A j v m h;cases A<;>simp only[BK]at h
  case hs b off len es=>exact leaf 0 b off len es j v m h
  case hp b off=>exact q 0 b off j v m h
  all_goals exact hs 0 _ j v m h
 |succ n I=>
  intro A j v m h;cases A<;>simp only[BK]at h
  case hs b off len es=>exact leaf (n+1) b off len es j v m h
  case hp b off=>exact q (n+1) b off j v m h
  case agg cs=>
   split at h
   ·rename_i cs' z;cases h;obtain⟨vs,rfl,E⟩:=m;exact⟨vs,rfl,lz (fun A v j m C=>I A j v m C) _ cs' _ E z⟩
   ·cases h
  case tup cs=>
   split at h
   ·rename_i cs' z;cases h;obtain⟨vs,rfl,E⟩:=m;exact⟨vs,rfl,lz (fun A v j m C=>I A j v m C) _ cs' _ E z⟩
   ·cases h
  all_goals exact hs (n+1) _ j v m h
mutual
theorem uW{w':World}{m:Nat->Prop}{π2:List (Option PB)}:(A:AV)->(v:Value)->oL A=false->Rv w mu π A v->Rv w' m π2 A v
 |.unk,_,_,_=>trivial
 |.at x,v,_,h=>h
 |.agg cs,v,j,h=>by
  obtain⟨vs,rfl,p⟩:=h;exact⟨vs,rfl,mK cs _ (by simpa [oL]using j) p⟩
 |.tup cs,v,j,h=>by
  obtain⟨vs,rfl,p⟩:=h;exact⟨vs,rfl,mK cs _ (by simpa [oL]using j) p⟩
 |.fn f q cs,v,j,h=>by
  obtain⟨a,c,rfl,h1,h2⟩:=h;simp only[oL,Bool.or_eq_false_iff]at j;exact⟨a,c,rfl,mK q _ j.1 h1,mK cs _ j.2 h2⟩
 |.sl ..,_,j,_|.pp ..,_,j,_|.hs ..,_,j,_|.hc ..,_,j,_|.hp ..,_,j,_|.mp ..,_,j,_=>by simp[oL]at j
theorem mK{w':World}{m:Nat->Prop}{π2:List (Option PB)}:(cs:List AV)->(vs:List Value)->pg cs=false->RvL w mu π cs vs->RvL w' m π2 cs vs
 |[],vs,_,h=>h
 |c::cs,vs,p,h=>by
  obtain⟨v,j,rfl,h1,h2⟩:=h;simp only[pg,Bool.or_eq_false_iff]at p;exact⟨v,j,rfl,uW c v p.1 h1,mK cs j p.2 h2⟩
end
end
section
variable{P:Program}{out:Nat->Prop}{B:Nat->Prop}{w:World}{π:List (Option PB)}{H:List Blk}
theorem Inv.zy(z:Inv out B w π H){b:Nat}{cs:List AV}(h:H[b]?=some (.own cs)\/H[b]?=some (.fix cs)):
  Inv out B w π (upd H b (.fix cs))/\Ext B w w (aI out π H) (aI out π (upd H b (.fix cs))) π π:=by
 have E:b<H.length:=by rcases h with h|h<;>exact aK h
 have hu:upd H b (.fix cs)=H.set b (.fix cs):=by simp[upd,E]
 rw[hu];rcases h with h|h
 ·cases hp:π[b]? with
  |none=>have:=List.getElem?_eq_none_iff.1 hp;have:=z.len;omega
  |some op=>
   cases op with
   |some p=>
    obtain⟨h1,h2⟩:=z.pv h hp rfl (.fix cs) (w':=w) rfl (fun _ _=>rfl) rfl rfl rfl (fun _=>Nat.le_refl _) (fun I=>RvC.ext I cs _ _ rfl (eU z (.inl h) hp));exact⟨h2,h1⟩
   |none=>
    have C:∀x,aI out π (H.set b (.fix cs)) x->aI out π H x:=by
     rintro x (O|⟨i,y,p,g1,g2,g3,g4⟩)
     ·exact .inl O
     ·rcases cu g1 with⟨rfl,rfl⟩|⟨_,m⟩
      ·simp[Blk.eN]at g2
      ·exact .inr ⟨i,y,p,m,g2,g3,g4⟩
    have I:Ext B w w (aI out π H) (aI out π (H.set b (.fix cs))) π π:=⟨fun _ _=>rfl,Nat.le_refl _,fun x _ T=>⟨rfl,fun J=>T (C x J)⟩,fun _ _ h=>h,rfl,rfl,rfl,fun _=>Nat.le_refl _⟩;refine⟨⟨by simp[z.len],z.bound,z.out_lt,?_,?_,?_⟩,I⟩
    ·intro i x q M g1 g2 g3;rcases cu g1 with⟨rfl,_⟩|⟨_,m⟩
     ·rw[hp]at g2;cases g2
     ·exact z.baseO i x q M m g2 g3
    ·intro i x q g1 g2;rcases cu g1 with⟨rfl,_⟩|⟨_,m⟩
     ·rw[hp]at g2;cases g2
     ·exact dy.ext I (fun _ _=>rfl) (z.ok i x q m g2)
    ·intro i j x y q r M D g1 g2 g3 g4 g5 g6 g7;rcases cu g1 with⟨rfl,_⟩|⟨_,m⟩
     ·rw[hp]at g3;cases g3
     ·rcases cu g2 with⟨rfl,_⟩|⟨_,N⟩
      ·rw[hp]at g4;cases g4
      ·exact z.sepO i j x y q r M D m N g3 g4 g5 g6 g7
 ·have he:H.set b (.fix cs)=H:=by
   apply List.ext_getElem?;intro j;rw[List.getElem?_set];split
   ·rename_i D;subst D;first|exact h.symm|(rw[if_pos E];exact h.symm)
   ·rfl
  rw[he];exact⟨z,Ext.refl _ _ _⟩
theorem RvW.frz{mu m:Nat->Prop}(j:∀c,m c->mu c):∀(rs:List RC) (p:Nat->Option (Nat×Nat×Nat)) (b o:Nat),(∀(k len es:Nat) (cs:List AV) (q:Nat×Nat×Nat),rs[k]?=some (.row len es cs)->p k=some q->¬m q.1)->RvW w mu π rs p b o->RvC w m π (rs.map frz) b o
 |[],_,_,_,_,_=>trivial
 |.row len es cs::rs,p,b,o,z,h=>by
  obtain⟨⟨v,h1,h2⟩,C⟩:=h;refine⟨⟨v,h1,?_,?_⟩,RvW.frz j rs _ b (o+1) (fun k D E I q e1 e2=>z (k+1) D E I q (by simpa using e1) e2) C⟩
  ·rcases h2 with⟨_,_,rfl⟩|⟨q,a,cap,c,e,_,rfl,_⟩<;>rfl
  ·rcases h2 with⟨rfl,rfl,rfl⟩|⟨q,a,cap,c,e,g1,rfl,g3,g4,g5,g6,g7,g0,g8⟩
   ·exact .inl ⟨rfl,rfl,rfl,rfl⟩
   ·by_cases hc:0<cap
    ·obtain⟨rfl,_⟩:=g5 hc;exact .inr (.inl ⟨_,_,cap,rfl,g3,fun _=>z 0 len es cs q rfl g1,RvC.ext (Ext.less j) cs _ _ rfl g8⟩)
    ·obtain rfl:len=0:=by omega
     exact .inr (.inr ⟨rfl,g0 rfl,a,cap,rfl⟩)
 |.av A::rs,p,b,o,z,h=>by
  obtain⟨⟨v,h1,h2,C⟩,J⟩:=h;exact⟨⟨v,h1,h2,Rv.ext (Ext.less j) A v C⟩,RvW.frz j rs _ b (o+1) (fun k D E I q e1 e2=>z (k+1) D E I q (by simpa using e1) e2) J⟩
theorem Inv.Cx(C:Inv out B w π H){b:Nat}{rs:List RC}(h:H[b]?=some (.rows rs)):
  Inv out B w π (upd H b (.fix (rs.map frz)))/\Ext B w w (aI out π H) (aI out π (upd H b (.fix (rs.map frz)))) π π:=by
 have I:b<H.length:=aK h;have hu:upd H b (.fix (rs.map frz))=H.set b (.fix (rs.map frz)):=by simp[upd,I]
 rw[hu];have z:∀x,aI out π (H.set b (.fix (rs.map frz))) x->aI out π H x:=by
  rintro x (J|⟨i,y,p,g1,g2,g3,g4⟩)
  ·exact .inl J
  ·rcases cu g1 with⟨rfl,rfl⟩|⟨_,m⟩
   ·simp[Blk.eN]at g2
   ·exact .inr ⟨i,y,p,m,g2,g3,g4⟩
 have M:∀(p:PB) (c:Nat),π[b]?=some (some p)->(Blk.rows rs).owns p c->¬aI out π (H.set b (.fix (rs.map frz))) c:=by
  rintro p c hp hc (J|⟨i,y,q,g1,g2,g3,g4⟩)
  ·exact(C.baseO b _ p c h hp hc).1 (C.out_lt _ J)
  ·rcases cu g1 with⟨rfl,rfl⟩|⟨N,m⟩
   ·simp[Blk.eN]at g2
   ·exact C.sepO i b y _ q p c (fun e=>N e.symm) m h g3 hp g2 g4 hc
 have U:Ext B w w (aI out π H) (aI out π (H.set b (.fix (rs.map frz)))) π π:=⟨fun _ _=>rfl,Nat.le_refl _,fun x _ Y=>⟨rfl,fun O=>Y (z x O)⟩,fun _ _ h=>h,rfl,rfl,rfl,fun _=>Nat.le_refl _⟩;have D:∀(p:PB) (c:Nat),(Blk.fix (rs.map frz)).owns p c->(Blk.rows rs).owns p c:=fun p c h=>.inl h
 refine⟨⟨by simp[C.len],C.bound,C.out_lt,?_,?_,?_⟩,U⟩
 ·intro i x q c g1 g2 g3;rcases cu g1 with⟨rfl,rfl⟩|⟨_,m⟩
  ·exact C.baseO b _ q c h g2 (D _ _ g3)
  ·exact C.baseO i x q c m g2 g3
 ·intro i x q g1 g2;rcases cu g1 with⟨rfl,rfl⟩|⟨_,m⟩
  ·exact RvW.frz z rs _ _ _ (fun k len es cs s e1 e2=>M q s.1 g2 (.inr ⟨k,len,es,cs,s,e1,e2,rfl⟩)) (C.ok b _ q h g2).2.1
  ·exact dy.ext U (fun _ _=>rfl) (C.ok i x q m g2)
 ·intro i j x y q r c E g1 g2 g3 g4 g5 g6 g7;rcases cu g1 with⟨rfl,rfl⟩|⟨_,m⟩
  ·simp[Blk.eN]at g5
  ·rcases cu g2 with⟨rfl,rfl⟩|⟨_,T⟩
   ·exact C.sepO i b x _ q r c E m h g3 g4 g5 g6 (D _ _ g7)
   ·exact C.sepO i j x y q r c E m T g3 g4 g5 g6 g7
theorem iI:∀(l:List Nat) (H':List Blk) (m:List Blk),Inv out B w π H'->(∀b∈l,b<m.length->(H'[b]?=m[b]?\/∃x cs,m[b]?=some x/\fzC x=some cs/\H'[b]?=some (.fix cs)))->
  Inv out B w π (aN H' (ct m l))/\Ext B w w (aI out π H') (aI out π (aN H' (ct m l))) π π/\
  (aN H' (ct m l)).length=H'.length/\(∀b∈l,∀x cs,m[b]?=some x->fzC x=some cs->(aN H' (ct m l))[b]?=some (.fix cs))/\
  (∀b,(∀x cs,b∈l->m[b]?=some x->fzC x≠some cs)->(aN H' (ct m l))[b]?=H'[b]?)
 |[],H',m,J,_=>⟨J,Ext.refl _ _ _,rfl,by simp,fun _ _=>rfl⟩
 |b::l,H',m,J,I=>by
  cases C:m[b]? with
  |none=>
   have e:ct m (b::l)=ct m l:=by simp[ct,C]
   rw[e];obtain⟨h1,h2,N,O,M⟩:=iI l H' m J (fun x j=>I x (by simp[j]));refine⟨h1,h2,N,fun x j y cs p he=>?_,fun x j=>M x fun y cs hm=>j y cs (by simp[hm])⟩;rcases List.mem_cons.1 j with rfl|j
   ·rw[C]at p;cases p
   ·exact O x j y cs p he
  |some y=>
   cases q:fzC y with
   |none=>
    have e:ct m (b::l)=ct m l:=by
     cases y<;>first|(cases q;done)|simp[ct,C]
    rw[e];obtain⟨h1,h2,N,O,M⟩:=iI l H' m J (fun x j=>I x (by simp[j]));refine⟨h1,h2,N,fun x j z cs p he=>?_,fun x j=>M x fun z cs hm=>j z cs (by simp[hm])⟩;rcases List.mem_cons.1 j with rfl|j
    ·rw[C]at p;cases p;rw[q]at he;cases he
    ·exact O x j z cs p he
   |some cs=>
    have e:ct m (b::l)=(b,.fix cs)::ct m l:=by
     cases y<;>first|(cases q;done)|(simp only[fzC,Option.some.injEq]at q;subst q;simp[ct,C])
    rw[e];have Y:b<m.length:=aK C;have T:H'[b]?=some y\/H'[b]?=some (.fix cs):=by
     rcases I b (by simp) Y with h|⟨y',cs',h1,U,h2⟩
     ·left;rw[h];exact C
     ·rw[C]at h1;cases h1;rw[q]at U;cases U;exact .inr h2
    have b0:b<H'.length:=by rcases T with h|h<;>exact aK h
    obtain⟨a1,a6⟩:Inv out B w π (upd H' b (.fix cs))/\Ext B w w (aI out π H') (aI out π (upd H' b (.fix cs))) π π:=by
     rcases T with h|h
     ·cases y with
      |own c=>simp only[fzC,Option.some.injEq]at q;subst q;exact J.zy (.inl h)
      |rows rs=>simp only[fzC,Option.some.injEq]at q;subst q;exact J.Cx h
      |_=>cases q
     ·exact J.zy (.inr h)
    have a7:(upd H' b (.fix cs)).length=H'.length:=by rw[cz (by omega),if_neg (by omega)]
    obtain⟨h1,h2,N,O,M⟩:=iI l (upd H' b (.fix cs)) m a1 (fun x j D=>by
     rw[eI (by omega)];split
     ·rename_i e0;subst e0;exact .inr ⟨y,cs,C,q,rfl⟩
     ·exact I x (by simp[j]) D)
    refine⟨h1,a6.trans h2,by rw[aN,N,a7],fun x j z cs' E he=>?_,fun x j=>?_⟩
    ·by_cases D:x∈l
     ·exact O x D z cs' E he
     ·rcases List.mem_cons.1 j with rfl|j
      ·rw[C]at E;cases E;rw[q]at he;cases he;rw[aN,M x (fun _ _ hm=>(D hm).elim),eI (by omega),if_pos rfl]
      ·exact(D j).elim
    ·have a8:x≠b:=by rintro rfl;exact j y cs (by simp) C q
     rw[aN,M x (fun z cs' hm=>j z cs' (by simp[hm])),eI (by omega),if_neg a8]
theorem Inv.I9{w':World}(m:Inv out B w π H)(j:∀b,b<w.heap.size->w'.heap[b]?=w.heap[b]?)(z:w.heap.size<=w'.heap.size)(D:w'.os=w.os)(E:w'.tape=w.tape)(hu:w'.output=w.output)(I:Dr.d=true->w.drawn<=w'.drawn):
  Inv out B w' π H/\Ext B w w' (aI out π H) (aI out π H) π π:=by
 have C:Ext B w w' (aI out π H) (aI out π H) π π:=⟨fun b q=>j b (m.bound b q),z,fun b q h=>⟨j b q,h⟩,fun _ _ h=>h,D,E,hu,I⟩;refine⟨⟨m.len,fun b q=>by have:=m.bound b q;omega,m.out_lt,fun i x p b h1 h2 J=>by have:=m.baseO i x p b h1 h2 J;exact⟨this.1,by omega⟩,fun i x p h1 h2=>dy.ext C (fun b q=>j _ (m.baseO i x p b h1 h2 q).2) (m.ok i x p h1 h2),m.sepO⟩,C⟩
theorem Inv.F4(C:Inv out B w π H){w':World}(m:∀b,b<w.heap.size->w'.heap[b]?=w.heap[b]?)(M:w.heap.size<=w'.heap.size)(ho:w'.os=w.os)(ht:w'.tape=w.tape)(hu:w'.output=w.output)(hd:Dr.d=true->w.drawn<=w'.drawn)
  {π':List (Option PB)} {H':List Blk} (hl:π'.length=H'.length) (I:∀(i:Nat) (p:PB),π[i]?=some (some p)->π'[i]?=some (some p))
  (hs:∀(j:Nat) (x:Blk) (p:PB),H'[j]?=some x->π'[j]?=some (some p)->(H[j]?=some x/\π[j]?=some (some p))\/
   (x.plain=true/\w.heap.size<=p.blk/\p.blk<w'.heap.size/\(∀(i:Nat) (y:Blk) (q:PB),i≠j->H'[i]?=some y->π'[i]?=some (some q)->¬y.owns q p.blk)/\
    (Ext B w w' (aI out π H) (aI out π' H') π π'->dy w' (aI out π' H') π' p x))):
  Inv out B w' π' H'/\Ext B w w' (aI out π H) (aI out π' H') π π':=by
 have N:Ext B w w' (aI out π H) (aI out π' H') π π':=by
  refine⟨fun b z=>m b (C.bound b z),M,fun b z Y=>⟨m b z,?_⟩,I,ho,ht,hu,hd⟩;rintro(O|⟨i,x,p,h1,h2,D,J⟩)
  ·exact Y (.inl O)
  ·rcases hs i x p h1 D with⟨g1,g3⟩|⟨g,_⟩
   ·exact Y (.inr ⟨i,x,p,g1,h2,g3,J⟩)
   ·rename_i g0;have:=Blk.px g J;omega
 refine⟨⟨hl,fun b z=>by have:=C.bound b z;omega,C.out_lt,?_,?_,?_⟩,N⟩
 ·intro i x p b h1 h2 D;rcases hs i x p h1 h2 with⟨g1,g2⟩|⟨g0,g1,g2,_⟩
  ·have:=C.baseO i x p b g1 g2 D;exact⟨this.1,by omega⟩
  ·have:=Blk.px g0 D;exact⟨fun z=>by have:=C.bound _ z;omega,by omega⟩
 ·intro i x p h1 h2;rcases hs i x p h1 h2 with⟨g1,g2⟩|⟨_,_,_,_,g⟩
  ·exact dy.ext N (fun b z=>m _ (C.baseO i x p b g1 g2 z).2) (C.ok i x p g1 g2)
  ·exact g N
 ·intro i j x y p q b E h1 h2 D J h5 T U;rcases hs i x p h1 D with⟨g1,g3⟩|⟨g0,_,_,g,_⟩
  ·rcases hs j y q h2 J with⟨g2,g4⟩|⟨g0,_,_,g,_⟩
   ·exact C.sepO i j x y p q b E g1 g2 g3 g4 h5 T U
   ·have e:=Blk.px g0 U;subst e;exact g i x p E h1 D T
  ·have e:=Blk.px g0 T;subst e;exact g j y q (fun e=>E e.symm) h2 J U
def Bm(l:List (Option PB))(n:Nat)(ps:List (Option PB)):List (Option PB):=l.take n++(ps++l.drop (n+ps.length))
theorem AL{l ps:List (Option PB)}{n:Nat}(h:n+ps.length<=l.length):(Bm l n ps).length=l.length:=by
 simp only[Bm,List.length_append,List.length_take,List.length_drop];omega
theorem HE{l ps:List (Option PB)}{n j:Nat}(h:n+ps.length<=l.length)(p:j<ps.length):(Bm l n ps)[n+j]?=ps[j]?:=by
 have m:(l.take n).length=n:=by rw[List.length_take];omega
 rw[Bm,List.getElem?_append_right (by omega),m,List.getElem?_append_left (by omega)];congr 1;omega
theorem FP{l ps:List (Option PB)}{n j:Nat}(h:n+ps.length<=l.length)(m:j<n\/n+ps.length<=j):(Bm l n ps)[j]?=l[j]?:=by
 have p:(l.take n).length=n:=by rw[List.length_take];omega
 rcases m with m|m
 ·rw[Bm,List.getElem?_append_left (by omega),List.getElem?_take,if_pos m]
 ·rw[Bm,List.getElem?_append_right (by omega),p,List.getElem?_append_right (by omega),List.getElem?_drop];congr 1;omega
theorem sV:∀(new:List (List AV)) (n:Nat) (H:List Blk),n+new.length<=H.length->(aN H (jv n new)).length=H.length/\
  (∀j,j<new.length->(aN H (jv n new))[n+j]?=(new[j]?).map Blk.own)/\(∀j,j<n\/n+new.length<=j->(aN H (jv n new))[j]?=H[j]?)
 |[],n,H,h=>⟨rfl,by simp,fun _ _=>rfl⟩
 |x::xs,n,H,h=>by
  simp only[List.length_cons]at h;have q:(upd H n (.own x)).length=H.length:=by rw[cz (by omega),if_neg (by omega)]
  obtain⟨h1,h2,p⟩:=sV xs (n+1) (upd H n (.own x)) (by omega);refine⟨by simp only[jv,aN,h1,q],fun j m=>?_,fun j m=>?_⟩
  ·simp only[List.length_cons]at m;simp only[jv,aN];cases j with
   |zero=>rw[p _ (.inl (by omega)),eI (by omega),if_pos (by omega)];rfl
   |succ j=>
    rw[show n+(j+1)=n+1+j by omega,h2 j (by omega)];simp
  ·simp only[List.length_cons]at m;simp only[jv,aN];rw[p j (by omega),eI (by omega),if_neg (by omega)]
theorem tv:∀(new:List (List AV)) (n j:Nat),j<new.length->∃b,(n+j,b)∈jv n new
 |[],_,_,h=>by simp at h
 |x::xs,n,0,_=>⟨_,List.mem_cons_self⟩
 |x::xs,n,j+1,h=>by
  obtain⟨b,m⟩:=tv xs (n+1) j (by simpa using h);exact⟨b,by rw[show n+(j+1)=n+1+j by omega];exact List.mem_cons_of_mem _ m⟩
theorem wq:∀(a b:List (Nat×Blk)) (H:List Blk),aN H (a++b)=aN (aN H a) b
 |[],_,_=>rfl
 |(_,_)::a,b,_=>by simp only[List.cons_append,aN];exact wq a b _
theorem vu:∀(l:List Nat) (x base c:Nat),findAt l x base=some c->∃k,l[k]?=some x/\c=base+k
 |[],_,_,_,h=>by simp[findAt]at h
 |y::ys,x,base,c,h=>by
  simp only[findAt]at h;split at h
  ·rename_i e;cases h;exact⟨0,by simp[e],rfl⟩
  ·obtain⟨k,h1,h2⟩:=vu ys x (base+1) c h;exact⟨k+1,by simpa using h1,by omega⟩
theorem yd:∀(l:List Nat),xb l=true->∀(i j x y:Nat),i≠j->l[i]?=some x->l[j]?=some y->x≠y
 |[],_,i,_,_,_,_,h,_=>by simp at h
 |z::l,h,i,j,x,y,m,h1,h2=>by
  simp only[xb,Bool.and_eq_true,Bool.not_eq_true']at h;have p:z∉l:=by have:=h.1;simpa using this
  cases i with
  |zero=>
   simp only[List.getElem?_cons_zero,Option.some.injEq]at h1;cases j with
   |zero=>exact(m rfl).elim
   |succ j=>
    simp only[List.getElem?_cons_succ]at h2;rintro rfl;subst h1;exact p (List.mem_of_getElem? h2)
  |succ i=>
   simp only[List.getElem?_cons_succ]at h1;cases j with
   |zero=>
    simp only[List.getElem?_cons_zero,Option.some.injEq]at h2;rintro rfl;subst h2;exact p (List.mem_of_getElem? h1)
   |succ j=>
    simp only[List.getElem?_cons_succ]at h2;exact yd l h.2 i j x y (by omega) h1 h2
theorem wO{G:List Blk}{ok:Nat->Bool}{n:Nat}:∀(σ:List Nat) (new:List (List AV)),uO G ok n σ=some new->new.length=σ.length/\
  ∀(k b:Nat),σ[k]?=some b->∃cs cs',G[b]?=some (Blk.own cs)/\nJ (iO G ok n) cs=some cs'/\new[k]?=some cs'
 |[],new,h=>by cases h;exact⟨rfl,fun k b h=>by simp at h⟩
 |b::m,new,h=>by
  simp only[uO]at h;split at h
  ·rename_i cs p;split at h
   ·rename_i cs' l j q;cases h;obtain⟨h1,h2⟩:=wO m l q;refine⟨by simp[h1],fun k z hk=>?_⟩;cases k with
    |zero=>simp at hk;subst hk;exact⟨cs,cs',p,j,rfl⟩
    |succ k=>simpa using h2 k z (by simpa using hk)
   ·cases h
  ·cases h
end
end Go.Eng


namespace Go.Eng
open Go Go.RowKit
variable[Dr]
def lB(P:Program)(f:FuncId)(F:List AV->Option AV):Prop:=
 ∀args r,F args=some r->∀(out:Nat->Prop) (w:World) (vs:List Value),(∀b,out b->b<w.heap.size)->RvL w out [] args vs->
  Calls P f vs.toArray w fun e w'=>∃u,e=.returned u/\Ext (Lo w.heap.size) w w' out out [] []/\Rv w' out [] r u
section
variable{P:Program}{out:Nat->Prop}{B:Nat->Prop}{w w':World}{π πG:List (Option PB)}{H H' G:List Blk}
theorem jt:aI out [] []=out:=by
 funext b;apply propext;constructor
 ·rintro(h|⟨i,x,p,h,_⟩)
  ·exact h
  ·simp at h
 ·exact .inl
theorem zU(j:Inv out B w π H):∀b,aI out π H b->b<w.heap.size:=by
 rintro b (h|⟨i,x,p,h1,h2,m,q⟩)
 ·exact j.bound _ (j.out_lt b h)
 ·exact(j.baseO i x p b h1 m q).2
theorem Ext.vX(m:Inv out B w π H){π':List (Option PB)}{mu:Nat->Prop}(p:Ext B w w mu (aI out π H) π' π):∀b,aI out π H b->mu b:=by
 intro b j;by_cases h:mu b
 ·exact h
 ·exact((p.keep b (zU m b j) h).2 j).elim
theorem Bk{l:List Nat}{n:Nat}{r v:AV}{ws:List (Nat×Blk)}{rd:List Nat}{m:Nat}(z:oH n l H G r=some (.loc v ws rd m))
  (hlen:H.length+m<=H'.length) (b4:∀b∈rd,b<H.length->H'[b]?=H[b]?) (hI:Inv out B w π H') (hπ:∀j,H.length<=j->j<H.length+m->∀q,π[j]?≠some (some q))
  {u:Value} (E:Ext (Lo w.heap.size) w w' (aI out π (aN H' (ct H l))) (aI (aI out π (aN H' (ct H l))) πG G) [] πG) (Y:Inv (aI out π (aN H' (ct H l))) (Lo w.heap.size) w' πG G)
  (hr:Rv w' (aI (aI out π (aN H' (ct H l))) πG G) πG r u):
  ∃π',Ext B w w' (aI out π H') (aI out π' (aN H' ws)) π π'/\Inv out B w' π' (aN H' ws)/\Rv w' (aI out π' (aN H' ws)) π' v u/\∀j,(∀b,(j,b)∉ws)->π'[j]?=π[j]?:=by
 unfold oH at z;split at z
 ·rename_i b5;cases z;obtain⟨g1,g2⟩:=hI.I9 (w':=w') (fun b z=>E.low b z) E.size E.os E.tape E.output E.drawn;exact⟨π,g2,g1,uW _ _ b5 hr,fun _ _=>rfl⟩
 ·simp only at z;split at z
  ·rename_i new r' b6 a1 a6;cases z;generalize hσ:List.foldl qA [] ((kb r).filter fun b=>Ci G[b]?)=σ at*;obtain⟨C,b7,e5,e6,e7⟩:=iI l H' H hI (fun b z a7=>.inl (b4 b z a7));generalize b8:aN H' (ct H l)=Hf at*;obtain⟨b9,c0⟩:=wO σ new a1;rw[wq,b8];obtain⟨e1,e2,e3⟩:=sV new H.length Hf (by omega);have hπl:=C.len;have c8:(σ.map fun b=>(πG[b]?).getD none).length=new.length:=by simp[b9]
   generalize hps:(σ.map fun b=>(πG[b]?).getD none)=ps at*;have ol:=AL (l:=π) (ps:=ps) (n:=H.length) (by omega);have oi:=fun j (N:j<ps.length)=>HE (l:=π) (ps:=ps) (n:=H.length) (j:=j) (by omega) N
   have oo:=fun j (N:j<H.length\/H.length+ps.length<=j)=>FP (l:=π) (ps:=ps) (n:=H.length) (j:=j) (by omega) N
   generalize hπ':Bm π H.length ps=π' at*;generalize c9:aN Hf (jv H.length new)=J at*;have I:∀(k:Nat) (p:PB),ps[k]?=some (some p)->∃b,σ[k]?=some b/\πG[b]?=some (some p):=by
    intro k p h;rw[<-hps,List.getElem?_map]at h;cases hk:σ[k]? with
    |none=>rw[hk]at h;cases h
    |some b=>
     rw[hk]at h;refine⟨b,rfl,?_⟩;cases z:πG[b]? with
     |none=>simp[z]at h
     |some q=>simpa [z]using h
   have a8:∀(i:Nat) (p:PB),π[i]?=some (some p)->π'[i]?=some (some p):=by
    intro i p h;rw[oo i]
    ·exact h
    ·by_cases hi:H.length<=i/\i<H.length+new.length
     ·exact(hπ i hi.1 hi.2 p h).elim
     ·omega
   have key:∀(j:Nat) (x:Blk) (p:PB),J[j]?=some x->π'[j]?=some (some p)->(Hf[j]?=some x/\π[j]?=some (some p))\/
     ∃k b cs cs',j=H.length+k/\σ[k]?=some b/\πG[b]?=some (some p)/\G[b]?=some (.own cs)/\nJ (iO G (fun b=>!σ.contains b) n) cs=some cs'/\x=.own cs':=by
    intro j x p h1 h2;by_cases N:j<H.length\/H.length+new.length<=j
    ·rw[e3 j N]at h1;rw[oo j (by omega)]at h2;exact .inl ⟨h1,h2⟩
    ·obtain⟨k,rfl⟩:∃k,j=H.length+k:=⟨j-H.length,by omega⟩;rw[oi k (by omega)]at h2;obtain⟨b,D,O⟩:=I k p h2;obtain⟨cs,cs',g1,g2,g3⟩:=c0 k b D;rw[e2 k (by omega),g3]at h1;simp only[Option.map_some,Option.some.injEq]at h1;exact .inr ⟨k,b,cs,cs',rfl,D,O,g1,g2,h1.symm⟩
   have M:∀b,aI out π' J b->aI (aI out π Hf) πG G b:=by
    rintro b (h|⟨i,x,p,h1,h2,h3,h4⟩)
    ·exact .inl (.inl h)
    ·rcases key i x p h1 h3 with⟨g1,g2⟩|⟨k,T,cs,cs',_,_,g3,g4,_,rfl⟩
     ·exact .inl (.inr ⟨i,x,p,g1,h2,g2,h4⟩)
     ·exact .inr ⟨T,.own cs,p,g4,rfl,g3,h4⟩
   have hL:Eu w' (aI (aI out π Hf) πG G) (aI out π' J) πG G (fun b=>!σ.contains b):=by
    intro b p cs c3 b0 hp;refine⟨eU Y b0 hp,?_⟩;have U:∃y,G[b]?=some y/\y.isLive=true:=by rcases b0 with h|h<;>exact⟨_,h,rfl⟩
    obtain⟨y,hy,b1⟩:=U;have b3:=(Y.base b y p hy hp b1).1;rintro(h|⟨i,x,q,h1,h2,h3,h4⟩)
    ·exact b3 (C.bound _ (C.out_lt _ h))
    ·rcases key i x q h1 h3 with⟨g1,g2⟩|⟨k,T,cs',e4,_,g2,g3,g4,_,rfl⟩
     ·exact b3 (C.baseO i x q _ g1 g2 h4).2
     ·refine Y.sepO T b (.own cs') y q p _ ?_ g4 hy g3 hp rfl h4 (Blk.iE b1);rintro rfl;have:=List.mem_of_getElem? g2;simp[this]at c3
   obtain⟨hA,c4⟩:=C.F4 (w':=w') (π':=π') (H':=J) (fun b z=>E.low b z) E.size E.os E.tape E.output E.drawn (by omega) a8 (by
    intro j x p h1 h2;rcases key j x p h1 h2 with h|⟨k,b,cs,cs',rfl,g1,g2,g3,g4,rfl⟩
    ·exact .inl h
    ·refine .inr ?_;obtain⟨D,O⟩:=Y.base b _ p g3 g2 rfl;have D:=Nat.le_of_not_lt D;refine⟨rfl,D,O,?_,fun _=>?_⟩
     ·intro i y q e8 k1 k2 k3;rcases key i y q k1 k2 with⟨m1,m2⟩|⟨k',T,ds,e9,rfl,m1,m2,m3,m4,rfl⟩
      ·have:=(C.baseO i y q _ m1 m2 k3).2;omega
      ·have c5:T≠b:=yd σ b6 k' k T b (by omega) m1 g1;exact Y.sepO T b _ _ q p _ c5 m3 g3 m2 g2 rfl k3 rfl
     ·obtain⟨o1,o2⟩:=Y.ok b _ p g3 g2;exact⟨o1,(qn (fun A v A' hA c6=>nq hL M _ A A' v hA c6) cs cs' _ _ o2 g4).1.lift⟩)
   refine⟨π',b7.trans c4,hA,?_,fun j N=>oo j ?_⟩
   ·refine Cc hL M (ρ:=fun b=>findAt σ b H.length) ?_ n r v u hr a6;intro b c c7 p hp;obtain⟨k,hk,rfl⟩:=vu σ b H.length c c7;have h0:k<σ.length:=aK hk;rw[oi k (by omega),<-hps,List.getElem?_map,hk];simp[hp]
   ·by_cases a7:j<H.length\/H.length+new.length<=j
    ·omega
    ·obtain⟨k,rfl⟩:∃k,j=H.length+k:=⟨j-H.length,by omega⟩;obtain⟨b,z⟩:=tv new H.length k (by omega);exact(N b (List.mem_append_right _ z)).elim
  ·cases z
end
end Go.Eng

