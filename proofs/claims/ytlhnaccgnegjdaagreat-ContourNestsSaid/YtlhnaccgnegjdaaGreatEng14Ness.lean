import Derived.Test.YtlhnaccgnegjdaaGreatEng11Ness
set_option linter.all false
namespace Go.Eng
open Go Go.RowKit
variable[Dr]
def X.tI:X->Exit
 |.normal=>.normal
 |.exit id=>.exit id
 |.ret=>.ret
section
variable{P:Program}{out:Nat->Prop}{B:Nat->Prop}
theorem mS(p:tU P)(hm:P.follows .mixedOrders=true){call:ef}(m:gU P call){ops:Array Oper}{id:Nat}{draw:Bool}{st st':St}(h:kg P call ops.toList draw st=some st')
  {w:World} {π:List (Option PB)} {a:Act} (q:Rep out B w π st a) {Q:Exit->Act->World->Prop}
  (z:∀a' w' π',Rep out B w' π' st' a'->Ext B w w' (aG out π st.heap) (aG out π' st'.heap) π π'->Q .normal a' w'):(Code.region id ops draw).wp P Q a w:=by
 cases draw with
 |true=>exact B5 p hm m h q z
 |false=>
  have C:iv P call ops.toList ops.toList st=some st':=h;refine wp_region ?_;have:=tk p m (Q:=Q) ops.toList 0 st st' w π a (fun j=>by simp) C q z;rw[List.range_eq_range'];simpa using this
theorem xy(U:tU P)(hm:P.follows .mixedOrders=true){call:ef}(J:gU P call){n:Nat}:∀(c:Code) (st st':St) (x:X) (w:World) (π:List (Option PB)) (a:Act) (Q:Exit->Act->World->Prop),
  evalCode P call n c st=some (x,st')->Rep out B w π st a->(∀a' w' π',Rep out B w' π' st' a'->Ext B w w' (aG out π st.heap) (aG out π' st'.heap) π π'->Q x.tI a' w')->c.wp P Q a w:=by
 intro c;induction c with
 |skip=>intro st st' x w π a Q h j m;simp only[evalCode]at h;cases h;exact wp_skip (m a w π j (Ext.refl _ _ _))
 |label l=>intro st st' x w π a Q h j m;simp only[evalCode]at h;cases h;exact wp_label (m a w π j (Ext.refl _ _ _))
 |region id ops draw=>
  intro st st' x w π a Q h j m;simp only[evalCode]at h;split at h
  ·rename_i st1 h1;cases h;exact mS U hm J h1 j m
  ·cases h
 |seq c d I M=>
  intro st st' x w π a Q h j m;simp only[evalCode]at h;split at h
  ·rename_i st1 h1;refine wp_seq (I st st1 .normal w π a _ h1 j fun a' w' π' p q=>?_);exact M st1 st' x w' π' a' Q h p fun N O π'' C D=>m N O π'' C (q.trans D)
  ·rename_i r E;refine wp_seq (I st st' x w π a _ h j fun a' w' π' p q=>?_);have:=m a' w' π' p q;cases x with
   |normal=>exact(E st' h).elim
   |exit id=>exact this
   |ret=>exact this
 |cond o c d I M=>
  intro st st' x w π a Q h j m;simp only[evalCode]at h;split at h
  ·rename_i hc;have Y:a.eval o=.bool true:=by have:=ko j.slots o;rw[hc]at this;exact this
   exact wp_cond_true Y (I st st' x w π a Q h j m)
  ·rename_i hc;have Y:a.eval o=.bool false:=by have:=ko j.slots o;rw[hc]at this;exact this
   exact wp_cond_false Y (M st st' x w π a Q h j m)
  ·cases h
 |block id c T=>
  intro st st' x w π a Q h j m;simp only[evalCode]at h;split at h
  ·rename_i z st1 h1;split at h
   ·rename_i he;have he:z=id:=by simpa using he
    subst he;cases h;refine wp_block (T st st' (.exit z) w π a _ h1 j fun a' w' π' p q=>?_);simp only[X.tI,Exit.inBlock,if_true];exact m a' w' π' p q
   ·rename_i he;have he:¬z=id:=by simpa using he
    cases h;refine wp_block (T st st' (.exit z) w π a _ h1 j fun a' w' π' p q=>?_);simp only[X.tI,Exit.inBlock,if_neg he];exact m a' w' π' p q
  ·rename_i r E;refine wp_block (T st st' x w π a _ h j fun a' w' π' p q=>?_);have:=m a' w' π' p q;cases x with
   |exit z=>exact(E z st' h).elim
   |normal=>exact this
   |ret=>exact this
 |loop c T=>
  intro st st' x w π a Q h j m;simp only[evalCode]at h;have gen:∀(k:Nat) (st:St) (w:World) (π:List (Option PB)) (a:Act),iter (evalCode P call n c) k st=some (x,st')->Rep out B w π st a->
    (∀a' w' π',Rep out B w' π' st' a'->Ext B w w' (aG out π st.heap) (aG out π' st'.heap) π π'->Q x.tI a' w')->Code.rounds P c Q k a w:=by
   intro k;induction k with
   |zero=>intro st w π a h;cases h
   |succ k a0=>
    intro st w π a h j m;simp only[iter]at h;split at h
    ·rename_i st1 h1;refine T st st1 .normal w π a _ h1 j fun a' w' π' p q=>?_
     exact a0 st1 w' π' a' h p fun N O π'' C D=>m N O π'' C (q.trans D)
    ·rename_i r E;refine T st st' x w π a _ h j fun a' w' π' p q=>?_
     have:=m a' w' π' p q;cases x with
     |normal=>exact(E st' h).elim
     |exit id=>exact this
     |ret=>exact this
  exact wp_loop_rounds n (gen n st w π a h j m)
 |exit id=>intro st st' x w π a Q h j m;simp only[evalCode]at h;cases h;exact wp_exit (m a w π j (Ext.refl _ _ _))
 |ret=>intro st st' x w π a Q h j m;simp only[evalCode]at h;cases h;exact wp_ret (m a w π j (Ext.refl _ _ _))
 |rangeFunc f ps c d _ _=>intro st st' x w π a Q h j m;simp only[evalCode]at h;cases h
 |scope c _=>intro st st' x w π a Q h j m;simp only[evalCode]at h;cases h
 |goto l=>intro st st' x w π a Q h j m;simp only[evalCode]at h;cases h
 |refuse s=>intro st st' x w π a Q h j m;simp only[evalCode]at h;cases h
def Fe(a:Act):ResultVar->Sem Value
 |.tmp t=>pure (a.tmps.getD t undef)
 |.cell x t=>do loadVar t (<-asAddr (a.tmps.getD x undef))
theorem yE{w:World}{π:List (Option PB)}{st:St}{a:Act}(j:Rep out B w π st a){r:ResultVar}{v:AV}(h:xa P st r=some v):
  ∃u,(Fe a r).run P w=.ok u w/\Rv w (aG out π st.heap) π v u:=by
 cases r with
 |tmp t=>
  simp only[xa]at h;cases h;exact⟨_,rfl,lI j.slots t⟩
 |cell x t=>
  simp only[xa]at h;have hx:=lI j.slots x;obtain⟨u,h1,h2⟩:=wF (P:=P) j.inv hx h;have hp:∃m,a.tmps.getD x undef=.pointer (some m):=by
   unfold yR at h;split at h
   ·split at h
    ·rename_i n cs q p;obtain⟨b,o,e1,_⟩:=rr j.inv hx p;exact⟨_,e1⟩
    ·cases h
   ·obtain⟨m,u,e1,_⟩:=uS j.inv hx h;exact⟨_,e1⟩
   ·cases h
  obtain⟨m,e1⟩:=hp;rw[e1]at h1;refine⟨u,?_,h2⟩;simp only[Fe,e1];simpa [Instr.loadAt,Instr.sureAddr,asAddr]using h1
theorem sd{w:World}{π:List (Option PB)}{st:St}{a:Act}(p:Rep out B w π st a):∀(rs:List ResultVar) (vs:List AV),eC P st rs=some vs->
  ∃us:List Value,(rs.mapM (Fe a)).run P w=.ok us w/\RvL w (aG out π st.heap) π vs us
 |[],vs,h=>by cases h;exact⟨[],rfl,rfl⟩
 |r::rs,vs,h=>by
  simp only[eC]at h;split at h
  ·rename_i v j q m;cases h;obtain⟨u,h1,h2⟩:=yE p q;obtain⟨us,z,C⟩:=sd p rs j m;refine⟨u::us,?_,u,us,rfl,h2,C⟩;simp only[List.mapM_cons,Sem.run_bind,h1,Result.andThen_ok,z,Sem.run_pure]
  ·cases h
theorem BB{w:World}{mu:Nat->Prop}{π:List (Option PB)}{vs:List AV}{us:List Value}(h:RvL w mu π vs us):Rv w mu π (jg vs) (if h:us.toArray.size=1 then us.toArray[0]else .tuple us.toArray):=by
 match vs,us,h with
 |[],_,h=>cases h;exact⟨#[],rfl,rfl⟩
 |[v],_,h=>
  obtain⟨u,m,rfl,h1,rfl⟩:=h;simpa [jg]using h1
 |v1::v2::vs,_,h=>
  obtain⟨u1,m,rfl,h1,u2,j,rfl,h2,p⟩:=h;have:¬(u1::u2::j).toArray.size=1:=by simp
  rw[dif_neg this];exact⟨_,rfl,u1,_,rfl,h1,u2,_,rfl,h2,p⟩
theorem nc{w:World}{π:List (Option PB)}{st:St}{a:Act}(j:Rep out B w π st a){fn:Func}{vs:List AV}(h:eC P st fn.results.toList=some vs):
  ∃u,(results fn a.tmps).run P w=.ok u w/\Rv w (aG out π st.heap) π (jg vs) u:=by
 obtain⟨us,h1,h2⟩:=sd j _ _ h;refine⟨_,?_,BB h2⟩;have key:∀F:ResultVar->Sem Value,(∀r,F r=Fe a r)->(fn.results.toList.mapM F).run P w=.ok us w:=by
  intro F m;rw[show F=Fe a from funext m];exact h1
 unfold results;rw[Array.mapM_eq_mapM_toList];simp only[Sem.run_bind,Sem.run_map];rw[key _ (fun r=>by cases r<;>rfl)];rfl
theorem mc(z:tU P)(hm:P.follows .mixedOrders=true){call:ef}(p:gU P call){n:Nat}{f:FuncId}{fn:Func}(E:P.funcs[f]?=some fn){args:List AV}{H H':List Blk}{v:AV}(h:qn P call n fn args H=some (v,H'))
  {w:World} {π:List (Option PB)} {vs:List Value} (I:Inv out B w π H) (ha:RvL w (aG out π H) π args vs):
  Calls P f vs.toArray w fun e w'=>∃u π',e=.returned u/\Ext B w w' (aG out π H) (aG out π' H') π π'/\Inv out B w' π' H'/\Rv w' (aG out π' H') π' v u:=by
 unfold qn at h;split at h
 ·cases h
 ·rename_i c hc;refine calls_of_wp E hc ?_;have hlen:=RvL.length _ _ ha;have J:Rep out B w π ⟨args++q0 (fn.ntmps-args.length),H⟩ {tmps:=vs.toArray++Array.replicate (fn.ntmps-vs.toArray.size) undef,defers:=[]}:=by
   refine⟨rfl,?_,I⟩;simp only[Array.toList_append,Array.toList_replicate,List.size_toArray,hlen];refine RvL.append _ _ _ _ ha ?_;refine RvL.oA _ _ (by simp[q0]) fun i x y h1 h2=>?_
   have:=List.mem_of_getElem? h1;simp[q0]at this;rw[this.2];trivial
  have fin:∀(x:X) (st:St) (j:List AV),(∀id,x≠.exit id)->evalCode P call n c ⟨args++q0 (fn.ntmps-args.length),H⟩=some (x,st)->eC P st fn.results.toList=some j->v=jg j->H'=st.heap->
    c.wp P (bodyPost P fn fun e w'=>∃u π',e=.returned u/\Ext B w w' (aG out π H) (aG out π' H') π π'/\Inv out B w' π' H'/\Rv w' (aG out π' H') π' v u) {tmps:=vs.toArray++Array.replicate (fn.ntmps-vs.toArray.size) undef,defers:=[]} w:=by
   intro x st j hx he C M N;subst M;subst N;refine xy z hm p c _ st x w π _ _ he J fun a' w' π' m q=>?_
   obtain⟨u,r1,r2⟩:=nc m C;cases x with
   |normal=>exact⟨m.defers,u,r1,u,π',rfl,q,m.inv,r2⟩
   |ret=>exact⟨m.defers,u,r1,u,π',rfl,q,m.inv,r2⟩
   |exit id=>exact(hx id rfl).elim
  split at h
  ·cases h
  ·rename_i x st D he;split at h
   ·rename_i j C;cases h;exact fin x st j (fun id e=>D id e) he C rfl rfl
   ·cases h
  ·cases h
end
end Go.Eng


namespace Go.Eng
open Go Go.RowKit
variable[Dr]
section
variable{w:World}{mu mu':Nat->Prop}{π π':List (Option PB)}
theorem sa{f:AV->Option AV}(m:∀A v p,Rv w mu π A v->f A=some p->Rv w mu' π' p v):∀(cs cs':List AV) (b o:Nat),RvC w mu π cs b o->qe f cs=some cs'->RvC w mu' π' cs' b o/\cs'.length=cs.length
 |[],cs',b,o,_,h=>by cases h;exact⟨trivial,rfl⟩
 |c::cs,cs',b,o,hc,h=>by
  simp only[qe]at h;split at h
  ·rename_i y ys q j;cases h;obtain⟨⟨v,h1,h2,z⟩,C⟩:=hc;obtain⟨i1,i2⟩:=sa m cs ys b (o+1) C j;exact⟨⟨⟨v,h1,h2,m c v y z q⟩,i1⟩,by simp[i2]⟩
  ·cases h
theorem nI{f:AV->Option AV}(q:∀A v z,Rv w mu π A v->f A=some z->Rv w mu' π' z v):∀(cs cs':List AV) (vs:List Value),RvL w mu π cs vs->qe f cs=some cs'->RvL w mu' π' cs' vs
 |[],cs',vs,m,h=>by cases h;cases m;rfl
 |c::cs,cs',vs,m,h=>by
  simp only[qe]at h;split at h
  ·rename_i y ys C p;cases h;obtain⟨v,j,rfl,D,E⟩:=m;exact⟨v,j,rfl,q c v y D C,nI q cs ys j E p⟩
  ·cases h
theorem Ext.less(h:∀b,mu' b->mu b):Ext (fun _=>False) w w mu mu' π π:=⟨fun _ _=>rfl,Nat.le_refl _,fun b _ hb=>⟨rfl,fun j=>hb (h b j)⟩,fun _ _ h=>h,rfl,rfl,rfl,fun _=>Nat.le_refl _⟩
def DG(w:World)(mu mu':Nat->Prop)(π:List (Option PB))(H:List Blk)(ok:Nat->Bool):Prop:=
 ∀(b:Nat) (p:PB) (cs:List AV),ok b=true->(H[b]?=some (.own cs)\/H[b]?=some (.fix cs))->π[b]?=some (some p)->RvC w mu π cs p.blk p.off/\¬mu' p.blk
theorem pC{H:List Blk}{ok:Nat->Bool}(Y:DG w mu mu' π H ok)(a0:∀b,mu' b->mu b):∀(n:Nat) (A D:AV) (v:Value),Rv w mu π A v->km H ok n A=some D->Rv w mu' [] D v:=by
 have U:Ext (fun _=>False) w w mu mu' [] []:=Ext.less a0;intro n;induction n with
 |zero=>
  intro A D v C h;cases A<;>simp only[km]at h
  case unk=>cases h;trivial
  case «at»=>cases h;exact C
  case sl nl cs len=>cases h;exact Rv.ext U (.sl nl cs len) v C
  case pp cs off=>cases h;exact Rv.ext U (.pp cs off) v C
  all_goals cases h
 |succ n I=>
  intro A D v C h;cases A<;>simp only[km]at h
  case unk=>cases h;trivial
  case «at»=>cases h;exact C
  case sl nl cs len=>cases h;exact Rv.ext U (.sl nl cs len) v C
  case pp cs off=>cases h;exact Rv.ext U (.pp cs off) v C
  case hs b off len es=>
   split at h
   ·rename_i cs m E q;split at h
    ·rename_i cs' j;cases h;rcases C with⟨rfl,rfl⟩|⟨p,a,cap,h1,rfl,h2,J,h3⟩
     ·have:cs=[]/\m=0:=by
       simp only[iI]at q;split at q
       ·split at q
        ·cases q;simp
        ·cases q
       ·split at q
        ·cases q;simp
        ·cases q
       ·cases q
      obtain⟨rfl,rfl⟩:=this;cases j;exact .inl ⟨rfl,rfl,rfl,rfl⟩
     obtain⟨ab,ao,a2⟩:=a;simp only at J;subst J;have key:∀c:List AV,(H[b]?=some (.own c)\/H[b]?=some (.fix c))->off+len*es<=c.length->cs=(c.drop off).take (len*es)->m=len->Rv w mu' [] (.sl true cs' m) (.slice (some ⟨ab,ao,none⟩) len cap):=by
      intro c hc hle e1 e2;subst e1;subst e2;obtain⟨g1,M⟩:=Y b p c E hc h1;have hr:=RvC.take (m*es) _ _ _ (RvC.drop off c _ _ g1);obtain⟨N,k2⟩:=sa (fun A v D C z=>I A D v C z) _ cs' _ _ hr j;by_cases O:0<cap
      ·obtain⟨e1,_⟩:=h3 O;cases e1;exact .inr (.inl ⟨_,_,cap,rfl,h2,fun _=>M,N⟩)
      ·have hm:m=0:=by omega
       subst hm;have:cs'=[]:=by rw[<-List.length_eq_zero_iff,k2];simp
       subst this;exact .inr (.inl ⟨_,_,cap,rfl,h2,fun h=>(h rfl).elim,trivial⟩)
     simp only[iI]at q;split at q
     ·rename_i c hc;split at q
      ·rename_i hle;cases q;exact key c (.inl hc) (by simpa using hle) rfl rfl
      ·cases q
     ·rename_i c hc;split at q
      ·rename_i hle;cases q;exact key c (.inr hc) (by simpa using hle) rfl rfl
      ·cases q
     ·cases q
    ·cases h
   ·cases h
  case hp b off=>
   obtain⟨p,h1,rfl⟩:=C;split at h
   ·rename_i c E hc;split at h
    ·rename_i cs' j;cases h;obtain⟨g1,M⟩:=Y b p c E (.inl hc) h1;obtain⟨N,_⟩:=sa (fun A v D C z=>I A D v C z) _ cs' _ _ g1 j;exact⟨_,_,rfl,fun _=>M,N⟩
    ·cases h
   ·rename_i c E hc;split at h
    ·rename_i cs' j;cases h;obtain⟨g1,M⟩:=Y b p c E (.inr hc) h1;obtain⟨N,_⟩:=sa (fun A v D C z=>I A D v C z) _ cs' _ _ g1 j;exact⟨_,_,rfl,fun _=>M,N⟩
    ·cases h
   ·cases h
  case mp b=>cases h
  case agg cs=>
   split at h
   ·rename_i cs' j;cases h;obtain⟨vs,rfl,hv⟩:=C;exact⟨vs,rfl,nI (fun A v D C z=>I A D v C z) _ cs' _ hv j⟩
   ·cases h
  case tup cs=>
   split at h
   ·rename_i cs' j;cases h;obtain⟨vs,rfl,hv⟩:=C;exact⟨vs,rfl,nI (fun A v D C z=>I A D v C z) _ cs' _ hv j⟩
   ·cases h
  case fn f fs cs=>
   split at h
   ·rename_i a1 cs' T j;cases h;obtain⟨a,c,rfl,h1,h2⟩:=C;exact⟨a,c,rfl,nI (fun A v D C z=>I A D v C z) _ a1 _ h1 T,nI (fun A v D C z=>I A D v C z) _ cs' _ h2 j⟩
   ·cases h
theorem Ca{H:List Blk}{ok:Nat->Bool}(J:DG w mu mu' π H ok)(D:∀b,mu' b->mu b){ρ:Nat->Option Nat}(hρ:∀b c,ρ b=some c->∀p,π[b]?=some (some p)->π'[c]?=some (some p)):
  ∀(n:Nat) (A j:AV) (v:Value),Rv w mu π A v->Cf H ok ρ n A=some j->Rv w mu' π' j v:=by
 have hs:∀(n:Nat) (A j:AV) (v:Value),Rv w mu π A v->km H ok n A=some j->Rv w mu' π' j v:=fun n A j v m h=>(pC J D n A j v m h).lift
 have leaf:∀(n:Nat) (b off len es:Nat) (j:AV) (v:Value),Rv w mu π (.hs b off len es) v->(match ρ b with|some c=>some (AV.hs c off len es)|none=>km H ok n (.hs b off len es))=some j->Rv w mu' π' j v:=by
  intro n b off len es j v m h;split at h
  ·rename_i c hc;cases h;rcases m with m|⟨p,a,cap,h1,h2⟩
   ·exact .inl m
   ·exact .inr ⟨p,a,cap,hρ b c hc p h1,h2⟩
  ·exact hs n _ _ v m h
 have q:∀(n:Nat) (b off:Nat) (j:AV) (v:Value),Rv w mu π (.hp b off) v->(match ρ b with|some c=>some (AV.hp c off)|none=>km H ok n (.hp b off))=some j->Rv w mu' π' j v:=by
  intro n b off j v m h;split at h
  ·rename_i c hc;cases h;obtain⟨p,h1,h2⟩:=m;exact⟨p,hρ b c hc p h1,h2⟩
  ·exact hs n _ _ v m h
 intro n;induction n with
 |zero=>
  intro A j v m h;cases A<;>simp only[Cf]at h
  case hs b off len es=>exact leaf 0 b off len es j v m h
  case hp b off=>exact q 0 b off j v m h
  all_goals exact hs 0 _ j v m h
 |succ n I=>
  intro A j v m h;cases A<;>simp only[Cf]at h
  case hs b off len es=>exact leaf (n+1) b off len es j v m h
  case hp b off=>exact q (n+1) b off j v m h
  case agg cs=>
   split at h
   ·rename_i cs' z;cases h;obtain⟨vs,rfl,E⟩:=m;exact⟨vs,rfl,nI (fun A v j m C=>I A j v m C) _ cs' _ E z⟩
   ·cases h
  case tup cs=>
   split at h
   ·rename_i cs' z;cases h;obtain⟨vs,rfl,E⟩:=m;exact⟨vs,rfl,nI (fun A v j m C=>I A j v m C) _ cs' _ E z⟩
   ·cases h
  all_goals exact hs (n+1) _ j v m h
mutual
theorem vo{w':World}{m:Nat->Prop}{π2:List (Option PB)}:(A:AV)->(v:Value)->qW A=false->Rv w mu π A v->Rv w' m π2 A v
 |.unk,_,_,_=>trivial
 |.at x,v,_,h=>h
 |.agg cs,v,j,h=>by
  obtain⟨vs,rfl,p⟩:=h;exact⟨vs,rfl,oS cs _ (by simpa [qW]using j) p⟩
 |.tup cs,v,j,h=>by
  obtain⟨vs,rfl,p⟩:=h;exact⟨vs,rfl,oS cs _ (by simpa [qW]using j) p⟩
 |.fn f q cs,v,j,h=>by
  obtain⟨a,c,rfl,h1,h2⟩:=h;simp only[qW,Bool.or_eq_false_iff]at j;exact⟨a,c,rfl,oS q _ j.1 h1,oS cs _ j.2 h2⟩
 |.sl ..,_,j,_|.pp ..,_,j,_|.hs ..,_,j,_|.hp ..,_,j,_|.mp ..,_,j,_=>by simp[qW]at j
theorem oS{w':World}{m:Nat->Prop}{π2:List (Option PB)}:(cs:List AV)->(vs:List Value)->qT cs=false->RvL w mu π cs vs->RvL w' m π2 cs vs
 |[],vs,_,h=>h
 |c::cs,vs,p,h=>by
  obtain⟨v,j,rfl,h1,h2⟩:=h;simp only[qT,Bool.or_eq_false_iff]at p;exact⟨v,j,rfl,vo c v p.1 h1,oS cs j p.2 h2⟩
end
end
section
variable{P:Program}{out:Nat->Prop}{B:Nat->Prop}{w:World}{π:List (Option PB)}{H:List Blk}
theorem Inv.zM(C:Inv out B w π H){b:Nat}{cs:List AV}(h:H[b]?=some (.own cs)\/H[b]?=some (.fix cs)):
  Inv out B w π (upd H b (.fix cs))/\Ext B w w (aG out π H) (aG out π (upd H b (.fix cs))) π π:=by
 have J:b<H.length:=by rcases h with h|h<;>exact aN h
 have hu:upd H b (.fix cs)=H.set b (.fix cs):=by simp[upd,J]
 rw[hu];rcases h with h|h
 ·cases hp:π[b]? with
  |none=>have:=List.getElem?_eq_none_iff.1 hp;have:=C.len;omega
  |some op=>
   cases op with
   |some p=>
    obtain⟨h1,h2⟩:=C.se h hp rfl (.fix cs) (w':=w) rfl (fun _ _=>rfl) rfl rfl rfl (fun _=>Nat.le_refl _) (fun N=>RvC.ext N cs _ _ rfl (fT C (.inl h) hp));exact⟨h2,h1⟩
   |none=>
    have D:∀x,aG out π (H.set b (.fix cs)) x->aG out π H x:=by
     rintro x (Y|⟨i,y,p,g1,z,E,M⟩)
     ·exact .inl Y
     ·rcases cJ g1 with⟨rfl,rfl⟩|⟨_,m⟩
      ·simp[Blk.fQ]at z
      ·exact .inr ⟨i,y,p,m,z,E,M⟩
    have N:Ext B w w (aG out π H) (aG out π (H.set b (.fix cs))) π π:=⟨fun _ _=>rfl,Nat.le_refl _,fun x _ hx=>⟨rfl,fun O=>hx (D x O)⟩,fun _ _ h=>h,rfl,rfl,rfl,fun _=>Nat.le_refl _⟩;refine⟨⟨by simp[C.len],C.bound,C.out_lt,?_,?_,?_⟩,N⟩
    ·intro i x q T g1 z E;rcases cJ g1 with⟨rfl,_⟩|⟨_,m⟩
     ·rw[hp]at z;cases z
     ·exact C.baseO i x q T m z E
    ·intro i x q g1 z;rcases cJ g1 with⟨rfl,_⟩|⟨_,m⟩
     ·rw[hp]at z;cases z
     ·exact eD.ext N (fun _ _=>rfl) (C.ok i x q m z)
    ·intro i j x y q r T I g1 z E M g5 g6 g7;rcases cJ g1 with⟨rfl,_⟩|⟨_,m⟩
     ·rw[hp]at E;cases E
     ·rcases cJ z with⟨rfl,_⟩|⟨_,U⟩
      ·rw[hp]at M;cases M
      ·exact C.sepO i j x y q r T I m U E M g5 g6 g7
 ·have he:H.set b (.fix cs)=H:=by
   apply List.ext_getElem?;intro j;rw[List.getElem?_set];split
   ·rename_i I;subst I;first|exact h.symm|(rw[if_pos J];exact h.symm)
   ·rfl
  rw[he];exact⟨C,Ext.refl _ _ _⟩
theorem RvW.frz{mu m:Nat->Prop}(j:∀c,m c->mu c):∀(rs:List RC) (p:Nat->Option (Nat×Nat×Nat)) (b o:Nat),(∀(k len es:Nat) (cs:List AV) (q:Nat×Nat×Nat),rs[k]?=some (.row len es cs)->p k=some q->¬m q.1)->RvW w mu π rs p b o->RvC w m π (rs.map frz) b o
 |[],_,_,_,_,_=>trivial
 |.row len es cs::rs,p,b,o,z,h=>by
  obtain⟨⟨v,h1,h2⟩,C⟩:=h;refine⟨⟨v,h1,?_,?_⟩,RvW.frz j rs _ b (o+1) (fun k D E I q e1 e2=>z (k+1) D E I q (by simpa using e1) e2) C⟩
  ·rcases h2 with⟨_,_,rfl⟩|⟨q,a,cap,c,e,_,rfl,_⟩<;>rfl
  ·rcases h2 with⟨rfl,rfl,rfl⟩|⟨q,a,cap,c,e,g1,rfl,J,U,M,Y,g7,N,O⟩
   ·exact .inl ⟨rfl,rfl,rfl,rfl⟩
   ·by_cases hc:0<cap
    ·obtain⟨rfl,_⟩:=M hc;exact .inr (.inl ⟨_,_,cap,rfl,J,fun _=>z 0 len es cs q rfl g1,RvC.ext (Ext.less j) cs _ _ rfl O⟩)
    ·obtain rfl:len=0:=by omega
     exact .inr (.inr ⟨rfl,N rfl,a,cap,rfl⟩)
 |.av A::rs,p,b,o,z,h=>by
  obtain⟨⟨v,h1,h2,C⟩,T⟩:=h;exact⟨⟨v,h1,h2,Rv.ext (Ext.less j) A v C⟩,RvW.frz j rs _ b (o+1) (fun k D E I q e1 e2=>z (k+1) D E I q (by simpa using e1) e2) T⟩
theorem Inv.GF(D:Inv out B w π H){b:Nat}{rs:List RC}(h:H[b]?=some (.rows rs)):
  Inv out B w π (upd H b (.fix (rs.map frz)))/\Ext B w w (aG out π H) (aG out π (upd H b (.fix (rs.map frz)))) π π:=by
 have N:b<H.length:=aN h;have hu:upd H b (.fix (rs.map frz))=H.set b (.fix (rs.map frz)):=by simp[upd,N]
 rw[hu];have z:∀x,aG out π (H.set b (.fix (rs.map frz))) x->aG out π H x:=by
  rintro x (O|⟨i,y,p,g1,C,E,I⟩)
  ·exact .inl O
  ·rcases cJ g1 with⟨rfl,rfl⟩|⟨_,m⟩
   ·simp[Blk.fQ]at C
   ·exact .inr ⟨i,y,p,m,C,E,I⟩
 have T:∀(p:PB) (c:Nat),π[b]?=some (some p)->(Blk.rows rs).owns p c->¬aG out π (H.set b (.fix (rs.map frz))) c:=by
  rintro p c hp hc (O|⟨i,y,q,g1,C,E,I⟩)
  ·exact(D.baseO b _ p c h hp hc).1 (D.out_lt _ O)
  ·rcases cJ g1 with⟨rfl,rfl⟩|⟨U,m⟩
   ·simp[Blk.fQ]at C
   ·exact D.sepO i b y _ q p c (fun e=>U e.symm) m h E hp C I hc
 have hE:Ext B w w (aG out π H) (aG out π (H.set b (.fix (rs.map frz)))) π π:=⟨fun _ _=>rfl,Nat.le_refl _,fun x _ hx=>⟨rfl,fun Y=>hx (z x Y)⟩,fun _ _ h=>h,rfl,rfl,rfl,fun _=>Nat.le_refl _⟩;have J:∀(p:PB) (c:Nat),(Blk.fix (rs.map frz)).owns p c->(Blk.rows rs).owns p c:=fun p c h=>.inl h
 refine⟨⟨by simp[D.len],D.bound,D.out_lt,?_,?_,?_⟩,hE⟩
 ·intro i x q c g1 C E;rcases cJ g1 with⟨rfl,rfl⟩|⟨_,m⟩
  ·exact D.baseO b _ q c h C (J _ _ E)
  ·exact D.baseO i x q c m C E
 ·intro i x q g1 C;rcases cJ g1 with⟨rfl,rfl⟩|⟨_,m⟩
  ·exact RvW.frz z rs _ _ _ (fun k len es cs s e1 e2=>T q s.1 C (.inr ⟨k,len,es,cs,s,e1,e2,rfl⟩)) (D.ok b _ q h C).2.1
  ·exact eD.ext hE (fun _ _=>rfl) (D.ok i x q m C)
 ·intro i j x y q r c M g1 C E I g5 g6 g7;rcases cJ g1 with⟨rfl,rfl⟩|⟨_,m⟩
  ·simp[Blk.fQ]at g5
  ·rcases cJ C with⟨rfl,rfl⟩|⟨_,a0⟩
   ·exact D.sepO i b x _ q r c M m h E I g5 g6 (J _ _ g7)
   ·exact D.sepO i j x y q r c M m a0 E I g5 g6 g7
theorem jI:∀(l:List Nat) (H':List Blk) (j:List Blk),Inv out B w π H'->(∀b∈l,b<j.length->(H'[b]?=j[b]?\/∃x cs,j[b]?=some x/\fzC x=some cs/\H'[b]?=some (.fix cs)))->
  Inv out B w π (aQ H' (cK j l))/\Ext B w w (aG out π H') (aG out π (aQ H' (cK j l))) π π/\
  (aQ H' (cK j l)).length=H'.length/\(∀b∈l,∀x cs,j[b]?=some x->fzC x=some cs->(aQ H' (cK j l))[b]?=some (.fix cs))/\
  (∀b,(∀x cs,b∈l->j[b]?=some x->fzC x≠some cs)->(aQ H' (cK j l))[b]?=H'[b]?)
 |[],H',j,E,_=>⟨E,Ext.refl _ _ _,rfl,by simp,fun _ _=>rfl⟩
 |b::l,H',j,E,D=>by
  cases hb:j[b]? with
  |none=>
   have e:cK j (b::l)=cK j l:=by simp[cK,hb]
   rw[e];obtain⟨h1,h2,J,M,I⟩:=jI l H' j E (fun x hx=>D x (by simp[hx]));refine⟨h1,h2,J,fun x hx y cs m he=>?_,fun x hx=>I x fun y cs hm=>hx y cs (by simp[hm])⟩;rcases List.mem_cons.1 hx with rfl|hx
   ·rw[hb]at m;cases m
   ·exact M x hx y cs m he
  |some y=>
   cases p:fzC y with
   |none=>
    have e:cK j (b::l)=cK j l:=by
     cases y<;>first|(cases p;done)|simp[cK,hb]
    rw[e];obtain⟨h1,h2,J,M,I⟩:=jI l H' j E (fun x hx=>D x (by simp[hx]));refine⟨h1,h2,J,fun x hx z cs m he=>?_,fun x hx=>I x fun z cs hm=>hx z cs (by simp[hm])⟩;rcases List.mem_cons.1 hx with rfl|hx
    ·rw[hb]at m;cases m;rw[p]at he;cases he
    ·exact M x hx z cs m he
   |some cs=>
    have e:cK j (b::l)=(b,.fix cs)::cK j l:=by
     cases y<;>first|(cases p;done)|(simp only[fzC,Option.some.injEq]at p;subst p;simp[cK,hb])
    rw[e];have T:b<j.length:=aN hb;have N:H'[b]?=some y\/H'[b]?=some (.fix cs):=by
     rcases D b (by simp) T with h|⟨y',cs',h1,O,h2⟩
     ·left;rw[h];exact hb
     ·rw[hb]at h1;cases h1;rw[p]at O;cases O;exact .inr h2
    have a2:b<H'.length:=by rcases N with h|h<;>exact aN h
    obtain⟨U,Y⟩:Inv out B w π (upd H' b (.fix cs))/\Ext B w w (aG out π H') (aG out π (upd H' b (.fix cs))) π π:=by
     rcases N with h|h
     ·cases y with
      |own c=>simp only[fzC,Option.some.injEq]at p;subst p;exact E.zM (.inl h)
      |rows rs=>simp only[fzC,Option.some.injEq]at p;subst p;exact E.GF h
      |_=>cases p
     ·exact E.zM (.inr h)
    have a0:(upd H' b (.fix cs)).length=H'.length:=by rw[cZ (by omega),if_neg (by omega)]
    obtain⟨h1,h2,J,M,I⟩:=jI l (upd H' b (.fix cs)) j U (fun x hx q=>by
     rw[fA (by omega)];split
     ·rename_i e0;subst e0;exact .inr ⟨y,cs,hb,p,rfl⟩
     ·exact D x (by simp[hx]) q)
    refine⟨h1,Y.trans h2,by rw[aQ,J,a0],fun x hx z cs' C he=>?_,fun x hx=>?_⟩
    ·by_cases q:x∈l
     ·exact M x q z cs' C he
     ·rcases List.mem_cons.1 hx with rfl|hx
      ·rw[hb]at C;cases C;rw[p]at he;cases he;rw[aQ,I x (fun _ _ hm=>(q hm).elim),fA (by omega),if_pos rfl]
      ·exact(q hx).elim
    ·have a1:x≠b:=by rintro rfl;exact hx y cs (by simp) hb p
     rw[aQ,I x (fun z cs' hm=>hx z cs' (by simp[hm])),fA (by omega),if_neg a1]
theorem Inv.H5{w':World}(m:Inv out B w π H)(j:∀b,b<w.heap.size->w'.heap[b]?=w.heap[b]?)(q:w.heap.size<=w'.heap.size)(C:w'.os=w.os)(D:w'.tape=w.tape)(hu:w'.output=w.output)(hd:Dr.d=true->w.drawn<=w'.drawn):
  Inv out B w' π H/\Ext B w w' (aG out π H) (aG out π H) π π:=by
 have z:Ext B w w' (aG out π H) (aG out π H) π π:=⟨fun b hb=>j b (m.bound b hb),q,fun b hb h=>⟨j b hb,h⟩,fun _ _ h=>h,C,D,hu,hd⟩;refine⟨⟨m.len,fun b hb=>by have:=m.bound b hb;omega,m.out_lt,fun i x p b h1 h2 E=>by have:=m.baseO i x p b h1 h2 E;exact⟨this.1,by omega⟩,fun i x p h1 h2=>eD.ext z (fun b hb=>j _ (m.baseO i x p b h1 h2 hb).2) (m.ok i x p h1 h2),m.sepO⟩,z⟩
theorem Inv.FH(z:Inv out B w π H){w':World}(m:∀b,b<w.heap.size->w'.heap[b]?=w.heap[b]?)(N:w.heap.size<=w'.heap.size)(ho:w'.os=w.os)(ht:w'.tape=w.tape)(hu:w'.output=w.output)(hd:Dr.d=true->w.drawn<=w'.drawn)
  {π':List (Option PB)} {H':List Blk} (hl:π'.length=H'.length) (J:∀(i:Nat) (p:PB),π[i]?=some (some p)->π'[i]?=some (some p))
  (hs:∀(j:Nat) (x:Blk) (p:PB),H'[j]?=some x->π'[j]?=some (some p)->(H[j]?=some x/\π[j]?=some (some p))\/
   (x.plain=true/\w.heap.size<=p.blk/\p.blk<w'.heap.size/\(∀(i:Nat) (y:Blk) (q:PB),i≠j->H'[i]?=some y->π'[i]?=some (some q)->¬y.owns q p.blk)/\
    (Ext B w w' (aG out π H) (aG out π' H') π π'->eD w' (aG out π' H') π' p x))):
  Inv out B w' π' H'/\Ext B w w' (aG out π H) (aG out π' H') π π':=by
 have O:Ext B w w' (aG out π H) (aG out π' H') π π':=by
  refine⟨fun b hb=>m b (z.bound b hb),N,fun b hb hn=>⟨m b hb,?_⟩,J,ho,ht,hu,hd⟩;rintro(T|⟨i,x,p,h1,h2,C,M⟩)
  ·exact hn (.inl T)
  ·rcases hs i x p h1 C with⟨g1,U⟩|⟨g,_⟩
   ·exact hn (.inr ⟨i,x,p,g1,h2,U,M⟩)
   ·rename_i I;have:=Blk.qX g M;omega
 refine⟨⟨hl,fun b hb=>by have:=z.bound b hb;omega,z.out_lt,?_,?_,?_⟩,O⟩
 ·intro i x p b h1 h2 C;rcases hs i x p h1 h2 with⟨g1,D⟩|⟨I,g1,D,_⟩
  ·have:=z.baseO i x p b g1 D C;exact⟨this.1,by omega⟩
  ·have:=Blk.qX I C;exact⟨fun hb=>by have:=z.bound _ hb;omega,by omega⟩
 ·intro i x p h1 h2;rcases hs i x p h1 h2 with⟨g1,D⟩|⟨_,_,_,_,g⟩
  ·exact eD.ext O (fun b hb=>m _ (z.baseO i x p b g1 D hb).2) (z.ok i x p g1 D)
  ·exact g O
 ·intro i j x y p q b E h1 h2 C M h5 Y h7;rcases hs i x p h1 C with⟨g1,U⟩|⟨I,_,_,g,_⟩
  ·rcases hs j y q h2 M with⟨D,g4⟩|⟨I,_,_,g,_⟩
   ·exact z.sepO i j x y p q b E g1 D U g4 h5 Y h7
   ·have e:=Blk.qX I h7;subst e;exact g i x p E h1 C Y
  ·have e:=Blk.qX I Y;subst e;exact g j y q (fun e=>E e.symm) h2 M h7
def AR(l:List (Option PB))(n:Nat)(ps:List (Option PB)):List (Option PB):=l.take n++(ps++l.drop (n+ps.length))
theorem AJ{l ps:List (Option PB)}{n:Nat}(h:n+ps.length<=l.length):(AR l n ps).length=l.length:=by
 simp only[AR,List.length_append,List.length_take,List.length_drop];omega
theorem Gk{l ps:List (Option PB)}{n j:Nat}(h:n+ps.length<=l.length)(p:j<ps.length):(AR l n ps)[n+j]?=ps[j]?:=by
 have m:(l.take n).length=n:=by rw[List.length_take];omega
 rw[AR,List.getElem?_append_right (by omega),m,List.getElem?_append_left (by omega)];congr 1;omega
theorem Ei{l ps:List (Option PB)}{n j:Nat}(h:n+ps.length<=l.length)(m:j<n\/n+ps.length<=j):(AR l n ps)[j]?=l[j]?:=by
 have p:(l.take n).length=n:=by rw[List.length_take];omega
 rcases m with m|m
 ·rw[AR,List.getElem?_append_left (by omega),List.getElem?_take,if_pos m]
 ·rw[AR,List.getElem?_append_right (by omega),p,List.getElem?_append_right (by omega),List.getElem?_drop];congr 1;omega
theorem vf:∀(new:List (List AV)) (n:Nat) (H:List Blk),n+new.length<=H.length->(aQ H (kA n new)).length=H.length/\
  (∀j,j<new.length->(aQ H (kA n new))[n+j]?=(new[j]?).map Blk.own)/\(∀j,j<n\/n+new.length<=j->(aQ H (kA n new))[j]?=H[j]?)
 |[],n,H,h=>⟨rfl,by simp,fun _ _=>rfl⟩
 |x::xs,n,H,h=>by
  simp only[List.length_cons]at h;have q:(upd H n (.own x)).length=H.length:=by rw[cZ (by omega),if_neg (by omega)]
  obtain⟨h1,h2,p⟩:=vf xs (n+1) (upd H n (.own x)) (by omega);refine⟨by simp only[kA,aQ,h1,q],fun j m=>?_,fun j m=>?_⟩
  ·simp only[List.length_cons]at m;simp only[kA,aQ];cases j with
   |zero=>rw[p _ (.inl (by omega)),fA (by omega),if_pos (by omega)];rfl
   |succ j=>
    rw[show n+(j+1)=n+1+j by omega,h2 j (by omega)];simp
  ·simp only[List.length_cons]at m;simp only[kA,aQ];rw[p j (by omega),fA (by omega),if_neg (by omega)]
theorem uZ:∀(new:List (List AV)) (n j:Nat),j<new.length->∃b,(n+j,b)∈kA n new
 |[],_,_,h=>by simp at h
 |x::xs,n,0,_=>⟨_,List.mem_cons_self⟩
 |x::xs,n,j+1,h=>by
  obtain⟨b,hb⟩:=uZ xs (n+1) j (by simpa using h);exact⟨b,by rw[show n+(j+1)=n+1+j by omega];exact List.mem_cons_of_mem _ hb⟩
theorem xD:∀(a b:List (Nat×Blk)) (H:List Blk),aQ H (a++b)=aQ (aQ H a) b
 |[],_,_=>rfl
 |(_,_)::a,b,_=>by simp only[List.cons_append,aQ];exact xD a b _
theorem wC:∀(l:List Nat) (x base c:Nat),findAt l x base=some c->∃k,l[k]?=some x/\c=base+k
 |[],_,_,_,h=>by simp[findAt]at h
 |y::ys,x,base,c,h=>by
  simp only[findAt]at h;split at h
  ·rename_i e;cases h;exact⟨0,by simp[e],rfl⟩
  ·obtain⟨k,h1,h2⟩:=wC ys x (base+1) c h;exact⟨k+1,by simpa using h1,by omega⟩
theorem za:∀(l:List Nat),xt l=true->∀(i j x y:Nat),i≠j->l[i]?=some x->l[j]?=some y->x≠y
 |[],_,i,_,_,_,_,h,_=>by simp at h
 |z::l,h,i,j,x,y,m,h1,h2=>by
  simp only[xt,Bool.and_eq_true,Bool.not_eq_true']at h;have p:z∉l:=by have:=h.1;simpa using this
  cases i with
  |zero=>
   simp only[List.getElem?_cons_zero,Option.some.injEq]at h1;cases j with
   |zero=>exact(m rfl).elim
   |succ j=>
    simp only[List.getElem?_cons_succ]at h2;rintro rfl;subst h1;exact p (List.mem_of_getElem? h2)
  |succ i=>
   simp only[List.getElem?_cons_succ]at h1;cases j with
   |zero=>
    simp only[List.getElem?_cons_zero,Option.some.injEq]at h2;rintro rfl;subst h2;exact p (List.mem_of_getElem? h1)
   |succ j=>
    simp only[List.getElem?_cons_succ]at h2;exact za l h.2 i j x y (by omega) h1 h2
theorem xj{G:List Blk}{ok:Nat->Bool}{n:Nat}:∀(σ:List Nat) (new:List (List AV)),vE G ok n σ=some new->new.length=σ.length/\
  ∀(k b:Nat),σ[k]?=some b->∃cs cs',G[b]?=some (Blk.own cs)/\qe (km G ok n) cs=some cs'/\new[k]?=some cs'
 |[],new,h=>by cases h;exact⟨rfl,fun k b h=>by simp at h⟩
 |b::p,new,h=>by
  simp only[vE]at h;split at h
  ·rename_i cs hb;split at h
   ·rename_i cs' l j q;cases h;obtain⟨h1,h2⟩:=xj p l q;refine⟨by simp[h1],fun k z m=>?_⟩;cases k with
    |zero=>simp at m;subst m;exact⟨cs,cs',hb,j,rfl⟩
    |succ k=>simpa using h2 k z (by simpa using m)
   ·cases h
  ·cases h
end
end Go.Eng


namespace Go.Eng
open Go Go.RowKit
variable[Dr]
def oO(P:Program)(f:FuncId)(F:List AV->Option AV):Prop:=
 ∀args r,F args=some r->∀(out:Nat->Prop) (w:World) (vs:List Value),(∀b,out b->b<w.heap.size)->RvL w out [] args vs->
  Calls P f vs.toArray w fun e w'=>∃u,e=.returned u/\Ext (Lo w.heap.size) w w' out out [] []/\Rv w' out [] r u
section
variable{P:Program}{out:Nat->Prop}{B:Nat->Prop}{w w':World}{π πG:List (Option PB)}{H H' G:List Blk}
theorem kF:aG out [] []=out:=by
 funext b;apply propext;constructor
 ·rintro(h|⟨i,x,p,h,_⟩)
  ·exact h
  ·simp at h
 ·exact .inl
theorem Aa(j:Inv out B w π H):∀b,aG out π H b->b<w.heap.size:=by
 rintro b (h|⟨i,x,p,h1,h2,m,q⟩)
 ·exact j.bound _ (j.out_lt b h)
 ·exact(j.baseO i x p b h1 m q).2
theorem Ext.Ae(j:Inv out B w π H){π':List (Option PB)}{mu:Nat->Prop}(m:Ext B w w mu (aG out π H) π' π):∀b,aG out π H b->mu b:=by
 intro b hb;by_cases h:mu b
 ·exact h
 ·exact((m.keep b (Aa j b hb) h).2 hb).elim
theorem A1{l:List Nat}{n:Nat}{r v:AV}{ws:List (Nat×Blk)}{rd:List Nat}{m:Nat}(hb:qB n l H G r=some (.loc v ws rd m))
  (hlen:H.length+m<=H'.length) (a7:∀b∈rd,b<H.length->H'[b]?=H[b]?) (hI:Inv out B w π H') (hπ:∀j,H.length<=j->j<H.length+m->∀q,π[j]?≠some (some q))
  {u:Value} (E:Ext (Lo w.heap.size) w w' (aG out π (aQ H' (cK H l))) (aG (aG out π (aQ H' (cK H l))) πG G) [] πG) (hG:Inv (aG out π (aQ H' (cK H l))) (Lo w.heap.size) w' πG G)
  (hr:Rv w' (aG (aG out π (aQ H' (cK H l))) πG G) πG r u):
  ∃π',Ext B w w' (aG out π H') (aG out π' (aQ H' ws)) π π'/\Inv out B w' π' (aQ H' ws)/\Rv w' (aG out π' (aQ H' ws)) π' v u/\∀j,(∀b,(j,b)∉ws)->π'[j]?=π[j]?:=by
 unfold qB at hb;split at hb
 ·rename_i a8;cases hb;obtain⟨g1,z⟩:=hI.H5 (w':=w') (fun b hb=>E.low b hb) E.size E.os E.tape E.output E.drawn;exact⟨π,z,g1,vo _ _ a8 hr,fun _ _=>rfl⟩
 ·simp only at hb;split at hb
  ·rename_i new r' a9 a0 a1;cases hb;generalize hσ:List.foldl r8 [] ((nv r).filter fun b=>Cm G[b]?)=σ at*;obtain⟨C,b0,c3,c4,c5⟩:=jI l H' H hI (fun b hb a2=>.inl (a7 b hb a2));generalize b1:aQ H' (cK H l)=Hf at*;obtain⟨b3,b4⟩:=xj σ new a0;rw[xD,b1];obtain⟨e1,e2,e3⟩:=vf new H.length Hf (by omega);have hπl:=C.len;have c0:(σ.map fun b=>(πG[b]?).getD none).length=new.length:=by simp[b3]
   generalize hps:(σ.map fun b=>(πG[b]?).getD none)=ps at*;have ol:=AJ (l:=π) (ps:=ps) (n:=H.length) (by omega);have oi:=fun j (O:j<ps.length)=>Gk (l:=π) (ps:=ps) (n:=H.length) (j:=j) (by omega) O
   have oo:=fun j (O:j<H.length\/H.length+ps.length<=j)=>Ei (l:=π) (ps:=ps) (n:=H.length) (j:=j) (by omega) O
   generalize hπ':AR π H.length ps=π' at*;generalize c1:aQ Hf (kA H.length new)=J at*;have I:∀(k:Nat) (p:PB),ps[k]?=some (some p)->∃b,σ[k]?=some b/\πG[b]?=some (some p):=by
    intro k p h;rw[<-hps,List.getElem?_map]at h;cases hk:σ[k]? with
    |none=>rw[hk]at h;cases h
    |some b=>
     rw[hk]at h;refine⟨b,rfl,?_⟩;cases hb:πG[b]? with
     |none=>simp[hb]at h
     |some q=>simpa [hb]using h
   have a3:∀(i:Nat) (p:PB),π[i]?=some (some p)->π'[i]?=some (some p):=by
    intro i p h;rw[oo i]
    ·exact h
    ·by_cases hi:H.length<=i/\i<H.length+new.length
     ·exact(hπ i hi.1 hi.2 p h).elim
     ·omega
   have key:∀(j:Nat) (x:Blk) (p:PB),J[j]?=some x->π'[j]?=some (some p)->(Hf[j]?=some x/\π[j]?=some (some p))\/
     ∃k b cs cs',j=H.length+k/\σ[k]?=some b/\πG[b]?=some (some p)/\G[b]?=some (.own cs)/\qe (km G (fun b=>!σ.contains b) n) cs=some cs'/\x=.own cs':=by
    intro j x p h1 h2;by_cases O:j<H.length\/H.length+new.length<=j
    ·rw[e3 j O]at h1;rw[oo j (by omega)]at h2;exact .inl ⟨h1,h2⟩
    ·obtain⟨k,rfl⟩:∃k,j=H.length+k:=⟨j-H.length,by omega⟩;rw[oi k (by omega)]at h2;obtain⟨b,D,T⟩:=I k p h2;obtain⟨cs,cs',g1,z,M⟩:=b4 k b D;rw[e2 k (by omega),M]at h1;simp only[Option.map_some,Option.some.injEq]at h1;exact .inr ⟨k,b,cs,cs',rfl,D,T,g1,z,h1.symm⟩
   have N:∀b,aG out π' J b->aG (aG out π Hf) πG G b:=by
    rintro b (h|⟨i,x,p,h1,h2,h3,h4⟩)
    ·exact .inl (.inl h)
    ·rcases key i x p h1 h3 with⟨g1,z⟩|⟨k,U,cs,cs',_,_,M,g4,_,rfl⟩
     ·exact .inl (.inr ⟨i,x,p,g1,h2,z,h4⟩)
     ·exact .inr ⟨U,.own cs,p,g4,rfl,M,h4⟩
   have hL:DG w' (aG (aG out π Hf) πG G) (aG out π' J) πG G (fun b=>!σ.contains b):=by
    intro b p cs b5 a4 hp;refine⟨fT hG a4 hp,?_⟩;have Y:∃y,G[b]?=some y/\y.isLive=true:=by rcases a4 with h|h<;>exact⟨_,h,rfl⟩
    obtain⟨y,hy,a5⟩:=Y;have a6:=(hG.base b y p hy hp a5).1;rintro(h|⟨i,x,q,h1,h2,h3,h4⟩)
    ·exact a6 (C.bound _ (C.out_lt _ h))
    ·rcases key i x q h1 h3 with⟨g1,z⟩|⟨k,U,cs',c2,_,z,M,g4,_,rfl⟩
     ·exact a6 (C.baseO i x q _ g1 z h4).2
     ·refine hG.sepO U b (.own cs') y q p _ ?_ g4 hy M hp rfl h4 (Blk.lJ a5);rintro rfl;have:=List.mem_of_getElem? z;simp[this]at b5
   obtain⟨hA,b6⟩:=C.FH (w':=w') (π':=π') (H':=J) (fun b hb=>E.low b hb) E.size E.os E.tape E.output E.drawn (by omega) a3 (by
    intro j x p h1 h2;rcases key j x p h1 h2 with h|⟨k,b,cs,cs',rfl,g1,z,M,g4,rfl⟩
    ·exact .inl h
    ·refine .inr ?_;obtain⟨D,T⟩:=hG.base b _ p M z rfl;have D:=Nat.le_of_not_lt D;refine⟨rfl,D,T,?_,fun _=>?_⟩
     ·intro i y q c6 k1 k2 k3;rcases key i y q k1 k2 with⟨m1,m2⟩|⟨k',U,ds,c7,rfl,m1,m2,m3,m4,rfl⟩
      ·have:=(C.baseO i y q _ m1 m2 k3).2;omega
      ·have b7:U≠b:=za σ a9 k' k U b (by omega) m1 g1;exact hG.sepO U b _ _ q p _ b7 m3 M m2 z rfl k3 rfl
     ·obtain⟨o1,o2⟩:=hG.ok b _ p M z;exact⟨o1,(sa (fun A v A' hA b8=>pC hL N _ A A' v hA b8) cs cs' _ _ o2 g4).1.lift⟩)
   refine⟨π',b0.trans b6,hA,?_,fun j O=>oo j ?_⟩
   ·refine Ca hL N (ρ:=fun b=>findAt σ b H.length) ?_ n r v u hr a1;intro b c b9 p hp;obtain⟨k,hk,rfl⟩:=wC σ b H.length c b9;have c8:k<σ.length:=aN hk;rw[oi k (by omega),<-hps,List.getElem?_map,hk];simp[hp]
   ·by_cases a2:j<H.length\/H.length+new.length<=j
    ·omega
    ·obtain⟨k,rfl⟩:∃k,j=H.length+k:=⟨j-H.length,by omega⟩;obtain⟨b,hb⟩:=uZ new H.length k (by omega);exact(O b (List.mem_append_right _ hb)).elim
  ·cases hb
end
end Go.Eng

