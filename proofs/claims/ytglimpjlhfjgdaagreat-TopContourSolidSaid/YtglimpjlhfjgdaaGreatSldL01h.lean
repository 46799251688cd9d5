import Derived.Test.YtglimpjlhfjgdaaGreatSldL01k
set_option linter.all false
namespace Go.L
open Go Go.Eng
theorem ym{k:Nat}(h:1<k)(h2:k<=4000000000):MR ((k:Int)-2)=((k-2:Nat):Int):=by rw[wrap64_in (by omega) (by omega)];omega
theorem uM{l:List Int}{k j:Nat}{x:Int}(h:j<=k):vk (l.set k x) j=vk l j:=by unfold vk;rw[List.take_set_of_le h]
def ER(v j:List Int)(m:Nat)(r:List Int×List Int):Prop:=Dig r.1/\Dig r.2/\r.1.length=m/\r.2.length=j.length/\vl r.2<vl v/\vl r.2+vl r.1*vl v=vl j
theorem GI{n:Nat}(hn:1000<=n){v u0:List Int}{m:Nat}(hv:Dig v)(j2:500000000<=v.getD (v.length-1) 0)(lv:2<=v.length)(e4:v.length<=400)(hu:Dig u0)(lu:u0.length=v.length+m)(k4:u0.length<=900)(h0:vl (u0.drop m)<vl v){j0:Int}(j3:j0=(m:Int)-1):
  Ok (aQ (α:=List Int×List Int×Int) (β:=List Int×List Int) n (fun b7 (b8,b1,p)=>(
   cdO (decide (p>=0)) (
    bdO (fM n b1 (MR (p+(v.length:Int)))) fun e5=>(
    gdO (inR (MR ((MR (p+(v.length:Int)))-1)) b1.length) (
    gdO (inR (MR ((v.length:Int)-1)) v.length) (
    gdO (!decide (aa .u64 (gt v (MR ((v.length:Int)-1)))=0)) (
    bdO (aQ (α:=Int×Int) (β:=Int) n (fun b3 (I,O)=>(
     cdO (decide (I>=1000000000)) (
      cdO (decide ((aa .u64 (O+(aa .u64 (gt v (MR ((v.length:Int)-1))))))>=1000000000)) (
       some (aa .u64 (I-1))
      ) (
       b3 (aa .u64 (I-1),aa .u64 (O+(aa .u64 (gt v (MR ((v.length:Int)-1))))))
      )
     ) (
      gdO (inR (MR ((v.length:Int)-2)) v.length) (
      gdO (inR (MR ((MR (p+(v.length:Int)))-2)) b1.length) (
      cdO (decide ((aa .u64 (I*(aa .u64 (gt v (MR ((v.length:Int)-2))))))>(aa .u64 ((aa .u64 (O*1000000000))+(aa .u64 (gt b1 (MR ((MR (p+(v.length:Int)))-2)))))))) (
       cdO (decide ((aa .u64 (O+(aa .u64 (gt v (MR ((v.length:Int)-1))))))>=1000000000)) (
        some (aa .u64 (I-1))
       ) (
        b3 (aa .u64 (I-1),aa .u64 (O+(aa .u64 (gt v (MR ((v.length:Int)-1))))))
       )
      ) (
       some (I)
      )
      )
      )
     )
    )) (aa .u64 ((aa .u64 ((aa .u64 ((aa .u64 e5)*1000000000))+(aa .u64 (gt b1 (MR ((MR (p+(v.length:Int)))-1)))))).tdiv (aa .u64 (gt v (MR ((v.length:Int)-1))))),(aa .u64 ((aa .u64 ((aa .u64 e5)*1000000000))+(aa .u64 (gt b1 (MR ((MR (p+(v.length:Int)))-1)))))).tmod (aa .u64 (gt v (MR ((v.length:Int)-1)))))) fun C=>(
     bdO (aQ (α:=List Int×Int×Int×Int) (β:=List Int×Int×Int) n (fun b4 (U,N,J,E)=>(
      cdO (decide (E<(v.length:Int))) (
       gdO (inR E v.length) (
       gdO (inR (MR (E+p)) U.length) (
       cdO (decide ((MR ((MR ((MR (gt U (MR (E+p))))-N))-(MR ((aa .u64 ((aa .u64 (C*(aa .u64 (gt v E))))+J)).tmod 1000000000))))<0)) (
        b4 (U.set (MR (E+p)).toNat (aa .u32 (MR ((MR ((MR ((MR (gt U (MR (E+p))))-N))-(MR ((aa .u64 ((aa .u64 (C*(aa .u64 (gt v E))))+J)).tmod 1000000000))))+1000000000))),1,aa .u64 ((aa .u64 ((aa .u64 (C*(aa .u64 (gt v E))))+J)).tdiv 1000000000),MR (E+1))
       ) (
        b4 (U.set (MR (E+p)).toNat (aa .u32 (MR ((MR ((MR (gt U (MR (E+p))))-N))-(MR ((aa .u64 ((aa .u64 (C*(aa .u64 (gt v E))))+J)).tmod 1000000000))))),0,aa .u64 ((aa .u64 ((aa .u64 (C*(aa .u64 (gt v E))))+J)).tdiv 1000000000),MR (E+1))
       )
       )
       )
      ) (
       some ((U,N,J))
      )
     )) (b1,0,0,0)) fun e6=>(
      match e6 with
      |(b0,T,Y)=>(
       gdO (inR (MR (p+(v.length:Int))) b0.length) (
       cdO (decide ((MR ((MR ((MR (gt b0 (MR (p+(v.length:Int)))))-T))-(MR Y)))<0)) (
        bdO (aQ (α:=List Int×Int×Int) (β:=List Int×Int) n (fun b5 (a7,b6,M)=>(
         cdO (decide (M<(v.length:Int))) (
          gdO (inR (MR (M+p)) a7.length) (
          gdO (inR M v.length) (
          cdO (decide ((aa .u32 ((aa .u32 ((gt a7 (MR (M+p)))+(gt v M)))+b6))>=1000000000)) (
           b5 (a7.set (MR (M+p)).toNat (aa .u32 ((aa .u32 ((aa .u32 ((gt a7 (MR (M+p)))+(gt v M)))+b6))-1000000000)),1,MR (M+1))
          ) (
           b5 (a7.set (MR (M+p)).toNat (aa .u32 ((aa .u32 ((gt a7 (MR (M+p)))+(gt v M)))+b6)),0,MR (M+1))
          )
          )
          )
         ) (
          some ((a7,b6))
         )
        )) (b0.set (MR (p+(v.length:Int))).toNat (aa .u32 (MR ((MR ((MR ((MR (gt b0 (MR (p+(v.length:Int)))))-T))-(MR Y)))+1000000000))),0,0)) fun e7=>(
         match e7 with
         |(c0,c8)=>(
          gdO (inR (MR (p+(v.length:Int))) c0.length) (
          gdO (inR p b8.length) (
          b7 (b8.set p.toNat (aa .u32 (aa .u64 (C-1))),c0.set (MR (p+(v.length:Int))).toNat ((aa .u32 ((gt c0 (MR (p+(v.length:Int))))+c8)).tmod 1000000000),MR (p-1))
          )
          )
         ))
       ) (
        gdO (inR p b8.length) (
        b7 (b8.set p.toNat (aa .u32 C),b0.set (MR (p+(v.length:Int))).toNat (aa .u32 (MR ((MR ((MR (gt b0 (MR (p+(v.length:Int)))))-T))-(MR Y)))),MR (p-1))
        )
       )
       )
      ))
    )
    )
    )
    )
    )
   ) (
    some ((b8,b1))
   )
  )) (List.replicate m (0:Int),u0,j0)) (ER v u0 m):=by
 subst j3;have hV:=bM hv;refine fu (fun x:List Int×List Int×Int=>∃k:Nat,x.2.2=(k:Int)-1/\k<=m/\x.2.1.length=u0.length/\Dig x.2.1/\x.1.length=m/\Dig x.1/\(∀i,i<k->x.1.getD i 0=0)/\vl (x.2.1.drop k)<vl v/\vl x.2.1+vl x.1*vl v=vl u0) (fun x=>(x.2.2+1).toNat) ?_ n _
  ⟨m,rfl,Nat.le_refl _,rfl,hu,by simp,vN _,fun i _=>EC,h0,by simp[B1]⟩ (by simp;omega)
 rintro again ⟨q,u,x⟩ ⟨k,hx,h1,h2,h3,h4,h5,h6,h7,h8⟩ ih;simp only at hx h2 h3 h4 h5 h6 h7 h8;subst hx;dsimp only;refine Ok.cd (fun h=>?_) (fun h=>?_)
 ·have hk:=dcT h;obtain⟨j,rfl⟩:∃j,k=j+1:=⟨k-1,by omega⟩;have ej:(((j+1:Nat):Int)-1)=(j:Int):=by omega
  rw[ej];rw[qE (k:=v.length) (by omega) (by omega),qh (k:=j+v.length) (by omega) (by omega),ym (k:=j+v.length) (by omega) (by omega),qh (k:=v.length) (by omega) (by omega),ym (k:=v.length) (by omega) (by omega),Dh];rw[iJ (l:=v) (k:=v.length-1),iJ (l:=v) (k:=v.length-2),iJ (l:=u) (k:=j+v.length-1),iJ (l:=u) (k:=j+v.length-2)];refine Ok.bde rfl ?_;have j4:vl (u.drop j)<1000000000*vl v:=by
   have:=lp u j;have:=fj h3 j;omega
  have kn:=Kn (X:=u.drop j) lv (iU h3 j) hv rfl j2 j4;rw[ot,ot,ot,(by omega:j+(v.length-2)=j+v.length-2),(by omega:j+(v.length-1)=j+v.length-1)]at kn;have d0:=fj h3 (j+v.length-2);have d1:=fj h3 (j+v.length-1);have d2:=fj h3 (j+v.length);have e1:=fj hv (v.length-1);have e2:=fj hv (v.length-2);refine Ok.gd (by rw[bf];simp;omega) (Ok.gd (by rw[bf];simp;omega) ?_);rw[ba (n:=v.getD (v.length-1) 0) (by omega) (by omega),ba (n:=v.getD (v.length-2) 0) (by omega) (by omega),ba (n:=u.getD (j+v.length-2) 0) (by omega) (by omega),ba (n:=u.getD (j+v.length-1) 0) (by omega) (by omega),ba (n:=u.getD (j+v.length) 0) (by omega) (by omega),
   ba (n:=u.getD (j+v.length) 0*1000000000) (by omega) (by omega),ba (n:=u.getD (j+v.length) 0*1000000000+u.getD (j+v.length-1) 0) (by omega) (by omega)]
  refine Ok.gd (by rw[decide_eq_false (by omega)];rfl) ?_;have e8:u.getD (j+v.length) 0*1000000000+u.getD (j+v.length-1) 0=u.getD (j+v.length-1) 0+1000000000*u.getD (j+v.length) 0:=by omega
  rw[e8,(wN (by omega)).1,(wN (by omega)).2,ba (n:=_ / _) (Int.ediv_nonneg (by omega) (by omega)) (Int.le_trans (Int.ediv_le_self _ (by omega)) (by omega))];refine Ok.bd (FQ hn kn rfl rfl (by omega) (by omega)) fun g hg=>?_
  obtain⟨g0,g1,g2,g3⟩:=hg;refine Ok.bd (Jc hn hv h3 ⟨g0,g1⟩ e4 (by omega) (by omega)) ?_;rintro⟨u1,bo,ca⟩ ⟨s1,s2,s3,s4,s5,s6,s7⟩;simp only at s1 s2 s3 s4 s5 s6 s7;dsimp only;refine Ok.gd (by rw[bf];simp;omega) ?_;have c9:=s5 (j+v.length) (by omega);rw[iJ,c9,wrap64_in (n:=u.getD (j+v.length) 0) (by omega) (by omega),wrap64_in (n:=u.getD (j+v.length) 0-bo) (by omega) (by omega),wrap64_in (n:=ca) (by omega) (by omega),wrap64_in (n:=u.getD (j+v.length) 0-bo-ca) (by omega) (by omega),Int.toNat_natCast,Int.toNat_natCast];have hzero:∀t,j+v.length+1<=t->u.getD t 0=0:=fun t ht=>CR h3 (t:=j+1+v.length) (by
   have:=nD (iU h3 (j+1)) (k:=v.length) (Int.lt_trans h7 (jn hv));rw[List.drop_drop]at this;exact this) t (by omega)
  have hW:=bM (iU h3 j);have last:∀(z:List Int) (d:Int),z.length=u0.length->Dig z->(0<=d/\d<1000000000)->vl z=vl u-pB j*(d*vl v)->vl (z.drop j)<vl v->Ok (again (q.set j d,z,(((j:Nat):Int)-1))) (ER v u0 m):=by
   intro z d j5 a8 hd j6 b9;refine ih _ ⟨j,rfl,by omega,j5,a8,by simpa using h4,kR h5 hd,?_,b9,?_⟩ (by simp)
   ·intro i hi;simp only;rw[kq (by omega)];exact h6 i (by omega)
   ·simp only;rw[pn (by omega),h6 j (by omega),j6];grind
  have c7:MR ((j:Int)-1)=(j:Int)-1:=wrap64_in (by omega) (by omega);refine Ok.cd (fun h=>?_) (fun h=>?_)
  ·have k2:=dcT h;rw[wrap64_in (n:=u.getD (j+v.length) 0-bo-ca+1000000000) (by omega) (by omega),bP (n:=u.getD (j+v.length) 0-bo-ca+1000000000) (by omega) (by omega)];obtain⟨z2,a8⟩:∃z2,u1.set (j+v.length) (u.getD (j+v.length) 0-bo-ca+1000000000)=z2:=⟨_,rfl⟩;rw[a8];have l2:z2.length=u0.length:=by rw[<-a8];simp;omega
   have c5:Dig z2:=by rw[<-a8];exact kR s2 (by omega)
   have c3:vl z2=vl u+pB j*(pB (v.length+1)-g*vl v):=by
    rw[<-a8,pn (by omega),s7,c9,lN j v.length,dN v.length];grind
   have c6:vk z2 j=vk u j:=by rw[<-a8,uM (by omega)];exact s6
   have e9:∀t,j+v.length+1<=t->z2.getD t 0=0:=fun t ht=>by rw[<-a8,kq (by omega),s5 t (by omega)];exact hzero t ht
   have w2:=BW c6 c3;have k5:=win c5 e9;have j7:vl (u.drop j)<g*vl v:=by omega
   have j8:1<=g:=by
    by_cases hh:g=0
    ·rw[hh]at j7;omega
    ·omega
   have k6:=g3 j8;refine Ok.bd (Jb hn hv c5 e4 (by omega) (by omega)) ?_;rintro⟨u3,c⟩ ⟨a1,a2,a3,a4,a5,a6⟩;simp only at a1 a2 a3 a4 a5 a6;dsimp only;refine Ok.gd (by rw[bf];simp;omega) (Ok.gd (by rw[bf];simp;omega) ?_);have k7:=a4 (j+v.length) (by omega);have k8:z2.getD (j+v.length) 0=u.getD (j+v.length) 0-bo-ca+1000000000:=by rw[<-a8,Fj (by omega)]
   rw[iJ,ba (n:=g-1) (by omega) (by omega),bP (n:=g-1) (by omega) (by omega),bP (n:=u3.getD (j+v.length) 0+c) (by omega) (by omega),(wN (by omega)).2,c7];obtain⟨o,ho⟩:∃o,(u3.getD (j+v.length) 0+c) / 1000000000=o:=⟨_,rfl⟩;have h9:(u3.getD (j+v.length) 0+c)%1000000000=u3.getD (j+v.length) 0+c-1000000000*o:=by omega
   have c4:o=0\/o=1:=by omega
   obtain⟨z4,b9⟩:∃z4,u3.set (j+v.length) ((u3.getD (j+v.length) 0+c)%1000000000)=z4:=⟨_,rfl⟩;rw[b9];have l4:z4.length=u0.length:=by rw[<-b9];simp;omega
   have j1:Dig z4:=by rw[<-b9];exact kR a2 (by omega)
   have e3:vl z4=vl u+pB j*(pB (v.length+1)*(1-o)-(g-1)*vl v):=by
    rw[<-b9,pn (by omega),a6,c3,h9,lN j v.length,dN v.length];grind
   have j9:vk z4 j=vk u j:=by rw[<-b9,uM (by omega)];exact a5.trans c6
   have k0:∀t,j+v.length+1<=t->z4.getD t 0=0:=fun t ht=>by rw[<-b9,kq (by omega),a4 t (by omega)];exact e9 t ht
   have w4:=BW j9 e3;have k9:=win j1 k0;have k1:o=1:=by
    rcases c4 with c4|c4
    ·rw[c4]at w4;omega
    ·exact c4
   rw[k1]at w4 e3;have eg:(g-1)*vl v=g*vl v-vl v:=by grind
   exact last z4 (g-1) l4 j1 (by omega) (by rw[e3];grind) (by omega)
  ·have k3:=dcF h;rw[bP (n:=u.getD (j+v.length) 0-bo-ca) (by omega) (by omega),bP (n:=g) (by omega) (by omega),c7];refine Ok.gd (by rw[bf];simp;omega) ?_;obtain⟨z2,a8⟩:∃z2,u1.set (j+v.length) (u.getD (j+v.length) 0-bo-ca)=z2:=⟨_,rfl⟩;rw[a8];have l2:z2.length=u0.length:=by rw[<-a8];simp;omega
   have c5:Dig z2:=by rw[<-a8];exact kR s2 (by omega)
   have c3:vl z2=vl u-pB j*(g*vl v):=by
    rw[<-a8,pn (by omega),s7,c9,lN j v.length];grind
   have c6:vk z2 j=vk u j:=by rw[<-a8,uM (by omega)];exact s6
   have w2:=BW (D:=-(g*vl v)) c6 (by rw[c3];grind);have eg:(g+1)*vl v=g*vl v+vl v:=by grind
   exact last z2 g l2 c5 ⟨g0,g1⟩ c3 (by omega)
 ·have hk:=dcF h;obtain rfl:k=0:=by omega
  exact aC.2 ⟨h5,h3,h4,h2,by simpa using h7,h8⟩
end Go.L


set_option linter.all false
namespace Go.L
open Go Go.Eng
theorem yn{d:Int}(p:0<d)(z:d<=1000000000):∀{l:List Int},Dig l->Dig (bW d l).1/\(bW d l).1.length=l.length/\(0<=(bW d l).2/\(bW d l).2<d)/\vl (bW d l).1*d+(bW d l).2=vl l
 |[],_=>⟨tK,rfl,⟨Int.le_refl _,p⟩,by show 0*d+0=0;omega⟩
 |g::l,h=>by
  have M:=ig.1 h;obtain⟨h1,h2,N,J⟩:=yn p z M.2;unfold bW;rcases C:bW d l with⟨q,r⟩;simp only[C]at h1 h2 N J ⊢;have m0:r*1000000000<=(d-1)*1000000000:=by omega
  rw[ba (n:=r*1000000000) (by omega) (by omega),ba (n:=g) (by omega) (by omega),ba (n:=r*1000000000+g) (by omega) (by omega)];generalize hs:r*1000000000+g=s;have j:0<=s:=by omega
  rw[(wN j).1,(wN j).2];have hm:=Int.emod_add_mul_ediv s d;have D:=Int.emod_nonneg s (by omega:d≠0);have E:=Int.emod_lt_of_pos s p;have m:0<=s / d:=Int.ediv_nonneg j (by omega);have I:s / d<1000000000:=(Int.ediv_lt_iff_lt_mul p).2 (by omega);rw[ba m (by omega),bP m (by omega)];refine⟨ig.2 ⟨⟨m,I⟩,h1⟩,by simp[h2],⟨D,E⟩,?_⟩;show(s / d+1000000000*vl q)*d+s%d=g+1000000000*vl l;rw[<-J];grind
theorem AZ:∀{l:List Int},Dig l->Can (nL l)/\vl (nL l)=vl l
 |[],_=>⟨trivial,rfl⟩
 |d::l,h=>by
  have j:=ig.1 h;obtain⟨h1,h2⟩:=AZ j.2;unfold nL;show _/\_=d+1000000000*vl l;rw[<-h2];cases p:nL l with
  |nil=>
   simp only;split
   ·rename_i m;have:d=0:=by simpa using m
    subst this;exact⟨trivial,rfl⟩
   ·rename_i m;have:d≠0:=by simpa using m
    exact⟨⟨j.1,fun _=>this,trivial⟩,rfl⟩
  |cons e r=>
   rw[p]at h1;exact⟨⟨j.1,fun h=>by simp at h,h1⟩,rfl⟩
theorem tx{n:Nat}{a:List Int}{d:Int}(p:Dig a)(C:a.length<=900)(q:0<d)(j:d<=1000000000):Ok (eH n a d) fun r=>Can r.1/\(0<=r.2/\r.2<d)/\vl r.1*d+r.2=vl a:=by
 unfold eH;obtain⟨h1,h2,m,z⟩:=yn q j p;obtain⟨t1,t2⟩:=AZ h1;refine Ok.gd (by simp;omega) (Ok.gd (by simp;omega) (Ok.gd (by simp;omega) (aC.2 ?_)));simp only;rw[bP m.1 (by omega),t2];exact⟨t1,m,z⟩
theorem wZ(n:Nat)(a b:List Int):iu n a b=iF n a b:=rfl
theorem Dc{b:List Int}(j:Can b)(lb:1<=b.length):1<=b.getD (b.length-1) 0/\b.getD (b.length-1) 0<1000000000/\pB (b.length-1)*b.getD (b.length-1) 0<=vl b/\vl b<pB (b.length-1)*(b.getD (b.length-1) 0+1):=by
 have h1:=xf j (by rintro rfl;simp at lb);have h2:=fj j.dig (b.length-1);have e:=iQ b (b.length-1);have e2:=lp b (b.length-1);rw[List.drop_of_length_le (by omega:b.length<=b.length-1+1)]at e2;have p:vl ([]:List Int)=0:=rfl;have m:vl (b.drop (b.length-1))=b.getD (b.length-1) 0:=by omega
 rw[m]at e;have q:=ou j.dig (b.length-1);have z:=Dq j.dig (b.length-1);refine⟨by omega,h2.2,by omega,?_⟩;rw[Int.mul_add];omega
theorem Hm{n:Nat}{a b:List Int}(C:1000<=n)(Y:Can a)(hb:Can b)(lb:2<=b.length)(la:a.length<=300)(b1:b.length<=300)(hle:vl b<=vl a):Ok (hU n a b) fun r=>Can r.1/\Can r.2/\vl r.2<vl b/\vl r.1*vl b+vl r.2=vl a:=by
 unfold hU;obtain⟨t1,t2,t3,t4⟩:=Dc hb (by omega);rw[qh (k:=b.length) (by omega) (by omega),iJ];obtain⟨t,ht⟩:∃t,b.getD (b.length-1) 0=t:=⟨_,rfl⟩;rw[ht]at t1 t2 t3 t4 ⊢;rw[ba (n:=t) (by omega) (by omega),ba (n:=t+1) (by omega) (by omega),(wN (by omega:(0:Int)<=1000000000)).1];obtain⟨s,hs⟩:∃s,(1000000000:Int) / (t+1)=s:=⟨_,rfl⟩;obtain⟨s1,s2,s3,s4⟩:=Ay t1 t2 hs.symm;rw[hs,ba (n:=s) (by omega) (by omega),bP (n:=s) (by omega) (by omega)];refine Ok.gd (by rw[bf];simp;omega) (Ok.gd (by rw[decide_eq_false (by omega)];rfl) ?_);have D:Dig [s]:=kV.2 (by omega);rw[wZ,wZ];refine Ok.bd (wC C Y.dig D (by omega) (by simp)) ?_;rintro u ⟨u1,u2⟩;refine Ok.bd (wC C hb.dig D (by omega) (by simp)) ?_;rintro v ⟨v1,v2⟩;rw[lK]at u2 v2;have hp:=jo (b.length-1);have ep:pB b.length=1000000000*pB (b.length-1):=by rw[<-dN,(by omega:b.length-1+1=b.length)]
 have E:vl v<pB b.length:=by
  have:vl b*s<=(pB (b.length-1)*(t+1)-1)*s:=mrT (by omega) (by omega);have e:(pB (b.length-1)*(t+1)-1)*s=pB (b.length-1)*((t+1)*s)-s:=by grind
  have:pB (b.length-1)*((t+1)*s)<=pB (b.length-1)*1000000000:=mlT s4 (by omega);omega
 have a8:500000000*pB (b.length-1)<=vl v:=by
  have h1:(pB (b.length-1)*t)*s<=vl b*s:=mrT t3 (by omega);have e:(pB (b.length-1)*t)*s=pB (b.length-1)*(t*s):=by grind
  have h2:pB (b.length-1)*500000000<=pB (b.length-1)*(t*s):=mlT s1 (by omega);omega
 have lv:v.length=b.length:=by
  have h1:=pt v1 E;by_cases h:v.length=b.length
  ·exact h
  ·have h2:=jn v1.dig;have h3:=jy (by omega:v.length<=b.length-1);omega
 have a1:500000000<=v.getD (v.length-1) 0:=by
  obtain⟨c1,c2,c3,c4⟩:=Dc v1 (by omega);rw[lv]at c4 ⊢;by_cases h:500000000<=v.getD (b.length-1) 0
  ·exact h
  ·have:pB (b.length-1)*(v.getD (b.length-1) 0+1)<=pB (b.length-1)*500000000:=mlT (by omega) (by omega);omega
 have lu:u.length<=a.length+1:=pt u1 (by
  have h1:=jn Y.dig;have h2:=bM Y.dig;rw[u2,dN];have:vl a*s<=vl a*1000000000:=mlT (by omega) h2;omega)
 have b3:v.length<=u.length:=by
  by_cases h:v.length<=u.length
  ·exact h
  ·have:=fF u1.dig v1 (by omega);have:vl b*s<=vl a*s:=mrT hle (by omega);omega
 have fin:∀(I:List Int) (m:Nat) (q r:List Int),vl I=vl u->I.length=v.length+m->I.length<=900->ER v I m (q,r)->
   Ok (gdO (inS 0 (v.length:Int) r.length) (bdO (dC n (r.take (v.length:Int).toNat)) fun J=>bdO (eH n J s) fun M=>bdO (dC n q) fun N=>some ((N,M.1)))) fun r=>Can r.1/\Can r.2/\vl r.2<vl b/\vl r.1*vl b+vl r.2=vl a:=by
  rintro I m q r e0 e1 e2 ⟨q1,O,q3,q4,T,q6⟩;simp only at q1 O q3 q4 T q6;refine Ok.gd (CX.2 (by omega)) ?_;rw[Int.toNat_natCast];have hz:∀k,v.length<=k->r.getD k 0=0:=CR O (nD O (Int.lt_trans T (jn v1.dig)));refine Ok.bd (qO C (tb O _) (by rw[List.length_take];omega)) ?_;rintro w ⟨w1,p⟩;rw[BG (by omega) hz]at p;have lw:w.length<=900:=by
   have:=pt w1 (k:=v.length) (by rw[p];exact Int.lt_trans T (jn v1.dig));omega
  refine Ok.bd (tx w1.dig lw (by omega) (by omega)) ?_;rintro⟨y,c⟩ ⟨y1,y2,U⟩;simp only at y1 y2 U;refine Ok.bd (qO C q1 (by omega)) ?_;rintro z ⟨z1,z2⟩;refine aC.2 ⟨z1,y1,?_,?_⟩;all_goals simp only
  ·
   have hmul:(vl y*s+c)+vl q*(vl b*s)=vl a*s:=by rw[U,p,<-v2,<-u2,<-e0];exact q6
   have a6:vl y*s<vl b*s:=by
    have:vl y*s+c<vl b*s:=by rw[U,p,<-v2];exact T
    omega
   exact Int.lt_of_mul_lt_mul_right a6 (by omega)
  ·have hmul:(vl y*s+c)+vl q*(vl b*s)=vl a*s:=by rw[U,p,<-v2,<-u2,<-e0];exact q6
   have e:c=(vl a-vl y-vl q*vl b)*s:=by grind
   have b4:vl a-vl y-vl q*vl b=0:=by
    by_cases h1:vl a-vl y-vl q*vl b=0
    ·exact h1
    ·exfalso;by_cases h2:1<=vl a-vl y-vl q*vl b
     ·have:1*s<=(vl a-vl y-vl q*vl b)*s:=mrT h2 (by omega);omega
     ·have:(vl a-vl y-vl q*vl b)*s<=(-1)*s:=mrT (by omega) (by omega);omega
   rw[z2];omega
 have b0:pB (v.length-1)<=vl v:=by rw[lv];omega
 have j:∀(w:List Int) (m:Nat),Dig w->w.length+1=v.length+m->vl ((w++[0]).drop m)<vl v:=by
  intro w m hw hl;have e:(w++[0]).drop m=w.drop m++[0]:=by rw[List.drop_append_of_le_length (by omega)]
  rw[e,pW,lK];have h1:=jn (iU hw m);rw[List.length_drop,(by omega:w.length-m=v.length-1)]at h1;omega
 refine Ok.gd (by simp;omega) (Ok.gd (by simp;omega) ?_);have d1:Dig (u++[0]):=tL.2 ⟨u1.dig,kV.2 (by omega)⟩;have e1:vl (u++[0])=vl u:=by rw[pW,lK];omega
 have l1:(u++[(0:Int)]).length=u.length+1:=by simp
 have d2:Dig ((u++[0])++[0]):=tL.2 ⟨d1,kV.2 (by omega)⟩;have e2:vl ((u++[0])++[0])=vl u:=by rw[pW,lK,e1];omega
 have l2:((u++[(0:Int)])++[(0:Int)]).length=u.length+2:=by simp
 refine Ok.bd (R:=fun w=>Dig w/\vl w=vl u/\v.length<=w.length/\w.length<=900/\vl (w.drop (w.length-v.length))<vl v) ?_ ?_
 ·refine Ok.cd (fun h=>?_) (fun h=>aC.2 ?_)
  ·refine Ok.gd (by simp;omega) (Ok.gd (by simp;omega) (aC.2 ⟨d2,e2,by omega,by omega,?_⟩));exact j _ _ d1 (by omega)
  ·exact⟨d1,e1,by omega,by omega,j _ _ u1.dig (by omega)⟩
 rintro w ⟨w1,p,w3,w4,w5⟩;have hw:MR ((w.length:Int)-(v.length:Int))=((w.length-v.length:Nat):Int):=by rw[wrap64_in (by omega) (by omega)];omega
 rw[hw,Int.toNat_natCast];refine Ok.gd (by simp;try omega) (Ok.gd (by simp;try omega) (Ok.gd (by simp;try omega) ?_));refine Ok.bd (GI C v1.dig a1 (by omega) (by omega) w1 (m:=w.length-v.length) (by omega) (by omega) w5 (by rw[wrap64_in (by omega) (by omega)])) ?_;rintro⟨q,r⟩ a7;exact fin _ _ q r p (by omega) (by omega) a7
end Go.L

