import Derived.Test.YtlhnaccgnegjdaaGreatNesL01k
set_option linter.all false
namespace Go.L
open Go Go.Eng
theorem yY{k:Nat}(h:1<k)(h2:k<=4000000000):Jy ((k:Int)-2)=((k-2:Nat):Int):=by rw[wrap64_in (by omega) (by omega)];omega
theorem vu{l:List Int}{k j:Nat}{x:Int}(h:j<=k):vk (l.set k x) j=vk l j:=by unfold vk;rw[List.take_set_of_le h]
def Fo(v j:List Int)(m:Nat)(r:List Int×List Int):Prop:=Dig r.1/\Dig r.2/\r.1.length=m/\r.2.length=j.length/\vl r.2<vl v/\vl r.2+vl r.1*vl v=vl j
theorem F3{n:Nat}(hn:1000<=n){v u0:List Int}{m:Nat}(hv:Dig v)(e8:500000000<=v.getD (v.length-1) 0)(lv:2<=v.length)(c7:v.length<=400)(hu:Dig u0)(lu:u0.length=v.length+m)(j4:u0.length<=900)(h0:vl (u0.drop m)<vl v){j0:Int}(e9:j0=(m:Int)-1):
  Ok (aJ (α:=List Int×List Int×Int) (β:=List Int×List Int) n (fun b5 (b6,a9,p)=>(
   cdO (decide (p>=0)) (
    bdO (gI n a9 (Jy (p+(v.length:Int)))) fun c8=>(
    gdO (inR (Jy ((Jy (p+(v.length:Int)))-1)) a9.length) (
    gdO (inR (Jy ((v.length:Int)-1)) v.length) (
    gdO (!decide (aa .u64 (gt v (Jy ((v.length:Int)-1)))=0)) (
    bdO (aJ (α:=Int×Int) (β:=Int) n (fun b0 (I,O)=>(
     cdO (decide (I>=1000000000)) (
      cdO (decide ((aa .u64 (O+(aa .u64 (gt v (Jy ((v.length:Int)-1))))))>=1000000000)) (
       some (aa .u64 (I-1))
      ) (
       b0 (aa .u64 (I-1),aa .u64 (O+(aa .u64 (gt v (Jy ((v.length:Int)-1))))))
      )
     ) (
      gdO (inR (Jy ((v.length:Int)-2)) v.length) (
      gdO (inR (Jy ((Jy (p+(v.length:Int)))-2)) a9.length) (
      cdO (decide ((aa .u64 (I*(aa .u64 (gt v (Jy ((v.length:Int)-2))))))>(aa .u64 ((aa .u64 (O*1000000000))+(aa .u64 (gt a9 (Jy ((Jy (p+(v.length:Int)))-2)))))))) (
       cdO (decide ((aa .u64 (O+(aa .u64 (gt v (Jy ((v.length:Int)-1))))))>=1000000000)) (
        some (aa .u64 (I-1))
       ) (
        b0 (aa .u64 (I-1),aa .u64 (O+(aa .u64 (gt v (Jy ((v.length:Int)-1))))))
       )
      ) (
       some (I)
      )
      )
      )
     )
    )) (aa .u64 ((aa .u64 ((aa .u64 ((aa .u64 c8)*1000000000))+(aa .u64 (gt a9 (Jy ((Jy (p+(v.length:Int)))-1)))))).tdiv (aa .u64 (gt v (Jy ((v.length:Int)-1))))),(aa .u64 ((aa .u64 ((aa .u64 c8)*1000000000))+(aa .u64 (gt a9 (Jy ((Jy (p+(v.length:Int)))-1)))))).tmod (aa .u64 (gt v (Jy ((v.length:Int)-1)))))) fun C=>(
     bdO (aJ (α:=List Int×Int×Int×Int) (β:=List Int×Int×Int) n (fun b1 (U,N,J,E)=>(
      cdO (decide (E<(v.length:Int))) (
       gdO (inR E v.length) (
       gdO (inR (Jy (E+p)) U.length) (
       cdO (decide ((Jy ((Jy ((Jy (gt U (Jy (E+p))))-N))-(Jy ((aa .u64 ((aa .u64 (C*(aa .u64 (gt v E))))+J)).tmod 1000000000))))<0)) (
        b1 (U.set (Jy (E+p)).toNat (aa .u32 (Jy ((Jy ((Jy ((Jy (gt U (Jy (E+p))))-N))-(Jy ((aa .u64 ((aa .u64 (C*(aa .u64 (gt v E))))+J)).tmod 1000000000))))+1000000000))),1,aa .u64 ((aa .u64 ((aa .u64 (C*(aa .u64 (gt v E))))+J)).tdiv 1000000000),Jy (E+1))
       ) (
        b1 (U.set (Jy (E+p)).toNat (aa .u32 (Jy ((Jy ((Jy (gt U (Jy (E+p))))-N))-(Jy ((aa .u64 ((aa .u64 (C*(aa .u64 (gt v E))))+J)).tmod 1000000000))))),0,aa .u64 ((aa .u64 ((aa .u64 (C*(aa .u64 (gt v E))))+J)).tdiv 1000000000),Jy (E+1))
       )
       )
       )
      ) (
       some ((U,N,J))
      )
     )) (a9,0,0,0)) fun c9=>(
      match c9 with
      |(a8,T,Y)=>(
       gdO (inR (Jy (p+(v.length:Int))) a8.length) (
       cdO (decide ((Jy ((Jy ((Jy (gt a8 (Jy (p+(v.length:Int)))))-T))-(Jy Y)))<0)) (
        bdO (aJ (α:=List Int×Int×Int) (β:=List Int×Int) n (fun b3 (a0,b4,M)=>(
         cdO (decide (M<(v.length:Int))) (
          gdO (inR (Jy (M+p)) a0.length) (
          gdO (inR M v.length) (
          cdO (decide ((aa .u32 ((aa .u32 ((gt a0 (Jy (M+p)))+(gt v M)))+b4))>=1000000000)) (
           b3 (a0.set (Jy (M+p)).toNat (aa .u32 ((aa .u32 ((aa .u32 ((gt a0 (Jy (M+p)))+(gt v M)))+b4))-1000000000)),1,Jy (M+1))
          ) (
           b3 (a0.set (Jy (M+p)).toNat (aa .u32 ((aa .u32 ((gt a0 (Jy (M+p)))+(gt v M)))+b4)),0,Jy (M+1))
          )
          )
          )
         ) (
          some ((a0,b4))
         )
        )) (a8.set (Jy (p+(v.length:Int))).toNat (aa .u32 (Jy ((Jy ((Jy ((Jy (gt a8 (Jy (p+(v.length:Int)))))-T))-(Jy Y)))+1000000000))),0,0)) fun e3=>(
         match e3 with
         |(b8,c4)=>(
          gdO (inR (Jy (p+(v.length:Int))) b8.length) (
          gdO (inR p b6.length) (
          b5 (b6.set p.toNat (aa .u32 (aa .u64 (C-1))),b8.set (Jy (p+(v.length:Int))).toNat ((aa .u32 ((gt b8 (Jy (p+(v.length:Int))))+c4)).tmod 1000000000),Jy (p-1))
          )
          )
         ))
       ) (
        gdO (inR p b6.length) (
        b5 (b6.set p.toNat (aa .u32 C),a8.set (Jy (p+(v.length:Int))).toNat (aa .u32 (Jy ((Jy ((Jy (gt a8 (Jy (p+(v.length:Int)))))-T))-(Jy Y)))),Jy (p-1))
        )
       )
       )
      ))
    )
    )
    )
    )
    )
   ) (
    some ((b6,a9))
   )
  )) (List.replicate m (0:Int),u0,j0)) (Fo v u0 m):=by
 subst e9;have hV:=ba hv;refine dD (fun x:List Int×List Int×Int=>∃k:Nat,x.2.2=(k:Int)-1/\k<=m/\x.2.1.length=u0.length/\Dig x.2.1/\x.1.length=m/\Dig x.1/\(∀i,i<k->x.1.getD i 0=0)/\vl (x.2.1.drop k)<vl v/\vl x.2.1+vl x.1*vl v=vl u0) (fun x=>(x.2.2+1).toNat) ?_ n _
  ⟨m,rfl,Nat.le_refl _,rfl,hu,by simp,qE _,fun i _=>wc,h0,by simp[vU]⟩ (by simp;omega)
 rintro again ⟨q,u,x⟩ ⟨k,hx,h1,h2,h3,h4,h5,h6,h7,h8⟩ ih;simp only at hx h2 h3 h4 h5 h6 h7 h8;subst hx;dsimp only;refine Ok.cd (fun h=>?_) (fun h=>?_)
 ·have hk:=dcT h;obtain⟨j,rfl⟩:∃j,k=j+1:=⟨k-1,by omega⟩;have ej:(((j+1:Nat):Int)-1)=(j:Int):=by omega
  rw[ej];rw[nk (k:=v.length) (by omega) (by omega),lY (k:=j+v.length) (by omega) (by omega),yY (k:=j+v.length) (by omega) (by omega),lY (k:=v.length) (by omega) (by omega),yY (k:=v.length) (by omega) (by omega),Du];rw[dY (l:=v) (k:=v.length-1),dY (l:=v) (k:=v.length-2),dY (l:=u) (k:=j+v.length-1),dY (l:=u) (k:=j+v.length-2)];refine Ok.bde rfl ?_;have g4:vl (u.drop j)<1000000000*vl v:=by
   have:=iD u j;have:=cB h3 j;omega
  have kn:=IL (X:=u.drop j) lv (jf h3 j) hv rfl e8 g4;rw[qg,qg,qg,(by omega:j+(v.length-2)=j+v.length-2),(by omega:j+(v.length-1)=j+v.length-1)]at kn;have d0:=cB h3 (j+v.length-2);have d1:=cB h3 (j+v.length-1);have d2:=cB h3 (j+v.length);have e1:=cB hv (v.length-1);have e2:=cB hv (v.length-2);refine Ok.gd (by rw[aR];simp;omega) (Ok.gd (by rw[aR];simp;omega) ?_);rw[aF (n:=v.getD (v.length-1) 0) (by omega) (by omega),aF (n:=v.getD (v.length-2) 0) (by omega) (by omega),aF (n:=u.getD (j+v.length-2) 0) (by omega) (by omega),aF (n:=u.getD (j+v.length-1) 0) (by omega) (by omega),aF (n:=u.getD (j+v.length) 0) (by omega) (by omega),
   aF (n:=u.getD (j+v.length) 0*1000000000) (by omega) (by omega),aF (n:=u.getD (j+v.length) 0*1000000000+u.getD (j+v.length-1) 0) (by omega) (by omega)]
  refine Ok.gd (by rw[decide_eq_false (by omega)];rfl) ?_;have e4:u.getD (j+v.length) 0*1000000000+u.getD (j+v.length-1) 0=u.getD (j+v.length-1) 0+1000000000*u.getD (j+v.length) 0:=by omega
  rw[e4,(pN (by omega)).1,(pN (by omega)).2,aF (n:=_ / _) (Int.ediv_nonneg (by omega) (by omega)) (Int.le_trans (Int.ediv_le_self _ (by omega)) (by omega))];refine Ok.bd (EN hn kn rfl rfl (by omega) (by omega)) fun g hg=>?_
  obtain⟨g0,g1,g2,g3⟩:=hg;refine Ok.bd (HD hn hv h3 ⟨g0,g1⟩ c7 (by omega) (by omega)) ?_;rintro⟨u1,bo,ca⟩ ⟨s1,s2,s3,s4,s5,s6,s7⟩;simp only at s1 s2 s3 s4 s5 s6 s7;dsimp only;refine Ok.gd (by rw[aR];simp;omega) ?_;have c5:=s5 (j+v.length) (by omega);rw[dY,c5,wrap64_in (n:=u.getD (j+v.length) 0) (by omega) (by omega),wrap64_in (n:=u.getD (j+v.length) 0-bo) (by omega) (by omega),wrap64_in (n:=ca) (by omega) (by omega),wrap64_in (n:=u.getD (j+v.length) 0-bo-ca) (by omega) (by omega),Int.toNat_natCast,Int.toNat_natCast];have hzero:∀t,j+v.length+1<=t->u.getD t 0=0:=fun t ht=>Dy h3 (t:=j+1+v.length) (by
   have:=pP (jf h3 (j+1)) (k:=v.length) (Int.lt_trans h7 (gP hv));rw[List.drop_drop]at this;exact this) t (by omega)
  have hW:=ba (jf h3 j);have last:∀(z:List Int) (d:Int),z.length=u0.length->Dig z->(0<=d/\d<1000000000)->vl z=vl u-pB j*(d*vl v)->vl (z.drop j)<vl v->Ok (again (q.set j d,z,(((j:Nat):Int)-1))) (Fo v u0 m):=by
   intro z d g5 a7 hd g6 b7;refine ih _ ⟨j,rfl,by omega,g5,a7,by simpa using h4,jS h5 hd,?_,b7,?_⟩ (by simp)
   ·intro i hi;simp only;rw[iY (by omega)];exact h6 i (by omega)
   ·simp only;rw[mY (by omega),h6 j (by omega),g6];grind
  have c3:Jy ((j:Int)-1)=(j:Int)-1:=wrap64_in (by omega) (by omega);refine Ok.cd (fun h=>?_) (fun h=>?_)
  ·have j2:=dcT h;rw[wrap64_in (n:=u.getD (j+v.length) 0-bo-ca+1000000000) (by omega) (by omega),bf (n:=u.getD (j+v.length) 0-bo-ca+1000000000) (by omega) (by omega)];obtain⟨z2,a7⟩:∃z2,u1.set (j+v.length) (u.getD (j+v.length) 0-bo-ca+1000000000)=z2:=⟨_,rfl⟩;rw[a7];have l2:z2.length=u0.length:=by rw[<-a7];simp;omega
   have c1:Dig z2:=by rw[<-a7];exact jS s2 (by omega)
   have b9:vl z2=vl u+pB j*(pB (v.length+1)-g*vl v):=by
    rw[<-a7,mY (by omega),s7,c5,mr j v.length,cE v.length];grind
   have c2:vk z2 j=vk u j:=by rw[<-a7,vu (by omega)];exact s6
   have e5:∀t,j+v.length+1<=t->z2.getD t 0=0:=fun t ht=>by rw[<-a7,iY (by omega),s5 t (by omega)];exact hzero t ht
   have w2:=Cd c2 b9;have j5:=win c1 e5;have g7:vl (u.drop j)<g*vl v:=by omega
   have g8:1<=g:=by
    by_cases hh:g=0
    ·rw[hh]at g7;omega
    ·omega
   have j6:=g3 g8;refine Ok.bd (HB hn hv c1 c7 (by omega) (by omega)) ?_;rintro⟨u3,c⟩ ⟨a1,a2,a3,a4,a5,a6⟩;simp only at a1 a2 a3 a4 a5 a6;dsimp only;refine Ok.gd (by rw[aR];simp;omega) (Ok.gd (by rw[aR];simp;omega) ?_);have j7:=a4 (j+v.length) (by omega);have j8:z2.getD (j+v.length) 0=u.getD (j+v.length) 0-bo-ca+1000000000:=by rw[<-a7,EF (by omega)]
   rw[dY,aF (n:=g-1) (by omega) (by omega),bf (n:=g-1) (by omega) (by omega),bf (n:=u3.getD (j+v.length) 0+c) (by omega) (by omega),(pN (by omega)).2,c3];obtain⟨o,ho⟩:∃o,(u3.getD (j+v.length) 0+c) / 1000000000=o:=⟨_,rfl⟩;have e6:(u3.getD (j+v.length) 0+c)%1000000000=u3.getD (j+v.length) 0+c-1000000000*o:=by omega
   have c0:o=0\/o=1:=by omega
   obtain⟨z4,b7⟩:∃z4,u3.set (j+v.length) ((u3.getD (j+v.length) 0+c)%1000000000)=z4:=⟨_,rfl⟩;rw[b7];have l4:z4.length=u0.length:=by rw[<-b7];simp;omega
   have e7:Dig z4:=by rw[<-b7];exact jS a2 (by omega)
   have c6:vl z4=vl u+pB j*(pB (v.length+1)*(1-o)-(g-1)*vl v):=by
    rw[<-b7,mY (by omega),a6,b9,e6,mr j v.length,cE v.length];grind
   have g9:vk z4 j=vk u j:=by rw[<-b7,vu (by omega)];exact a5.trans c2
   have h9:∀t,j+v.length+1<=t->z4.getD t 0=0:=fun t ht=>by rw[<-b7,iY (by omega),a4 t (by omega)];exact e5 t ht
   have w4:=Cd g9 c6;have j9:=win e7 h9;have j1:o=1:=by
    rcases c0 with c0|c0
    ·rw[c0]at w4;omega
    ·exact c0
   rw[j1]at w4 c6;have eg:(g-1)*vl v=g*vl v-vl v:=by grind
   exact last z4 (g-1) l4 e7 (by omega) (by rw[c6];grind) (by omega)
  ·have j3:=dcF h;rw[bf (n:=u.getD (j+v.length) 0-bo-ca) (by omega) (by omega),bf (n:=g) (by omega) (by omega),c3];refine Ok.gd (by rw[aR];simp;omega) ?_;obtain⟨z2,a7⟩:∃z2,u1.set (j+v.length) (u.getD (j+v.length) 0-bo-ca)=z2:=⟨_,rfl⟩;rw[a7];have l2:z2.length=u0.length:=by rw[<-a7];simp;omega
   have c1:Dig z2:=by rw[<-a7];exact jS s2 (by omega)
   have b9:vl z2=vl u-pB j*(g*vl v):=by
    rw[<-a7,mY (by omega),s7,c5,mr j v.length];grind
   have c2:vk z2 j=vk u j:=by rw[<-a7,vu (by omega)];exact s6
   have w2:=Cd (D:=-(g*vl v)) c2 (by rw[b9];grind);have eg:(g+1)*vl v=g*vl v+vl v:=by grind
   exact last z2 g l2 c1 ⟨g0,g1⟩ b9 (by omega)
 ·have hk:=dcF h;obtain rfl:k=0:=by omega
  exact aw.2 ⟨h5,h3,h4,h2,by simpa using h7,h8⟩
end Go.L


set_option linter.all false
namespace Go.L
open Go Go.Eng
theorem zq{d:Int}(hd:0<d)(p:d<=1000000000):∀{l:List Int},Dig l->Dig (cw d l).1/\(cw d l).1.length=l.length/\(0<=(cw d l).2/\(cw d l).2<d)/\vl (cw d l).1*d+(cw d l).2=vl l
 |[],_=>⟨og,rfl,⟨Int.le_refl _,hd⟩,by show 0*d+0=0;omega⟩
 |g::l,h=>by
  have J:=iX.1 h;obtain⟨h1,h2,M,I⟩:=zq hd p J.2;unfold cw;rcases z:cw d l with⟨q,r⟩;simp only[z]at h1 h2 M I ⊢;have N:r*1000000000<=(d-1)*1000000000:=by omega
  rw[aF (n:=r*1000000000) (by omega) (by omega),aF (n:=g) (by omega) (by omega),aF (n:=r*1000000000+g) (by omega) (by omega)];generalize hs:r*1000000000+g=s;have j:0<=s:=by omega
  rw[(pN j).1,(pN j).2];have hm:=Int.emod_add_mul_ediv s d;have C:=Int.emod_nonneg s (by omega:d≠0);have D:=Int.emod_lt_of_pos s hd;have m:0<=s / d:=Int.ediv_nonneg j (by omega);have E:s / d<1000000000:=(Int.ediv_lt_iff_lt_mul hd).2 (by omega);rw[aF m (by omega),bf m (by omega)];refine⟨iX.2 ⟨⟨m,E⟩,h1⟩,by simp[h2],⟨C,D⟩,?_⟩;show(s / d+1000000000*vl q)*d+s%d=g+1000000000*vl l;rw[<-I];grind
theorem A8:∀{l:List Int},Dig l->Can (qv l)/\vl (qv l)=vl l
 |[],_=>⟨trivial,rfl⟩
 |d::l,h=>by
  have j:=iX.1 h;obtain⟨h1,h2⟩:=A8 j.2;unfold qv;show _/\_=d+1000000000*vl l;rw[<-h2];cases m:qv l with
  |nil=>
   simp only;split
   ·rename_i hd;have:d=0:=by simpa using hd
    subst this;exact⟨trivial,rfl⟩
   ·rename_i hd;have:d≠0:=by simpa using hd
    exact⟨⟨j.1,fun _=>this,trivial⟩,rfl⟩
  |cons e r=>
   rw[m]at h1;exact⟨⟨j.1,fun h=>by simp at h,h1⟩,rfl⟩
theorem oT{n:Nat}{a:List Int}{d:Int}(ha:Dig a)(q:a.length<=900)(hd:0<d)(j:d<=1000000000):Ok (fB n a d) fun r=>Can r.1/\(0<=r.2/\r.2<d)/\vl r.1*d+r.2=vl a:=by
 unfold fB;obtain⟨h1,h2,m,p⟩:=zq hd j ha;obtain⟨t1,t2⟩:=A8 h1;refine Ok.gd (by simp;omega) (Ok.gd (by simp;omega) (Ok.gd (by simp;omega) (aw.2 ?_)));simp only;rw[bf m.1 (by omega),t2];exact⟨t1,m,p⟩
theorem xz(n:Nat)(a b:List Int):jv n a b=jH n a b:=rfl
theorem Dz{b:List Int}(hb:Can b)(lb:1<=b.length):1<=b.getD (b.length-1) 0/\b.getD (b.length-1) 0<1000000000/\pB (b.length-1)*b.getD (b.length-1) 0<=vl b/\vl b<pB (b.length-1)*(b.getD (b.length-1) 0+1):=by
 have h1:=sg hb (by rintro rfl;simp at lb);have h2:=cB hb.dig (b.length-1);have e:=ga b (b.length-1);have e2:=iD b (b.length-1);rw[List.drop_of_length_le (by omega:b.length<=b.length-1+1)]at e2;have m:vl ([]:List Int)=0:=rfl;have j:vl (b.drop (b.length-1))=b.getD (b.length-1) 0:=by omega
 rw[j]at e;have p:=jB hb.dig (b.length-1);have q:=va hb.dig (b.length-1);refine⟨by omega,h2.2,by omega,?_⟩;rw[Int.mul_add];omega
theorem GR{n:Nat}{a b:List Int}(C:1000<=n)(ha:Can a)(hb:Can b)(lb:2<=b.length)(la:a.length<=300)(a4:b.length<=300)(hle:vl b<=vl a):Ok (jm n a b) fun r=>Can r.1/\Can r.2/\vl r.2<vl b/\vl r.1*vl b+vl r.2=vl a:=by
 unfold jm;obtain⟨t1,t2,t3,t4⟩:=Dz hb (by omega);rw[lY (k:=b.length) (by omega) (by omega),dY];obtain⟨t,ht⟩:∃t,b.getD (b.length-1) 0=t:=⟨_,rfl⟩;rw[ht]at t1 t2 t3 t4 ⊢;rw[aF (n:=t) (by omega) (by omega),aF (n:=t+1) (by omega) (by omega),(pN (by omega:(0:Int)<=1000000000)).1];obtain⟨s,hs⟩:∃s,(1000000000:Int) / (t+1)=s:=⟨_,rfl⟩;obtain⟨s1,s2,s3,s4⟩:=rV t1 t2 hs.symm;rw[hs,aF (n:=s) (by omega) (by omega),bf (n:=s) (by omega) (by omega)];refine Ok.gd (by rw[aR];simp;omega) (Ok.gd (by rw[decide_eq_false (by omega)];rfl) ?_);have D:Dig [s]:=fN.2 (by omega);rw[xz,xz];refine Ok.bd (yg C ha.dig D (by omega) (by simp)) ?_;rintro u ⟨u1,u2⟩;refine Ok.bd (yg C hb.dig D (by omega) (by simp)) ?_;rintro v ⟨v1,v2⟩;rw[hZ]at u2 v2;have hp:=gF (b.length-1);have ep:pB b.length=1000000000*pB (b.length-1):=by rw[<-cE,(by omega:b.length-1+1=b.length)]
 have E:vl v<pB b.length:=by
  have:vl b*s<=(pB (b.length-1)*(t+1)-1)*s:=mrT (by omega) (by omega);have e:(pB (b.length-1)*(t+1)-1)*s=pB (b.length-1)*((t+1)*s)-s:=by grind
  have:pB (b.length-1)*((t+1)*s)<=pB (b.length-1)*1000000000:=mlT s4 (by omega);omega
 have a2:500000000*pB (b.length-1)<=vl v:=by
  have h1:(pB (b.length-1)*t)*s<=vl b*s:=mrT t3 (by omega);have e:(pB (b.length-1)*t)*s=pB (b.length-1)*(t*s):=by grind
  have h2:pB (b.length-1)*500000000<=pB (b.length-1)*(t*s):=mlT s1 (by omega);omega
 have lv:v.length=b.length:=by
  have h1:=lf v1 E;by_cases h:v.length=b.length
  ·exact h
  ·have h2:=gP v1.dig;have h3:=iq (by omega:v.length<=b.length-1);omega
 have Y:500000000<=v.getD (v.length-1) 0:=by
  obtain⟨c1,c2,c3,c4⟩:=Dz v1 (by omega);rw[lv]at c4 ⊢;by_cases h:500000000<=v.getD (b.length-1) 0
  ·exact h
  ·have:pB (b.length-1)*(v.getD (b.length-1) 0+1)<=pB (b.length-1)*500000000:=mlT (by omega) (by omega);omega
 have lu:u.length<=a.length+1:=lf u1 (by
  have h1:=gP ha.dig;have h2:=ba ha.dig;rw[u2,cE];have:vl a*s<=vl a*1000000000:=mlT (by omega) h2;omega)
 have a5:v.length<=u.length:=by
  by_cases h:v.length<=u.length
  ·exact h
  ·have:=ck u1.dig v1 (by omega);have:vl b*s<=vl a*s:=mrT hle (by omega);omega
 have fin:∀(I:List Int) (m:Nat) (q r:List Int),vl I=vl u->I.length=v.length+m->I.length<=900->Fo v I m (q,r)->
   Ok (gdO (inS 0 (v.length:Int) r.length) (bdO (eG n (r.take (v.length:Int).toNat)) fun J=>bdO (fB n J s) fun M=>bdO (eG n q) fun N=>some ((N,M.1)))) fun r=>Can r.1/\Can r.2/\vl r.2<vl b/\vl r.1*vl b+vl r.2=vl a:=by
  rintro I m q r e0 e1 e2 ⟨q1,O,q3,q4,T,q6⟩;simp only at q1 O q3 q4 T q6;refine Ok.gd (uW.2 (by omega)) ?_;rw[Int.toNat_natCast];have hz:∀k,v.length<=k->r.getD k 0=0:=Dy O (pP O (Int.lt_trans T (gP v1.dig)));refine Ok.bd (sI C (sc O _) (by rw[List.length_take];omega)) ?_;rintro w ⟨w1,p⟩;rw[Af (by omega) hz]at p;have lw:w.length<=900:=by
   have:=lf w1 (k:=v.length) (by rw[p];exact Int.lt_trans T (gP v1.dig));omega
  refine Ok.bd (oT w1.dig lw (by omega) (by omega)) ?_;rintro⟨y,c⟩ ⟨y1,y2,U⟩;simp only at y1 y2 U;refine Ok.bd (sI C q1 (by omega)) ?_;rintro z ⟨z1,z2⟩;refine aw.2 ⟨z1,y1,?_,?_⟩;all_goals simp only
  ·
   have hmul:(vl y*s+c)+vl q*(vl b*s)=vl a*s:=by rw[U,p,<-v2,<-u2,<-e0];exact q6
   have a0:vl y*s<vl b*s:=by
    have:vl y*s+c<vl b*s:=by rw[U,p,<-v2];exact T
    omega
   exact Int.lt_of_mul_lt_mul_right a0 (by omega)
  ·have hmul:(vl y*s+c)+vl q*(vl b*s)=vl a*s:=by rw[U,p,<-v2,<-u2,<-e0];exact q6
   have e:c=(vl a-vl y-vl q*vl b)*s:=by grind
   have a6:vl a-vl y-vl q*vl b=0:=by
    by_cases h1:vl a-vl y-vl q*vl b=0
    ·exact h1
    ·exfalso;by_cases h2:1<=vl a-vl y-vl q*vl b
     ·have:1*s<=(vl a-vl y-vl q*vl b)*s:=mrT h2 (by omega);omega
     ·have:(vl a-vl y-vl q*vl b)*s<=(-1)*s:=mrT (by omega) (by omega);omega
   rw[z2];omega
 have a3:pB (v.length-1)<=vl v:=by rw[lv];omega
 have j:∀(w:List Int) (m:Nat),Dig w->w.length+1=v.length+m->vl ((w++[0]).drop m)<vl v:=by
  intro w m hw hl;have e:(w++[0]).drop m=w.drop m++[0]:=by rw[List.drop_append_of_le_length (by omega)]
  rw[e,me,hZ];have h1:=gP (jf hw m);rw[List.length_drop,(by omega:w.length-m=v.length-1)]at h1;omega
 refine Ok.gd (by simp;omega) (Ok.gd (by simp;omega) ?_);have d1:Dig (u++[0]):=ln.2 ⟨u1.dig,fN.2 (by omega)⟩;have e1:vl (u++[0])=vl u:=by rw[me,hZ];omega
 have l1:(u++[(0:Int)]).length=u.length+1:=by simp
 have d2:Dig ((u++[0])++[0]):=ln.2 ⟨d1,fN.2 (by omega)⟩;have e2:vl ((u++[0])++[0])=vl u:=by rw[me,hZ,e1];omega
 have l2:((u++[(0:Int)])++[(0:Int)]).length=u.length+2:=by simp
 refine Ok.bd (R:=fun w=>Dig w/\vl w=vl u/\v.length<=w.length/\w.length<=900/\vl (w.drop (w.length-v.length))<vl v) ?_ ?_
 ·refine Ok.cd (fun h=>?_) (fun h=>aw.2 ?_)
  ·refine Ok.gd (by simp;omega) (Ok.gd (by simp;omega) (aw.2 ⟨d2,e2,by omega,by omega,?_⟩));exact j _ _ d1 (by omega)
  ·exact⟨d1,e1,by omega,by omega,j _ _ u1.dig (by omega)⟩
 rintro w ⟨w1,p,w3,w4,w5⟩;have hw:Jy ((w.length:Int)-(v.length:Int))=((w.length-v.length:Nat):Int):=by rw[wrap64_in (by omega) (by omega)];omega
 rw[hw,Int.toNat_natCast];refine Ok.gd (by simp;try omega) (Ok.gd (by simp;try omega) (Ok.gd (by simp;try omega) ?_));refine Ok.bd (F3 C v1.dig Y (by omega) (by omega) w1 (m:=w.length-v.length) (by omega) (by omega) w5 (by rw[wrap64_in (by omega) (by omega)])) ?_;rintro⟨q,r⟩ a1;exact fin _ _ q r p (by omega) (by omega) a1
end Go.L

