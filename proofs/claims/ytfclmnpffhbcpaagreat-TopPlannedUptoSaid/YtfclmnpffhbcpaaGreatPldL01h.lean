import Derived.Test.YtfclmnpffhbcpaaGreatPldL01k
set_option linter.all false
namespace Go.L
open Go Go.Eng
theorem yI{k:Nat}(h:1<k)(j:k<=4000000000):Hy ((k:Int)-2)=((k-2:Nat):Int):=by rw[wrap64_in (by omega) (by omega)];omega
theorem vz{l:List Int}{k j:Nat}{x:Int}(h:j<=k):vk (l.set k x) j=vk l j:=by unfold vk;rw[List.take_set_of_le h]
def DT(v j:List Int)(m:Nat)(r:List Int×List Int):Prop:=Dig r.1/\Dig r.2/\r.1.length=m/\r.2.length=j.length/\vl r.2<vl v/\vl r.2+vl r.1*vl v=vl j
theorem EL{n:Nat}(hn:1000<=n){v u0:List Int}{m:Nat}(hv:Dig v)(j1:500000000<=v.getD (v.length-1) 0)(lv:2<=v.length)(c9:v.length<=400)(hu:Dig u0)(lu:u0.length=v.length+m)(k3:u0.length<=900)(h0:vl (u0.drop m)<vl v){j0:Int}(j2:j0=(m:Int)-1):
  Ok (aV (α:=List Int×List Int×Int) (β:=List Int×List Int) n (fun b5 (b6,b0,C)=>(
   cdO (decide (C>=0)) (
    bdO (iF n b0 (Hy (C+(v.length:Int)))) fun e4=>(
    gdO (inR (Hy ((Hy (C+(v.length:Int)))-1)) b0.length) (
    gdO (inR (Hy ((v.length:Int)-1)) v.length) (
    gdO (!decide (af .u64 (gt v (Hy ((v.length:Int)-1)))=0)) (
    bdO (aV (α:=Int×Int) (β:=Int) n (fun b1 (J,S)=>(
     cdO (decide (J>=1000000000)) (
      cdO (decide ((af .u64 (S+(af .u64 (gt v (Hy ((v.length:Int)-1))))))>=1000000000)) (
       some (af .u64 (J-1))
      ) (
       b1 (af .u64 (J-1),af .u64 (S+(af .u64 (gt v (Hy ((v.length:Int)-1))))))
      )
     ) (
      gdO (inR (Hy ((v.length:Int)-2)) v.length) (
      gdO (inR (Hy ((Hy (C+(v.length:Int)))-2)) b0.length) (
      cdO (decide ((af .u64 (J*(af .u64 (gt v (Hy ((v.length:Int)-2))))))>(af .u64 ((af .u64 (S*1000000000))+(af .u64 (gt b0 (Hy ((Hy (C+(v.length:Int)))-2)))))))) (
       cdO (decide ((af .u64 (S+(af .u64 (gt v (Hy ((v.length:Int)-1))))))>=1000000000)) (
        some (af .u64 (J-1))
       ) (
        b1 (af .u64 (J-1),af .u64 (S+(af .u64 (gt v (Hy ((v.length:Int)-1))))))
       )
      ) (
       some (J)
      )
      )
      )
     )
    )) (af .u64 ((af .u64 ((af .u64 ((af .u64 e4)*1000000000))+(af .u64 (gt b0 (Hy ((Hy (C+(v.length:Int)))-1)))))).tdiv (af .u64 (gt v (Hy ((v.length:Int)-1))))),(af .u64 ((af .u64 ((af .u64 e4)*1000000000))+(af .u64 (gt b0 (Hy ((Hy (C+(v.length:Int)))-1)))))).tmod (af .u64 (gt v (Hy ((v.length:Int)-1)))))) fun E=>(
     bdO (aV (α:=List Int×Int×Int×Int) (β:=List Int×Int×Int) n (fun b2 (U,R,N,I)=>(
      cdO (decide (I<(v.length:Int))) (
       gdO (inR I v.length) (
       gdO (inR (Hy (I+C)) U.length) (
       cdO (decide ((Hy ((Hy ((Hy (gt U (Hy (I+C))))-R))-(Hy ((af .u64 ((af .u64 (E*(af .u64 (gt v I))))+N)).tmod 1000000000))))<0)) (
        b2 (U.set (Hy (I+C)).toNat (af .u32 (Hy ((Hy ((Hy ((Hy (gt U (Hy (I+C))))-R))-(Hy ((af .u64 ((af .u64 (E*(af .u64 (gt v I))))+N)).tmod 1000000000))))+1000000000))),1,af .u64 ((af .u64 ((af .u64 (E*(af .u64 (gt v I))))+N)).tdiv 1000000000),Hy (I+1))
       ) (
        b2 (U.set (Hy (I+C)).toNat (af .u32 (Hy ((Hy ((Hy (gt U (Hy (I+C))))-R))-(Hy ((af .u64 ((af .u64 (E*(af .u64 (gt v I))))+N)).tmod 1000000000))))),0,af .u64 ((af .u64 ((af .u64 (E*(af .u64 (gt v I))))+N)).tdiv 1000000000),Hy (I+1))
       )
       )
       )
      ) (
       some ((U,R,N))
      )
     )) (b0,0,0,0)) fun e5=>(
      match e5 with
      |(a8,T,Y)=>(
       gdO (inR (Hy (C+(v.length:Int))) a8.length) (
       cdO (decide ((Hy ((Hy ((Hy (gt a8 (Hy (C+(v.length:Int)))))-T))-(Hy Y)))<0)) (
        bdO (aV (α:=List Int×Int×Int) (β:=List Int×Int) n (fun b3 (Z,b4,O)=>(
         cdO (decide (O<(v.length:Int))) (
          gdO (inR (Hy (O+C)) Z.length) (
          gdO (inR O v.length) (
          cdO (decide ((af .u32 ((af .u32 ((gt Z (Hy (O+C)))+(gt v O)))+b4))>=1000000000)) (
           b3 (Z.set (Hy (O+C)).toNat (af .u32 ((af .u32 ((af .u32 ((gt Z (Hy (O+C)))+(gt v O)))+b4))-1000000000)),1,Hy (O+1))
          ) (
           b3 (Z.set (Hy (O+C)).toNat (af .u32 ((af .u32 ((gt Z (Hy (O+C)))+(gt v O)))+b4)),0,Hy (O+1))
          )
          )
          )
         ) (
          some ((Z,b4))
         )
        )) (a8.set (Hy (C+(v.length:Int))).toNat (af .u32 (Hy ((Hy ((Hy ((Hy (gt a8 (Hy (C+(v.length:Int)))))-T))-(Hy Y)))+1000000000))),0,0)) fun e6=>(
         match e6 with
         |(b8,c6)=>(
          gdO (inR (Hy (C+(v.length:Int))) b8.length) (
          gdO (inR C b6.length) (
          b5 (b6.set C.toNat (af .u32 (af .u64 (E-1))),b8.set (Hy (C+(v.length:Int))).toNat ((af .u32 ((gt b8 (Hy (C+(v.length:Int))))+c6)).tmod 1000000000),Hy (C-1))
          )
          )
         ))
       ) (
        gdO (inR C b6.length) (
        b5 (b6.set C.toNat (af .u32 E),a8.set (Hy (C+(v.length:Int))).toNat (af .u32 (Hy ((Hy ((Hy (gt a8 (Hy (C+(v.length:Int)))))-T))-(Hy Y)))),Hy (C-1))
        )
       )
       )
      ))
    )
    )
    )
    )
    )
   ) (
    some ((b6,b0))
   )
  )) (List.replicate m (0:Int),u0,j0)) (DT v u0 m):=by
 subst j2;have hV:=bI hv;refine ee (fun x:List Int×List Int×Int=>∃k:Nat,x.2.2=(k:Int)-1/\k<=m/\x.2.1.length=u0.length/\Dig x.2.1/\x.1.length=m/\Dig x.1/\(∀i,i<k->x.1.getD i 0=0)/\vl (x.2.1.drop k)<vl v/\vl x.2.1+vl x.1*vl v=vl u0) (fun x=>(x.2.2+1).toNat) ?_ n _
  ⟨m,rfl,Nat.le_refl _,rfl,hu,by simp,ry _,fun i _=>vH,h0,by simp[we]⟩ (by simp;omega)
 rintro again ⟨q,u,x⟩ ⟨k,hx,h1,h2,h3,h4,h5,h6,h7,h8⟩ ih;simp only at hx h2 h3 h4 h5 h6 h7 h8;subst hx;dsimp only;refine Ok.cd (fun h=>?_) (fun h=>?_)
 ·have hk:=dcT h;obtain⟨j,rfl⟩:∃j,k=j+1:=⟨k-1,by omega⟩;have ej:(((j+1:Nat):Int)-1)=(j:Int):=by omega
  rw[ej];rw[nQ (k:=v.length) (by omega) (by omega),mR (k:=j+v.length) (by omega) (by omega),yI (k:=j+v.length) (by omega) (by omega),mR (k:=v.length) (by omega) (by omega),yI (k:=v.length) (by omega) (by omega),CR];rw[fa (l:=v) (k:=v.length-1),fa (l:=v) (k:=v.length-2),fa (l:=u) (k:=j+v.length-1),fa (l:=u) (k:=j+v.length-2)];refine Ok.bde rfl ?_;have j3:vl (u.drop j)<1000000000*vl v:=by
   have:=iY u j;have:=dC h3 j;omega
  have kn:=GC (X:=u.drop j) lv (jJ h3 j) hv rfl j1 j3;rw[qE,qE,qE,(by omega:j+(v.length-2)=j+v.length-2),(by omega:j+(v.length-1)=j+v.length-1)]at kn;have d0:=dC h3 (j+v.length-2);have d1:=dC h3 (j+v.length-1);have d2:=dC h3 (j+v.length);have e1:=dC hv (v.length-1);have e2:=dC hv (v.length-2);refine Ok.gd (by rw[bm];simp;omega) (Ok.gd (by rw[bm];simp;omega) ?_);rw[aO (n:=v.getD (v.length-1) 0) (by omega) (by omega),aO (n:=v.getD (v.length-2) 0) (by omega) (by omega),aO (n:=u.getD (j+v.length-2) 0) (by omega) (by omega),aO (n:=u.getD (j+v.length-1) 0) (by omega) (by omega),aO (n:=u.getD (j+v.length) 0) (by omega) (by omega),
   aO (n:=u.getD (j+v.length) 0*1000000000) (by omega) (by omega),aO (n:=u.getD (j+v.length) 0*1000000000+u.getD (j+v.length-1) 0) (by omega) (by omega)]
  refine Ok.gd (by rw[decide_eq_false (by omega)];rfl) ?_;have e7:u.getD (j+v.length) 0*1000000000+u.getD (j+v.length-1) 0=u.getD (j+v.length-1) 0+1000000000*u.getD (j+v.length) 0:=by omega
  rw[e7,(qi (by omega)).1,(qi (by omega)).2,aO (n:=_ / _) (Int.ediv_nonneg (by omega) (by omega)) (Int.le_trans (Int.ediv_le_self _ (by omega)) (by omega))];refine Ok.bd (Ez hn kn rfl rfl (by omega) (by omega)) fun g hg=>?_
  obtain⟨g0,g1,g2,g3⟩:=hg;refine Ok.bd (FV hn hv h3 ⟨g0,g1⟩ c9 (by omega) (by omega)) ?_;rintro⟨u1,bo,ca⟩ ⟨s1,s2,s3,s4,s5,s6,s7⟩;simp only at s1 s2 s3 s4 s5 s6 s7;dsimp only;refine Ok.gd (by rw[bm];simp;omega) ?_;have c7:=s5 (j+v.length) (by omega);rw[fa,c7,wrap64_in (n:=u.getD (j+v.length) 0) (by omega) (by omega),wrap64_in (n:=u.getD (j+v.length) 0-bo) (by omega) (by omega),wrap64_in (n:=ca) (by omega) (by omega),wrap64_in (n:=u.getD (j+v.length) 0-bo-ca) (by omega) (by omega),Int.toNat_natCast,Int.toNat_natCast];have hzero:∀t,j+v.length+1<=t->u.getD t 0=0:=fun t ht=>BZ h3 (t:=j+1+v.length) (by
   have:=qf (jJ h3 (j+1)) (k:=v.length) (Int.lt_trans h7 (iu hv));rw[List.drop_drop]at this;exact this) t (by omega)
  have hW:=bI (jJ h3 j);have last:∀(z:List Int) (d:Int),z.length=u0.length->Dig z->(0<=d/\d<1000000000)->vl z=vl u-pB j*(d*vl v)->vl (z.drop j)<vl v->Ok (again (q.set j d,z,(((j:Nat):Int)-1))) (DT v u0 m):=by
   intro z d j4 a7 hd j5 b7;refine ih _ ⟨j,rfl,by omega,j4,a7,by simpa using h4,kD h5 hd,?_,b7,?_⟩ (by simp)
   ·intro i hi;simp only;rw[jL (by omega)];exact h6 i (by omega)
   ·simp only;rw[nz (by omega),h6 j (by omega),j5];grind
  have c5:Hy ((j:Int)-1)=(j:Int)-1:=wrap64_in (by omega) (by omega);refine Ok.cd (fun h=>?_) (fun h=>?_)
  ·have k1:=dcT h;rw[wrap64_in (n:=u.getD (j+v.length) 0-bo-ca+1000000000) (by omega) (by omega),bU (n:=u.getD (j+v.length) 0-bo-ca+1000000000) (by omega) (by omega)];obtain⟨z2,a7⟩:∃z2,u1.set (j+v.length) (u.getD (j+v.length) 0-bo-ca+1000000000)=z2:=⟨_,rfl⟩;rw[a7];have l2:z2.length=u0.length:=by rw[<-a7];simp;omega
   have c3:Dig z2:=by rw[<-a7];exact kD s2 (by omega)
   have b9:vl z2=vl u+pB j*(pB (v.length+1)-g*vl v):=by
    rw[<-a7,nz (by omega),s7,c7,mB j v.length,dE v.length];grind
   have c4:vk z2 j=vk u j:=by rw[<-a7,vz (by omega)];exact s6
   have e8:∀t,j+v.length+1<=t->z2.getD t 0=0:=fun t ht=>by rw[<-a7,jL (by omega),s5 t (by omega)];exact hzero t ht
   have w2:=BK c4 b9;have k4:=win c3 e8;have j6:vl (u.drop j)<g*vl v:=by omega
   have j7:1<=g:=by
    by_cases hh:g=0
    ·rw[hh]at j6;omega
    ·omega
   have k5:=g3 j7;refine Ok.bd (F0 hn hv c3 c9 (by omega) (by omega)) ?_;rintro⟨u3,c⟩ ⟨a1,a2,a3,a4,a5,a6⟩;simp only at a1 a2 a3 a4 a5 a6;dsimp only;refine Ok.gd (by rw[bm];simp;omega) (Ok.gd (by rw[bm];simp;omega) ?_);have k6:=a4 (j+v.length) (by omega);have k7:z2.getD (j+v.length) 0=u.getD (j+v.length) 0-bo-ca+1000000000:=by rw[<-a7,Ee (by omega)]
   rw[fa,aO (n:=g-1) (by omega) (by omega),bU (n:=g-1) (by omega) (by omega),bU (n:=u3.getD (j+v.length) 0+c) (by omega) (by omega),(qi (by omega)).2,c5];obtain⟨o,ho⟩:∃o,(u3.getD (j+v.length) 0+c) / 1000000000=o:=⟨_,rfl⟩;have e9:(u3.getD (j+v.length) 0+c)%1000000000=u3.getD (j+v.length) 0+c-1000000000*o:=by omega
   have c0:o=0\/o=1:=by omega
   obtain⟨z4,b7⟩:∃z4,u3.set (j+v.length) ((u3.getD (j+v.length) 0+c)%1000000000)=z4:=⟨_,rfl⟩;rw[b7];have l4:z4.length=u0.length:=by rw[<-b7];simp;omega
   have h9:Dig z4:=by rw[<-b7];exact kD a2 (by omega)
   have c8:vl z4=vl u+pB j*(pB (v.length+1)*(1-o)-(g-1)*vl v):=by
    rw[<-b7,nz (by omega),a6,b9,e9,mB j v.length,dE v.length];grind
   have j8:vk z4 j=vk u j:=by rw[<-b7,vz (by omega)];exact a5.trans c4
   have j9:∀t,j+v.length+1<=t->z4.getD t 0=0:=fun t ht=>by rw[<-b7,jL (by omega),a4 t (by omega)];exact e8 t ht
   have w4:=BK j8 c8;have k8:=win h9 j9;have k0:o=1:=by
    rcases c0 with c0|c0
    ·rw[c0]at w4;omega
    ·exact c0
   rw[k0]at w4 c8;have eg:(g-1)*vl v=g*vl v-vl v:=by grind
   exact last z4 (g-1) l4 h9 (by omega) (by rw[c8];grind) (by omega)
  ·have k2:=dcF h;rw[bU (n:=u.getD (j+v.length) 0-bo-ca) (by omega) (by omega),bU (n:=g) (by omega) (by omega),c5];refine Ok.gd (by rw[bm];simp;omega) ?_;obtain⟨z2,a7⟩:∃z2,u1.set (j+v.length) (u.getD (j+v.length) 0-bo-ca)=z2:=⟨_,rfl⟩;rw[a7];have l2:z2.length=u0.length:=by rw[<-a7];simp;omega
   have c3:Dig z2:=by rw[<-a7];exact kD s2 (by omega)
   have b9:vl z2=vl u-pB j*(g*vl v):=by
    rw[<-a7,nz (by omega),s7,c7,mB j v.length];grind
   have c4:vk z2 j=vk u j:=by rw[<-a7,vz (by omega)];exact s6
   have w2:=BK (D:=-(g*vl v)) c4 (by rw[b9];grind);have eg:(g+1)*vl v=g*vl v+vl v:=by grind
   exact last z2 g l2 c3 ⟨g0,g1⟩ b9 (by omega)
 ·have hk:=dcF h;obtain rfl:k=0:=by omega
  exact aC.2 ⟨h5,h3,h4,h2,by simpa using h7,h8⟩
end Go.L


set_option linter.all false
namespace Go.L
open Go Go.Eng
theorem yW{d:Int}(C:0<d)(D:d<=1000000000):∀{l:List Int},Dig l->Dig (dw d l).1/\(dw d l).1.length=l.length/\(0<=(dw d l).2/\(dw d l).2<d)/\vl (dw d l).1*d+(dw d l).2=vl l
 |[],_=>⟨oO,rfl,⟨Int.le_refl _,C⟩,by show 0*d+0=0;omega⟩
 |g::l,h=>by
  have S:=jy.1 h;obtain⟨h1,O,T,R⟩:=yW C D S.2;unfold dw;rcases E:dw d l with⟨q,r⟩;simp only[E]at h1 O T R ⊢;have m0:r*1000000000<=(d-1)*1000000000:=by omega
  rw[aO (n:=r*1000000000) (by omega) (by omega),aO (n:=g) (by omega) (by omega),aO (n:=r*1000000000+g) (by omega) (by omega)];generalize hs:r*1000000000+g=s;have j:0<=s:=by omega
  rw[(qi j).1,(qi j).2];have hm:=Int.emod_add_mul_ediv s d;have I:=Int.emod_nonneg s (by omega:d≠0);have J:=Int.emod_lt_of_pos s C;have z:0<=s / d:=Int.ediv_nonneg j (by omega);have N:s / d<1000000000:=(Int.ediv_lt_iff_lt_mul C).2 (by omega);rw[aO z (by omega),bU z (by omega)];refine⟨jy.2 ⟨⟨z,N⟩,h1⟩,by simp[O],⟨I,J⟩,?_⟩;show(s / d+1000000000*vl q)*d+s%d=g+1000000000*vl l;rw[<-R];grind
theorem A5:∀{l:List Int},Dig l->Can (qz l)/\vl (qz l)=vl l
 |[],_=>⟨trivial,rfl⟩
 |d::l,h=>by
  have j:=jy.1 h;obtain⟨h1,z⟩:=A5 j.2;unfold qz;show _/\_=d+1000000000*vl l;rw[<-z];cases C:qz l with
  |nil=>
   simp only;split
   ·rename_i q;have:d=0:=by simpa using q
    subst this;exact⟨trivial,rfl⟩
   ·rename_i q;have:d≠0:=by simpa using q
    exact⟨⟨j.1,fun _=>this,trivial⟩,rfl⟩
  |cons e r=>
   rw[C]at h1;exact⟨⟨j.1,fun h=>by simp at h,h1⟩,rfl⟩
theorem pC{n:Nat}{a:List Int}{d:Int}(z:Dig a)(E:a.length<=900)(C:0<d)(j:d<=1000000000):Ok (gj n a d) fun r=>Can r.1/\(0<=r.2/\r.2<d)/\vl r.1*d+r.2=vl a:=by
 unfold gj;obtain⟨h1,I,q,D⟩:=yW C j z;obtain⟨t1,t2⟩:=A5 h1;refine Ok.gd (by simp;omega) (Ok.gd (by simp;omega) (Ok.gd (by simp;omega) (aC.2 ?_)));simp only;rw[bU q.1 (by omega),t2];exact⟨t1,q,D⟩
theorem xI(n:Nat)(a b:List Int):kf n a b=kr n a b:=rfl
theorem CK{b:List Int}(j:Can b)(lb:1<=b.length):1<=b.getD (b.length-1) 0/\b.getD (b.length-1) 0<1000000000/\pB (b.length-1)*b.getD (b.length-1) 0<=vl b/\vl b<pB (b.length-1)*(b.getD (b.length-1) 0+1):=by
 have h1:=sr j (by rintro rfl;simp at lb);have q:=dC j.dig (b.length-1);have e:=gK b (b.length-1);have e2:=iY b (b.length-1);rw[List.drop_of_length_le (by omega:b.length<=b.length-1+1)]at e2;have e3:vl ([]:List Int)=0:=rfl;have z:vl (b.drop (b.length-1))=b.getD (b.length-1) 0:=by omega
 rw[z]at e;have C:=ks j.dig (b.length-1);have D:=ve j.dig (b.length-1);refine⟨by omega,q.2,by omega,?_⟩;rw[Int.mul_add];omega
theorem EW{n:Nat}{a b:List Int}(D:1000<=n)(ha:Can a)(hb:Can b)(lb:2<=b.length)(la:a.length<=300)(b1:b.length<=300)(hle:vl b<=vl a):Ok (jX n a b) fun r=>Can r.1/\Can r.2/\vl r.2<vl b/\vl r.1*vl b+vl r.2=vl a:=by
 unfold jX;obtain⟨t1,t2,t3,t4⟩:=CK hb (by omega);rw[mR (k:=b.length) (by omega) (by omega),fa];obtain⟨t,ht⟩:∃t,b.getD (b.length-1) 0=t:=⟨_,rfl⟩;rw[ht]at t1 t2 t3 t4 ⊢;rw[aO (n:=t) (by omega) (by omega),aO (n:=t+1) (by omega) (by omega),(qi (by omega:(0:Int)<=1000000000)).1];obtain⟨s,hs⟩:∃s,(1000000000:Int) / (t+1)=s:=⟨_,rfl⟩;obtain⟨s1,s2,s3,s4⟩:=sJ t1 t2 hs.symm;rw[hs,aO (n:=s) (by omega) (by omega),bU (n:=s) (by omega) (by omega)];refine Ok.gd (by rw[bm];simp;omega) (Ok.gd (by rw[decide_eq_false (by omega)];rfl) ?_);have E:Dig [s]:=gz.2 (by omega);rw[xI,xI];refine Ok.bd (yd D ha.dig E (by omega) (by simp)) ?_;rintro u ⟨U,Y⟩;refine Ok.bd (yd D hb.dig E (by omega) (by simp)) ?_;rintro v ⟨v1,v2⟩;rw[iQ]at Y v2;have hp:=iv (b.length-1);have ep:pB b.length=1000000000*pB (b.length-1):=by rw[<-dE,(by omega:b.length-1+1=b.length)]
 have I:vl v<pB b.length:=by
  have:vl b*s<=(pB (b.length-1)*(t+1)-1)*s:=mrT (by omega) (by omega);have e:(pB (b.length-1)*(t+1)-1)*s=pB (b.length-1)*((t+1)*s)-s:=by grind
  have:pB (b.length-1)*((t+1)*s)<=pB (b.length-1)*1000000000:=mlT s4 (by omega);omega
 have a8:500000000*pB (b.length-1)<=vl v:=by
  have h1:(pB (b.length-1)*t)*s<=vl b*s:=mrT t3 (by omega);have e:(pB (b.length-1)*t)*s=pB (b.length-1)*(t*s):=by grind
  have J:pB (b.length-1)*500000000<=pB (b.length-1)*(t*s):=mlT s1 (by omega);omega
 have lv:v.length=b.length:=by
  have h1:=lW v1 I;by_cases h:v.length=b.length
  ·exact h
  ·have J:=iu v1.dig;have h3:=iX (by omega:v.length<=b.length-1);omega
 have a1:500000000<=v.getD (v.length-1) 0:=by
  obtain⟨c1,c2,c3,c4⟩:=CK v1 (by omega);rw[lv]at c4 ⊢;by_cases h:500000000<=v.getD (b.length-1) 0
  ·exact h
  ·have:pB (b.length-1)*(v.getD (b.length-1) 0+1)<=pB (b.length-1)*500000000:=mlT (by omega) (by omega);omega
 have lu:u.length<=a.length+1:=lW U (by
  have h1:=iu ha.dig;have J:=bI ha.dig;rw[Y,dE];have:vl a*s<=vl a*1000000000:=mlT (by omega) J;omega)
 have b2:v.length<=u.length:=by
  by_cases h:v.length<=u.length
  ·exact h
  ·have:=de U.dig v1 (by omega);have:vl b*s<=vl a*s:=mrT hle (by omega);omega
 have fin:∀(N:List Int) (m:Nat) (q r:List Int),vl N=vl u->N.length=v.length+m->N.length<=900->DT v N m (q,r)->
   Ok (gdO (inS 0 (v.length:Int) r.length) (bdO (fm n (r.take (v.length:Int).toNat)) fun O=>bdO (gj n O s) fun S=>bdO (fm n q) fun T=>some ((T,S.1)))) fun r=>Can r.1/\Can r.2/\vl r.2<vl b/\vl r.1*vl b+vl r.2=vl a:=by
  rintro N m q r e0 e1 e2 ⟨q1,Z,q3,q4,q5,q6⟩;simp only at q1 Z q3 q4 q5 q6;refine Ok.gd (nJ.2 (by omega)) ?_;rw[Int.toNat_natCast];have hz:∀k,v.length<=k->r.getD k 0=0:=BZ Z (qf Z (Int.lt_trans q5 (iu v1.dig)));refine Ok.bd (sU D (sQ Z _) (by rw[List.length_take];omega)) ?_;rintro w ⟨w1,C⟩;rw[zm (by omega) hz]at C;have lw:w.length<=900:=by
   have:=lW w1 (k:=v.length) (by rw[C];exact Int.lt_trans q5 (iu v1.dig));omega
  refine Ok.bd (pC w1.dig lw (by omega) (by omega)) ?_;rintro⟨y,c⟩ ⟨y1,y2,y3⟩;simp only at y1 y2 y3;refine Ok.bd (sU D q1 (by omega)) ?_;rintro z ⟨z1,z2⟩;refine aC.2 ⟨z1,y1,?_,?_⟩;all_goals simp only
  ·
   have hmul:(vl y*s+c)+vl q*(vl b*s)=vl a*s:=by rw[y3,C,<-v2,<-Y,<-e0];exact q6
   have a6:vl y*s<vl b*s:=by
    have:vl y*s+c<vl b*s:=by rw[y3,C,<-v2];exact q5
    omega
   exact Int.lt_of_mul_lt_mul_right a6 (by omega)
  ·have hmul:(vl y*s+c)+vl q*(vl b*s)=vl a*s:=by rw[y3,C,<-v2,<-Y,<-e0];exact q6
   have e:c=(vl a-vl y-vl q*vl b)*s:=by grind
   have b3:vl a-vl y-vl q*vl b=0:=by
    by_cases h1:vl a-vl y-vl q*vl b=0
    ·exact h1
    ·exfalso;by_cases J:1<=vl a-vl y-vl q*vl b
     ·have:1*s<=(vl a-vl y-vl q*vl b)*s:=mrT J (by omega);omega
     ·have:(vl a-vl y-vl q*vl b)*s<=(-1)*s:=mrT (by omega) (by omega);omega
   rw[z2];omega
 have b0:pB (v.length-1)<=vl v:=by rw[lv];omega
 have j:∀(w:List Int) (m:Nat),Dig w->w.length+1=v.length+m->vl ((w++[0]).drop m)<vl v:=by
  intro w m hw hl;have e:(w++[0]).drop m=w.drop m++[0]:=by rw[List.drop_append_of_le_length (by omega)]
  rw[e,mQ,iQ];have h1:=iu (jJ hw m);rw[List.length_drop,(by omega:w.length-m=v.length-1)]at h1;omega
 refine Ok.gd (by simp;omega) (Ok.gd (by simp;omega) ?_);have d1:Dig (u++[0]):=mc.2 ⟨U.dig,gz.2 (by omega)⟩;have e1:vl (u++[0])=vl u:=by rw[mQ,iQ];omega
 have l1:(u++[(0:Int)]).length=u.length+1:=by simp
 have d2:Dig ((u++[0])++[0]):=mc.2 ⟨d1,gz.2 (by omega)⟩;have e2:vl ((u++[0])++[0])=vl u:=by rw[mQ,iQ,e1];omega
 have l2:((u++[(0:Int)])++[(0:Int)]).length=u.length+2:=by simp
 refine Ok.bd (R:=fun w=>Dig w/\vl w=vl u/\v.length<=w.length/\w.length<=900/\vl (w.drop (w.length-v.length))<vl v) ?_ ?_
 ·refine Ok.cd (fun h=>?_) (fun h=>aC.2 ?_)
  ·refine Ok.gd (by simp;omega) (Ok.gd (by simp;omega) (aC.2 ⟨d2,e2,by omega,by omega,?_⟩));exact j _ _ d1 (by omega)
  ·exact⟨d1,e1,by omega,by omega,j _ _ U.dig (by omega)⟩
 rintro w ⟨w1,C,w3,w4,w5⟩;have hw:Hy ((w.length:Int)-(v.length:Int))=((w.length-v.length:Nat):Int):=by rw[wrap64_in (by omega) (by omega)];omega
 rw[hw,Int.toNat_natCast];refine Ok.gd (by simp;try omega) (Ok.gd (by simp;try omega) (Ok.gd (by simp;try omega) ?_));refine Ok.bd (EL D v1.dig a1 (by omega) (by omega) w1 (m:=w.length-v.length) (by omega) (by omega) w5 (by rw[wrap64_in (by omega) (by omega)])) ?_;rintro⟨q,r⟩ a7;exact fin _ _ q r C (by omega) (by omega) a7
end Go.L

