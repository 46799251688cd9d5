
import Derived.Test.YtfclmnpffhbcpaaGreatSc11Plds
import Derived.Test.YtfclmnpffhbcpaaGreatScMPlds
import Derived.Test.YtfclmnpffhbcpaaGreatScUPlds
import Derived.Test.YtfclmnpffhbcpaaGreatScZPlds
import Derived.Test.YtfclmnpffhbcpaaGreatScZPlds
set_option linter.all false
set_option maxRecDepth 100000
set_option maxHeartbeats 4000000
namespace Go.L
open Go Go.Eng
structure aF where
 Width:Int
 Height:Int
 Low:Int
 High:Int
 Across:Int
 Along:Int
 Focal:Int
 Overlap:Int
 Sidelap:Int
 Views:Int
 deriving Inhabited

structure aE where
 X:Int
 Y:Int
 deriving Inhabited

structure aK where
 Height:Int
 Strips:List (List aE)
 deriving Inhabited

structure A3 (α:Type) where
 e0:α
 e1:α
 e2:α
 deriving Inhabited,DecidableEq

def aE.c(x:aE):List AV:=[.at (.int .i64 x.X),.at (.int .i64 x.Y)]
theorem aE.len:∀x,(aE.c x).length=2:=fun _=>rfl
theorem aE.pure:∀x,dd (aE.c x)=[]:=fun _=>rfl

structure bM where
 f_a:Int
 f_b:Int
 f_d:Int
 deriving Inhabited

structure aj where
 Negative:Bool
 Groups:List Int
 deriving Inhabited

structure an where
 Num:aj
 Den:aj
 deriving Inhabited

structure jG where
 X:an
 Y:an
 deriving Inhabited

structure A4 (α:Type) where
 e0:α
 e1:α
 e2:α
 e3:α
 deriving Inhabited

def bg.c(x:A4 Int):List AV:=[.at (.int .u64 x.e0),.at (.int .u64 x.e1),.at (.int .u64 x.e2),.at (.int .u64 x.e3)]
theorem bg.len:∀x,(bg.c x).length=4:=fun _=>rfl
theorem bg.pure:∀x,dd (bg.c x)=[]:=fun _=>rfl

def A4.get(x:A4 Int)(j:Int):Int:=gt [x.e0,x.e1,x.e2,x.e3] j
def A4.put(x:A4 Int)(j v:Int):A4 Int:=⟨if j.toNat=0 then v else x.e0,if j.toNat=1 then v else x.e1,if j.toNat=2 then v else x.e2,if j.toNat=3 then v else x.e3⟩
theorem A4.FL{k:IntKind}(x:A4 Int){j:Int}(v:Int)(h:inR j 4=true):setCells [.at (.int k x.e0),.at (.int k x.e1),.at (.int k x.e2),.at (.int k x.e3)] j.toNat [.at (.int k v)]=[.at (.int k (x.put j v).e0),.at (.int k (x.put j v).e1),.at (.int k (x.put j v).e2),.at (.int k (x.put j v).e3)]:=by
 have h1:=aN h;have q:j.toNat=0\/j.toNat=1\/j.toNat=2\/j.toNat=3:=by omega
 unfold A4.put;rcases q with e|e|e|e<;>simp only[e]<;>rfl

structure au where
 X:Int
 Y:Int
 Z:Int
 deriving Inhabited

structure aT where
 A:Int
 B:Int
 C:Int
 D:Int
 deriving Inhabited

structure ah where
 At:au
 Turn:aT
 Focal:Int
 Centre:aE
 deriving Inhabited

structure A2 (α:Type) where
 e0:α
 e1:α
 deriving Inhabited

structure ar where
 Kind:Int
 A:Int
 B:Int
 Axis:Int
 Value:A2 Int
 Weight:Int
 deriving Inhabited

structure aJ where
 Dim:Int
 Stations:List ah
 Points:List au
 Obs:List ar
 deriving Inhabited

def au.c(x:au):List AV:=[.at (.int .i64 x.X),.at (.int .i64 x.Y),.at (.int .i64 x.Z)]
theorem au.len:∀x,(au.c x).length=3:=fun _=>rfl
theorem au.pure:∀x,dd (au.c x)=[]:=fun _=>rfl

def ar.c(x:ar):List AV:=[.at (.int .i64 x.Kind),.at (.int .i64 x.A),.at (.int .i64 x.B),.at (.int .i64 x.Axis),.at (.int .i64 x.Value.e0),.at (.int .i64 x.Value.e1),.at (.int .i64 x.Weight)]
theorem ar.len:∀x,(ar.c x).length=7:=fun _=>rfl
theorem ar.pure:∀x,dd (ar.c x)=[]:=fun _=>rfl

def ah.c(x:ah):List AV:=[.at (.int .i64 x.At.X),.at (.int .i64 x.At.Y),.at (.int .i64 x.At.Z),.at (.int .i64 x.Turn.A),.at (.int .i64 x.Turn.B),.at (.int .i64 x.Turn.C),.at (.int .i64 x.Turn.D),.at (.int .i64 x.Focal),.at (.int .i64 x.Centre.X),.at (.int .i64 x.Centre.Y)]
theorem ah.len:∀x,(ah.c x).length=10:=fun _=>rfl
theorem ah.pure:∀x,dd (ah.c x)=[]:=fun _=>rfl

def an.c(x:an):List AV:=[.at (.bool x.Num.Negative),slT (iC .u32) x.Num.Groups,.at (.bool x.Den.Negative),slT (iC .u32) x.Den.Groups]
theorem an.len:∀x,(an.c x).length=4:=fun _=>rfl
theorem an.pure:∀x,dd (an.c x)=[]:=fun _=>rfl

structure cz where
 f_a:Int
 f_b:Int
 f_axis:Int
 deriving Inhabited,DecidableEq

def cm.K(x:cz):Value:=.agg #[.int .i64 x.f_a,.int .i64 x.f_b,.int .i64 x.f_axis]
theorem cm.key:BG cm.K:=fun⟨a0,j,a2⟩ ⟨q,z,C⟩=>by
 have h:((⟨a0,j,a2⟩:cz)==⟨q,z,C⟩)=(a0==q&&(j==z&&(a2==C&&true))):=by rw[Bool.eq_iff_iff];simp
 show some _=some _;rw[h]

def aA.K(x:A3 Int):Value:=.agg #[.int .i64 x.e0,.int .i64 x.e1,.int .i64 x.e2]
theorem aA.key:BG aA.K:=fun⟨a0,j,a2⟩ ⟨q,z,C⟩=>by
 have h:((⟨a0,j,a2⟩:A3 Int)==⟨q,z,C⟩)=(a0==q&&(j==z&&(a2==C&&true))):=by rw[Bool.eq_iff_iff];simp
 show some _=some _;rw[h]

def bX.c(x:A3 Int):List AV:=[.at (.int .i64 x.e0),.at (.int .i64 x.e1),.at (.int .i64 x.e2)]
theorem bX.len:∀x,(bX.c x).length=3:=fun _=>rfl
theorem bX.pure:∀x,dd (bX.c x)=[]:=fun _=>rfl

structure ae where
 Op:Int
 A:Int
 B:Int
 N:an
 deriving Inhabited

def ae.c(x:ae):List AV:=[.at (.int .i64 x.Op),.at (.int .i64 x.A),.at (.int .i64 x.B),.at (.bool x.N.Num.Negative),slT (iC .u32) x.N.Num.Groups,.at (.bool x.N.Den.Negative),slT (iC .u32) x.N.Den.Groups]
theorem ae.len:∀x,(ae.c x).length=7:=fun _=>rfl
theorem ae.pure:∀x,dd (ae.c x)=[]:=fun _=>rfl

structure aD where
 f_op:Int
 f_a:Int
 f_b:Int
 f_n:Int
 deriving Inhabited,DecidableEq

def ak.K(x:aD):Value:=.agg #[.int .i64 x.f_op,.int .i64 x.f_a,.int .i64 x.f_b,.int .i64 x.f_n]
theorem ak.key:BG ak.K:=fun⟨a0,j,a2,a3⟩ ⟨q,z,C,D⟩=>by
 have h:((⟨a0,j,a2,a3⟩:aD)==⟨q,z,C,D⟩)=(a0==q&&(j==z&&(a2==C&&(a3==D&&true)))):=by rw[Bool.eq_iff_iff];simp
 show some _=some _;rw[h]

structure aa where
 f_minus:Bool
 f_n:Int
 f_at:Int
 deriving Inhabited

def aa.c(x:aa):List AV:=[.at (.bool x.f_minus),.at (.int .i64 x.f_n),.at (.int .i64 x.f_at)]
theorem aa.len:∀x,(aa.c x).length=3:=fun _=>rfl
theorem aa.pure:∀x,dd (aa.c x)=[]:=fun _=>rfl

def A2.get(x:A2 Int)(j:Int):Int:=gt [x.e0,x.e1] j
def A2.put(x:A2 Int)(j v:Int):A2 Int:=⟨if j.toNat=0 then v else x.e0,if j.toNat=1 then v else x.e1⟩
theorem A2.FL{k:IntKind}(x:A2 Int){j:Int}(v:Int)(h:inR j 2=true):setCells [.at (.int k x.e0),.at (.int k x.e1)] j.toNat [.at (.int k v)]=[.at (.int k (x.put j v).e0),.at (.int k (x.put j v).e1)]:=by
 have h1:=aN h;have q:j.toNat=0\/j.toNat=1:=by omega
 unfold A2.put;rcases q with e|e<;>simp only[e]<;>rfl

def aF.c(x:aF):List AV:=[.at (.int .i64 x.Width),.at (.int .i64 x.Height),.at (.int .i64 x.Low),.at (.int .i64 x.High),.at (.int .i64 x.Across),.at (.int .i64 x.Along),.at (.int .i64 x.Focal),.at (.int .i64 x.Overlap),.at (.int .i64 x.Sidelap),.at (.int .i64 x.Views)]
theorem aF.len:∀x,(aF.c x).length=10:=fun _=>rfl
theorem aF.pure:∀x,dd (aF.c x)=[]:=fun _=>rfl

def jG.c(x:jG):List AV:=[.at (.bool x.X.Num.Negative),slT (iC .u32) x.X.Num.Groups,.at (.bool x.X.Den.Negative),slT (iC .u32) x.X.Den.Groups,.at (.bool x.Y.Num.Negative),slT (iC .u32) x.Y.Num.Groups,.at (.bool x.Y.Den.Negative),slT (iC .u32) x.Y.Den.Groups]
theorem jG.len:∀x,(jG.c x).length=8:=fun _=>rfl
theorem jG.pure:∀x,dd (jG.c x)=[]:=fun _=>rfl

def aJ.c(x:aJ):List AV:=[.at (.int .i64 x.Dim),slT ah.c x.Stations,slT au.c x.Points,slT ar.c x.Obs]
theorem aJ.len:∀x,(aJ.c x).length=4:=fun _=>rfl
theorem aJ.pure:∀x,dd (aJ.c x)=[]:=fun _=>rfl

def aT.c(x:aT):List AV:=[.at (.int .i64 x.A),.at (.int .i64 x.B),.at (.int .i64 x.C),.at (.int .i64 x.D)]
theorem aT.len:∀x,(aT.c x).length=4:=fun _=>rfl
theorem aT.pure:∀x,dd (aT.c x)=[]:=fun _=>rfl

def aD.c(x:aD):List AV:=[.at (.int .i64 x.f_op),.at (.int .i64 x.f_a),.at (.int .i64 x.f_b),.at (.int .i64 x.f_n)]
theorem aD.len:∀x,(aD.c x).length=4:=fun _=>rfl
theorem aD.pure:∀x,dd (aD.c x)=[]:=fun _=>rfl

def bM.c(x:bM):List AV:=[.at (.int .i64 x.f_a),.at (.int .i64 x.f_b),.at (.int .i64 x.f_d)]
theorem bM.len:∀x,(bM.c x).length=3:=fun _=>rfl
theorem bM.pure:∀x,dd (bM.c x)=[]:=fun _=>rfl

def cz.c(x:cz):List AV:=[.at (.int .i64 x.f_a),.at (.int .i64 x.f_b),.at (.int .i64 x.f_axis)]
theorem cz.len:∀x,(cz.c x).length=3:=fun _=>rfl
theorem cz.pure:∀x,dd (cz.c x)=[]:=fun _=>rfl

def aK.c(x:aK):List AV:=[.at (.int .i64 x.Height),slT (slC aE.c) x.Strips]
theorem aK.len:∀x,(aK.c x).length=2:=fun _=>rfl
theorem aK.pure:∀x,dd (aK.c x)=[]:=fun _=>rfl

def aj.c(x:aj):List AV:=[.at (.bool x.Negative),slT (iC .u32) x.Groups]
theorem aj.len:∀x,(aj.c x).length=2:=fun _=>rfl
theorem aj.pure:∀x,dd (aj.c x)=[]:=fun _=>rfl

def gQ(n:Nat):Option (aF):=
 some (aF.mk 100 30 0 0 40 64 64 60 20 1)

def fl(n:Nat)(q:Int)(j:Int):Option (Bool):=
 cdO (decide (q>=1)) (
 some (decide (q<=j))
 ) (
 some (false)
 )

def fB(n:Nat)(j:Int):Option (Bool):=
 cdO (decide (j>=(-1048576))) (
 some (decide (j<=1048576))
 ) (
 some (false)
 )

def jk(n:Nat)(j:Int):Option (Bool):=
 cdO (decide (j>=0)) (
 some (decide (j<=95))
 ) (
 some (false)
 )

def nD(n:Nat)(s:aF):Option (Int):=
 bdO (fl n s.Width 1048576) fun v1=>(
 cdO (!v1) (
 some (2)
 ) (
 bdO (fl n s.Height 1048576) fun v4=>(
 cdO (!v4) (
 some (2)
 ) (
 bdO (fB n s.Low) fun C=>(
 cdO (!C) (
 some (2)
 ) (
 bdO (fB n s.High) fun v10=>(
 cdO (!v10) (
 some (2)
 ) (
 bdO (fl n s.Across 1048576) fun j=>(
 cdO (!j) (
 some (2)
 ) (
 bdO (fl n s.Along 1048576) fun q=>(
 cdO (!q) (
 some (2)
 ) (
 bdO (fl n s.Focal 1048576) fun z=>(
 cdO (!z) (
 some (2)
 ) (
 bdO (jk n s.Overlap) fun v22=>(
 cdO (!v22) (
 some (2)
 ) (
 bdO (jk n s.Sidelap) fun v25=>(
 cdO (!v25) (
 some (2)
 ) (
 bdO (fl n s.Views 16) fun v28=>(
 cdO (!v28) (
 some (2)
 ) (
 cdO (decide (s.Low>s.High)) (
 some (5)
 ) (
 some (0)
 )
 )
 )
 )
 )
 )
 )
 )
 )
 )
 )
 )
 )
 )
 )
 )
 )
 )
 )
 )
 )

def pO(n:Nat)(z:Int)(size:Int)(j:Int)(q:Int):Option (bM):=
 gdO (!decide (Hy (2*j)=0)) (
 gdO (!decide (Hy (100*j)=0)) (
 some (bM.mk (Hy (size.tdiv (Hy (2*j)))) (Hy (z-(Hy (size.tdiv (Hy (2*j)))))) (Hy ((Hy ((Hy (100-q))*size)).tdiv (Hy (100*j)))))
 )
 )

def eH(n:Nat)(j:bM):Option (Int):=
 cdO (decide (j.f_b<=j.f_a)) (
 some (1)
 ) (
 cdO ((j.f_d:Int)==0) (
 some (0)
 ) (
 gdO (!decide (j.f_d=0)) (
 some (Hy ((Hy ((Hy ((Hy ((Hy (j.f_b-j.f_a))+j.f_d))-1)).tdiv j.f_d))+1))
 )
 )
 )

def gY(n:Nat)(z:bM)(E:Int):Option (List Int):=
 cdO (decide (z.f_b<=z.f_a)) (
 some ([(mn (mx (Hy (E.tdiv 2)) z.f_b) z.f_a)])
 ) (
 bdO (aV (α:=List Int×Int) (β:=List Int) n (fun j (q,C)=>(
 cdO (decide (C<z.f_b)) (
 gdO (decide ((q.length+1)*8<=140737488355328)) (
 gdO (decide (q.length+1<=4611686018427387904)) (
 j (q++[C],Hy (C+z.f_d))
 )
 )
 ) (
 some (q)
 )
 )) ([],z.f_a)) fun D=>(
 gdO (decide ((D.length+1)*8<=140737488355328)) (
 gdO (decide (D.length+1<=4611686018427387904)) (
 some (D++[z.f_b])
 )
 )
 )
 )

def th(n:Nat)(s:aF)(j:Int):Option (aK×Int):=
 bdO (nD n s) fun v1=>(
 cdO ((v1:Int)!=0) (
 some ((aK.mk 0 [],v1))
 ) (
 bdO (fB n j) fun v5=>(
 cdO (!v5) (
 some ((aK.mk 0 [],2))
 ) (
 cdO (decide (j<=s.High)) (
 some ((aK.mk 0 [],20))
 ) (
 bdO (pO n s.Width (Hy (s.Along*(Hy (j-s.High)))) s.Focal s.Overlap) fun v11=>(
 bdO (pO n s.Height (Hy (s.Across*(Hy (j-s.High)))) s.Focal s.Sidelap) fun N=>(
 bdO (eH n v11) fun J=>(
 bdO (eH n N) fun v17=>(
 cdO ((J:Int)==0) (
 some ((aK.mk 0 [],13))
 ) (
 cdO ((v17:Int)==0) (
 some ((aK.mk 0 [],13))
 ) (
 cdO (decide (J>256)) (
 some ((aK.mk 0 [],3))
 ) (
 cdO (decide (v17>256)) (
 some ((aK.mk 0 [],3))
 ) (
 cdO (decide ((Hy (J*v17))>256)) (
 some ((aK.mk 0 [],3))
 ) (
 bdO (gY n N s.Height) fun v26=>(
 bdO (aV (α:=List (List aE)×Int) (β:=List (List aE)) n (fun E (q,z)=>(
 cdO (decide (z<(v26.length:Int))) (
 gdO (inR z v26.length) (
 bdO (gY n v11 s.Width) fun v59=>(
 bdO (aV (α:=List aE×Int) (β:=List aE) n (fun I (C,D)=>(
 cdO (decide (D<(v59.length:Int))) (
 gdO (inR D v59.length) (
 gdO (decide ((C.length+1)*16<=140737488355328)) (
 gdO (decide (C.length+1<=4611686018427387904)) (
 I (C++[aE.mk (gt v59 D) (gt v26 z)],Hy (D+1))
 )
 )
 )
 ) (
 some (C)
 )
 )) ([],0)) fun O=>(
 gdO (decide ((q.length+1)*24<=140737488355328)) (
 gdO (decide (q.length+1<=4611686018427387904)) (
 E (q++[O],Hy (z+1))
 )
 )
 )
 )
 )
 ) (
 some (q)
 )
 )) ([],0)) fun R=>(
 some ((aK.mk j R,0))
 )
 )
 )
 )
 )
 )
 )
 )
 )
 )
 )
 )
 )
 )
 )
 )

def jN(n:Nat)(f:aK):Option (Int):=
 bdO (fB n f.Height) fun v1=>(
 cdO (!v1) (
 some (2)
 ) (
 bdO (aV (α:=Int×Int) (β:=Sum (Int) (Int)) n (fun z (E,q)=>(
 cdO (decide (q<(f.Strips.length:Int))) (
 gdO (inR q f.Strips.length) (
 bdO (aV (α:=Int×Int) (β:=Sum (Int) (Int)) n (fun C (D,j)=>(
 cdO (decide (j<((gt f.Strips q).length:Int))) (
 gdO (inR j (gt f.Strips q).length) (
 bdO (fB n (gt (gt f.Strips q) j).X) fun N=>(
 cdO (!N) (
 some (Sum.inr (2))
 ) (
 bdO (fB n (gt (gt f.Strips q) j).Y) fun v59=>(
 cdO (!v59) (
 some (Sum.inr (2))
 ) (
 C (Hy (D+1),Hy (j+1))
 )
 )
 )
 )
 )
 ) (
 some (Sum.inl D)
 )
 )) (E,0)) fun O=>(
 match O with
 |.inl I=>(
 z (I,Hy (q+1))
 )
 |.inr (r0)=>(
 some (Sum.inr (r0))
 ))
 )
 ) (
 some (Sum.inl E)
 )
 )) (0,0)) fun R=>(
 match R with
 |.inl J=>(
 cdO (decide (J>256)) (
 some (3)
 ) (
 some (0)
 )
 )
 |.inr (r0)=>(
 some r0
 ))
 )
 )

def rG(n:Nat)(l:List aE):Option (Bool):=
 some (((l.length:Int):Int)==0)

def cw(n:Nat)(s:List (List aE)):Option (Int):=
 bdO (aV (α:=Int) (β:=Sum (Unit) (Int)) n (fun q j=>(
 cdO (decide (j<(s.length:Int))) (
 gdO (inR j s.length) (
 bdO (rG n (gt s j)) fun v10=>(
 cdO v10 (
 some (Sum.inr (j))
 ) (
 q (Hy (j+1))
 )
 )
 )
 ) (
 some (Sum.inl ())
 )
 )) 0) fun z=>(
 match z with
 |.inl _=>(
 some ((-1))
 )
 |.inr (r0)=>(
 some r0
 ))

def ck(n:Nat)(s:List (List aE)):Option (Bool):=
 bdO (cw n s) fun v1=>(
 some (decide (v1>=0))
 )

def pG(n:Nat)(s:aF)(f:aK)(ground:Int)(empty:Bool):Option (Int):=
 bdO (nD n s) fun v1=>(
 cdO ((v1:Int)!=0) (
 some (v1)
 ) (
 bdO (jN n f) fun v5=>(
 cdO ((v5:Int)!=0) (
 some (v5)
 ) (
 bdO (fB n ground) fun v9=>(
 cdO (!v9) (
 some (2)
 ) (
 cdO (!empty) (
 cdO (((f.Strips.length:Int):Int)==0) (
 some (6)
 ) (
 bdO (ck n f.Strips) fun j=>(
 cdO j (
 some (6)
 ) (
 cdO (decide (f.Height<=ground)) (
 some (20)
 ) (
 some (0)
 )
 )
 )
 )
 ) (
 cdO (decide (f.Height<=ground)) (
 some (20)
 ) (
 some (0)
 )
 )
 )
 )
 )
 )
 )
 )

def ch(n:Nat)(j:Int):Option (List aE):=
 gdO (!(decide (j<0))) (
 cdO (decide ((Hy (j-0))>0)) (
 gdO (decide (0<(Hy (j-0)))) (
 gdO (decide ((Hy (j-0))<=4611686018427387904)) (
 gdO (decide ((Hy (j-0)).toNat*16<=140737488355328)) (
 gdO (inS 0 0 (List.replicate (Hy (j-0)).toNat (aE.mk 0 0)).length) (
 some ((List.replicate (Hy (j-0)).toNat (aE.mk 0 0)).take (0:Int).toNat)
 )
 )
 )
 )
 ) (
 some ([])
 )
 )

def cj(n:Nat)(j:List (List aE)):Option (List aE):=
 bdO (aV (α:=Int×Int) (β:=Int) n (fun E (I,C)=>(
 cdO (decide (C<(j.length:Int))) (
 gdO (inR C j.length) (
 gdO (!(decide ((Hy (I+((gt j C).length:Int)))<0))) (
 E (Hy (I+((gt j C).length:Int)),Hy (C+1))
 )
 )
 ) (
 some (I)
 )
 )) (0,0)) fun N=>(
 bdO (ch n N) fun O=>(
 bdO (aV (α:=List aE×Int) (β:=List aE) n (fun D (z,q)=>(
 cdO (decide (q<(j.length:Int))) (
 gdO (inR q j.length) (
 gdO (decide ((z.length+(gt j q).length)*16<=140737488355328)) (
 gdO (decide (z.length+(gt j q).length<=4611686018427387904)) (
 D (z++(gt j q),Hy (q+1))
 )
 )
 )
 ) (
 some (z)
 )
 )) (O,0)) fun J=>(
 some (J)
 )
 )
 )

def cmp_isNaN_int(n:Nat)(j:Int):Option (Bool):=
 some ((j:Int)!=j)

def fh(n:Nat)(j:List Int):Option (List Int):=
 gdO (decide (j.length<4611686018427387904)) (
 some (sI j)
 )

def fj(n:Nat)(s:List Int):Option (List Int):=
 cdO (decide ((s.length:Int)<2)) (
 some (s)
 ) (
 bdO (aV (α:=Int) (β:=Sum (Unit) (List Int)) n (fun J q=>(
 cdO (decide (q<(s.length:Int))) (
 gdO (inR q s.length) (
 gdO (inR (Hy (q-1)) s.length) (
 cdO (((gt s q):Int)==(gt s (Hy (q-1)))) (
 gdO (inS q (s.length:Int) s.length) (
 bdO (aV (α:=List Int×Int×Int) (β:=List Int×Int) n (fun I (z,C,j)=>(
 cdO (decide (j<((s.length-q.toNat:Nat):Int))) (
 gdO (inR j (s.length-q.toNat)) (
 gdO (inR ((q.toNat+j.toNat:Nat):Int) z.length) (
 gdO (inR (Hy (j-1)) (s.length-q.toNat)) (
 gdO (inR ((q.toNat+(Hy (j-1)).toNat:Nat):Int) z.length) (
 cdO (((gt z ((q.toNat+j.toNat:Nat):Int)):Int)!=(gt z ((q.toNat+(Hy (j-1)).toNat:Nat):Int))) (
 gdO (inR C z.length) (
 I (z.set C.toNat (gt z ((q.toNat+j.toNat:Nat):Int)),Hy (C+1),Hy (j+1))
 )
 ) (
 I (z,C,Hy (j+1))
 )
 )
 )
 )
 )
 ) (
 some ((z,C))
 )
 )) (s,q,1)) fun N=>(
 match N with
 |(D,E)=>(
 gdO (inS E (D.length:Int) D.length) (
 gdO (inS 0 E D.length) (
 some (Sum.inr (((pU D E.toNat (List.replicate (D.length-E.toNat) ((0:Int):Int))).take E.toNat)))
 )
 )
 ))
 )
 ) (
 J (Hy (q+1))
 )
 )
 )
 ) (
 some (Sum.inl ())
 )
 )) 1) fun O=>(
 match O with
 |.inl _=>(
 some (s)
 )
 |.inr (r0)=>(
 some r0
 ))
 )

def oV(n:Nat)(n':Int)(C:Int)(size:Int)(T:List Int):Option (List Int×List (A4 Int)):=
 bdO (aV (α:=List Int×Int) (β:=List Int) n (fun a1 (a8,O)=>(
 cdO (decide (O<(T.length:Int))) (
 gdO (inR O T.length) (
 bdO (aV (α:=List Int×Int) (β:=List Int) n (fun E (R,I)=>(
 cdO (decide (I<2)) (
 gdO (inR I ([Hy ((Hy ((gt T O)*(Hy (4*C))))-(Hy (2*size))),Hy ((Hy ((gt T O)*(Hy (4*C))))+(Hy (2*size)))].length)) (
 bdO (some ((gt [Hy ((Hy ((gt T O)*(Hy (4*C))))-(Hy (2*size))),Hy ((Hy ((gt T O)*(Hy (4*C))))+(Hy (2*size)))] I))) fun a6=>(
 cdO (decide (a6>0)) (
 cdO (decide (a6<(Hy (n'*(Hy (4*C)))))) (
 gdO (decide ((R.length+1)*8<=140737488355328)) (
 gdO (decide (R.length+1<=4611686018427387904)) (
 E (R++[a6],Hy (I+1))
 )
 )
 ) (
 E (R,Hy (I+1))
 )
 ) (
 E (R,Hy (I+1))
 )
 )
 )
 ) (
 some (R)
 )
 )) (a8,0)) fun b2=>(
 a1 (b2,Hy (O+1))
 )
 )
 ) (
 some (a8)
 )
 )) ([(0:Int),Hy (n'*(Hy (4*C)))],0)) fun b0=>(
 bdO (fh n b0) fun v127=>(
 gdO (decide (v127.length=b0.length)) (
 bdO (fj n v127) fun v130=>(
 bdO (aV (α:=List Int×Int) (β:=List Int) n (fun Y (q,J)=>(
 cdO (decide (J<(Hy ((v130.length:Int)-1)))) (
 gdO (inR J q.length) (
 gdO (inR (Hy (J+1)) q.length) (
 gdO (decide ((q.length+1)*8<=140737488355328)) (
 gdO (decide (q.length+1<=4611686018427387904)) (
 Y (q++[Hy ((Hy ((gt q J)+(gt q (Hy (J+1))))).tdiv 2)],Hy (J+1))
 )
 )
 )
 )
 ) (
 some (q)
 )
 )) (v130,0)) fun D=>(
 bdO (fh n D) fun U=>(
 gdO (decide (U.length=D.length)) (
 gdO (decide (0<=(D.length:Int))) (
 gdO (decide ((32:Int)*(D.length:Int)<=281474976710656)) (
 gdO (decide ((D.length:Int)<=9223372036854775807)) (
 bdO (aV (α:=List (A4 Int)×Int) (β:=List (A4 Int)) n (fun Z (a7,z)=>(
 cdO (decide (z<(D.length:Int))) (
 gdO (inR z U.length) (
 bdO (aV (α:=List (A4 Int)×Int) (β:=List (A4 Int)) n (fun S (N,j)=>(
 cdO (decide (j<(T.length:Int))) (
 gdO (inR j T.length) (
 bdO (some (Hy ((gt U z)-(Hy ((gt T j)*(Hy (4*C))))))) fun b1=>(
 bdO (α:=Bool) (
 cdO (decide (b1<=(Hy (2*size)))) (
 some (decide ((Hy (0-b1))<=(Hy (2*size))))
 ) (
 some (false)
 )
 ) fun b3=>(
 cdO b3 (
 gdO (inR z N.length) (
 gdO (inR (Hy (j.tdiv 64)) 4) (
 gdO (decide (0<=(j.tmod 64))) (
 S (N.set z.toNat (A4.put (gt N z) (Hy (j.tdiv 64)) (nY .or .u64 (A4.get (gt N z) (Hy (j.tdiv 64))) (vS .u64 (1:Int) (j.tmod 64)))),Hy (j+1))
 )
 )
 )
 ) (
 S (N,Hy (j+1))
 )
 )
 )
 )
 ) (
 some (N)
 )
 )) (a7,0)) fun b4=>(
 Z (b4,Hy (z+1))
 )
 )
 ) (
 some (a7)
 )
 )) (List.replicate (D.length:Int).toNat (A4.mk 0 0 0 0:A4 Int),0)) fun b5=>(
 some ((U,b5))
 )
 )
 )
 )
 )
 )
 )
 )
 )
 )
 )

def fg(n:Nat)(q:Int):Option (Int):=
 bdO (some (af .u64 ((nY .and .u64 (q.fdiv (2^1)) 6148914691236517205)+(nY .and .u64 q 6148914691236517205)))) fun z=>(
 bdO (some (af .u64 ((nY .and .u64 (z.fdiv (2^2)) 3689348814741910323)+(nY .and .u64 z 3689348814741910323)))) fun C=>(
 bdO (some (nY .and .u64 (af .u64 ((C.fdiv (2^4))+C)) 1085102592571150095)) fun j=>(
 bdO (some (af .u64 ((af .u64 (j+(j.fdiv (2^8))))+((af .u64 (j+(j.fdiv (2^8)))).fdiv (2^16))))) fun D=>(
 some (nY .and .i64 (Hy (af .u64 (D+(D.fdiv (2^32))))) 127)
 )
 )
 )
 )

def mi(n:Nat)(a:A4 Int)(b:A4 Int):Option (Int):=
 bdO (aV (α:=Int×Int) (β:=Int) n (fun q (z,j)=>(
 cdO (decide (j<4)) (
 gdO (inR j 4) (
 bdO (fg n (nY .and .u64 (A4.get a j) (A4.get b j))) fun C=>(
 q (Hy (z+C),Hy (j+1))
 )
 )
 ) (
 some (z)
 )
 )) (0,0)) fun D=>(
 some (D)
 )

def dL(n:Nat)(D:Int):Option (List Int):=
 bdO (aV (α:=Int×List Int) (β:=List Int) n (fun j (z,q)=>(
 cdO (decide (z>0)) (
 gdO (decide ((q.length+1)*4<=140737488355328)) (
 gdO (decide (q.length+1<=4611686018427387904)) (
 j (af .u64 (z.tdiv 1000000000),q++[af .u32 (z.tmod 1000000000)])
 )
 )
 ) (
 some (q)
 )
 )) (D,[])) fun C=>(
 some (C)
 )

def fm(n:Nat)(g:List Int):Option (List Int):=
 bdO (aV (α:=List Int) (β:=List Int) n (fun q j=>(
 cdO (decide ((j.length:Int)>0)) (
 gdO (inR (Hy ((j.length:Int)-1)) j.length) (
 cdO (((gt j (Hy ((j.length:Int)-1))):Int)==0) (
 gdO (inS 0 (Hy ((j.length:Int)-1)) j.length) (
 q ((j.drop (0:Int).toNat).take ((Hy ((j.length:Int)-1)).toNat-(0:Int).toNat))
 )
 ) (
 some (j)
 )
 )
 ) (
 some (j)
 )
 )) g) fun z=>(
 some (z)
 )

def cL(n:Nat)(negative:Bool)(g:List Int):Option (aj):=
 bdO (fm n g) fun v1=>(
 cdO (((v1.length:Int):Int)==0) (
 some (aj.mk false [])
 ) (
 some (aj.mk negative v1)
 )
 )

def gL(n:Nat)(j:Int):Option (aj):=
 cdO (decide (j<0)) (
 bdO (dL n (af .u64 (0-(af .u64 j)))) fun v2=>(
 bdO (cL n true v2) fun v4=>(
 some (v4)
 )
 )
 ) (
 bdO (dL n (af .u64 j)) fun v6=>(
 bdO (cL n false v6) fun q=>(
 some (q)
 )
 )
 )

def oA(n:Nat)(g:Int):Option (Bool):=
 some (decide (g>=1000000000))

def cC(n:Nat)(s:List Int):Option (Int):=
 bdO (aV (α:=Int) (β:=Sum (Unit) (Int)) n (fun q j=>(
 cdO (decide (j<(s.length:Int))) (
 gdO (inR j s.length) (
 bdO (oA n (gt s j)) fun v10=>(
 cdO v10 (
 some (Sum.inr (j))
 ) (
 q (Hy (j+1))
 )
 )
 )
 ) (
 some (Sum.inl ())
 )
 )) 0) fun z=>(
 match z with
 |.inl _=>(
 some ((-1))
 )
 |.inr (r0)=>(
 some r0
 ))

def bO(n:Nat)(s:List Int):Option (Bool):=
 bdO (cC n s) fun v1=>(
 some (decide (v1>=0))
 )

def fE(n:Nat)(j:aj):Option (Bool):=
 cdO (((j.Groups.length:Int):Int)==0) (
 some (!j.Negative)
 ) (
 gdO (inR (Hy ((j.Groups.length:Int)-1)) j.Groups.length) (
 cdO (((gt j.Groups (Hy ((j.Groups.length:Int)-1))):Int)!=0) (
 bdO (bO n j.Groups) fun v4=>(
 some (!v4)
 )
 ) (
 some (false)
 )
 )
 )

def fY(n:Nat)(j:aj):Option (aj):=
 bdO (fE n j) fun v1=>(
 cdO v1 (
 some (j)
 ) (
 bdO (gL n 0) fun v4=>(
 some (v4)
 )
 )
 )

def cD(n:Nat)(j:aj):Option (List Int):=
 bdO (fE n j) fun v1=>(
 cdO (!v1) (
 some ([])
 ) (
 some (j.Groups)
 )
 )

def eW(n:Nat)(j:aj):Option (Int):=
 bdO (cD n j) fun v1=>(
 cdO (((v1.length:Int):Int)==0) (
 some (0)
 ) (
 cdO j.Negative (
 some ((-1))
 ) (
 some (1)
 )
 )
 )

def dq(n:Nat)(s:List Int):Option (List Int):=
 gdO (decide ((0+s.length)*4<=140737488355328)) (
 gdO (decide (0+s.length<=4611686018427387904)) (
 some (s)
 )
 )

def ft(n:Nat)(j:aj):Option (aj):=
 bdO (cD n j) fun v1=>(
 bdO (dq n v1) fun v3=>(
 bdO (cL n (!j.Negative) v3) fun v5=>(
 some (v5)
 )
 )
 )




def kr(n:Nat)(a:List Int)(b:List Int):Option (List Int):=
 gdO (decide (0<=Hy ((a.length:Int)+(b.length:Int)))) (
 gdO (decide ((4:Int)*(Hy ((a.length:Int)+(b.length:Int)))<=281474976710656)) (
 gdO (decide (Hy ((a.length:Int)+(b.length:Int))<=9223372036854775807)) (
 bdO (aV (α:=List Int×Int) (β:=List Int) n (fun C (J,q)=>(
 cdO (decide (q<(a.length:Int))) (
 gdO (inR q a.length) (
 bdO (aV (α:=List Int×Int×Int) (β:=List Int×Int) n (fun D (z,E,j)=>(
 cdO (decide (j<(b.length:Int))) (
 gdO (inR j b.length) (
 gdO (inR (Hy (q+j)) z.length) (
 D (z.set (Hy (q+j)).toNat (af .u32 ((af .u64 ((af .u64 ((af .u64 (gt z (Hy (q+j))))+(af .u64 ((af .u64 (gt a q))*(af .u64 (gt b j))))))+E)).tmod 1000000000)),af .u64 ((af .u64 ((af .u64 ((af .u64 (gt z (Hy (q+j))))+(af .u64 ((af .u64 (gt a q))*(af .u64 (gt b j))))))+E)).tdiv 1000000000),Hy (j+1))
 )
 )
 ) (
 some ((z,E))
 )
 )) (J,0,0)) fun R=>(
 match R with
 |(I,N)=>(
 gdO (inR (Hy (q+(b.length:Int))) I.length) (
 C (I.set (Hy (q+(b.length:Int))).toNat (af .u32 N),Hy (q+1))
 )
 ))
 )
 ) (
 some (J)
 )
 )) (List.replicate (Hy ((a.length:Int)+(b.length:Int))).toNat ((0:Int):Int),0)) fun O=>(
 bdO (fm n O) fun S=>(
 some (S)
 )
 )
 )
 )
 )

def ph(n:Nat)(g:List Int):Option (List Int):=
 bdO (aV (α:=List Int) (β:=List Int) n (fun q j=>(
 cdO (decide ((j.length:Int)>0)) (
 gdO (inR (Hy ((j.length:Int)-1)) j.length) (
 cdO (((gt j (Hy ((j.length:Int)-1))):Int)==0) (
 gdO (inS 0 (Hy ((j.length:Int)-1)) j.length) (
 q (j.take (Hy ((j.length:Int)-1)).toNat)
 )
 ) (
 some (j)
 )
 )
 ) (
 some (j)
 )
 )) g) fun z=>(
 some (z)
 )

def kf(n:Nat)(a:List Int)(b:List Int):Option (List Int):=
 gdO (decide (0<=Hy ((a.length:Int)+(b.length:Int)))) (
 gdO (decide ((4:Int)*(Hy ((a.length:Int)+(b.length:Int)))<=281474976710656)) (
 gdO (decide (Hy ((a.length:Int)+(b.length:Int))<=9223372036854775807)) (
 bdO (aV (α:=List Int×Int) (β:=List Int) n (fun C (I,j)=>(
 cdO (decide (j<(a.length:Int))) (
 gdO (inR j a.length) (
 bdO (aV (α:=List Int×Int×Int) (β:=List Int×Int) n (fun D (z,E,q)=>(
 cdO (decide (q<(b.length:Int))) (
 gdO (inR q b.length) (
 gdO (inR (Hy (j+q)) z.length) (
 D (z.set (Hy (j+q)).toNat (af .u32 ((af .u64 ((af .u64 ((af .u64 (gt z (Hy (j+q))))+(af .u64 ((af .u64 (gt a j))*(af .u64 (gt b q))))))+E)).tmod 1000000000)),af .u64 ((af .u64 ((af .u64 ((af .u64 (gt z (Hy (j+q))))+(af .u64 ((af .u64 (gt a j))*(af .u64 (gt b q))))))+E)).tdiv 1000000000),Hy (q+1))
 )
 )
 ) (
 some ((z,E))
 )
 )) (I,0,0)) fun R=>(
 match R with
 |(J,N)=>(
 gdO (inR (Hy (j+(b.length:Int))) J.length) (
 C (J.set (Hy (j+(b.length:Int))).toNat (af .u32 N),Hy (j+1))
 )
 ))
 )
 ) (
 some (I)
 )
 )) (List.replicate (Hy ((a.length:Int)+(b.length:Int))).toNat ((0:Int):Int),0)) fun O=>(
 bdO (ph n O) fun S=>(
 some (S)
 )
 )
 )
 )
 )

def iF(n:Nat)(g:List Int)(i:Int):Option (Int):=
 cdO (decide (i<(g.length:Int))) (
 gdO (inR i g.length) (
 some ((gt g i))
 )
 ) (
 some (0)
 )

def jX(n:Nat)(a:List Int)(b:List Int):Option (List Int×List Int):=
 gdO (inR (Hy ((b.length:Int)-1)) b.length) (
 gdO (!decide (af .u64 ((af .u64 (gt b (Hy ((b.length:Int)-1))))+1)=0)) (
 bdO (kf n a [af .u32 (af .u64 ((1000000000:Int).tdiv (af .u64 ((af .u64 (gt b (Hy ((b.length:Int)-1))))+1))))]) fun v3=>(
 bdO (kf n b [af .u32 (af .u64 ((1000000000:Int).tdiv (af .u64 ((af .u64 (gt b (Hy ((b.length:Int)-1))))+1))))]) fun v5=>(
 gdO (decide ((v3.length+1)*4<=140737488355328)) (
 gdO (decide (v3.length+1<=4611686018427387904)) (
 bdO (α:=List Int) (
 cdO (decide (((v3++[(0:Int)]).length:Int)<=(a.length:Int))) (
 gdO (decide (((v3++[(0:Int)]).length+1)*4<=140737488355328)) (
 gdO (decide ((v3++[(0:Int)]).length+1<=4611686018427387904)) (
 some ((v3++[(0:Int)])++[(0:Int)])
 )
 )
 ) (
 some (v3++[(0:Int)])
 )
 ) fun b1=>(
 gdO (decide (0<=Hy ((b1.length:Int)-(v5.length:Int)))) (
 gdO (decide ((4:Int)*(Hy ((b1.length:Int)-(v5.length:Int)))<=281474976710656)) (
 gdO (decide (Hy ((b1.length:Int)-(v5.length:Int))<=9223372036854775807)) (
 bdO (aV (α:=List Int×List Int×Int) (β:=List Int×List Int) n (fun S (a6,O,j)=>(
 cdO (decide (j>=0)) (
 bdO (iF n O (Hy (j+(v5.length:Int)))) fun b3=>(
 gdO (inR (Hy ((Hy (j+(v5.length:Int)))-1)) O.length) (
 gdO (inR (Hy ((v5.length:Int)-1)) v5.length) (
 gdO (!decide (af .u64 (gt v5 (Hy ((v5.length:Int)-1)))=0)) (
 bdO (aV (α:=Int×Int) (β:=Int) n (fun T (C,R)=>(
 cdO (decide (C>=1000000000)) (
 cdO (decide ((af .u64 (R+(af .u64 (gt v5 (Hy ((v5.length:Int)-1))))))>=1000000000)) (
 some (af .u64 (C-1))
 ) (
 T (af .u64 (C-1),af .u64 (R+(af .u64 (gt v5 (Hy ((v5.length:Int)-1))))))
 )
 ) (
 gdO (inR (Hy ((v5.length:Int)-2)) v5.length) (
 gdO (inR (Hy ((Hy (j+(v5.length:Int)))-2)) O.length) (
 cdO (decide ((af .u64 (C*(af .u64 (gt v5 (Hy ((v5.length:Int)-2))))))>(af .u64 ((af .u64 (R*1000000000))+(af .u64 (gt O (Hy ((Hy (j+(v5.length:Int)))-2)))))))) (
 cdO (decide ((af .u64 (R+(af .u64 (gt v5 (Hy ((v5.length:Int)-1))))))>=1000000000)) (
 some (af .u64 (C-1))
 ) (
 T (af .u64 (C-1),af .u64 (R+(af .u64 (gt v5 (Hy ((v5.length:Int)-1))))))
 )
 ) (
 some (C)
 )
 )
 )
 )
 )) (af .u64 ((af .u64 ((af .u64 ((af .u64 b3)*1000000000))+(af .u64 (gt O (Hy ((Hy (j+(v5.length:Int)))-1)))))).tdiv (af .u64 (gt v5 (Hy ((v5.length:Int)-1))))),(af .u64 ((af .u64 ((af .u64 b3)*1000000000))+(af .u64 (gt O (Hy ((Hy (j+(v5.length:Int)))-1)))))).tmod (af .u64 (gt v5 (Hy ((v5.length:Int)-1)))))) fun D=>(
 bdO (aV (α:=List Int×Int×Int×Int) (β:=List Int×Int×Int) n (fun U (E,Z,J,q)=>(
 cdO (decide (q<(v5.length:Int))) (
 gdO (inR q v5.length) (
 gdO (inR (Hy (q+j)) E.length) (
 cdO (decide ((Hy ((Hy ((Hy (gt E (Hy (q+j))))-Z))-(Hy ((af .u64 ((af .u64 (D*(af .u64 (gt v5 q))))+J)).tmod 1000000000))))<0)) (
 U (E.set (Hy (q+j)).toNat (af .u32 (Hy ((Hy ((Hy ((Hy (gt E (Hy (q+j))))-Z))-(Hy ((af .u64 ((af .u64 (D*(af .u64 (gt v5 q))))+J)).tmod 1000000000))))+1000000000))),1,af .u64 ((af .u64 ((af .u64 (D*(af .u64 (gt v5 q))))+J)).tdiv 1000000000),Hy (q+1))
 ) (
 U (E.set (Hy (q+j)).toNat (af .u32 (Hy ((Hy ((Hy (gt E (Hy (q+j))))-Z))-(Hy ((af .u64 ((af .u64 (D*(af .u64 (gt v5 q))))+J)).tmod 1000000000))))),0,af .u64 ((af .u64 ((af .u64 (D*(af .u64 (gt v5 q))))+J)).tdiv 1000000000),Hy (q+1))
 )
 )
 )
 ) (
 some ((E,Z,J))
 )
 )) (O,0,0,0)) fun b6=>(
 match b6 with
 |(N,a7,a8)=>(
 gdO (inR (Hy (j+(v5.length:Int))) N.length) (
 cdO (decide ((Hy ((Hy ((Hy (gt N (Hy (j+(v5.length:Int)))))-a7))-(Hy a8)))<0)) (
 bdO (aV (α:=List Int×Int×Int) (β:=List Int×Int) n (fun Y (I,a1,z)=>(
 cdO (decide (z<(v5.length:Int))) (
 gdO (inR (Hy (z+j)) I.length) (
 gdO (inR z v5.length) (
 cdO (decide ((af .u32 ((af .u32 ((gt I (Hy (z+j)))+(gt v5 z)))+a1))>=1000000000)) (
 Y (I.set (Hy (z+j)).toNat (af .u32 ((af .u32 ((af .u32 ((gt I (Hy (z+j)))+(gt v5 z)))+a1))-1000000000)),1,Hy (z+1))
 ) (
 Y (I.set (Hy (z+j)).toNat (af .u32 ((af .u32 ((gt I (Hy (z+j)))+(gt v5 z)))+a1)),0,Hy (z+1))
 )
 )
 )
 ) (
 some ((I,a1))
 )
 )) (N.set (Hy (j+(v5.length:Int))).toNat (af .u32 (Hy ((Hy ((Hy ((Hy (gt N (Hy (j+(v5.length:Int)))))-a7))-(Hy a8)))+1000000000))),0,0)) fun b7=>(
 match b7 with
 |(b0,b4)=>(
 gdO (inR (Hy (j+(v5.length:Int))) b0.length) (
 gdO (inR j a6.length) (
 S (a6.set j.toNat (af .u32 (af .u64 (D-1))),b0.set (Hy (j+(v5.length:Int))).toNat ((af .u32 ((gt b0 (Hy (j+(v5.length:Int))))+b4)).tmod 1000000000),Hy (j-1))
 )
 )
 ))
 ) (
 gdO (inR j a6.length) (
 S (a6.set j.toNat (af .u32 D),N.set (Hy (j+(v5.length:Int))).toNat (af .u32 (Hy ((Hy ((Hy (gt N (Hy (j+(v5.length:Int)))))-a7))-(Hy a8)))),Hy (j-1))
 )
 )
 )
 ))
 )
 )
 )
 )
 )
 ) (
 some ((a6,O))
 )
 )) (List.replicate (Hy ((b1.length:Int)-(v5.length:Int))).toNat ((0:Int):Int),b1,Hy ((Hy ((b1.length:Int)-(v5.length:Int)))-1))) fun b8=>(
 match b8 with
 |(b5,b2)=>(
 gdO (inS 0 (v5.length:Int) b2.length) (
 bdO (fm n (b2.take (v5.length:Int).toNat)) fun b9=>(
 bdO (gj n b9 (af .u32 (af .u64 ((1000000000:Int).tdiv (af .u64 ((af .u64 (gt b (Hy ((b.length:Int)-1))))+1)))))) fun c0=>(
 bdO (fm n b5) fun c3=>(
 some ((c3,c0.1))
 )
 )
 )
 )
 ))
 )
 )
 )
 )
 )
 )
 )
 )
 )
 )

def jc(n:Nat)(a:List Int)(b:List Int):Option (List Int×List Int):=
 bdO (gM n a b) fun v1=>(
 cdO (decide (v1<0)) (
 some (([],a))
 ) (
 bdO (je n a) fun v4=>(
 bdO (je n b) fun v6=>(
 cdO v4.2 (
 cdO v6.2 (
 gdO (!decide (v6.1=0)) (
 bdO (dL n (af .u64 (v4.1.tdiv v6.1))) fun v11=>(
 bdO (dL n (v4.1.tmod v6.1)) fun q=>(
 some ((v11,q))
 )
 )
 )
 ) (
 cdO (((b.length:Int):Int)==1) (
 gdO (inR 0 b.length) (
 bdO (gj n a (gt b 0)) fun v17=>(
 bdO (dL n (af .u64 v17.2)) fun z=>(
 some ((v17.1,z))
 )
 )
 )
 ) (
 bdO (jX n a b) fun v21=>(
 some ((v21.1,v21.2))
 )
 )
 )
 ) (
 cdO (((b.length:Int):Int)==1) (
 gdO (inR 0 b.length) (
 bdO (gj n a (gt b 0)) fun v25=>(
 bdO (dL n (af .u64 v25.2)) fun C=>(
 some ((v25.1,C))
 )
 )
 )
 ) (
 bdO (jX n a b) fun j=>(
 some ((j.1,j.2))
 )
 )
 )
 )
 )
 )
 )

def jR(n:Nat)(T:aj)(y:aj):Option (aj):=
 bdO (cD n T) fun v1=>(
 bdO (cD n y) fun v3=>(
 bdO (aV (α:=List Int×List Int) (β:=Sum (List Int) (aj)) n (fun j (D,z)=>(
 cdO (decide ((z.length:Int)>0)) (
 bdO (je n D) fun I=>(
 bdO (je n z) fun J=>(
 cdO I.2 (
 cdO J.2 (
 bdO (aV (α:=Int×Int) (β:=Int) n (fun C (E,q)=>(
 cdO (decide (q>0)) (
 gdO (!decide (q=0)) (
 C (q,E.tmod q)
 )
 ) (
 some (E)
 )
 )) (I.1,J.1)) fun N=>(
 bdO (dL n N) fun v53=>(
 bdO (cL n false v53) fun v55=>(
 some (Sum.inr (v55))
 )
 )
 )
 ) (
 bdO (jc n D z) fun R=>(
 j (z,R.2)
 )
 )
 ) (
 bdO (jc n D z) fun v59=>(
 j (z,v59.2)
 )
 )
 )
 )
 ) (
 some (Sum.inl D)
 )
 )) (v1,v3)) fun S=>(
 match S with
 |.inl O=>(
 bdO (dq n O) fun v64=>(
 bdO (cL n false v64) fun v66=>(
 some (v66)
 )
 )
 )
 |.inr (r0)=>(
 some r0
 ))
 )
 )

def lD(n:Nat)(a:List Int)(b:List Int):Option (List Int):=
 gdO (decide (0<=Hy ((mx (a.length:Int) (b.length:Int))+1))) (
 gdO (decide ((4:Int)*(Hy ((mx (a.length:Int) (b.length:Int))+1))<=281474976710656)) (
 gdO (decide (Hy ((mx (a.length:Int) (b.length:Int))+1)<=9223372036854775807)) (
 bdO (aV (α:=List Int×Int×Int) (β:=List Int) n (fun q (z,C,j)=>(
 cdO (decide (j<((List.replicate (Hy ((mx (a.length:Int) (b.length:Int))+1)).toNat ((0:Int):Int)).length:Int))) (
 bdO (iF n a j) fun D=>(
 bdO (iF n b j) fun v20=>(
 cdO (decide ((af .u32 ((af .u32 (D+v20))+C))>=1000000000)) (
 gdO (inR j z.length) (
 q (z.set j.toNat (af .u32 ((af .u32 ((af .u32 (D+v20))+C))-1000000000)),1,Hy (j+1))
 )
 ) (
 gdO (inR j z.length) (
 q (z.set j.toNat (af .u32 ((af .u32 (D+v20))+C)),0,Hy (j+1))
 )
 )
 )
 )
 ) (
 some (z)
 )
 )) (List.replicate (Hy ((mx (a.length:Int) (b.length:Int))+1)).toNat ((0:Int):Int),0,0)) fun E=>(
 bdO (fm n E) fun v28=>(
 some (v28)
 )
 )
 )
 )
 )

def jr(n:Nat)(a:List Int)(b:List Int):Option (List Int):=
 gdO (decide (0<=(a.length:Int))) (
 gdO (decide ((4:Int)*(a.length:Int)<=281474976710656)) (
 gdO (decide ((a.length:Int)<=9223372036854775807)) (
 bdO (aV (α:=List Int×Int×Int) (β:=List Int) n (fun q (z,C,j)=>(
 cdO (decide (j<((List.replicate (a.length:Int).toNat ((0:Int):Int)).length:Int))) (
 bdO (iF n b j) fun v17=>(
 gdO (inR j a.length) (
 cdO (decide ((gt a j)<(af .u32 (v17+C)))) (
 gdO (inR j z.length) (
 q (z.set j.toNat (af .u32 ((af .u32 ((gt a j)+1000000000))-(af .u32 (v17+C)))),1,Hy (j+1))
 )
 ) (
 gdO (inR j z.length) (
 q (z.set j.toNat (af .u32 ((gt a j)-(af .u32 (v17+C)))),0,Hy (j+1))
 )
 )
 )
 )
 ) (
 some (z)
 )
 )) (List.replicate (a.length:Int).toNat ((0:Int):Int),0,0)) fun D=>(
 bdO (fm n D) fun v26=>(
 some (v26)
 )
 )
 )
 )
 )

def eK(n:Nat)(q:aj)(y:aj):Option (aj×aj×Int):=
 bdO (cD n q) fun v1=>(
 bdO (cD n y) fun v3=>(
 cdO (((v3.length:Int):Int)==0) (
 some ((aj.mk false [],aj.mk false [],14))
 ) (
 bdO (jc n v1 v3) fun v6=>(
 bdO (dq n v6.2) fun j=>(
 cdO (decide ((j.length:Int)>0)) (
 cdO (q.Negative !=y.Negative) (
 bdO (lD n v6.1 [(1:Int)]) fun v12=>(
 bdO (jr n v3 j) fun z=>(
 bdO (cL n true v12) fun C=>(
 bdO (cL n y.Negative z) fun D=>(
 some ((C,D,0))
 )
 )
 )
 )
 ) (
 bdO (cL n false v6.1) fun v20=>(
 bdO (cL n y.Negative j) fun v22=>(
 some ((v20,v22,0))
 )
 )
 )
 ) (
 bdO (cL n (q.Negative !=y.Negative) v6.1) fun v24=>(
 bdO (cL n y.Negative j) fun v26=>(
 some ((v24,v26,0))
 )
 )
 )
 )
 )
 )
 )
 )

def fA(n:Nat)(num:aj)(den:aj):Option (an):=
 bdO (eW n den) fun v1=>(
 cdO (decide (v1<0)) (
 bdO (ft n num) fun v4=>(
 bdO (ft n den) fun v6=>(
 bdO (jR n v4 v6) fun C=>(
 bdO (eK n v4 C) fun v10=>(
 bdO (eK n v6 C) fun v12=>(
 some (an.mk v10.1 v12.1)
 )
 )
 )
 )
 )
 ) (
 bdO (jR n num den) fun j=>(
 bdO (eK n num j) fun q=>(
 bdO (eK n den j) fun z=>(
 some (an.mk q.1 z.1)
 )
 )
 )
 )
 )

def mC(n:Nat)(num:aj)(den:aj):Option (an×Int):=
 bdO (fY n num) fun v1=>(
 bdO (fY n den) fun v3=>(
 bdO (eW n v3) fun v5=>(
 cdO ((v5:Int)==0) (
 some ((an.mk (aj.mk false []) (aj.mk false []),14))
 ) (
 bdO (fA n v1 v3) fun j=>(
 some ((j,0))
 )
 )
 )
 )
 )

def mr(n:Nat)(j:Int)(d:Int):Option (an×Int):=
 bdO (gL n j) fun v1=>(
 bdO (gL n d) fun v3=>(
 bdO (mC n v1 v3) fun v5=>(
 some ((v5.1,v5.2))
 )
 )
 )

def pv(n:Nat)(s:aF)(f:aK)(ground:Int):Option (Int×jG):=
 bdO (cj n f.Strips) fun v1=>(
 bdO (aV (α:=List Int×List Int×Int) (β:=List Int×List Int) n (fun N (E,I,C)=>(
 cdO (decide (C<(v1.length:Int))) (
 gdO (inR C v1.length) (
 gdO (decide ((E.length+1)*8<=140737488355328)) (
 gdO (decide (E.length+1<=4611686018427387904)) (
 gdO (decide ((I.length+1)*8<=140737488355328)) (
 gdO (decide (I.length+1<=4611686018427387904)) (
 N (E++[(gt v1 C).X],I++[(gt v1 C).Y],Hy (C+1))
 )
 )
 )
 )
 )
 ) (
 some ((E,I))
 )
 )) ([],[],0)) fun b7=>(
 match b7 with
 |(b2,b3)=>(
 bdO (oV n s.Width s.Focal (Hy (s.Along*(Hy (f.Height-ground)))) b2) fun v49=>(
 bdO (oV n s.Height s.Focal (Hy (s.Across*(Hy (f.Height-ground)))) b3) fun v51=>(
 bdO (aV (α:=Int×Int×Int×Int) (β:=Int×Int×Int) n (fun J (O,R,S,q)=>(
 cdO (decide (q<(v49.1.length:Int))) (
 bdO (aV (α:=Int×Int×Int×Int) (β:=Int×Int×Int) n (fun z (D,T,U,j)=>(
 cdO (decide (j<(v51.1.length:Int))) (
 gdO (inR q v49.2.length) (
 gdO (inR j v51.2.length) (
 bdO (mi n (gt v49.2 q) (gt v51.2 j)) fun Z=>(
 cdO (decide (Z<D)) (
 gdO (inR q v49.1.length) (
 gdO (inR j v51.1.length) (
 z (Z,(gt v49.1 q),(gt v51.1 j),Hy (j+1))
 )
 )
 ) (
 z (D,T,U,Hy (j+1))
 )
 )
 )
 )
 ) (
 some ((D,T,U))
 )
 )) (O,R,S,0)) fun b4=>(
 match b4 with
 |(a1,a6,a7)=>(
 J (a1,a6,a7,Hy (q+1))
 ))
 ) (
 some ((O,R,S))
 )
 )) (257,0,0,0)) fun b5=>(
 match b5 with
 |(a8,b0,b1)=>(
 bdO (mr n b0 (Hy (4*s.Focal))) fun b6=>(
 bdO (mr n b1 (Hy (4*s.Focal))) fun v201=>(
 some ((a8,jG.mk b6.1 v201.1))
 )
 )
 ))
 )
 )
 ))
 )

def jh(n:Nat)(s:aF)(f:aK):Option (Int):=
 bdO (pG n s f s.High true) fun v1=>(
 cdO ((v1:Int)!=0) (
 some (v1)
 ) (
 bdO (pv n s f s.High) fun v5=>(
 cdO (decide (v5.1<s.Views)) (
 some (12)
 ) (
 some (0)
 )
 )
 )
 )

def gg(n:Nat)(s:aF)(f:aK)(p:au):Option (aJ):=
 bdO (aV (α:=List ah×List ar×Int) (β:=List ah×List ar) n (fun D (I,J,z)=>(
 cdO (decide (z<(f.Strips.length:Int))) (
 gdO (inR z f.Strips.length) (
 bdO (aV (α:=List ah×List ar×Int) (β:=List ah×List ar) n (fun E (j,C,q)=>(
 cdO (decide (q<((gt f.Strips z).length:Int))) (
 gdO (inR q (gt f.Strips z).length) (
 gdO (decide ((C.length+1)*56<=140737488355328)) (
 gdO (decide (C.length+1<=4611686018427387904)) (
 gdO (decide ((j.length+1)*80<=140737488355328)) (
 gdO (decide (j.length+1<=4611686018427387904)) (
 E (j++[ah.mk (au.mk (gt (gt f.Strips z) q).X (gt (gt f.Strips z) q).Y f.Height) (aT.mk 0 1 0 0) s.Focal (aE.mk 0 0)],C++[ar.mk 0 (j.length:Int) 0 0 (A2.mk 0 0:A2 Int) 1],Hy (q+1))
 )
 )
 )
 )
 )
 ) (
 some ((j,C))
 )
 )) (I,J,0)) fun T=>(
 match T with
 |(N,O)=>(
 D (N,O,Hy (z+1))
 ))
 )
 ) (
 some ((I,J))
 )
 )) ([],[],0)) fun U=>(
 match U with
 |(R,S)=>(
 some (aJ.mk 3 R [p] S)
 ))

def bx(n:Nat)(negative:Bool)(l:List Int):Option (aj):=
 bdO (aV (α:=Int) (β:=Int) n (fun z q=>(
 cdO (decide (q>0)) (
 gdO (inR (Hy (q-1)) l.length) (
 cdO (((gt l (Hy (q-1))):Int)==0) (
 z (Hy (q-1))
 ) (
 some (q)
 )
 )
 ) (
 some (q)
 )
 )) (l.length:Int)) fun j=>(
 cdO negative (
 gdO (inS 0 j l.length) (
 gdO (decide ((0+((l.drop (0:Int).toNat).take (j.toNat-(0:Int).toNat)).length)*4<=140737488355328)) (
 gdO (decide (0+((l.drop (0:Int).toNat).take (j.toNat-(0:Int).toNat)).length<=4611686018427387904)) (
 some (aj.mk (decide (j>0)) ((l.drop (0:Int).toNat).take (j.toNat-(0:Int).toNat)))
 )
 )
 )
 ) (
 gdO (inS 0 j l.length) (
 gdO (decide ((0+((l.drop (0:Int).toNat).take (j.toNat-(0:Int).toNat)).length)*4<=140737488355328)) (
 gdO (decide (0+((l.drop (0:Int).toNat).take (j.toNat-(0:Int).toNat)).length<=4611686018427387904)) (
 some (aj.mk false ((l.drop (0:Int).toNat).take (j.toNat-(0:Int).toNat)))
 )
 )
 )
 )
 )

def im(n:Nat)(J:Int):Option (aj):=
 cdO (decide (J<0)) (
 bdO (aV (α:=Int×List Int) (β:=List Int) n (fun C (E,D)=>(
 cdO (decide (E>0)) (
 gdO (decide ((D.length+1)*4<=140737488355328)) (
 gdO (decide (D.length+1<=4611686018427387904)) (
 C (af .u64 (E.tdiv 1000000000),D++[af .u32 (E.tmod 1000000000)])
 )
 )
 ) (
 some (D)
 )
 )) (af .u64 ((af .u64 (Hy (0-(Hy (J+1)))))+1),[])) fun N=>(
 bdO (bx n true N) fun O=>(
 some (O)
 )
 )
 ) (
 bdO (aV (α:=Int×List Int) (β:=List Int) n (fun q (z,j)=>(
 cdO (decide (z>0)) (
 gdO (decide ((j.length+1)*4<=140737488355328)) (
 gdO (decide (j.length+1<=4611686018427387904)) (
 q (af .u64 (z.tdiv 1000000000),j++[af .u32 (z.tmod 1000000000)])
 )
 )
 ) (
 some (j)
 )
 )) (af .u64 J,[])) fun I=>(
 bdO (bx n false I) fun v30=>(
 some (v30)
 )
 )
 )

def dH(n:Nat)(j:Int):Option (aj):=
 bdO (im n j) fun v1=>(
 some (v1)
 )

def cZ(n:Nat)(j:Int):Option (an):=
 bdO (dH n j) fun v1=>(
 bdO (dH n 1) fun v3=>(
 some (an.mk v1 v3)
 )
 )

def fZ(n:Nat)(D:Int):Option (List an):=
 bdO (aV (α:=List an×Int) (β:=List an) n (fun j (q,z)=>(
 cdO (decide (z<D)) (
 bdO (cZ n 0) fun v11=>(
 gdO (decide ((q.length+1)*64<=140737488355328)) (
 gdO (decide (q.length+1<=4611686018427387904)) (
 j (q++[v11],Hy (z+1))
 )
 )
 )
 ) (
 some (q)
 )
 )) ([],0)) fun C=>(
 some (C)
 )

def nK(n:Nat)(j:Int)(p:Int):Option (Bool):=
 cdO (decide (j<(Hy (0-p)))) (
 some (true)
 ) (
 some (decide (j>p))
 )

def di(n:Nat)(s:List Int)(c:Int):Option (Int):=
 bdO (aV (α:=Int) (β:=Sum (Unit) (Int)) n (fun q j=>(
 cdO (decide (j<(s.length:Int))) (
 gdO (inR j s.length) (
 bdO (nK n (gt s j) c) fun v10=>(
 cdO v10 (
 some (Sum.inr (j))
 ) (
 q (Hy (j+1))
 )
 )
 )
 ) (
 some (Sum.inl ())
 )
 )) 0) fun z=>(
 match z with
 |.inl _=>(
 some ((-1))
 )
 |.inr (r0)=>(
 some r0
 ))

def cQ(n:Nat)(s:List Int)(c:Int):Option (Bool):=
 bdO (di n s c) fun v1=>(
 some (decide (v1>=0))
 )

def kP(n:Nat)(j:Int)(l:List Int):Option (Bool):=
 bdO (cQ n l j) fun v1=>(
 some (v1)
 )

def pf(n:Nat)(q:aT):Option (A4 Int):=
 some (A4.mk q.A q.B q.C q.D)

def pj(n:Nat)(q:aT):Option (Int):=
 cdO (((q.A:Int)==0)&&(((q.B:Int)==0)&&(((q.C:Int)==0)&&(((q.D:Int)==0)&&true)))) (
 some (1)
 ) (
 bdO (pf n q) fun v2=>(
 cdO (decide (v2.e0<(-1048576))) (
 some (3)
 ) (
 cdO (decide (v2.e0>1048576)) (
 some (3)
 ) (
 cdO (decide (v2.e1<(-1048576))) (
 some (3)
 ) (
 cdO (decide (v2.e1>1048576)) (
 some (3)
 ) (
 cdO (decide (v2.e2<(-1048576))) (
 some (3)
 ) (
 cdO (decide (v2.e2>1048576)) (
 some (3)
 ) (
 cdO (decide (v2.e3<(-1048576))) (
 some (3)
 ) (
 cdO (decide (v2.e3>1048576)) (
 some (3)
 ) (
 some (0)
 )
 )
 )
 )
 )
 )
 )
 )
 )
 )

def iV(n:Nat)(j:Int)(s:ah):Option (Int):=
 bdO (kP n 1048576 [s.At.X,s.At.Y,s.At.Z,s.Centre.X,s.Centre.Y]) fun v1=>(
 cdO v1 (
 some (2)
 ) (
 cdO (decide (s.Focal<1)) (
 some (2)
 ) (
 cdO (decide (s.Focal>1048576)) (
 some (2)
 ) (
 bdO (pj n s.Turn) fun v6=>(
 cdO ((v6:Int)!=0) (
 some (v6)
 ) (
 gdO (!((j:Int)==2)) (
 some (0)
 )
 )
 )
 )
 )
 )
 )

def nr(n:Nat)(o:ar):Option (List Int):=
 gdO ((o.Kind:Int)==0) (
 some ([o.A])
 )

def jZ(n:Nat)(i:Int)(p:Int)(q:List ah)(z:List au)(j:List ar):Option (Bool):=
 cdO (decide (i<0)) (
 some (true)
 ) (
 some (decide (i>=(q.length:Int)))
 )

def cW(n:Nat)(s:List Int)(c:Int)(E:List ah)(C:List au)(z:List ar):Option (Int):=
 bdO (aV (α:=Int) (β:=Sum (Unit) (Int)) n (fun q j=>(
 cdO (decide (j<(s.length:Int))) (
 gdO (inR j s.length) (
 bdO (jZ n (gt s j) c E C z) fun v10=>(
 cdO v10 (
 some (Sum.inr (j))
 ) (
 q (Hy (j+1))
 )
 )
 )
 ) (
 some (Sum.inl ())
 )
 )) 0) fun D=>(
 match D with
 |.inl _=>(
 some ((-1))
 )
 |.inr (r0)=>(
 some r0
 ))

def cn(n:Nat)(s:List Int)(c:Int)(z:List ah)(q:List au)(j:List ar):Option (Bool):=
 bdO (cW n s c z q j) fun v1=>(
 some (decide (v1>=0))
 )

def px(n:Nat)(o:ar):Option (List Int):=
 gdO (!((o.Kind:Int)==3)) (
 gdO (!((o.Kind:Int)==2)) (
 gdO (!((o.Kind:Int)==4)) (
 some ([o.B])
 )
 )
 )

def oy(n:Nat)(i:Int)(p:Int)(z:List ah)(j:List au)(q:List ar):Option (Bool):=
 cdO (decide (i<0)) (
 some (true)
 ) (
 some (decide (i>=(j.length:Int)))
 )

def dP(n:Nat)(s:List Int)(c:Int)(E:List ah)(C:List au)(z:List ar):Option (Int):=
 bdO (aV (α:=Int) (β:=Sum (Unit) (Int)) n (fun q j=>(
 cdO (decide (j<(s.length:Int))) (
 gdO (inR j s.length) (
 bdO (oy n (gt s j) c E C z) fun v10=>(
 cdO v10 (
 some (Sum.inr (j))
 ) (
 q (Hy (j+1))
 )
 )
 )
 ) (
 some (Sum.inl ())
 )
 )) 0) fun D=>(
 match D with
 |.inl _=>(
 some ((-1))
 )
 |.inr (r0)=>(
 some r0
 ))

def cI(n:Nat)(s:List Int)(c:Int)(z:List ah)(q:List au)(j:List ar):Option (Bool):=
 bdO (dP n s c z q j) fun v1=>(
 some (decide (v1>=0))
 )

def iZ(n:Nat)(q:Int)(j:Int):Option (List Int):=
 gdO (!((q:Int)==2)) (
 cdO ((j:Int)==0) (
 some ([(0:Int),(1:Int),(2:Int),(3:Int),(4:Int),(5:Int)])
 ) (
 some ([(0:Int),(1:Int),(2:Int)])
 )
 )

def sd(n:Nat)(j:Int)(o:ar):Option (Bool):=
 cdO ((o.Value.e1:Int)!=0) (
 gdO (!((o.Kind:Int)!=0)) (
 cdO ((j:Int)==2) (
 some (true)
 ) (
 bdO (iZ n j 1) fun v4=>(
 gdO (((o.Kind:Int)==0)) (
 some ((o.Axis:Int)!=0)
 )
 )
 )
 )
 ) (
 bdO (iZ n j 1) fun q=>(
 gdO (((o.Kind:Int)==0)) (
 some ((o.Axis:Int)!=0)
 )
 )
 )

def lK(n:Nat)(b:aJ):Option (Int):=
 gdO ((b.Dim:Int)!=2) (
 cdO ((b.Dim:Int)!=3) (
 some (2)
 ) (
 cdO (decide ((b.Stations.length:Int)>64)) (
 some (3)
 ) (
 cdO (decide ((b.Points.length:Int)>256)) (
 some (3)
 ) (
 cdO (decide ((b.Obs.length:Int)>1024)) (
 some (3)
 ) (
 bdO (aV (α:=Int) (β:=Sum (Unit) (Int)) n (fun z E=>(
 cdO (decide (E<(b.Stations.length:Int))) (
 gdO (inR E b.Stations.length) (
 bdO (iV n b.Dim (gt b.Stations E)) fun I=>(
 cdO ((I:Int)!=0) (
 some (Sum.inr (I))
 ) (
 z (Hy (E+1))
 )
 )
 )
 ) (
 some (Sum.inl ())
 )
 )) 0) fun J=>(
 match J with
 |.inl _=>(
 bdO (aV (α:=Int) (β:=Sum (Unit) (Int)) n (fun C q=>(
 cdO (decide (q<(b.Points.length:Int))) (
 gdO (inR q b.Points.length) (
 bdO (kP n 1048576 [(gt b.Points q).X,(gt b.Points q).Y,(gt b.Points q).Z]) fun v31=>(
 cdO v31 (
 some (Sum.inr (2))
 ) (
 gdO (!((b.Dim:Int)==2)) (
 C (Hy (q+1))
 )
 )
 )
 )
 ) (
 some (Sum.inl ())
 )
 )) 0) fun N=>(
 match N with
 |.inl _=>(
 bdO (aV (α:=Int) (β:=Sum (Unit) (Int)) n (fun D j=>(
 cdO (decide (j<(b.Obs.length:Int))) (
 gdO (inR j b.Obs.length) (
 cdO (decide ((gt b.Obs j).Kind<0)) (
 some (Sum.inr (1))
 ) (
 cdO (decide ((gt b.Obs j).Kind>4)) (
 some (Sum.inr (1))
 ) (
 bdO (nr n (gt b.Obs j)) fun O=>(
 bdO (cn n O b.Dim b.Stations b.Points b.Obs) fun v70=>(
 cdO v70 (
 some (Sum.inr (6))
 ) (
 bdO (px n (gt b.Obs j)) fun R=>(
 bdO (cI n R b.Dim b.Stations b.Points b.Obs) fun v75=>(
 cdO v75 (
 some (Sum.inr (6))
 ) (
 bdO (sd n b.Dim (gt b.Obs j)) fun v78=>(
 cdO v78 (
 some (Sum.inr (1))
 ) (
 cdO (decide ((gt b.Obs j).Weight<1)) (
 gdO (!(((gt b.Obs j).Kind:Int)==4)) (
 some (Sum.inr (2))
 )
 ) (
 gdO (!(((gt b.Obs j).Kind:Int)==4)) (
 cdO (decide ((gt b.Obs j).Weight>1048576)) (
 some (Sum.inr (2))
 ) (
 bdO (kP n 1099511627776 [(gt b.Obs j).Value.e0,(gt b.Obs j).Value.e1]) fun v85=>(
 cdO v85 (
 some (Sum.inr (2))
 ) (
 D (Hy (j+1))
 )
 )
 )
 )
 )
 )
 )
 )
 )
 )
 )
 )
 )
 )
 )
 )
 ) (
 some (Sum.inl ())
 )
 )) 0) fun S=>(
 match S with
 |.inl _=>(
 some (0)
 )
 |.inr (r0)=>(
 some r0
 ))
 )
 |.inr (r0)=>(
 some r0
 ))
 )
 |.inr (r0)=>(
 some r0
 ))
 )
 )
 )
 )
 )

def kd(n:Nat)(j:Int)(y:Int):Option (Int):=
 bdO (cmp_isNaN_int n j) fun v1=>(
 bdO (cmp_isNaN_int n y) fun v3=>(
 cdO v1 (
 cdO v3 (
 some (0)
 ) (
 some ((-1))
 )
 ) (
 cdO v3 (
 some (1)
 ) (
 cdO (decide (j<y)) (
 some ((-1))
 ) (
 cdO (decide (j>y)) (
 some (1)
 ) (
 some (0)
 )
 )
 )
 )
 )
 )

def kj(n:Nat)(j:aj)(y:aj):Option (Int):=
 bdO (eW n j) fun v1=>(
 bdO (eW n y) fun v3=>(
 cdO ((v1:Int)!=v3) (
 bdO (kd n v1 v3) fun v6=>(
 some (v6)
 )
 ) (
 bdO (cD n j) fun q=>(
 bdO (cD n y) fun v10=>(
 bdO (gM n q v10) fun v12=>(
 cdO j.Negative (
 some (Hy (0-v12))
 ) (
 some (v12)
 )
 )
 )
 )
 )
 )
 )

def jD(n:Nat)(j:an):Option (Bool):=
 bdO (fE n j.Num) fun v1=>(
 cdO (!v1) (
 some (false)
 ) (
 bdO (fE n j.Den) fun v4=>(
 cdO (!v4) (
 some (false)
 ) (
 bdO (eW n j.Den) fun z=>(
 cdO (decide (z<=0)) (
 some (false)
 ) (
 bdO (jR n j.Num j.Den) fun v10=>(
 bdO (gL n 1) fun v12=>(
 bdO (kj n v10 v12) fun q=>(
 some ((q:Int)==0)
 )
 )
 )
 )
 )
 )
 )
 )
 )

def ma(n:Nat)(j:an):Option (Bool):=
 bdO (jD n j) fun v1=>(
 some (!v1)
 )

def bJ(n:Nat)(s:List an):Option (Int):=
 bdO (aV (α:=Int) (β:=Sum (Unit) (Int)) n (fun q j=>(
 cdO (decide (j<(s.length:Int))) (
 gdO (inR j s.length) (
 bdO (ma n (gt s j)) fun v10=>(
 cdO v10 (
 some (Sum.inr (j))
 ) (
 q (Hy (j+1))
 )
 )
 )
 ) (
 some (Sum.inl ())
 )
 )) 0) fun z=>(
 match z with
 |.inl _=>(
 some ((-1))
 )
 |.inr (r0)=>(
 some r0
 ))

def bn(n:Nat)(s:List an):Option (Bool):=
 bdO (bJ n s) fun v1=>(
 some (decide (v1>=0))
 )

def iq(n:Nat)(b:aJ):Option (List (A3 Int)):=
 bdO (aV (α:=Int) (β:=Unit) n (fun J N=>(
 cdO (decide (N<(b.Obs.length:Int))) (
 gdO (inR N b.Obs.length) (
 gdO (!(((gt b.Obs N).Kind:Int)==4)) (
 J (Hy (N+1))
 )
 )
 ) (
 some (())
 )
 )) 0) fun Z=>(
 bdO (aV (α:=List (A3 Int)×Int) (β:=List (A3 Int)) n (fun E (R,j)=>(
 cdO (decide (j<2)) (
 gdO (inR j ([(b.Stations.length:Int),(b.Points.length:Int)].length)) (
 bdO (aV (α:=List (A3 Int)×Int) (β:=List (A3 Int)) n (fun I (S,D)=>(
 cdO (decide (D<(gt [(b.Stations.length:Int),(b.Points.length:Int)] j))) (
 bdO (iZ n b.Dim j) fun O=>(
 bdO (aV (α:=List (A3 Int)×Int) (β:=List (A3 Int)) n (fun q (C,z)=>(
 cdO (decide (z<(O.length:Int))) (
 gdO (inR z O.length) (
 cdO (!(getM false ([]:List (A3 Int×Bool)) (A3.mk j D (gt O z)))) (
 gdO (decide ((C.length+1)*24<=140737488355328)) (
 gdO (decide (C.length+1<=4611686018427387904)) (
 q (C++[A3.mk j D (gt O z)],Hy (z+1))
 )
 )
 ) (
 q (C,Hy (z+1))
 )
 )
 ) (
 some (C)
 )
 )) (S,0)) fun T=>(
 I (T,Hy (D+1))
 )
 )
 ) (
 some (S)
 )
 )) (R,0)) fun U=>(
 E (U,Hy (j+1))
 )
 )
 ) (
 some (R)
 )
 )) ([],0)) fun Y=>(
 some (Y)
 )
 )

def nL(n:Nat)(b:aJ)(j:List an):Option (Int):=
 bdO (lK n b) fun v1=>(
 cdO ((v1:Int)!=0) (
 some (v1)
 ) (
 bdO (bn n j) fun v4=>(
 cdO v4 (
 some (1)
 ) (
 bdO (iq n b) fun q=>(
 cdO (((j.length:Int):Int)!=(q.length:Int)) (
 some (4)
 ) (
 some (0)
 )
 )
 )
 )
 )
 )

def fz(n:Nat)(b:aJ):Option (Int×List ah×List au×List ar×List (A3 Int×Int)):=
 bdO (iq n b) fun C=>(
 bdO (aV (α:=List (A3 Int×Int)×Int) (β:=List (A3 Int×Int)) n (fun q (z,j)=>(
 cdO (decide (j<(C.length:Int))) (
 gdO (inR j C.length) (
 q (ou z (gt C j) j,Hy (j+1))
 )
 ) (
 some (z)
 )
 )) (([]:List (A3 Int×Int)),0)) fun D=>(
 some ((b.Dim,b.Stations,b.Points,b.Obs,D))
 )
 )

def jC(n:Nat)(j:Int):Option (an):=
 bdO (gL n j) fun v1=>(
 bdO (gL n 1) fun v3=>(
 some (an.mk v1 v3)
 )
 )

def bh(n:Nat)(J:Int)(I:List ah)(E:List au)(D:List ar)(C:List (A3 Int×Int))(j:List ae)(q:List (aD×Int))(k:aD):Option (List ae×List (aD×Int)×Int):=
 cdO (kz q k) (
 some ((j,q,(getM 0 q k)))
 ) (
 cdO ((k.f_op:Int)==0) (
 bdO (jC n k.f_n) fun z=>(
 gdO (decide ((j.length+1)*88<=140737488355328)) (
 gdO (decide (j.length+1<=4611686018427387904)) (
 some ((j++[ae.mk k.f_op k.f_a k.f_b z],ou q k (Hy (((j++[ae.mk k.f_op k.f_a k.f_b z]).length:Int)-1)),Hy (((j++[ae.mk k.f_op k.f_a k.f_b z]).length:Int)-1)))
 )
 )
 )
 ) (
 gdO (decide ((j.length+1)*88<=140737488355328)) (
 gdO (decide (j.length+1<=4611686018427387904)) (
 some ((j++[ae.mk k.f_op k.f_a k.f_b (an.mk (aj.mk false []) (aj.mk false []))],ou q k (Hy (((j++[ae.mk k.f_op k.f_a k.f_b (an.mk (aj.mk false []) (aj.mk false []))]).length:Int)-1)),Hy (((j++[ae.mk k.f_op k.f_a k.f_b (an.mk (aj.mk false []) (aj.mk false []))]).length:Int)-1)))
 )
 )
 )
 )

def ga(n:Nat)(p:au)(j:Int):Option (Int):=
 gdO (inR j 3) (
 some ((gt ([p.X,p.Y,p.Z]:List Int) j))
 )

def bk(n:Nat)(I:Int)(E:List ah)(D:List au)(C:List ar)(z:List (A3 Int×Int))(q:List ae)(j:List (aD×Int))(J:Int):Option (List ae×List (aD×Int)×Int):=
 bdO (bh n I E D C z q j (aD.mk 0 0 0 J)) fun v6=>(
 some ((v6.1,v6.2.1,v6.2.2))
 )

def aP(n:Nat)(I:Int)(E:List ah)(D:List au)(C:List ar)(z:List (A3 Int×Int))(q:List ae)(j:List (aD×Int))(a:Int)(b:Int):Option (List ae×List (aD×Int)×Int):=
 bdO (bh n I E D C z q j (aD.mk 2 a b 0)) fun v6=>(
 some ((v6.1,v6.2.1,v6.2.2))
 )

def bK(n:Nat)(N:Int)(J:List ah)(z:List au)(q:List ar)(j:List (A3 Int×Int))(E:List ae)(D:List (aD×Int))(I:Int)(i:Int)(C:Int):Option (List ae×List (aD×Int)×Int):=
 cdO (decide (C>2)) (
 gdO (!(!(kz j (A3.mk I i C)))) (
 bdO (bh n N J z q j E D (aD.mk 1 (getM 0 j (A3.mk I i C)) 0 0)) fun v31=>(
 some ((v31.1,v31.2.1,v31.2.2))
 )
 )
 ) (
 cdO ((I:Int)==0) (
 gdO (inR i J.length) (
 bdO (ga n (gt J i).At C) fun v35=>(
 gdO (!(!(kz j (A3.mk I i C)))) (
 bdO (bk n N J z q j E D v35) fun O=>(
 bdO (bh n N J z q j O.1 O.2.1 (aD.mk 1 (getM 0 j (A3.mk I i C)) 0 0)) fun v40=>(
 bdO (aP n N J z q j v40.1 v40.2.1 O.2.2 v40.2.2) fun R=>(
 some ((R.1,R.2.1,R.2.2))
 )
 )
 )
 )
 )
 )
 ) (
 gdO (inR i z.length) (
 bdO (ga n (gt z i) C) fun v45=>(
 gdO (!(!(kz j (A3.mk I i C)))) (
 bdO (bk n N J z q j E D v45) fun S=>(
 bdO (bh n N J z q j S.1 S.2.1 (aD.mk 1 (getM 0 j (A3.mk I i C)) 0 0)) fun v50=>(
 bdO (aP n N J z q j v50.1 v50.2.1 S.2.2 v50.2.2) fun T=>(
 some ((T.1,T.2.1,T.2.2))
 )
 )
 )
 )
 )
 )
 )
 )

def aS(n:Nat)(I:Int)(E:List ah)(D:List au)(C:List ar)(z:List (A3 Int×Int))(q:List ae)(j:List (aD×Int))(a:Int)(b:Int):Option (List ae×List (aD×Int)×Int):=
 bdO (bh n I E D C z q j (aD.mk 4 a b 0)) fun v6=>(
 some ((v6.1,v6.2.1,v6.2.2))
 )

def bP(n:Nat)(J:Int)(E:List ah)(D:List au)(z:List ar)(j:List (A3 Int×Int))(C:List ae)(q:List (aD×Int))(N:Int)(a:Int):Option (List ae×List (aD×Int)×Int):=
 bdO (bk n J E D z j C q N) fun I=>(
 bdO (aS n J E D z j I.1 I.2.1 I.2.2 a) fun v10=>(
 some ((v10.1,v10.2.1,v10.2.2))
 )
 )

def aZ(n:Nat)(I:Int)(E:List ah)(D:List au)(C:List ar)(z:List (A3 Int×Int))(q:List ae)(j:List (aD×Int))(a:Int)(b:Int):Option (List ae×List (aD×Int)×Int):=
 bdO (bh n I E D C z q j (aD.mk 3 a b 0)) fun v6=>(
 some ((v6.1,v6.2.1,v6.2.2))
 )

def cy(n:Nat)(x':Int)(O:List ah)(D:List au)(z:List ar)(j:List (A3 Int×Int))(J:List ae)(E:List (aD×Int))(n':Int)(parts:List aa):Option (List ae×List (aD×Int)×Int):=
 bdO (bk n x' O D z j J E n') fun v35=>(
 bdO (aV (α:=List ae×List (aD×Int)×Int×Int) (β:=List ae×List (aD×Int)×Int) n (fun C (R,S,N,q)=>(
 cdO (decide (q<(parts.length:Int))) (
 gdO (inR q parts.length) (
 bdO (bP n x' O D z j R S (gt parts q).f_n (gt parts q).f_at) fun I=>(
 cdO (gt parts q).f_minus (
 bdO (aZ n x' O D z j I.1 I.2.1 N I.2.2) fun v59=>(
 C (v59.1,v59.2.1,v59.2.2,Hy (q+1))
 )
 ) (
 bdO (aP n x' O D z j I.1 I.2.1 N I.2.2) fun T=>(
 C (T.1,T.2.1,T.2.2,Hy (q+1))
 )
 )
 )
 )
 ) (
 some ((R,S,N))
 )
 )) (v35.1,v35.2.1,v35.2.2,0)) fun a1=>(
 match a1 with
 |(U,Y,Z)=>(
 some ((U,Y,Z))
 ))
 )

def cx(n:Nat)(N:Int)(I:List ah)(C:List au)(q:List ar)(j:List (A3 Int×Int))(D:List ae)(z:List (aD×Int))(o:ar)(E:Int):Option (List ae×List (aD×Int)×Int):=
 bdO (bK n N I C q j D z 1 o.B E) fun v10=>(
 bdO (bK n N I C q j v10.1 v10.2.1 0 o.A E) fun v12=>(
 bdO (aZ n N I C q j v12.1 v12.2.1 v10.2.2 v12.2.2) fun J=>(
 some ((J.1,J.2.1,J.2.2))
 )
 )
 )

def bZ(n:Nat)(I:Int)(E:List ah)(D:List au)(C:List ar)(z:List (A3 Int×Int))(q:List ae)(j:List (aD×Int))(a:Int):Option (List ae×List (aD×Int)×Int):=
 bdO (bh n I E D C z q j (aD.mk 7 a 0 0)) fun v6=>(
 some ((v6.1,v6.2.1,v6.2.2))
 )

def bt(n:Nat)(E:Int)(p:Int)(I:List ah)(D:List au)(C:List ar)(z:List (A3 Int×Int))(q:List ae)(j:List (aD×Int)):Option (List ae×List (aD×Int)×Int):=
 bdO (bP n p I D C z q j 2 E) fun v6=>(
 some ((v6.1,v6.2.1,v6.2.2))
 )

def bW(n:Nat)(p:Int)(q:Int)(Y:Int)(U:Int)(N:List ah)(D:List au)(z:List ar)(j:List (A3 Int×Int))(O:List ae)(J:List (aD×Int))(I:Int)(E:Int)(C:Int):Option (List ae×List (aD×Int)×Int):=
 bdO (aS n U N D z j O J p I) fun R=>(
 bdO (aS n U N D z j R.1 R.2.1 q E) fun S=>(
 bdO (aP n U N D z j S.1 S.2.1 R.2.2 S.2.2) fun T=>(
 bdO (aS n U N D z j T.1 T.2.1 Y C) fun v20=>(
 bdO (aP n U N D z j v20.1 v20.2.1 T.2.2 v20.2.2) fun v22=>(
 some ((v22.1,v22.2.1,v22.2.2))
 )
 )
 )
 )
 )

def cB(n:Nat)(I:Int)(E:List ah)(z:List au)(q:List ar)(j:List (A3 Int×Int))(b0:List ae)(a8:List (aD×Int))(o:ar):Option (List ae×List (aD×Int)×Int×Int×Int):=
 gdO (inR o.A E.length) (
 gdO (!((I:Int)==2)) (
 bdO (bK n I E z q j b0 a8 0 o.A 3) fun S=>(
 bdO (bK n I E z q j S.1 S.2.1 0 o.A 4) fun T=>(
 bdO (bK n I E z q j T.1 T.2.1 0 o.A 5) fun U=>(
 bdO (cy n I E z q j U.1 U.2.1 (gt E o.A).Turn.A [aa.mk true (gt E o.A).Turn.B S.2.2,aa.mk true (gt E o.A).Turn.C T.2.2,aa.mk true (gt E o.A).Turn.D U.2.2]) fun J=>(
 bdO (cy n I E z q j J.1 J.2.1 (gt E o.A).Turn.B [aa.mk false (gt E o.A).Turn.A S.2.2,aa.mk false (gt E o.A).Turn.C U.2.2,aa.mk true (gt E o.A).Turn.D T.2.2]) fun N=>(
 bdO (cy n I E z q j N.1 N.2.1 (gt E o.A).Turn.C [aa.mk false (gt E o.A).Turn.A T.2.2,aa.mk false (gt E o.A).Turn.D S.2.2,aa.mk true (gt E o.A).Turn.B U.2.2]) fun O=>(
 bdO (cy n I E z q j O.1 O.2.1 (gt E o.A).Turn.D [aa.mk false (gt E o.A).Turn.A U.2.2,aa.mk false (gt E o.A).Turn.B T.2.2,aa.mk true (gt E o.A).Turn.C S.2.2]) fun R=>(
 bdO (cx n I E z q j R.1 R.2.1 o 0) fun v124=>(
 bdO (cx n I E z q j v124.1 v124.2.1 o 1) fun Y=>(
 bdO (cx n I E z q j Y.1 Y.2.1 o 2) fun Z=>(
 bdO (bZ n I E z q j Z.1 Z.2.1 J.2.2) fun v130=>(
 bdO (bZ n I E z q j v130.1 v130.2.1 N.2.2) fun a1=>(
 bdO (bZ n I E z q j a1.1 a1.2.1 O.2.2) fun a6=>(
 bdO (bZ n I E z q j a6.1 a6.2.1 R.2.2) fun a7=>(
 bdO (aP n I E z q j a7.1 a7.2.1 v130.2.2 a1.2.2) fun v138=>(
 bdO (aZ n I E z q j v138.1 v138.2.1 v138.2.2 a6.2.2) fun b1=>(
 bdO (aZ n I E z q j b1.1 b1.2.1 b1.2.2 a7.2.2) fun b2=>(
 bdO (aS n I E z q j b2.1 b2.2.1 N.2.2 O.2.2) fun b3=>(
 bdO (aS n I E z q j b3.1 b3.2.1 J.2.2 R.2.2) fun v146=>(
 bdO (aP n I E z q j v146.1 v146.2.1 b3.2.2 v146.2.2) fun v148=>(
 bdO (bt n v148.2.2 I E z q j v148.1 v148.2.1) fun b4=>(
 bdO (aS n I E z q j b4.1 b4.2.1 N.2.2 R.2.2) fun v152=>(
 bdO (aS n I E z q j v152.1 v152.2.1 J.2.2 O.2.2) fun v154=>(
 bdO (aZ n I E z q j v154.1 v154.2.1 v152.2.2 v154.2.2) fun b5=>(
 bdO (bt n b5.2.2 I E z q j b5.1 b5.2.1) fun b6=>(
 bdO (bW n b2.2.2 b4.2.2 b6.2.2 I E z q j b6.1 b6.2.1 v124.2.2 Y.2.2 Z.2.2) fun v160=>(
 bdO (aS n I E z q j v160.1 v160.2.1 N.2.2 O.2.2) fun v162=>(
 bdO (aS n I E z q j v162.1 v162.2.1 J.2.2 R.2.2) fun v164=>(
 bdO (aZ n I E z q j v164.1 v164.2.1 v162.2.2 v164.2.2) fun b7=>(
 bdO (bt n b7.2.2 I E z q j b7.1 b7.2.1) fun v168=>(
 bdO (aZ n I E z q j v168.1 v168.2.1 v130.2.2 a1.2.2) fun b8=>(
 bdO (aP n I E z q j b8.1 b8.2.1 b8.2.2 a6.2.2) fun b9=>(
 bdO (aZ n I E z q j b9.1 b9.2.1 b9.2.2 a7.2.2) fun c0=>(
 bdO (aS n I E z q j c0.1 c0.2.1 O.2.2 R.2.2) fun c3=>(
 bdO (aS n I E z q j c3.1 c3.2.1 J.2.2 N.2.2) fun c4=>(
 bdO (aP n I E z q j c4.1 c4.2.1 c3.2.2 c4.2.2) fun c5=>(
 bdO (bt n c5.2.2 I E z q j c5.1 c5.2.1) fun v182=>(
 bdO (bW n v168.2.2 c0.2.2 v182.2.2 I E z q j v182.1 v182.2.1 v124.2.2 Y.2.2 Z.2.2) fun c6=>(
 bdO (aS n I E z q j c6.1 c6.2.1 N.2.2 R.2.2) fun c7=>(
 bdO (aS n I E z q j c7.1 c7.2.1 J.2.2 O.2.2) fun c8=>(
 bdO (aP n I E z q j c8.1 c8.2.1 c7.2.2 c8.2.2) fun c9=>(
 bdO (bt n c9.2.2 I E z q j c9.1 c9.2.1) fun e4=>(
 bdO (aS n I E z q j e4.1 e4.2.1 O.2.2 R.2.2) fun v194=>(
 bdO (aS n I E z q j v194.1 v194.2.1 J.2.2 N.2.2) fun v196=>(
 bdO (aZ n I E z q j v196.1 v196.2.1 v194.2.2 v196.2.2) fun v198=>(
 bdO (bt n v198.2.2 I E z q j v198.1 v198.2.1) fun e5=>(
 bdO (aZ n I E z q j e5.1 e5.2.1 v130.2.2 a1.2.2) fun e6=>(
 bdO (aZ n I E z q j e6.1 e6.2.1 e6.2.2 a6.2.2) fun e7=>(
 bdO (aP n I E z q j e7.1 e7.2.1 e7.2.2 a7.2.2) fun v206=>(
 bdO (bW n e4.2.2 e5.2.2 v206.2.2 I E z q j v206.1 v206.2.1 v124.2.2 Y.2.2 Z.2.2) fun v208=>(
 some ((v208.1,v208.2.1,v160.2.2,c6.2.2,v208.2.2))
 )
 )
 )
 )
 )
 )
 )
 )
 )
 )
 )
 )
 )
 )
 )
 )
 )
 )
 )
 )
 )
 )
 )
 )
 )
 )
 )
 )
 )
 )
 )
 )
 )
 )
 )
 )
 )
 )
 )
 )
 )
 )
 )
 )
 )
 )
 )
 )
 )
 )
 )
 )

def cg(n:Nat)(s:List ae):Option (List ae):=
 gdO (decide ((0+s.length)*88<=140737488355328)) (
 gdO (decide (0+s.length<=4611686018427387904)) (
 some (s)
 )
 )

def cf(n:Nat)(J:Int)(E:List ah)(D:List au)(C:List ar)(z:List (A3 Int×Int))(j:List ae)(q:List (aD×Int))(last:Int):Option (List ae×List ae):=
 gdO (inS 0 (Hy (last+1)) j.length) (
 bdO (cg n ((j.drop (0:Int).toNat).take ((Hy (last+1)).toNat-(0:Int).toNat))) fun I=>(
 some ((j,I))
 )
 )

def ka(n:Nat)(j:an):Option (an):=
 bdO (ft n j.Num) fun v1=>(
 bdO (ft n v1) fun v3=>(
 bdO (ft n j.Den) fun v5=>(
 bdO (ft n v5) fun q=>(
 some (an.mk v3 q)
 )
 )
 )
 )

def dz(n:Nat)(j:an):Option (an):=
 bdO (jD n j) fun v1=>(
 cdO v1 (
 bdO (ka n j) fun v4=>(
 some (v4)
 )
 ) (
 bdO (jC n 0) fun v6=>(
 some (v6)
 )
 )
 )

def fy(n:Nat)(j:aj)(y:aj):Option (aj):=
 bdO (cD n j) fun v1=>(
 bdO (cD n y) fun v3=>(
 bdO (kr n v1 v3) fun v5=>(
 bdO (cL n (j.Negative !=y.Negative) v5) fun q=>(
 some (q)
 )
 )
 )
 )

def my(n:Nat)(negative:Bool)(a:List Int)(other:Bool)(b:List Int):Option (aj):=
 cdO (negative==other) (
 bdO (lD n a b) fun v2=>(
 bdO (cL n negative v2) fun v4=>(
 some (v4)
 )
 )
 ) (
 bdO (gM n a b) fun v6=>(
 cdO (decide (v6>=0)) (
 bdO (jr n a b) fun v9=>(
 bdO (cL n negative v9) fun v11=>(
 some (v11)
 )
 )
 ) (
 bdO (jr n b a) fun j=>(
 bdO (cL n other j) fun q=>(
 some (q)
 )
 )
 )
 )
 )

def nW(n:Nat)(j:aj)(y:aj):Option (aj):=
 bdO (cD n j) fun v1=>(
 bdO (cD n y) fun v3=>(
 bdO (my n j.Negative v1 y.Negative v3) fun v5=>(
 some (v5)
 )
 )
 )

def lE(n:Nat)(q:an)(y:an):Option (an):=
 bdO (dz n q) fun v1=>(
 bdO (dz n y) fun v3=>(
 bdO (fy n v1.Num v3.Den) fun v5=>(
 bdO (fy n v3.Num v1.Den) fun z=>(
 bdO (nW n v5 z) fun v9=>(
 bdO (fy n v1.Den v3.Den) fun v11=>(
 bdO (fA n v9 v11) fun j=>(
 some (j)
 )
 )
 )
 )
 )
 )
 )

def mM(n:Nat)(j:an):Option (an):=
 bdO (dz n j) fun v1=>(
 bdO (ft n v1.Num) fun v3=>(
 some (an.mk v3 v1.Den)
 )
 )

def mI(n:Nat)(j:an)(y:an):Option (an):=
 bdO (mM n y) fun v1=>(
 bdO (lE n j v1) fun v3=>(
 some (v3)
 )
 )

def lq(n:Nat)(j:an)(y:an):Option (an):=
 bdO (dz n j) fun v1=>(
 bdO (dz n y) fun v3=>(
 bdO (fy n v1.Num v3.Num) fun v5=>(
 bdO (fy n v1.Den v3.Den) fun q=>(
 bdO (fA n v5 q) fun v9=>(
 some (v9)
 )
 )
 )
 )
 )

def kg(n:Nat)(j:an)(y:an):Option (an×Int):=
 bdO (dz n j) fun v1=>(
 bdO (dz n y) fun v3=>(
 bdO (eW n v3.Num) fun v5=>(
 cdO ((v5:Int)==0) (
 some ((an.mk (aj.mk false []) (aj.mk false []),14))
 ) (
 bdO (fy n v1.Num v3.Den) fun q=>(
 bdO (fy n v1.Den v3.Num) fun v10=>(
 bdO (fA n q v10) fun v12=>(
 some ((v12,0))
 )
 )
 )
 )
 )
 )
 )

def jB(n:Nat)(t:List ae)(I:List an):Option (an):=
 gdO (decide (0<=(t.length:Int))) (
 gdO (decide ((64:Int)*(t.length:Int)<=281474976710656)) (
 gdO (decide ((t.length:Int)<=9223372036854775807)) (
 bdO (aV (α:=List an×Int) (β:=List an) n (fun z (q,j)=>(
 cdO (decide (j<(t.length:Int))) (
 gdO (inR j t.length) (
 cdO (((gt t j).Op:Int)==0) (
 gdO (inR j q.length) (
 z (q.set j.toNat (gt t j).N,Hy (j+1))
 )
 ) (
 cdO (((gt t j).Op:Int)==1) (
 gdO (inR (gt t j).A I.length) (
 gdO (inR j q.length) (
 z (q.set j.toNat (gt I (gt t j).A),Hy (j+1))
 )
 )
 ) (
 cdO (((gt t j).Op:Int)==2) (
 gdO (inR (gt t j).A q.length) (
 gdO (inR (gt t j).B q.length) (
 bdO (lE n (gt q (gt t j).A) (gt q (gt t j).B)) fun v55=>(
 gdO (inR j q.length) (
 z (q.set j.toNat v55,Hy (j+1))
 )
 )
 )
 )
 ) (
 cdO (((gt t j).Op:Int)==3) (
 gdO (inR (gt t j).A q.length) (
 gdO (inR (gt t j).B q.length) (
 bdO (mI n (gt q (gt t j).A) (gt q (gt t j).B)) fun D=>(
 gdO (inR j q.length) (
 z (q.set j.toNat D,Hy (j+1))
 )
 )
 )
 )
 ) (
 cdO (((gt t j).Op:Int)==4) (
 gdO (inR (gt t j).A q.length) (
 gdO (inR (gt t j).B q.length) (
 bdO (lq n (gt q (gt t j).A) (gt q (gt t j).B)) fun v67=>(
 gdO (inR j q.length) (
 z (q.set j.toNat v67,Hy (j+1))
 )
 )
 )
 )
 ) (
 cdO (((gt t j).Op:Int)==5) (
 gdO (inR (gt t j).A q.length) (
 gdO (inR (gt t j).B q.length) (
 bdO (kg n (gt q (gt t j).A) (gt q (gt t j).B)) fun E=>(
 gdO (inR j q.length) (
 z (q.set j.toNat E.1,Hy (j+1))
 )
 )
 )
 )
 ) (
 gdO (!(((gt t j).Op:Int)==6)) (
 cdO (((gt t j).Op:Int)==7) (
 gdO (inR (gt t j).A q.length) (
 bdO (lq n (gt q (gt t j).A) (gt q (gt t j).A)) fun v79=>(
 gdO (inR j q.length) (
 z (q.set j.toNat v79,Hy (j+1))
 )
 )
 )
 ) (
 z (q,Hy (j+1))
 )
 )
 )
 )
 )
 )
 )
 )
 )
 ) (
 some (q)
 )
 )) (List.replicate (t.length:Int).toNat (an.mk (aj.mk false []) (aj.mk false [])),0)) fun C=>(
 gdO (inR (Hy ((t.length:Int)-1)) C.length) (
 some ((gt C (Hy ((t.length:Int)-1))))
 )
 )
 )
 )
 )

def lP(n:Nat)(j:an):Option (Int):=
 bdO (dz n j) fun v1=>(
 bdO (eW n v1.Num) fun v3=>(
 some (v3)
 )
 )

def dU(n:Nat)(D:Int)(C:List ah)(z:List au)(q:List ar)(j:List (A3 Int×Int)):Option (List (aD×Int)):=
 some (([]:List (aD×Int)))

def dm(n:Nat)(E:Int)(C:List ah)(z:List au)(q:List ar)(j:List (A3 Int×Int))(o:ar):Option (List ae×List (aD×Int)×List ae):=
 bdO (dU n E C z q j) fun v10=>(
 bdO (cB n E C z q j ([]:List ae) v10 o) fun v12=>(
 bdO (cf n E C z q j v12.1 v12.2.1 v12.2.2.2.2) fun D=>(
 some ((D.1,v12.2.1,D.2))
 )
 )
 )

def gR(n:Nat)(o:ar)(p:Int)(I:List ah)(C:List au)(z:List ar)(q:List (A3 Int×Int))(j:List an):Option (List ae×List (aD×Int)×Bool):=
 gdO ((o.Kind:Int)==0) (
 bdO (dm n p I C z q o) fun v12=>(
 bdO (jB n v12.2.2 j) fun D=>(
 bdO (lP n D) fun E=>(
 some ((v12.1,v12.2.1,decide (E<=0)))
 )
 )
 )
 )

def bH(n:Nat)(s:List ar)(c:Int)(N:List ah)(I:List au)(D:List ar)(C:List (A3 Int×Int))(E:List ae)(q:List an):Option (Int):=
 bdO (aV (α:=Int) (β:=Sum (Unit) (Int)) n (fun z j=>(
 cdO (decide (j<(s.length:Int))) (
 gdO (inR j s.length) (
 bdO (gR n (gt s j) c N I D C q) fun v26=>(
 cdO v26.2.2 (
 some (Sum.inr (j))
 ) (
 z (Hy (j+1))
 )
 )
 )
 ) (
 some (Sum.inl ())
 )
 )) 0) fun J=>(
 match J with
 |.inl _=>(
 some ((-1))
 )
 |.inr (r0)=>(
 some r0
 ))

def bE(n:Nat)(s:List ar)(c:Int)(E:List ah)(D:List au)(C:List ar)(z:List (A3 Int×Int))(q:List ae)(j:List an):Option (Bool):=
 bdO (bH n s c E D C z q j) fun v4=>(
 some (decide (v4>=0))
 )

def lQ(n:Nat)(b:aJ)(j:List an):Option (Bool):=
 bdO (fz n b) fun v1=>(
 bdO (bE n b.Obs v1.1 v1.2.1 v1.2.2.1 v1.2.2.2.1 v1.2.2.2.2 ([]:List ae) j) fun v3=>(
 some (!v3)
 )
 )

def pq(n:Nat)(j:Int)(o:ar):Option (Int):=
 gdO (!((o.Kind:Int)==4)) (
 gdO ((o.Kind:Int)==0) (
 gdO (((j:Int)==3)) (
 some (2)
 )
 )
 )

def cH(n:Nat)(I:Int)(E:List ah)(D:List au)(C:List ar)(z:List (A3 Int×Int))(q:List ae)(j:List (aD×Int))(a:Int)(b:Int):Option (List ae×List (aD×Int)×Int):=
 bdO (bh n I E D C z q j (aD.mk 5 a b 0)) fun v6=>(
 some ((v6.1,v6.2.1,v6.2.2))
 )

def cS(n:Nat)(J:Int)(E:List ah)(D:List au)(z:List ar)(j:List (A3 Int×Int))(C:List ae)(q:List (aD×Int))(a:Int)(N:Int):Option (List ae×List (aD×Int)×Int):=
 bdO (bk n J E D z j C q N) fun I=>(
 bdO (aZ n J E D z j I.1 I.2.1 a I.2.2) fun v10=>(
 some ((v10.1,v10.2.1,v10.2.2))
 )
 )

def cR(n:Nat)(D:Int)(C:List ah)(z:List au)(q:List ar)(j:List (A3 Int×Int))(o:ar)(row:Int):Option (List ae×List (aD×Int)×List ae):=
 bdO (dU n D C z q j) fun v37=>(
 gdO (((o.Kind:Int)==0)) (
 gdO (inR o.A C.length) (
 bdO (cB n D C z q j ([]:List ae) v37 o) fun v41=>(
 cdO ((row:Int)==1) (
 bdO (bP n D C z q j v41.1 v41.2.1 (gt C o.A).Focal v41.2.2.2.1) fun v44=>(
 bdO (cH n D C z q j v44.1 v44.2.1 v44.2.2 v41.2.2.2.2) fun v46=>(
 bdO (bk n D C z q j v46.1 v46.2.1 (gt C o.A).Centre.Y) fun E=>(
 bdO (aP n D C z q j E.1 E.2.1 E.2.2 v46.2.2) fun v50=>(
 gdO (inR row 2) (
 bdO (cS n D C z q j v50.1 v50.2.1 v50.2.2 (A2.get o.Value row)) fun v53=>(
 bdO (cf n D C z q j v53.1 v53.2.1 v53.2.2) fun v55=>(
 some ((v55.1,v53.2.1,v55.2))
 )
 )
 )
 )
 )
 )
 )
 ) (
 bdO (bP n D C z q j v41.1 v41.2.1 (gt C o.A).Focal v41.2.2.1) fun I=>(
 bdO (cH n D C z q j I.1 I.2.1 I.2.2 v41.2.2.2.2) fun v59=>(
 bdO (bk n D C z q j v59.1 v59.2.1 (gt C o.A).Centre.X) fun J=>(
 bdO (aP n D C z q j J.1 J.2.1 J.2.2 v59.2.2) fun N=>(
 gdO (inR row 2) (
 bdO (cS n D C z q j N.1 N.2.1 N.2.2 (A2.get o.Value row)) fun v66=>(
 bdO (cf n D C z q j v66.1 v66.2.1 v66.2.2) fun O=>(
 some ((O.1,v66.2.1,O.2))
 )
 )
 )
 )
 )
 )
 )
 )
 )
 )
 )
 )

def lR(n:Nat)(b:aJ):Option (List (List ae)):=
 bdO (fz n b) fun v1=>(
 bdO (aV (α:=List (List ae)×Int) (β:=List (List ae)) n (fun q (E,z)=>(
 cdO (decide (z<(b.Obs.length:Int))) (
 gdO (inR z b.Obs.length) (
 bdO (pq n b.Dim (gt b.Obs z)) fun v30=>(
 bdO (aV (α:=List (List ae)×Int) (β:=List (List ae)) n (fun C (j,D)=>(
 cdO (decide (D<v30)) (
 bdO (cR n v1.1 v1.2.1 v1.2.2.1 v1.2.2.2.1 v1.2.2.2.2 (gt b.Obs z) D) fun N=>(
 gdO (decide ((j.length+1)*24<=140737488355328)) (
 gdO (decide (j.length+1<=4611686018427387904)) (
 C (j++[N.2.2],Hy (D+1))
 )
 )
 )
 ) (
 some (j)
 )
 )) (E,0)) fun I=>(
 q (I,Hy (z+1))
 )
 )
 )
 ) (
 some (E)
 )
 )) ([],0)) fun J=>(
 some (J)
 )
 )

def iW(n:Nat)(b:aJ)(E:List an):Option (List an):=
 bdO (lR n b) fun v1=>(
 bdO (aV (α:=List an×Int) (β:=List an) n (fun j (q,z)=>(
 cdO (decide (z<(v1.length:Int))) (
 gdO (inR z v1.length) (
 bdO (jB n (gt v1 z) E) fun D=>(
 gdO (decide ((q.length+1)*64<=140737488355328)) (
 gdO (decide (q.length+1<=4611686018427387904)) (
 j (q++[D],Hy (z+1))
 )
 )
 )
 )
 ) (
 some (q)
 )
 )) ([],0)) fun C=>(
 some (C)
 )
 )

def gA(n:Nat)(b:aJ)(j:List an):Option (List an×Int):=
 bdO (nL n b j) fun v1=>(
 cdO ((v1:Int)!=0) (
 some (([],v1))
 ) (
 bdO (lQ n b j) fun v4=>(
 cdO (!v4) (
 some (([],20))
 ) (
 bdO (iW n b j) fun q=>(
 some ((q,0))
 )
 )
 )
 )
 )

def dI(n:Nat)(j:aj):Option (Bool):=
 bdO (aV (α:=Int) (β:=Sum (Unit) (Bool)) n (fun q z=>(
 cdO (decide (z<(j.Groups.length:Int))) (
 gdO (inR z j.Groups.length) (
 cdO (decide ((gt j.Groups z)>=1000000000)) (
 some (Sum.inr (false))
 ) (
 q (Hy (z+1))
 )
 )
 ) (
 some (Sum.inl ())
 )
 )) 0) fun C=>(
 match C with
 |.inl _=>(
 cdO (((j.Groups.length:Int):Int)==0) (
 some (!j.Negative)
 ) (
 gdO (inR (Hy ((j.Groups.length:Int)-1)) j.Groups.length) (
 some (((gt j.Groups (Hy ((j.Groups.length:Int)-1))):Int)!=0)
 )
 )
 )
 |.inr (r0)=>(
 some r0
 ))

def bV(n:Nat)(j:aj):Option (aj):=
 bdO (dI n j) fun v1=>(
 cdO (!v1) (
 some (aj.mk false [])
 ) (
 gdO (decide ((0+j.Groups.length)*4<=140737488355328)) (
 gdO (decide (0+j.Groups.length<=4611686018427387904)) (
 some (j)
 )
 )
 )
 )

def dW(n:Nat)(j:aj):Option (Int):=
 bdO (bV n j) fun v1=>(
 cdO (((v1.Groups.length:Int):Int)==0) (
 some (0)
 ) (
 cdO v1.Negative (
 some ((-1))
 ) (
 some (1)
 )
 )
 )

def fQ(n:Nat)(a:List Int)(d:Int):Option (List Int×Int):=
 gdO (decide (0<=(a.length:Int))) (
 gdO (decide ((4:Int)*(a.length:Int)<=281474976710656)) (
 gdO (decide ((a.length:Int)<=9223372036854775807)) (
 bdO (aV (α:=List Int×Int×Int) (β:=List Int×Int) n (fun q (z,C,j)=>(
 cdO (decide (j>=0)) (
 gdO (inR j a.length) (
 gdO (!decide (d=0)) (
 gdO (inR j z.length) (
 q (z.set j.toNat (af .u32 (af .u64 ((af .u64 ((af .u64 (C*1000000000))+(af .u64 (gt a j)))).tdiv d))),(af .u64 ((af .u64 (C*1000000000))+(af .u64 (gt a j)))).tmod d,Hy (j-1))
 )
 )
 )
 ) (
 some ((z,C))
 )
 )) (List.replicate (a.length:Int).toNat ((0:Int):Int),0,Hy ((a.length:Int)-1))) fun I=>(
 match I with
 |(D,E)=>(
 bdO (bx n false D) fun v21=>(
 some ((v21.Groups,E))
 )
 ))
 )
 )
 )

def dT(n:Nat)(a:List Int)(b:List Int):Option (Int):=
 cdO (((a.length:Int):Int)!=(b.length:Int)) (
 cdO (decide ((a.length:Int)<(b.length:Int))) (
 some ((-1))
 ) (
 some (1)
 )
 ) (
 bdO (aV (α:=Int) (β:=Sum (Unit) (Int)) n (fun q j=>(
 cdO (decide (j>=0)) (
 gdO (inR j a.length) (
 gdO (inR j b.length) (
 cdO (decide ((gt a j)<(gt b j))) (
 some (Sum.inr ((-1)))
 ) (
 cdO (decide ((gt a j)>(gt b j))) (
 some (Sum.inr (1))
 ) (
 q (Hy (j-1))
 )
 )
 )
 )
 ) (
 some (Sum.inl ())
 )
 )) (Hy ((a.length:Int)-1))) fun z=>(
 match z with
 |.inl _=>(
 some (0)
 )
 |.inr (r0)=>(
 some r0
 ))
 )

def dh(n:Nat)(a:List Int)(d:Int):Option (List Int):=
 bdO (aV (α:=List Int×Int×Int) (β:=List Int×Int) n (fun j (z,C,q)=>(
 cdO (decide (q<(a.length:Int))) (
 gdO (inR q a.length) (
 gdO (decide ((z.length+1)*4<=140737488355328)) (
 gdO (decide (z.length+1<=4611686018427387904)) (
 j (z++[af .u32 ((af .u64 ((af .u64 ((af .u64 (gt a q))*d))+C)).tmod 1000000000)],af .u64 ((af .u64 ((af .u64 ((af .u64 (gt a q))*d))+C)).tdiv 1000000000),Hy (q+1))
 )
 )
 )
 ) (
 some ((z,C))
 )
 )) ([],0,0)) fun E=>(
 match E with
 |(D,I)=>(
 gdO (decide ((D.length+1)*4<=140737488355328)) (
 gdO (decide (D.length+1<=4611686018427387904)) (
 bdO (bx n false (D++[af .u32 I])) fun v20=>(
 some (v20.Groups)
 )
 )
 )
 ))

def ff(n:Nat)(a:List Int)(d:Int):Option (List Int):=
 gdO (decide ((1+a.length)*4<=140737488355328)) (
 gdO (decide (1+a.length<=4611686018427387904)) (
 bdO (bx n false ([d]++a)) fun v3=>(
 some (v3.Groups)
 )
 )
 )

def bG(n:Nat)(l:List Int)(i:Int):Option (Int):=
 cdO (decide (i<(l.length:Int))) (
 gdO (inR i l.length) (
 some (af .u64 (gt l i))
 )
 ) (
 some (0)
 )

def cX(n:Nat)(a:List Int)(b:List Int):Option (List Int):=
 bdO (aV (α:=List Int×Int×Int) (β:=List Int) n (fun j (q,C,z)=>(
 cdO (decide (z<(a.length:Int))) (
 bdO (bG n a z) fun D=>(
 bdO (bG n b z) fun E=>(
 gdO (decide ((q.length+1)*4<=140737488355328)) (
 gdO (decide (q.length+1<=4611686018427387904)) (
 j (q++[af .u32 ((af .u64 ((af .u64 ((af .u64 (1000000000+D))-E))-C)).tmod 1000000000)],af .u64 (1-(af .u64 ((af .u64 ((af .u64 ((af .u64 (1000000000+D))-E))-C)).tdiv 1000000000))),Hy (z+1))
 )
 )
 )
 )
 ) (
 some (q)
 )
 )) ([],0,0)) fun I=>(
 bdO (bx n false I) fun v23=>(
 some (v23.Groups)
 )
 )

def ei(n:Nat)(a:List Int)(b:List Int):Option (List Int×List Int):=
 cdO (((b.length:Int):Int)==1) (
 gdO (inR 0 b.length) (
 bdO (fQ n a (af .u64 (gt b 0))) fun v3=>(
 bdO (bx n false [(af .u32 v3.2)]) fun v5=>(
 some ((v3.1,v5.Groups))
 )
 )
 )
 ) (
 bdO (dT n a b) fun v7=>(
 cdO (decide (v7<0)) (
 some (([],a))
 ) (
 gdO (inR (Hy ((b.length:Int)-1)) b.length) (
 gdO (!decide (af .u64 ((af .u64 (gt b (Hy ((b.length:Int)-1))))+1)=0)) (
 bdO (dh n a (af .u64 ((1000000000:Int).tdiv (af .u64 ((af .u64 (gt b (Hy ((b.length:Int)-1))))+1))))) fun v12=>(
 bdO (dh n b (af .u64 ((1000000000:Int).tdiv (af .u64 ((af .u64 (gt b (Hy ((b.length:Int)-1))))+1))))) fun q=>(
 gdO (inS (Hy ((Hy ((v12.length:Int)-(b.length:Int)))+1)) (v12.length:Int) v12.length) (
 bdO (bx n false ((v12.drop (Hy ((Hy ((v12.length:Int)-(b.length:Int)))+1)).toNat).take ((v12.length:Int).toNat-(Hy ((Hy ((v12.length:Int)-(b.length:Int)))+1)).toNat))) fun v17=>(
 gdO (decide (0<=Hy ((Hy ((v12.length:Int)-(b.length:Int)))+1))) (
 gdO (decide ((4:Int)*(Hy ((Hy ((v12.length:Int)-(b.length:Int)))+1))<=281474976710656)) (
 gdO (decide (Hy ((Hy ((v12.length:Int)-(b.length:Int)))+1)<=9223372036854775807)) (
 bdO (aV (α:=List Int×List Int×Int) (β:=List Int×List Int) n (fun z (I,C,j)=>(
 cdO (decide (j>=0)) (
 gdO (inR j v12.length) (
 bdO (ff n I (gt v12 j)) fun N=>(
 bdO (bG n N (b.length:Int)) fun O=>(
 bdO (bG n N (Hy ((b.length:Int)-1))) fun v67=>(
 gdO (inR (Hy ((b.length:Int)-1)) q.length) (
 gdO (!decide (af .u64 ((af .u64 (gt q (Hy ((b.length:Int)-1))))+1)=0)) (
 bdO (dh n q (af .u64 ((af .u64 ((af .u64 (O*1000000000))+v67)).tdiv (af .u64 ((af .u64 (gt q (Hy ((b.length:Int)-1))))+1))))) fun Y=>(
 bdO (cX n N Y) fun Z=>(
 bdO (aV (α:=List Int×Int) (β:=List Int×Int) n (fun D (E,J)=>(
 bdO (dT n E q) fun v85=>(
 cdO (decide (v85>=0)) (
 bdO (cX n E q) fun a1=>(
 D (a1,af .u64 (J+1))
 )
 ) (
 some ((E,J))
 )
 )
 )) (Z,af .u64 ((af .u64 ((af .u64 (O*1000000000))+v67)).tdiv (af .u64 ((af .u64 (gt q (Hy ((b.length:Int)-1))))+1))))) fun a6=>(
 match a6 with
 |(R,S)=>(
 gdO (inR j C.length) (
 z (R,C.set j.toNat (af .u32 S),Hy (j-1))
 )
 ))
 )
 )
 )
 )
 )
 )
 )
 )
 ) (
 some ((I,C))
 )
 )) (v17.Groups,List.replicate (Hy ((Hy ((v12.length:Int)-(b.length:Int)))+1)).toNat ((0:Int):Int),Hy ((v12.length:Int)-(b.length:Int)))) fun a7=>(
 match a7 with
 |(T,U)=>(
 bdO (fQ n T (af .u64 ((1000000000:Int).tdiv (af .u64 ((af .u64 (gt b (Hy ((b.length:Int)-1))))+1))))) fun a8=>(
 bdO (bx n false U) fun b0=>(
 some ((b0.Groups,a8.1))
 )
 )
 ))
 )
 )
 )
 )
 )
 )
 )
 )
 )
 )
 )
 )

def eP(n:Nat)(a:List Int):Option (Int):=
 bdO (bG n a 1) fun v1=>(
 bdO (bG n a 0) fun v3=>(
 some (af .u64 ((af .u64 (v1*1000000000))+v3))
 )
 )

def gB(n:Nat)(S:aj)(y:aj):Option (aj):=
 bdO (bV n S) fun v1=>(
 bdO (bV n y) fun v3=>(
 bdO (aV (α:=List Int×List Int) (β:=List Int×List Int) n (fun j (C,q)=>(
 cdO (decide ((q.length:Int)>0)) (
 cdO (decide ((C.length:Int)>2)) (
 bdO (ei n C q) fun O=>(
 j (q,O.2)
 )
 ) (
 cdO (decide ((q.length:Int)>2)) (
 bdO (ei n C q) fun v22=>(
 j (q,v22.2)
 )
 ) (
 some ((C,q))
 )
 )
 ) (
 some ((C,q))
 )
 )) (v1.Groups,v3.Groups)) fun R=>(
 match R with
 |(E,I)=>(
 cdO (((I.length:Int):Int)==0) (
 bdO (bx n false E) fun v28=>(
 some (v28)
 )
 ) (
 bdO (eP n E) fun v30=>(
 bdO (eP n I) fun v32=>(
 bdO (aV (α:=Int×Int) (β:=Int) n (fun D (J,z)=>(
 cdO (decide (z>0)) (
 gdO (!decide (z=0)) (
 D (z,J.tmod z)
 )
 ) (
 some (J)
 )
 )) (v30,v32)) fun N=>(
 bdO (bx n false [(af .u32 (N.tmod 1000000000)),(af .u32 (af .u64 (N.tdiv 1000000000)))]) fun v45=>(
 some (v45)
 )
 )
 )
 )
 )
 ))
 )
 )

def fL(n:Nat)(j:aj):Option (aj):=
 bdO (bV n j) fun v1=>(
 bdO (bx n (!v1.Negative) v1.Groups) fun v3=>(
 some (v3)
 )
 )

def ir(n:Nat)(a:List Int)(b:List Int):Option (List Int):=
 bdO (aV (α:=List Int×Int×Int) (β:=List Int×Int) n (fun j (z,C,q)=>(
 cdO (decide (q<(a.length:Int))) (
 bdO (bG n a q) fun v22=>(
 bdO (bG n b q) fun v24=>(
 gdO (decide ((z.length+1)*4<=140737488355328)) (
 gdO (decide (z.length+1<=4611686018427387904)) (
 j (z++[af .u32 ((af .u64 ((af .u64 (v22+v24))+C)).tmod 1000000000)],af .u64 ((af .u64 ((af .u64 (v22+v24))+C)).tdiv 1000000000),Hy (q+1))
 )
 )
 )
 )
 ) (
 cdO (decide (q<(b.length:Int))) (
 bdO (bG n a q) fun E=>(
 bdO (bG n b q) fun v31=>(
 gdO (decide ((z.length+1)*4<=140737488355328)) (
 gdO (decide (z.length+1<=4611686018427387904)) (
 j (z++[af .u32 ((af .u64 ((af .u64 (E+v31))+C)).tmod 1000000000)],af .u64 ((af .u64 ((af .u64 (E+v31))+C)).tdiv 1000000000),Hy (q+1))
 )
 )
 )
 )
 ) (
 some ((z,C))
 )
 )
 )) ([],0,0)) fun J=>(
 match J with
 |(D,I)=>(
 gdO (decide ((D.length+1)*4<=140737488355328)) (
 gdO (decide (D.length+1<=4611686018427387904)) (
 bdO (bx n false (D++[af .u32 I])) fun v40=>(
 some (v40.Groups)
 )
 )
 )
 ))

def gC(n:Nat)(C:aj)(y:aj):Option (aj):=
 bdO (bV n C) fun v1=>(
 bdO (bV n y) fun v3=>(
 cdO (v1.Negative==v3.Negative) (
 bdO (ir n v1.Groups v3.Groups) fun v6=>(
 bdO (bx n v1.Negative v6) fun D=>(
 some (D)
 )
 )
 ) (
 bdO (dT n v1.Groups v3.Groups) fun v10=>(
 cdO (decide (v10>=0)) (
 bdO (cX n v1.Groups v3.Groups) fun j=>(
 bdO (bx n v1.Negative j) fun q=>(
 some (q)
 )
 )
 ) (
 bdO (cX n v3.Groups v1.Groups) fun v17=>(
 bdO (bx n v3.Negative v17) fun z=>(
 some (z)
 )
 )
 )
 )
 )
 )
 )

def dO(n:Nat)(j:aj)(y:aj):Option (aj):=
 bdO (fL n y) fun v1=>(
 bdO (gC n j v1) fun v3=>(
 some (v3)
 )
 )

def fS(n:Nat)(j:aj)(y:aj):Option (Int):=
 bdO (dO n j y) fun v1=>(
 bdO (dW n v1) fun v3=>(
 some (v3)
 )
 )

def fP(n:Nat)(j:an):Option (Bool):=
 bdO (dI n j.Num) fun v1=>(
 cdO (!v1) (
 some (false)
 ) (
 bdO (dI n j.Den) fun v4=>(
 cdO (!v4) (
 some (false)
 ) (
 bdO (dW n j.Den) fun z=>(
 cdO (decide (z<=0)) (
 some (false)
 ) (
 bdO (gB n j.Num j.Den) fun v10=>(
 bdO (dH n 1) fun v12=>(
 bdO (fS n v10 v12) fun q=>(
 some ((q:Int)==0)
 )
 )
 )
 )
 )
 )
 )
 )
 )

def dF(n:Nat)(j:an):Option (an):=
 bdO (fP n j) fun v1=>(
 cdO v1 (
 some (j)
 ) (
 bdO (cZ n 0) fun v4=>(
 some (v4)
 )
 )
 )

def fq(n:Nat)(j:an):Option (Int):=
 bdO (dF n j) fun v1=>(
 bdO (dW n v1.Num) fun v3=>(
 some (v3)
 )
 )

def gl(n:Nat):Option (Bool):=
 bdO (gQ n) fun v1=>(
 bdO (th n v1 40) fun v3=>(
 cdO ((v3.2:Int)!=0) (
 some (false)
 ) (
 bdO (gQ n) fun v6=>(
 bdO (jh n v6 v3.1) fun C=>(
 cdO ((C:Int)!=0) (
 some (false)
 ) (
 cdO (((v3.1.Strips.length:Int):Int)!=2) (
 some (false)
 ) (
 bdO (gQ n) fun v12=>(
 bdO (gg n v12 v3.1 (au.mk 20 12 0)) fun q=>(
 bdO (fZ n 63) fun z=>(
 bdO (gA n q z) fun j=>(
 cdO ((j.2:Int)==0) (
 cdO (((j.1.length:Int):Int)==20) (
 gdO (inR 0 j.1.length) (
 bdO (fP n (gt j.1 0)) fun v23=>(
 cdO v23 (
 bdO (fq n (gt j.1 0)) fun v26=>(
 some ((v26:Int)==0)
 )
 ) (
 some (false)
 )
 )
 )
 ) (
 some (false)
 )
 ) (
 some (false)
 )
 )
 )
 )
 )
 )
 )
 )
 )
 )
 )
 )

def gG(n:Nat)(j:an):Option (an):=
 bdO (dF n j) fun v1=>(
 bdO (fL n v1.Num) fun v3=>(
 some (an.mk v3 v1.Den)
 )
 )

def fb(n:Nat)(j:an):Option (an):=
 bdO (fq n j) fun v1=>(
 cdO (decide (v1<0)) (
 bdO (gG n j) fun v4=>(
 some (v4)
 )
 ) (
 bdO (dF n j) fun v6=>(
 some (v6)
 )
 )
 )

def cP(n:Nat)(S:aj)(y:aj):Option (aj):=
 bdO (bV n S) fun v1=>(
 bdO (bV n y) fun v3=>(
 gdO (decide (0<=Hy ((v1.Groups.length:Int)+(v3.Groups.length:Int)))) (
 gdO (decide ((4:Int)*(Hy ((v1.Groups.length:Int)+(v3.Groups.length:Int)))<=281474976710656)) (
 gdO (decide (Hy ((v1.Groups.length:Int)+(v3.Groups.length:Int))<=9223372036854775807)) (
 bdO (aV (α:=List Int×Int) (β:=List Int) n (fun C (J,q)=>(
 cdO (decide (q<(v1.Groups.length:Int))) (
 bdO (aV (α:=List Int×Int×Int) (β:=List Int×Int) n (fun D (z,E,j)=>(
 cdO (decide (j<(v3.Groups.length:Int))) (
 gdO (inR (Hy (q+j)) z.length) (
 gdO (inR q v1.Groups.length) (
 gdO (inR j v3.Groups.length) (
 D (z.set (Hy (q+j)).toNat (af .u32 ((af .u64 ((af .u64 ((af .u64 (gt z (Hy (q+j))))+(af .u64 ((af .u64 (gt v1.Groups q))*(af .u64 (gt v3.Groups j))))))+E)).tmod 1000000000)),af .u64 ((af .u64 ((af .u64 ((af .u64 (gt z (Hy (q+j))))+(af .u64 ((af .u64 (gt v1.Groups q))*(af .u64 (gt v3.Groups j))))))+E)).tdiv 1000000000),Hy (j+1))
 )
 )
 )
 ) (
 some ((z,E))
 )
 )) (J,0,0)) fun R=>(
 match R with
 |(I,N)=>(
 gdO (inR (Hy (q+(v3.Groups.length:Int))) I.length) (
 C (I.set (Hy (q+(v3.Groups.length:Int))).toNat (af .u32 N),Hy (q+1))
 )
 ))
 ) (
 some (J)
 )
 )) (List.replicate (Hy ((v1.Groups.length:Int)+(v3.Groups.length:Int))).toNat ((0:Int):Int),0)) fun O=>(
 bdO (bx n (v1.Negative !=v3.Negative) O) fun v53=>(
 some (v53)
 )
 )
 )
 )
 )
 )
 )

def dR(n:Nat)(D:aj)(y:aj):Option (aj×aj×Int):=
 bdO (bV n D) fun v1=>(
 bdO (bV n y) fun v3=>(
 cdO (((v3.Groups.length:Int):Int)==0) (
 some ((aj.mk false [],aj.mk false [],14))
 ) (
 bdO (ei n v1.Groups v3.Groups) fun v6=>(
 bdO (bx n (v1.Negative !=v3.Negative) v6.1) fun j=>(
 cdO (v1.Negative !=v3.Negative) (
 cdO (decide ((v6.2.length:Int)>0)) (
 bdO (im n 1) fun v12=>(
 bdO (dO n j v12) fun q=>(
 bdO (cP n q v3) fun z=>(
 bdO (dO n v1 z) fun C=>(
 some ((q,C,0))
 )
 )
 )
 )
 ) (
 bdO (cP n j v3) fun v20=>(
 bdO (dO n v1 v20) fun v22=>(
 some ((j,v22,0))
 )
 )
 )
 ) (
 bdO (cP n j v3) fun v24=>(
 bdO (dO n v1 v24) fun v26=>(
 some ((j,v26,0))
 )
 )
 )
 )
 )
 )
 )
 )

def fT(n:Nat)(num:aj)(den:aj):Option (an):=
 bdO (gB n num den) fun v1=>(
 bdO (dW n den) fun v3=>(
 cdO (decide (v3<0)) (
 bdO (fL n v1) fun v6=>(
 bdO (dR n num v6) fun q=>(
 bdO (dR n den v6) fun v10=>(
 some (an.mk q.1 v10.1)
 )
 )
 )
 ) (
 bdO (dR n num v1) fun v12=>(
 bdO (dR n den v1) fun j=>(
 some (an.mk v12.1 j.1)
 )
 )
 )
 )
 )

def dK(n:Nat)(q:an)(y:an):Option (an):=
 bdO (dF n q) fun v1=>(
 bdO (dF n y) fun v3=>(
 bdO (cP n v1.Num v3.Den) fun v5=>(
 bdO (cP n v3.Num v1.Den) fun z=>(
 bdO (gC n v5 z) fun v9=>(
 bdO (cP n v1.Den v3.Den) fun v11=>(
 bdO (fT n v9 v11) fun j=>(
 some (j)
 )
 )
 )
 )
 )
 )
 )

def ji(n:Nat)(j:an)(y:an):Option (an):=
 bdO (gG n y) fun v1=>(
 bdO (dK n j v1) fun v3=>(
 some (v3)
 )
 )

def dr(n:Nat)(j:an)(y:an):Option (Int):=
 bdO (ji n j y) fun v1=>(
 bdO (fq n v1) fun v3=>(
 some (v3)
 )
 )

def fJ(n:Nat)(s:aF)(f:aK)(I:A3 Int):Option (Bool):=
 bdO (gl n) fun v1=>(
 cdO (!v1) (
 some (false)
 ) (
 bdO (aV (α:=Int×Int) (β:=Int) n (fun C (J,D)=>(
 cdO (decide (D<(f.Strips.length:Int))) (
 gdO (inR D f.Strips.length) (
 C (Hy (J+((gt f.Strips D).length:Int)),Hy (D+1))
 )
 ) (
 some (J)
 )
 )) (0,0)) fun E=>(
 cdO (decide (E>10)) (
 some (true)
 ) (
 bdO (jh n s f) fun R=>(
 cdO ((R:Int)!=0) (
 some (true)
 ) (
 bdO (gg n s f (au.mk (Hy ((Hy (s.Width*(Hy I.e0))).tdiv 65535)) (Hy ((Hy (s.Height*(Hy I.e1))).tdiv 65535)) (Hy (s.Low+(Hy ((Hy ((Hy (s.High-s.Low))*(Hy I.e2))).tdiv 65535)))))) fun S=>(
 bdO (fZ n (Hy (3+(Hy (6*E))))) fun v21=>(
 bdO (gA n S v21) fun v23=>(
 cdO ((v23.2:Int)!=0) (
 some (false)
 ) (
 cdO (((v23.1.length:Int):Int)!=(Hy (2*E))) (
 some (false)
 ) (
 bdO (aV (α:=Int×Int) (β:=Int) n (fun q (z,j)=>(
 cdO (decide (j<E)) (
 gdO (inR (Hy (2*j)) v23.1.length) (
 bdO (fb n (gt v23.1 (Hy (2*j)))) fun v54=>(
 gdO (inR (Hy ((Hy (2*j))+1)) v23.1.length) (
 bdO (fb n (gt v23.1 (Hy ((Hy (2*j))+1)))) fun N=>(
 bdO (dK n v54 v54) fun v59=>(
 bdO (cZ n s.Along) fun T=>(
 bdO (dr n v59 T) fun U=>(
 cdO (decide (U<=0)) (
 bdO (dK n N N) fun v66=>(
 bdO (cZ n s.Across) fun Y=>(
 bdO (dr n v66 Y) fun v70=>(
 cdO (decide (v70<=0)) (
 q (Hy (z+1),Hy (j+1))
 ) (
 q (z,Hy (j+1))
 )
 )
 )
 )
 ) (
 q (z,Hy (j+1))
 )
 )
 )
 )
 )
 )
 )
 )
 ) (
 some (z)
 )
 )) (0,0)) fun O=>(
 some (decide (O>=s.Views))
 )
 )
 )
 )
 )
 )
 )
 )
 )
 )
 )
 )
abbrev iCu:=iC .u32
abbrev wFu(n:Int):Int:=af .u64 n
abbrev zN2:List AV:=[aB false,nS,aB false,nS]
abbrev zN3:List AV:=[aB false,nS,aB false,nS,aB false,nS]
abbrev zN4:List AV:=[aB false,nS,aB false,nS,aB false,nS,aB false,nS]
end Go.L