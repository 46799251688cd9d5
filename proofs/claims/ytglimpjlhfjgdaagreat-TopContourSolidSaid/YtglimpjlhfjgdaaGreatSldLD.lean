
import Derived.Test.YtglimpjlhfjgdaaGreatSc11Slds
import Derived.Test.YtglimpjlhfjgdaaGreatScMSlds
import Derived.Test.YtglimpjlhfjgdaaGreatScRSlds
import Derived.Test.YtglimpjlhfjgdaaGreatScUSlds
import Derived.Test.YtglimpjlhfjgdaaGreatScWSlds
import Derived.Test.YtglimpjlhfjgdaaGreatScSSlds
set_option linter.all false
set_option maxRecDepth 100000
set_option maxHeartbeats 4000000
namespace Go.L
open Go Go.Eng
structure aj where
 X0:Int
 Y0:Int
 Step:Int
 Width:Int
 Height:Int
 Z:List Int
 deriving Inhabited

structure ar where
 X:Int
 Y:Int
 Z:Int
 deriving Inhabited

structure A3 (α:Type) where
 e0:α
 e1:α
 e2:α
 deriving Inhabited

structure az where
 Vertices:List ar
 Faces:List (A3 Int)
 deriving Inhabited

def ar.c(x:ar):List AV:=[.at (.int .i64 x.X),.at (.int .i64 x.Y),.at (.int .i64 x.Z)]
theorem ar.len:∀x,(ar.c x).length=3:=fun _=>rfl
theorem ar.pure:∀x,bL (ar.c x)=[]:=fun _=>rfl

def ai.c(x:A3 Int):List AV:=[.at (.int .i64 x.e0),.at (.int .i64 x.e1),.at (.int .i64 x.e2)]
theorem ai.len:∀x,(ai.c x).length=3:=fun _=>rfl
theorem ai.pure:∀x,bL (ai.c x)=[]:=fun _=>rfl

structure ah where
 Negative:Bool
 Groups:List Int
 deriving Inhabited,DecidableEq

structure A2 (α:Type) where
 e0:α
 e1:α
 deriving Inhabited,DecidableEq

def al.K(x:A2 Int):Value:=.agg #[.int .i64 x.e0,.int .i64 x.e1]
theorem al.key:Em al.K:=fun⟨a0,a1⟩ ⟨b0,b1⟩=>by
 have h:((⟨a0,a1⟩:A2 Int)==⟨b0,b1⟩)=(a0==b0&&(a1==b1&&true)):=by rw[Bool.eq_iff_iff];simp
 show some _=some _;rw[h]

structure an where
 Num:ah
 Den:ah
 deriving Inhabited,DecidableEq

structure aw where
 A:Int
 B:Int
 At:an
 deriving Inhabited,DecidableEq

structure ak where
 Closed:Bool
 Points:List aw
 deriving Inhabited,DecidableEq

def ag.c(x:A2 Int):List AV:=[.at (.int .i64 x.e0),.at (.int .i64 x.e1)]
theorem ag.len:∀x,(ag.c x).length=2:=fun _=>rfl
theorem ag.pure:∀x,bL (ag.c x)=[]:=fun _=>rfl

def A3.get(x:A3 Int)(j:Int):Int:=gt [x.e0,x.e1,x.e2] j
def A3.put(x:A3 Int)(j v:Int):A3 Int:=⟨if j.toNat=0 then v else x.e0,if j.toNat=1 then v else x.e1,if j.toNat=2 then v else x.e2⟩
theorem A3.ML{k:IntKind}(x:A3 Int){j:Int}(v:Int)(h:inR j 3=true):setCells [.at (.int k x.e0),.at (.int k x.e1),.at (.int k x.e2)] j.toNat [.at (.int k v)]=[.at (.int k (x.put j v).e0),.at (.int k (x.put j v).e1),.at (.int k (x.put j v).e2)]:=by
 have h1:=aM h;have hj:j.toNat=0\/j.toNat=1\/j.toNat=2:=by omega
 unfold A3.put;rcases hj with e|e|e<;>simp only[e]<;>rfl

def aw.c(x:aw):List AV:=[.at (.int .i64 x.A),.at (.int .i64 x.B),.at (.bool x.At.Num.Negative),slT (iC .u32) x.At.Num.Groups,.at (.bool x.At.Den.Negative),slT (iC .u32) x.At.Den.Groups]
theorem aw.len:∀x,(aw.c x).length=6:=fun _=>rfl
theorem aw.pure:∀x,bL (aw.c x)=[]:=fun _=>rfl

def ak.c(x:ak):List AV:=[.at (.bool x.Closed),slT aw.c x.Points]
theorem ak.len:∀x,(ak.c x).length=2:=fun _=>rfl
theorem ak.pure:∀x,bL (ak.c x)=[]:=fun _=>rfl

theorem aw.inj:∀x y,aw.c x=aw.c y->x=y:=by
 rintro⟨_,_,⟨⟨_,_⟩,⟨_,_⟩⟩⟩ ⟨_,_,⟨⟨_,_⟩,⟨_,_⟩⟩⟩ h;simp only[aw.c,List.cons.injEq,AV.at.injEq,Value.int.injEq,Value.bool.injEq,true_and,and_true,dU]at h;simp_all

structure aE where
 X:an
 Y:an
 deriving Inhabited

def aE.c(x:aE):List AV:=[.at (.bool x.X.Num.Negative),slT (iC .u32) x.X.Num.Groups,.at (.bool x.X.Den.Negative),slT (iC .u32) x.X.Den.Groups,.at (.bool x.Y.Num.Negative),slT (iC .u32) x.Y.Num.Groups,.at (.bool x.Y.Den.Negative),slT (iC .u32) x.Y.Den.Groups]
theorem aE.len:∀x,(aE.c x).length=8:=fun _=>rfl
theorem aE.pure:∀x,bL (aE.c x)=[]:=fun _=>rfl

def au.c(x:A3 (A3 ah)):List AV:=[.at (.bool x.e0.e0.Negative),slT (iC .u32) x.e0.e0.Groups,.at (.bool x.e0.e1.Negative),slT (iC .u32) x.e0.e1.Groups,.at (.bool x.e0.e2.Negative),slT (iC .u32) x.e0.e2.Groups,.at (.bool x.e1.e0.Negative),slT (iC .u32) x.e1.e0.Groups,.at (.bool x.e1.e1.Negative),slT (iC .u32) x.e1.e1.Groups,.at (.bool x.e1.e2.Negative),slT (iC .u32) x.e1.e2.Groups,.at (.bool x.e2.e0.Negative),slT (iC .u32) x.e2.e0.Groups,.at (.bool x.e2.e1.Negative),slT (iC .u32) x.e2.e1.Groups,.at (.bool x.e2.e2.Negative),slT (iC .u32) x.e2.e2.Groups]
theorem au.len:∀x,(au.c x).length=18:=fun _=>rfl
theorem au.pure:∀x,bL (au.c x)=[]:=fun _=>rfl

def aj.c(x:aj):List AV:=[.at (.int .i64 x.X0),.at (.int .i64 x.Y0),.at (.int .i64 x.Step),.at (.int .i64 x.Width),.at (.int .i64 x.Height),slT (iC .i64) x.Z]
theorem aj.len:∀x,(aj.c x).length=6:=fun _=>rfl
theorem aj.pure:∀x,bL (aj.c x)=[]:=fun _=>rfl

def an.c(x:an):List AV:=[.at (.bool x.Num.Negative),slT (iC .u32) x.Num.Groups,.at (.bool x.Den.Negative),slT (iC .u32) x.Den.Groups]
theorem an.len:∀x,(an.c x).length=4:=fun _=>rfl
theorem an.pure:∀x,bL (an.c x)=[]:=fun _=>rfl

def az.c(x:az):List AV:=[slT ar.c x.Vertices,slT ai.c x.Faces]
theorem az.len:∀x,(az.c x).length=2:=fun _=>rfl
theorem az.pure:∀x,bL (az.c x)=[]:=fun _=>rfl

def ah.c(x:ah):List AV:=[.at (.bool x.Negative),slT (iC .u32) x.Groups]
theorem ah.len:∀x,(ah.c x).length=2:=fun _=>rfl
theorem ah.pure:∀x,bL (ah.c x)=[]:=fun _=>rfl

def dT(n:Nat)(n':Int):Option (Bool):=
 cdO (decide (n'>=2)) (
 some (decide (n'<=64))
 ) (
 some (false)
 )

def gX(n:Nat)(n':Int):Option (Bool):=
 cdO (decide (n'<(-1048576))) (
 some (true)
 ) (
 some (decide (n'>1048576))
 )

def iv(n:Nat)(z:Int):Option (Bool):=
 cdO ((z:Int)!=(-2147483648)) (
 bdO (gX n z) fun v2=>(
 some (v2)
 )
 ) (
 some (false)
 )

def bK(n:Nat)(s:List Int):Option (Int):=
 bdO (aQ (α:=Int) (β:=Sum (Unit) (Int)) n (fun again7 x_1=>(
 cdO (decide (x_1<(s.length:Int))) (
 gdO (inR x_1 s.length) (
 bdO (iv n (gt s x_1)) fun v10=>(
 cdO v10 (
 some (Sum.inr (x_1))
 ) (
 again7 (MR (x_1+1))
 )
 )
 )
 ) (
 some (Sum.inl ())
 )
 )) 0) fun o13=>(
 match o13 with
 |.inl _=>(
 some ((-1))
 )
 |.inr (r0)=>(
 some r0
 ))

def bh(n:Nat)(s:List Int):Option (Bool):=
 bdO (bK n s) fun v1=>(
 some (decide (v1>=0))
 )

def fE(n:Nat)(g:aj):Option (Int):=
 bdO (dT n g.Width) fun v1=>(
 cdO (!v1) (
 some (2)
 ) (
 bdO (dT n g.Height) fun v4=>(
 cdO (!v4) (
 some (2)
 ) (
 cdO (decide (g.Step<2)) (
 some (2)
 ) (
 cdO (decide (g.Step>65536)) (
 some (2)
 ) (
 cdO (((g.Step.tmod 2):Int)!=0) (
 some (2)
 ) (
 bdO (gX n g.X0) fun v10=>(
 cdO v10 (
 some (2)
 ) (
 bdO (gX n g.Y0) fun v13=>(
 cdO v13 (
 some (2)
 ) (
 cdO (((g.Z.length:Int):Int)!=(MR (g.Width*g.Height))) (
 some (4)
 ) (
 bdO (bh n g.Z) fun v17=>(
 cdO v17 (
 some (2)
 ) (
 some (0)
 )
 )
 )
 )
 )
 )
 )
 )
 )
 )
 )
 )
 )
 )

def gp(n:Nat)(s:List Int)(v:Int):Option (Int):=
 bdO (aQ (α:=Int) (β:=Sum (Unit) (Int)) n (fun again5 x_1=>(
 cdO (decide (x_1<(s.length:Int))) (
 gdO (inR x_1 s.length) (
 cdO ((v:Int)==(gt s x_1)) (
 some (Sum.inr (x_1))
 ) (
 again5 (MR (x_1+1))
 )
 )
 ) (
 some (Sum.inl ())
 )
 )) 0) fun o9=>(
 match o9 with
 |.inl _=>(
 some ((-1))
 )
 |.inr (r0)=>(
 some r0
 ))

def bs(n:Nat)(s:List Int)(v:Int):Option (Bool):=
 bdO (gp n s v) fun v1=>(
 some (decide (v1>=0))
 )

def pc(n:Nat)(z:Int):Option (Bool):=
 cdO (decide (z<(-1048576))) (
 some (true)
 ) (
 some (decide (z>1048576))
 )

def cU(n:Nat)(x':List Int):Option (Int):=
 gdO (!(decide ((x'.length:Int)<1))) (
 gdO (inR 0 x'.length) (
 bdO (aQ (α:=Int×Int) (β:=Int) n (fun again8 (m_3,i_4)=>(
 cdO (decide (i_4<(x'.length:Int))) (
 gdO (inR i_4 x'.length) (
 again8 (mn m_3 (gt x' i_4),MR (i_4+1))
 )
 ) (
 some (m_3)
 )
 )) ((gt x' 0),1)) fun m_7=>(
 some (m_7)
 )
 )
 )

def gP(n:Nat)(g:aj):Option (List (A3 Int)):=
 bdO (aQ (α:=List (A3 Int)×Int) (β:=List (A3 Int)) n (fun again75 (o_1,x_2)=>(
 cdO (decide (x_2<(MR (g.Height-1)))) (
 bdO (aQ (α:=List (A3 Int)×Int) (β:=List (A3 Int)) n (fun again112 (o_78,x_79)=>(
 cdO (decide (x_79<(MR (g.Width-1)))) (
 bdO (aQ (α:=List (A3 Int)×Int) (β:=List (A3 Int)) n (fun again129 (o_115,x_116)=>(
 cdO (decide (x_116<2)) (
 gdO (inR x_116 ([A3.mk (MR ((MR (x_2*g.Width))+x_79)) (MR ((MR ((MR (x_2*g.Width))+x_79))+1)) (MR ((MR ((MR ((MR (x_2*g.Width))+x_79))+g.Width))+1)),A3.mk (MR ((MR (x_2*g.Width))+x_79)) (MR ((MR ((MR ((MR (x_2*g.Width))+x_79))+g.Width))+1)) (MR ((MR ((MR (x_2*g.Width))+x_79))+g.Width))].length)) (
 gdO (inR (gt [A3.mk (MR ((MR (x_2*g.Width))+x_79)) (MR ((MR ((MR (x_2*g.Width))+x_79))+1)) (MR ((MR ((MR ((MR (x_2*g.Width))+x_79))+g.Width))+1)),A3.mk (MR ((MR (x_2*g.Width))+x_79)) (MR ((MR ((MR ((MR (x_2*g.Width))+x_79))+g.Width))+1)) (MR ((MR ((MR (x_2*g.Width))+x_79))+g.Width))] x_116).e0 g.Z.length) (
 cdO (((gt g.Z (gt [A3.mk (MR ((MR (x_2*g.Width))+x_79)) (MR ((MR ((MR (x_2*g.Width))+x_79))+1)) (MR ((MR ((MR ((MR (x_2*g.Width))+x_79))+g.Width))+1)),A3.mk (MR ((MR (x_2*g.Width))+x_79)) (MR ((MR ((MR ((MR (x_2*g.Width))+x_79))+g.Width))+1)) (MR ((MR ((MR (x_2*g.Width))+x_79))+g.Width))] x_116).e0):Int)!=(-2147483648)) (
 gdO (inR (gt [A3.mk (MR ((MR (x_2*g.Width))+x_79)) (MR ((MR ((MR (x_2*g.Width))+x_79))+1)) (MR ((MR ((MR ((MR (x_2*g.Width))+x_79))+g.Width))+1)),A3.mk (MR ((MR (x_2*g.Width))+x_79)) (MR ((MR ((MR ((MR (x_2*g.Width))+x_79))+g.Width))+1)) (MR ((MR ((MR (x_2*g.Width))+x_79))+g.Width))] x_116).e1 g.Z.length) (
 cdO (((gt g.Z (gt [A3.mk (MR ((MR (x_2*g.Width))+x_79)) (MR ((MR ((MR (x_2*g.Width))+x_79))+1)) (MR ((MR ((MR ((MR (x_2*g.Width))+x_79))+g.Width))+1)),A3.mk (MR ((MR (x_2*g.Width))+x_79)) (MR ((MR ((MR ((MR (x_2*g.Width))+x_79))+g.Width))+1)) (MR ((MR ((MR (x_2*g.Width))+x_79))+g.Width))] x_116).e1):Int)!=(-2147483648)) (
 gdO (inR (gt [A3.mk (MR ((MR (x_2*g.Width))+x_79)) (MR ((MR ((MR (x_2*g.Width))+x_79))+1)) (MR ((MR ((MR ((MR (x_2*g.Width))+x_79))+g.Width))+1)),A3.mk (MR ((MR (x_2*g.Width))+x_79)) (MR ((MR ((MR ((MR (x_2*g.Width))+x_79))+g.Width))+1)) (MR ((MR ((MR (x_2*g.Width))+x_79))+g.Width))] x_116).e2 g.Z.length) (
 cdO (((gt g.Z (gt [A3.mk (MR ((MR (x_2*g.Width))+x_79)) (MR ((MR ((MR (x_2*g.Width))+x_79))+1)) (MR ((MR ((MR ((MR (x_2*g.Width))+x_79))+g.Width))+1)),A3.mk (MR ((MR (x_2*g.Width))+x_79)) (MR ((MR ((MR ((MR (x_2*g.Width))+x_79))+g.Width))+1)) (MR ((MR ((MR (x_2*g.Width))+x_79))+g.Width))] x_116).e2):Int)!=(-2147483648)) (
 gdO (decide ((o_115.length+1)*24<=140737488355328)) (
 gdO (decide (o_115.length+1<=4611686018427387904)) (
 again129 (o_115++[(gt [A3.mk (MR ((MR (x_2*g.Width))+x_79)) (MR ((MR ((MR (x_2*g.Width))+x_79))+1)) (MR ((MR ((MR ((MR (x_2*g.Width))+x_79))+g.Width))+1)),A3.mk (MR ((MR (x_2*g.Width))+x_79)) (MR ((MR ((MR ((MR (x_2*g.Width))+x_79))+g.Width))+1)) (MR ((MR ((MR (x_2*g.Width))+x_79))+g.Width))] x_116)],MR (x_116+1))
 )
 )
 ) (
 again129 (o_115,MR (x_116+1))
 )
 )
 ) (
 again129 (o_115,MR (x_116+1))
 )
 )
 ) (
 again129 (o_115,MR (x_116+1))
 )
 )
 )
 ) (
 some (o_115)
 )
 )) (o_78,0)) fun o_128=>(
 again112 (o_128,MR (x_79+1))
 )
 ) (
 some (o_78)
 )
 )) (o_1,0)) fun o_111=>(
 again75 (o_111,MR (x_2+1))
 )
 ) (
 some (o_1)
 )
 )) ([],0)) fun o_74=>(
 some (o_74)
 )

def ef(n:Nat)(a:Int)(b:Int)(p:List ar)(p':List (A3 Int))(p'':Int):Option (List (A3 Int)):=
 gdO (decide ((p'.length+2)*24<=140737488355328)) (
 gdO (decide (p'.length+2<=4611686018427387904)) (
 some (p'++[A3.mk a (MR (a+p'')) (MR (b+p'')),A3.mk a (MR (b+p'')) b])
 )
 )

def jj(n:Nat)(g:aj)(base:Int):Option (az×Int):=
 bdO (fE n g) fun v1=>(
 cdO ((v1:Int)!=0) (
 some ((az.mk [] [],v1))
 ) (
 cdO (decide ((g.Z.length:Int)>256)) (
 some ((az.mk [] [],3))
 ) (
 bdO (bs n g.Z (-2147483648)) fun v7=>(
 cdO v7 (
 some ((az.mk [] [],6))
 ) (
 bdO (pc n base) fun v11=>(
 cdO v11 (
 some ((az.mk [] [],2))
 ) (
 bdO (cU n g.Z) fun v14=>(
 cdO (decide (v14<base)) (
 some ((az.mk [] [],2))
 ) (
 bdO (aQ (α:=List ar×Int) (β:=List ar) n (fun again58 (o_45,x_46)=>(
 cdO (decide (x_46<(MR (2*(g.Z.length:Int))))) (
 gdO (!decide ((g.Z.length:Int)=0)) (
 gdO (!decide (g.Width=0)) (
 cdO (decide (x_46<(g.Z.length:Int))) (
 gdO (inR x_46 g.Z.length) (
 gdO (decide ((o_45.length+1)*24<=140737488355328)) (
 gdO (decide (o_45.length+1<=4611686018427387904)) (
 again58 (o_45++[ar.mk (MR (g.X0+(MR (((x_46.tmod (g.Z.length:Int)).tmod g.Width)*g.Step)))) (MR (g.Y0+(MR ((MR ((x_46.tmod (g.Z.length:Int)).tdiv g.Width))*g.Step)))) (gt g.Z x_46)],MR (x_46+1))
 )
 )
 )
 ) (
 gdO (decide ((o_45.length+1)*24<=140737488355328)) (
 gdO (decide (o_45.length+1<=4611686018427387904)) (
 again58 (o_45++[ar.mk (MR (g.X0+(MR (((x_46.tmod (g.Z.length:Int)).tmod g.Width)*g.Step)))) (MR (g.Y0+(MR ((MR ((x_46.tmod (g.Z.length:Int)).tdiv g.Width))*g.Step)))) base],MR (x_46+1))
 )
 )
 )
 )
 )
 ) (
 some (o_45)
 )
 )) ([],0)) fun o_57=>(
 bdO (gP n g) fun v72=>(
 bdO (aQ (α:=List (A3 Int)×Int) (β:=List (A3 Int)) n (fun again99 (o_91,x_92)=>(
 cdO (decide (x_92<(v72.length:Int))) (
 gdO (inR x_92 v72.length) (
 gdO (decide ((o_91.length+2)*24<=140737488355328)) (
 gdO (decide (o_91.length+2<=4611686018427387904)) (
 again99 (o_91++[(gt v72 x_92),A3.mk (MR ((gt v72 x_92).e0+(g.Z.length:Int))) (MR ((gt v72 x_92).e2+(g.Z.length:Int))) (MR ((gt v72 x_92).e1+(g.Z.length:Int)))],MR (x_92+1))
 )
 )
 )
 ) (
 some (o_91)
 )
 )) ([],0)) fun o_98=>(
 bdO (aQ (α:=List (A3 Int)×Int) (β:=List (A3 Int)) n (fun again136 (o_127,x_128)=>(
 cdO (decide (x_128<(MR (g.Width-1)))) (
 bdO (ef n x_128 (MR (x_128+1)) o_57 o_127 (g.Z.length:Int)) fun v139=>(
 bdO (ef n (MR ((MR ((g.Z.length:Int)-1))-x_128)) (MR ((MR ((g.Z.length:Int)-2))-x_128)) o_57 v139 (g.Z.length:Int)) fun v141=>(
 again136 (v141,MR (x_128+1))
 )
 )
 ) (
 some (o_127)
 )
 )) (o_98,0)) fun o_135=>(
 bdO (aQ (α:=List (A3 Int)×Int) (β:=List (A3 Int)) n (fun again155 (o_146,x_147)=>(
 cdO (decide (x_147<(MR (g.Height-1)))) (
 bdO (ef n (MR ((MR ((MR (x_147*g.Width))+g.Width))-1)) (MR ((MR ((MR ((MR (x_147+1))*g.Width))+g.Width))-1)) o_57 o_146 (g.Z.length:Int)) fun v158=>(
 bdO (ef n (MR ((MR (x_147+1))*g.Width)) (MR (x_147*g.Width)) o_57 v158 (g.Z.length:Int)) fun v160=>(
 again155 (v160,MR (x_147+1))
 )
 )
 ) (
 some (o_146)
 )
 )) (o_135,0)) fun o_154=>(
 some ((az.mk o_57 o_154,0))
 )
 )
 )
 )
 )
 )
 )
 )
 )
 )
 )
 )
 )
 )

def jE(n:Nat)(n':Int):Option (Bool):=
 cdO (decide (n'<(-1048576))) (
 some (true)
 ) (
 some (decide (n'>1048576))
 )

def bG(n:Nat)(s:List Int):Option (Int):=
 bdO (aQ (α:=Int) (β:=Sum (Unit) (Int)) n (fun again7 x_1=>(
 cdO (decide (x_1<(s.length:Int))) (
 gdO (inR x_1 s.length) (
 bdO (jE n (gt s x_1)) fun v10=>(
 cdO v10 (
 some (Sum.inr (x_1))
 ) (
 again7 (MR (x_1+1))
 )
 )
 )
 ) (
 some (Sum.inl ())
 )
 )) 0) fun o13=>(
 match o13 with
 |.inl _=>(
 some ((-1))
 )
 |.inr (r0)=>(
 some r0
 ))

def bn(n:Nat)(s:List Int):Option (Bool):=
 bdO (bG n s) fun v1=>(
 some (decide (v1>=0))
 )

def kZ(n:Nat)(p:ar):Option (Bool):=
 bdO (bn n [p.X,p.Y,p.Z]) fun v1=>(
 some (v1)
 )

def aV(n:Nat)(s:List ar):Option (Int):=
 bdO (aQ (α:=Int) (β:=Sum (Unit) (Int)) n (fun again7 x_1=>(
 cdO (decide (x_1<(s.length:Int))) (
 gdO (inR x_1 s.length) (
 bdO (kZ n (gt s x_1)) fun v10=>(
 cdO v10 (
 some (Sum.inr (x_1))
 ) (
 again7 (MR (x_1+1))
 )
 )
 )
 ) (
 some (Sum.inl ())
 )
 )) 0) fun o13=>(
 match o13 with
 |.inl _=>(
 some ((-1))
 )
 |.inr (r0)=>(
 some r0
 ))

def aU(n:Nat)(s:List ar):Option (Bool):=
 bdO (aV n s) fun v1=>(
 some (decide (v1>=0))
 )

def jO(n:Nat)(m':az):Option (Int):=
 cdO (decide ((m'.Vertices.length:Int)>512)) (
 some (3)
 ) (
 cdO (decide ((m'.Faces.length:Int)>1024)) (
 some (3)
 ) (
 bdO (aU n m'.Vertices) fun v3=>(
 cdO v3 (
 some (2)
 ) (
 bdO (aQ (α:=Int) (β:=Sum (Unit) (Int)) n (fun again18 x_6=>(
 cdO (decide (x_6<(m'.Faces.length:Int))) (
 gdO (inR x_6 m'.Faces.length) (
 cdO (decide ((gt m'.Faces x_6).e0<0)) (
 some (Sum.inr (2))
 ) (
 cdO (decide ((gt m'.Faces x_6).e0>=(m'.Vertices.length:Int))) (
 some (Sum.inr (2))
 ) (
 cdO (decide ((gt m'.Faces x_6).e1<0)) (
 some (Sum.inr (2))
 ) (
 cdO (decide ((gt m'.Faces x_6).e1>=(m'.Vertices.length:Int))) (
 some (Sum.inr (2))
 ) (
 cdO (decide ((gt m'.Faces x_6).e2<0)) (
 some (Sum.inr (2))
 ) (
 cdO (decide ((gt m'.Faces x_6).e2>=(m'.Vertices.length:Int))) (
 some (Sum.inr (2))
 ) (
 cdO (((gt m'.Faces x_6).e0:Int)==(gt m'.Faces x_6).e1) (
 some (Sum.inr (13))
 ) (
 cdO (((gt m'.Faces x_6).e1:Int)==(gt m'.Faces x_6).e2) (
 some (Sum.inr (13))
 ) (
 cdO (((gt m'.Faces x_6).e2:Int)==(gt m'.Faces x_6).e0) (
 some (Sum.inr (13))
 ) (
 again18 (MR (x_6+1))
 )
 )
 )
 )
 )
 )
 )
 )
 )
 )
 ) (
 some (Sum.inl ())
 )
 )) 0) fun o30=>(
 match o30 with
 |.inl _=>(
 some (0)
 )
 |.inr (r0)=>(
 some r0
 ))
 )
 )
 )
 )

def pe(n:Nat)(f:A3 Int):Option (A3 (A2 Int)):=
 some (A3.mk (A2.mk f.e0 f.e1) (A2.mk f.e1 f.e2) (A2.mk f.e2 f.e0))

def cw(n:Nat)(u:List (Int×Int))(i:Int):Option (Int):=
 bdO (aQ (α:=Int) (β:=Int) n (fun again14 i_11=>(
 cdO (!(cG u i_11)) (
 some (i_11)
 ) (
 cdO (((getM 0 u i_11):Int)==i_11) (
 some (i_11)
 ) (
 again14 (getM 0 u i_11)
 )
 )
 )) i) fun r0=>(
 some r0
 )

def cV(n:Nat)(u:List (Int×Int))(i:Int)(k:Int):Option (List (Int×Int)):=
 bdO (cw n u i) fun v6=>(
 bdO (cw n u k) fun v8=>(
 some (aW u (mx v6 v8) (mn v6 v8))
 )
 )

def gD(n:Nat)(m':az):Option (Int):=
 bdO (jO n m') fun v1=>(
 cdO ((v1:Int)!=0) (
 some (v1)
 ) (
 gdO (decide (0<=(m'.Vertices.length:Int))) (
 gdO (decide ((24:Int)*(m'.Vertices.length:Int)<=281474976710656)) (
 gdO (decide ((m'.Vertices.length:Int)<=9223372036854775807)) (
 bdO (aQ (α:=List (A2 Int×Bool)×List (List Int)×Int) (β:=Sum (List (List Int)) (Int)) n (fun again137 (s_94,a_95,x_96)=>(
 cdO (decide (x_96<(m'.Faces.length:Int))) (
 gdO (inR x_96 m'.Faces.length) (
 bdO (pe n (gt m'.Faces x_96)) fun v141=>(
 cdO (getM false s_94 v141.e0) (
 some (Sum.inr (7))
 ) (
 gdO (inR v141.e0.e0 a_95.length) (
 gdO (decide (((gt a_95 v141.e0.e0).length+1)*8<=140737488355328)) (
 gdO (decide ((gt a_95 v141.e0.e0).length+1<=4611686018427387904)) (
 cdO (getM false (aW s_94 v141.e0 true) v141.e1) (
 some (Sum.inr (7))
 ) (
 gdO (inR v141.e1.e0 a_95.length) (
 gdO (inR v141.e1.e0 (a_95.set v141.e0.e0.toNat ((gt a_95 v141.e0.e0)++[x_96])).length) (
 gdO (decide (((gt (a_95.set v141.e0.e0.toNat ((gt a_95 v141.e0.e0)++[x_96])) v141.e1.e0).length+1)*8<=140737488355328)) (
 gdO (decide ((gt (a_95.set v141.e0.e0.toNat ((gt a_95 v141.e0.e0)++[x_96])) v141.e1.e0).length+1<=4611686018427387904)) (
 cdO (getM false (aW (aW s_94 v141.e0 true) v141.e1 true) v141.e2) (
 some (Sum.inr (7))
 ) (
 gdO (inR v141.e2.e0 a_95.length) (
 gdO (inR v141.e2.e0 ((a_95.set v141.e0.e0.toNat ((gt a_95 v141.e0.e0)++[x_96])).set v141.e1.e0.toNat ((gt (a_95.set v141.e0.e0.toNat ((gt a_95 v141.e0.e0)++[x_96])) v141.e1.e0)++[x_96])).length) (
 gdO (decide (((gt ((a_95.set v141.e0.e0.toNat ((gt a_95 v141.e0.e0)++[x_96])).set v141.e1.e0.toNat ((gt (a_95.set v141.e0.e0.toNat ((gt a_95 v141.e0.e0)++[x_96])) v141.e1.e0)++[x_96])) v141.e2.e0).length+1)*8<=140737488355328)) (
 gdO (decide ((gt ((a_95.set v141.e0.e0.toNat ((gt a_95 v141.e0.e0)++[x_96])).set v141.e1.e0.toNat ((gt (a_95.set v141.e0.e0.toNat ((gt a_95 v141.e0.e0)++[x_96])) v141.e1.e0)++[x_96])) v141.e2.e0).length+1<=4611686018427387904)) (
 again137 (aW (aW (aW s_94 v141.e0 true) v141.e1 true) v141.e2 true,((a_95.set v141.e0.e0.toNat ((gt a_95 v141.e0.e0)++[x_96])).set v141.e1.e0.toNat ((gt (a_95.set v141.e0.e0.toNat ((gt a_95 v141.e0.e0)++[x_96])) v141.e1.e0)++[x_96])).set v141.e2.e0.toNat ((gt ((a_95.set v141.e0.e0.toNat ((gt a_95 v141.e0.e0)++[x_96])).set v141.e1.e0.toNat ((gt (a_95.set v141.e0.e0.toNat ((gt a_95 v141.e0.e0)++[x_96])) v141.e1.e0)++[x_96])) v141.e2.e0)++[x_96]),MR (x_96+1))
 )
 )
 )
 )
 )
 )
 )
 )
 )
 )
 )
 )
 )
 )
 )
 )
 ) (
 some (Sum.inl a_95)
 )
 )) (([]:List (A2 Int×Bool)),List.replicate (m'.Vertices.length:Int).toNat ([]:List Int),0)) fun o177=>(
 match o177 with
 |.inl a_136=>(
 bdO (aQ (α:=Int) (β:=Sum (Unit) (Int)) n (fun again359 x_180=>(
 cdO (decide (x_180<(a_136.length:Int))) (
 gdO (inR x_180 a_136.length) (
 bdO (aQ (α:=List (Int×Int)×List (Int×Int)×Int) (β:=List (Int×Int)) n (fun again477 (u_439,o_440,x_441)=>(
 cdO (decide (x_441<((gt a_136 x_180).length:Int))) (
 gdO (inR x_441 (gt a_136 x_180).length) (
 gdO (inR (gt (gt a_136 x_180) x_441) m'.Faces.length) (
 bdO (α:=List (Int×Int)×List (Int×Int)) (
 cdO (((gt m'.Faces (gt (gt a_136 x_180) x_441)).e0:Int)==x_180) (
 some ((u_439,o_440))
 ) (
 cdO (cG o_440 (gt m'.Faces (gt (gt a_136 x_180) x_441)).e0) (
 bdO (cV n u_439 (gt (gt a_136 x_180) x_441) (getM 0 o_440 (gt m'.Faces (gt (gt a_136 x_180) x_441)).e0)) fun v487=>(
 some ((v487,aW o_440 (gt m'.Faces (gt (gt a_136 x_180) x_441)).e0 (gt (gt a_136 x_180) x_441)))
 )
 ) (
 some ((u_439,aW o_440 (gt m'.Faces (gt (gt a_136 x_180) x_441)).e0 (gt (gt a_136 x_180) x_441)))
 )
 )
 ) fun o489=>(
 match o489 with
 |(u_482,o_483)=>(
 bdO (α:=List (Int×Int)×List (Int×Int)) (
 cdO (((gt m'.Faces (gt (gt a_136 x_180) x_441)).e1:Int)==x_180) (
 some ((u_482,o_483))
 ) (
 cdO (cG o_483 (gt m'.Faces (gt (gt a_136 x_180) x_441)).e1) (
 bdO (cV n u_482 (gt (gt a_136 x_180) x_441) (getM 0 o_483 (gt m'.Faces (gt (gt a_136 x_180) x_441)).e1)) fun v497=>(
 some ((v497,aW o_483 (gt m'.Faces (gt (gt a_136 x_180) x_441)).e1 (gt (gt a_136 x_180) x_441)))
 )
 ) (
 some ((u_482,aW o_483 (gt m'.Faces (gt (gt a_136 x_180) x_441)).e1 (gt (gt a_136 x_180) x_441)))
 )
 )
 ) fun o499=>(
 match o499 with
 |(u_492,o_493)=>(
 bdO (α:=List (Int×Int)×List (Int×Int)) (
 cdO (((gt m'.Faces (gt (gt a_136 x_180) x_441)).e2:Int)==x_180) (
 some ((u_492,o_493))
 ) (
 cdO (cG o_493 (gt m'.Faces (gt (gt a_136 x_180) x_441)).e2) (
 bdO (cV n u_492 (gt (gt a_136 x_180) x_441) (getM 0 o_493 (gt m'.Faces (gt (gt a_136 x_180) x_441)).e2)) fun v507=>(
 some ((v507,aW o_493 (gt m'.Faces (gt (gt a_136 x_180) x_441)).e2 (gt (gt a_136 x_180) x_441)))
 )
 ) (
 some ((u_492,aW o_493 (gt m'.Faces (gt (gt a_136 x_180) x_441)).e2 (gt (gt a_136 x_180) x_441)))
 )
 )
 ) fun o509=>(
 match o509 with
 |(u_502,o_503)=>(
 again477 (u_502,o_503,MR (x_441+1))
 ))
 ))
 ))
 )
 )
 ) (
 some (u_439)
 )
 )) (([]:List (Int×Int)),([]:List (Int×Int)),0)) fun u_476=>(
 bdO (aQ (α:=Int) (β:=Sum (Unit) (Int)) n (fun again525 x_515=>(
 cdO (decide (x_515<((gt a_136 x_180).length:Int))) (
 gdO (inR x_515 (gt a_136 x_180).length) (
 bdO (cw n u_476 (gt (gt a_136 x_180) x_515)) fun v529=>(
 gdO (inR 0 (gt a_136 x_180).length) (
 bdO (cw n u_476 (gt (gt a_136 x_180) 0)) fun v532=>(
 cdO ((v529:Int)!=v532) (
 some (Sum.inr (11))
 ) (
 again525 (MR (x_515+1))
 )
 )
 )
 )
 )
 ) (
 some (Sum.inl ())
 )
 )) 0) fun o535=>(
 match o535 with
 |.inl _=>(
 again359 (MR (x_180+1))
 )
 |.inr (r0)=>(
 some (Sum.inr (r0))
 ))
 )
 )
 ) (
 some (Sum.inl ())
 )
 )) 0) fun o538=>(
 match o538 with
 |.inl _=>(
 some (0)
 )
 |.inr (r0)=>(
 some r0
 ))
 )
 |.inr (r0)=>(
 some r0
 ))
 )
 )
 )
 )
 )

noncomputable def fA(n:Nat)(m':az):Option (List (Int×Int)):=
 bdO (aQ (α:=List (A2 Int×Bool)×Int) (β:=List (A2 Int×Bool)) n (fun again31 (a_24,x_25)=>(
 cdO (decide (x_25<(m'.Faces.length:Int))) (
 gdO (inR x_25 m'.Faces.length) (
 bdO (pe n (gt m'.Faces x_25)) fun v34=>(
 again31 (aW (aW (aW a_24 v34.e0 true) v34.e1 true) v34.e2 true,MR (x_25+1))
 )
 )
 ) (
 some (a_24)
 )
 )) (([]:List (A2 Int×Bool)),0)) fun a_30=>(
 zf (ε:=A2 Int×Bool) (σ:=List (Int×Int)) a_30 (fun o_43 e39=>(
 cdO (!(getM false a_30 (A2.mk e39.1.e1 e39.1.e0))) (
 some (aW o_43 e39.1.e0 e39.1.e1)
 ) (
 some (o_43)
 )
 )) ([]:List (Int×Int)) fun o_43=>(
 some (o_43)
 )
 )

def cy(n:Nat)(n':Int):Option (List Int):=
 bdO (aQ (α:=Int×List Int) (β:=List Int) n (fun again7 (n_1,g_2)=>(
 cdO (decide (n_1>0)) (
 gdO (decide ((g_2.length+1)*4<=140737488355328)) (
 gdO (decide (g_2.length+1<=4611686018427387904)) (
 again7 (aa .u64 (n_1.tdiv 1000000000),g_2++[aa .u32 (n_1.tmod 1000000000)])
 )
 )
 ) (
 some (g_2)
 )
 )) (n',[])) fun g_6=>(
 some (g_6)
 )

def dC(n:Nat)(g:List Int):Option (List Int):=
 bdO (aQ (α:=List Int) (β:=List Int) n (fun again7 g_1=>(
 cdO (decide ((g_1.length:Int)>0)) (
 gdO (inR (MR ((g_1.length:Int)-1)) g_1.length) (
 cdO (((gt g_1 (MR ((g_1.length:Int)-1))):Int)==0) (
 gdO (inS 0 (MR ((g_1.length:Int)-1)) g_1.length) (
 again7 ((g_1.drop (0:Int).toNat).take ((MR ((g_1.length:Int)-1)).toNat-(0:Int).toNat))
 )
 ) (
 some (g_1)
 )
 )
 ) (
 some (g_1)
 )
 )) g) fun g_6=>(
 some (g_6)
 )

def bF(n:Nat)(negative:Bool)(g:List Int):Option (ah):=
 bdO (dC n g) fun v1=>(
 cdO (((v1.length:Int):Int)==0) (
 some (ah.mk false [])
 ) (
 some (ah.mk negative v1)
 )
 )

def cj(n:Nat)(n':Int):Option (ah):=
 cdO (decide (n'<0)) (
 bdO (cy n (aa .u64 (0-(aa .u64 n')))) fun v2=>(
 bdO (bF n true v2) fun v4=>(
 some (v4)
 )
 )
 ) (
 bdO (cy n (aa .u64 n')) fun v6=>(
 bdO (bF n false v6) fun v8=>(
 some (v8)
 )
 )
 )

def gg(n:Nat)(p:ar)(q:ar):Option (A3 ah):=
 bdO (cj n (MR (q.X-p.X))) fun v1=>(
 bdO (cj n (MR (q.Y-p.Y))) fun v3=>(
 bdO (cj n (MR (q.Z-p.Z))) fun v5=>(
 some (A3.mk v1 v3 v5)
 )
 )
 )

def lJ(n:Nat)(g:Int):Option (Bool):=
 some (decide (g>=1000000000))

def bm(n:Nat)(s:List Int):Option (Int):=
 bdO (aQ (α:=Int) (β:=Sum (Unit) (Int)) n (fun again7 x_1=>(
 cdO (decide (x_1<(s.length:Int))) (
 gdO (inR x_1 s.length) (
 bdO (lJ n (gt s x_1)) fun v10=>(
 cdO v10 (
 some (Sum.inr (x_1))
 ) (
 again7 (MR (x_1+1))
 )
 )
 )
 ) (
 some (Sum.inl ())
 )
 )) 0) fun o13=>(
 match o13 with
 |.inl _=>(
 some ((-1))
 )
 |.inr (r0)=>(
 some r0
 ))

def aY(n:Nat)(s:List Int):Option (Bool):=
 bdO (bm n s) fun v1=>(
 some (decide (v1>=0))
 )

def dM(n:Nat)(x':ah):Option (Bool):=
 cdO (((x'.Groups.length:Int):Int)==0) (
 some (!x'.Negative)
 ) (
 gdO (inR (MR ((x'.Groups.length:Int)-1)) x'.Groups.length) (
 cdO (((gt x'.Groups (MR ((x'.Groups.length:Int)-1))):Int)!=0) (
 bdO (aY n x'.Groups) fun v4=>(
 some (!v4)
 )
 ) (
 some (false)
 )
 )
 )

def bl(n:Nat)(x':ah):Option (List Int):=
 bdO (dM n x') fun v1=>(
 cdO (!v1) (
 some ([])
 ) (
 some (x'.Groups)
 )
 )

def iF(n:Nat)(a:List Int)(b:List Int):Option (List Int):=
 gdO (decide (0<=MR ((a.length:Int)+(b.length:Int)))) (
 gdO (decide ((4:Int)*(MR ((a.length:Int)+(b.length:Int)))<=281474976710656)) (
 gdO (decide (MR ((a.length:Int)+(b.length:Int))<=9223372036854775807)) (
 bdO (aQ (α:=List Int×Int) (β:=List Int) n (fun again25 (o_4,x_5)=>(
 cdO (decide (x_5<(a.length:Int))) (
 gdO (inR x_5 a.length) (
 bdO (aQ (α:=List Int×Int×Int) (β:=List Int×Int) n (fun again36 (o_28,c_29,x_30)=>(
 cdO (decide (x_30<(b.length:Int))) (
 gdO (inR x_30 b.length) (
 gdO (inR (MR (x_5+x_30)) o_28.length) (
 again36 (o_28.set (MR (x_5+x_30)).toNat (aa .u32 ((aa .u64 ((aa .u64 ((aa .u64 (gt o_28 (MR (x_5+x_30))))+(aa .u64 ((aa .u64 (gt a x_5))*(aa .u64 (gt b x_30))))))+c_29)).tmod 1000000000)),aa .u64 ((aa .u64 ((aa .u64 ((aa .u64 (gt o_28 (MR (x_5+x_30))))+(aa .u64 ((aa .u64 (gt a x_5))*(aa .u64 (gt b x_30))))))+c_29)).tdiv 1000000000),MR (x_30+1))
 )
 )
 ) (
 some ((o_28,c_29))
 )
 )) (o_4,0,0)) fun o40=>(
 match o40 with
 |(o_34,c_35)=>(
 gdO (inR (MR (x_5+(b.length:Int))) o_34.length) (
 again25 (o_34.set (MR (x_5+(b.length:Int))).toNat (aa .u32 c_35),MR (x_5+1))
 )
 ))
 )
 ) (
 some (o_4)
 )
 )) (List.replicate (MR ((a.length:Int)+(b.length:Int))).toNat ((0:Int):Int),0)) fun o_24=>(
 bdO (dC n o_24) fun v47=>(
 some (v47)
 )
 )
 )
 )
 )

def br(n:Nat)(x':ah)(y:ah):Option (ah):=
 bdO (bl n x') fun v1=>(
 bdO (bl n y) fun v3=>(
 bdO (iF n v1 v3) fun v5=>(
 bdO (bF n (x'.Negative !=y.Negative) v5) fun v7=>(
 some (v7)
 )
 )
 )
 )

def fM(n:Nat)(g:List Int)(i:Int):Option (Int):=
 cdO (decide (i<(g.length:Int))) (
 gdO (inR i g.length) (
 some ((gt g i))
 )
 ) (
 some (0)
 )

def jh(n:Nat)(a:List Int)(b:List Int):Option (List Int):=
 gdO (decide (0<=MR ((mx (a.length:Int) (b.length:Int))+1))) (
 gdO (decide ((4:Int)*(MR ((mx (a.length:Int) (b.length:Int))+1))<=281474976710656)) (
 gdO (decide (MR ((mx (a.length:Int) (b.length:Int))+1)<=9223372036854775807)) (
 bdO (aQ (α:=List Int×Int×Int) (β:=List Int) n (fun again16 (o_4,c_5,x_6)=>(
 cdO (decide (x_6<((List.replicate (MR ((mx (a.length:Int) (b.length:Int))+1)).toNat ((0:Int):Int)).length:Int))) (
 bdO (fM n a x_6) fun v18=>(
 bdO (fM n b x_6) fun v20=>(
 cdO (decide ((aa .u32 ((aa .u32 (v18+v20))+c_5))>=1000000000)) (
 gdO (inR x_6 o_4.length) (
 again16 (o_4.set x_6.toNat (aa .u32 ((aa .u32 ((aa .u32 (v18+v20))+c_5))-1000000000)),1,MR (x_6+1))
 )
 ) (
 gdO (inR x_6 o_4.length) (
 again16 (o_4.set x_6.toNat (aa .u32 ((aa .u32 (v18+v20))+c_5)),0,MR (x_6+1))
 )
 )
 )
 )
 ) (
 some (o_4)
 )
 )) (List.replicate (MR ((mx (a.length:Int) (b.length:Int))+1)).toNat ((0:Int):Int),0,0)) fun o_15=>(
 bdO (dC n o_15) fun v28=>(
 some (v28)
 )
 )
 )
 )
 )


def gE(n:Nat)(a:List Int)(b:List Int):Option (List Int):=
 gdO (decide (0<=(a.length:Int))) (
 gdO (decide ((4:Int)*(a.length:Int)<=281474976710656)) (
 gdO (decide ((a.length:Int)<=9223372036854775807)) (
 bdO (aQ (α:=List Int×Int×Int) (β:=List Int) n (fun again15 (o_4,b_5,x_6)=>(
 cdO (decide (x_6<((List.replicate (a.length:Int).toNat ((0:Int):Int)).length:Int))) (
 bdO (fM n b x_6) fun v17=>(
 gdO (inR x_6 a.length) (
 cdO (decide ((gt a x_6)<(aa .u32 (v17+b_5)))) (
 gdO (inR x_6 o_4.length) (
 again15 (o_4.set x_6.toNat (aa .u32 ((aa .u32 ((gt a x_6)+1000000000))-(aa .u32 (v17+b_5)))),1,MR (x_6+1))
 )
 ) (
 gdO (inR x_6 o_4.length) (
 again15 (o_4.set x_6.toNat (aa .u32 ((gt a x_6)-(aa .u32 (v17+b_5)))),0,MR (x_6+1))
 )
 )
 )
 )
 ) (
 some (o_4)
 )
 )) (List.replicate (a.length:Int).toNat ((0:Int):Int),0,0)) fun o_14=>(
 bdO (dC n o_14) fun v26=>(
 some (v26)
 )
 )
 )
 )
 )

def ja(n:Nat)(negative:Bool)(a:List Int)(other:Bool)(b:List Int):Option (ah):=
 cdO (negative==other) (
 bdO (jh n a b) fun v2=>(
 bdO (bF n negative v2) fun v4=>(
 some (v4)
 )
 )
 ) (
 bdO (fg n a b) fun v6=>(
 cdO (decide (v6>=0)) (
 bdO (gE n a b) fun v9=>(
 bdO (bF n negative v9) fun v11=>(
 some (v11)
 )
 )
 ) (
 bdO (gE n b a) fun v13=>(
 bdO (bF n other v13) fun v15=>(
 some (v15)
 )
 )
 )
 )
 )

def iS(n:Nat)(x':ah)(y:ah):Option (ah):=
 bdO (bl n x') fun v1=>(
 bdO (bl n y) fun v3=>(
 bdO (ja n x'.Negative v1 (!y.Negative) v3) fun v5=>(
 some (v5)
 )
 )
 )

def cW(n:Nat)(a:A3 ah)(b:A3 ah):Option (A3 ah):=
 bdO (br n a.e1 b.e2) fun v1=>(
 bdO (br n a.e2 b.e1) fun v3=>(
 bdO (iS n v1 v3) fun v5=>(
 bdO (br n a.e2 b.e0) fun v7=>(
 bdO (br n a.e0 b.e2) fun v9=>(
 bdO (iS n v7 v9) fun v11=>(
 bdO (br n a.e0 b.e1) fun v13=>(
 bdO (br n a.e1 b.e0) fun v15=>(
 bdO (iS n v13 v15) fun v17=>(
 some (A3.mk v5 v11 v17)
 )
 )
 )
 )
 )
 )
 )
 )
 )

def cq(n:Nat)(x':ah)(y:ah):Option (ah):=
 bdO (bl n x') fun v1=>(
 bdO (bl n y) fun v3=>(
 bdO (ja n x'.Negative v1 y.Negative v3) fun v5=>(
 some (v5)
 )
 )
 )

def dH(n:Nat)(a:A3 ah)(b:A3 ah):Option (ah):=
 bdO (cj n 0) fun v1=>(
 bdO (br n a.e0 b.e0) fun v3=>(
 bdO (cq n v1 v3) fun v5=>(
 bdO (br n a.e1 b.e1) fun v7=>(
 bdO (cq n v5 v7) fun v9=>(
 bdO (br n a.e2 b.e2) fun v11=>(
 bdO (cq n v9 v11) fun v13=>(
 some (v13)
 )
 )
 )
 )
 )
 )
 )

noncomputable def nf(n:Nat)(m':az):Option (ah×Int):=
 bdO (gD n m') fun v1=>(
 cdO ((v1:Int)!=0) (
 some ((ah.mk false [],v1))
 ) (
 bdO (fA n m') fun v4=>(
 cdO (decide ((v4.length:Int)>0)) (
 some ((ah.mk false [],11))
 ) (
 bdO (cj n 0) fun v7=>(
 bdO (aQ (α:=Bool×List Int×Int) (β:=Bool×List Int) n (fun again31 (s_9,s_10,x_11)=>(
 cdO (decide (x_11<(m'.Faces.length:Int))) (
 gdO (inR x_11 m'.Faces.length) (
 gdO (inR (gt m'.Faces x_11).e0 m'.Vertices.length) (
 bdO (gg n (ar.mk 0 0 0) (gt m'.Vertices (gt m'.Faces x_11).e0)) fun v35=>(
 gdO (inR (gt m'.Faces x_11).e1 m'.Vertices.length) (
 bdO (gg n (ar.mk 0 0 0) (gt m'.Vertices (gt m'.Faces x_11).e1)) fun v38=>(
 gdO (inR (gt m'.Faces x_11).e2 m'.Vertices.length) (
 bdO (gg n (ar.mk 0 0 0) (gt m'.Vertices (gt m'.Faces x_11).e2)) fun v41=>(
 bdO (cW n v38 v41) fun v43=>(
 bdO (dH n v35 v43) fun v45=>(
 bdO (cq n (ah.mk s_9 s_10) v45) fun v47=>(
 again31 (v47.Negative,v47.Groups,MR (x_11+1))
 )
 )
 )
 )
 )
 )
 )
 )
 )
 )
 ) (
 some ((s_9,s_10))
 )
 )) (v7.Negative,v7.Groups,0)) fun o49=>(
 match o49 with
 |(s_29,s_30)=>(
 some ((ah.mk s_29 s_30,0))
 ))
 )
 )
 )
 )
 )

def bg(n:Nat)(x':ah):Option (Int):=
 bdO (bl n x') fun v1=>(
 cdO (((v1.length:Int):Int)==0) (
 some (0)
 ) (
 cdO x'.Negative (
 some ((-1))
 ) (
 some (1)
 )
 )
 )



def mB(n:Nat)(g:List Int):Option (List Int):=
 bdO (aQ (α:=List Int) (β:=List Int) n (fun again22 g_16=>(
 cdO (decide ((g_16.length:Int)>0)) (
 gdO (inR (MR ((g_16.length:Int)-1)) g_16.length) (
 cdO (((gt g_16 (MR ((g_16.length:Int)-1))):Int)==0) (
 gdO (inS 0 (MR ((g_16.length:Int)-1)) g_16.length) (
 again22 (g_16.take (MR ((g_16.length:Int)-1)).toNat)
 )
 ) (
 some (g_16)
 )
 )
 ) (
 some (g_16)
 )
 )) g) fun g_21=>(
 some (g_21)
 )

def iu(n:Nat)(a:List Int)(b:List Int):Option (List Int):=
 gdO (decide (0<=MR ((a.length:Int)+(b.length:Int)))) (
 gdO (decide ((4:Int)*(MR ((a.length:Int)+(b.length:Int)))<=281474976710656)) (
 gdO (decide (MR ((a.length:Int)+(b.length:Int))<=9223372036854775807)) (
 bdO (aQ (α:=List Int×Int) (β:=List Int) n (fun again74 (o_53,x_54)=>(
 cdO (decide (x_54<(a.length:Int))) (
 gdO (inR x_54 a.length) (
 bdO (aQ (α:=List Int×Int×Int) (β:=List Int×Int) n (fun again85 (o_77,c_78,x_79)=>(
 cdO (decide (x_79<(b.length:Int))) (
 gdO (inR x_79 b.length) (
 gdO (inR (MR (x_54+x_79)) o_77.length) (
 again85 (o_77.set (MR (x_54+x_79)).toNat (aa .u32 ((aa .u64 ((aa .u64 ((aa .u64 (gt o_77 (MR (x_54+x_79))))+(aa .u64 ((aa .u64 (gt a x_54))*(aa .u64 (gt b x_79))))))+c_78)).tmod 1000000000)),aa .u64 ((aa .u64 ((aa .u64 ((aa .u64 (gt o_77 (MR (x_54+x_79))))+(aa .u64 ((aa .u64 (gt a x_54))*(aa .u64 (gt b x_79))))))+c_78)).tdiv 1000000000),MR (x_79+1))
 )
 )
 ) (
 some ((o_77,c_78))
 )
 )) (o_53,0,0)) fun o89=>(
 match o89 with
 |(o_83,c_84)=>(
 gdO (inR (MR (x_54+(b.length:Int))) o_83.length) (
 again74 (o_83.set (MR (x_54+(b.length:Int))).toNat (aa .u32 c_84),MR (x_54+1))
 )
 ))
 )
 ) (
 some (o_53)
 )
 )) (List.replicate (MR ((a.length:Int)+(b.length:Int))).toNat ((0:Int):Int),0)) fun o_73=>(
 bdO (mB n o_73) fun v96=>(
 some (v96)
 )
 )
 )
 )
 )

def hU(n:Nat)(a:List Int)(b:List Int):Option (List Int×List Int):=
 gdO (inR (MR ((b.length:Int)-1)) b.length) (
 gdO (!decide (aa .u64 ((aa .u64 (gt b (MR ((b.length:Int)-1))))+1)=0)) (
 bdO (iu n a [aa .u32 (aa .u64 ((1000000000:Int).tdiv (aa .u64 ((aa .u64 (gt b (MR ((b.length:Int)-1))))+1))))]) fun v3=>(
 bdO (iu n b [aa .u32 (aa .u64 ((1000000000:Int).tdiv (aa .u64 ((aa .u64 (gt b (MR ((b.length:Int)-1))))+1))))]) fun v5=>(
 gdO (decide ((v3.length+1)*4<=140737488355328)) (
 gdO (decide (v3.length+1<=4611686018427387904)) (
 bdO (α:=List Int) (
 cdO (decide (((v3++[(0:Int)]).length:Int)<=(a.length:Int))) (
 gdO (decide (((v3++[(0:Int)]).length+1)*4<=140737488355328)) (
 gdO (decide ((v3++[(0:Int)]).length+1<=4611686018427387904)) (
 some ((v3++[(0:Int)])++[(0:Int)])
 )
 )
 ) (
 some (v3++[(0:Int)])
 )
 ) fun u_9=>(
 gdO (decide (0<=MR ((u_9.length:Int)-(v5.length:Int)))) (
 gdO (decide ((4:Int)*(MR ((u_9.length:Int)-(v5.length:Int)))<=281474976710656)) (
 gdO (decide (MR ((u_9.length:Int)-(v5.length:Int))<=9223372036854775807)) (
 bdO (aQ (α:=List Int×List Int×Int) (β:=List Int×List Int) n (fun again129 (q_19,u_20,j_21)=>(
 cdO (decide (j_21>=0)) (
 bdO (fM n u_20 (MR (j_21+(v5.length:Int)))) fun v132=>(
 gdO (inR (MR ((MR (j_21+(v5.length:Int)))-1)) u_20.length) (
 gdO (inR (MR ((v5.length:Int)-1)) v5.length) (
 gdO (!decide (aa .u64 (gt v5 (MR ((v5.length:Int)-1)))=0)) (
 bdO (aQ (α:=Int×Int) (β:=Int) n (fun again165 (g_156,r_157)=>(
 cdO (decide (g_156>=1000000000)) (
 cdO (decide ((aa .u64 (r_157+(aa .u64 (gt v5 (MR ((v5.length:Int)-1))))))>=1000000000)) (
 some (aa .u64 (g_156-1))
 ) (
 again165 (aa .u64 (g_156-1),aa .u64 (r_157+(aa .u64 (gt v5 (MR ((v5.length:Int)-1))))))
 )
 ) (
 gdO (inR (MR ((v5.length:Int)-2)) v5.length) (
 gdO (inR (MR ((MR (j_21+(v5.length:Int)))-2)) u_20.length) (
 cdO (decide ((aa .u64 (g_156*(aa .u64 (gt v5 (MR ((v5.length:Int)-2))))))>(aa .u64 ((aa .u64 (r_157*1000000000))+(aa .u64 (gt u_20 (MR ((MR (j_21+(v5.length:Int)))-2)))))))) (
 cdO (decide ((aa .u64 (r_157+(aa .u64 (gt v5 (MR ((v5.length:Int)-1))))))>=1000000000)) (
 some (aa .u64 (g_156-1))
 ) (
 again165 (aa .u64 (g_156-1),aa .u64 (r_157+(aa .u64 (gt v5 (MR ((v5.length:Int)-1))))))
 )
 ) (
 some (g_156)
 )
 )
 )
 )
 )) (aa .u64 ((aa .u64 ((aa .u64 ((aa .u64 v132)*1000000000))+(aa .u64 (gt u_20 (MR ((MR (j_21+(v5.length:Int)))-1)))))).tdiv (aa .u64 (gt v5 (MR ((v5.length:Int)-1))))),(aa .u64 ((aa .u64 ((aa .u64 v132)*1000000000))+(aa .u64 (gt u_20 (MR ((MR (j_21+(v5.length:Int)))-1)))))).tmod (aa .u64 (gt v5 (MR ((v5.length:Int)-1)))))) fun g_164=>(
 bdO (aQ (α:=List Int×Int×Int×Int) (β:=List Int×Int×Int) n (fun again205 (u_194,b_195,c_196,x_197)=>(
 cdO (decide (x_197<(v5.length:Int))) (
 gdO (inR x_197 v5.length) (
 gdO (inR (MR (x_197+j_21)) u_194.length) (
 cdO (decide ((MR ((MR ((MR (gt u_194 (MR (x_197+j_21))))-b_195))-(MR ((aa .u64 ((aa .u64 (g_164*(aa .u64 (gt v5 x_197))))+c_196)).tmod 1000000000))))<0)) (
 again205 (u_194.set (MR (x_197+j_21)).toNat (aa .u32 (MR ((MR ((MR ((MR (gt u_194 (MR (x_197+j_21))))-b_195))-(MR ((aa .u64 ((aa .u64 (g_164*(aa .u64 (gt v5 x_197))))+c_196)).tmod 1000000000))))+1000000000))),1,aa .u64 ((aa .u64 ((aa .u64 (g_164*(aa .u64 (gt v5 x_197))))+c_196)).tdiv 1000000000),MR (x_197+1))
 ) (
 again205 (u_194.set (MR (x_197+j_21)).toNat (aa .u32 (MR ((MR ((MR (gt u_194 (MR (x_197+j_21))))-b_195))-(MR ((aa .u64 ((aa .u64 (g_164*(aa .u64 (gt v5 x_197))))+c_196)).tmod 1000000000))))),0,aa .u64 ((aa .u64 ((aa .u64 (g_164*(aa .u64 (gt v5 x_197))))+c_196)).tdiv 1000000000),MR (x_197+1))
 )
 )
 )
 ) (
 some ((u_194,b_195,c_196))
 )
 )) (u_20,0,0,0)) fun o210=>(
 match o210 with
 |(u_202,b_203,c_204)=>(
 gdO (inR (MR (j_21+(v5.length:Int))) u_202.length) (
 cdO (decide ((MR ((MR ((MR (gt u_202 (MR (j_21+(v5.length:Int)))))-b_203))-(MR c_204)))<0)) (
 bdO (aQ (α:=List Int×Int×Int) (β:=List Int×Int) n (fun again224 (u_215,c_216,x_217)=>(
 cdO (decide (x_217<(v5.length:Int))) (
 gdO (inR (MR (x_217+j_21)) u_215.length) (
 gdO (inR x_217 v5.length) (
 cdO (decide ((aa .u32 ((aa .u32 ((gt u_215 (MR (x_217+j_21)))+(gt v5 x_217)))+c_216))>=1000000000)) (
 again224 (u_215.set (MR (x_217+j_21)).toNat (aa .u32 ((aa .u32 ((aa .u32 ((gt u_215 (MR (x_217+j_21)))+(gt v5 x_217)))+c_216))-1000000000)),1,MR (x_217+1))
 ) (
 again224 (u_215.set (MR (x_217+j_21)).toNat (aa .u32 ((aa .u32 ((gt u_215 (MR (x_217+j_21)))+(gt v5 x_217)))+c_216)),0,MR (x_217+1))
 )
 )
 )
 ) (
 some ((u_215,c_216))
 )
 )) (u_202.set (MR (j_21+(v5.length:Int))).toNat (aa .u32 (MR ((MR ((MR ((MR (gt u_202 (MR (j_21+(v5.length:Int)))))-b_203))-(MR c_204)))+1000000000))),0,0)) fun o229=>(
 match o229 with
 |(u_222,c_223)=>(
 gdO (inR (MR (j_21+(v5.length:Int))) u_222.length) (
 gdO (inR j_21 q_19.length) (
 again129 (q_19.set j_21.toNat (aa .u32 (aa .u64 (g_164-1))),u_222.set (MR (j_21+(v5.length:Int))).toNat ((aa .u32 ((gt u_222 (MR (j_21+(v5.length:Int))))+c_223)).tmod 1000000000),MR (j_21-1))
 )
 )
 ))
 ) (
 gdO (inR j_21 q_19.length) (
 again129 (q_19.set j_21.toNat (aa .u32 g_164),u_202.set (MR (j_21+(v5.length:Int))).toNat (aa .u32 (MR ((MR ((MR (gt u_202 (MR (j_21+(v5.length:Int)))))-b_203))-(MR c_204)))),MR (j_21-1))
 )
 )
 )
 ))
 )
 )
 )
 )
 )
 ) (
 some ((q_19,u_20))
 )
 )) (List.replicate (MR ((u_9.length:Int)-(v5.length:Int))).toNat ((0:Int):Int),u_9,MR ((MR ((u_9.length:Int)-(v5.length:Int)))-1))) fun o235=>(
 match o235 with
 |(q_127,u_128)=>(
 gdO (inS 0 (v5.length:Int) u_128.length) (
 bdO (dC n (u_128.take (v5.length:Int).toNat)) fun v239=>(
 bdO (eH n v239 (aa .u32 (aa .u64 ((1000000000:Int).tdiv (aa .u64 ((aa .u64 (gt b (MR ((b.length:Int)-1))))+1)))))) fun v241=>(
 bdO (dC n q_127) fun v243=>(
 some ((v243,v241.1))
 )
 )
 )
 )
 ))
 )
 )
 )
 )
 )
 )
 )
 )
 )
 )

def gw(n:Nat)(a:List Int)(b:List Int):Option (List Int×List Int):=
 bdO (fg n a b) fun v1=>(
 cdO (decide (v1<0)) (
 some (([],a))
 ) (
 bdO (gx n a) fun v4=>(
 bdO (gx n b) fun v6=>(
 cdO v4.2 (
 cdO v6.2 (
 gdO (!decide (v6.1=0)) (
 bdO (cy n (aa .u64 (v4.1.tdiv v6.1))) fun v11=>(
 bdO (cy n (v4.1.tmod v6.1)) fun v13=>(
 some ((v11,v13))
 )
 )
 )
 ) (
 cdO (((b.length:Int):Int)==1) (
 gdO (inR 0 b.length) (
 bdO (eH n a (gt b 0)) fun v17=>(
 bdO (cy n (aa .u64 v17.2)) fun v19=>(
 some ((v17.1,v19))
 )
 )
 )
 ) (
 bdO (hU n a b) fun v21=>(
 some ((v21.1,v21.2))
 )
 )
 )
 ) (
 cdO (((b.length:Int):Int)==1) (
 gdO (inR 0 b.length) (
 bdO (eH n a (gt b 0)) fun v25=>(
 bdO (cy n (aa .u64 v25.2)) fun v27=>(
 some ((v25.1,v27))
 )
 )
 )
 ) (
 bdO (hU n a b) fun v29=>(
 some ((v29.1,v29.2))
 )
 )
 )
 )
 )
 )
 )

def bU(n:Nat)(s:List Int):Option (List Int):=
 gdO (decide ((0+s.length)*4<=140737488355328)) (
 gdO (decide (0+s.length<=4611686018427387904)) (
 some (s)
 )
 )

def gT(n:Nat)(x':ah)(y:ah):Option (ah):=
 bdO (bl n x') fun v1=>(
 bdO (bl n y) fun v3=>(
 bdO (aQ (α:=List Int×List Int) (β:=Sum (List Int) (ah)) n (fun again34 (a_5,b_6)=>(
 cdO (decide ((b_6.length:Int)>0)) (
 bdO (gx n a_5) fun v36=>(
 bdO (gx n b_6) fun v38=>(
 cdO v36.2 (
 cdO v38.2 (
 bdO (aQ (α:=Int×Int) (β:=Int) n (fun again47 (m_42,n_43)=>(
 cdO (decide (n_43>0)) (
 gdO (!decide (n_43=0)) (
 again47 (n_43,m_42.tmod n_43)
 )
 ) (
 some (m_42)
 )
 )) (v36.1,v38.1)) fun m_46=>(
 bdO (cy n m_46) fun v53=>(
 bdO (bF n false v53) fun v55=>(
 some (Sum.inr (v55))
 )
 )
 )
 ) (
 bdO (gw n a_5 b_6) fun v57=>(
 again34 (b_6,v57.2)
 )
 )
 ) (
 bdO (gw n a_5 b_6) fun v59=>(
 again34 (b_6,v59.2)
 )
 )
 )
 )
 ) (
 some (Sum.inl a_5)
 )
 )) (v1,v3)) fun o61=>(
 match o61 with
 |.inl a_33=>(
 bdO (bU n a_33) fun v64=>(
 bdO (bF n false v64) fun v66=>(
 some (v66)
 )
 )
 )
 |.inr (r0)=>(
 some r0
 ))
 )
 )

def cmp_isNaN_int(n:Nat)(x':Int):Option (Bool):=
 some ((x':Int)!=x')

def iq(n:Nat)(x':Int)(y:Int):Option (Int):=
 bdO (cmp_isNaN_int n x') fun v1=>(
 bdO (cmp_isNaN_int n y) fun v3=>(
 cdO v1 (
 cdO v3 (
 some (0)
 ) (
 some ((-1))
 )
 ) (
 cdO v3 (
 some (1)
 ) (
 cdO (decide (x'<y)) (
 some ((-1))
 ) (
 cdO (decide (x'>y)) (
 some (1)
 ) (
 some (0)
 )
 )
 )
 )
 )
 )

def fV(n:Nat)(x':ah)(y:ah):Option (Int):=
 bdO (bg n x') fun v1=>(
 bdO (bg n y) fun v3=>(
 cdO ((v1:Int)!=v3) (
 bdO (iq n v1 v3) fun v6=>(
 some (v6)
 )
 ) (
 bdO (bl n x') fun v8=>(
 bdO (bl n y) fun v10=>(
 bdO (fg n v8 v10) fun v12=>(
 cdO x'.Negative (
 some (MR (0-v12))
 ) (
 some (v12)
 )
 )
 )
 )
 )
 )
 )

def fJ(n:Nat)(x':an):Option (Bool):=
 bdO (dM n x'.Num) fun v1=>(
 cdO (!v1) (
 some (false)
 ) (
 bdO (dM n x'.Den) fun v4=>(
 cdO (!v4) (
 some (false)
 ) (
 bdO (bg n x'.Den) fun v7=>(
 cdO (decide (v7<=0)) (
 some (false)
 ) (
 bdO (gT n x'.Num x'.Den) fun v10=>(
 bdO (cj n 1) fun v12=>(
 bdO (fV n v10 v12) fun v14=>(
 some ((v14:Int)==0)
 )
 )
 )
 )
 )
 )
 )
 )
 )

def dI(n:Nat)(x':ah):Option (ah):=
 bdO (bl n x') fun v1=>(
 bdO (bU n v1) fun v3=>(
 bdO (bF n (!x'.Negative) v3) fun v5=>(
 some (v5)
 )
 )
 )

def iw(n:Nat)(x':an):Option (an):=
 bdO (dI n x'.Num) fun v1=>(
 bdO (dI n v1) fun v3=>(
 bdO (dI n x'.Den) fun v5=>(
 bdO (dI n v5) fun v7=>(
 some (an.mk v3 v7)
 )
 )
 )
 )

def cg(n:Nat)(n':Int):Option (an):=
 bdO (cj n n') fun v1=>(
 bdO (cj n 1) fun v3=>(
 some (an.mk v1 v3)
 )
 )

def bH(n:Nat)(x':an):Option (an):=
 bdO (fJ n x') fun v1=>(
 cdO v1 (
 bdO (iw n x') fun v4=>(
 some (v4)
 )
 ) (
 bdO (cg n 0) fun v6=>(
 some (v6)
 )
 )
 )

def cY(n:Nat)(x':ah)(y:ah):Option (ah×ah×Int):=
 bdO (bl n x') fun v1=>(
 bdO (bl n y) fun v3=>(
 cdO (((v3.length:Int):Int)==0) (
 some ((ah.mk false [],ah.mk false [],14))
 ) (
 bdO (gw n v1 v3) fun v6=>(
 bdO (bU n v6.2) fun v8=>(
 cdO (decide ((v8.length:Int)>0)) (
 cdO (x'.Negative !=y.Negative) (
 bdO (jh n v6.1 [(1:Int)]) fun v12=>(
 bdO (gE n v3 v8) fun v14=>(
 bdO (bF n true v12) fun v16=>(
 bdO (bF n y.Negative v14) fun v18=>(
 some ((v16,v18,0))
 )
 )
 )
 )
 ) (
 bdO (bF n false v6.1) fun v20=>(
 bdO (bF n y.Negative v8) fun v22=>(
 some ((v20,v22,0))
 )
 )
 )
 ) (
 bdO (bF n (x'.Negative !=y.Negative) v6.1) fun v24=>(
 bdO (bF n y.Negative v8) fun v26=>(
 some ((v24,v26,0))
 )
 )
 )
 )
 )
 )
 )
 )

def dF(n:Nat)(num:ah)(den:ah):Option (an):=
 bdO (bg n den) fun v1=>(
 cdO (decide (v1<0)) (
 bdO (dI n num) fun v4=>(
 bdO (dI n den) fun v6=>(
 bdO (gT n v4 v6) fun v8=>(
 bdO (cY n v4 v8) fun v10=>(
 bdO (cY n v6 v8) fun v12=>(
 some (an.mk v10.1 v12.1)
 )
 )
 )
 )
 )
 ) (
 bdO (gT n num den) fun v14=>(
 bdO (cY n num v14) fun v16=>(
 bdO (cY n den v14) fun v18=>(
 some (an.mk v16.1 v18.1)
 )
 )
 )
 )
 )

def gq(n:Nat)(x':an)(y:an):Option (an):=
 bdO (bH n x') fun v1=>(
 bdO (bH n y) fun v3=>(
 bdO (br n v1.Num v3.Den) fun v5=>(
 bdO (br n v3.Num v1.Den) fun v7=>(
 bdO (cq n v5 v7) fun v9=>(
 bdO (br n v1.Den v3.Den) fun v11=>(
 bdO (dF n v9 v11) fun v13=>(
 some (v13)
 )
 )
 )
 )
 )
 )
 )

def jV(n:Nat)(x':an):Option (an):=
 bdO (bH n x') fun v1=>(
 bdO (dI n v1.Num) fun v3=>(
 some (an.mk v3 v1.Den)
 )
 )

def dz(n:Nat)(x':an)(y:an):Option (an):=
 bdO (jV n y) fun v1=>(
 bdO (gq n x' v1) fun v3=>(
 some (v3)
 )
 )

def dA(n:Nat)(x':an)(y:an):Option (an):=
 bdO (bH n x') fun v1=>(
 bdO (bH n y) fun v3=>(
 bdO (br n v1.Num v3.Num) fun v5=>(
 bdO (br n v1.Den v3.Den) fun v7=>(
 bdO (dF n v5 v7) fun v9=>(
 some (v9)
 )
 )
 )
 )
 )

def lG(n:Nat)(x':an)(y:an):Option (an×Int):=
 bdO (bH n x') fun v1=>(
 bdO (bH n y) fun v3=>(
 bdO (bg n v3.Num) fun v5=>(
 cdO ((v5:Int)==0) (
 some ((an.mk (ah.mk false []) (ah.mk false []),14))
 ) (
 bdO (br n v1.Num v3.Den) fun v8=>(
 bdO (br n v1.Den v3.Num) fun v10=>(
 bdO (dF n v8 v10) fun v12=>(
 some ((v12,0))
 )
 )
 )
 )
 )
 )
 )

def ee(n:Nat)(x':an)(y:an):Option (Int):=
 bdO (bH n x') fun v1=>(
 bdO (bH n y) fun v3=>(
 bdO (br n v1.Num v3.Den) fun v5=>(
 bdO (br n v3.Num v1.Den) fun v7=>(
 bdO (fV n v5 v7) fun v9=>(
 some (v9)
 )
 )
 )
 )
 )

def cK(n:Nat)(x':an):Option (Int):=
 bdO (bH n x') fun v1=>(
 bdO (bg n v1.Num) fun v3=>(
 some (v3)
 )
 )

def eE(n:Nat)(n':ah):Option (ah):=
 bdO (dM n n') fun v1=>(
 cdO v1 (
 some (n')
 ) (
 bdO (cj n 0) fun v4=>(
 some (v4)
 )
 )
 )

def kd(n:Nat)(num:ah)(den:ah):Option (an×Int):=
 bdO (eE n num) fun v1=>(
 bdO (eE n den) fun v3=>(
 bdO (bg n v3) fun v5=>(
 cdO ((v5:Int)==0) (
 some ((an.mk (ah.mk false []) (ah.mk false []),14))
 ) (
 bdO (dF n v1 v3) fun v8=>(
 some ((v8,0))
 )
 )
 )
 )
 )

def jK(n:Nat)(n':Int)(d:Int):Option (an×Int):=
 bdO (cj n n') fun v1=>(
 bdO (cj n d) fun v3=>(
 bdO (kd n v1 v3) fun v5=>(
 some ((v5.1,v5.2))
 )
 )
 )

def gh(n:Nat):Option (Bool):=some true

def fL(n:Nat)(x':List Int):Option (Int):=
 gdO (!(decide ((x'.length:Int)<1))) (
 gdO (inR 0 x'.length) (
 bdO (aQ (α:=Int×Int) (β:=Int) n (fun again8 (m_3,i_4)=>(
 cdO (decide (i_4<(x'.length:Int))) (
 gdO (inR i_4 x'.length) (
 again8 (mx m_3 (gt x' i_4),MR (i_4+1))
 )
 ) (
 some (m_3)
 )
 )) ((gt x' 0),1)) fun m_7=>(
 some (m_7)
 )
 )
 )

def fI(n:Nat)(g:aj)(level:Int):Option (Int):=
 bdO (fE n g) fun v1=>(
 cdO ((v1:Int)!=0) (
 some (v1)
 ) (
 cdO (((level.tmod 2):Int)==0) (
 some (1)
 ) (
 cdO (decide (level<(-2097153))) (
 some (2)
 ) (
 cdO (decide (level>2097153)) (
 some (2)
 ) (
 some (0)
 )
 )
 )
 )
 )

def df(n:Nat)(k:Int)(p:Int)(p':Int)(p'':Int)(GS:Int)(CD:Int)(uL:List Int)(zA:Int):Option (Bool):=
 gdO (inR k uL.length) (
 some (decide ((MR (2*(gt uL k)))>zA))
 )

def jS(n:Nat)(a:Int)(b:Int):Option (A2 Int):=
 some (A2.mk (mn a b) (mx a b))

def eR(n:Nat)(t:A3 Int)(c:Int)(c':Int)(c'':Int)(Ec:Int)(yz:Int)(uk:List Int)(qW:Int)(p:List (A2 Int×A2 Int))(p':List (A2 Int×Bool)):Option (List (A2 Int×A2 Int)×List (A2 Int×Bool)):=
 bdO (aQ (α:=Int×Int×Int×Int×Bool×Int) (β:=Int×Int×Int×Int×Bool) n (fun again110 (f_71,f_72,t_73,t_74,c_75,x_76)=>(
 cdO (decide (x_76<3)) (
 gdO (inR x_76 3) (
 gdO (inR ((MR (x_76+1)).tmod 3) 3) (
 bdO (some (A3.get t ((MR (x_76+1)).tmod 3))) fun w115=>(
 bdO (α:=Bool) (
 bdO (df n (A3.get t x_76) c c' c'' Ec yz uk qW) fun v120=>(
 cdO v120 (
 bdO (df n w115 c c' c'' Ec yz uk qW) fun v123=>(
 some (!v123)
 )
 ) (
 some (false)
 )
 )
 ) fun x_119=>(
 cdO x_119 (
 bdO (jS n (A3.get t x_76) w115) fun v129=>(
 again110 (v129.e0,v129.e1,t_73,t_74,true,MR (x_76+1))
 )
 ) (
 bdO (df n (A3.get t x_76) c c' c'' Ec yz uk qW) fun v131=>(
 cdO (!v131) (
 bdO (df n w115 c c' c'' Ec yz uk qW) fun v134=>(
 cdO v134 (
 bdO (jS n (A3.get t x_76) w115) fun v137=>(
 again110 (f_71,f_72,v137.e0,v137.e1,c_75,MR (x_76+1))
 )
 ) (
 again110 (f_71,f_72,t_73,t_74,c_75,MR (x_76+1))
 )
 )
 ) (
 again110 (f_71,f_72,t_73,t_74,c_75,MR (x_76+1))
 )
 )
 )
 )
 )
 )
 )
 ) (
 some ((f_71,f_72,t_73,t_74,c_75))
 )
 )) (0,0,0,0,false,0)) fun o139=>(
 match o139 with
 |(f_105,f_106,t_107,t_108,c_109)=>(
 cdO c_109 (
 some ((aW p (A2.mk f_105 f_106) (A2.mk t_107 t_108),aW p' (A2.mk t_107 t_108) true))
 ) (
 some ((p,p'))
 )
 ))

def bc(n:Nat)(g:aj)(c:Int)(c':Int)(c'':Int)(Ec:Int)(yz:Int)(uk:List Int)(qW:Int)(FO:List (A2 Int×A2 Int))(D9:List (A2 Int×Bool)):Option (List (A2 Int×A2 Int)×List (A2 Int×Bool)):=
 bdO (aQ (α:=List (A2 Int×A2 Int)×List (A2 Int×Bool)×Int) (β:=List (A2 Int×A2 Int)×List (A2 Int×Bool)) n (fun again272 (c_182,c_183,x_184)=>(
 cdO (decide (x_184<(MR (g.Height-1)))) (
 bdO (aQ (α:=List (A2 Int×A2 Int)×List (A2 Int×Bool)×Int) (β:=List (A2 Int×A2 Int)×List (A2 Int×Bool)) n (fun again317 (c_275,c_276,x_277)=>(
 cdO (decide (x_277<(MR (g.Width-1)))) (
 bdO (some (MR ((MR (x_184*g.Width))+x_277))) fun w320=>(
 bdO (some [A3.mk w320 (MR (w320+1)) (MR ((MR (w320+g.Width))+1)),A3.mk w320 (MR ((MR (w320+g.Width))+1)) (MR (w320+g.Width))]) fun w322=>(
 bdO (aQ (α:=List (A2 Int×A2 Int)×List (A2 Int×Bool)×Int) (β:=List (A2 Int×A2 Int)×List (A2 Int×Bool)) n (fun again340 (c_324,c_325,x_326)=>(
 cdO (decide (x_326<2)) (
 gdO (inR x_326 w322.length) (
 gdO (inR (gt w322 x_326).e0 g.Z.length) (
 cdO (((gt g.Z (gt w322 x_326).e0):Int)!=(-2147483648)) (
 gdO (inR (gt w322 x_326).e1 g.Z.length) (
 cdO (((gt g.Z (gt w322 x_326).e1):Int)!=(-2147483648)) (
 gdO (inR (gt w322 x_326).e2 g.Z.length) (
 cdO (((gt g.Z (gt w322 x_326).e2):Int)!=(-2147483648)) (
 bdO (eR n (gt w322 x_326) c c' c'' Ec yz uk qW c_324 c_325) fun v350=>(
 again340 (v350.1,v350.2,MR (x_326+1))
 )
 ) (
 again340 (c_324,c_325,MR (x_326+1))
 )
 )
 ) (
 again340 (c_324,c_325,MR (x_326+1))
 )
 )
 ) (
 again340 (c_324,c_325,MR (x_326+1))
 )
 )
 )
 ) (
 some ((c_324,c_325))
 )
 )) (c_275,c_276,0)) fun o352=>(
 match o352 with
 |(c_338,c_339)=>(
 again317 (c_338,c_339,MR (x_277+1))
 ))
 )
 )
 ) (
 some ((c_275,c_276))
 )
 )) (c_182,c_183,0)) fun o355=>(
 match o355 with
 |(c_315,c_316)=>(
 again272 (c_315,c_316,MR (x_184+1))
 ))
 ) (
 some ((c_182,c_183))
 )
 )) (FO,D9,0)) fun o358=>(
 match o358 with
 |(c_270,c_271)=>(
 some ((c_270,c_271))
 ))

def fe(n:Nat)(a:A2 Int)(b:A2 Int):Option (Int):=
 cdO ((a.e0:Int)!=b.e0) (
 some (MR (a.e0-b.e0))
 ) (
 some (MR (a.e1-b.e1))
 )

def aH(n:Nat)(x':List (A2 Int)):Option (List (A2 Int)):=
 gdO (decide (x'.length<4611686018427387904)) (
 vt (fun x y=>fe n x y) x'
 )

def cv(n:Nat)(g:aj)(level:Int)(e:A2 Int):Option (aw):=
 gdO (inR e.e0 g.Z.length) (
 gdO (inR e.e1 g.Z.length) (
 bdO (jK n (MR (level-(MR (2*(gt g.Z e.e0))))) (MR (2*(MR ((gt g.Z e.e1)-(gt g.Z e.e0)))))) fun v3=>(
 some (aw.mk e.e0 e.e1 v3.1)
 )
 )
 )

def dt(n:Nat)(start:A2 Int)(closed:Bool)(p:List (A2 Int×Bool))(p':Int)(p'':Int)(GS:Int)(CD:Int)(uL:Int)(zA:List Int)(Ft:Int)(qD:List (A2 Int×A2 Int))(rK:List ak):Option (List (A2 Int×Bool)×List ak):=
 bdO (aQ (α:=List (A2 Int×Bool)×List aw×Int×Int) (β:=List (A2 Int×Bool)×List aw) n (fun again39 (p_27,c_28,a_29,a_30)=>(
 bdO (cv n (aj.mk p' p'' GS CD uL zA) Ft (A2.mk a_29 a_30)) fun v40=>(
 gdO (decide ((c_28.length+1)*80<=140737488355328)) (
 gdO (decide (c_28.length+1<=4611686018427387904)) (
 cdO (!(cG qD (A2.mk a_29 a_30))) (
 some ((aW p_27 (A2.mk a_29 a_30) true,c_28++[v40]))
 ) (
 cdO (getM false (aW p_27 (A2.mk a_29 a_30) true) (getM (A2.mk 0 0:A2 Int) qD (A2.mk a_29 a_30))) (
 some ((aW p_27 (A2.mk a_29 a_30) true,c_28++[v40]))
 ) (
 again39 (aW p_27 (A2.mk a_29 a_30) true,c_28++[v40],(getM (A2.mk 0 0:A2 Int) qD (A2.mk a_29 a_30)).e0,(getM (A2.mk 0 0:A2 Int) qD (A2.mk a_29 a_30)).e1)
 )
 )
 )
 )
 )
 )) (p,[],start.e0,start.e1)) fun o46=>(
 match o46 with
 |(p_37,c_38)=>(
 gdO (decide ((rK.length+1)*32<=140737488355328)) (
 gdO (decide (rK.length+1<=4611686018427387904)) (
 some ((p_37,rK++[ak.mk closed c_38]))
 )
 )
 ))

def fB(n:Nat)(c:ak):Option (A2 Int):=
 gdO (inR 0 c.Points.length) (
 some (A2.mk (gt c.Points 0).A (gt c.Points 0).B)
 )

def ij(n:Nat)(a:ak)(b:ak):Option (Int):=
 bdO (fB n a) fun v1=>(
 bdO (fB n b) fun v3=>(
 bdO (fe n v1 v3) fun v5=>(
 some (v5)
 )
 )
 )

def aJ(n:Nat)(x':List ak):Option (List ak):=
 gdO (decide (x'.length<4611686018427387904)) (
 vt (fun x y=>ij n x y) x'
 )

noncomputable def iH(n:Nat)(g:aj)(level:Int):Option (List ak):=
 bdO (bc n g g.X0 g.Y0 g.Step g.Width g.Height g.Z level ([]:List (A2 Int×A2 Int)) ([]:List (A2 Int×Bool))) fun v1=>(
 zf (ε:=A2 Int×A2 Int) (σ:=List (A2 Int)) v1.1 (fun s_16 e12=>(
 gdO (decide ((s_16.length+1)*16<=140737488355328)) (
 gdO (decide (s_16.length+1<=4611686018427387904)) (
 some (s_16++[e12.1])
 )
 )
 )) [] fun s_16=>(
 bdO (aH n s_16) fun v21=>(
 gdO (decide (v21.length=s_16.length)) (
 bdO (aQ (α:=List (A2 Int×Bool)×List ak×Int) (β:=List (A2 Int×Bool)×List ak) n (fun again56 (d_45,o_46,x_47)=>(
 cdO (decide (x_47<(s_16.length:Int))) (
 gdO (inR x_47 v21.length) (
 cdO (!(getM false v1.2 (gt v21 x_47))) (
 bdO (dt n (gt v21 x_47) false d_45 g.X0 g.Y0 g.Step g.Width g.Height g.Z level v1.1 o_46) fun v61=>(
 again56 (v61.1,v61.2,MR (x_47+1))
 )
 ) (
 again56 (d_45,o_46,MR (x_47+1))
 )
 )
 ) (
 some ((d_45,o_46))
 )
 )) (([]:List (A2 Int×Bool)),[],0)) fun o63=>(
 match o63 with
 |(d_54,o_55)=>(
 bdO (aQ (α:=List (A2 Int×Bool)×List ak×Int) (β:=List ak) n (fun again76 (d_66,o_67,x_68)=>(
 cdO (decide (x_68<(v21.length:Int))) (
 gdO (inR x_68 v21.length) (
 cdO (!(getM false d_66 (gt v21 x_68))) (
 bdO (dt n (gt v21 x_68) true d_66 g.X0 g.Y0 g.Step g.Width g.Height g.Z level v1.1 o_67) fun v81=>(
 again76 (v81.1,v81.2,MR (x_68+1))
 )
 ) (
 again76 (d_66,o_67,MR (x_68+1))
 )
 )
 ) (
 some (o_67)
 )
 )) (d_54,o_55,0)) fun o_75=>(
 bdO (aJ n o_75) fun v86=>(
 gdO (decide (v86.length=o_75.length)) (
 some (v86)
 )
 )
 )
 ))
 )
 )
 )
 )

noncomputable def js(n:Nat)(g:aj)(level:Int):Option (List ak×Int):=
 bdO (fI n g level) fun v1=>(
 cdO ((v1:Int)!=0) (
 some (([],v1))
 ) (
 bdO (iH n g level) fun v4=>(
 some ((v4,0))
 )
 )
 )

def dX(n:Nat)(t:A3 Int)(p:Bool)(p':Int)(p'':Int):Option (Bool):=
 cdO p (
 some (true)
 ) (
 bdO (bs n [t.e0,t.e1,t.e2] p') fun v9=>(
 cdO v9 (
 bdO (bs n [t.e0,t.e1,t.e2] p'') fun v12=>(
 some (v12)
 )
 ) (
 some (false)
 )
 )
 )

def bY(n:Nat)(g:aj)(c:Bool)(c':Int)(c'':Int):Option (Bool):=
 bdO (aQ (α:=Bool×Int) (β:=Bool) n (fun again249 (c_167,x_168)=>(
 cdO (decide (x_168<(MR (g.Height-1)))) (
 bdO (aQ (α:=Bool×Int) (β:=Bool) n (fun again290 (c_252,x_253)=>(
 cdO (decide (x_253<(MR (g.Width-1)))) (
 bdO (some (MR ((MR (x_168*g.Width))+x_253))) fun w293=>(
 bdO (some [A3.mk w293 (MR (w293+1)) (MR ((MR (w293+g.Width))+1)),A3.mk w293 (MR ((MR (w293+g.Width))+1)) (MR (w293+g.Width))]) fun w295=>(
 bdO (aQ (α:=Bool×Int) (β:=Bool) n (fun again311 (c_297,x_298)=>(
 cdO (decide (x_298<2)) (
 gdO (inR x_298 w295.length) (
 gdO (inR (gt w295 x_298).e0 g.Z.length) (
 cdO (((gt g.Z (gt w295 x_298).e0):Int)!=(-2147483648)) (
 gdO (inR (gt w295 x_298).e1 g.Z.length) (
 cdO (((gt g.Z (gt w295 x_298).e1):Int)!=(-2147483648)) (
 gdO (inR (gt w295 x_298).e2 g.Z.length) (
 cdO (((gt g.Z (gt w295 x_298).e2):Int)!=(-2147483648)) (
 bdO (dX n (gt w295 x_298) c_297 c' c'') fun v321=>(
 again311 (v321,MR (x_298+1))
 )
 ) (
 again311 (c_297,MR (x_298+1))
 )
 )
 ) (
 again311 (c_297,MR (x_298+1))
 )
 )
 ) (
 again311 (c_297,MR (x_298+1))
 )
 )
 )
 ) (
 some (c_297)
 )
 )) (c_252,0)) fun c_310=>(
 again290 (c_310,MR (x_253+1))
 )
 )
 )
 ) (
 some (c_252)
 )
 )) (c_167,0)) fun c_289=>(
 again249 (c_289,MR (x_168+1))
 )
 ) (
 some (c_167)
 )
 )) (c,0)) fun c_248=>(
 some (c_248)
 )

def iW(n:Nat)(g:aj)(a:Int)(b:Int):Option (Bool):=
 cdO (decide (a<0)) (
 some (false)
 ) (
 cdO (decide (a>=b)) (
 some (false)
 ) (
 cdO (decide (b>=(g.Z.length:Int))) (
 some (false)
 ) (
 bdO (bY n g false a b) fun v4=>(
 some (v4)
 )
 )
 )
 )

def dh(n:Nat)(a:Int)(b:Int)(p:Int)(p':Int)(p'':Bool)(GS:List Int)(CD:Bool)(uL:List Int):Option (an):=
 bdO (cg n a) fun v1=>(
 bdO (cg n (MR (b-a))) fun v3=>(
 bdO (dA n (an.mk (ah.mk p'' GS) (ah.mk CD uL)) v3) fun v5=>(
 bdO (gq n v1 v5) fun v7=>(
 some (v7)
 )
 )
 )
 )

def de(n:Nat)(g:aj)(c:aw):Option (aE×Int):=
 bdO (iW n g c.A c.B) fun v1=>(
 cdO (!v1) (
 some ((aE.mk (an.mk (ah.mk false []) (ah.mk false [])) (an.mk (ah.mk false []) (ah.mk false [])),6))
 ) (
 bdO (fJ n c.At) fun v5=>(
 cdO (!v5) (
 some ((aE.mk (an.mk (ah.mk false []) (ah.mk false [])) (an.mk (ah.mk false []) (ah.mk false [])),1))
 ) (
 bdO (α:=Bool) (
 bdO (cK n c.At) fun v12=>(
 cdO (decide (v12<0)) (
 some (true)
 ) (
 bdO (cg n 1) fun v15=>(
 bdO (ee n c.At v15) fun v17=>(
 some (decide (v17>0))
 )
 )
 )
 )
 ) fun x_11=>(
 cdO x_11 (
 some ((aE.mk (an.mk (ah.mk false []) (ah.mk false [])) (an.mk (ah.mk false []) (ah.mk false [])),2))
 ) (
 gdO (!decide (g.Width=0)) (
 bdO (dh n (MR (g.X0+(MR ((c.A.tmod g.Width)*g.Step)))) (MR (g.X0+(MR ((c.B.tmod g.Width)*g.Step)))) c.A c.B c.At.Num.Negative c.At.Num.Groups c.At.Den.Negative c.At.Den.Groups) fun v25=>(
 bdO (dh n (MR (g.Y0+(MR ((MR (c.A.tdiv g.Width))*g.Step)))) (MR (g.Y0+(MR ((MR (c.B.tdiv g.Width))*g.Step)))) c.A c.B c.At.Num.Negative c.At.Num.Groups c.At.Den.Negative c.At.Den.Groups) fun v27=>(
 some ((aE.mk v25 v27,0))
 )
 )
 )
 )
 )
 )
 )
 )
 )

def gN(n:Nat)(g:aj)(c:ak):Option (List aE×Int):=
 bdO (aQ (α:=List aE×Int) (β:=Sum (List aE) (List aE×Int)) n (fun again12 (o_1,x_2)=>(
 cdO (decide (x_2<(c.Points.length:Int))) (
 gdO (inR x_2 c.Points.length) (
 bdO (de n g (gt c.Points x_2)) fun v16=>(
 cdO ((v16.2:Int)!=0) (
 some (Sum.inr (([],v16.2)))
 ) (
 gdO (decide ((o_1.length+1)*128<=140737488355328)) (
 gdO (decide (o_1.length+1<=4611686018427387904)) (
 again12 (o_1++[v16.1],MR (x_2+1))
 )
 )
 )
 )
 )
 ) (
 some (Sum.inl o_1)
 )
 )) ([],0)) fun o21=>(
 match o21 with
 |.inl o_11=>(
 some ((o_11,0))
 )
 |.inr (r0)=>(
 some r0
 ))

def fY(n:Nat)(polygon:List aE)(o:aE):Option (Int×Bool):=
 bdO (aQ (α:=Int×Int) (β:=Sum (Int) (Int×Bool)) n (fun again52 (n_1,x_2)=>(
 cdO (decide (x_2<(polygon.length:Int))) (
 gdO (inR x_2 polygon.length) (
 gdO (!decide ((polygon.length:Int)=0)) (
 gdO (inR ((MR (x_2+1)).tmod (polygon.length:Int)) polygon.length) (
 bdO (dz n (gt polygon x_2).X o.X) fun v58=>(
 bdO (dz n (gt polygon x_2).Y o.Y) fun v60=>(
 bdO (dz n (gt polygon ((MR (x_2+1)).tmod (polygon.length:Int))).X o.X) fun v62=>(
 bdO (dz n (gt polygon ((MR (x_2+1)).tmod (polygon.length:Int))).Y o.Y) fun v64=>(
 bdO (dA n v58 v64) fun v66=>(
 bdO (dA n v60 v62) fun v68=>(
 bdO (dz n v66 v68) fun v70=>(
 bdO (cK n v70) fun v72=>(
 bdO (α:=Sum (Unit) (Int×Bool)) (
 cdO ((v72:Int)==0) (
 bdO (dA n v58 v62) fun v75=>(
 bdO (dA n v60 v64) fun v77=>(
 bdO (gq n v75 v77) fun v79=>(
 bdO (cK n v79) fun v81=>(
 cdO (decide (v81<=0)) (
 some (Sum.inr ((0,true)))
 ) (
 some (Sum.inl ())
 )
 )
 )
 )
 )
 ) (
 some (Sum.inl ())
 )
 ) fun o84=>(
 match o84 with
 |.inl _=>(
 bdO (cK n v60) fun v87=>(
 bdO (cK n v64) fun v89=>(
 bdO (α:=Bool) (
 cdO (decide (v87<=0)) (
 cdO (!(decide (v89<=0))) (
 some (decide (v72>0))
 ) (
 some (false)
 )
 ) (
 some (false)
 )
 ) fun x_91=>(
 cdO x_91 (
 again52 (MR (n_1+1),MR (x_2+1))
 ) (
 cdO (!(decide (v87<=0))) (
 cdO (decide (v89<=0)) (
 cdO (decide (v72<0)) (
 again52 (MR (n_1-1),MR (x_2+1))
 ) (
 again52 (n_1,MR (x_2+1))
 )
 ) (
 again52 (n_1,MR (x_2+1))
 )
 ) (
 again52 (n_1,MR (x_2+1))
 )
 )
 )
 )
 )
 )
 |.inr (r0)=>(
 some (Sum.inr (r0))
 ))
 )
 )
 )
 )
 )
 )
 )
 )
 )
 )
 )
 ) (
 some (Sum.inl n_1)
 )
 )) (0,0)) fun o101=>(
 match o101 with
 |.inl n_51=>(
 some ((n_51,false))
 )
 |.inr (r0)=>(
 some r0
 ))

def jq(n:Nat)(g:aj)(l:ak)(i:Int)(j:Int):Option (Int×Int):=
 bdO (fE n g) fun v1=>(
 cdO ((v1:Int)!=0) (
 some ((0,v1))
 ) (
 bdO (α:=Bool) (
 cdO (decide (i<0)) (
 some (true)
 ) (
 cdO (decide (i>=g.Width)) (
 some (true)
 ) (
 cdO (decide (j<0)) (
 some (true)
 ) (
 some (decide (j>=g.Height))
 )
 )
 )
 ) fun x_5=>(
 cdO x_5 (
 some ((0,2))
 ) (
 cdO (!l.Closed) (
 some ((0,11))
 ) (
 bdO (gN n g l) fun v16=>(
 cdO ((v16.2:Int)!=0) (
 some ((0,v16.2))
 ) (
 bdO (cg n (MR (g.X0+(MR (i*g.Step))))) fun v20=>(
 bdO (cg n (MR (g.Y0+(MR (j*g.Step))))) fun v22=>(
 bdO (fY n v16.1 (aE.mk v20 v22)) fun v24=>(
 cdO v24.2 (
 some ((0,13))
 ) (
 cdO (((v16.1.length:Int):Int)==0) (
 some ((0,13))
 ) (
 some ((v24.1,0))
 )
 )
 )
 )
 )
 )
 )
 )
 )
 )
 )
 )

def mg(n:Nat)(a:A3 ah):Option (Bool):=
 bdO (dH n (A3.mk a.e0 a.e1 a.e2) (A3.mk a.e0 a.e1 a.e2)) fun v1=>(
 bdO (bg n v1) fun v3=>(
 some ((v3:Int)==0)
 )
 )

def fp(n:Nat)(x':A3 ah)(y:A3 ah)(product:A3 ah):Option (Bool):=
 bdO (mg n product) fun v1=>(
 cdO v1 (
 bdO (dH n x' (A3.mk y.e0 y.e1 y.e2)) fun v4=>(
 bdO (bg n v4) fun v6=>(
 some (decide (v6<=0))
 )
 )
 ) (
 some (false)
 )
 )

def mesh_holds(n:Nat)(a:A3 ah)(b:A3 ah)(c:A3 ah):Option (Bool):=
 bdO (cW n (A3.mk a.e0 a.e1 a.e2) (A3.mk b.e0 b.e1 b.e2)) fun v1=>(
 bdO (cW n (A3.mk b.e0 b.e1 b.e2) c) fun v3=>(
 bdO (cW n c (A3.mk a.e0 a.e1 a.e2)) fun v5=>(
 bdO (cq n v3.e0 v5.e0) fun v7=>(
 bdO (cq n v1.e0 v7) fun v9=>(
 bdO (cq n v3.e1 v5.e1) fun v11=>(
 bdO (cq n v1.e1 v11) fun v13=>(
 bdO (cq n v3.e2 v5.e2) fun v15=>(
 bdO (cq n v1.e2 v15) fun v17=>(
 bdO (dH n (A3.mk a.e0 a.e1 a.e2) (A3.mk v3.e0 v3.e1 v3.e2)) fun v19=>(
 bdO (bg n v19) fun v21=>(
 cdO ((v21:Int)!=0) (
 some (false)
 ) (
 bdO (mg n (A3.mk v9 v13 v17)) fun v24=>(
 cdO (!v24) (
 bdO (dH n (A3.mk v1.e0 v1.e1 v1.e2) (A3.mk v9 v13 v17)) fun v27=>(
 bdO (bg n v27) fun v29=>(
 cdO (decide (v29>=0)) (
 bdO (dH n (A3.mk v3.e0 v3.e1 v3.e2) (A3.mk v9 v13 v17)) fun v32=>(
 bdO (bg n v32) fun v34=>(
 cdO (decide (v34>=0)) (
 bdO (dH n v5 (A3.mk v9 v13 v17)) fun v37=>(
 bdO (bg n v37) fun v39=>(
 some (decide (v39>=0))
 )
 )
 ) (
 some (false)
 )
 )
 )
 ) (
 some (false)
 )
 )
 )
 ) (
 bdO (fp n (A3.mk a.e0 a.e1 a.e2) (A3.mk b.e0 b.e1 b.e2) (A3.mk v1.e0 v1.e1 v1.e2)) fun v41=>(
 cdO v41 (
 some (true)
 ) (
 bdO (fp n (A3.mk b.e0 b.e1 b.e2) c (A3.mk v3.e0 v3.e1 v3.e2)) fun v44=>(
 cdO v44 (
 some (true)
 ) (
 bdO (fp n c (A3.mk a.e0 a.e1 a.e2) v5) fun v47=>(
 some (v47)
 )
 )
 )
 )
 )
 )
 )
 )
 )
 )
 )
 )
 )
 )
 )
 )
 )
 )
 )

noncomputable def gR(n:Nat)(m':az)(p:ar):Option (Int×Int):=
 bdO (gD n m') fun v1=>(
 cdO ((v1:Int)!=0) (
 some ((0,v1))
 ) (
 bdO (fA n m') fun v4=>(
 cdO (decide ((v4.length:Int)>0)) (
 some ((0,11))
 ) (
 bdO (kZ n p) fun v7=>(
 cdO v7 (
 some ((0,2))
 ) (
 bdO (aQ (α:=List (A3 (A3 ah))×Int) (β:=Sum (List (A3 (A3 ah))) (Int×Int)) n (fun again36 (f_10,x_11)=>(
 cdO (decide (x_11<(m'.Faces.length:Int))) (
 gdO (inR x_11 m'.Faces.length) (
 gdO (inR (gt m'.Faces x_11).e0 m'.Vertices.length) (
 bdO (gg n p (gt m'.Vertices (gt m'.Faces x_11).e0)) fun v40=>(
 gdO (inR (gt m'.Faces x_11).e1 m'.Vertices.length) (
 bdO (gg n p (gt m'.Vertices (gt m'.Faces x_11).e1)) fun v43=>(
 gdO (inR (gt m'.Faces x_11).e2 m'.Vertices.length) (
 bdO (gg n p (gt m'.Vertices (gt m'.Faces x_11).e2)) fun v46=>(
 bdO (mesh_holds n v40 v43 v46) fun v48=>(
 cdO v48 (
 some (Sum.inr ((0,13)))
 ) (
 bdO (cW n v43 v46) fun v51=>(
 bdO (dH n v40 v51) fun v53=>(
 bdO (bg n v53) fun v55=>(
 cdO ((v55:Int)!=0) (
 gdO (decide ((f_10.length+1)*288<=140737488355328)) (
 gdO (decide (f_10.length+1<=4611686018427387904)) (
 again36 (f_10++[A3.mk v40 v43 v46],MR (x_11+1))
 )
 )
 ) (
 again36 (f_10,MR (x_11+1))
 )
 )
 )
 )
 )
 )
 )
 )
 )
 )
 )
 )
 )
 ) (
 some (Sum.inl f_10)
 )
 )) ([],0)) fun o60=>(
 match o60 with
 |.inl f_35=>(
 bdO (aQ (α:=Int) (β:=Int×Int) n (fun again155 k_63=>(
 bdO (cj n 1) fun v156=>(
 bdO (cj n k_63) fun v158=>(
 bdO (cj n (MR (k_63*k_63))) fun v160=>(
 bdO (aQ (α:=Int×Int) (β:=Sum (Unit) (Int)) n (fun again204 (c_162,x_163)=>(
 cdO (decide (x_163<(f_35.length:Int))) (
 gdO (inR x_163 f_35.length) (
 bdO (cW n (gt f_35 x_163).e1 (gt f_35 x_163).e2) fun v207=>(
 bdO (dH n (gt f_35 x_163).e0 v207) fun v209=>(
 bdO (bg n v209) fun v211=>(
 bdO (cW n (gt f_35 x_163).e0 (gt f_35 x_163).e1) fun v213=>(
 bdO (dH n (A3.mk v156 v158 v160) v213) fun v215=>(
 bdO (bg n v215) fun v217=>(
 cdO ((v217:Int)==0) (
 some (Sum.inl ())
 ) (
 bdO (cW n (gt f_35 x_163).e1 (gt f_35 x_163).e2) fun v220=>(
 bdO (dH n (A3.mk v156 v158 v160) v220) fun v222=>(
 bdO (bg n v222) fun v224=>(
 cdO ((v224:Int)==0) (
 some (Sum.inl ())
 ) (
 cdO ((v217:Int)==v211) (
 bdO (cW n (gt f_35 x_163).e2 (gt f_35 x_163).e0) fun v228=>(
 bdO (dH n (A3.mk v156 v158 v160) v228) fun v230=>(
 bdO (bg n v230) fun v232=>(
 cdO ((v232:Int)==0) (
 some (Sum.inl ())
 ) (
 cdO ((v224:Int)==v211) (
 cdO ((v232:Int)==v211) (
 again204 (MR (c_162+v211),MR (x_163+1))
 ) (
 again204 (c_162,MR (x_163+1))
 )
 ) (
 again204 (c_162,MR (x_163+1))
 )
 )
 )
 )
 )
 ) (
 bdO (cW n (gt f_35 x_163).e2 (gt f_35 x_163).e0) fun v237=>(
 bdO (dH n (A3.mk v156 v158 v160) v237) fun v239=>(
 bdO (bg n v239) fun v241=>(
 cdO ((v241:Int)==0) (
 some (Sum.inl ())
 ) (
 again204 (c_162,MR (x_163+1))
 )
 )
 )
 )
 )
 )
 )
 )
 )
 )
 )
 )
 )
 )
 )
 )
 )
 ) (
 some (Sum.inr (c_162))
 )
 )) (0,0)) fun o244=>(
 match o244 with
 |.inl _=>(
 again155 (MR (k_63+1))
 )
 |.inr (c_203)=>(
 some ((c_203,0))
 ))
 )
 )
 )
 )) 1) fun r0=>(
 some r0
 )
 )
 |.inr (r0)=>(
 some r0
 ))
 )
 )
 )
 )
 )
 )

noncomputable def cM(n:Nat)(g:aj)(k:Int)(up:Int):Option (Bool):=
 bdO (gh n) fun v1=>(
 cdO (!v1) (
 some (false)
 ) (
 cdO (decide ((g.Z.length:Int)>25)) (
 some (true)
 ) (
 cdO (((g.Z.length:Int):Int)==0) (
 some (true)
 ) (
 bdO (fE n g) fun v6=>(
 cdO ((v6:Int)!=0) (
 some (true)
 ) (
 bdO (cU n g.Z) fun v9=>(
 cdO (decide ((MR (v9-1))<(-10000))) (
 some (true)
 ) (
 bdO (fL n g.Z) fun v12=>(
 cdO (decide (v12>10000)) (
 some (true)
 ) (
 gdO (!decide ((g.Z.length:Int)=0)) (
 bdO (aQ (α:=Int) (β:=Sum (Unit) (Bool)) n (fun again28 x_16=>(
 cdO (decide (x_16<(g.Z.length:Int))) (
 gdO (inR x_16 g.Z.length) (
 gdO (!decide (g.Width=0)) (
 cdO (((x_16.tmod g.Width):Int)==0) (
 cdO (decide ((gt g.Z x_16)>=(MR ((MR ((MR (v9-1))+1))+(MR up))))) (
 some (Sum.inr (true))
 ) (
 again28 (MR (x_16+1))
 )
 ) (
 cdO (((MR (x_16.tdiv g.Width)):Int)==0) (
 cdO (decide ((gt g.Z x_16)>=(MR ((MR ((MR (v9-1))+1))+(MR up))))) (
 some (Sum.inr (true))
 ) (
 again28 (MR (x_16+1))
 )
 ) (
 cdO (((x_16.tmod g.Width):Int)==(MR (g.Width-1))) (
 cdO (decide ((gt g.Z x_16)>=(MR ((MR ((MR (v9-1))+1))+(MR up))))) (
 some (Sum.inr (true))
 ) (
 again28 (MR (x_16+1))
 )
 ) (
 cdO (((MR (x_16.tdiv g.Width)):Int)==(MR (g.Height-1))) (
 cdO (decide ((gt g.Z x_16)>=(MR ((MR ((MR (v9-1))+1))+(MR up))))) (
 some (Sum.inr (true))
 ) (
 again28 (MR (x_16+1))
 )
 ) (
 again28 (MR (x_16+1))
 )
 )
 )
 )
 )
 )
 ) (
 some (Sum.inl ())
 )
 )) 0) fun o40=>(
 match o40 with
 |.inl _=>(
 gdO (!decide (g.Width=0)) (
 cdO (((((MR k).tmod (g.Z.length:Int)).tmod g.Width):Int)==0) (
 some (true)
 ) (
 cdO (((MR (((MR k).tmod (g.Z.length:Int)).tdiv g.Width)):Int)==0) (
 some (true)
 ) (
 cdO (((((MR k).tmod (g.Z.length:Int)).tmod g.Width):Int)==(MR (g.Width-1))) (
 some (true)
 ) (
 cdO (((MR (((MR k).tmod (g.Z.length:Int)).tdiv g.Width)):Int)==(MR (g.Height-1))) (
 some (true)
 ) (
 gdO (inR ((MR k).tmod (g.Z.length:Int)) g.Z.length) (
 cdO (((gt g.Z ((MR k).tmod (g.Z.length:Int))):Int)==(MR ((MR ((MR (v9-1))+1))+(MR up)))) (
 some (true)
 ) (
 bdO (js n g (MR ((MR (2*(MR ((MR ((MR (v9-1))+1))+(MR up)))))-1))) fun v50=>(
 bdO (jj n g (MR (v9-1))) fun v52=>(
 cdO ((v50.2:Int)!=0) (
 some (false)
 ) (
 cdO ((v52.2:Int)!=0) (
 some (false)
 ) (
 bdO (aQ (α:=Int×Int) (β:=Sum (Int) (Bool)) n (fun again64 (t_56,x_57)=>(
 cdO (decide (x_57<(v50.1.length:Int))) (
 gdO (inR x_57 v50.1.length) (
 bdO (jq n g (gt v50.1 x_57) (((MR k).tmod (g.Z.length:Int)).tmod g.Width) (MR (((MR k).tmod (g.Z.length:Int)).tdiv g.Width))) fun v67=>(
 cdO ((v67.2:Int)!=0) (
 some (Sum.inr (false))
 ) (
 again64 (MR (t_56+v67.1),MR (x_57+1))
 )
 )
 )
 ) (
 some (Sum.inl t_56)
 )
 )) (0,0)) fun o70=>(
 match o70 with
 |.inl t_63=>(
 bdO (gR n v52.1 (ar.mk (MR (g.X0+(MR ((((MR k).tmod (g.Z.length:Int)).tmod g.Width)*g.Step)))) (MR (g.Y0+(MR ((MR (((MR k).tmod (g.Z.length:Int)).tdiv g.Width))*g.Step)))) (MR ((MR ((MR (v9-1))+1))+(MR up))))) fun v73=>(
 cdO ((v73.2:Int)==2) (
 some (true)
 ) (
 cdO ((v73.2:Int)==0) (
 some ((v73.1:Int)==t_63)
 ) (
 some (false)
 )
 )
 )
 )
 |.inr (r0)=>(
 some r0
 ))
 )
 )
 )
 )
 )
 )
 )
 )
 )
 )
 )
 )
 |.inr (r0)=>(
 some r0
 ))
 )
 )
 )
 )
 )
 )
 )
 )
 )
 )
 )
abbrev iCu:=iC .u32
abbrev wFu(n:Int):Int:=aa .u64 n
abbrev zN2:List AV:=[aB false,nS,aB false,nS]
abbrev zN3:List AV:=[aB false,nS,aB false,nS,aB false,nS]
abbrev zN4:List AV:=[aB false,nS,aB false,nS,aB false,nS,aB false,nS]
end Go.L