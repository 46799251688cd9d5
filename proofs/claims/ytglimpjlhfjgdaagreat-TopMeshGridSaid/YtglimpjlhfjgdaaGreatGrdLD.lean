
import Derived.Test.YtglimpjlhfjgdaaGreatSc11Grds
import Derived.Test.YtglimpjlhfjgdaaGreatScMGrds
import Derived.Test.YtglimpjlhfjgdaaGreatScRGrds
import Derived.Test.YtglimpjlhfjgdaaGreatScUGrds
import Derived.Test.YtglimpjlhfjgdaaGreatScWGrds
set_option linter.all false
set_option maxRecDepth 100000
set_option maxHeartbeats 4000000
namespace Go.L
open Go Go.Eng
def gD:ByteArray:=⟨#[0,1,2,2,3,3,3,3,4,4,4,4,4,4,4,4,5,5,5,5,5,5,5,5,5,5,5,5,5,5,5,5,6,6,6,6,6,6,6,6,6,6,6,6,6,6,6,6,6,6,6,6,6,6,6,6,6,6,6,6,6,6,6,6,7,7,7,7,7,7,7,7,7,7,7,7,7,7,7,7,7,7,7,7,7,7,7,7,7,7,7,7,7,7,7,7,7,7,7,7,7,7,7,7,7,7,7,7,7,7,7,7,7,7,7,7,7,7,7,7,7,7,7,7,7,7,7,7,8,8,8,8,8,8,8,8,8,8,8,8,8,8,8,8,8,8,8,8,8,8,8,8,8,8,8,8,8,8,8,8,8,8,8,8,8,8,8,8,8,8,8,8,8,8,8,8,8,8,8,8,8,8,8,8,8,8,8,8,8,8,8,8,8,8,8,8,8,8,8,8,8,8,8,8,8,8,8,8,8,8,8,8,8,8,8,8,8,8,8,8,8,8,8,8,8,8,8,8,8,8,8,8,8,8,8,8,8,8,8,8,8,8,8,8,8,8,8,8,8,8,8,8,8,8,8,8]⟩
structure ak where
 X0:Int
 Y0:Int
 Step:Int
 Width:Int
 Height:Int
 Z:List Int
 deriving Inhabited

structure ag where
 Negative:Bool
 Groups:List Int
 deriving Inhabited

structure ae where
 Num:ag
 Den:ag
 deriving Inhabited

structure A3 (α:Type) where
 e0:α
 e1:α
 e2:α
 deriving Inhabited

def ai.c(x:A3 Int):List AV:=[.at (.int .i64 x.e0),.at (.int .i64 x.e1),.at (.int .i64 x.e2)]
theorem ai.len:∀x,(ai.c x).length=3:=fun _=>rfl
theorem ai.pure:∀x,dB (ai.c x)=[]:=fun _=>rfl

def ae.c(x:ae):List AV:=[.at (.bool x.Num.Negative),slT (iC .u32) x.Num.Groups,.at (.bool x.Den.Negative),slT (iC .u32) x.Den.Groups]
theorem ae.len:∀x,(ae.c x).length=4:=fun _=>rfl
theorem ae.pure:∀x,dB (ae.c x)=[]:=fun _=>rfl

structure an where
 X:Int
 Y:Int
 Z:Int
 deriving Inhabited

structure aj where
 Vertices:List an
 Faces:List (A3 Int)
 deriving Inhabited

def an.c(x:an):List AV:=[.at (.int .i64 x.X),.at (.int .i64 x.Y),.at (.int .i64 x.Z)]
theorem an.len:∀x,(an.c x).length=3:=fun _=>rfl
theorem an.pure:∀x,dB (an.c x)=[]:=fun _=>rfl

structure A2 (α:Type) where
 e0:α
 e1:α
 deriving Inhabited,DecidableEq

def aS.K(x:A2 Int):Value:=.agg #[.int .i64 x.e0,.int .i64 x.e1]
theorem aS.key:Cz aS.K:=fun⟨a0,a1⟩ ⟨b0,b1⟩=>by
 have h:((⟨a0,a1⟩:A2 Int)==⟨b0,b1⟩)=(a0==b0&&(a1==b1&&true)):=by rw[Bool.eq_iff_iff];simp
 show some _=some _;rw[h]

def A3.get(x:A3 Int)(j:Int):Int:=gt [x.e0,x.e1,x.e2] j
def A3.put(x:A3 Int)(j v:Int):A3 Int:=⟨if j.toNat=0 then v else x.e0,if j.toNat=1 then v else x.e1,if j.toNat=2 then v else x.e2⟩
theorem A3.Jg{k:IntKind}(x:A3 Int){j:Int}(v:Int)(h:inR j 3=true):setCells [.at (.int k x.e0),.at (.int k x.e1),.at (.int k x.e2)] j.toNat [.at (.int k v)]=[.at (.int k (x.put j v).e0),.at (.int k (x.put j v).e1),.at (.int k (x.put j v).e2)]:=by
 have h1:=aD h;have hj:j.toNat=0\/j.toNat=1\/j.toNat=2:=by omega
 unfold A3.put;rcases hj with e|e|e<;>simp only[e]<;>rfl

def ak.c(x:ak):List AV:=[.at (.int .i64 x.X0),.at (.int .i64 x.Y0),.at (.int .i64 x.Step),.at (.int .i64 x.Width),.at (.int .i64 x.Height),slT (iC .i64) x.Z]
theorem ak.len:∀x,(ak.c x).length=6:=fun _=>rfl
theorem ak.pure:∀x,dB (ak.c x)=[]:=fun _=>rfl

def ag.c(x:ag):List AV:=[.at (.bool x.Negative),slT (iC .u32) x.Groups]
theorem ag.len:∀x,(ag.c x).length=2:=fun _=>rfl
theorem ag.pure:∀x,dB (ag.c x)=[]:=fun _=>rfl

def aj.c(x:aj):List AV:=[slT an.c x.Vertices,slT ai.c x.Faces]
theorem aj.len:∀x,(aj.c x).length=2:=fun _=>rfl
theorem aj.pure:∀x,dB (aj.c x)=[]:=fun _=>rfl

def fY(n:Nat):Option (ak):=
 some (ak.mk 0 0 2 3 3 [(0:Int),(0:Int),(0:Int),(0:Int),(4:Int),(0:Int),(0:Int),(0:Int),(0:Int)])

def fp(n:Nat)(n':Int):Option (Bool):=
 cdO (decide (n'>=2)) (
 some (decide (n'<=64))
 ) (
 some (false)
 )

def jc(n:Nat)(n':Int):Option (Bool):=
 cdO (decide (n'<(-1048576))) (
 some (true)
 ) (
 some (decide (n'>1048576))
 )

def js(n:Nat)(z:Int):Option (Bool):=
 cdO ((z:Int)!=(-2147483648)) (
 bdO (jc n z) fun v2=>(
 some (v2)
 )
 ) (
 some (false)
 )

def cj(n:Nat)(s:List Int):Option (Int):=
 bdO (aK (α:=Int) (β:=Sum (Unit) (Int)) n (fun again7 x_1=>(
 cdO (decide (x_1<(s.length:Int))) (
 gdO (inR x_1 s.length) (
 bdO (js n (gt s x_1)) fun v10=>(
 cdO v10 (
 some (Sum.inr (x_1))
 ) (
 again7 (Jt (x_1+1))
 )
 )
 )
 ) (
 some (Sum.inl ())
 )
 )) 0) fun o13=>(
 match o13 with
 |.inl _=>(
 some ((-1))
 )
 |.inr (r0)=>(
 some r0
 ))

def bu(n:Nat)(s:List Int):Option (Bool):=
 bdO (cj n s) fun v1=>(
 some (decide (v1>=0))
 )

def fI(n:Nat)(g:ak):Option (Int):=
 bdO (fp n g.Width) fun v1=>(
 cdO (!v1) (
 some (2)
 ) (
 bdO (fp n g.Height) fun v4=>(
 cdO (!v4) (
 some (2)
 ) (
 cdO (decide (g.Step<2)) (
 some (2)
 ) (
 cdO (decide (g.Step>65536)) (
 some (2)
 ) (
 cdO (((g.Step.tmod 2):Int)!=0) (
 some (2)
 ) (
 bdO (jc n g.X0) fun v10=>(
 cdO v10 (
 some (2)
 ) (
 bdO (jc n g.Y0) fun v13=>(
 cdO v13 (
 some (2)
 ) (
 cdO (((g.Z.length:Int):Int)!=(Jt (g.Width*g.Height))) (
 some (4)
 ) (
 bdO (bu n g.Z) fun v17=>(
 cdO v17 (
 some (2)
 ) (
 some (0)
 )
 )
 )
 )
 )
 )
 )
 )
 )
 )
 )
 )
 )
 )

def oe(n:Nat)(z:Int):Option (Bool):=
 cdO (decide (z<(-1048576))) (
 some (true)
 ) (
 some (decide (z>1048576))
 )

def fy(n:Nat)(g:ak):Option (List (A3 Int)):=
 bdO (aK (α:=List (A3 Int)×Int) (β:=List (A3 Int)) n (fun again75 (o_1,x_2)=>(
 cdO (decide (x_2<(Jt (g.Height-1)))) (
 bdO (aK (α:=List (A3 Int)×Int) (β:=List (A3 Int)) n (fun again112 (o_78,x_79)=>(
 cdO (decide (x_79<(Jt (g.Width-1)))) (
 bdO (aK (α:=List (A3 Int)×Int) (β:=List (A3 Int)) n (fun again129 (o_115,x_116)=>(
 cdO (decide (x_116<2)) (
 gdO (inR x_116 ([A3.mk (Jt ((Jt (x_2*g.Width))+x_79)) (Jt ((Jt ((Jt (x_2*g.Width))+x_79))+1)) (Jt ((Jt ((Jt ((Jt (x_2*g.Width))+x_79))+g.Width))+1)),A3.mk (Jt ((Jt (x_2*g.Width))+x_79)) (Jt ((Jt ((Jt ((Jt (x_2*g.Width))+x_79))+g.Width))+1)) (Jt ((Jt ((Jt (x_2*g.Width))+x_79))+g.Width))].length)) (
 gdO (inR (gt [A3.mk (Jt ((Jt (x_2*g.Width))+x_79)) (Jt ((Jt ((Jt (x_2*g.Width))+x_79))+1)) (Jt ((Jt ((Jt ((Jt (x_2*g.Width))+x_79))+g.Width))+1)),A3.mk (Jt ((Jt (x_2*g.Width))+x_79)) (Jt ((Jt ((Jt ((Jt (x_2*g.Width))+x_79))+g.Width))+1)) (Jt ((Jt ((Jt (x_2*g.Width))+x_79))+g.Width))] x_116).e0 g.Z.length) (
 cdO (((gt g.Z (gt [A3.mk (Jt ((Jt (x_2*g.Width))+x_79)) (Jt ((Jt ((Jt (x_2*g.Width))+x_79))+1)) (Jt ((Jt ((Jt ((Jt (x_2*g.Width))+x_79))+g.Width))+1)),A3.mk (Jt ((Jt (x_2*g.Width))+x_79)) (Jt ((Jt ((Jt ((Jt (x_2*g.Width))+x_79))+g.Width))+1)) (Jt ((Jt ((Jt (x_2*g.Width))+x_79))+g.Width))] x_116).e0):Int)!=(-2147483648)) (
 gdO (inR (gt [A3.mk (Jt ((Jt (x_2*g.Width))+x_79)) (Jt ((Jt ((Jt (x_2*g.Width))+x_79))+1)) (Jt ((Jt ((Jt ((Jt (x_2*g.Width))+x_79))+g.Width))+1)),A3.mk (Jt ((Jt (x_2*g.Width))+x_79)) (Jt ((Jt ((Jt ((Jt (x_2*g.Width))+x_79))+g.Width))+1)) (Jt ((Jt ((Jt (x_2*g.Width))+x_79))+g.Width))] x_116).e1 g.Z.length) (
 cdO (((gt g.Z (gt [A3.mk (Jt ((Jt (x_2*g.Width))+x_79)) (Jt ((Jt ((Jt (x_2*g.Width))+x_79))+1)) (Jt ((Jt ((Jt ((Jt (x_2*g.Width))+x_79))+g.Width))+1)),A3.mk (Jt ((Jt (x_2*g.Width))+x_79)) (Jt ((Jt ((Jt ((Jt (x_2*g.Width))+x_79))+g.Width))+1)) (Jt ((Jt ((Jt (x_2*g.Width))+x_79))+g.Width))] x_116).e1):Int)!=(-2147483648)) (
 gdO (inR (gt [A3.mk (Jt ((Jt (x_2*g.Width))+x_79)) (Jt ((Jt ((Jt (x_2*g.Width))+x_79))+1)) (Jt ((Jt ((Jt ((Jt (x_2*g.Width))+x_79))+g.Width))+1)),A3.mk (Jt ((Jt (x_2*g.Width))+x_79)) (Jt ((Jt ((Jt ((Jt (x_2*g.Width))+x_79))+g.Width))+1)) (Jt ((Jt ((Jt (x_2*g.Width))+x_79))+g.Width))] x_116).e2 g.Z.length) (
 cdO (((gt g.Z (gt [A3.mk (Jt ((Jt (x_2*g.Width))+x_79)) (Jt ((Jt ((Jt (x_2*g.Width))+x_79))+1)) (Jt ((Jt ((Jt ((Jt (x_2*g.Width))+x_79))+g.Width))+1)),A3.mk (Jt ((Jt (x_2*g.Width))+x_79)) (Jt ((Jt ((Jt ((Jt (x_2*g.Width))+x_79))+g.Width))+1)) (Jt ((Jt ((Jt (x_2*g.Width))+x_79))+g.Width))] x_116).e2):Int)!=(-2147483648)) (
 gdO (decide ((o_115.length+1)*24<=140737488355328)) (
 gdO (decide (o_115.length+1<=4611686018427387904)) (
 again129 (o_115++[(gt [A3.mk (Jt ((Jt (x_2*g.Width))+x_79)) (Jt ((Jt ((Jt (x_2*g.Width))+x_79))+1)) (Jt ((Jt ((Jt ((Jt (x_2*g.Width))+x_79))+g.Width))+1)),A3.mk (Jt ((Jt (x_2*g.Width))+x_79)) (Jt ((Jt ((Jt ((Jt (x_2*g.Width))+x_79))+g.Width))+1)) (Jt ((Jt ((Jt (x_2*g.Width))+x_79))+g.Width))] x_116)],Jt (x_116+1))
 )
 )
 ) (
 again129 (o_115,Jt (x_116+1))
 )
 )
 ) (
 again129 (o_115,Jt (x_116+1))
 )
 )
 ) (
 again129 (o_115,Jt (x_116+1))
 )
 )
 )
 ) (
 some (o_115)
 )
 )) (o_78,0)) fun o_128=>(
 again112 (o_128,Jt (x_79+1))
 )
 ) (
 some (o_78)
 )
 )) (o_1,0)) fun o_111=>(
 again75 (o_111,Jt (x_2+1))
 )
 ) (
 some (o_1)
 )
 )) ([],0)) fun o_74=>(
 some (o_74)
 )

def dc(n:Nat)(n':Int):Option (List Int):=
 bdO (aK (α:=Int×List Int) (β:=List Int) n (fun again7 (n_1,g_2)=>(
 cdO (decide (n_1>0)) (
 gdO (decide ((g_2.length+1)*4<=140737488355328)) (
 gdO (decide (g_2.length+1<=4611686018427387904)) (
 again7 (aa .u64 (n_1.tdiv 1000000000),g_2++[aa .u32 (n_1.tmod 1000000000)])
 )
 )
 ) (
 some (g_2)
 )
 )) (n',[])) fun g_6=>(
 some (g_6)
 )

def ei(n:Nat)(g:List Int):Option (List Int):=
 bdO (aK (α:=List Int) (β:=List Int) n (fun again7 g_1=>(
 cdO (decide ((g_1.length:Int)>0)) (
 gdO (inR (Jt ((g_1.length:Int)-1)) g_1.length) (
 cdO (((gt g_1 (Jt ((g_1.length:Int)-1))):Int)==0) (
 gdO (inS 0 (Jt ((g_1.length:Int)-1)) g_1.length) (
 again7 ((g_1.drop (0:Int).toNat).take ((Jt ((g_1.length:Int)-1)).toNat-(0:Int).toNat))
 )
 ) (
 some (g_1)
 )
 )
 ) (
 some (g_1)
 )
 )) g) fun g_6=>(
 some (g_6)
 )

def bO(n:Nat)(negative:Bool)(g:List Int):Option (ag):=
 bdO (ei n g) fun v1=>(
 cdO (((v1.length:Int):Int)==0) (
 some (ag.mk false [])
 ) (
 some (ag.mk negative v1)
 )
 )

def dw(n:Nat)(n':Int):Option (ag):=
 cdO (decide (n'<0)) (
 bdO (dc n (aa .u64 (0-(aa .u64 n')))) fun v2=>(
 bdO (bO n true v2) fun v4=>(
 some (v4)
 )
 )
 ) (
 bdO (dc n (aa .u64 n')) fun v6=>(
 bdO (bO n false v6) fun v8=>(
 some (v8)
 )
 )
 )

def aY(n:Nat)(n':Int):Option (ae):=
 bdO (dw n n') fun v1=>(
 bdO (dw n 1) fun v3=>(
 some (ae.mk v1 v3)
 )
 )

def dW(n:Nat)(k:Int)(p:Int)(p':Int)(p'':Int)(I3:Int)(Hx:Int)(pW:List Int)(tH:Int):Option (Int):=
 gdO (inR k pW.length) (
 some (Jt ((gt pW k)-tH))
 )

def nm(n:Nat)(g:Int):Option (Bool):=
 some (decide (g>=1000000000))

def bE(n:Nat)(s:List Int):Option (Int):=
 bdO (aK (α:=Int) (β:=Sum (Unit) (Int)) n (fun again7 x_1=>(
 cdO (decide (x_1<(s.length:Int))) (
 gdO (inR x_1 s.length) (
 bdO (nm n (gt s x_1)) fun v10=>(
 cdO v10 (
 some (Sum.inr (x_1))
 ) (
 again7 (Jt (x_1+1))
 )
 )
 )
 ) (
 some (Sum.inl ())
 )
 )) 0) fun o13=>(
 match o13 with
 |.inl _=>(
 some ((-1))
 )
 |.inr (r0)=>(
 some r0
 ))

def bh(n:Nat)(s:List Int):Option (Bool):=
 bdO (bE n s) fun v1=>(
 some (decide (v1>=0))
 )

def eR(n:Nat)(x':ag):Option (Bool):=
 cdO (((x'.Groups.length:Int):Int)==0) (
 some (!x'.Negative)
 ) (
 gdO (inR (Jt ((x'.Groups.length:Int)-1)) x'.Groups.length) (
 cdO (((gt x'.Groups (Jt ((x'.Groups.length:Int)-1))):Int)!=0) (
 bdO (bh n x'.Groups) fun v4=>(
 some (!v4)
 )
 ) (
 some (false)
 )
 )
 )

def bz(n:Nat)(x':ag):Option (List Int):=
 bdO (eR n x') fun v1=>(
 cdO (!v1) (
 some ([])
 ) (
 some (x'.Groups)
 )
 )

def dJ(n:Nat)(x':ag):Option (Int):=
 bdO (bz n x') fun v1=>(
 cdO (((v1.length:Int):Int)==0) (
 some (0)
 ) (
 cdO x'.Negative (
 some ((-1))
 ) (
 some (1)
 )
 )
 )




def jF(n:Nat)(a:List Int)(b:List Int):Option (List Int):=
 gdO (decide (0<=Jt ((a.length:Int)+(b.length:Int)))) (
 gdO (decide ((4:Int)*(Jt ((a.length:Int)+(b.length:Int)))<=281474976710656)) (
 gdO (decide (Jt ((a.length:Int)+(b.length:Int))<=9223372036854775807)) (
 bdO (aK (α:=List Int×Int) (β:=List Int) n (fun again25 (o_4,x_5)=>(
 cdO (decide (x_5<(a.length:Int))) (
 gdO (inR x_5 a.length) (
 bdO (aK (α:=List Int×Int×Int) (β:=List Int×Int) n (fun again36 (o_28,c_29,x_30)=>(
 cdO (decide (x_30<(b.length:Int))) (
 gdO (inR x_30 b.length) (
 gdO (inR (Jt (x_5+x_30)) o_28.length) (
 again36 (o_28.set (Jt (x_5+x_30)).toNat (aa .u32 ((aa .u64 ((aa .u64 ((aa .u64 (gt o_28 (Jt (x_5+x_30))))+(aa .u64 ((aa .u64 (gt a x_5))*(aa .u64 (gt b x_30))))))+c_29)).tmod 1000000000)),aa .u64 ((aa .u64 ((aa .u64 ((aa .u64 (gt o_28 (Jt (x_5+x_30))))+(aa .u64 ((aa .u64 (gt a x_5))*(aa .u64 (gt b x_30))))))+c_29)).tdiv 1000000000),Jt (x_30+1))
 )
 )
 ) (
 some ((o_28,c_29))
 )
 )) (o_4,0,0)) fun o40=>(
 match o40 with
 |(o_34,c_35)=>(
 gdO (inR (Jt (x_5+(b.length:Int))) o_34.length) (
 again25 (o_34.set (Jt (x_5+(b.length:Int))).toNat (aa .u32 c_35),Jt (x_5+1))
 )
 ))
 )
 ) (
 some (o_4)
 )
 )) (List.replicate (Jt ((a.length:Int)+(b.length:Int))).toNat ((0:Int):Int),0)) fun o_24=>(
 bdO (ei n o_24) fun v47=>(
 some (v47)
 )
 )
 )
 )
 )

def ot(n:Nat)(g:List Int):Option (List Int):=
 bdO (aK (α:=List Int) (β:=List Int) n (fun again22 g_16=>(
 cdO (decide ((g_16.length:Int)>0)) (
 gdO (inR (Jt ((g_16.length:Int)-1)) g_16.length) (
 cdO (((gt g_16 (Jt ((g_16.length:Int)-1))):Int)==0) (
 gdO (inS 0 (Jt ((g_16.length:Int)-1)) g_16.length) (
 again22 (g_16.take (Jt ((g_16.length:Int)-1)).toNat)
 )
 ) (
 some (g_16)
 )
 )
 ) (
 some (g_16)
 )
 )) g) fun g_21=>(
 some (g_21)
 )

def jt(n:Nat)(a:List Int)(b:List Int):Option (List Int):=
 gdO (decide (0<=Jt ((a.length:Int)+(b.length:Int)))) (
 gdO (decide ((4:Int)*(Jt ((a.length:Int)+(b.length:Int)))<=281474976710656)) (
 gdO (decide (Jt ((a.length:Int)+(b.length:Int))<=9223372036854775807)) (
 bdO (aK (α:=List Int×Int) (β:=List Int) n (fun again74 (o_53,x_54)=>(
 cdO (decide (x_54<(a.length:Int))) (
 gdO (inR x_54 a.length) (
 bdO (aK (α:=List Int×Int×Int) (β:=List Int×Int) n (fun again85 (o_77,c_78,x_79)=>(
 cdO (decide (x_79<(b.length:Int))) (
 gdO (inR x_79 b.length) (
 gdO (inR (Jt (x_54+x_79)) o_77.length) (
 again85 (o_77.set (Jt (x_54+x_79)).toNat (aa .u32 ((aa .u64 ((aa .u64 ((aa .u64 (gt o_77 (Jt (x_54+x_79))))+(aa .u64 ((aa .u64 (gt a x_54))*(aa .u64 (gt b x_79))))))+c_78)).tmod 1000000000)),aa .u64 ((aa .u64 ((aa .u64 ((aa .u64 (gt o_77 (Jt (x_54+x_79))))+(aa .u64 ((aa .u64 (gt a x_54))*(aa .u64 (gt b x_79))))))+c_78)).tdiv 1000000000),Jt (x_79+1))
 )
 )
 ) (
 some ((o_77,c_78))
 )
 )) (o_53,0,0)) fun o89=>(
 match o89 with
 |(o_83,c_84)=>(
 gdO (inR (Jt (x_54+(b.length:Int))) o_83.length) (
 again74 (o_83.set (Jt (x_54+(b.length:Int))).toNat (aa .u32 c_84),Jt (x_54+1))
 )
 ))
 )
 ) (
 some (o_53)
 )
 )) (List.replicate (Jt ((a.length:Int)+(b.length:Int))).toNat ((0:Int):Int),0)) fun o_73=>(
 bdO (ot n o_73) fun v96=>(
 some (v96)
 )
 )
 )
 )
 )

def gT(n:Nat)(g:List Int)(i:Int):Option (Int):=
 cdO (decide (i<(g.length:Int))) (
 gdO (inR i g.length) (
 some ((gt g i))
 )
 ) (
 some (0)
 )

def jg(n:Nat)(a:List Int)(b:List Int):Option (List Int×List Int):=
 gdO (inR (Jt ((b.length:Int)-1)) b.length) (
 gdO (!decide (aa .u64 ((aa .u64 (gt b (Jt ((b.length:Int)-1))))+1)=0)) (
 bdO (jt n a [aa .u32 (aa .u64 ((1000000000:Int).tdiv (aa .u64 ((aa .u64 (gt b (Jt ((b.length:Int)-1))))+1))))]) fun v3=>(
 bdO (jt n b [aa .u32 (aa .u64 ((1000000000:Int).tdiv (aa .u64 ((aa .u64 (gt b (Jt ((b.length:Int)-1))))+1))))]) fun v5=>(
 gdO (decide ((v3.length+1)*4<=140737488355328)) (
 gdO (decide (v3.length+1<=4611686018427387904)) (
 bdO (α:=List Int) (
 cdO (decide (((v3++[(0:Int)]).length:Int)<=(a.length:Int))) (
 gdO (decide (((v3++[(0:Int)]).length+1)*4<=140737488355328)) (
 gdO (decide ((v3++[(0:Int)]).length+1<=4611686018427387904)) (
 some ((v3++[(0:Int)])++[(0:Int)])
 )
 )
 ) (
 some (v3++[(0:Int)])
 )
 ) fun u_9=>(
 gdO (decide (0<=Jt ((u_9.length:Int)-(v5.length:Int)))) (
 gdO (decide ((4:Int)*(Jt ((u_9.length:Int)-(v5.length:Int)))<=281474976710656)) (
 gdO (decide (Jt ((u_9.length:Int)-(v5.length:Int))<=9223372036854775807)) (
 bdO (aK (α:=List Int×List Int×Int) (β:=List Int×List Int) n (fun again129 (q_19,u_20,j_21)=>(
 cdO (decide (j_21>=0)) (
 bdO (gT n u_20 (Jt (j_21+(v5.length:Int)))) fun v132=>(
 gdO (inR (Jt ((Jt (j_21+(v5.length:Int)))-1)) u_20.length) (
 gdO (inR (Jt ((v5.length:Int)-1)) v5.length) (
 gdO (!decide (aa .u64 (gt v5 (Jt ((v5.length:Int)-1)))=0)) (
 bdO (aK (α:=Int×Int) (β:=Int) n (fun again165 (g_156,r_157)=>(
 cdO (decide (g_156>=1000000000)) (
 cdO (decide ((aa .u64 (r_157+(aa .u64 (gt v5 (Jt ((v5.length:Int)-1))))))>=1000000000)) (
 some (aa .u64 (g_156-1))
 ) (
 again165 (aa .u64 (g_156-1),aa .u64 (r_157+(aa .u64 (gt v5 (Jt ((v5.length:Int)-1))))))
 )
 ) (
 gdO (inR (Jt ((v5.length:Int)-2)) v5.length) (
 gdO (inR (Jt ((Jt (j_21+(v5.length:Int)))-2)) u_20.length) (
 cdO (decide ((aa .u64 (g_156*(aa .u64 (gt v5 (Jt ((v5.length:Int)-2))))))>(aa .u64 ((aa .u64 (r_157*1000000000))+(aa .u64 (gt u_20 (Jt ((Jt (j_21+(v5.length:Int)))-2)))))))) (
 cdO (decide ((aa .u64 (r_157+(aa .u64 (gt v5 (Jt ((v5.length:Int)-1))))))>=1000000000)) (
 some (aa .u64 (g_156-1))
 ) (
 again165 (aa .u64 (g_156-1),aa .u64 (r_157+(aa .u64 (gt v5 (Jt ((v5.length:Int)-1))))))
 )
 ) (
 some (g_156)
 )
 )
 )
 )
 )) (aa .u64 ((aa .u64 ((aa .u64 ((aa .u64 v132)*1000000000))+(aa .u64 (gt u_20 (Jt ((Jt (j_21+(v5.length:Int)))-1)))))).tdiv (aa .u64 (gt v5 (Jt ((v5.length:Int)-1))))),(aa .u64 ((aa .u64 ((aa .u64 v132)*1000000000))+(aa .u64 (gt u_20 (Jt ((Jt (j_21+(v5.length:Int)))-1)))))).tmod (aa .u64 (gt v5 (Jt ((v5.length:Int)-1)))))) fun g_164=>(
 bdO (aK (α:=List Int×Int×Int×Int) (β:=List Int×Int×Int) n (fun again205 (u_194,b_195,c_196,x_197)=>(
 cdO (decide (x_197<(v5.length:Int))) (
 gdO (inR x_197 v5.length) (
 gdO (inR (Jt (x_197+j_21)) u_194.length) (
 cdO (decide ((Jt ((Jt ((Jt (gt u_194 (Jt (x_197+j_21))))-b_195))-(Jt ((aa .u64 ((aa .u64 (g_164*(aa .u64 (gt v5 x_197))))+c_196)).tmod 1000000000))))<0)) (
 again205 (u_194.set (Jt (x_197+j_21)).toNat (aa .u32 (Jt ((Jt ((Jt ((Jt (gt u_194 (Jt (x_197+j_21))))-b_195))-(Jt ((aa .u64 ((aa .u64 (g_164*(aa .u64 (gt v5 x_197))))+c_196)).tmod 1000000000))))+1000000000))),1,aa .u64 ((aa .u64 ((aa .u64 (g_164*(aa .u64 (gt v5 x_197))))+c_196)).tdiv 1000000000),Jt (x_197+1))
 ) (
 again205 (u_194.set (Jt (x_197+j_21)).toNat (aa .u32 (Jt ((Jt ((Jt (gt u_194 (Jt (x_197+j_21))))-b_195))-(Jt ((aa .u64 ((aa .u64 (g_164*(aa .u64 (gt v5 x_197))))+c_196)).tmod 1000000000))))),0,aa .u64 ((aa .u64 ((aa .u64 (g_164*(aa .u64 (gt v5 x_197))))+c_196)).tdiv 1000000000),Jt (x_197+1))
 )
 )
 )
 ) (
 some ((u_194,b_195,c_196))
 )
 )) (u_20,0,0,0)) fun o210=>(
 match o210 with
 |(u_202,b_203,c_204)=>(
 gdO (inR (Jt (j_21+(v5.length:Int))) u_202.length) (
 cdO (decide ((Jt ((Jt ((Jt (gt u_202 (Jt (j_21+(v5.length:Int)))))-b_203))-(Jt c_204)))<0)) (
 bdO (aK (α:=List Int×Int×Int) (β:=List Int×Int) n (fun again224 (u_215,c_216,x_217)=>(
 cdO (decide (x_217<(v5.length:Int))) (
 gdO (inR (Jt (x_217+j_21)) u_215.length) (
 gdO (inR x_217 v5.length) (
 cdO (decide ((aa .u32 ((aa .u32 ((gt u_215 (Jt (x_217+j_21)))+(gt v5 x_217)))+c_216))>=1000000000)) (
 again224 (u_215.set (Jt (x_217+j_21)).toNat (aa .u32 ((aa .u32 ((aa .u32 ((gt u_215 (Jt (x_217+j_21)))+(gt v5 x_217)))+c_216))-1000000000)),1,Jt (x_217+1))
 ) (
 again224 (u_215.set (Jt (x_217+j_21)).toNat (aa .u32 ((aa .u32 ((gt u_215 (Jt (x_217+j_21)))+(gt v5 x_217)))+c_216)),0,Jt (x_217+1))
 )
 )
 )
 ) (
 some ((u_215,c_216))
 )
 )) (u_202.set (Jt (j_21+(v5.length:Int))).toNat (aa .u32 (Jt ((Jt ((Jt ((Jt (gt u_202 (Jt (j_21+(v5.length:Int)))))-b_203))-(Jt c_204)))+1000000000))),0,0)) fun o229=>(
 match o229 with
 |(u_222,c_223)=>(
 gdO (inR (Jt (j_21+(v5.length:Int))) u_222.length) (
 gdO (inR j_21 q_19.length) (
 again129 (q_19.set j_21.toNat (aa .u32 (aa .u64 (g_164-1))),u_222.set (Jt (j_21+(v5.length:Int))).toNat ((aa .u32 ((gt u_222 (Jt (j_21+(v5.length:Int))))+c_223)).tmod 1000000000),Jt (j_21-1))
 )
 )
 ))
 ) (
 gdO (inR j_21 q_19.length) (
 again129 (q_19.set j_21.toNat (aa .u32 g_164),u_202.set (Jt (j_21+(v5.length:Int))).toNat (aa .u32 (Jt ((Jt ((Jt (gt u_202 (Jt (j_21+(v5.length:Int)))))-b_203))-(Jt c_204)))),Jt (j_21-1))
 )
 )
 )
 ))
 )
 )
 )
 )
 )
 ) (
 some ((q_19,u_20))
 )
 )) (List.replicate (Jt ((u_9.length:Int)-(v5.length:Int))).toNat ((0:Int):Int),u_9,Jt ((Jt ((u_9.length:Int)-(v5.length:Int)))-1))) fun o235=>(
 match o235 with
 |(q_127,u_128)=>(
 gdO (inS 0 (v5.length:Int) u_128.length) (
 bdO (ei n (u_128.take (v5.length:Int).toNat)) fun v239=>(
 bdO (fH n v239 (aa .u32 (aa .u64 ((1000000000:Int).tdiv (aa .u64 ((aa .u64 (gt b (Jt ((b.length:Int)-1))))+1)))))) fun v241=>(
 bdO (ei n q_127) fun v243=>(
 some ((v243,v241.1))
 )
 )
 )
 )
 ))
 )
 )
 )
 )
 )
 )
 )
 )
 )
 )

def iq(n:Nat)(a:List Int)(b:List Int):Option (List Int×List Int):=
 bdO (gh n a b) fun v1=>(
 cdO (decide (v1<0)) (
 some (([],a))
 ) (
 bdO (ie n a) fun v4=>(
 bdO (ie n b) fun v6=>(
 cdO v4.2 (
 cdO v6.2 (
 gdO (!decide (v6.1=0)) (
 bdO (dc n (aa .u64 (v4.1.tdiv v6.1))) fun v11=>(
 bdO (dc n (v4.1.tmod v6.1)) fun v13=>(
 some ((v11,v13))
 )
 )
 )
 ) (
 cdO (((b.length:Int):Int)==1) (
 gdO (inR 0 b.length) (
 bdO (fH n a (gt b 0)) fun v17=>(
 bdO (dc n (aa .u64 v17.2)) fun v19=>(
 some ((v17.1,v19))
 )
 )
 )
 ) (
 bdO (jg n a b) fun v21=>(
 some ((v21.1,v21.2))
 )
 )
 )
 ) (
 cdO (((b.length:Int):Int)==1) (
 gdO (inR 0 b.length) (
 bdO (fH n a (gt b 0)) fun v25=>(
 bdO (dc n (aa .u64 v25.2)) fun v27=>(
 some ((v25.1,v27))
 )
 )
 )
 ) (
 bdO (jg n a b) fun v29=>(
 some ((v29.1,v29.2))
 )
 )
 )
 )
 )
 )
 )

def cw(n:Nat)(s:List Int):Option (List Int):=
 gdO (decide ((0+s.length)*4<=140737488355328)) (
 gdO (decide (0+s.length<=4611686018427387904)) (
 some (s)
 )
 )

def iZ(n:Nat)(x':ag)(y:ag):Option (ag):=
 bdO (bz n x') fun v1=>(
 bdO (bz n y) fun v3=>(
 bdO (aK (α:=List Int×List Int) (β:=Sum (List Int) (ag)) n (fun again34 (a_5,b_6)=>(
 cdO (decide ((b_6.length:Int)>0)) (
 bdO (ie n a_5) fun v36=>(
 bdO (ie n b_6) fun v38=>(
 cdO v36.2 (
 cdO v38.2 (
 bdO (aK (α:=Int×Int) (β:=Int) n (fun again47 (m_42,n_43)=>(
 cdO (decide (n_43>0)) (
 gdO (!decide (n_43=0)) (
 again47 (n_43,m_42.tmod n_43)
 )
 ) (
 some (m_42)
 )
 )) (v36.1,v38.1)) fun m_46=>(
 bdO (dc n m_46) fun v53=>(
 bdO (bO n false v53) fun v55=>(
 some (Sum.inr (v55))
 )
 )
 )
 ) (
 bdO (iq n a_5 b_6) fun v57=>(
 again34 (b_6,v57.2)
 )
 )
 ) (
 bdO (iq n a_5 b_6) fun v59=>(
 again34 (b_6,v59.2)
 )
 )
 )
 )
 ) (
 some (Sum.inl a_5)
 )
 )) (v1,v3)) fun o61=>(
 match o61 with
 |.inl a_33=>(
 bdO (cw n a_33) fun v64=>(
 bdO (bO n false v64) fun v66=>(
 some (v66)
 )
 )
 )
 |.inr (r0)=>(
 some r0
 ))
 )
 )

def cmp_isNaN_int(n:Nat)(x':Int):Option (Bool):=
 some ((x':Int)!=x')

def jq(n:Nat)(x':Int)(y:Int):Option (Int):=
 bdO (cmp_isNaN_int n x') fun v1=>(
 bdO (cmp_isNaN_int n y) fun v3=>(
 cdO v1 (
 cdO v3 (
 some (0)
 ) (
 some ((-1))
 )
 ) (
 cdO v3 (
 some (1)
 ) (
 cdO (decide (x'<y)) (
 some ((-1))
 ) (
 cdO (decide (x'>y)) (
 some (1)
 ) (
 some (0)
 )
 )
 )
 )
 )
 )

def hZ(n:Nat)(x':ag)(y:ag):Option (Int):=
 bdO (dJ n x') fun v1=>(
 bdO (dJ n y) fun v3=>(
 cdO ((v1:Int)!=v3) (
 bdO (jq n v1 v3) fun v6=>(
 some (v6)
 )
 ) (
 bdO (bz n x') fun v8=>(
 bdO (bz n y) fun v10=>(
 bdO (gh n v8 v10) fun v12=>(
 cdO x'.Negative (
 some (Jt (0-v12))
 ) (
 some (v12)
 )
 )
 )
 )
 )
 )
 )

def jT(n:Nat)(x':ae):Option (Bool):=
 bdO (eR n x'.Num) fun v1=>(
 cdO (!v1) (
 some (false)
 ) (
 bdO (eR n x'.Den) fun v4=>(
 cdO (!v4) (
 some (false)
 ) (
 bdO (dJ n x'.Den) fun v7=>(
 cdO (decide (v7<=0)) (
 some (false)
 ) (
 bdO (iZ n x'.Num x'.Den) fun v10=>(
 bdO (dw n 1) fun v12=>(
 bdO (hZ n v10 v12) fun v14=>(
 some ((v14:Int)==0)
 )
 )
 )
 )
 )
 )
 )
 )
 )

def eI(n:Nat)(x':ag):Option (ag):=
 bdO (bz n x') fun v1=>(
 bdO (cw n v1) fun v3=>(
 bdO (bO n (!x'.Negative) v3) fun v5=>(
 some (v5)
 )
 )
 )

def jr(n:Nat)(x':ae):Option (ae):=
 bdO (eI n x'.Num) fun v1=>(
 bdO (eI n v1) fun v3=>(
 bdO (eI n x'.Den) fun v5=>(
 bdO (eI n v5) fun v7=>(
 some (ae.mk v3 v7)
 )
 )
 )
 )

def bB(n:Nat)(x':ae):Option (ae):=
 bdO (jT n x') fun v1=>(
 cdO v1 (
 bdO (jr n x') fun v4=>(
 some (v4)
 )
 ) (
 bdO (aY n 0) fun v6=>(
 some (v6)
 )
 )
 )

def nk(n:Nat)(x':Int):Option (Int):=
 cdO (decide (x'>=4294967296)) (
 cdO (decide ((x'.fdiv (2^32))>=65536)) (
 cdO (decide (((x'.fdiv (2^32)).fdiv (2^16))>=256)) (
 bdO (some (((x'.fdiv (2^32)).fdiv (2^16)).fdiv (2^8))) fun w4=>(
 gdO (inR (aa .u8 w4) 256) (
 some (Jt (56+(Jt (iW gD (aa .u8 w4)))))
 )
 )
 ) (
 gdO (inR (aa .u8 ((x'.fdiv (2^32)).fdiv (2^16))) 256) (
 some (Jt (48+(Jt (iW gD (aa .u8 ((x'.fdiv (2^32)).fdiv (2^16)))))))
 )
 )
 ) (
 cdO (decide ((x'.fdiv (2^32))>=256)) (
 gdO (inR (aa .u8 ((x'.fdiv (2^32)).fdiv (2^8))) 256) (
 some (Jt (40+(Jt (iW gD (aa .u8 ((x'.fdiv (2^32)).fdiv (2^8)))))))
 )
 ) (
 gdO (inR (aa .u8 (x'.fdiv (2^32))) 256) (
 some (Jt (32+(Jt (iW gD (aa .u8 (x'.fdiv (2^32)))))))
 )
 )
 )
 ) (
 cdO (decide (x'>=65536)) (
 cdO (decide ((x'.fdiv (2^16))>=256)) (
 gdO (inR (aa .u8 ((x'.fdiv (2^16)).fdiv (2^8))) 256) (
 some (Jt (24+(Jt (iW gD (aa .u8 ((x'.fdiv (2^16)).fdiv (2^8)))))))
 )
 ) (
 gdO (inR (aa .u8 (x'.fdiv (2^16))) 256) (
 some (Jt (16+(Jt (iW gD (aa .u8 (x'.fdiv (2^16)))))))
 )
 )
 ) (
 cdO (decide (x'>=256)) (
 gdO (inR (aa .u8 (x'.fdiv (2^8))) 256) (
 some (Jt (8+(Jt (iW gD (aa .u8 (x'.fdiv (2^8)))))))
 )
 ) (
 gdO (inR (aa .u8 x') 256) (
 some (Jt (0+(Jt (iW gD (aa .u8 x')))))
 )
 )
 )
 )

def pe(n:Nat)(x':Int):Option (Int):=
 bdO (nk n x') fun v1=>(
 some (v1)
 )

def bF(n:Nat)(x':ag)(y:ag):Option (ag):=
 bdO (bz n x') fun v1=>(
 bdO (bz n y) fun v3=>(
 bdO (jF n v1 v3) fun v5=>(
 bdO (bO n (x'.Negative !=y.Negative) v5) fun v7=>(
 some (v7)
 )
 )
 )
 )

def iU(n:Nat)(x':ae)(y:ae):Option (Int):=
 bdO (bB n x') fun v1=>(
 bdO (bB n y) fun v3=>(
 bdO (bF n v1.Num v3.Den) fun v5=>(
 bdO (bF n v3.Num v1.Den) fun v7=>(
 bdO (hZ n v5 v7) fun v9=>(
 some (v9)
 )
 )
 )
 )
 )

def aP(n:Nat)(data:List ae)(a:Int)(b:Int):Option (List ae):=
 bdO (aK (α:=List ae×Int) (β:=List ae) n (fun again72 (d_49,i_50)=>(
 cdO (decide (i_50<b)) (
 bdO (aK (α:=List ae×Int) (β:=List ae) n (fun again83 (d_74,j_75)=>(
 cdO (decide (j_75>a)) (
 gdO (inR j_75 d_74.length) (
 gdO (inR (Jt (j_75-1)) d_74.length) (
 bdO (iU n (gt d_74 j_75) (gt d_74 (Jt (j_75-1)))) fun v87=>(
 cdO (decide (v87<0)) (
 again83 ((d_74.set j_75.toNat (gt d_74 (Jt (j_75-1)))).set (Jt (j_75-1)).toNat (gt d_74 j_75),Jt (j_75-1))
 ) (
 some (d_74)
 )
 )
 )
 )
 ) (
 some (d_74)
 )
 )) (d_49,i_50)) fun d_82=>(
 again72 (d_82,Jt (i_50+1))
 )
 ) (
 some (d_49)
 )
 )) (data,Jt (a+1))) fun d_71=>(
 some (d_71)
 )

def bl(n:Nat)(data:List ae)(a:Int)(b:Int)(limit:Int):Option (List ae):=
 bdO (aK (α:=Int×Int×Int×Bool×Bool) (β:=List ae) n (fun again31 (a_21,b_22,l_23,w_24,w_25)=>(
 gdO ((decide ((Jt (b_22-a_21))<=12))) (
 bdO (aP n data a_21 b_22) fun v33=>(
 some (v33)
 )
 )
 )) (a,b,limit,true,true)) fun r0=>(
 some r0
 )

def aO(n:Nat)(x':List ae):Option (List ae):=
 bdO (pe n (aa .u64 (x'.length:Int))) fun v6=>(
 bdO (bl n x' 0 (x'.length:Int) v6) fun v8=>(
 some (v8)
 )
 )

def fD(n:Nat)(n':ag):Option (ag):=
 bdO (eR n n') fun v1=>(
 cdO v1 (
 some (n')
 ) (
 bdO (dw n 0) fun v4=>(
 some (v4)
 )
 )
 )

def ku(n:Nat)(a:List Int)(b:List Int):Option (List Int):=
 gdO (decide (0<=Jt ((mx (a.length:Int) (b.length:Int))+1))) (
 gdO (decide ((4:Int)*(Jt ((mx (a.length:Int) (b.length:Int))+1))<=281474976710656)) (
 gdO (decide (Jt ((mx (a.length:Int) (b.length:Int))+1)<=9223372036854775807)) (
 bdO (aK (α:=List Int×Int×Int) (β:=List Int) n (fun again16 (o_4,c_5,x_6)=>(
 cdO (decide (x_6<((List.replicate (Jt ((mx (a.length:Int) (b.length:Int))+1)).toNat ((0:Int):Int)).length:Int))) (
 bdO (gT n a x_6) fun v18=>(
 bdO (gT n b x_6) fun v20=>(
 cdO (decide ((aa .u32 ((aa .u32 (v18+v20))+c_5))>=1000000000)) (
 gdO (inR x_6 o_4.length) (
 again16 (o_4.set x_6.toNat (aa .u32 ((aa .u32 ((aa .u32 (v18+v20))+c_5))-1000000000)),1,Jt (x_6+1))
 )
 ) (
 gdO (inR x_6 o_4.length) (
 again16 (o_4.set x_6.toNat (aa .u32 ((aa .u32 (v18+v20))+c_5)),0,Jt (x_6+1))
 )
 )
 )
 )
 ) (
 some (o_4)
 )
 )) (List.replicate (Jt ((mx (a.length:Int) (b.length:Int))+1)).toNat ((0:Int):Int),0,0)) fun o_15=>(
 bdO (ei n o_15) fun v28=>(
 some (v28)
 )
 )
 )
 )
 )

def iF(n:Nat)(a:List Int)(b:List Int):Option (List Int):=
 gdO (decide (0<=(a.length:Int))) (
 gdO (decide ((4:Int)*(a.length:Int)<=281474976710656)) (
 gdO (decide ((a.length:Int)<=9223372036854775807)) (
 bdO (aK (α:=List Int×Int×Int) (β:=List Int) n (fun again15 (o_4,b_5,x_6)=>(
 cdO (decide (x_6<((List.replicate (a.length:Int).toNat ((0:Int):Int)).length:Int))) (
 bdO (gT n b x_6) fun v17=>(
 gdO (inR x_6 a.length) (
 cdO (decide ((gt a x_6)<(aa .u32 (v17+b_5)))) (
 gdO (inR x_6 o_4.length) (
 again15 (o_4.set x_6.toNat (aa .u32 ((aa .u32 ((gt a x_6)+1000000000))-(aa .u32 (v17+b_5)))),1,Jt (x_6+1))
 )
 ) (
 gdO (inR x_6 o_4.length) (
 again15 (o_4.set x_6.toNat (aa .u32 ((gt a x_6)-(aa .u32 (v17+b_5)))),0,Jt (x_6+1))
 )
 )
 )
 )
 ) (
 some (o_4)
 )
 )) (List.replicate (a.length:Int).toNat ((0:Int):Int),0,0)) fun o_14=>(
 bdO (ei n o_14) fun v26=>(
 some (v26)
 )
 )
 )
 )
 )

def dE(n:Nat)(x':ag)(y:ag):Option (ag×ag×Int):=
 bdO (bz n x') fun v1=>(
 bdO (bz n y) fun v3=>(
 cdO (((v3.length:Int):Int)==0) (
 some ((ag.mk false [],ag.mk false [],14))
 ) (
 bdO (iq n v1 v3) fun v6=>(
 bdO (cw n v6.2) fun v8=>(
 cdO (decide ((v8.length:Int)>0)) (
 cdO (x'.Negative !=y.Negative) (
 bdO (ku n v6.1 [(1:Int)]) fun v12=>(
 bdO (iF n v3 v8) fun v14=>(
 bdO (bO n true v12) fun v16=>(
 bdO (bO n y.Negative v14) fun v18=>(
 some ((v16,v18,0))
 )
 )
 )
 )
 ) (
 bdO (bO n false v6.1) fun v20=>(
 bdO (bO n y.Negative v8) fun v22=>(
 some ((v20,v22,0))
 )
 )
 )
 ) (
 bdO (bO n (x'.Negative !=y.Negative) v6.1) fun v24=>(
 bdO (bO n y.Negative v8) fun v26=>(
 some ((v24,v26,0))
 )
 )
 )
 )
 )
 )
 )
 )

def eH(n:Nat)(num:ag)(den:ag):Option (ae):=
 bdO (dJ n den) fun v1=>(
 cdO (decide (v1<0)) (
 bdO (eI n num) fun v4=>(
 bdO (eI n den) fun v6=>(
 bdO (iZ n v4 v6) fun v8=>(
 bdO (dE n v4 v8) fun v10=>(
 bdO (dE n v6 v8) fun v12=>(
 some (ae.mk v10.1 v12.1)
 )
 )
 )
 )
 )
 ) (
 bdO (iZ n num den) fun v14=>(
 bdO (dE n num v14) fun v16=>(
 bdO (dE n den v14) fun v18=>(
 some (ae.mk v16.1 v18.1)
 )
 )
 )
 )
 )

def lK(n:Nat)(num:ag)(den:ag):Option (ae×Int):=
 bdO (fD n num) fun v1=>(
 bdO (fD n den) fun v3=>(
 bdO (dJ n v3) fun v5=>(
 cdO ((v5:Int)==0) (
 some ((ae.mk (ag.mk false []) (ag.mk false []),14))
 ) (
 bdO (eH n v1 v3) fun v8=>(
 some ((v8,0))
 )
 )
 )
 )
 )

def gC(n:Nat)(n':Int)(d:Int):Option (ae×Int):=
 bdO (dw n n') fun v1=>(
 bdO (dw n d) fun v3=>(
 bdO (lK n v1 v3) fun v5=>(
 some ((v5.1,v5.2))
 )
 )
 )

def kb(n:Nat)(negative:Bool)(a:List Int)(other:Bool)(b:List Int):Option (ag):=
 cdO (negative==other) (
 bdO (ku n a b) fun v2=>(
 bdO (bO n negative v2) fun v4=>(
 some (v4)
 )
 )
 ) (
 bdO (gh n a b) fun v6=>(
 cdO (decide (v6>=0)) (
 bdO (iF n a b) fun v9=>(
 bdO (bO n negative v9) fun v11=>(
 some (v11)
 )
 )
 ) (
 bdO (iF n b a) fun v13=>(
 bdO (bO n other v13) fun v15=>(
 some (v15)
 )
 )
 )
 )
 )

def gB(n:Nat)(x':ag)(y:ag):Option (ag):=
 bdO (bz n x') fun v1=>(
 bdO (bz n y) fun v3=>(
 bdO (kb n x'.Negative v1 y.Negative v3) fun v5=>(
 some (v5)
 )
 )
 )

def bU(n:Nat)(x':ae)(y:ae):Option (ae):=
 bdO (bB n x') fun v1=>(
 bdO (bB n y) fun v3=>(
 bdO (bF n v1.Num v3.Den) fun v5=>(
 bdO (bF n v3.Num v1.Den) fun v7=>(
 bdO (gB n v5 v7) fun v9=>(
 bdO (bF n v1.Den v3.Den) fun v11=>(
 bdO (eH n v9 v11) fun v13=>(
 some (v13)
 )
 )
 )
 )
 )
 )
 )

def lL(n:Nat)(l:List ae):Option (ae):=
 bdO (aY n 0) fun v1=>(
 bdO (aK (α:=Bool×List Int×Bool×List Int×Int) (β:=Bool×List Int×Bool×List Int) n (fun again16 (s_3,s_4,s_5,s_6,x_7)=>(
 cdO (decide (x_7<(l.length:Int))) (
 gdO (inR x_7 l.length) (
 bdO (bU n (ae.mk (ag.mk s_3 s_4) (ag.mk s_5 s_6)) (gt l x_7)) fun v19=>(
 again16 (v19.Num.Negative,v19.Num.Groups,v19.Den.Negative,v19.Den.Groups,Jt (x_7+1))
 )
 )
 ) (
 some ((s_3,s_4,s_5,s_6))
 )
 )) (v1.Num.Negative,v1.Num.Groups,v1.Den.Negative,v1.Den.Groups,0)) fun o21=>(
 match o21 with
 |(s_12,s_13,s_14,s_15)=>(
 some (ae.mk (ag.mk s_12 s_13) (ag.mk s_14 s_15))
 ))
 )

def cq(n:Nat)(x':ae)(y:ae):Option (ae):=
 bdO (bB n x') fun v1=>(
 bdO (bB n y) fun v3=>(
 bdO (bF n v1.Num v3.Num) fun v5=>(
 bdO (bF n v1.Den v3.Den) fun v7=>(
 bdO (eH n v5 v7) fun v9=>(
 some (v9)
 )
 )
 )
 )
 )

def bG(n:Nat)(x':ae):Option (Int):=
 bdO (bB n x') fun v1=>(
 bdO (dJ n v1.Num) fun v3=>(
 some (v3)
 )
 )

def eZ(n:Nat)(x':ae):Option (ae):=
 bdO (bB n x') fun v1=>(
 bdO (eI n v1.Num) fun v3=>(
 some (ae.mk v3 v1.Den)
 )
 )

def eu(n:Nat)(x':ae)(y:ae):Option (ae):=
 bdO (eZ n y) fun v1=>(
 bdO (bU n x' v1) fun v3=>(
 some (v3)
 )
 )

def gg(n:Nat)(x':ae)(y:ae):Option (ae×Int):=
 bdO (bB n x') fun v1=>(
 bdO (bB n y) fun v3=>(
 bdO (dJ n v3.Num) fun v5=>(
 cdO ((v5:Int)==0) (
 some ((ae.mk (ag.mk false []) (ag.mk false []),14))
 ) (
 bdO (bF n v1.Num v3.Den) fun v8=>(
 bdO (bF n v1.Den v3.Num) fun v10=>(
 bdO (eH n v8 v10) fun v12=>(
 some ((v12,0))
 )
 )
 )
 )
 )
 )
 )

def kY(n:Nat)(a:ae)(b:ae)(c:ae):Option (ae):=
 bdO (aY n 3) fun v1=>(
 bdO (eu n a b) fun v3=>(
 bdO (eu n a c) fun v5=>(
 bdO (cq n v3 v5) fun v7=>(
 bdO (cq n v1 v7) fun v9=>(
 bdO (cq n a a) fun v11=>(
 bdO (cq n a v11) fun v13=>(
 bdO (gg n v13 v9) fun v15=>(
 some (v15.1)
 )
 )
 )
 )
 )
 )
 )
 )

def ia(n:Nat)(a:ae)(b:ae)(c:ae):Option (ae×ae):=
 bdO (bB n a) fun v1=>(
 bdO (bB n b) fun v3=>(
 bdO (bB n c) fun v5=>(
 bdO (aO n [v1,v3,v5]) fun v7=>(
 gdO (decide (v7.length=3)) (
 bdO (gC n 1 3) fun v10=>(
 bdO (lL n v7) fun v12=>(
 bdO (cq n v10.1 v12) fun v14=>(
 bdO (aY n 0) fun v16=>(
 gdO (inR 0 3) (
 bdO (bG n (gt v7 0)) fun v37=>(
 cdO (decide (v37>=0)) (
 some ((v14,v16))
 ) (
 gdO (inR 2 3) (
 bdO (bG n (gt v7 2)) fun v56=>(
 cdO (decide (v56<=0)) (
 bdO (eZ n v14) fun v70=>(
 some ((v16,v70))
 )
 ) (
 gdO (inR 1 3) (
 bdO (bG n (gt v7 1)) fun v73=>(
 cdO (decide (v73<=0)) (
 bdO (kY n (gt v7 2) (gt v7 0) (gt v7 1)) fun v81=>(
 bdO (eu n v81 v14) fun v83=>(
 some ((v81,v83))
 )
 )
 ) (
 bdO (eZ n (gt v7 0)) fun v85=>(
 bdO (eZ n (gt v7 1)) fun v87=>(
 bdO (eZ n (gt v7 2)) fun v89=>(
 bdO (kY n v85 v87 v89) fun v91=>(
 bdO (bU n v91 v14) fun v93=>(
 some ((v93,v91))
 )
 )
 )
 )
 )
 )
 )
 )
 )
 )
 )
 )
 )
 )
 )
 )
 )
 )
 )
 )
 )
 )
 )

def fC(n:Nat)(g:ak)(l:List (A3 Int))(c:Int)(c':Int)(c'':Int)(CV:Int)(zy:Int)(wY:List Int)(uh:Int):Option (ae×ae):=
 bdO (aY n 0) fun v1=>(
 bdO (aY n 0) fun v3=>(
 bdO (aK (α:=Bool×List Int×Bool×List Int×Bool×List Int×Bool×List Int×Int) (β:=Bool×List Int×Bool×List Int×Bool×List Int×Bool×List Int) n (fun again106 (a_68,a_69,a_70,a_71,b_72,b_73,b_74,b_75,x_76)=>(
 cdO (decide (x_76<(l.length:Int))) (
 gdO (inR x_76 l.length) (
 bdO (dW n (gt l x_76).e0 c c' c'' CV zy wY uh) fun v110=>(
 bdO (aY n v110) fun v112=>(
 bdO (dW n (gt l x_76).e1 c c' c'' CV zy wY uh) fun v114=>(
 bdO (aY n v114) fun v116=>(
 bdO (dW n (gt l x_76).e2 c c' c'' CV zy wY uh) fun v118=>(
 bdO (aY n v118) fun v120=>(
 bdO (ia n v112 v116 v120) fun v122=>(
 bdO (bU n (ae.mk (ag.mk a_68 a_69) (ag.mk a_70 a_71)) v122.1) fun v124=>(
 bdO (bU n (ae.mk (ag.mk b_72 b_73) (ag.mk b_74 b_75)) v122.2) fun v126=>(
 again106 (v124.Num.Negative,v124.Num.Groups,v124.Den.Negative,v124.Den.Groups,v126.Num.Negative,v126.Num.Groups,v126.Den.Negative,v126.Den.Groups,Jt (x_76+1))
 )
 )
 )
 )
 )
 )
 )
 )
 )
 )
 ) (
 some ((a_68,a_69,a_70,a_71,b_72,b_73,b_74,b_75))
 )
 )) (v1.Num.Negative,v1.Num.Groups,v1.Den.Negative,v1.Den.Groups,v3.Num.Negative,v3.Num.Groups,v3.Den.Negative,v3.Den.Groups,0)) fun o128=>(
 match o128 with
 |(a_98,a_99,a_100,a_101,b_102,b_103,b_104,b_105)=>(
 bdO (aY n (Jt ((Jt (g.Step*g.Step)).tdiv 2))) fun v131=>(
 bdO (cq n v131 (ae.mk (ag.mk a_98 a_99) (ag.mk a_100 a_101))) fun v133=>(
 bdO (cq n v131 (ae.mk (ag.mk b_102 b_103) (ag.mk b_104 b_105))) fun v135=>(
 some ((v133,v135))
 )
 )
 )
 ))
 )
 )

def jk(n:Nat)(g:ak)(z:Int):Option (ae×ae×Int):=
 bdO (fI n g) fun v1=>(
 cdO ((v1:Int)!=0) (
 some ((ae.mk (ag.mk false []) (ag.mk false []),ae.mk (ag.mk false []) (ag.mk false []),v1))
 ) (
 bdO (oe n z) fun v5=>(
 cdO v5 (
 some ((ae.mk (ag.mk false []) (ag.mk false []),ae.mk (ag.mk false []) (ag.mk false []),2))
 ) (
 bdO (fy n g) fun v9=>(
 bdO (fC n g v9 g.X0 g.Y0 g.Step g.Width g.Height g.Z z) fun v11=>(
 some ((v11.1,v11.2,0))
 )
 )
 )
 )
 )
 )

def iv(n:Nat)(s:List Int)(v:Int):Option (Int):=
 bdO (aK (α:=Int) (β:=Sum (Unit) (Int)) n (fun again5 x_1=>(
 cdO (decide (x_1<(s.length:Int))) (
 gdO (inR x_1 s.length) (
 cdO ((v:Int)==(gt s x_1)) (
 some (Sum.inr (x_1))
 ) (
 again5 (Jt (x_1+1))
 )
 )
 ) (
 some (Sum.inl ())
 )
 )) 0) fun o9=>(
 match o9 with
 |.inl _=>(
 some ((-1))
 )
 |.inr (r0)=>(
 some r0
 ))

def eK(n:Nat)(s:List Int)(v:Int):Option (Bool):=
 bdO (iv n s v) fun v1=>(
 some (decide (v1>=0))
 )

def gO(n:Nat)(x':List Int):Option (Int):=
 gdO (!(decide ((x'.length:Int)<1))) (
 gdO (inR 0 x'.length) (
 bdO (aK (α:=Int×Int) (β:=Int) n (fun again8 (m_3,i_4)=>(
 cdO (decide (i_4<(x'.length:Int))) (
 gdO (inR i_4 x'.length) (
 again8 (mn m_3 (gt x' i_4),Jt (i_4+1))
 )
 ) (
 some (m_3)
 )
 )) ((gt x' 0),1)) fun m_7=>(
 some (m_7)
 )
 )
 )

def fE(n:Nat)(a:Int)(b:Int)(p:List an)(p':List (A3 Int))(p'':Int):Option (List (A3 Int)):=
 gdO (decide ((p'.length+2)*24<=140737488355328)) (
 gdO (decide (p'.length+2<=4611686018427387904)) (
 some (p'++[A3.mk a (Jt (a+p'')) (Jt (b+p'')),A3.mk a (Jt (b+p'')) b])
 )
 )

def kq(n:Nat)(g:ak)(base:Int):Option (aj×Int):=
 bdO (fI n g) fun v1=>(
 cdO ((v1:Int)!=0) (
 some ((aj.mk [] [],v1))
 ) (
 cdO (decide ((g.Z.length:Int)>256)) (
 some ((aj.mk [] [],3))
 ) (
 bdO (eK n g.Z (-2147483648)) fun v7=>(
 cdO v7 (
 some ((aj.mk [] [],6))
 ) (
 bdO (oe n base) fun v11=>(
 cdO v11 (
 some ((aj.mk [] [],2))
 ) (
 bdO (gO n g.Z) fun v14=>(
 cdO (decide (v14<base)) (
 some ((aj.mk [] [],2))
 ) (
 bdO (aK (α:=List an×Int) (β:=List an) n (fun again58 (o_45,x_46)=>(
 cdO (decide (x_46<(Jt (2*(g.Z.length:Int))))) (
 gdO (!decide ((g.Z.length:Int)=0)) (
 gdO (!decide (g.Width=0)) (
 cdO (decide (x_46<(g.Z.length:Int))) (
 gdO (inR x_46 g.Z.length) (
 gdO (decide ((o_45.length+1)*24<=140737488355328)) (
 gdO (decide (o_45.length+1<=4611686018427387904)) (
 again58 (o_45++[an.mk (Jt (g.X0+(Jt (((x_46.tmod (g.Z.length:Int)).tmod g.Width)*g.Step)))) (Jt (g.Y0+(Jt ((Jt ((x_46.tmod (g.Z.length:Int)).tdiv g.Width))*g.Step)))) (gt g.Z x_46)],Jt (x_46+1))
 )
 )
 )
 ) (
 gdO (decide ((o_45.length+1)*24<=140737488355328)) (
 gdO (decide (o_45.length+1<=4611686018427387904)) (
 again58 (o_45++[an.mk (Jt (g.X0+(Jt (((x_46.tmod (g.Z.length:Int)).tmod g.Width)*g.Step)))) (Jt (g.Y0+(Jt ((Jt ((x_46.tmod (g.Z.length:Int)).tdiv g.Width))*g.Step)))) base],Jt (x_46+1))
 )
 )
 )
 )
 )
 ) (
 some (o_45)
 )
 )) ([],0)) fun o_57=>(
 bdO (fy n g) fun v72=>(
 bdO (aK (α:=List (A3 Int)×Int) (β:=List (A3 Int)) n (fun again99 (o_91,x_92)=>(
 cdO (decide (x_92<(v72.length:Int))) (
 gdO (inR x_92 v72.length) (
 gdO (decide ((o_91.length+2)*24<=140737488355328)) (
 gdO (decide (o_91.length+2<=4611686018427387904)) (
 again99 (o_91++[(gt v72 x_92),A3.mk (Jt ((gt v72 x_92).e0+(g.Z.length:Int))) (Jt ((gt v72 x_92).e2+(g.Z.length:Int))) (Jt ((gt v72 x_92).e1+(g.Z.length:Int)))],Jt (x_92+1))
 )
 )
 )
 ) (
 some (o_91)
 )
 )) ([],0)) fun o_98=>(
 bdO (aK (α:=List (A3 Int)×Int) (β:=List (A3 Int)) n (fun again136 (o_127,x_128)=>(
 cdO (decide (x_128<(Jt (g.Width-1)))) (
 bdO (fE n x_128 (Jt (x_128+1)) o_57 o_127 (g.Z.length:Int)) fun v139=>(
 bdO (fE n (Jt ((Jt ((g.Z.length:Int)-1))-x_128)) (Jt ((Jt ((g.Z.length:Int)-2))-x_128)) o_57 v139 (g.Z.length:Int)) fun v141=>(
 again136 (v141,Jt (x_128+1))
 )
 )
 ) (
 some (o_127)
 )
 )) (o_98,0)) fun o_135=>(
 bdO (aK (α:=List (A3 Int)×Int) (β:=List (A3 Int)) n (fun again155 (o_146,x_147)=>(
 cdO (decide (x_147<(Jt (g.Height-1)))) (
 bdO (fE n (Jt ((Jt ((Jt (x_147*g.Width))+g.Width))-1)) (Jt ((Jt ((Jt ((Jt (x_147+1))*g.Width))+g.Width))-1)) o_57 o_146 (g.Z.length:Int)) fun v158=>(
 bdO (fE n (Jt ((Jt (x_147+1))*g.Width)) (Jt (x_147*g.Width)) o_57 v158 (g.Z.length:Int)) fun v160=>(
 again155 (v160,Jt (x_147+1))
 )
 )
 ) (
 some (o_146)
 )
 )) (o_135,0)) fun o_154=>(
 some ((aj.mk o_57 o_154,0))
 )
 )
 )
 )
 )
 )
 )
 )
 )
 )
 )
 )
 )
 )

def nT(n:Nat)(n':Int):Option (Bool):=
 cdO (decide (n'<(-1048576))) (
 some (true)
 ) (
 some (decide (n'>1048576))
 )

def cH(n:Nat)(s:List Int):Option (Int):=
 bdO (aK (α:=Int) (β:=Sum (Unit) (Int)) n (fun again7 x_1=>(
 cdO (decide (x_1<(s.length:Int))) (
 gdO (inR x_1 s.length) (
 bdO (nT n (gt s x_1)) fun v10=>(
 cdO v10 (
 some (Sum.inr (x_1))
 ) (
 again7 (Jt (x_1+1))
 )
 )
 )
 ) (
 some (Sum.inl ())
 )
 )) 0) fun o13=>(
 match o13 with
 |.inl _=>(
 some ((-1))
 )
 |.inr (r0)=>(
 some r0
 ))

def cv(n:Nat)(s:List Int):Option (Bool):=
 bdO (cH n s) fun v1=>(
 some (decide (v1>=0))
 )

def rM(n:Nat)(p:an):Option (Bool):=
 bdO (cv n [p.X,p.Y,p.Z]) fun v1=>(
 some (v1)
 )

def bc(n:Nat)(s:List an):Option (Int):=
 bdO (aK (α:=Int) (β:=Sum (Unit) (Int)) n (fun again7 x_1=>(
 cdO (decide (x_1<(s.length:Int))) (
 gdO (inR x_1 s.length) (
 bdO (rM n (gt s x_1)) fun v10=>(
 cdO v10 (
 some (Sum.inr (x_1))
 ) (
 again7 (Jt (x_1+1))
 )
 )
 )
 ) (
 some (Sum.inl ())
 )
 )) 0) fun o13=>(
 match o13 with
 |.inl _=>(
 some ((-1))
 )
 |.inr (r0)=>(
 some r0
 ))

def ba(n:Nat)(s:List an):Option (Bool):=
 bdO (bc n s) fun v1=>(
 some (decide (v1>=0))
 )

def nJ(n:Nat)(m':aj):Option (Int):=
 cdO (decide ((m'.Vertices.length:Int)>512)) (
 some (3)
 ) (
 cdO (decide ((m'.Faces.length:Int)>1024)) (
 some (3)
 ) (
 bdO (ba n m'.Vertices) fun v3=>(
 cdO v3 (
 some (2)
 ) (
 bdO (aK (α:=Int) (β:=Sum (Unit) (Int)) n (fun again18 x_6=>(
 cdO (decide (x_6<(m'.Faces.length:Int))) (
 gdO (inR x_6 m'.Faces.length) (
 cdO (decide ((gt m'.Faces x_6).e0<0)) (
 some (Sum.inr (2))
 ) (
 cdO (decide ((gt m'.Faces x_6).e0>=(m'.Vertices.length:Int))) (
 some (Sum.inr (2))
 ) (
 cdO (decide ((gt m'.Faces x_6).e1<0)) (
 some (Sum.inr (2))
 ) (
 cdO (decide ((gt m'.Faces x_6).e1>=(m'.Vertices.length:Int))) (
 some (Sum.inr (2))
 ) (
 cdO (decide ((gt m'.Faces x_6).e2<0)) (
 some (Sum.inr (2))
 ) (
 cdO (decide ((gt m'.Faces x_6).e2>=(m'.Vertices.length:Int))) (
 some (Sum.inr (2))
 ) (
 cdO (((gt m'.Faces x_6).e0:Int)==(gt m'.Faces x_6).e1) (
 some (Sum.inr (13))
 ) (
 cdO (((gt m'.Faces x_6).e1:Int)==(gt m'.Faces x_6).e2) (
 some (Sum.inr (13))
 ) (
 cdO (((gt m'.Faces x_6).e2:Int)==(gt m'.Faces x_6).e0) (
 some (Sum.inr (13))
 ) (
 again18 (Jt (x_6+1))
 )
 )
 )
 )
 )
 )
 )
 )
 )
 )
 ) (
 some (Sum.inl ())
 )
 )) 0) fun o30=>(
 match o30 with
 |.inl _=>(
 some (0)
 )
 |.inr (r0)=>(
 some r0
 ))
 )
 )
 )
 )

def pY(n:Nat)(f:A3 Int):Option (A3 (A2 Int)):=
 some (A3.mk (A2.mk f.e0 f.e1) (A2.mk f.e1 f.e2) (A2.mk f.e2 f.e0))

def cW(n:Nat)(u:List (Int×Int))(i:Int):Option (Int):=
 bdO (aK (α:=Int) (β:=Int) n (fun again14 i_11=>(
 cdO (!(eL u i_11)) (
 some (i_11)
 ) (
 cdO (((getM 0 u i_11):Int)==i_11) (
 some (i_11)
 ) (
 again14 (getM 0 u i_11)
 )
 )
 )) i) fun r0=>(
 some r0
 )

def aQ(n:Nat)(u:List (Int×Int))(i:Int)(k:Int):Option (List (Int×Int)):=
 bdO (cW n u i) fun v6=>(
 bdO (cW n u k) fun v8=>(
 some (al u (mx v6 v8) (mn v6 v8))
 )
 )

def kj(n:Nat)(m':aj):Option (Int):=
 bdO (nJ n m') fun v1=>(
 cdO ((v1:Int)!=0) (
 some (v1)
 ) (
 gdO (decide (0<=(m'.Vertices.length:Int))) (
 gdO (decide ((24:Int)*(m'.Vertices.length:Int)<=281474976710656)) (
 gdO (decide ((m'.Vertices.length:Int)<=9223372036854775807)) (
 bdO (aK (α:=List (A2 Int×Bool)×List (List Int)×Int) (β:=Sum (List (List Int)) (Int)) n (fun again29 (s_7,a_8,x_9)=>(
 cdO (decide (x_9<(m'.Faces.length:Int))) (
 gdO (inR x_9 m'.Faces.length) (
 bdO (pY n (gt m'.Faces x_9)) fun v32=>(
 cdO (getM false s_7 v32.e0) (
 some (Sum.inr (7))
 ) (
 gdO (inR v32.e0.e0 a_8.length) (
 gdO (decide (((gt a_8 v32.e0.e0).length+1)*8<=140737488355328)) (
 gdO (decide ((gt a_8 v32.e0.e0).length+1<=4611686018427387904)) (
 cdO (getM false (al s_7 v32.e0 true) v32.e1) (
 some (Sum.inr (7))
 ) (
 gdO (inR v32.e1.e0 a_8.length) (
 gdO (inR v32.e1.e0 (a_8.set v32.e0.e0.toNat ((gt a_8 v32.e0.e0)++[x_9])).length) (
 gdO (decide (((gt (a_8.set v32.e0.e0.toNat ((gt a_8 v32.e0.e0)++[x_9])) v32.e1.e0).length+1)*8<=140737488355328)) (
 gdO (decide ((gt (a_8.set v32.e0.e0.toNat ((gt a_8 v32.e0.e0)++[x_9])) v32.e1.e0).length+1<=4611686018427387904)) (
 cdO (getM false (al (al s_7 v32.e0 true) v32.e1 true) v32.e2) (
 some (Sum.inr (7))
 ) (
 gdO (inR v32.e2.e0 a_8.length) (
 gdO (inR v32.e2.e0 ((a_8.set v32.e0.e0.toNat ((gt a_8 v32.e0.e0)++[x_9])).set v32.e1.e0.toNat ((gt (a_8.set v32.e0.e0.toNat ((gt a_8 v32.e0.e0)++[x_9])) v32.e1.e0)++[x_9])).length) (
 gdO (decide (((gt ((a_8.set v32.e0.e0.toNat ((gt a_8 v32.e0.e0)++[x_9])).set v32.e1.e0.toNat ((gt (a_8.set v32.e0.e0.toNat ((gt a_8 v32.e0.e0)++[x_9])) v32.e1.e0)++[x_9])) v32.e2.e0).length+1)*8<=140737488355328)) (
 gdO (decide ((gt ((a_8.set v32.e0.e0.toNat ((gt a_8 v32.e0.e0)++[x_9])).set v32.e1.e0.toNat ((gt (a_8.set v32.e0.e0.toNat ((gt a_8 v32.e0.e0)++[x_9])) v32.e1.e0)++[x_9])) v32.e2.e0).length+1<=4611686018427387904)) (
 again29 (al (al (al s_7 v32.e0 true) v32.e1 true) v32.e2 true,((a_8.set v32.e0.e0.toNat ((gt a_8 v32.e0.e0)++[x_9])).set v32.e1.e0.toNat ((gt (a_8.set v32.e0.e0.toNat ((gt a_8 v32.e0.e0)++[x_9])) v32.e1.e0)++[x_9])).set v32.e2.e0.toNat ((gt ((a_8.set v32.e0.e0.toNat ((gt a_8 v32.e0.e0)++[x_9])).set v32.e1.e0.toNat ((gt (a_8.set v32.e0.e0.toNat ((gt a_8 v32.e0.e0)++[x_9])) v32.e1.e0)++[x_9])) v32.e2.e0)++[x_9]),Jt (x_9+1))
 )
 )
 )
 )
 )
 )
 )
 )
 )
 )
 )
 )
 )
 )
 )
 )
 ) (
 some (Sum.inl a_8)
 )
 )) (([]:List (A2 Int×Bool)),List.replicate (m'.Vertices.length:Int).toNat ([]:List Int),0)) fun o48=>(
 match o48 with
 |.inl a_28=>(
 bdO (aK (α:=Int) (β:=Sum (Unit) (Int)) n (fun again193 x_51=>(
 cdO (decide (x_51<(a_28.length:Int))) (
 gdO (inR x_51 a_28.length) (
 bdO (aK (α:=List (Int×Int)×List (Int×Int)×Int) (β:=List (Int×Int)) n (fun again255 (u_196,o_197,x_198)=>(
 cdO (decide (x_198<((gt a_28 x_51).length:Int))) (
 gdO (inR x_198 (gt a_28 x_51).length) (
 gdO (inR (gt (gt a_28 x_51) x_198) m'.Faces.length) (
 cdO (((gt m'.Faces (gt (gt a_28 x_51) x_198)).e0:Int)==x_51) (
 cdO (((gt m'.Faces (gt (gt a_28 x_51) x_198)).e1:Int)==x_51) (
 cdO (((gt m'.Faces (gt (gt a_28 x_51) x_198)).e2:Int)==x_51) (
 again255 (u_196,o_197,Jt (x_198+1))
 ) (
 cdO (eL o_197 (gt m'.Faces (gt (gt a_28 x_51) x_198)).e2) (
 bdO (aQ n u_196 (gt (gt a_28 x_51) x_198) (getM 0 o_197 (gt m'.Faces (gt (gt a_28 x_51) x_198)).e2)) fun v263=>(
 again255 (v263,al o_197 (gt m'.Faces (gt (gt a_28 x_51) x_198)).e2 (gt (gt a_28 x_51) x_198),Jt (x_198+1))
 )
 ) (
 again255 (u_196,al o_197 (gt m'.Faces (gt (gt a_28 x_51) x_198)).e2 (gt (gt a_28 x_51) x_198),Jt (x_198+1))
 )
 )
 ) (
 cdO (eL o_197 (gt m'.Faces (gt (gt a_28 x_51) x_198)).e1) (
 bdO (aQ n u_196 (gt (gt a_28 x_51) x_198) (getM 0 o_197 (gt m'.Faces (gt (gt a_28 x_51) x_198)).e1)) fun v266=>(
 cdO (((gt m'.Faces (gt (gt a_28 x_51) x_198)).e2:Int)==x_51) (
 again255 (v266,al o_197 (gt m'.Faces (gt (gt a_28 x_51) x_198)).e1 (gt (gt a_28 x_51) x_198),Jt (x_198+1))
 ) (
 cdO (eL (al o_197 (gt m'.Faces (gt (gt a_28 x_51) x_198)).e1 (gt (gt a_28 x_51) x_198)) (gt m'.Faces (gt (gt a_28 x_51) x_198)).e2) (
 bdO (aQ n v266 (gt (gt a_28 x_51) x_198) (getM 0 (al o_197 (gt m'.Faces (gt (gt a_28 x_51) x_198)).e1 (gt (gt a_28 x_51) x_198)) (gt m'.Faces (gt (gt a_28 x_51) x_198)).e2)) fun v270=>(
 again255 (v270,al (al o_197 (gt m'.Faces (gt (gt a_28 x_51) x_198)).e1 (gt (gt a_28 x_51) x_198)) (gt m'.Faces (gt (gt a_28 x_51) x_198)).e2 (gt (gt a_28 x_51) x_198),Jt (x_198+1))
 )
 ) (
 again255 (v266,al (al o_197 (gt m'.Faces (gt (gt a_28 x_51) x_198)).e1 (gt (gt a_28 x_51) x_198)) (gt m'.Faces (gt (gt a_28 x_51) x_198)).e2 (gt (gt a_28 x_51) x_198),Jt (x_198+1))
 )
 )
 )
 ) (
 cdO (((gt m'.Faces (gt (gt a_28 x_51) x_198)).e2:Int)==x_51) (
 again255 (u_196,al o_197 (gt m'.Faces (gt (gt a_28 x_51) x_198)).e1 (gt (gt a_28 x_51) x_198),Jt (x_198+1))
 ) (
 cdO (eL (al o_197 (gt m'.Faces (gt (gt a_28 x_51) x_198)).e1 (gt (gt a_28 x_51) x_198)) (gt m'.Faces (gt (gt a_28 x_51) x_198)).e2) (
 bdO (aQ n u_196 (gt (gt a_28 x_51) x_198) (getM 0 (al o_197 (gt m'.Faces (gt (gt a_28 x_51) x_198)).e1 (gt (gt a_28 x_51) x_198)) (gt m'.Faces (gt (gt a_28 x_51) x_198)).e2)) fun v274=>(
 again255 (v274,al (al o_197 (gt m'.Faces (gt (gt a_28 x_51) x_198)).e1 (gt (gt a_28 x_51) x_198)) (gt m'.Faces (gt (gt a_28 x_51) x_198)).e2 (gt (gt a_28 x_51) x_198),Jt (x_198+1))
 )
 ) (
 again255 (u_196,al (al o_197 (gt m'.Faces (gt (gt a_28 x_51) x_198)).e1 (gt (gt a_28 x_51) x_198)) (gt m'.Faces (gt (gt a_28 x_51) x_198)).e2 (gt (gt a_28 x_51) x_198),Jt (x_198+1))
 )
 )
 )
 )
 ) (
 cdO (eL o_197 (gt m'.Faces (gt (gt a_28 x_51) x_198)).e0) (
 bdO (aQ n u_196 (gt (gt a_28 x_51) x_198) (getM 0 o_197 (gt m'.Faces (gt (gt a_28 x_51) x_198)).e0)) fun v277=>(
 cdO (((gt m'.Faces (gt (gt a_28 x_51) x_198)).e1:Int)==x_51) (
 cdO (((gt m'.Faces (gt (gt a_28 x_51) x_198)).e2:Int)==x_51) (
 again255 (v277,al o_197 (gt m'.Faces (gt (gt a_28 x_51) x_198)).e0 (gt (gt a_28 x_51) x_198),Jt (x_198+1))
 ) (
 cdO (eL (al o_197 (gt m'.Faces (gt (gt a_28 x_51) x_198)).e0 (gt (gt a_28 x_51) x_198)) (gt m'.Faces (gt (gt a_28 x_51) x_198)).e2) (
 bdO (aQ n v277 (gt (gt a_28 x_51) x_198) (getM 0 (al o_197 (gt m'.Faces (gt (gt a_28 x_51) x_198)).e0 (gt (gt a_28 x_51) x_198)) (gt m'.Faces (gt (gt a_28 x_51) x_198)).e2)) fun v282=>(
 again255 (v282,al (al o_197 (gt m'.Faces (gt (gt a_28 x_51) x_198)).e0 (gt (gt a_28 x_51) x_198)) (gt m'.Faces (gt (gt a_28 x_51) x_198)).e2 (gt (gt a_28 x_51) x_198),Jt (x_198+1))
 )
 ) (
 again255 (v277,al (al o_197 (gt m'.Faces (gt (gt a_28 x_51) x_198)).e0 (gt (gt a_28 x_51) x_198)) (gt m'.Faces (gt (gt a_28 x_51) x_198)).e2 (gt (gt a_28 x_51) x_198),Jt (x_198+1))
 )
 )
 ) (
 cdO (eL (al o_197 (gt m'.Faces (gt (gt a_28 x_51) x_198)).e0 (gt (gt a_28 x_51) x_198)) (gt m'.Faces (gt (gt a_28 x_51) x_198)).e1) (
 bdO (aQ n v277 (gt (gt a_28 x_51) x_198) (getM 0 (al o_197 (gt m'.Faces (gt (gt a_28 x_51) x_198)).e0 (gt (gt a_28 x_51) x_198)) (gt m'.Faces (gt (gt a_28 x_51) x_198)).e1)) fun v285=>(
 cdO (((gt m'.Faces (gt (gt a_28 x_51) x_198)).e2:Int)==x_51) (
 again255 (v285,al (al o_197 (gt m'.Faces (gt (gt a_28 x_51) x_198)).e0 (gt (gt a_28 x_51) x_198)) (gt m'.Faces (gt (gt a_28 x_51) x_198)).e1 (gt (gt a_28 x_51) x_198),Jt (x_198+1))
 ) (
 cdO (eL (al (al o_197 (gt m'.Faces (gt (gt a_28 x_51) x_198)).e0 (gt (gt a_28 x_51) x_198)) (gt m'.Faces (gt (gt a_28 x_51) x_198)).e1 (gt (gt a_28 x_51) x_198)) (gt m'.Faces (gt (gt a_28 x_51) x_198)).e2) (
 bdO (aQ n v285 (gt (gt a_28 x_51) x_198) (getM 0 (al (al o_197 (gt m'.Faces (gt (gt a_28 x_51) x_198)).e0 (gt (gt a_28 x_51) x_198)) (gt m'.Faces (gt (gt a_28 x_51) x_198)).e1 (gt (gt a_28 x_51) x_198)) (gt m'.Faces (gt (gt a_28 x_51) x_198)).e2)) fun v289=>(
 again255 (v289,al (al (al o_197 (gt m'.Faces (gt (gt a_28 x_51) x_198)).e0 (gt (gt a_28 x_51) x_198)) (gt m'.Faces (gt (gt a_28 x_51) x_198)).e1 (gt (gt a_28 x_51) x_198)) (gt m'.Faces (gt (gt a_28 x_51) x_198)).e2 (gt (gt a_28 x_51) x_198),Jt (x_198+1))
 )
 ) (
 again255 (v285,al (al (al o_197 (gt m'.Faces (gt (gt a_28 x_51) x_198)).e0 (gt (gt a_28 x_51) x_198)) (gt m'.Faces (gt (gt a_28 x_51) x_198)).e1 (gt (gt a_28 x_51) x_198)) (gt m'.Faces (gt (gt a_28 x_51) x_198)).e2 (gt (gt a_28 x_51) x_198),Jt (x_198+1))
 )
 )
 )
 ) (
 cdO (((gt m'.Faces (gt (gt a_28 x_51) x_198)).e2:Int)==x_51) (
 again255 (v277,al (al o_197 (gt m'.Faces (gt (gt a_28 x_51) x_198)).e0 (gt (gt a_28 x_51) x_198)) (gt m'.Faces (gt (gt a_28 x_51) x_198)).e1 (gt (gt a_28 x_51) x_198),Jt (x_198+1))
 ) (
 cdO (eL (al (al o_197 (gt m'.Faces (gt (gt a_28 x_51) x_198)).e0 (gt (gt a_28 x_51) x_198)) (gt m'.Faces (gt (gt a_28 x_51) x_198)).e1 (gt (gt a_28 x_51) x_198)) (gt m'.Faces (gt (gt a_28 x_51) x_198)).e2) (
 bdO (aQ n v277 (gt (gt a_28 x_51) x_198) (getM 0 (al (al o_197 (gt m'.Faces (gt (gt a_28 x_51) x_198)).e0 (gt (gt a_28 x_51) x_198)) (gt m'.Faces (gt (gt a_28 x_51) x_198)).e1 (gt (gt a_28 x_51) x_198)) (gt m'.Faces (gt (gt a_28 x_51) x_198)).e2)) fun v293=>(
 again255 (v293,al (al (al o_197 (gt m'.Faces (gt (gt a_28 x_51) x_198)).e0 (gt (gt a_28 x_51) x_198)) (gt m'.Faces (gt (gt a_28 x_51) x_198)).e1 (gt (gt a_28 x_51) x_198)) (gt m'.Faces (gt (gt a_28 x_51) x_198)).e2 (gt (gt a_28 x_51) x_198),Jt (x_198+1))
 )
 ) (
 again255 (v277,al (al (al o_197 (gt m'.Faces (gt (gt a_28 x_51) x_198)).e0 (gt (gt a_28 x_51) x_198)) (gt m'.Faces (gt (gt a_28 x_51) x_198)).e1 (gt (gt a_28 x_51) x_198)) (gt m'.Faces (gt (gt a_28 x_51) x_198)).e2 (gt (gt a_28 x_51) x_198),Jt (x_198+1))
 )
 )
 )
 )
 )
 ) (
 cdO (((gt m'.Faces (gt (gt a_28 x_51) x_198)).e1:Int)==x_51) (
 cdO (((gt m'.Faces (gt (gt a_28 x_51) x_198)).e2:Int)==x_51) (
 again255 (u_196,al o_197 (gt m'.Faces (gt (gt a_28 x_51) x_198)).e0 (gt (gt a_28 x_51) x_198),Jt (x_198+1))
 ) (
 cdO (eL (al o_197 (gt m'.Faces (gt (gt a_28 x_51) x_198)).e0 (gt (gt a_28 x_51) x_198)) (gt m'.Faces (gt (gt a_28 x_51) x_198)).e2) (
 bdO (aQ n u_196 (gt (gt a_28 x_51) x_198) (getM 0 (al o_197 (gt m'.Faces (gt (gt a_28 x_51) x_198)).e0 (gt (gt a_28 x_51) x_198)) (gt m'.Faces (gt (gt a_28 x_51) x_198)).e2)) fun v298=>(
 again255 (v298,al (al o_197 (gt m'.Faces (gt (gt a_28 x_51) x_198)).e0 (gt (gt a_28 x_51) x_198)) (gt m'.Faces (gt (gt a_28 x_51) x_198)).e2 (gt (gt a_28 x_51) x_198),Jt (x_198+1))
 )
 ) (
 again255 (u_196,al (al o_197 (gt m'.Faces (gt (gt a_28 x_51) x_198)).e0 (gt (gt a_28 x_51) x_198)) (gt m'.Faces (gt (gt a_28 x_51) x_198)).e2 (gt (gt a_28 x_51) x_198),Jt (x_198+1))
 )
 )
 ) (
 cdO (eL (al o_197 (gt m'.Faces (gt (gt a_28 x_51) x_198)).e0 (gt (gt a_28 x_51) x_198)) (gt m'.Faces (gt (gt a_28 x_51) x_198)).e1) (
 bdO (aQ n u_196 (gt (gt a_28 x_51) x_198) (getM 0 (al o_197 (gt m'.Faces (gt (gt a_28 x_51) x_198)).e0 (gt (gt a_28 x_51) x_198)) (gt m'.Faces (gt (gt a_28 x_51) x_198)).e1)) fun v301=>(
 cdO (((gt m'.Faces (gt (gt a_28 x_51) x_198)).e2:Int)==x_51) (
 again255 (v301,al (al o_197 (gt m'.Faces (gt (gt a_28 x_51) x_198)).e0 (gt (gt a_28 x_51) x_198)) (gt m'.Faces (gt (gt a_28 x_51) x_198)).e1 (gt (gt a_28 x_51) x_198),Jt (x_198+1))
 ) (
 cdO (eL (al (al o_197 (gt m'.Faces (gt (gt a_28 x_51) x_198)).e0 (gt (gt a_28 x_51) x_198)) (gt m'.Faces (gt (gt a_28 x_51) x_198)).e1 (gt (gt a_28 x_51) x_198)) (gt m'.Faces (gt (gt a_28 x_51) x_198)).e2) (
 bdO (aQ n v301 (gt (gt a_28 x_51) x_198) (getM 0 (al (al o_197 (gt m'.Faces (gt (gt a_28 x_51) x_198)).e0 (gt (gt a_28 x_51) x_198)) (gt m'.Faces (gt (gt a_28 x_51) x_198)).e1 (gt (gt a_28 x_51) x_198)) (gt m'.Faces (gt (gt a_28 x_51) x_198)).e2)) fun v305=>(
 again255 (v305,al (al (al o_197 (gt m'.Faces (gt (gt a_28 x_51) x_198)).e0 (gt (gt a_28 x_51) x_198)) (gt m'.Faces (gt (gt a_28 x_51) x_198)).e1 (gt (gt a_28 x_51) x_198)) (gt m'.Faces (gt (gt a_28 x_51) x_198)).e2 (gt (gt a_28 x_51) x_198),Jt (x_198+1))
 )
 ) (
 again255 (v301,al (al (al o_197 (gt m'.Faces (gt (gt a_28 x_51) x_198)).e0 (gt (gt a_28 x_51) x_198)) (gt m'.Faces (gt (gt a_28 x_51) x_198)).e1 (gt (gt a_28 x_51) x_198)) (gt m'.Faces (gt (gt a_28 x_51) x_198)).e2 (gt (gt a_28 x_51) x_198),Jt (x_198+1))
 )
 )
 )
 ) (
 cdO (((gt m'.Faces (gt (gt a_28 x_51) x_198)).e2:Int)==x_51) (
 again255 (u_196,al (al o_197 (gt m'.Faces (gt (gt a_28 x_51) x_198)).e0 (gt (gt a_28 x_51) x_198)) (gt m'.Faces (gt (gt a_28 x_51) x_198)).e1 (gt (gt a_28 x_51) x_198),Jt (x_198+1))
 ) (
 cdO (eL (al (al o_197 (gt m'.Faces (gt (gt a_28 x_51) x_198)).e0 (gt (gt a_28 x_51) x_198)) (gt m'.Faces (gt (gt a_28 x_51) x_198)).e1 (gt (gt a_28 x_51) x_198)) (gt m'.Faces (gt (gt a_28 x_51) x_198)).e2) (
 bdO (aQ n u_196 (gt (gt a_28 x_51) x_198) (getM 0 (al (al o_197 (gt m'.Faces (gt (gt a_28 x_51) x_198)).e0 (gt (gt a_28 x_51) x_198)) (gt m'.Faces (gt (gt a_28 x_51) x_198)).e1 (gt (gt a_28 x_51) x_198)) (gt m'.Faces (gt (gt a_28 x_51) x_198)).e2)) fun v309=>(
 again255 (v309,al (al (al o_197 (gt m'.Faces (gt (gt a_28 x_51) x_198)).e0 (gt (gt a_28 x_51) x_198)) (gt m'.Faces (gt (gt a_28 x_51) x_198)).e1 (gt (gt a_28 x_51) x_198)) (gt m'.Faces (gt (gt a_28 x_51) x_198)).e2 (gt (gt a_28 x_51) x_198),Jt (x_198+1))
 )
 ) (
 again255 (u_196,al (al (al o_197 (gt m'.Faces (gt (gt a_28 x_51) x_198)).e0 (gt (gt a_28 x_51) x_198)) (gt m'.Faces (gt (gt a_28 x_51) x_198)).e1 (gt (gt a_28 x_51) x_198)) (gt m'.Faces (gt (gt a_28 x_51) x_198)).e2 (gt (gt a_28 x_51) x_198),Jt (x_198+1))
 )
 )
 )
 )
 )
 )
 )
 )
 ) (
 some (u_196)
 )
 )) (([]:List (Int×Int)),([]:List (Int×Int)),0)) fun u_254=>(
 bdO (aK (α:=Int) (β:=Sum (Unit) (Int)) n (fun again323 x_314=>(
 cdO (decide (x_314<((gt a_28 x_51).length:Int))) (
 gdO (inR x_314 (gt a_28 x_51).length) (
 bdO (cW n u_254 (gt (gt a_28 x_51) x_314)) fun v326=>(
 gdO (inR 0 (gt a_28 x_51).length) (
 bdO (cW n u_254 (gt (gt a_28 x_51) 0)) fun v329=>(
 cdO ((v326:Int)!=v329) (
 some (Sum.inr (11))
 ) (
 again323 (Jt (x_314+1))
 )
 )
 )
 )
 )
 ) (
 some (Sum.inl ())
 )
 )) 0) fun o332=>(
 match o332 with
 |.inl _=>(
 again193 (Jt (x_51+1))
 )
 |.inr (r0)=>(
 some (Sum.inr (r0))
 ))
 )
 )
 ) (
 some (Sum.inl ())
 )
 )) 0) fun o335=>(
 match o335 with
 |.inl _=>(
 some (0)
 )
 |.inr (r0)=>(
 some r0
 ))
 )
 |.inr (r0)=>(
 some r0
 ))
 )
 )
 )
 )
 )

noncomputable def jy(n:Nat)(m':aj):Option (List (Int×Int)):=
 bdO (aK (α:=List (A2 Int×Bool)×Int) (β:=List (A2 Int×Bool)) n (fun again31 (a_24,x_25)=>(
 cdO (decide (x_25<(m'.Faces.length:Int))) (
 gdO (inR x_25 m'.Faces.length) (
 bdO (pY n (gt m'.Faces x_25)) fun v34=>(
 again31 (al (al (al a_24 v34.e0 true) v34.e1 true) v34.e2 true,Jt (x_25+1))
 )
 )
 ) (
 some (a_24)
 )
 )) (([]:List (A2 Int×Bool)),0)) fun a_30=>(
 B3 (ε:=A2 Int×Bool) (σ:=List (Int×Int)) a_30 (fun o_43 e39=>(
 cdO (!(getM false a_30 (A2.mk e39.1.e1 e39.1.e0))) (
 some (al o_43 e39.1.e0 e39.1.e1)
 ) (
 some (o_43)
 )
 )) ([]:List (Int×Int)) fun o_43=>(
 some (o_43)
 )
 )

def kx(n:Nat)(p:an)(q:an):Option (A3 ag):=
 bdO (dw n (Jt (q.X-p.X))) fun v1=>(
 bdO (dw n (Jt (q.Y-p.Y))) fun v3=>(
 bdO (dw n (Jt (q.Z-p.Z))) fun v5=>(
 some (A3.mk v1 v3 v5)
 )
 )
 )

def jU(n:Nat)(x':ag)(y:ag):Option (ag):=
 bdO (bz n x') fun v1=>(
 bdO (bz n y) fun v3=>(
 bdO (kb n x'.Negative v1 (!y.Negative) v3) fun v5=>(
 some (v5)
 )
 )
 )

def od(n:Nat)(a:A3 ag)(b:A3 ag):Option (A3 ag):=
 bdO (bF n a.e1 b.e2) fun v1=>(
 bdO (bF n a.e2 b.e1) fun v3=>(
 bdO (jU n v1 v3) fun v5=>(
 bdO (bF n a.e2 b.e0) fun v7=>(
 bdO (bF n a.e0 b.e2) fun v9=>(
 bdO (jU n v7 v9) fun v11=>(
 bdO (bF n a.e0 b.e1) fun v13=>(
 bdO (bF n a.e1 b.e0) fun v15=>(
 bdO (jU n v13 v15) fun v17=>(
 some (A3.mk v5 v11 v17)
 )
 )
 )
 )
 )
 )
 )
 )
 )

def rG(n:Nat)(a:A3 ag)(b:A3 ag):Option (ag):=
 bdO (dw n 0) fun v1=>(
 bdO (bF n a.e0 b.e0) fun v3=>(
 bdO (gB n v1 v3) fun v5=>(
 bdO (bF n a.e1 b.e1) fun v7=>(
 bdO (gB n v5 v7) fun v9=>(
 bdO (bF n a.e2 b.e2) fun v11=>(
 bdO (gB n v9 v11) fun v13=>(
 some (v13)
 )
 )
 )
 )
 )
 )
 )

noncomputable def ln(n:Nat)(m':aj):Option (ag×Int):=
 bdO (kj n m') fun v1=>(
 cdO ((v1:Int)!=0) (
 some ((ag.mk false [],v1))
 ) (
 bdO (jy n m') fun v4=>(
 cdO (decide ((v4.length:Int)>0)) (
 some ((ag.mk false [],11))
 ) (
 bdO (dw n 0) fun v7=>(
 bdO (aK (α:=Bool×List Int×Int) (β:=Bool×List Int) n (fun again31 (s_9,s_10,x_11)=>(
 cdO (decide (x_11<(m'.Faces.length:Int))) (
 gdO (inR x_11 m'.Faces.length) (
 gdO (inR (gt m'.Faces x_11).e0 m'.Vertices.length) (
 bdO (kx n (an.mk 0 0 0) (gt m'.Vertices (gt m'.Faces x_11).e0)) fun v35=>(
 gdO (inR (gt m'.Faces x_11).e1 m'.Vertices.length) (
 bdO (kx n (an.mk 0 0 0) (gt m'.Vertices (gt m'.Faces x_11).e1)) fun v38=>(
 gdO (inR (gt m'.Faces x_11).e2 m'.Vertices.length) (
 bdO (kx n (an.mk 0 0 0) (gt m'.Vertices (gt m'.Faces x_11).e2)) fun v41=>(
 bdO (od n v38 v41) fun v43=>(
 bdO (rG n v35 v43) fun v45=>(
 bdO (gB n (ag.mk s_9 s_10) v45) fun v47=>(
 again31 (v47.Negative,v47.Groups,Jt (x_11+1))
 )
 )
 )
 )
 )
 )
 )
 )
 )
 )
 ) (
 some ((s_9,s_10))
 )
 )) (v7.Negative,v7.Groups,0)) fun o49=>(
 match o49 with
 |(s_29,s_30)=>(
 some ((ag.mk s_29 s_30,0))
 ))
 )
 )
 )
 )
 )

def gQ(n:Nat)(g:ak)(level:Int):Option (Int):=
 bdO (fI n g) fun v1=>(
 cdO ((v1:Int)!=0) (
 some (v1)
 ) (
 cdO (((level.tmod 2):Int)==0) (
 some (1)
 ) (
 cdO (decide (level<(-2097153))) (
 some (2)
 ) (
 cdO (decide (level>2097153)) (
 some (2)
 ) (
 some (0)
 )
 )
 )
 )
 )

def jD(n:Nat)(x':ae):Option (ae):=
 bdO (aY n 3) fun v1=>(
 bdO (gg n x' v1) fun v3=>(
 some (v3.1)
 )
 )

def eF(n:Nat)(a:ae)(b:ae)(c:ae)(tip:ae):Option (ae):=
 bdO (bU n b c) fun v1=>(
 bdO (bU n a v1) fun v3=>(
 bdO (jD n v3) fun v5=>(
 bdO (eu n v5 tip) fun v7=>(
 some (v7)
 )
 )
 )
 )

def kF(n:Nat)(a:ae)(b:ae)(c:ae):Option (ae):=
 bdO (cq n a a) fun v1=>(
 bdO (eu n a b) fun v3=>(
 bdO (eu n a c) fun v5=>(
 bdO (cq n v3 v5) fun v7=>(
 bdO (gg n v1 v7) fun v9=>(
 some (v9.1)
 )
 )
 )
 )
 )

def fA(n:Nat)(a:ae)(b:ae)(c:ae):Option (ae):=
 bdO (kF n a b c) fun v1=>(
 bdO (cq n a v1) fun v3=>(
 bdO (jD n v3) fun v5=>(
 some (v5)
 )
 )
 )

def iE(n:Nat)(t:A3 Int)(p:Int)(p':Int)(p'':Int)(I3:Int)(Hx:Int)(pW:List Int)(tH:Int)(tR:Bool)(so:List Int)(qh:Bool)(oB:List Int):Option (Bool×List Int×Bool×List Int):=
 bdO (α:=Bool×List Int×Bool×List Int×Int) (
 gdO (inR t.e0 pW.length) (
 bdO (gC n (Jt ((Jt (2*(gt pW t.e0)))-tH)) 2) fun v285=>(
 bdO (bG n v285.1) fun v287=>(
 cdO (decide (v287>0)) (
 some ((v285.1.Num.Negative,v285.1.Num.Groups,v285.1.Den.Negative,v285.1.Den.Groups,1))
 ) (
 some ((v285.1.Num.Negative,v285.1.Num.Groups,v285.1.Den.Negative,v285.1.Den.Groups,0))
 )
 )
 )
 )
 ) fun o290=>(
 match o290 with
 |(h_279,h_280,h_281,h_282,u_283)=>(
 bdO (α:=Bool×List Int×Bool×List Int×Int) (
 gdO (inR t.e1 pW.length) (
 bdO (gC n (Jt ((Jt (2*(gt pW t.e1)))-tH)) 2) fun v299=>(
 bdO (bG n v299.1) fun v301=>(
 cdO (decide (v301>0)) (
 some ((v299.1.Num.Negative,v299.1.Num.Groups,v299.1.Den.Negative,v299.1.Den.Groups,Jt (u_283+1)))
 ) (
 some ((v299.1.Num.Negative,v299.1.Num.Groups,v299.1.Den.Negative,v299.1.Den.Groups,u_283))
 )
 )
 )
 )
 ) fun o304=>(
 match o304 with
 |(h_293,h_294,h_295,h_296,u_297)=>(
 bdO (α:=Bool×List Int×Bool×List Int×Int) (
 gdO (inR t.e2 pW.length) (
 bdO (gC n (Jt ((Jt (2*(gt pW t.e2)))-tH)) 2) fun v313=>(
 bdO (bG n v313.1) fun v315=>(
 cdO (decide (v315>0)) (
 some ((v313.1.Num.Negative,v313.1.Num.Groups,v313.1.Den.Negative,v313.1.Den.Groups,Jt (u_297+1)))
 ) (
 some ((v313.1.Num.Negative,v313.1.Num.Groups,v313.1.Den.Negative,v313.1.Den.Groups,u_297))
 )
 )
 )
 )
 ) fun o318=>(
 match o318 with
 |(h_307,h_308,h_309,h_310,u_311)=>(
 cdO ((u_311:Int)==0) (
 some ((tR,so,qh,oB))
 ) (
 cdO ((u_311:Int)==3) (
 bdO (aY n 0) fun v346=>(
 bdO (eF n (ae.mk (ag.mk h_279 h_280) (ag.mk h_281 h_282)) (ae.mk (ag.mk h_293 h_294) (ag.mk h_295 h_296)) (ae.mk (ag.mk h_307 h_308) (ag.mk h_309 h_310)) v346) fun v348=>(
 bdO (bU n (ae.mk (ag.mk tR so) (ag.mk qh oB)) v348) fun v350=>(
 some ((v350.Num.Negative,v350.Num.Groups,v350.Den.Negative,v350.Den.Groups))
 )
 )
 )
 ) (
 bdO (aK (α:=Bool×List Int×Bool×List Int×Bool×List Int×Bool×List Int×Bool×List Int×Bool×List Int) (β:=Bool×List Int×Bool×List Int×Bool×List Int×Bool×List Int×Bool×List Int×Bool×List Int) n (fun again443 (h_406,h_407,h_408,h_409,h_410,h_411,h_412,h_413,h_414,h_415,h_416,h_417)=>(
 bdO (α:=Sum (Unit) (Unit)) (
 bdO (bG n (ae.mk (ag.mk h_406 h_407) (ag.mk h_408 h_409))) fun v446=>(
 cdO ((decide (v446>0))!=((u_311:Int)==1)) (
 some (Sum.inr (()))
 ) (
 bdO (bG n (ae.mk (ag.mk h_410 h_411) (ag.mk h_412 h_413))) fun v449=>(
 bdO (bG n (ae.mk (ag.mk h_414 h_415) (ag.mk h_416 h_417))) fun v451=>(
 cdO ((decide (v449>0))!=(decide (v451>0))) (
 some (Sum.inr (()))
 ) (
 some (Sum.inl ())
 )
 )
 )
 )
 )
 ) fun o454=>(
 match o454 with
 |.inl _=>(
 some ((h_406,h_407,h_408,h_409,h_410,h_411,h_412,h_413,h_414,h_415,h_416,h_417))
 )
 |.inr (_)=>(
 again443 (h_410,h_411,h_412,h_413,h_414,h_415,h_416,h_417,h_406,h_407,h_408,h_409)
 ))
 )) (h_279,h_280,h_281,h_282,h_293,h_294,h_295,h_296,h_307,h_308,h_309,h_310)) fun o457=>(
 match o457 with
 |(h_431,h_432,h_433,h_434,h_435,h_436,h_437,h_438,h_439,h_440,h_441,h_442)=>(
 bdO (fA n (ae.mk (ag.mk h_431 h_432) (ag.mk h_433 h_434)) (ae.mk (ag.mk h_435 h_436) (ag.mk h_437 h_438)) (ae.mk (ag.mk h_439 h_440) (ag.mk h_441 h_442))) fun v460=>(
 cdO ((u_311:Int)==2) (
 bdO (eF n (ae.mk (ag.mk h_431 h_432) (ag.mk h_433 h_434)) (ae.mk (ag.mk h_435 h_436) (ag.mk h_437 h_438)) (ae.mk (ag.mk h_439 h_440) (ag.mk h_441 h_442)) v460) fun v463=>(
 bdO (bU n (ae.mk (ag.mk tR so) (ag.mk qh oB)) v463) fun v465=>(
 some ((v465.Num.Negative,v465.Num.Groups,v465.Den.Negative,v465.Den.Groups))
 )
 )
 ) (
 bdO (bU n (ae.mk (ag.mk tR so) (ag.mk qh oB)) v460) fun v467=>(
 some ((v467.Num.Negative,v467.Num.Groups,v467.Den.Negative,v467.Den.Groups))
 )
 )
 )
 ))
 )
 )
 ))
 ))
 ))

def bV(n:Nat)(g:ak)(c:Int)(c':Int)(c'':Int)(CV:Int)(zy:Int)(wY:List Int)(uh:Int)(CY:Bool)(Cd:List Int)(AO:Bool)(Ak:List Int):Option (Bool×List Int×Bool×List Int):=
 bdO (aK (α:=Bool×List Int×Bool×List Int×Int) (β:=Bool×List Int×Bool×List Int) n (fun again318 (c_212,c_213,c_214,c_215,x_216)=>(
 cdO (decide (x_216<(Jt (g.Height-1)))) (
 bdO (aK (α:=Bool×List Int×Bool×List Int×Int) (β:=Bool×List Int×Bool×List Int) n (fun again371 (c_321,c_322,c_323,c_324,x_325)=>(
 cdO (decide (x_325<(Jt (g.Width-1)))) (
 bdO (some (Jt ((Jt (x_216*g.Width))+x_325))) fun w374=>(
 bdO (some [A3.mk w374 (Jt (w374+1)) (Jt ((Jt (w374+g.Width))+1)),A3.mk w374 (Jt ((Jt (w374+g.Width))+1)) (Jt (w374+g.Width))]) fun w376=>(
 bdO (aK (α:=Bool×List Int×Bool×List Int×Int) (β:=Bool×List Int×Bool×List Int) n (fun again398 (c_378,c_379,c_380,c_381,x_382)=>(
 cdO (decide (x_382<2)) (
 gdO (inR x_382 w376.length) (
 gdO (inR (gt w376 x_382).e0 g.Z.length) (
 cdO (((gt g.Z (gt w376 x_382).e0):Int)!=(-2147483648)) (
 gdO (inR (gt w376 x_382).e1 g.Z.length) (
 cdO (((gt g.Z (gt w376 x_382).e1):Int)!=(-2147483648)) (
 gdO (inR (gt w376 x_382).e2 g.Z.length) (
 cdO (((gt g.Z (gt w376 x_382).e2):Int)!=(-2147483648)) (
 bdO (iE n (gt w376 x_382) c c' c'' CV zy wY uh c_378 c_379 c_380 c_381) fun v408=>(
 again398 (v408.1,v408.2.1,v408.2.2.1,v408.2.2.2,Jt (x_382+1))
 )
 ) (
 again398 (c_378,c_379,c_380,c_381,Jt (x_382+1))
 )
 )
 ) (
 again398 (c_378,c_379,c_380,c_381,Jt (x_382+1))
 )
 )
 ) (
 again398 (c_378,c_379,c_380,c_381,Jt (x_382+1))
 )
 )
 )
 ) (
 some ((c_378,c_379,c_380,c_381))
 )
 )) (c_321,c_322,c_323,c_324,0)) fun o410=>(
 match o410 with
 |(c_394,c_395,c_396,c_397)=>(
 again371 (c_394,c_395,c_396,c_397,Jt (x_325+1))
 ))
 )
 )
 ) (
 some ((c_321,c_322,c_323,c_324))
 )
 )) (c_212,c_213,c_214,c_215,0)) fun o413=>(
 match o413 with
 |(c_367,c_368,c_369,c_370)=>(
 again318 (c_367,c_368,c_369,c_370,Jt (x_216+1))
 ))
 ) (
 some ((c_212,c_213,c_214,c_215))
 )
 )) (CY,Cd,AO,Ak,0)) fun o416=>(
 match o416 with
 |(c_314,c_315,c_316,c_317)=>(
 some ((c_314,c_315,c_316,c_317))
 ))

def bf(n:Nat)(g:ak)(level:Int):Option (ae):=
 bdO (aY n 0) fun v1=>(
 bdO (bV n g g.X0 g.Y0 g.Step g.Width g.Height g.Z level v1.Num.Negative v1.Num.Groups v1.Den.Negative v1.Den.Groups) fun v3=>(
 bdO (gC n (Jt (g.Step*g.Step)) 2) fun v5=>(
 bdO (cq n (ae.mk (ag.mk v3.1 v3.2.1) (ag.mk v3.2.2.1 v3.2.2.2)) v5.1) fun v7=>(
 some (v7)
 )
 )
 )
 )

def iV(n:Nat)(g:ak)(level:Int):Option (ae×Int):=
 bdO (gQ n g level) fun v1=>(
 cdO ((v1:Int)!=0) (
 some ((ae.mk (ag.mk false []) (ag.mk false []),v1))
 ) (
 bdO (bf n g level) fun v4=>(
 some ((v4,0))
 )
 )
 )

def aR(n:Nat)(negative:Bool)(l:List Int):Option (ag):=
 bdO (aK (α:=Int) (β:=Int) n (fun again6 n_1=>(
 cdO (decide (n_1>0)) (
 gdO (inR (Jt (n_1-1)) l.length) (
 cdO (((gt l (Jt (n_1-1))):Int)==0) (
 again6 (Jt (n_1-1))
 ) (
 some (n_1)
 )
 )
 ) (
 some (n_1)
 )
 )) (l.length:Int)) fun n_5=>(
 cdO negative (
 gdO (inS 0 n_5 l.length) (
 gdO (decide ((0+((l.drop (0:Int).toNat).take (n_5.toNat-(0:Int).toNat)).length)*4<=140737488355328)) (
 gdO (decide (0+((l.drop (0:Int).toNat).take (n_5.toNat-(0:Int).toNat)).length<=4611686018427387904)) (
 some (ag.mk (decide (n_5>0)) ((l.drop (0:Int).toNat).take (n_5.toNat-(0:Int).toNat)))
 )
 )
 )
 ) (
 gdO (inS 0 n_5 l.length) (
 gdO (decide ((0+((l.drop (0:Int).toNat).take (n_5.toNat-(0:Int).toNat)).length)*4<=140737488355328)) (
 gdO (decide (0+((l.drop (0:Int).toNat).take (n_5.toNat-(0:Int).toNat)).length<=4611686018427387904)) (
 some (ag.mk false ((l.drop (0:Int).toNat).take (n_5.toNat-(0:Int).toNat)))
 )
 )
 )
 )
 )

def eE(n:Nat)(n':Int):Option (ag):=
 cdO (decide (n'<0)) (
 bdO (aK (α:=Int×List Int) (β:=List Int) n (fun again8 (u_2,l_3)=>(
 cdO (decide (u_2>0)) (
 gdO (decide ((l_3.length+1)*4<=140737488355328)) (
 gdO (decide (l_3.length+1<=4611686018427387904)) (
 again8 (aa .u64 (u_2.tdiv 1000000000),l_3++[aa .u32 (u_2.tmod 1000000000)])
 )
 )
 ) (
 some (l_3)
 )
 )) (aa .u64 ((aa .u64 (Jt (0-(Jt (n'+1)))))+1),[])) fun l_7=>(
 bdO (aR n true l_7) fun v15=>(
 some (v15)
 )
 )
 ) (
 bdO (aK (α:=Int×List Int) (β:=List Int) n (fun again23 (u_17,l_18)=>(
 cdO (decide (u_17>0)) (
 gdO (decide ((l_18.length+1)*4<=140737488355328)) (
 gdO (decide (l_18.length+1<=4611686018427387904)) (
 again23 (aa .u64 (u_17.tdiv 1000000000),l_18++[aa .u32 (u_17.tmod 1000000000)])
 )
 )
 ) (
 some (l_18)
 )
 )) (aa .u64 n',[])) fun l_22=>(
 bdO (aR n false l_22) fun v30=>(
 some (v30)
 )
 )
 )

def ck(n:Nat)(n':Int):Option (ag):=
 bdO (eE n n') fun v1=>(
 some (v1)
 )

def cR(n:Nat)(n':Int):Option (ae):=
 bdO (ck n n') fun v1=>(
 bdO (ck n 1) fun v3=>(
 some (ae.mk v1 v3)
 )
 )

def cS(n:Nat)(x':ag):Option (Bool):=
 bdO (aK (α:=Int) (β:=Sum (Unit) (Bool)) n (fun again5 i_1=>(
 cdO (decide (i_1<(x'.Groups.length:Int))) (
 gdO (inR i_1 x'.Groups.length) (
 cdO (decide ((gt x'.Groups i_1)>=1000000000)) (
 some (Sum.inr (false))
 ) (
 again5 (Jt (i_1+1))
 )
 )
 ) (
 some (Sum.inl ())
 )
 )) 0) fun o9=>(
 match o9 with
 |.inl _=>(
 cdO (((x'.Groups.length:Int):Int)==0) (
 some (!x'.Negative)
 ) (
 gdO (inR (Jt ((x'.Groups.length:Int)-1)) x'.Groups.length) (
 some (((gt x'.Groups (Jt ((x'.Groups.length:Int)-1))):Int)!=0)
 )
 )
 )
 |.inr (r0)=>(
 some r0
 ))

def bm(n:Nat)(x':ag):Option (ag):=
 bdO (cS n x') fun v1=>(
 cdO (!v1) (
 some (ag.mk false [])
 ) (
 gdO (decide ((0+x'.Groups.length)*4<=140737488355328)) (
 gdO (decide (0+x'.Groups.length<=4611686018427387904)) (
 some (x')
 )
 )
 )
 )

def cJ(n:Nat)(x':ag):Option (Int):=
 bdO (bm n x') fun v1=>(
 cdO (((v1.Groups.length:Int):Int)==0) (
 some (0)
 ) (
 cdO v1.Negative (
 some ((-1))
 ) (
 some (1)
 )
 )
 )

def fj(n:Nat)(a:List Int)(d:Int):Option (List Int×Int):=
 gdO (decide (0<=(a.length:Int))) (
 gdO (decide ((4:Int)*(a.length:Int)<=281474976710656)) (
 gdO (decide ((a.length:Int)<=9223372036854775807)) (
 bdO (aK (α:=List Int×Int×Int) (β:=List Int×Int) n (fun again13 (q_4,r_5,i_6)=>(
 cdO (decide (i_6>=0)) (
 gdO (inR i_6 a.length) (
 gdO (!decide (d=0)) (
 gdO (inR i_6 q_4.length) (
 again13 (q_4.set i_6.toNat (aa .u32 (aa .u64 ((aa .u64 ((aa .u64 (r_5*1000000000))+(aa .u64 (gt a i_6)))).tdiv d))),(aa .u64 ((aa .u64 (r_5*1000000000))+(aa .u64 (gt a i_6)))).tmod d,Jt (i_6-1))
 )
 )
 )
 ) (
 some ((q_4,r_5))
 )
 )) (List.replicate (a.length:Int).toNat ((0:Int):Int),0,Jt ((a.length:Int)-1))) fun o18=>(
 match o18 with
 |(q_11,r_12)=>(
 bdO (aR n false q_11) fun v21=>(
 some ((v21.Groups,r_12))
 )
 ))
 )
 )
 )

def di(n:Nat)(a:List Int)(b:List Int):Option (Int):=
 cdO (((a.length:Int):Int)!=(b.length:Int)) (
 cdO (decide ((a.length:Int)<(b.length:Int))) (
 some ((-1))
 ) (
 some (1)
 )
 ) (
 bdO (aK (α:=Int) (β:=Sum (Unit) (Int)) n (fun again9 i_3=>(
 cdO (decide (i_3>=0)) (
 gdO (inR i_3 a.length) (
 gdO (inR i_3 b.length) (
 cdO (decide ((gt a i_3)<(gt b i_3))) (
 some (Sum.inr ((-1)))
 ) (
 cdO (decide ((gt a i_3)>(gt b i_3))) (
 some (Sum.inr (1))
 ) (
 again9 (Jt (i_3-1))
 )
 )
 )
 )
 ) (
 some (Sum.inl ())
 )
 )) (Jt ((a.length:Int)-1))) fun o15=>(
 match o15 with
 |.inl _=>(
 some (0)
 )
 |.inr (r0)=>(
 some r0
 ))
 )

def cu(n:Nat)(a:List Int)(d:Int):Option (List Int):=
 bdO (aK (α:=List Int×Int×Int) (β:=List Int×Int) n (fun again10 (o_1,c_2,i_3)=>(
 cdO (decide (i_3<(a.length:Int))) (
 gdO (inR i_3 a.length) (
 gdO (decide ((o_1.length+1)*4<=140737488355328)) (
 gdO (decide (o_1.length+1<=4611686018427387904)) (
 again10 (o_1++[aa .u32 ((aa .u64 ((aa .u64 ((aa .u64 (gt a i_3))*d))+c_2)).tmod 1000000000)],aa .u64 ((aa .u64 ((aa .u64 ((aa .u64 (gt a i_3))*d))+c_2)).tdiv 1000000000),Jt (i_3+1))
 )
 )
 )
 ) (
 some ((o_1,c_2))
 )
 )) ([],0,0)) fun o15=>(
 match o15 with
 |(o_8,c_9)=>(
 gdO (decide ((o_8.length+1)*4<=140737488355328)) (
 gdO (decide (o_8.length+1<=4611686018427387904)) (
 bdO (aR n false (o_8++[aa .u32 c_9])) fun v20=>(
 some (v20.Groups)
 )
 )
 )
 ))

def dV(n:Nat)(a:List Int)(d:Int):Option (List Int):=
 gdO (decide ((1+a.length)*4<=140737488355328)) (
 gdO (decide (1+a.length<=4611686018427387904)) (
 bdO (aR n false ([d]++a)) fun v3=>(
 some (v3.Groups)
 )
 )
 )

def aV(n:Nat)(l:List Int)(i:Int):Option (Int):=
 cdO (decide (i<(l.length:Int))) (
 gdO (inR i l.length) (
 some (aa .u64 (gt l i))
 )
 ) (
 some (0)
 )

def cm(n:Nat)(a:List Int)(b:List Int):Option (List Int):=
 bdO (aK (α:=List Int×Int×Int) (β:=List Int) n (fun again12 (o_1,b_2,i_3)=>(
 cdO (decide (i_3<(a.length:Int))) (
 bdO (aV n a i_3) fun v14=>(
 bdO (aV n b i_3) fun v16=>(
 gdO (decide ((o_1.length+1)*4<=140737488355328)) (
 gdO (decide (o_1.length+1<=4611686018427387904)) (
 again12 (o_1++[aa .u32 ((aa .u64 ((aa .u64 ((aa .u64 (1000000000+v14))-v16))-b_2)).tmod 1000000000)],aa .u64 (1-(aa .u64 ((aa .u64 ((aa .u64 ((aa .u64 (1000000000+v14))-v16))-b_2)).tdiv 1000000000))),Jt (i_3+1))
 )
 )
 )
 )
 ) (
 some (o_1)
 )
 )) ([],0,0)) fun o_11=>(
 bdO (aR n false o_11) fun v23=>(
 some (v23.Groups)
 )
 )

def dq(n:Nat)(a:List Int)(b:List Int):Option (List Int×List Int):=
 cdO (((b.length:Int):Int)==1) (
 gdO (inR 0 b.length) (
 bdO (fj n a (aa .u64 (gt b 0))) fun v3=>(
 bdO (aR n false [(aa .u32 v3.2)]) fun v5=>(
 some ((v3.1,v5.Groups))
 )
 )
 )
 ) (
 bdO (di n a b) fun v7=>(
 cdO (decide (v7<0)) (
 some (([],a))
 ) (
 gdO (inR (Jt ((b.length:Int)-1)) b.length) (
 gdO (!decide (aa .u64 ((aa .u64 (gt b (Jt ((b.length:Int)-1))))+1)=0)) (
 bdO (cu n a (aa .u64 ((1000000000:Int).tdiv (aa .u64 ((aa .u64 (gt b (Jt ((b.length:Int)-1))))+1))))) fun v12=>(
 bdO (cu n b (aa .u64 ((1000000000:Int).tdiv (aa .u64 ((aa .u64 (gt b (Jt ((b.length:Int)-1))))+1))))) fun v14=>(
 gdO (inS (Jt ((Jt ((v12.length:Int)-(b.length:Int)))+1)) (v12.length:Int) v12.length) (
 bdO (aR n false ((v12.drop (Jt ((Jt ((v12.length:Int)-(b.length:Int)))+1)).toNat).take ((v12.length:Int).toNat-(Jt ((Jt ((v12.length:Int)-(b.length:Int)))+1)).toNat))) fun v17=>(
 gdO (decide (0<=Jt ((Jt ((v12.length:Int)-(b.length:Int)))+1))) (
 gdO (decide ((4:Int)*(Jt ((Jt ((v12.length:Int)-(b.length:Int)))+1))<=281474976710656)) (
 gdO (decide (Jt ((Jt ((v12.length:Int)-(b.length:Int)))+1)<=9223372036854775807)) (
 bdO (aK (α:=List Int×List Int×Int) (β:=List Int×List Int) n (fun again60 (r_22,q_23,i_24)=>(
 cdO (decide (i_24>=0)) (
 gdO (inR i_24 v12.length) (
 bdO (dV n r_22 (gt v12 i_24)) fun v63=>(
 bdO (aV n v63 (b.length:Int)) fun v65=>(
 bdO (aV n v63 (Jt ((b.length:Int)-1))) fun v67=>(
 gdO (inR (Jt ((b.length:Int)-1)) v14.length) (
 gdO (!decide (aa .u64 ((aa .u64 (gt v14 (Jt ((b.length:Int)-1))))+1)=0)) (
 bdO (cu n v14 (aa .u64 ((aa .u64 ((aa .u64 (v65*1000000000))+v67)).tdiv (aa .u64 ((aa .u64 (gt v14 (Jt ((b.length:Int)-1))))+1))))) fun v71=>(
 bdO (cm n v63 v71) fun v73=>(
 bdO (aK (α:=List Int×Int) (β:=List Int×Int) n (fun again84 (r_75,g_76)=>(
 bdO (di n r_75 v14) fun v85=>(
 cdO (decide (v85>=0)) (
 bdO (cm n r_75 v14) fun v88=>(
 again84 (v88,aa .u64 (g_76+1))
 )
 ) (
 some ((r_75,g_76))
 )
 )
 )) (v73,aa .u64 ((aa .u64 ((aa .u64 (v65*1000000000))+v67)).tdiv (aa .u64 ((aa .u64 (gt v14 (Jt ((b.length:Int)-1))))+1))))) fun o90=>(
 match o90 with
 |(r_82,g_83)=>(
 gdO (inR i_24 q_23.length) (
 again60 (r_82,q_23.set i_24.toNat (aa .u32 g_83),Jt (i_24-1))
 )
 ))
 )
 )
 )
 )
 )
 )
 )
 )
 ) (
 some ((r_22,q_23))
 )
 )) (v17.Groups,List.replicate (Jt ((Jt ((v12.length:Int)-(b.length:Int)))+1)).toNat ((0:Int):Int),Jt ((v12.length:Int)-(b.length:Int)))) fun o94=>(
 match o94 with
 |(r_58,q_59)=>(
 bdO (fj n r_58 (aa .u64 ((1000000000:Int).tdiv (aa .u64 ((aa .u64 (gt b (Jt ((b.length:Int)-1))))+1))))) fun v97=>(
 bdO (aR n false q_59) fun v99=>(
 some ((v99.Groups,v97.1))
 )
 )
 ))
 )
 )
 )
 )
 )
 )
 )
 )
 )
 )
 )
 )

def dH(n:Nat)(a:List Int):Option (Int):=
 bdO (aV n a 1) fun v1=>(
 bdO (aV n a 0) fun v3=>(
 some (aa .u64 ((aa .u64 (v1*1000000000))+v3))
 )
 )

def fU(n:Nat)(x':ag)(y:ag):Option (ag):=
 bdO (bm n x') fun v1=>(
 bdO (bm n y) fun v3=>(
 bdO (aK (α:=List Int×List Int) (β:=List Int×List Int) n (fun again16 (a_5,b_6)=>(
 cdO (decide ((b_6.length:Int)>0)) (
 cdO (decide ((a_5.length:Int)>2)) (
 bdO (dq n a_5 b_6) fun v19=>(
 again16 (b_6,v19.2)
 )
 ) (
 cdO (decide ((b_6.length:Int)>2)) (
 bdO (dq n a_5 b_6) fun v22=>(
 again16 (b_6,v22.2)
 )
 ) (
 some ((a_5,b_6))
 )
 )
 ) (
 some ((a_5,b_6))
 )
 )) (v1.Groups,v3.Groups)) fun o24=>(
 match o24 with
 |(a_14,b_15)=>(
 cdO (((b_15.length:Int):Int)==0) (
 bdO (aR n false a_14) fun v28=>(
 some (v28)
 )
 ) (
 bdO (dH n a_14) fun v30=>(
 bdO (dH n b_15) fun v32=>(
 bdO (aK (α:=Int×Int) (β:=Int) n (fun again39 (u_34,v_35)=>(
 cdO (decide (v_35>0)) (
 gdO (!decide (v_35=0)) (
 again39 (v_35,u_34.tmod v_35)
 )
 ) (
 some (u_34)
 )
 )) (v30,v32)) fun u_38=>(
 bdO (aR n false [(aa .u32 (u_38.tmod 1000000000)),(aa .u32 (aa .u64 (u_38.tdiv 1000000000)))]) fun v45=>(
 some (v45)
 )
 )
 )
 )
 )
 ))
 )
 )

def eW(n:Nat)(x':ag):Option (ag):=
 bdO (bm n x') fun v1=>(
 bdO (aR n (!v1.Negative) v1.Groups) fun v3=>(
 some (v3)
 )
 )

def gP(n:Nat)(a:List Int)(b:List Int):Option (List Int):=
 bdO (aK (α:=List Int×Int×Int) (β:=List Int×Int) n (fun again20 (o_1,c_2,i_3)=>(
 cdO (decide (i_3<(a.length:Int))) (
 bdO (aV n a i_3) fun v22=>(
 bdO (aV n b i_3) fun v24=>(
 gdO (decide ((o_1.length+1)*4<=140737488355328)) (
 gdO (decide (o_1.length+1<=4611686018427387904)) (
 again20 (o_1++[aa .u32 ((aa .u64 ((aa .u64 (v22+v24))+c_2)).tmod 1000000000)],aa .u64 ((aa .u64 ((aa .u64 (v22+v24))+c_2)).tdiv 1000000000),Jt (i_3+1))
 )
 )
 )
 )
 ) (
 cdO (decide (i_3<(b.length:Int))) (
 bdO (aV n a i_3) fun v29=>(
 bdO (aV n b i_3) fun v31=>(
 gdO (decide ((o_1.length+1)*4<=140737488355328)) (
 gdO (decide (o_1.length+1<=4611686018427387904)) (
 again20 (o_1++[aa .u32 ((aa .u64 ((aa .u64 (v29+v31))+c_2)).tmod 1000000000)],aa .u64 ((aa .u64 ((aa .u64 (v29+v31))+c_2)).tdiv 1000000000),Jt (i_3+1))
 )
 )
 )
 )
 ) (
 some ((o_1,c_2))
 )
 )
 )) ([],0,0)) fun o35=>(
 match o35 with
 |(o_18,c_19)=>(
 gdO (decide ((o_18.length+1)*4<=140737488355328)) (
 gdO (decide (o_18.length+1<=4611686018427387904)) (
 bdO (aR n false (o_18++[aa .u32 c_19])) fun v40=>(
 some (v40.Groups)
 )
 )
 )
 ))

def fR(n:Nat)(x':ag)(y:ag):Option (ag):=
 bdO (bm n x') fun v1=>(
 bdO (bm n y) fun v3=>(
 cdO (v1.Negative==v3.Negative) (
 bdO (gP n v1.Groups v3.Groups) fun v6=>(
 bdO (aR n v1.Negative v6) fun v8=>(
 some (v8)
 )
 )
 ) (
 bdO (di n v1.Groups v3.Groups) fun v10=>(
 cdO (decide (v10>=0)) (
 bdO (cm n v1.Groups v3.Groups) fun v13=>(
 bdO (aR n v1.Negative v13) fun v15=>(
 some (v15)
 )
 )
 ) (
 bdO (cm n v3.Groups v1.Groups) fun v17=>(
 bdO (aR n v3.Negative v17) fun v19=>(
 some (v19)
 )
 )
 )
 )
 )
 )
 )

def dd(n:Nat)(x':ag)(y:ag):Option (ag):=
 bdO (eW n y) fun v1=>(
 bdO (fR n x' v1) fun v3=>(
 some (v3)
 )
 )

def fu(n:Nat)(x':ag)(y:ag):Option (Int):=
 bdO (dd n x' y) fun v1=>(
 bdO (cJ n v1) fun v3=>(
 some (v3)
 )
 )

def cG(n:Nat)(x':ae):Option (Bool):=
 bdO (cS n x'.Num) fun v1=>(
 cdO (!v1) (
 some (false)
 ) (
 bdO (cS n x'.Den) fun v4=>(
 cdO (!v4) (
 some (false)
 ) (
 bdO (cJ n x'.Den) fun v7=>(
 cdO (decide (v7<=0)) (
 some (false)
 ) (
 bdO (fU n x'.Num x'.Den) fun v10=>(
 bdO (ck n 1) fun v12=>(
 bdO (fu n v10 v12) fun v14=>(
 some ((v14:Int)==0)
 )
 )
 )
 )
 )
 )
 )
 )
 )

def cQ(n:Nat)(x':ae):Option (ae):=
 bdO (cG n x') fun v1=>(
 cdO v1 (
 some (x')
 ) (
 bdO (cR n 0) fun v4=>(
 some (v4)
 )
 )
 )

def iD(n:Nat)(x':ae):Option (ae):=
 bdO (cQ n x') fun v1=>(
 bdO (eW n v1.Num) fun v3=>(
 some (ae.mk v3 v1.Den)
 )
 )

def cg(n:Nat)(x':ag)(y:ag):Option (ag):=
 bdO (bm n x') fun v1=>(
 bdO (bm n y) fun v3=>(
 gdO (decide (0<=Jt ((v1.Groups.length:Int)+(v3.Groups.length:Int)))) (
 gdO (decide ((4:Int)*(Jt ((v1.Groups.length:Int)+(v3.Groups.length:Int)))<=281474976710656)) (
 gdO (decide (Jt ((v1.Groups.length:Int)+(v3.Groups.length:Int))<=9223372036854775807)) (
 bdO (aK (α:=List Int×Int) (β:=List Int) n (fun again30 (o_8,i_9)=>(
 cdO (decide (i_9<(v1.Groups.length:Int))) (
 bdO (aK (α:=List Int×Int×Int) (β:=List Int×Int) n (fun again41 (o_32,c_33,j_34)=>(
 cdO (decide (j_34<(v3.Groups.length:Int))) (
 gdO (inR (Jt (i_9+j_34)) o_32.length) (
 gdO (inR i_9 v1.Groups.length) (
 gdO (inR j_34 v3.Groups.length) (
 again41 (o_32.set (Jt (i_9+j_34)).toNat (aa .u32 ((aa .u64 ((aa .u64 ((aa .u64 (gt o_32 (Jt (i_9+j_34))))+(aa .u64 ((aa .u64 (gt v1.Groups i_9))*(aa .u64 (gt v3.Groups j_34))))))+c_33)).tmod 1000000000)),aa .u64 ((aa .u64 ((aa .u64 ((aa .u64 (gt o_32 (Jt (i_9+j_34))))+(aa .u64 ((aa .u64 (gt v1.Groups i_9))*(aa .u64 (gt v3.Groups j_34))))))+c_33)).tdiv 1000000000),Jt (j_34+1))
 )
 )
 )
 ) (
 some ((o_32,c_33))
 )
 )) (o_8,0,0)) fun o46=>(
 match o46 with
 |(o_39,c_40)=>(
 gdO (inR (Jt (i_9+(v3.Groups.length:Int))) o_39.length) (
 again30 (o_39.set (Jt (i_9+(v3.Groups.length:Int))).toNat (aa .u32 c_40),Jt (i_9+1))
 )
 ))
 ) (
 some (o_8)
 )
 )) (List.replicate (Jt ((v1.Groups.length:Int)+(v3.Groups.length:Int))).toNat ((0:Int):Int),0)) fun o_29=>(
 bdO (aR n (v1.Negative !=v3.Negative) o_29) fun v53=>(
 some (v53)
 )
 )
 )
 )
 )
 )
 )

def df(n:Nat)(x':ag)(y:ag):Option (ag×ag×Int):=
 bdO (bm n x') fun v1=>(
 bdO (bm n y) fun v3=>(
 cdO (((v3.Groups.length:Int):Int)==0) (
 some ((ag.mk false [],ag.mk false [],14))
 ) (
 bdO (dq n v1.Groups v3.Groups) fun v6=>(
 bdO (aR n (v1.Negative !=v3.Negative) v6.1) fun v8=>(
 cdO (v1.Negative !=v3.Negative) (
 cdO (decide ((v6.2.length:Int)>0)) (
 bdO (eE n 1) fun v12=>(
 bdO (dd n v8 v12) fun v14=>(
 bdO (cg n v14 v3) fun v16=>(
 bdO (dd n v1 v16) fun v18=>(
 some ((v14,v18,0))
 )
 )
 )
 )
 ) (
 bdO (cg n v8 v3) fun v20=>(
 bdO (dd n v1 v20) fun v22=>(
 some ((v8,v22,0))
 )
 )
 )
 ) (
 bdO (cg n v8 v3) fun v24=>(
 bdO (dd n v1 v24) fun v26=>(
 some ((v8,v26,0))
 )
 )
 )
 )
 )
 )
 )
 )

def dU(n:Nat)(num:ag)(den:ag):Option (ae):=
 bdO (fU n num den) fun v1=>(
 bdO (cJ n den) fun v3=>(
 cdO (decide (v3<0)) (
 bdO (eW n v1) fun v6=>(
 bdO (df n num v6) fun v8=>(
 bdO (df n den v6) fun v10=>(
 some (ae.mk v8.1 v10.1)
 )
 )
 )
 ) (
 bdO (df n num v1) fun v12=>(
 bdO (df n den v1) fun v14=>(
 some (ae.mk v12.1 v14.1)
 )
 )
 )
 )
 )

def fT(n:Nat)(x':ae)(y:ae):Option (ae):=
 bdO (cQ n x') fun v1=>(
 bdO (cQ n y) fun v3=>(
 bdO (cg n v1.Num v3.Den) fun v5=>(
 bdO (cg n v3.Num v1.Den) fun v7=>(
 bdO (fR n v5 v7) fun v9=>(
 bdO (cg n v1.Den v3.Den) fun v11=>(
 bdO (dU n v9 v11) fun v13=>(
 some (v13)
 )
 )
 )
 )
 )
 )
 )

def ir(n:Nat)(x':ae)(y:ae):Option (ae):=
 bdO (iD n y) fun v1=>(
 bdO (fT n x' v1) fun v3=>(
 some (v3)
 )
 )

def fx(n:Nat)(x':ae):Option (Int):=
 bdO (cQ n x') fun v1=>(
 bdO (cJ n v1.Num) fun v3=>(
 some (v3)
 )
 )

def ft(n:Nat)(x':ae)(y:ae):Option (Int):=
 bdO (ir n x' y) fun v1=>(
 bdO (fx n v1) fun v3=>(
 some (v3)
 )
 )

def cK(n:Nat)(x':ae)(y:ae):Option (Bool):=
 bdO (cG n x') fun v1=>(
 cdO v1 (
 bdO (cG n y) fun v4=>(
 cdO v4 (
 bdO (ft n x' y) fun v7=>(
 some ((v7:Int)==0)
 )
 ) (
 some (false)
 )
 )
 ) (
 some (false)
 )
 )

def gJ(n:Nat)(x':ag)(y:ag):Option (Bool):=
 cdO (x'.Negative !=y.Negative) (
 some (false)
 ) (
 cdO (((x'.Groups.length:Int):Int)!=(y.Groups.length:Int)) (
 some (false)
 ) (
 bdO (aK (α:=Int) (β:=Sum (Unit) (Bool)) n (fun again8 i_3=>(
 cdO (decide (i_3<(x'.Groups.length:Int))) (
 gdO (inR i_3 x'.Groups.length) (
 gdO (inR i_3 y.Groups.length) (
 cdO (((gt x'.Groups i_3):Int)!=(gt y.Groups i_3)) (
 some (Sum.inr (false))
 ) (
 again8 (Jt (i_3+1))
 )
 )
 )
 ) (
 some (Sum.inl ())
 )
 )) 0) fun o13=>(
 match o13 with
 |.inl _=>(
 some (true)
 )
 |.inr (r0)=>(
 some r0
 ))
 )
 )

noncomputable def fM(n:Nat):Option (Bool):=
 bdO (fY n) fun v1=>(
 bdO (jk n v1 0) fun v3=>(
 bdO (fY n) fun v5=>(
 bdO (kq n v5 (-1)) fun v7=>(
 bdO (ln n v7.1) fun v9=>(
 bdO (fY n) fun v11=>(
 bdO (iV n v11 (-1)) fun v13=>(
 cdO ((v3.2.2:Int)==0) (
 cdO ((v7.2:Int)==0) (
 cdO ((v9.2:Int)==0) (
 cdO ((v13.2:Int)==0) (
 bdO (cR n 16) fun v19=>(
 bdO (cK n v3.1 v19) fun v21=>(
 cdO v21 (
 bdO (eE n 192) fun v24=>(
 bdO (gJ n v9.1 v24) fun v26=>(
 cdO v26 (
 bdO (cR n 24) fun v29=>(
 bdO (cK n v13.1 v29) fun v31=>(
 some (v31)
 )
 )
 ) (
 some (false)
 )
 )
 )
 ) (
 some (false)
 )
 )
 )
 ) (
 some (false)
 )
 ) (
 some (false)
 )
 ) (
 some (false)
 )
 ) (
 some (false)
 )
 )
 )
 )
 )
 )
 )
 )

def mW(n:Nat)(g:ak):Option (Int×Int):=
 bdO (fI n g) fun v1=>(
 cdO ((v1:Int)!=0) (
 some ((0,v1))
 ) (
 bdO (fy n g) fun v4=>(
 some ((Jt ((Jt ((v4.length:Int)*g.Step))*g.Step),0))
 )
 )
 )

def fe(n:Nat)(num:ag)(den:ag):Option (ae×Int):=
 bdO (cJ n den) fun v1=>(
 cdO ((v1:Int)==0) (
 some ((ae.mk (ag.mk false []) (ag.mk false []),14))
 ) (
 bdO (dU n num den) fun v4=>(
 some ((v4,0))
 )
 )
 )

def iM(n:Nat)(n':Int)(d:Int):Option (ae×Int):=
 bdO (ck n n') fun v1=>(
 bdO (ck n d) fun v3=>(
 bdO (fe n v1 v3) fun v5=>(
 some ((v5.1,v5.2))
 )
 )
 )

noncomputable def om(n:Nat)(m':aj):Option (List (List Int)):=
 bdO (jy n m') fun v1=>(
 bdO (aK (α:=List (List Int)×List (Int×Bool)×Int) (β:=List (List Int)) n (fun again27 (o_3,d_4,x_5)=>(
 cdO (decide (x_5<(m'.Vertices.length:Int))) (
 cdO (!(eL v1 x_5)) (
 again27 (o_3,d_4,Jt (x_5+1))
 ) (
 cdO (getM false d_4 x_5) (
 again27 (o_3,d_4,Jt (x_5+1))
 ) (
 bdO (aK (α:=List (Int×Bool)×List Int×Int) (β:=List (Int×Bool)×List Int) n (fun again39 (d_31,l_32,a_33)=>(
 cdO (getM false d_31 a_33) (
 some ((d_31,l_32))
 ) (
 gdO (decide ((l_32.length+1)*8<=140737488355328)) (
 gdO (decide (l_32.length+1<=4611686018427387904)) (
 again39 (al d_31 a_33 true,l_32++[a_33],(getM 0 v1 a_33))
 )
 )
 )
 )) (d_4,[],x_5)) fun o43=>(
 match o43 with
 |(d_37,l_38)=>(
 gdO (decide ((o_3.length+1)*24<=140737488355328)) (
 gdO (decide (o_3.length+1<=4611686018427387904)) (
 again27 (o_3++[l_38],d_37,Jt (x_5+1))
 )
 )
 ))
 )
 )
 ) (
 some (o_3)
 )
 )) ([],([]:List (Int×Bool)),0)) fun o_26=>(
 some (o_26)
 )
 )

noncomputable def lJ(n:Nat)(m':aj):Option (List (List Int)×Int):=
 bdO (kj n m') fun v1=>(
 cdO ((v1:Int)!=0) (
 some (([],v1))
 ) (
 bdO (om n m') fun v4=>(
 some ((v4,0))
 )
 )
 )

def mK(n:Nat)(m':aj):Option (A3 Int×Int):=
 bdO (kj n m') fun v1=>(
 cdO ((v1:Int)!=0) (
 some (((A3.mk 0 0 0:A3 Int),v1))
 ) (
 bdO (aK (α:=Int×Int×Int×Int) (β:=Int×Int×Int) n (fun again16 (o_4,o_5,o_6,x_7)=>(
 cdO (decide (x_7<(m'.Faces.length:Int))) (
 gdO (inR x_7 m'.Faces.length) (
 gdO (inR (gt m'.Faces x_7).e0 m'.Vertices.length) (
 gdO (inR (gt m'.Faces x_7).e1 m'.Vertices.length) (
 gdO (inR (gt m'.Faces x_7).e2 m'.Vertices.length) (
 again16 (Jt (o_4+(Jt ((Jt ((Jt ((gt m'.Vertices (gt m'.Faces x_7).e1).Y-(gt m'.Vertices (gt m'.Faces x_7).e0).Y))*(Jt ((gt m'.Vertices (gt m'.Faces x_7).e2).Z-(gt m'.Vertices (gt m'.Faces x_7).e0).Z))))-(Jt ((Jt ((gt m'.Vertices (gt m'.Faces x_7).e1).Z-(gt m'.Vertices (gt m'.Faces x_7).e0).Z))*(Jt ((gt m'.Vertices (gt m'.Faces x_7).e2).Y-(gt m'.Vertices (gt m'.Faces x_7).e0).Y))))))),Jt (o_5+(Jt ((Jt ((Jt ((gt m'.Vertices (gt m'.Faces x_7).e1).Z-(gt m'.Vertices (gt m'.Faces x_7).e0).Z))*(Jt ((gt m'.Vertices (gt m'.Faces x_7).e2).X-(gt m'.Vertices (gt m'.Faces x_7).e0).X))))-(Jt ((Jt ((gt m'.Vertices (gt m'.Faces x_7).e1).X-(gt m'.Vertices (gt m'.Faces x_7).e0).X))*(Jt ((gt m'.Vertices (gt m'.Faces x_7).e2).Z-(gt m'.Vertices (gt m'.Faces x_7).e0).Z))))))),Jt (o_6+(Jt ((Jt ((Jt ((gt m'.Vertices (gt m'.Faces x_7).e1).X-(gt m'.Vertices (gt m'.Faces x_7).e0).X))*(Jt ((gt m'.Vertices (gt m'.Faces x_7).e2).Y-(gt m'.Vertices (gt m'.Faces x_7).e0).Y))))-(Jt ((Jt ((gt m'.Vertices (gt m'.Faces x_7).e1).Y-(gt m'.Vertices (gt m'.Faces x_7).e0).Y))*(Jt ((gt m'.Vertices (gt m'.Faces x_7).e2).X-(gt m'.Vertices (gt m'.Faces x_7).e0).X))))))),Jt (x_7+1))
 )
 )
 )
 )
 ) (
 some ((o_4,o_5,o_6))
 )
 )) (0,0,0,0)) fun o22=>(
 match o22 with
 |(o_13,o_14,o_15)=>(
 some ((A3.mk o_13 o_14 o_15,0))
 ))
 )
 )

noncomputable def eC(n:Nat)(g:ak)(base:Int):Option (Bool):=
 bdO (fM n) fun v1=>(
 cdO (!v1) (
 some (false)
 ) (
 cdO (decide ((g.Z.length:Int)>25)) (
 some (true)
 ) (
 bdO (fI n g) fun v5=>(
 cdO ((v5:Int)!=0) (
 some (true)
 ) (
 bdO (aK (α:=Int) (β:=Sum (Unit) (Bool)) n (fun again13 x_8=>(
 cdO (decide (x_8<(g.Z.length:Int))) (
 gdO (inR x_8 g.Z.length) (
 cdO (decide ((gt g.Z x_8)<(Jt base))) (
 some (Sum.inr (true))
 ) (
 cdO (decide ((gt g.Z x_8)>10000)) (
 some (Sum.inr (true))
 ) (
 again13 (Jt (x_8+1))
 )
 )
 )
 ) (
 some (Sum.inl ())
 )
 )) 0) fun o18=>(
 match o18 with
 |.inl _=>(
 cdO (decide ((Jt (g.X0+(Jt (g.Width*g.Step))))>1048576)) (
 some (true)
 ) (
 cdO (decide ((Jt (g.Y0+(Jt (g.Height*g.Step))))>1048576)) (
 some (true)
 ) (
 bdO (jk n g (Jt base)) fun v23=>(
 bdO (mW n g) fun v25=>(
 bdO (iV n g (Jt ((Jt (2*(Jt base)))-1))) fun v27=>(
 bdO (kq n g (Jt base)) fun v29=>(
 cdO (((Jt ((Jt ((Jt (v23.2.2+v25.2))+v27.2))+v29.2)):Int)!=0) (
 some (false)
 ) (
 bdO (fx n v23.2.1) fun v32=>(
 cdO ((v32:Int)!=0) (
 some (false)
 ) (
 bdO (cG n v23.2.1) fun v35=>(
 cdO (!v35) (
 some (false)
 ) (
 bdO (iM n v25.1 4) fun v38=>(
 bdO (fT n v23.1 v38.1) fun v40=>(
 bdO (cK n v27.1 v40) fun v42=>(
 cdO (!v42) (
 some (false)
 ) (
 bdO (lJ n v29.1) fun v45=>(
 bdO (ln n v29.1) fun v47=>(
 bdO (mK n v29.1) fun v49=>(
 cdO (((Jt ((Jt (v45.2+v47.2))+v49.2)):Int)!=0) (
 some (false)
 ) (
 cdO (((v45.1.length:Int):Int)!=0) (
 some (false)
 ) (
 cdO (!(((v49.1.e0:Int)==0)&&(((v49.1.e1:Int)==0)&&(((v49.1.e2:Int)==0)&&true)))) (
 some (false)
 ) (
 bdO (eE n 6) fun v54=>(
 bdO (fe n v47.1 v54) fun v56=>(
 bdO (cK n v56.1 v23.1) fun v58=>(
 some (v58)
 )
 )
 )
 )
 )
 )
 )
 )
 )
 )
 )
 )
 )
 )
 )
 )
 )
 )
 )
 )
 )
 )
 )
 )
 )
 |.inr (r0)=>(
 some r0
 ))
 )
 )
 )
 )
 )
abbrev iCu:=iC .u32
abbrev wFu(n:Int):Int:=aa .u64 n
abbrev zN2:List AV:=[aB false,nS,aB false,nS]
abbrev zN3:List AV:=[aB false,nS,aB false,nS,aB false,nS]
abbrev zN4:List AV:=[aB false,nS,aB false,nS,aB false,nS,aB false,nS]
end Go.L