
import Derived.Test.YtlhnaccgnegjdaaGreatSc11Ness
import Derived.Test.YtlhnaccgnegjdaaGreatScMNess
import Derived.Test.YtlhnaccgnegjdaaGreatScRNess
import Derived.Test.YtlhnaccgnegjdaaGreatScWNess
import Derived.Test.YtlhnaccgnegjdaaGreatScSNess
set_option linter.all false
set_option maxRecDepth 100000
set_option maxHeartbeats 4000000
namespace Go.L
open Go Go.Eng
structure ak where
 X0:Int
 Y0:Int
 Step:Int
 Width:Int
 Height:Int
 Z:List Int
 deriving Inhabited

structure ah where
 Negative:Bool
 Groups:List Int
 deriving Inhabited,DecidableEq

structure aj where
 Num:ah
 Den:ah
 deriving Inhabited,DecidableEq

structure an where
 A:Int
 B:Int
 At:aj
 deriving Inhabited,DecidableEq

structure ae where
 Closed:Bool
 Points:List an
 deriving Inhabited,DecidableEq

structure A2 (α:Type) where
 e0:α
 e1:α
 deriving Inhabited,DecidableEq

def ar.K(x:A2 Int):Value:=.agg #[.int .i64 x.e0,.int .i64 x.e1]
theorem ar.key:Ep ar.K:=fun⟨a0,a1⟩ ⟨b0,b1⟩=>by
 have h:((⟨a0,a1⟩:A2 Int)==⟨b0,b1⟩)=(a0==b0&&(a1==b1&&true)):=by rw[Bool.eq_iff_iff];simp
 show some _=some _;rw[h]

def ai.c(x:A2 Int):List AV:=[.at (.int .i64 x.e0),.at (.int .i64 x.e1)]
theorem ai.len:∀x,(ai.c x).length=2:=fun _=>rfl
theorem ai.pure:∀x,cj (ai.c x)=[]:=fun _=>rfl

structure A3 (α:Type) where
 e0:α
 e1:α
 e2:α
 deriving Inhabited

def aA.c(x:A3 Int):List AV:=[.at (.int .i64 x.e0),.at (.int .i64 x.e1),.at (.int .i64 x.e2)]
theorem aA.len:∀x,(aA.c x).length=3:=fun _=>rfl
theorem aA.pure:∀x,cj (aA.c x)=[]:=fun _=>rfl

def A3.get(x:A3 Int)(j:Int):Int:=gt [x.e0,x.e1,x.e2] j
def A3.put(x:A3 Int)(j v:Int):A3 Int:=⟨if j.toNat=0 then v else x.e0,if j.toNat=1 then v else x.e1,if j.toNat=2 then v else x.e2⟩
theorem A3.Jt{k:IntKind}(x:A3 Int){j:Int}(v:Int)(h:inR j 3=true):setCells [.at (.int k x.e0),.at (.int k x.e1),.at (.int k x.e2)] j.toNat [.at (.int k v)]=[.at (.int k (x.put j v).e0),.at (.int k (x.put j v).e1),.at (.int k (x.put j v).e2)]:=by
 have h1:=aE h;have hj:j.toNat=0\/j.toNat=1\/j.toNat=2:=by omega
 unfold A3.put;rcases hj with e|e|e<;>simp only[e]<;>rfl

def an.c(x:an):List AV:=[.at (.int .i64 x.A),.at (.int .i64 x.B),.at (.bool x.At.Num.Negative),slT (iC .u32) x.At.Num.Groups,.at (.bool x.At.Den.Negative),slT (iC .u32) x.At.Den.Groups]
theorem an.len:∀x,(an.c x).length=6:=fun _=>rfl
theorem an.pure:∀x,cj (an.c x)=[]:=fun _=>rfl

def ae.c(x:ae):List AV:=[.at (.bool x.Closed),slT an.c x.Points]
theorem ae.len:∀x,(ae.c x).length=2:=fun _=>rfl
theorem ae.pure:∀x,cj (ae.c x)=[]:=fun _=>rfl

theorem an.inj:∀x y,an.c x=an.c y->x=y:=by
 rintro⟨_,_,⟨⟨_,_⟩,⟨_,_⟩⟩⟩ ⟨_,_,⟨⟨_,_⟩,⟨_,_⟩⟩⟩ h;simp only[an.c,List.cons.injEq,AV.at.injEq,Value.int.injEq,Value.bool.injEq,true_and,and_true,dK]at h;simp_all

structure al where
 X:aj
 Y:aj
 deriving Inhabited

def al.c(x:al):List AV:=[.at (.bool x.X.Num.Negative),slT (iC .u32) x.X.Num.Groups,.at (.bool x.X.Den.Negative),slT (iC .u32) x.X.Den.Groups,.at (.bool x.Y.Num.Negative),slT (iC .u32) x.Y.Num.Groups,.at (.bool x.Y.Den.Negative),slT (iC .u32) x.Y.Den.Groups]
theorem al.len:∀x,(al.c x).length=8:=fun _=>rfl
theorem al.pure:∀x,cj (al.c x)=[]:=fun _=>rfl

def aI.c(x:A2 (A2 Int)):List AV:=[.at (.int .i64 x.e0.e0),.at (.int .i64 x.e0.e1),.at (.int .i64 x.e1.e0),.at (.int .i64 x.e1.e1)]
theorem aI.len:∀x,(aI.c x).length=4:=fun _=>rfl
theorem aI.pure:∀x,cj (aI.c x)=[]:=fun _=>rfl

def aT.c(x:A2 Int):List AV:=[.at (.int .i64 x.e0),.at (.int .i64 x.e1)]
theorem aT.len:∀x,(aT.c x).length=2:=fun _=>rfl
theorem aT.pure:∀x,cj (aT.c x)=[]:=fun _=>rfl

def ak.c(x:ak):List AV:=[.at (.int .i64 x.X0),.at (.int .i64 x.Y0),.at (.int .i64 x.Step),.at (.int .i64 x.Width),.at (.int .i64 x.Height),slT (iC .i64) x.Z]
theorem ak.len:∀x,(ak.c x).length=6:=fun _=>rfl
theorem ak.pure:∀x,cj (ak.c x)=[]:=fun _=>rfl

def aj.c(x:aj):List AV:=[.at (.bool x.Num.Negative),slT (iC .u32) x.Num.Groups,.at (.bool x.Den.Negative),slT (iC .u32) x.Den.Groups]
theorem aj.len:∀x,(aj.c x).length=4:=fun _=>rfl
theorem aj.pure:∀x,cj (aj.c x)=[]:=fun _=>rfl

def ah.c(x:ah):List AV:=[.at (.bool x.Negative),slT (iC .u32) x.Groups]
theorem ah.len:∀x,(ah.c x).length=2:=fun _=>rfl
theorem ah.pure:∀x,cj (ah.c x)=[]:=fun _=>rfl

def dP(n:Nat)(k:Int)(p:Int)(p':Int)(p'':Int)(DK:Int)(zw:Int)(rT:List Int)(uL:Int):Option (Bool):=
 gdO (inR k rT.length) (
 some (decide ((Jy (2*(gt rT k)))>uL))
 )

def mE(n:Nat)(a:Int)(b:Int):Option (A2 Int):=
 some (A2.mk (mn a b) (mx a b))

def fS(n:Nat)(t:A3 Int)(c:Int)(c':Int)(c'':Int)(D1:Int)(ze:Int)(vg:List Int)(sR:Int)(p:List (A2 Int×A2 Int))(p':List (A2 Int×Bool)):Option (List (A2 Int×A2 Int)×List (A2 Int×Bool)):=
 bdO (aJ (α:=Int×Int×Int×Int×Bool×Int) (β:=Int×Int×Int×Int×Bool) n (fun again110 (f_71,f_72,t_73,t_74,c_75,x_76)=>(
 cdO (decide (x_76<3)) (
 gdO (inR x_76 3) (
 gdO (inR ((Jy (x_76+1)).tmod 3) 3) (
 bdO (some (A3.get t ((Jy (x_76+1)).tmod 3))) fun w115=>(
 bdO (α:=Bool) (
 bdO (dP n (A3.get t x_76) c c' c'' D1 ze vg sR) fun v120=>(
 cdO v120 (
 bdO (dP n w115 c c' c'' D1 ze vg sR) fun v123=>(
 some (!v123)
 )
 ) (
 some (false)
 )
 )
 ) fun x_119=>(
 cdO x_119 (
 bdO (mE n (A3.get t x_76) w115) fun v129=>(
 again110 (v129.e0,v129.e1,t_73,t_74,true,Jy (x_76+1))
 )
 ) (
 bdO (dP n (A3.get t x_76) c c' c'' D1 ze vg sR) fun v131=>(
 cdO (!v131) (
 bdO (dP n w115 c c' c'' D1 ze vg sR) fun v134=>(
 cdO v134 (
 bdO (mE n (A3.get t x_76) w115) fun v137=>(
 again110 (f_71,f_72,v137.e0,v137.e1,c_75,Jy (x_76+1))
 )
 ) (
 again110 (f_71,f_72,t_73,t_74,c_75,Jy (x_76+1))
 )
 )
 ) (
 again110 (f_71,f_72,t_73,t_74,c_75,Jy (x_76+1))
 )
 )
 )
 )
 )
 )
 )
 ) (
 some ((f_71,f_72,t_73,t_74,c_75))
 )
 )) (0,0,0,0,false,0)) fun o139=>(
 match o139 with
 |(f_105,f_106,t_107,t_108,c_109)=>(
 cdO c_109 (
 some ((dm p (A2.mk f_105 f_106) (A2.mk t_107 t_108),dm p' (A2.mk t_107 t_108) true))
 ) (
 some ((p,p'))
 )
 ))

def aY(n:Nat)(g:ak)(c:Int)(c':Int)(c'':Int)(D1:Int)(ze:Int)(vg:List Int)(sR:Int)(FC:List (A2 Int×A2 Int))(D8:List (A2 Int×Bool)):Option (List (A2 Int×A2 Int)×List (A2 Int×Bool)):=
 bdO (aJ (α:=List (A2 Int×A2 Int)×List (A2 Int×Bool)×Int) (β:=List (A2 Int×A2 Int)×List (A2 Int×Bool)) n (fun again272 (c_182,c_183,x_184)=>(
 cdO (decide (x_184<(Jy (g.Height-1)))) (
 bdO (aJ (α:=List (A2 Int×A2 Int)×List (A2 Int×Bool)×Int) (β:=List (A2 Int×A2 Int)×List (A2 Int×Bool)) n (fun again317 (c_275,c_276,x_277)=>(
 cdO (decide (x_277<(Jy (g.Width-1)))) (
 bdO (some (Jy ((Jy (x_184*g.Width))+x_277))) fun w320=>(
 bdO (some [A3.mk w320 (Jy (w320+1)) (Jy ((Jy (w320+g.Width))+1)),A3.mk w320 (Jy ((Jy (w320+g.Width))+1)) (Jy (w320+g.Width))]) fun w322=>(
 bdO (aJ (α:=List (A2 Int×A2 Int)×List (A2 Int×Bool)×Int) (β:=List (A2 Int×A2 Int)×List (A2 Int×Bool)) n (fun again340 (c_324,c_325,x_326)=>(
 cdO (decide (x_326<2)) (
 gdO (inR x_326 w322.length) (
 gdO (inR (gt w322 x_326).e0 g.Z.length) (
 cdO (((gt g.Z (gt w322 x_326).e0):Int)!=(-2147483648)) (
 gdO (inR (gt w322 x_326).e1 g.Z.length) (
 cdO (((gt g.Z (gt w322 x_326).e1):Int)!=(-2147483648)) (
 gdO (inR (gt w322 x_326).e2 g.Z.length) (
 cdO (((gt g.Z (gt w322 x_326).e2):Int)!=(-2147483648)) (
 bdO (fS n (gt w322 x_326) c c' c'' D1 ze vg sR c_324 c_325) fun v350=>(
 again340 (v350.1,v350.2,Jy (x_326+1))
 )
 ) (
 again340 (c_324,c_325,Jy (x_326+1))
 )
 )
 ) (
 again340 (c_324,c_325,Jy (x_326+1))
 )
 )
 ) (
 again340 (c_324,c_325,Jy (x_326+1))
 )
 )
 )
 ) (
 some ((c_324,c_325))
 )
 )) (c_275,c_276,0)) fun o352=>(
 match o352 with
 |(c_338,c_339)=>(
 again317 (c_338,c_339,Jy (x_277+1))
 ))
 )
 )
 ) (
 some ((c_275,c_276))
 )
 )) (c_182,c_183,0)) fun o355=>(
 match o355 with
 |(c_315,c_316)=>(
 again272 (c_315,c_316,Jy (x_184+1))
 ))
 ) (
 some ((c_182,c_183))
 )
 )) (FC,D8,0)) fun o358=>(
 match o358 with
 |(c_270,c_271)=>(
 some ((c_270,c_271))
 ))

def fV(n:Nat)(a:A2 Int)(b:A2 Int):Option (Int):=
 cdO ((a.e0:Int)!=b.e0) (
 some (Jy (a.e0-b.e0))
 ) (
 some (Jy (a.e1-b.e1))
 )

def aD(n:Nat)(x':List (A2 Int)):Option (List (A2 Int)):=
 gdO (decide (x'.length<4611686018427387904)) (
 wA (fun x y=>fV n x y) x'
 )

def cV(n:Nat)(n':Int):Option (List Int):=
 bdO (aJ (α:=Int×List Int) (β:=List Int) n (fun again7 (n_1,g_2)=>(
 cdO (decide (n_1>0)) (
 gdO (decide ((g_2.length+1)*4<=140737488355328)) (
 gdO (decide (g_2.length+1<=4611686018427387904)) (
 again7 (aa .u64 (n_1.tdiv 1000000000),g_2++[aa .u32 (n_1.tmod 1000000000)])
 )
 )
 ) (
 some (g_2)
 )
 )) (n',[])) fun g_6=>(
 some (g_6)
 )

def eG(n:Nat)(g:List Int):Option (List Int):=
 bdO (aJ (α:=List Int) (β:=List Int) n (fun again7 g_1=>(
 cdO (decide ((g_1.length:Int)>0)) (
 gdO (inR (Jy ((g_1.length:Int)-1)) g_1.length) (
 cdO (((gt g_1 (Jy ((g_1.length:Int)-1))):Int)==0) (
 gdO (inS 0 (Jy ((g_1.length:Int)-1)) g_1.length) (
 again7 ((g_1.drop (0:Int).toNat).take ((Jy ((g_1.length:Int)-1)).toNat-(0:Int).toNat))
 )
 ) (
 some (g_1)
 )
 )
 ) (
 some (g_1)
 )
 )) g) fun g_6=>(
 some (g_6)
 )

def bU(n:Nat)(negative:Bool)(g:List Int):Option (ah):=
 bdO (eG n g) fun v1=>(
 cdO (((v1.length:Int):Int)==0) (
 some (ah.mk false [])
 ) (
 some (ah.mk negative v1)
 )
 )

def gb(n:Nat)(n':Int):Option (ah):=
 cdO (decide (n'<0)) (
 bdO (cV n (aa .u64 (0-(aa .u64 n')))) fun v2=>(
 bdO (bU n true v2) fun v4=>(
 some (v4)
 )
 )
 ) (
 bdO (cV n (aa .u64 n')) fun v6=>(
 bdO (bU n false v6) fun v8=>(
 some (v8)
 )
 )
 )

def nM(n:Nat)(g:Int):Option (Bool):=
 some (decide (g>=1000000000))

def bF(n:Nat)(s:List Int):Option (Int):=
 bdO (aJ (α:=Int) (β:=Sum (Unit) (Int)) n (fun again7 x_1=>(
 cdO (decide (x_1<(s.length:Int))) (
 gdO (inR x_1 s.length) (
 bdO (nM n (gt s x_1)) fun v10=>(
 cdO v10 (
 some (Sum.inr (x_1))
 ) (
 again7 (Jy (x_1+1))
 )
 )
 )
 ) (
 some (Sum.inl ())
 )
 )) 0) fun o13=>(
 match o13 with
 |.inl _=>(
 some ((-1))
 )
 |.inr (r0)=>(
 some r0
 ))

def bc(n:Nat)(s:List Int):Option (Bool):=
 bdO (bF n s) fun v1=>(
 some (decide (v1>=0))
 )

def eO(n:Nat)(x':ah):Option (Bool):=
 cdO (((x'.Groups.length:Int):Int)==0) (
 some (!x'.Negative)
 ) (
 gdO (inR (Jy ((x'.Groups.length:Int)-1)) x'.Groups.length) (
 cdO (((gt x'.Groups (Jy ((x'.Groups.length:Int)-1))):Int)!=0) (
 bdO (bc n x'.Groups) fun v4=>(
 some (!v4)
 )
 ) (
 some (false)
 )
 )
 )

def ft(n:Nat)(n':ah):Option (ah):=
 bdO (eO n n') fun v1=>(
 cdO v1 (
 some (n')
 ) (
 bdO (gb n 0) fun v4=>(
 some (v4)
 )
 )
 )

def bG(n:Nat)(x':ah):Option (List Int):=
 bdO (eO n x') fun v1=>(
 cdO (!v1) (
 some ([])
 ) (
 some (x'.Groups)
 )
 )

def dT(n:Nat)(x':ah):Option (Int):=
 bdO (bG n x') fun v1=>(
 cdO (((v1.length:Int):Int)==0) (
 some (0)
 ) (
 cdO x'.Negative (
 some ((-1))
 ) (
 some (1)
 )
 )
 )

def cv(n:Nat)(s:List Int):Option (List Int):=
 gdO (decide ((0+s.length)*4<=140737488355328)) (
 gdO (decide (0+s.length<=4611686018427387904)) (
 some (s)
 )
 )

def eJ(n:Nat)(x':ah):Option (ah):=
 bdO (bG n x') fun v1=>(
 bdO (cv n v1) fun v3=>(
 bdO (bU n (!x'.Negative) v3) fun v5=>(
 some (v5)
 )
 )
 )




def jH(n:Nat)(a:List Int)(b:List Int):Option (List Int):=
 gdO (decide (0<=Jy ((a.length:Int)+(b.length:Int)))) (
 gdO (decide ((4:Int)*(Jy ((a.length:Int)+(b.length:Int)))<=281474976710656)) (
 gdO (decide (Jy ((a.length:Int)+(b.length:Int))<=9223372036854775807)) (
 bdO (aJ (α:=List Int×Int) (β:=List Int) n (fun again25 (o_4,x_5)=>(
 cdO (decide (x_5<(a.length:Int))) (
 gdO (inR x_5 a.length) (
 bdO (aJ (α:=List Int×Int×Int) (β:=List Int×Int) n (fun again36 (o_28,c_29,x_30)=>(
 cdO (decide (x_30<(b.length:Int))) (
 gdO (inR x_30 b.length) (
 gdO (inR (Jy (x_5+x_30)) o_28.length) (
 again36 (o_28.set (Jy (x_5+x_30)).toNat (aa .u32 ((aa .u64 ((aa .u64 ((aa .u64 (gt o_28 (Jy (x_5+x_30))))+(aa .u64 ((aa .u64 (gt a x_5))*(aa .u64 (gt b x_30))))))+c_29)).tmod 1000000000)),aa .u64 ((aa .u64 ((aa .u64 ((aa .u64 (gt o_28 (Jy (x_5+x_30))))+(aa .u64 ((aa .u64 (gt a x_5))*(aa .u64 (gt b x_30))))))+c_29)).tdiv 1000000000),Jy (x_30+1))
 )
 )
 ) (
 some ((o_28,c_29))
 )
 )) (o_4,0,0)) fun o40=>(
 match o40 with
 |(o_34,c_35)=>(
 gdO (inR (Jy (x_5+(b.length:Int))) o_34.length) (
 again25 (o_34.set (Jy (x_5+(b.length:Int))).toNat (aa .u32 c_35),Jy (x_5+1))
 )
 ))
 )
 ) (
 some (o_4)
 )
 )) (List.replicate (Jy ((a.length:Int)+(b.length:Int))).toNat ((0:Int):Int),0)) fun o_24=>(
 bdO (eG n o_24) fun v47=>(
 some (v47)
 )
 )
 )
 )
 )

def oI(n:Nat)(g:List Int):Option (List Int):=
 bdO (aJ (α:=List Int) (β:=List Int) n (fun again22 g_16=>(
 cdO (decide ((g_16.length:Int)>0)) (
 gdO (inR (Jy ((g_16.length:Int)-1)) g_16.length) (
 cdO (((gt g_16 (Jy ((g_16.length:Int)-1))):Int)==0) (
 gdO (inS 0 (Jy ((g_16.length:Int)-1)) g_16.length) (
 again22 (g_16.take (Jy ((g_16.length:Int)-1)).toNat)
 )
 ) (
 some (g_16)
 )
 )
 ) (
 some (g_16)
 )
 )) g) fun g_21=>(
 some (g_21)
 )

def jv(n:Nat)(a:List Int)(b:List Int):Option (List Int):=
 gdO (decide (0<=Jy ((a.length:Int)+(b.length:Int)))) (
 gdO (decide ((4:Int)*(Jy ((a.length:Int)+(b.length:Int)))<=281474976710656)) (
 gdO (decide (Jy ((a.length:Int)+(b.length:Int))<=9223372036854775807)) (
 bdO (aJ (α:=List Int×Int) (β:=List Int) n (fun again74 (o_53,x_54)=>(
 cdO (decide (x_54<(a.length:Int))) (
 gdO (inR x_54 a.length) (
 bdO (aJ (α:=List Int×Int×Int) (β:=List Int×Int) n (fun again85 (o_77,c_78,x_79)=>(
 cdO (decide (x_79<(b.length:Int))) (
 gdO (inR x_79 b.length) (
 gdO (inR (Jy (x_54+x_79)) o_77.length) (
 again85 (o_77.set (Jy (x_54+x_79)).toNat (aa .u32 ((aa .u64 ((aa .u64 ((aa .u64 (gt o_77 (Jy (x_54+x_79))))+(aa .u64 ((aa .u64 (gt a x_54))*(aa .u64 (gt b x_79))))))+c_78)).tmod 1000000000)),aa .u64 ((aa .u64 ((aa .u64 ((aa .u64 (gt o_77 (Jy (x_54+x_79))))+(aa .u64 ((aa .u64 (gt a x_54))*(aa .u64 (gt b x_79))))))+c_78)).tdiv 1000000000),Jy (x_79+1))
 )
 )
 ) (
 some ((o_77,c_78))
 )
 )) (o_53,0,0)) fun o89=>(
 match o89 with
 |(o_83,c_84)=>(
 gdO (inR (Jy (x_54+(b.length:Int))) o_83.length) (
 again74 (o_83.set (Jy (x_54+(b.length:Int))).toNat (aa .u32 c_84),Jy (x_54+1))
 )
 ))
 )
 ) (
 some (o_53)
 )
 )) (List.replicate (Jy ((a.length:Int)+(b.length:Int))).toNat ((0:Int):Int),0)) fun o_73=>(
 bdO (oI n o_73) fun v96=>(
 some (v96)
 )
 )
 )
 )
 )

def gI(n:Nat)(g:List Int)(i:Int):Option (Int):=
 cdO (decide (i<(g.length:Int))) (
 gdO (inR i g.length) (
 some ((gt g i))
 )
 ) (
 some (0)
 )

def jm(n:Nat)(a:List Int)(b:List Int):Option (List Int×List Int):=
 gdO (inR (Jy ((b.length:Int)-1)) b.length) (
 gdO (!decide (aa .u64 ((aa .u64 (gt b (Jy ((b.length:Int)-1))))+1)=0)) (
 bdO (jv n a [aa .u32 (aa .u64 ((1000000000:Int).tdiv (aa .u64 ((aa .u64 (gt b (Jy ((b.length:Int)-1))))+1))))]) fun v3=>(
 bdO (jv n b [aa .u32 (aa .u64 ((1000000000:Int).tdiv (aa .u64 ((aa .u64 (gt b (Jy ((b.length:Int)-1))))+1))))]) fun v5=>(
 gdO (decide ((v3.length+1)*4<=140737488355328)) (
 gdO (decide (v3.length+1<=4611686018427387904)) (
 bdO (α:=List Int) (
 cdO (decide (((v3++[(0:Int)]).length:Int)<=(a.length:Int))) (
 gdO (decide (((v3++[(0:Int)]).length+1)*4<=140737488355328)) (
 gdO (decide ((v3++[(0:Int)]).length+1<=4611686018427387904)) (
 some ((v3++[(0:Int)])++[(0:Int)])
 )
 )
 ) (
 some (v3++[(0:Int)])
 )
 ) fun u_9=>(
 gdO (decide (0<=Jy ((u_9.length:Int)-(v5.length:Int)))) (
 gdO (decide ((4:Int)*(Jy ((u_9.length:Int)-(v5.length:Int)))<=281474976710656)) (
 gdO (decide (Jy ((u_9.length:Int)-(v5.length:Int))<=9223372036854775807)) (
 bdO (aJ (α:=List Int×List Int×Int) (β:=List Int×List Int) n (fun again129 (q_19,u_20,j_21)=>(
 cdO (decide (j_21>=0)) (
 bdO (gI n u_20 (Jy (j_21+(v5.length:Int)))) fun v132=>(
 gdO (inR (Jy ((Jy (j_21+(v5.length:Int)))-1)) u_20.length) (
 gdO (inR (Jy ((v5.length:Int)-1)) v5.length) (
 gdO (!decide (aa .u64 (gt v5 (Jy ((v5.length:Int)-1)))=0)) (
 bdO (aJ (α:=Int×Int) (β:=Int) n (fun again165 (g_156,r_157)=>(
 cdO (decide (g_156>=1000000000)) (
 cdO (decide ((aa .u64 (r_157+(aa .u64 (gt v5 (Jy ((v5.length:Int)-1))))))>=1000000000)) (
 some (aa .u64 (g_156-1))
 ) (
 again165 (aa .u64 (g_156-1),aa .u64 (r_157+(aa .u64 (gt v5 (Jy ((v5.length:Int)-1))))))
 )
 ) (
 gdO (inR (Jy ((v5.length:Int)-2)) v5.length) (
 gdO (inR (Jy ((Jy (j_21+(v5.length:Int)))-2)) u_20.length) (
 cdO (decide ((aa .u64 (g_156*(aa .u64 (gt v5 (Jy ((v5.length:Int)-2))))))>(aa .u64 ((aa .u64 (r_157*1000000000))+(aa .u64 (gt u_20 (Jy ((Jy (j_21+(v5.length:Int)))-2)))))))) (
 cdO (decide ((aa .u64 (r_157+(aa .u64 (gt v5 (Jy ((v5.length:Int)-1))))))>=1000000000)) (
 some (aa .u64 (g_156-1))
 ) (
 again165 (aa .u64 (g_156-1),aa .u64 (r_157+(aa .u64 (gt v5 (Jy ((v5.length:Int)-1))))))
 )
 ) (
 some (g_156)
 )
 )
 )
 )
 )) (aa .u64 ((aa .u64 ((aa .u64 ((aa .u64 v132)*1000000000))+(aa .u64 (gt u_20 (Jy ((Jy (j_21+(v5.length:Int)))-1)))))).tdiv (aa .u64 (gt v5 (Jy ((v5.length:Int)-1))))),(aa .u64 ((aa .u64 ((aa .u64 v132)*1000000000))+(aa .u64 (gt u_20 (Jy ((Jy (j_21+(v5.length:Int)))-1)))))).tmod (aa .u64 (gt v5 (Jy ((v5.length:Int)-1)))))) fun g_164=>(
 bdO (aJ (α:=List Int×Int×Int×Int) (β:=List Int×Int×Int) n (fun again205 (u_194,b_195,c_196,x_197)=>(
 cdO (decide (x_197<(v5.length:Int))) (
 gdO (inR x_197 v5.length) (
 gdO (inR (Jy (x_197+j_21)) u_194.length) (
 cdO (decide ((Jy ((Jy ((Jy (gt u_194 (Jy (x_197+j_21))))-b_195))-(Jy ((aa .u64 ((aa .u64 (g_164*(aa .u64 (gt v5 x_197))))+c_196)).tmod 1000000000))))<0)) (
 again205 (u_194.set (Jy (x_197+j_21)).toNat (aa .u32 (Jy ((Jy ((Jy ((Jy (gt u_194 (Jy (x_197+j_21))))-b_195))-(Jy ((aa .u64 ((aa .u64 (g_164*(aa .u64 (gt v5 x_197))))+c_196)).tmod 1000000000))))+1000000000))),1,aa .u64 ((aa .u64 ((aa .u64 (g_164*(aa .u64 (gt v5 x_197))))+c_196)).tdiv 1000000000),Jy (x_197+1))
 ) (
 again205 (u_194.set (Jy (x_197+j_21)).toNat (aa .u32 (Jy ((Jy ((Jy (gt u_194 (Jy (x_197+j_21))))-b_195))-(Jy ((aa .u64 ((aa .u64 (g_164*(aa .u64 (gt v5 x_197))))+c_196)).tmod 1000000000))))),0,aa .u64 ((aa .u64 ((aa .u64 (g_164*(aa .u64 (gt v5 x_197))))+c_196)).tdiv 1000000000),Jy (x_197+1))
 )
 )
 )
 ) (
 some ((u_194,b_195,c_196))
 )
 )) (u_20,0,0,0)) fun o210=>(
 match o210 with
 |(u_202,b_203,c_204)=>(
 gdO (inR (Jy (j_21+(v5.length:Int))) u_202.length) (
 cdO (decide ((Jy ((Jy ((Jy (gt u_202 (Jy (j_21+(v5.length:Int)))))-b_203))-(Jy c_204)))<0)) (
 bdO (aJ (α:=List Int×Int×Int) (β:=List Int×Int) n (fun again224 (u_215,c_216,x_217)=>(
 cdO (decide (x_217<(v5.length:Int))) (
 gdO (inR (Jy (x_217+j_21)) u_215.length) (
 gdO (inR x_217 v5.length) (
 cdO (decide ((aa .u32 ((aa .u32 ((gt u_215 (Jy (x_217+j_21)))+(gt v5 x_217)))+c_216))>=1000000000)) (
 again224 (u_215.set (Jy (x_217+j_21)).toNat (aa .u32 ((aa .u32 ((aa .u32 ((gt u_215 (Jy (x_217+j_21)))+(gt v5 x_217)))+c_216))-1000000000)),1,Jy (x_217+1))
 ) (
 again224 (u_215.set (Jy (x_217+j_21)).toNat (aa .u32 ((aa .u32 ((gt u_215 (Jy (x_217+j_21)))+(gt v5 x_217)))+c_216)),0,Jy (x_217+1))
 )
 )
 )
 ) (
 some ((u_215,c_216))
 )
 )) (u_202.set (Jy (j_21+(v5.length:Int))).toNat (aa .u32 (Jy ((Jy ((Jy ((Jy (gt u_202 (Jy (j_21+(v5.length:Int)))))-b_203))-(Jy c_204)))+1000000000))),0,0)) fun o229=>(
 match o229 with
 |(u_222,c_223)=>(
 gdO (inR (Jy (j_21+(v5.length:Int))) u_222.length) (
 gdO (inR j_21 q_19.length) (
 again129 (q_19.set j_21.toNat (aa .u32 (aa .u64 (g_164-1))),u_222.set (Jy (j_21+(v5.length:Int))).toNat ((aa .u32 ((gt u_222 (Jy (j_21+(v5.length:Int))))+c_223)).tmod 1000000000),Jy (j_21-1))
 )
 )
 ))
 ) (
 gdO (inR j_21 q_19.length) (
 again129 (q_19.set j_21.toNat (aa .u32 g_164),u_202.set (Jy (j_21+(v5.length:Int))).toNat (aa .u32 (Jy ((Jy ((Jy (gt u_202 (Jy (j_21+(v5.length:Int)))))-b_203))-(Jy c_204)))),Jy (j_21-1))
 )
 )
 )
 ))
 )
 )
 )
 )
 )
 ) (
 some ((q_19,u_20))
 )
 )) (List.replicate (Jy ((u_9.length:Int)-(v5.length:Int))).toNat ((0:Int):Int),u_9,Jy ((Jy ((u_9.length:Int)-(v5.length:Int)))-1))) fun o235=>(
 match o235 with
 |(q_127,u_128)=>(
 gdO (inS 0 (v5.length:Int) u_128.length) (
 bdO (eG n (u_128.take (v5.length:Int).toNat)) fun v239=>(
 bdO (fB n v239 (aa .u32 (aa .u64 ((1000000000:Int).tdiv (aa .u64 ((aa .u64 (gt b (Jy ((b.length:Int)-1))))+1)))))) fun v241=>(
 bdO (eG n q_127) fun v243=>(
 some ((v243,v241.1))
 )
 )
 )
 )
 ))
 )
 )
 )
 )
 )
 )
 )
 )
 )
 )

def iH(n:Nat)(a:List Int)(b:List Int):Option (List Int×List Int):=
 bdO (fW n a b) fun v1=>(
 cdO (decide (v1<0)) (
 some (([],a))
 ) (
 bdO (iG n a) fun v4=>(
 bdO (iG n b) fun v6=>(
 cdO v4.2 (
 cdO v6.2 (
 gdO (!decide (v6.1=0)) (
 bdO (cV n (aa .u64 (v4.1.tdiv v6.1))) fun v11=>(
 bdO (cV n (v4.1.tmod v6.1)) fun v13=>(
 some ((v11,v13))
 )
 )
 )
 ) (
 cdO (((b.length:Int):Int)==1) (
 gdO (inR 0 b.length) (
 bdO (fB n a (gt b 0)) fun v17=>(
 bdO (cV n (aa .u64 v17.2)) fun v19=>(
 some ((v17.1,v19))
 )
 )
 )
 ) (
 bdO (jm n a b) fun v21=>(
 some ((v21.1,v21.2))
 )
 )
 )
 ) (
 cdO (((b.length:Int):Int)==1) (
 gdO (inR 0 b.length) (
 bdO (fB n a (gt b 0)) fun v25=>(
 bdO (cV n (aa .u64 v25.2)) fun v27=>(
 some ((v25.1,v27))
 )
 )
 )
 ) (
 bdO (jm n a b) fun v29=>(
 some ((v29.1,v29.2))
 )
 )
 )
 )
 )
 )
 )

def jj(n:Nat)(x':ah)(y:ah):Option (ah):=
 bdO (bG n x') fun v1=>(
 bdO (bG n y) fun v3=>(
 bdO (aJ (α:=List Int×List Int) (β:=Sum (List Int) (ah)) n (fun again34 (a_5,b_6)=>(
 cdO (decide ((b_6.length:Int)>0)) (
 bdO (iG n a_5) fun v36=>(
 bdO (iG n b_6) fun v38=>(
 cdO v36.2 (
 cdO v38.2 (
 bdO (aJ (α:=Int×Int) (β:=Int) n (fun again47 (m_42,n_43)=>(
 cdO (decide (n_43>0)) (
 gdO (!decide (n_43=0)) (
 again47 (n_43,m_42.tmod n_43)
 )
 ) (
 some (m_42)
 )
 )) (v36.1,v38.1)) fun m_46=>(
 bdO (cV n m_46) fun v53=>(
 bdO (bU n false v53) fun v55=>(
 some (Sum.inr (v55))
 )
 )
 )
 ) (
 bdO (iH n a_5 b_6) fun v57=>(
 again34 (b_6,v57.2)
 )
 )
 ) (
 bdO (iH n a_5 b_6) fun v59=>(
 again34 (b_6,v59.2)
 )
 )
 )
 )
 ) (
 some (Sum.inl a_5)
 )
 )) (v1,v3)) fun o61=>(
 match o61 with
 |.inl a_33=>(
 bdO (cv n a_33) fun v64=>(
 bdO (bU n false v64) fun v66=>(
 some (v66)
 )
 )
 )
 |.inr (r0)=>(
 some r0
 ))
 )
 )

def kr(n:Nat)(a:List Int)(b:List Int):Option (List Int):=
 gdO (decide (0<=Jy ((mx (a.length:Int) (b.length:Int))+1))) (
 gdO (decide ((4:Int)*(Jy ((mx (a.length:Int) (b.length:Int))+1))<=281474976710656)) (
 gdO (decide (Jy ((mx (a.length:Int) (b.length:Int))+1)<=9223372036854775807)) (
 bdO (aJ (α:=List Int×Int×Int) (β:=List Int) n (fun again16 (o_4,c_5,x_6)=>(
 cdO (decide (x_6<((List.replicate (Jy ((mx (a.length:Int) (b.length:Int))+1)).toNat ((0:Int):Int)).length:Int))) (
 bdO (gI n a x_6) fun v18=>(
 bdO (gI n b x_6) fun v20=>(
 cdO (decide ((aa .u32 ((aa .u32 (v18+v20))+c_5))>=1000000000)) (
 gdO (inR x_6 o_4.length) (
 again16 (o_4.set x_6.toNat (aa .u32 ((aa .u32 ((aa .u32 (v18+v20))+c_5))-1000000000)),1,Jy (x_6+1))
 )
 ) (
 gdO (inR x_6 o_4.length) (
 again16 (o_4.set x_6.toNat (aa .u32 ((aa .u32 (v18+v20))+c_5)),0,Jy (x_6+1))
 )
 )
 )
 )
 ) (
 some (o_4)
 )
 )) (List.replicate (Jy ((mx (a.length:Int) (b.length:Int))+1)).toNat ((0:Int):Int),0,0)) fun o_15=>(
 bdO (eG n o_15) fun v28=>(
 some (v28)
 )
 )
 )
 )
 )

def iP(n:Nat)(a:List Int)(b:List Int):Option (List Int):=
 gdO (decide (0<=(a.length:Int))) (
 gdO (decide ((4:Int)*(a.length:Int)<=281474976710656)) (
 gdO (decide ((a.length:Int)<=9223372036854775807)) (
 bdO (aJ (α:=List Int×Int×Int) (β:=List Int) n (fun again15 (o_4,b_5,x_6)=>(
 cdO (decide (x_6<((List.replicate (a.length:Int).toNat ((0:Int):Int)).length:Int))) (
 bdO (gI n b x_6) fun v17=>(
 gdO (inR x_6 a.length) (
 cdO (decide ((gt a x_6)<(aa .u32 (v17+b_5)))) (
 gdO (inR x_6 o_4.length) (
 again15 (o_4.set x_6.toNat (aa .u32 ((aa .u32 ((gt a x_6)+1000000000))-(aa .u32 (v17+b_5)))),1,Jy (x_6+1))
 )
 ) (
 gdO (inR x_6 o_4.length) (
 again15 (o_4.set x_6.toNat (aa .u32 ((gt a x_6)-(aa .u32 (v17+b_5)))),0,Jy (x_6+1))
 )
 )
 )
 )
 ) (
 some (o_4)
 )
 )) (List.replicate (a.length:Int).toNat ((0:Int):Int),0,0)) fun o_14=>(
 bdO (eG n o_14) fun v26=>(
 some (v26)
 )
 )
 )
 )
 )

def dF(n:Nat)(x':ah)(y:ah):Option (ah×ah×Int):=
 bdO (bG n x') fun v1=>(
 bdO (bG n y) fun v3=>(
 cdO (((v3.length:Int):Int)==0) (
 some ((ah.mk false [],ah.mk false [],14))
 ) (
 bdO (iH n v1 v3) fun v6=>(
 bdO (cv n v6.2) fun v8=>(
 cdO (decide ((v8.length:Int)>0)) (
 cdO (x'.Negative !=y.Negative) (
 bdO (kr n v6.1 [(1:Int)]) fun v12=>(
 bdO (iP n v3 v8) fun v14=>(
 bdO (bU n true v12) fun v16=>(
 bdO (bU n y.Negative v14) fun v18=>(
 some ((v16,v18,0))
 )
 )
 )
 )
 ) (
 bdO (bU n false v6.1) fun v20=>(
 bdO (bU n y.Negative v8) fun v22=>(
 some ((v20,v22,0))
 )
 )
 )
 ) (
 bdO (bU n (x'.Negative !=y.Negative) v6.1) fun v24=>(
 bdO (bU n y.Negative v8) fun v26=>(
 some ((v24,v26,0))
 )
 )
 )
 )
 )
 )
 )
 )

def eH(n:Nat)(num:ah)(den:ah):Option (aj):=
 bdO (dT n den) fun v1=>(
 cdO (decide (v1<0)) (
 bdO (eJ n num) fun v4=>(
 bdO (eJ n den) fun v6=>(
 bdO (jj n v4 v6) fun v8=>(
 bdO (dF n v4 v8) fun v10=>(
 bdO (dF n v6 v8) fun v12=>(
 some (aj.mk v10.1 v12.1)
 )
 )
 )
 )
 )
 ) (
 bdO (jj n num den) fun v14=>(
 bdO (dF n num v14) fun v16=>(
 bdO (dF n den v14) fun v18=>(
 some (aj.mk v16.1 v18.1)
 )
 )
 )
 )
 )

def mw(n:Nat)(num:ah)(den:ah):Option (aj×Int):=
 bdO (ft n num) fun v1=>(
 bdO (ft n den) fun v3=>(
 bdO (dT n v3) fun v5=>(
 cdO ((v5:Int)==0) (
 some ((aj.mk (ah.mk false []) (ah.mk false []),14))
 ) (
 bdO (eH n v1 v3) fun v8=>(
 some ((v8,0))
 )
 )
 )
 )
 )

def lM(n:Nat)(n':Int)(d:Int):Option (aj×Int):=
 bdO (gb n n') fun v1=>(
 bdO (gb n d) fun v3=>(
 bdO (mw n v1 v3) fun v5=>(
 some ((v5.1,v5.2))
 )
 )
 )

def cQ(n:Nat)(g:ak)(level:Int)(e:A2 Int):Option (an):=
 gdO (inR e.e0 g.Z.length) (
 gdO (inR e.e1 g.Z.length) (
 bdO (lM n (Jy (level-(Jy (2*(gt g.Z e.e0))))) (Jy (2*(Jy ((gt g.Z e.e1)-(gt g.Z e.e0)))))) fun v3=>(
 some (an.mk e.e0 e.e1 v3.1)
 )
 )
 )

def dZ(n:Nat)(start:A2 Int)(closed:Bool)(p:List (A2 Int×Bool))(p':Int)(p'':Int)(DK:Int)(zw:Int)(rT:Int)(uL:List Int)(xV:Int)(ox:List (A2 Int×A2 Int))(lG:List ae):Option (List (A2 Int×Bool)×List ae):=
 bdO (aJ (α:=List (A2 Int×Bool)×List an×Int×Int) (β:=List (A2 Int×Bool)×List an) n (fun again39 (p_27,c_28,a_29,a_30)=>(
 bdO (cQ n (ak.mk p' p'' DK zw rT uL) xV (A2.mk a_29 a_30)) fun v40=>(
 gdO (decide ((c_28.length+1)*80<=140737488355328)) (
 gdO (decide (c_28.length+1<=4611686018427387904)) (
 cdO (!(dX ox (A2.mk a_29 a_30))) (
 some ((dm p_27 (A2.mk a_29 a_30) true,c_28++[v40]))
 ) (
 cdO (getM false (dm p_27 (A2.mk a_29 a_30) true) (getM (A2.mk 0 0:A2 Int) ox (A2.mk a_29 a_30))) (
 some ((dm p_27 (A2.mk a_29 a_30) true,c_28++[v40]))
 ) (
 again39 (dm p_27 (A2.mk a_29 a_30) true,c_28++[v40],(getM (A2.mk 0 0:A2 Int) ox (A2.mk a_29 a_30)).e0,(getM (A2.mk 0 0:A2 Int) ox (A2.mk a_29 a_30)).e1)
 )
 )
 )
 )
 )
 )) (p,[],start.e0,start.e1)) fun o46=>(
 match o46 with
 |(p_37,c_38)=>(
 gdO (decide ((lG.length+1)*32<=140737488355328)) (
 gdO (decide (lG.length+1<=4611686018427387904)) (
 some ((p_37,lG++[ae.mk closed c_38]))
 )
 )
 ))

def gx(n:Nat)(c:ae):Option (A2 Int):=
 gdO (inR 0 c.Points.length) (
 some (A2.mk (gt c.Points 0).A (gt c.Points 0).B)
 )

def jz(n:Nat)(a:ae)(b:ae):Option (Int):=
 bdO (gx n a) fun v1=>(
 bdO (gx n b) fun v3=>(
 bdO (fV n v1 v3) fun v5=>(
 some (v5)
 )
 )
 )

def aK(n:Nat)(x':List ae):Option (List ae):=
 gdO (decide (x'.length<4611686018427387904)) (
 wA (fun x y=>jz n x y) x'
 )

noncomputable def gz(n:Nat)(g:ak)(level:Int):Option (List ae):=
 bdO (aY n g g.X0 g.Y0 g.Step g.Width g.Height g.Z level ([]:List (A2 Int×A2 Int)) ([]:List (A2 Int×Bool))) fun v1=>(
 Bn (ε:=A2 Int×A2 Int) (σ:=List (A2 Int)) v1.1 (fun s_16 e12=>(
 gdO (decide ((s_16.length+1)*16<=140737488355328)) (
 gdO (decide (s_16.length+1<=4611686018427387904)) (
 some (s_16++[e12.1])
 )
 )
 )) [] fun s_16=>(
 bdO (aD n s_16) fun v21=>(
 gdO (decide (v21.length=s_16.length)) (
 bdO (aJ (α:=List (A2 Int×Bool)×List ae×Int) (β:=List (A2 Int×Bool)×List ae) n (fun again56 (d_45,o_46,x_47)=>(
 cdO (decide (x_47<(s_16.length:Int))) (
 gdO (inR x_47 v21.length) (
 cdO (!(getM false v1.2 (gt v21 x_47))) (
 bdO (dZ n (gt v21 x_47) false d_45 g.X0 g.Y0 g.Step g.Width g.Height g.Z level v1.1 o_46) fun v61=>(
 again56 (v61.1,v61.2,Jy (x_47+1))
 )
 ) (
 again56 (d_45,o_46,Jy (x_47+1))
 )
 )
 ) (
 some ((d_45,o_46))
 )
 )) (([]:List (A2 Int×Bool)),[],0)) fun o63=>(
 match o63 with
 |(d_54,o_55)=>(
 bdO (aJ (α:=List (A2 Int×Bool)×List ae×Int) (β:=List ae) n (fun again76 (d_66,o_67,x_68)=>(
 cdO (decide (x_68<(v21.length:Int))) (
 gdO (inR x_68 v21.length) (
 cdO (!(getM false d_66 (gt v21 x_68))) (
 bdO (dZ n (gt v21 x_68) true d_66 g.X0 g.Y0 g.Step g.Width g.Height g.Z level v1.1 o_67) fun v81=>(
 again76 (v81.1,v81.2,Jy (x_68+1))
 )
 ) (
 again76 (d_66,o_67,Jy (x_68+1))
 )
 )
 ) (
 some (o_67)
 )
 )) (d_54,o_55,0)) fun o_75=>(
 bdO (aK n o_75) fun v86=>(
 gdO (decide (v86.length=o_75.length)) (
 some (v86)
 )
 )
 )
 ))
 )
 )
 )
 )

def kG(n:Nat)(x':Int):Option (Bool):=
 some ((x':Int)!=x')

def ju(n:Nat)(x':Int)(y:Int):Option (Int):=
 bdO (kG n x') fun v1=>(
 bdO (kG n y) fun v3=>(
 cdO v1 (
 cdO v3 (
 some (0)
 ) (
 some ((-1))
 )
 ) (
 cdO v3 (
 some (1)
 ) (
 cdO (decide (x'<y)) (
 some ((-1))
 ) (
 cdO (decide (x'>y)) (
 some (1)
 ) (
 some (0)
 )
 )
 )
 )
 )
 )

def ig(n:Nat)(x':ah)(y:ah):Option (Int):=
 bdO (dT n x') fun v1=>(
 bdO (dT n y) fun v3=>(
 cdO ((v1:Int)!=v3) (
 bdO (ju n v1 v3) fun v6=>(
 some (v6)
 )
 ) (
 bdO (bG n x') fun v8=>(
 bdO (bG n y) fun v10=>(
 bdO (fW n v8 v10) fun v12=>(
 cdO x'.Negative (
 some (Jy (0-v12))
 ) (
 some (v12)
 )
 )
 )
 )
 )
 )
 )

def fF(n:Nat)(x':aj):Option (Bool):=
 bdO (eO n x'.Num) fun v1=>(
 cdO (!v1) (
 some (false)
 ) (
 bdO (eO n x'.Den) fun v4=>(
 cdO (!v4) (
 some (false)
 ) (
 bdO (dT n x'.Den) fun v7=>(
 cdO (decide (v7<=0)) (
 some (false)
 ) (
 bdO (jj n x'.Num x'.Den) fun v10=>(
 bdO (gb n 1) fun v12=>(
 bdO (ig n v10 v12) fun v14=>(
 some ((v14:Int)==0)
 )
 )
 )
 )
 )
 )
 )
 )
 )

def jy(n:Nat)(x':aj):Option (aj):=
 bdO (eJ n x'.Num) fun v1=>(
 bdO (eJ n v1) fun v3=>(
 bdO (eJ n x'.Den) fun v5=>(
 bdO (eJ n v5) fun v7=>(
 some (aj.mk v3 v7)
 )
 )
 )
 )

def di(n:Nat)(n':Int):Option (aj):=
 bdO (gb n n') fun v1=>(
 bdO (gb n 1) fun v3=>(
 some (aj.mk v1 v3)
 )
 )

def cc(n:Nat)(x':aj):Option (aj):=
 bdO (fF n x') fun v1=>(
 cdO v1 (
 bdO (jy n x') fun v4=>(
 some (v4)
 )
 ) (
 bdO (di n 0) fun v6=>(
 some (v6)
 )
 )
 )

def dI(n:Nat)(x':ah)(y:ah):Option (ah):=
 bdO (bG n x') fun v1=>(
 bdO (bG n y) fun v3=>(
 bdO (jH n v1 v3) fun v5=>(
 bdO (bU n (x'.Negative !=y.Negative) v5) fun v7=>(
 some (v7)
 )
 )
 )
 )

def nH(n:Nat)(negative:Bool)(a:List Int)(other:Bool)(b:List Int):Option (ah):=
 cdO (negative==other) (
 bdO (kr n a b) fun v2=>(
 bdO (bU n negative v2) fun v4=>(
 some (v4)
 )
 )
 ) (
 bdO (fW n a b) fun v6=>(
 cdO (decide (v6>=0)) (
 bdO (iP n a b) fun v9=>(
 bdO (bU n negative v9) fun v11=>(
 some (v11)
 )
 )
 ) (
 bdO (iP n b a) fun v13=>(
 bdO (bU n other v13) fun v15=>(
 some (v15)
 )
 )
 )
 )
 )

def nD(n:Nat)(x':ah)(y:ah):Option (ah):=
 bdO (bG n x') fun v1=>(
 bdO (bG n y) fun v3=>(
 bdO (nH n x'.Negative v1 y.Negative v3) fun v5=>(
 some (v5)
 )
 )
 )

def ir(n:Nat)(x':aj)(y:aj):Option (aj):=
 bdO (cc n x') fun v1=>(
 bdO (cc n y) fun v3=>(
 bdO (dI n v1.Num v3.Den) fun v5=>(
 bdO (dI n v3.Num v1.Den) fun v7=>(
 bdO (nD n v5 v7) fun v9=>(
 bdO (dI n v1.Den v3.Den) fun v11=>(
 bdO (eH n v9 v11) fun v13=>(
 some (v13)
 )
 )
 )
 )
 )
 )
 )

def mj(n:Nat)(x':aj):Option (aj):=
 bdO (cc n x') fun v1=>(
 bdO (eJ n v1.Num) fun v3=>(
 some (aj.mk v3 v1.Den)
 )
 )

def eF(n:Nat)(x':aj)(y:aj):Option (aj):=
 bdO (mj n y) fun v1=>(
 bdO (ir n x' v1) fun v3=>(
 some (v3)
 )
 )

def eE(n:Nat)(x':aj)(y:aj):Option (aj):=
 bdO (cc n x') fun v1=>(
 bdO (cc n y) fun v3=>(
 bdO (dI n v1.Num v3.Num) fun v5=>(
 bdO (dI n v1.Den v3.Den) fun v7=>(
 bdO (eH n v5 v7) fun v9=>(
 some (v9)
 )
 )
 )
 )
 )

def nL(n:Nat)(x':aj)(y:aj):Option (aj×Int):=
 bdO (cc n x') fun v1=>(
 bdO (cc n y) fun v3=>(
 bdO (dT n v3.Num) fun v5=>(
 cdO ((v5:Int)==0) (
 some ((aj.mk (ah.mk false []) (ah.mk false []),14))
 ) (
 bdO (dI n v1.Num v3.Den) fun v8=>(
 bdO (dI n v1.Den v3.Num) fun v10=>(
 bdO (eH n v8 v10) fun v12=>(
 some ((v12,0))
 )
 )
 )
 )
 )
 )
 )

def fr(n:Nat)(x':aj)(y:aj):Option (Int):=
 bdO (cc n x') fun v1=>(
 bdO (cc n y) fun v3=>(
 bdO (dI n v1.Num v3.Den) fun v5=>(
 bdO (dI n v3.Num v1.Den) fun v7=>(
 bdO (ig n v5 v7) fun v9=>(
 some (v9)
 )
 )
 )
 )
 )

def dq(n:Nat)(x':aj):Option (Int):=
 bdO (cc n x') fun v1=>(
 bdO (dT n v1.Num) fun v3=>(
 some (v3)
 )
 )

def aV(n:Nat)(negative:Bool)(l:List Int):Option (ah):=
 bdO (aJ (α:=Int) (β:=Int) n (fun again6 n_1=>(
 cdO (decide (n_1>0)) (
 gdO (inR (Jy (n_1-1)) l.length) (
 cdO (((gt l (Jy (n_1-1))):Int)==0) (
 again6 (Jy (n_1-1))
 ) (
 some (n_1)
 )
 )
 ) (
 some (n_1)
 )
 )) (l.length:Int)) fun n_5=>(
 cdO negative (
 gdO (inS 0 n_5 l.length) (
 gdO (decide ((0+((l.drop (0:Int).toNat).take (n_5.toNat-(0:Int).toNat)).length)*4<=140737488355328)) (
 gdO (decide (0+((l.drop (0:Int).toNat).take (n_5.toNat-(0:Int).toNat)).length<=4611686018427387904)) (
 some (ah.mk (decide (n_5>0)) ((l.drop (0:Int).toNat).take (n_5.toNat-(0:Int).toNat)))
 )
 )
 )
 ) (
 gdO (inS 0 n_5 l.length) (
 gdO (decide ((0+((l.drop (0:Int).toNat).take (n_5.toNat-(0:Int).toNat)).length)*4<=140737488355328)) (
 gdO (decide (0+((l.drop (0:Int).toNat).take (n_5.toNat-(0:Int).toNat)).length<=4611686018427387904)) (
 some (ah.mk false ((l.drop (0:Int).toNat).take (n_5.toNat-(0:Int).toNat)))
 )
 )
 )
 )
 )

def gD(n:Nat)(n':Int):Option (ah):=
 cdO (decide (n'<0)) (
 bdO (aJ (α:=Int×List Int) (β:=List Int) n (fun again8 (u_2,l_3)=>(
 cdO (decide (u_2>0)) (
 gdO (decide ((l_3.length+1)*4<=140737488355328)) (
 gdO (decide (l_3.length+1<=4611686018427387904)) (
 again8 (aa .u64 (u_2.tdiv 1000000000),l_3++[aa .u32 (u_2.tmod 1000000000)])
 )
 )
 ) (
 some (l_3)
 )
 )) (aa .u64 ((aa .u64 (Jy (0-(Jy (n'+1)))))+1),[])) fun l_7=>(
 bdO (aV n true l_7) fun v15=>(
 some (v15)
 )
 )
 ) (
 bdO (aJ (α:=Int×List Int) (β:=List Int) n (fun again23 (u_17,l_18)=>(
 cdO (decide (u_17>0)) (
 gdO (decide ((l_18.length+1)*4<=140737488355328)) (
 gdO (decide (l_18.length+1<=4611686018427387904)) (
 again23 (aa .u64 (u_17.tdiv 1000000000),l_18++[aa .u32 (u_17.tmod 1000000000)])
 )
 )
 ) (
 some (l_18)
 )
 )) (aa .u64 n',[])) fun l_22=>(
 bdO (aV n false l_22) fun v30=>(
 some (v30)
 )
 )
 )

def ch(n:Nat)(n':Int):Option (ah):=
 bdO (gD n n') fun v1=>(
 some (v1)
 )

def cL(n:Nat)(x':ah):Option (Bool):=
 bdO (aJ (α:=Int) (β:=Sum (Unit) (Bool)) n (fun again5 i_1=>(
 cdO (decide (i_1<(x'.Groups.length:Int))) (
 gdO (inR i_1 x'.Groups.length) (
 cdO (decide ((gt x'.Groups i_1)>=1000000000)) (
 some (Sum.inr (false))
 ) (
 again5 (Jy (i_1+1))
 )
 )
 ) (
 some (Sum.inl ())
 )
 )) 0) fun o9=>(
 match o9 with
 |.inl _=>(
 cdO (((x'.Groups.length:Int):Int)==0) (
 some (!x'.Negative)
 ) (
 gdO (inR (Jy ((x'.Groups.length:Int)-1)) x'.Groups.length) (
 some (((gt x'.Groups (Jy ((x'.Groups.length:Int)-1))):Int)!=0)
 )
 )
 )
 |.inr (r0)=>(
 some r0
 ))

def bg(n:Nat)(x':ah):Option (ah):=
 bdO (cL n x') fun v1=>(
 cdO (!v1) (
 some (ah.mk false [])
 ) (
 gdO (decide ((0+x'.Groups.length)*4<=140737488355328)) (
 gdO (decide (0+x'.Groups.length<=4611686018427387904)) (
 some (x')
 )
 )
 )
 )

def cA(n:Nat)(x':ah):Option (Int):=
 bdO (bg n x') fun v1=>(
 cdO (((v1.Groups.length:Int):Int)==0) (
 some (0)
 ) (
 cdO v1.Negative (
 some ((-1))
 ) (
 some (1)
 )
 )
 )

def eZ(n:Nat)(a:List Int)(d:Int):Option (List Int×Int):=
 gdO (decide (0<=(a.length:Int))) (
 gdO (decide ((4:Int)*(a.length:Int)<=281474976710656)) (
 gdO (decide ((a.length:Int)<=9223372036854775807)) (
 bdO (aJ (α:=List Int×Int×Int) (β:=List Int×Int) n (fun again13 (q_4,r_5,i_6)=>(
 cdO (decide (i_6>=0)) (
 gdO (inR i_6 a.length) (
 gdO (!decide (d=0)) (
 gdO (inR i_6 q_4.length) (
 again13 (q_4.set i_6.toNat (aa .u32 (aa .u64 ((aa .u64 ((aa .u64 (r_5*1000000000))+(aa .u64 (gt a i_6)))).tdiv d))),(aa .u64 ((aa .u64 (r_5*1000000000))+(aa .u64 (gt a i_6)))).tmod d,Jy (i_6-1))
 )
 )
 )
 ) (
 some ((q_4,r_5))
 )
 )) (List.replicate (a.length:Int).toNat ((0:Int):Int),0,Jy ((a.length:Int)-1))) fun o18=>(
 match o18 with
 |(q_11,r_12)=>(
 bdO (aV n false q_11) fun v21=>(
 some ((v21.Groups,r_12))
 )
 ))
 )
 )
 )

def dc(n:Nat)(a:List Int)(b:List Int):Option (Int):=
 cdO (((a.length:Int):Int)!=(b.length:Int)) (
 cdO (decide ((a.length:Int)<(b.length:Int))) (
 some ((-1))
 ) (
 some (1)
 )
 ) (
 bdO (aJ (α:=Int) (β:=Sum (Unit) (Int)) n (fun again9 i_3=>(
 cdO (decide (i_3>=0)) (
 gdO (inR i_3 a.length) (
 gdO (inR i_3 b.length) (
 cdO (decide ((gt a i_3)<(gt b i_3))) (
 some (Sum.inr ((-1)))
 ) (
 cdO (decide ((gt a i_3)>(gt b i_3))) (
 some (Sum.inr (1))
 ) (
 again9 (Jy (i_3-1))
 )
 )
 )
 )
 ) (
 some (Sum.inl ())
 )
 )) (Jy ((a.length:Int)-1))) fun o15=>(
 match o15 with
 |.inl _=>(
 some (0)
 )
 |.inr (r0)=>(
 some r0
 ))
 )

def cm(n:Nat)(a:List Int)(d:Int):Option (List Int):=
 bdO (aJ (α:=List Int×Int×Int) (β:=List Int×Int) n (fun again10 (o_1,c_2,i_3)=>(
 cdO (decide (i_3<(a.length:Int))) (
 gdO (inR i_3 a.length) (
 gdO (decide ((o_1.length+1)*4<=140737488355328)) (
 gdO (decide (o_1.length+1<=4611686018427387904)) (
 again10 (o_1++[aa .u32 ((aa .u64 ((aa .u64 ((aa .u64 (gt a i_3))*d))+c_2)).tmod 1000000000)],aa .u64 ((aa .u64 ((aa .u64 ((aa .u64 (gt a i_3))*d))+c_2)).tdiv 1000000000),Jy (i_3+1))
 )
 )
 )
 ) (
 some ((o_1,c_2))
 )
 )) ([],0,0)) fun o15=>(
 match o15 with
 |(o_8,c_9)=>(
 gdO (decide ((o_8.length+1)*4<=140737488355328)) (
 gdO (decide (o_8.length+1<=4611686018427387904)) (
 bdO (aV n false (o_8++[aa .u32 c_9])) fun v20=>(
 some (v20.Groups)
 )
 )
 )
 ))

def ew(n:Nat)(a:List Int)(d:Int):Option (List Int):=
 gdO (decide ((1+a.length)*4<=140737488355328)) (
 gdO (decide (1+a.length<=4611686018427387904)) (
 bdO (aV n false ([d]++a)) fun v3=>(
 some (v3.Groups)
 )
 )
 )

def aZ(n:Nat)(l:List Int)(i:Int):Option (Int):=
 cdO (decide (i<(l.length:Int))) (
 gdO (inR i l.length) (
 some (aa .u64 (gt l i))
 )
 ) (
 some (0)
 )

def cg(n:Nat)(a:List Int)(b:List Int):Option (List Int):=
 bdO (aJ (α:=List Int×Int×Int) (β:=List Int) n (fun again12 (o_1,b_2,i_3)=>(
 cdO (decide (i_3<(a.length:Int))) (
 bdO (aZ n a i_3) fun v14=>(
 bdO (aZ n b i_3) fun v16=>(
 gdO (decide ((o_1.length+1)*4<=140737488355328)) (
 gdO (decide (o_1.length+1<=4611686018427387904)) (
 again12 (o_1++[aa .u32 ((aa .u64 ((aa .u64 ((aa .u64 (1000000000+v14))-v16))-b_2)).tmod 1000000000)],aa .u64 (1-(aa .u64 ((aa .u64 ((aa .u64 ((aa .u64 (1000000000+v14))-v16))-b_2)).tdiv 1000000000))),Jy (i_3+1))
 )
 )
 )
 )
 ) (
 some (o_1)
 )
 )) ([],0,0)) fun o_11=>(
 bdO (aV n false o_11) fun v23=>(
 some (v23.Groups)
 )
 )

def dw(n:Nat)(a:List Int)(b:List Int):Option (List Int×List Int):=
 cdO (((b.length:Int):Int)==1) (
 gdO (inR 0 b.length) (
 bdO (eZ n a (aa .u64 (gt b 0))) fun v3=>(
 bdO (aV n false [(aa .u32 v3.2)]) fun v5=>(
 some ((v3.1,v5.Groups))
 )
 )
 )
 ) (
 bdO (dc n a b) fun v7=>(
 cdO (decide (v7<0)) (
 some (([],a))
 ) (
 gdO (inR (Jy ((b.length:Int)-1)) b.length) (
 gdO (!decide (aa .u64 ((aa .u64 (gt b (Jy ((b.length:Int)-1))))+1)=0)) (
 bdO (cm n a (aa .u64 ((1000000000:Int).tdiv (aa .u64 ((aa .u64 (gt b (Jy ((b.length:Int)-1))))+1))))) fun v12=>(
 bdO (cm n b (aa .u64 ((1000000000:Int).tdiv (aa .u64 ((aa .u64 (gt b (Jy ((b.length:Int)-1))))+1))))) fun v14=>(
 gdO (inS (Jy ((Jy ((v12.length:Int)-(b.length:Int)))+1)) (v12.length:Int) v12.length) (
 bdO (aV n false ((v12.drop (Jy ((Jy ((v12.length:Int)-(b.length:Int)))+1)).toNat).take ((v12.length:Int).toNat-(Jy ((Jy ((v12.length:Int)-(b.length:Int)))+1)).toNat))) fun v17=>(
 gdO (decide (0<=Jy ((Jy ((v12.length:Int)-(b.length:Int)))+1))) (
 gdO (decide ((4:Int)*(Jy ((Jy ((v12.length:Int)-(b.length:Int)))+1))<=281474976710656)) (
 gdO (decide (Jy ((Jy ((v12.length:Int)-(b.length:Int)))+1)<=9223372036854775807)) (
 bdO (aJ (α:=List Int×List Int×Int) (β:=List Int×List Int) n (fun again60 (r_22,q_23,i_24)=>(
 cdO (decide (i_24>=0)) (
 gdO (inR i_24 v12.length) (
 bdO (ew n r_22 (gt v12 i_24)) fun v63=>(
 bdO (aZ n v63 (b.length:Int)) fun v65=>(
 bdO (aZ n v63 (Jy ((b.length:Int)-1))) fun v67=>(
 gdO (inR (Jy ((b.length:Int)-1)) v14.length) (
 gdO (!decide (aa .u64 ((aa .u64 (gt v14 (Jy ((b.length:Int)-1))))+1)=0)) (
 bdO (cm n v14 (aa .u64 ((aa .u64 ((aa .u64 (v65*1000000000))+v67)).tdiv (aa .u64 ((aa .u64 (gt v14 (Jy ((b.length:Int)-1))))+1))))) fun v71=>(
 bdO (cg n v63 v71) fun v73=>(
 bdO (aJ (α:=List Int×Int) (β:=List Int×Int) n (fun again84 (r_75,g_76)=>(
 bdO (dc n r_75 v14) fun v85=>(
 cdO (decide (v85>=0)) (
 bdO (cg n r_75 v14) fun v88=>(
 again84 (v88,aa .u64 (g_76+1))
 )
 ) (
 some ((r_75,g_76))
 )
 )
 )) (v73,aa .u64 ((aa .u64 ((aa .u64 (v65*1000000000))+v67)).tdiv (aa .u64 ((aa .u64 (gt v14 (Jy ((b.length:Int)-1))))+1))))) fun o90=>(
 match o90 with
 |(r_82,g_83)=>(
 gdO (inR i_24 q_23.length) (
 again60 (r_82,q_23.set i_24.toNat (aa .u32 g_83),Jy (i_24-1))
 )
 ))
 )
 )
 )
 )
 )
 )
 )
 )
 ) (
 some ((r_22,q_23))
 )
 )) (v17.Groups,List.replicate (Jy ((Jy ((v12.length:Int)-(b.length:Int)))+1)).toNat ((0:Int):Int),Jy ((v12.length:Int)-(b.length:Int)))) fun o94=>(
 match o94 with
 |(r_58,q_59)=>(
 bdO (eZ n r_58 (aa .u64 ((1000000000:Int).tdiv (aa .u64 ((aa .u64 (gt b (Jy ((b.length:Int)-1))))+1))))) fun v97=>(
 bdO (aV n false q_59) fun v99=>(
 some ((v99.Groups,v97.1))
 )
 )
 ))
 )
 )
 )
 )
 )
 )
 )
 )
 )
 )
 )
 )

def dG(n:Nat)(a:List Int):Option (Int):=
 bdO (aZ n a 1) fun v1=>(
 bdO (aZ n a 0) fun v3=>(
 some (aa .u64 ((aa .u64 (v1*1000000000))+v3))
 )
 )

def fP(n:Nat)(x':ah)(y:ah):Option (ah):=
 bdO (bg n x') fun v1=>(
 bdO (bg n y) fun v3=>(
 bdO (aJ (α:=List Int×List Int) (β:=List Int×List Int) n (fun again16 (a_5,b_6)=>(
 cdO (decide ((b_6.length:Int)>0)) (
 cdO (decide ((a_5.length:Int)>2)) (
 bdO (dw n a_5 b_6) fun v19=>(
 again16 (b_6,v19.2)
 )
 ) (
 cdO (decide ((b_6.length:Int)>2)) (
 bdO (dw n a_5 b_6) fun v22=>(
 again16 (b_6,v22.2)
 )
 ) (
 some ((a_5,b_6))
 )
 )
 ) (
 some ((a_5,b_6))
 )
 )) (v1.Groups,v3.Groups)) fun o24=>(
 match o24 with
 |(a_14,b_15)=>(
 cdO (((b_15.length:Int):Int)==0) (
 bdO (aV n false a_14) fun v28=>(
 some (v28)
 )
 ) (
 bdO (dG n a_14) fun v30=>(
 bdO (dG n b_15) fun v32=>(
 bdO (aJ (α:=Int×Int) (β:=Int) n (fun again39 (u_34,v_35)=>(
 cdO (decide (v_35>0)) (
 gdO (!decide (v_35=0)) (
 again39 (v_35,u_34.tmod v_35)
 )
 ) (
 some (u_34)
 )
 )) (v30,v32)) fun u_38=>(
 bdO (aV n false [(aa .u32 (u_38.tmod 1000000000)),(aa .u32 (aa .u64 (u_38.tdiv 1000000000)))]) fun v45=>(
 some (v45)
 )
 )
 )
 )
 )
 ))
 )
 )

def eV(n:Nat)(x':ah):Option (ah):=
 bdO (bg n x') fun v1=>(
 bdO (aV n (!v1.Negative) v1.Groups) fun v3=>(
 some (v3)
 )
 )

def gJ(n:Nat)(a:List Int)(b:List Int):Option (List Int):=
 bdO (aJ (α:=List Int×Int×Int) (β:=List Int×Int) n (fun again20 (o_1,c_2,i_3)=>(
 cdO (decide (i_3<(a.length:Int))) (
 bdO (aZ n a i_3) fun v22=>(
 bdO (aZ n b i_3) fun v24=>(
 gdO (decide ((o_1.length+1)*4<=140737488355328)) (
 gdO (decide (o_1.length+1<=4611686018427387904)) (
 again20 (o_1++[aa .u32 ((aa .u64 ((aa .u64 (v22+v24))+c_2)).tmod 1000000000)],aa .u64 ((aa .u64 ((aa .u64 (v22+v24))+c_2)).tdiv 1000000000),Jy (i_3+1))
 )
 )
 )
 )
 ) (
 cdO (decide (i_3<(b.length:Int))) (
 bdO (aZ n a i_3) fun v29=>(
 bdO (aZ n b i_3) fun v31=>(
 gdO (decide ((o_1.length+1)*4<=140737488355328)) (
 gdO (decide (o_1.length+1<=4611686018427387904)) (
 again20 (o_1++[aa .u32 ((aa .u64 ((aa .u64 (v29+v31))+c_2)).tmod 1000000000)],aa .u64 ((aa .u64 ((aa .u64 (v29+v31))+c_2)).tdiv 1000000000),Jy (i_3+1))
 )
 )
 )
 )
 ) (
 some ((o_1,c_2))
 )
 )
 )) ([],0,0)) fun o35=>(
 match o35 with
 |(o_18,c_19)=>(
 gdO (decide ((o_18.length+1)*4<=140737488355328)) (
 gdO (decide (o_18.length+1<=4611686018427387904)) (
 bdO (aV n false (o_18++[aa .u32 c_19])) fun v40=>(
 some (v40.Groups)
 )
 )
 )
 ))

def fR(n:Nat)(x':ah)(y:ah):Option (ah):=
 bdO (bg n x') fun v1=>(
 bdO (bg n y) fun v3=>(
 cdO (v1.Negative==v3.Negative) (
 bdO (gJ n v1.Groups v3.Groups) fun v6=>(
 bdO (aV n v1.Negative v6) fun v8=>(
 some (v8)
 )
 )
 ) (
 bdO (dc n v1.Groups v3.Groups) fun v10=>(
 cdO (decide (v10>=0)) (
 bdO (cg n v1.Groups v3.Groups) fun v13=>(
 bdO (aV n v1.Negative v13) fun v15=>(
 some (v15)
 )
 )
 ) (
 bdO (cg n v3.Groups v1.Groups) fun v17=>(
 bdO (aV n v3.Negative v17) fun v19=>(
 some (v19)
 )
 )
 )
 )
 )
 )
 )

def cS(n:Nat)(x':ah)(y:ah):Option (ah):=
 bdO (eV n y) fun v1=>(
 bdO (fR n x' v1) fun v3=>(
 some (v3)
 )
 )

def bB(n:Nat)(x':ah)(y:ah):Option (ah):=
 bdO (bg n x') fun v1=>(
 bdO (bg n y) fun v3=>(
 gdO (decide (0<=Jy ((v1.Groups.length:Int)+(v3.Groups.length:Int)))) (
 gdO (decide ((4:Int)*(Jy ((v1.Groups.length:Int)+(v3.Groups.length:Int)))<=281474976710656)) (
 gdO (decide (Jy ((v1.Groups.length:Int)+(v3.Groups.length:Int))<=9223372036854775807)) (
 bdO (aJ (α:=List Int×Int) (β:=List Int) n (fun again30 (o_8,i_9)=>(
 cdO (decide (i_9<(v1.Groups.length:Int))) (
 bdO (aJ (α:=List Int×Int×Int) (β:=List Int×Int) n (fun again41 (o_32,c_33,j_34)=>(
 cdO (decide (j_34<(v3.Groups.length:Int))) (
 gdO (inR (Jy (i_9+j_34)) o_32.length) (
 gdO (inR i_9 v1.Groups.length) (
 gdO (inR j_34 v3.Groups.length) (
 again41 (o_32.set (Jy (i_9+j_34)).toNat (aa .u32 ((aa .u64 ((aa .u64 ((aa .u64 (gt o_32 (Jy (i_9+j_34))))+(aa .u64 ((aa .u64 (gt v1.Groups i_9))*(aa .u64 (gt v3.Groups j_34))))))+c_33)).tmod 1000000000)),aa .u64 ((aa .u64 ((aa .u64 ((aa .u64 (gt o_32 (Jy (i_9+j_34))))+(aa .u64 ((aa .u64 (gt v1.Groups i_9))*(aa .u64 (gt v3.Groups j_34))))))+c_33)).tdiv 1000000000),Jy (j_34+1))
 )
 )
 )
 ) (
 some ((o_32,c_33))
 )
 )) (o_8,0,0)) fun o46=>(
 match o46 with
 |(o_39,c_40)=>(
 gdO (inR (Jy (i_9+(v3.Groups.length:Int))) o_39.length) (
 again30 (o_39.set (Jy (i_9+(v3.Groups.length:Int))).toNat (aa .u32 c_40),Jy (i_9+1))
 )
 ))
 ) (
 some (o_8)
 )
 )) (List.replicate (Jy ((v1.Groups.length:Int)+(v3.Groups.length:Int))).toNat ((0:Int):Int),0)) fun o_29=>(
 bdO (aV n (v1.Negative !=v3.Negative) o_29) fun v53=>(
 some (v53)
 )
 )
 )
 )
 )
 )
 )

def cY(n:Nat)(x':ah)(y:ah):Option (ah×ah×Int):=
 bdO (bg n x') fun v1=>(
 bdO (bg n y) fun v3=>(
 cdO (((v3.Groups.length:Int):Int)==0) (
 some ((ah.mk false [],ah.mk false [],14))
 ) (
 bdO (dw n v1.Groups v3.Groups) fun v6=>(
 bdO (aV n (v1.Negative !=v3.Negative) v6.1) fun v8=>(
 cdO (v1.Negative !=v3.Negative) (
 cdO (decide ((v6.2.length:Int)>0)) (
 bdO (gD n 1) fun v12=>(
 bdO (cS n v8 v12) fun v14=>(
 bdO (bB n v14 v3) fun v16=>(
 bdO (cS n v1 v16) fun v18=>(
 some ((v14,v18,0))
 )
 )
 )
 )
 ) (
 bdO (bB n v8 v3) fun v20=>(
 bdO (cS n v1 v20) fun v22=>(
 some ((v8,v22,0))
 )
 )
 )
 ) (
 bdO (bB n v8 v3) fun v24=>(
 bdO (cS n v1 v24) fun v26=>(
 some ((v8,v26,0))
 )
 )
 )
 )
 )
 )
 )
 )

def dx(n:Nat)(num:ah)(den:ah):Option (aj):=
 bdO (fP n num den) fun v1=>(
 bdO (cA n den) fun v3=>(
 cdO (decide (v3<0)) (
 bdO (eV n v1) fun v6=>(
 bdO (cY n num v6) fun v8=>(
 bdO (cY n den v6) fun v10=>(
 some (aj.mk v8.1 v10.1)
 )
 )
 )
 ) (
 bdO (cY n num v1) fun v12=>(
 bdO (cY n den v1) fun v14=>(
 some (aj.mk v12.1 v14.1)
 )
 )
 )
 )
 )

def jQ(n:Nat)(num:ah)(den:ah):Option (aj×Int):=
 bdO (cA n den) fun v1=>(
 cdO ((v1:Int)==0) (
 some ((aj.mk (ah.mk false []) (ah.mk false []),14))
 ) (
 bdO (dx n num den) fun v4=>(
 some ((v4,0))
 )
 )
 )

def gC(n:Nat)(n':Int)(d:Int):Option (aj×Int):=
 bdO (ch n n') fun v1=>(
 bdO (ch n d) fun v3=>(
 bdO (jQ n v1 v3) fun v5=>(
 some ((v5.1,v5.2))
 )
 )
 )

def fm(n:Nat)(x':ah)(y:ah):Option (Int):=
 bdO (cS n x' y) fun v1=>(
 bdO (cA n v1) fun v3=>(
 some (v3)
 )
 )

def bM(n:Nat)(x':aj):Option (Bool):=
 bdO (cL n x'.Num) fun v1=>(
 cdO (!v1) (
 some (false)
 ) (
 bdO (cL n x'.Den) fun v4=>(
 cdO (!v4) (
 some (false)
 ) (
 bdO (cA n x'.Den) fun v7=>(
 cdO (decide (v7<=0)) (
 some (false)
 ) (
 bdO (fP n x'.Num x'.Den) fun v10=>(
 bdO (ch n 1) fun v12=>(
 bdO (fm n v10 v12) fun v14=>(
 some ((v14:Int)==0)
 )
 )
 )
 )
 )
 )
 )
 )
 )

def bO(n:Nat)(n':Int):Option (aj):=
 bdO (ch n n') fun v1=>(
 bdO (ch n 1) fun v3=>(
 some (aj.mk v1 v3)
 )
 )

def cx(n:Nat)(x':aj):Option (aj):=
 bdO (bM n x') fun v1=>(
 cdO v1 (
 some (x')
 ) (
 bdO (bO n 0) fun v4=>(
 some (v4)
 )
 )
 )

def iB(n:Nat)(x':aj):Option (aj):=
 bdO (cx n x') fun v1=>(
 bdO (eV n v1.Num) fun v3=>(
 some (aj.mk v3 v1.Den)
 )
 )

def bH(n:Nat)(x':aj)(y:aj):Option (aj):=
 bdO (cx n x') fun v1=>(
 bdO (cx n y) fun v3=>(
 bdO (bB n v1.Num v3.Den) fun v5=>(
 bdO (bB n v3.Num v1.Den) fun v7=>(
 bdO (fR n v5 v7) fun v9=>(
 bdO (bB n v1.Den v3.Den) fun v11=>(
 bdO (dx n v9 v11) fun v13=>(
 some (v13)
 )
 )
 )
 )
 )
 )
 )

def bh(n:Nat)(x':aj)(y:aj):Option (aj):=
 bdO (iB n y) fun v1=>(
 bdO (bH n x' v1) fun v3=>(
 some (v3)
 )
 )

def dJ(n:Nat)(x':aj):Option (Int):=
 bdO (cx n x') fun v1=>(
 bdO (cA n v1.Num) fun v3=>(
 some (v3)
 )
 )

def aW(n:Nat)(x':aj)(y:aj):Option (Int):=
 bdO (bh n x' y) fun v1=>(
 bdO (dJ n v1) fun v3=>(
 some (v3)
 )
 )

def lF(n:Nat)(x':aj)(y:aj):Option (Bool):=
 bdO (bM n x') fun v1=>(
 cdO v1 (
 bdO (bM n y) fun v4=>(
 cdO v4 (
 bdO (aW n x' y) fun v7=>(
 some ((v7:Int)==0)
 )
 ) (
 some (false)
 )
 )
 ) (
 some (false)
 )
 )

def kx(n:Nat):Option (Bool):=some true

def mF(n:Nat)(g:ak)(n':Int):Option (Bool):=
 some (decide ((g.Z.length:Int)<=n'))

def ff(n:Nat)(n':Int):Option (Bool):=
 cdO (decide (n'>=2)) (
 some (decide (n'<=64))
 ) (
 some (false)
 )

def jk(n:Nat)(n':Int):Option (Bool):=
 cdO (decide (n'<(-1048576))) (
 some (true)
 ) (
 some (decide (n'>1048576))
 )

def jw(n:Nat)(z:Int):Option (Bool):=
 cdO ((z:Int)!=(-2147483648)) (
 bdO (jk n z) fun v2=>(
 some (v2)
 )
 ) (
 some (false)
 )

def bZ(n:Nat)(s:List Int):Option (Int):=
 bdO (aJ (α:=Int) (β:=Sum (Unit) (Int)) n (fun again7 x_1=>(
 cdO (decide (x_1<(s.length:Int))) (
 gdO (inR x_1 s.length) (
 bdO (jw n (gt s x_1)) fun v10=>(
 cdO v10 (
 some (Sum.inr (x_1))
 ) (
 again7 (Jy (x_1+1))
 )
 )
 )
 ) (
 some (Sum.inl ())
 )
 )) 0) fun o13=>(
 match o13 with
 |.inl _=>(
 some ((-1))
 )
 |.inr (r0)=>(
 some r0
 ))

def bl(n:Nat)(s:List Int):Option (Bool):=
 bdO (bZ n s) fun v1=>(
 some (decide (v1>=0))
 )

def kB(n:Nat)(g:ak):Option (Int):=
 bdO (ff n g.Width) fun v1=>(
 cdO (!v1) (
 some (2)
 ) (
 bdO (ff n g.Height) fun v4=>(
 cdO (!v4) (
 some (2)
 ) (
 cdO (decide (g.Step<2)) (
 some (2)
 ) (
 cdO (decide (g.Step>65536)) (
 some (2)
 ) (
 cdO (((g.Step.tmod 2):Int)!=0) (
 some (2)
 ) (
 bdO (jk n g.X0) fun v10=>(
 cdO v10 (
 some (2)
 ) (
 bdO (jk n g.Y0) fun v13=>(
 cdO v13 (
 some (2)
 ) (
 cdO (((g.Z.length:Int):Int)!=(Jy (g.Width*g.Height))) (
 some (4)
 ) (
 bdO (bl n g.Z) fun v17=>(
 cdO v17 (
 some (2)
 ) (
 some (0)
 )
 )
 )
 )
 )
 )
 )
 )
 )
 )
 )
 )
 )
 )

def gQ(n:Nat)(g:ak)(level:Int):Option (Int):=
 bdO (kB n g) fun v1=>(
 cdO ((v1:Int)!=0) (
 some (v1)
 ) (
 cdO (((level.tmod 2):Int)==0) (
 some (1)
 ) (
 cdO (decide (level<(-2097153))) (
 some (2)
 ) (
 cdO (decide (level>2097153)) (
 some (2)
 ) (
 some (0)
 )
 )
 )
 )
 )

def iy(n:Nat)(s:List Int)(v:Int):Option (Int):=
 bdO (aJ (α:=Int) (β:=Sum (Unit) (Int)) n (fun again5 x_1=>(
 cdO (decide (x_1<(s.length:Int))) (
 gdO (inR x_1 s.length) (
 cdO ((v:Int)==(gt s x_1)) (
 some (Sum.inr (x_1))
 ) (
 again5 (Jy (x_1+1))
 )
 )
 ) (
 some (Sum.inl ())
 )
 )) 0) fun o9=>(
 match o9 with
 |.inl _=>(
 some ((-1))
 )
 |.inr (r0)=>(
 some r0
 ))

def bX(n:Nat)(s:List Int)(v:Int):Option (Bool):=
 bdO (iy n s v) fun v1=>(
 some (decide (v1>=0))
 )

def fx(n:Nat)(t:A3 Int)(p:Bool)(p':Int)(p'':Int):Option (Bool):=
 cdO p (
 some (true)
 ) (
 bdO (bX n [t.e0,t.e1,t.e2] p') fun v9=>(
 cdO v9 (
 bdO (bX n [t.e0,t.e1,t.e2] p'') fun v12=>(
 some (v12)
 )
 ) (
 some (false)
 )
 )
 )

def cy(n:Nat)(g:ak)(c:Bool)(c':Int)(c'':Int):Option (Bool):=
 bdO (aJ (α:=Bool×Int) (β:=Bool) n (fun again249 (c_167,x_168)=>(
 cdO (decide (x_168<(Jy (g.Height-1)))) (
 bdO (aJ (α:=Bool×Int) (β:=Bool) n (fun again290 (c_252,x_253)=>(
 cdO (decide (x_253<(Jy (g.Width-1)))) (
 bdO (some (Jy ((Jy (x_168*g.Width))+x_253))) fun w293=>(
 bdO (some [A3.mk w293 (Jy (w293+1)) (Jy ((Jy (w293+g.Width))+1)),A3.mk w293 (Jy ((Jy (w293+g.Width))+1)) (Jy (w293+g.Width))]) fun w295=>(
 bdO (aJ (α:=Bool×Int) (β:=Bool) n (fun again311 (c_297,x_298)=>(
 cdO (decide (x_298<2)) (
 gdO (inR x_298 w295.length) (
 gdO (inR (gt w295 x_298).e0 g.Z.length) (
 cdO (((gt g.Z (gt w295 x_298).e0):Int)!=(-2147483648)) (
 gdO (inR (gt w295 x_298).e1 g.Z.length) (
 cdO (((gt g.Z (gt w295 x_298).e1):Int)!=(-2147483648)) (
 gdO (inR (gt w295 x_298).e2 g.Z.length) (
 cdO (((gt g.Z (gt w295 x_298).e2):Int)!=(-2147483648)) (
 bdO (fx n (gt w295 x_298) c_297 c' c'') fun v321=>(
 again311 (v321,Jy (x_298+1))
 )
 ) (
 again311 (c_297,Jy (x_298+1))
 )
 )
 ) (
 again311 (c_297,Jy (x_298+1))
 )
 )
 ) (
 again311 (c_297,Jy (x_298+1))
 )
 )
 )
 ) (
 some (c_297)
 )
 )) (c_252,0)) fun c_310=>(
 again290 (c_310,Jy (x_253+1))
 )
 )
 )
 ) (
 some (c_252)
 )
 )) (c_167,0)) fun c_289=>(
 again249 (c_289,Jy (x_168+1))
 )
 ) (
 some (c_167)
 )
 )) (c,0)) fun c_248=>(
 some (c_248)
 )

def jW(n:Nat)(g:ak)(a:Int)(b:Int):Option (Bool):=
 cdO (decide (a<0)) (
 some (false)
 ) (
 cdO (decide (a>=b)) (
 some (false)
 ) (
 cdO (decide (b>=(g.Z.length:Int))) (
 some (false)
 ) (
 bdO (cy n g false a b) fun v4=>(
 some (v4)
 )
 )
 )
 )

def dQ(n:Nat)(a:Int)(b:Int)(p:Int)(p':Int)(p'':Bool)(DK:List Int)(zw:Bool)(rT:List Int):Option (aj):=
 bdO (di n a) fun v1=>(
 bdO (di n (Jy (b-a))) fun v3=>(
 bdO (eE n (aj.mk (ah.mk p'' DK) (ah.mk zw rT)) v3) fun v5=>(
 bdO (ir n v1 v5) fun v7=>(
 some (v7)
 )
 )
 )
 )

def dO(n:Nat)(g:ak)(c:an):Option (al×Int):=
 bdO (jW n g c.A c.B) fun v1=>(
 cdO (!v1) (
 some ((al.mk (aj.mk (ah.mk false []) (ah.mk false [])) (aj.mk (ah.mk false []) (ah.mk false [])),6))
 ) (
 bdO (fF n c.At) fun v5=>(
 cdO (!v5) (
 some ((al.mk (aj.mk (ah.mk false []) (ah.mk false [])) (aj.mk (ah.mk false []) (ah.mk false [])),1))
 ) (
 bdO (α:=Bool) (
 bdO (dq n c.At) fun v12=>(
 cdO (decide (v12<0)) (
 some (true)
 ) (
 bdO (di n 1) fun v15=>(
 bdO (fr n c.At v15) fun v17=>(
 some (decide (v17>0))
 )
 )
 )
 )
 ) fun x_11=>(
 cdO x_11 (
 some ((al.mk (aj.mk (ah.mk false []) (ah.mk false [])) (aj.mk (ah.mk false []) (ah.mk false [])),2))
 ) (
 gdO (!decide (g.Width=0)) (
 bdO (dQ n (Jy (g.X0+(Jy ((c.A.tmod g.Width)*g.Step)))) (Jy (g.X0+(Jy ((c.B.tmod g.Width)*g.Step)))) c.A c.B c.At.Num.Negative c.At.Num.Groups c.At.Den.Negative c.At.Den.Groups) fun v25=>(
 bdO (dQ n (Jy (g.Y0+(Jy ((Jy (c.A.tdiv g.Width))*g.Step)))) (Jy (g.Y0+(Jy ((Jy (c.B.tdiv g.Width))*g.Step)))) c.A c.B c.At.Num.Negative c.At.Num.Groups c.At.Den.Negative c.At.Den.Groups) fun v27=>(
 some ((al.mk v25 v27,0))
 )
 )
 )
 )
 )
 )
 )
 )
 )

def iZ(n:Nat)(g:ak)(c:ae):Option (List al×Int):=
 bdO (aJ (α:=List al×Int) (β:=Sum (List al) (List al×Int)) n (fun again12 (o_1,x_2)=>(
 cdO (decide (x_2<(c.Points.length:Int))) (
 gdO (inR x_2 c.Points.length) (
 bdO (dO n g (gt c.Points x_2)) fun v16=>(
 cdO ((v16.2:Int)!=0) (
 some (Sum.inr (([],v16.2)))
 ) (
 gdO (decide ((o_1.length+1)*128<=140737488355328)) (
 gdO (decide (o_1.length+1<=4611686018427387904)) (
 again12 (o_1++[v16.1],Jy (x_2+1))
 )
 )
 )
 )
 )
 ) (
 some (Sum.inl o_1)
 )
 )) ([],0)) fun o21=>(
 match o21 with
 |.inl o_11=>(
 some ((o_11,0))
 )
 |.inr (r0)=>(
 some r0
 ))

def ib(n:Nat)(polygon:List al)(o:al):Option (Int×Bool):=
 bdO (aJ (α:=Int×Int) (β:=Sum (Int) (Int×Bool)) n (fun again52 (n_1,x_2)=>(
 cdO (decide (x_2<(polygon.length:Int))) (
 gdO (inR x_2 polygon.length) (
 gdO (!decide ((polygon.length:Int)=0)) (
 gdO (inR ((Jy (x_2+1)).tmod (polygon.length:Int)) polygon.length) (
 bdO (eF n (gt polygon x_2).X o.X) fun v58=>(
 bdO (eF n (gt polygon x_2).Y o.Y) fun v60=>(
 bdO (eF n (gt polygon ((Jy (x_2+1)).tmod (polygon.length:Int))).X o.X) fun v62=>(
 bdO (eF n (gt polygon ((Jy (x_2+1)).tmod (polygon.length:Int))).Y o.Y) fun v64=>(
 bdO (eE n v58 v64) fun v66=>(
 bdO (eE n v60 v62) fun v68=>(
 bdO (eF n v66 v68) fun v70=>(
 bdO (dq n v70) fun v72=>(
 bdO (α:=Sum (Unit) (Int×Bool)) (
 cdO ((v72:Int)==0) (
 bdO (eE n v58 v62) fun v75=>(
 bdO (eE n v60 v64) fun v77=>(
 bdO (ir n v75 v77) fun v79=>(
 bdO (dq n v79) fun v81=>(
 cdO (decide (v81<=0)) (
 some (Sum.inr ((0,true)))
 ) (
 some (Sum.inl ())
 )
 )
 )
 )
 )
 ) (
 some (Sum.inl ())
 )
 ) fun o84=>(
 match o84 with
 |.inl _=>(
 bdO (dq n v60) fun v87=>(
 bdO (dq n v64) fun v89=>(
 bdO (α:=Bool) (
 cdO (decide (v87<=0)) (
 cdO (!(decide (v89<=0))) (
 some (decide (v72>0))
 ) (
 some (false)
 )
 ) (
 some (false)
 )
 ) fun x_91=>(
 cdO x_91 (
 again52 (Jy (n_1+1),Jy (x_2+1))
 ) (
 cdO (!(decide (v87<=0))) (
 cdO (decide (v89<=0)) (
 cdO (decide (v72<0)) (
 again52 (Jy (n_1-1),Jy (x_2+1))
 ) (
 again52 (n_1,Jy (x_2+1))
 )
 ) (
 again52 (n_1,Jy (x_2+1))
 )
 ) (
 again52 (n_1,Jy (x_2+1))
 )
 )
 )
 )
 )
 )
 |.inr (r0)=>(
 some (Sum.inr (r0))
 ))
 )
 )
 )
 )
 )
 )
 )
 )
 )
 )
 )
 ) (
 some (Sum.inl n_1)
 )
 )) (0,0)) fun o101=>(
 match o101 with
 |.inl n_51=>(
 some ((n_51,false))
 )
 |.inr (r0)=>(
 some r0
 ))

noncomputable def js(n:Nat)(g:ak)(level:Int):Option (List Int×Int):=
 bdO (gQ n g level) fun v1=>(
 cdO ((v1:Int)!=0) (
 some (([],v1))
 ) (
 bdO (gz n g level) fun v5=>(
 bdO (aJ (α:=List (List al)×Int) (β:=List (List al)) n (fun again38 (a_28,x_29)=>(
 cdO (decide (x_29<(v5.length:Int))) (
 gdO (inR x_29 v5.length) (
 bdO (iZ n g (gt v5 x_29)) fun v42=>(
 gdO (decide ((a_28.length+1)*24<=140737488355328)) (
 gdO (decide (a_28.length+1<=4611686018427387904)) (
 again38 (a_28++[v42.1],Jy (x_29+1))
 )
 )
 )
 )
 ) (
 some (a_28)
 )
 )) ([],0)) fun a_37=>(
 gdO (decide (0<=(v5.length:Int))) (
 gdO (decide ((24:Int)*(v5.length:Int)<=281474976710656)) (
 gdO (decide ((v5.length:Int)<=9223372036854775807)) (
 bdO (aJ (α:=List (List Bool)×Int) (β:=List (List Bool)) n (fun again191 (i_145,x_146)=>(
 cdO (decide (x_146<(v5.length:Int))) (
 gdO (decide ((1:Int)*(v5.length:Int)<=281474976710656)) (
 gdO (inR x_146 i_145.length) (
 bdO (aJ (α:=List (List Bool)×Int) (β:=List (List Bool)) n (fun again215 (i_196,x_197)=>(
 cdO (decide (x_197<(v5.length:Int))) (
 gdO (inR x_197 v5.length) (
 bdO (α:=Bool) (
 cdO ((x_146:Int)!=x_197) (
 some ((gt v5 x_197).Closed)
 ) (
 some (false)
 )
 ) fun x_219=>(
 cdO x_219 (
 gdO (inR x_197 a_37.length) (
 gdO (inR x_146 a_37.length) (
 gdO (inR 0 (gt a_37 x_146).length) (
 bdO (ib n (gt a_37 x_197) (gt (gt a_37 x_146) 0)) fun v228=>(
 gdO (inR x_146 i_196.length) (
 gdO (inR x_197 (gt i_196 x_146).length) (
 again215 (i_196.set x_146.toNat ((gt i_196 x_146).set x_197.toNat ((v228.1:Int)!=0)),Jy (x_197+1))
 )
 )
 )
 )
 )
 )
 ) (
 again215 (i_196,Jy (x_197+1))
 )
 )
 )
 ) (
 some (i_196)
 )
 )) (i_145.set x_146.toNat (List.replicate (v5.length:Int).toNat false),0)) fun i_214=>(
 again191 (i_214,Jy (x_146+1))
 )
 )
 )
 ) (
 some (i_145)
 )
 )) (List.replicate (v5.length:Int).toNat ([]:List Bool),0)) fun i_190=>(
 gdO (decide ((8:Int)*(v5.length:Int)<=281474976710656)) (
 bdO (aJ (α:=List (List Bool)×List Int×Int) (β:=List Int) n (fun again321 (i_239,o_240,x_241)=>(
 cdO (decide (x_241<(v5.length:Int))) (
 gdO (inR x_241 o_240.length) (
 bdO (aJ (α:=List (List Bool)×List Int×Int) (β:=List (List Bool)×List Int) n (fun again363 (i_325,o_326,x_327)=>(
 cdO (decide (x_327<(v5.length:Int))) (
 gdO (inR x_241 i_325.length) (
 gdO (inR x_327 (gt i_325 x_241).length) (
 cdO (!(gt (gt i_325 x_241) x_327)) (
 again363 (i_325.set x_241.toNat (gt i_325 x_241),o_326,Jy (x_327+1))
 ) (
 bdO (aJ (α:=List (List Bool)×Int) (β:=Sum (List (List Bool)) (List (List Bool))) n (fun again383 (i_370,x_371)=>(
 cdO (decide (x_371<(v5.length:Int))) (
 gdO (inR x_241 i_370.length) (
 gdO (inR x_371 (gt i_370 x_241).length) (
 cdO (gt (gt i_370 x_241) x_371) (
 gdO (inR x_371 i_370.length) (
 gdO (decide (x_241≠x_371)) (
 gdO (inR x_327 (gt i_370 x_371).length) (
 cdO (gt (gt i_370 x_371) x_327) (
 some (Sum.inr ((i_370.set x_241.toNat (gt i_370 x_241)).set x_371.toNat (gt i_370 x_371)))
 ) (
 again383 ((i_370.set x_241.toNat (gt i_370 x_241)).set x_371.toNat (gt i_370 x_371),Jy (x_371+1))
 )
 )
 )
 )
 ) (
 again383 (i_370.set x_241.toNat (gt i_370 x_241),Jy (x_371+1))
 )
 )
 )
 ) (
 some (Sum.inl i_370)
 )
 )) (i_325.set x_241.toNat (gt i_325 x_241),0)) fun o393=>(
 match o393 with
 |.inl i_381=>(
 gdO (inR x_241 o_326.length) (
 again363 (i_381,o_326.set x_241.toNat x_327,Jy (x_327+1))
 )
 )
 |.inr (i_382)=>(
 again363 (i_382,o_326,Jy (x_327+1))
 ))
 )
 )
 )
 ) (
 some ((i_325,o_326))
 )
 )) (i_239,o_240.set x_241.toNat ((-1):Int),0)) fun o397=>(
 match o397 with
 |(i_361,o_362)=>(
 again321 (i_361,o_362,Jy (x_241+1))
 ))
 )
 ) (
 some (o_240)
 )
 )) (i_190,List.replicate (v5.length:Int).toNat ((0:Int):Int),0)) fun o_320=>(
 some ((o_320,0))
 )
 )
 )
 )
 )
 )
 )
 )
 )
 )

def ee(n:Nat)(n':Int):Option (Bool):=
 cdO (decide (n'<(-1048576))) (
 some (true)
 ) (
 some (decide (n'>1048576))
 )

def gh(n:Nat)(g:ak):Option (Int):=
 cdO (decide (g.Width<2)) (
 some (2)
 ) (
 cdO (decide (g.Width>64)) (
 some (2)
 ) (
 cdO (decide (g.Height<2)) (
 some (2)
 ) (
 cdO (decide (g.Height>64)) (
 some (2)
 ) (
 cdO (decide (g.Step<2)) (
 some (2)
 ) (
 cdO (decide (g.Step>65536)) (
 some (2)
 ) (
 cdO (((g.Step.tmod 2):Int)!=0) (
 some (2)
 ) (
 bdO (ee n g.X0) fun v8=>(
 cdO v8 (
 some (2)
 ) (
 bdO (ee n g.Y0) fun v11=>(
 cdO v11 (
 some (2)
 ) (
 cdO (((g.Z.length:Int):Int)!=(Jy (g.Width*g.Height))) (
 some (4)
 ) (
 bdO (aJ (α:=Int) (β:=Sum (Unit) (Int)) n (fun again22 x_15=>(
 cdO (decide (x_15<(g.Z.length:Int))) (
 gdO (inR x_15 g.Z.length) (
 cdO (((gt g.Z x_15):Int)!=(-2147483648)) (
 bdO (ee n (gt g.Z x_15)) fun v26=>(
 cdO v26 (
 some (Sum.inr (2))
 ) (
 again22 (Jy (x_15+1))
 )
 )
 ) (
 again22 (Jy (x_15+1))
 )
 )
 ) (
 some (Sum.inl ())
 )
 )) 0) fun o29=>(
 match o29 with
 |.inl _=>(
 some (0)
 )
 |.inr (r0)=>(
 some r0
 ))
 )
 )
 )
 )
 )
 )
 )
 )
 )
 )
 )
 )

def fi(n:Nat)(g:ak)(level:Int):Option (Int):=
 bdO (gh n g) fun v1=>(
 cdO ((v1:Int)!=0) (
 some (v1)
 ) (
 cdO (((level.tmod 2):Int)==0) (
 some (1)
 ) (
 cdO (decide (level<(-2097153))) (
 some (2)
 ) (
 cdO (decide (level>2097153)) (
 some (2)
 ) (
 some (0)
 )
 )
 )
 )
 )

def dC(n:Nat)(g:ak):Option (List (A3 Int)):=
 bdO (aJ (α:=List (A3 Int)×Int) (β:=List (A3 Int)) n (fun again76 (l_1,x_2)=>(
 cdO (decide (x_2<(Jy (g.Height-1)))) (
 bdO (aJ (α:=List (A3 Int)×Int) (β:=List (A3 Int)) n (fun again113 (l_78,x_79)=>(
 cdO (decide (x_79<(Jy (g.Width-1)))) (
 bdO (some (Jy ((Jy (x_2*g.Width))+x_79))) fun w115=>(
 bdO (some [A3.mk w115 (Jy (w115+1)) (Jy ((Jy (w115+g.Width))+1)),A3.mk w115 (Jy ((Jy (w115+g.Width))+1)) (Jy (w115+g.Width))]) fun w117=>(
 bdO (aJ (α:=List (A3 Int)×Int) (β:=List (A3 Int)) n (fun again132 (l_119,x_120)=>(
 cdO (decide (x_120<2)) (
 gdO (inR x_120 w117.length) (
 gdO (inR (gt w117 x_120).e0 g.Z.length) (
 cdO (((gt g.Z (gt w117 x_120).e0):Int)!=(-2147483648)) (
 gdO (inR (gt w117 x_120).e1 g.Z.length) (
 cdO (((gt g.Z (gt w117 x_120).e1):Int)!=(-2147483648)) (
 gdO (inR (gt w117 x_120).e2 g.Z.length) (
 cdO (((gt g.Z (gt w117 x_120).e2):Int)!=(-2147483648)) (
 gdO (decide ((l_119.length+1)*24<=140737488355328)) (
 gdO (decide (l_119.length+1<=4611686018427387904)) (
 again132 (l_119++[(gt w117 x_120)],Jy (x_120+1))
 )
 )
 ) (
 again132 (l_119,Jy (x_120+1))
 )
 )
 ) (
 again132 (l_119,Jy (x_120+1))
 )
 )
 ) (
 again132 (l_119,Jy (x_120+1))
 )
 )
 )
 ) (
 some (l_119)
 )
 )) (l_78,0)) fun l_131=>(
 again113 (l_131,Jy (x_79+1))
 )
 )
 )
 ) (
 some (l_78)
 )
 )) (l_1,0)) fun l_112=>(
 again76 (l_112,Jy (x_2+1))
 )
 ) (
 some (l_1)
 )
 )) ([],0)) fun l_75=>(
 some (l_75)
 )

def br(n:Nat)(g:ak)(level:Int)(k:Int):Option (Bool):=
 gdO (inR k g.Z.length) (
 some (decide ((Jy (2*(gt g.Z k)))>level))
 )

def dd(n:Nat)(a:Int)(b:Int):Option (A2 Int):=
 some (A2.mk (mn a b) (mx a b))

def eP(n:Nat)(g:ak)(level:Int):Option (List (A2 (A2 Int))):=
 bdO (dC n g) fun v1=>(
 bdO (aJ (α:=List (A2 (A2 Int))×Int) (β:=List (A2 (A2 Int))) n (fun again100 (l_3,x_4)=>(
 cdO (decide (x_4<(v1.length:Int))) (
 gdO (inR x_4 v1.length) (
 bdO (aJ (α:=Int×Int×Int×Int×Bool×Int) (β:=Int×Int×Int×Int×Bool) n (fun again151 (s_103,s_104,s_105,s_106,f_107,x_108)=>(
 cdO (decide (x_108<3)) (
 gdO (inR x_108 3) (
 gdO (inR ((Jy (x_108+1)).tmod 3) 3) (
 bdO (some (A3.get (gt v1 x_4) ((Jy (x_108+1)).tmod 3))) fun w155=>(
 bdO (br n g level (A3.get (gt v1 x_4) x_108)) fun v157=>(
 cdO v157 (
 bdO (br n g level w155) fun v160=>(
 cdO (!v160) (
 bdO (dd n (A3.get (gt v1 x_4) x_108) w155) fun v163=>(
 bdO (br n g level (A3.get (gt v1 x_4) x_108)) fun v165=>(
 cdO (!v165) (
 bdO (br n g level w155) fun v168=>(
 cdO v168 (
 bdO (dd n (A3.get (gt v1 x_4) x_108) w155) fun v171=>(
 again151 (v163.e0,v163.e1,v171.e0,v171.e1,true,Jy (x_108+1))
 )
 ) (
 again151 (v163.e0,v163.e1,s_105,s_106,true,Jy (x_108+1))
 )
 )
 ) (
 again151 (v163.e0,v163.e1,s_105,s_106,true,Jy (x_108+1))
 )
 )
 )
 ) (
 bdO (br n g level (A3.get (gt v1 x_4) x_108)) fun v173=>(
 cdO (!v173) (
 bdO (br n g level w155) fun v176=>(
 cdO v176 (
 bdO (dd n (A3.get (gt v1 x_4) x_108) w155) fun v179=>(
 again151 (s_103,s_104,v179.e0,v179.e1,f_107,Jy (x_108+1))
 )
 ) (
 again151 (s_103,s_104,s_105,s_106,f_107,Jy (x_108+1))
 )
 )
 ) (
 again151 (s_103,s_104,s_105,s_106,f_107,Jy (x_108+1))
 )
 )
 )
 )
 ) (
 bdO (br n g level (A3.get (gt v1 x_4) x_108)) fun v181=>(
 cdO (!v181) (
 bdO (br n g level w155) fun v184=>(
 cdO v184 (
 bdO (dd n (A3.get (gt v1 x_4) x_108) w155) fun v187=>(
 again151 (s_103,s_104,v187.e0,v187.e1,f_107,Jy (x_108+1))
 )
 ) (
 again151 (s_103,s_104,s_105,s_106,f_107,Jy (x_108+1))
 )
 )
 ) (
 again151 (s_103,s_104,s_105,s_106,f_107,Jy (x_108+1))
 )
 )
 )
 )
 )
 )
 )
 ) (
 some ((s_103,s_104,s_105,s_106,f_107))
 )
 )) (0,0,0,0,false,0)) fun o189=>(
 match o189 with
 |(s_146,s_147,s_148,s_149,f_150)=>(
 cdO f_150 (
 gdO (decide ((l_3.length+1)*32<=140737488355328)) (
 gdO (decide (l_3.length+1<=4611686018427387904)) (
 again100 (l_3++[A2.mk (A2.mk s_146 s_147) (A2.mk s_148 s_149)],Jy (x_4+1))
 )
 )
 ) (
 again100 (l_3,Jy (x_4+1))
 )
 ))
 )
 ) (
 some (l_3)
 )
 )) ([],0)) fun l_99=>(
 some (l_99)
 )
 )

def bE(n:Nat)(g:ak)(level:Int)(e:A2 Int):Option (an):=
 gdO (inR e.e0 g.Z.length) (
 gdO (inR e.e1 g.Z.length) (
 bdO (gC n (Jy (level-(Jy (2*(gt g.Z e.e0))))) (Jy (2*(Jy ((gt g.Z e.e1)-(gt g.Z e.e0)))))) fun v3=>(
 some (an.mk e.e0 e.e1 v3.1)
 )
 )
 )

def cN(n:Nat)(e:A2 Int)(closed:Bool)(p:List (A2 Int×Bool))(p':List (A2 Int×A2 Int))(p'':Int)(DK:Int)(zw:Int)(rT:Int)(uL:Int)(xV:List Int)(ox:Int)(lG:List ae):Option (List (A2 Int×Bool)×List ae):=
 bdO (aJ (α:=List (A2 Int×Bool)×Int×Int×List an×Bool) (β:=List (A2 Int×Bool)×List an) n (fun again41 (p_28,e_29,e_30,c_31,o_32)=>(
 cdO o_32 (
 cdO (!(getM false p_28 (A2.mk e_29 e_30))) (
 bdO (bE n (ak.mk p'' DK zw rT uL xV) ox (A2.mk e_29 e_30)) fun v44=>(
 gdO (decide ((c_31.length+1)*80<=140737488355328)) (
 gdO (decide (c_31.length+1<=4611686018427387904)) (
 again41 (dm p_28 (A2.mk e_29 e_30) true,(getM (A2.mk 0 0:A2 Int) p' (A2.mk e_29 e_30)).e0,(getM (A2.mk 0 0:A2 Int) p' (A2.mk e_29 e_30)).e1,c_31++[v44],dX p' (A2.mk e_29 e_30))
 )
 )
 )
 ) (
 some ((p_28,c_31))
 )
 ) (
 some ((p_28,c_31))
 )
 )) (p,e.e0,e.e1,[],true)) fun o48=>(
 match o48 with
 |(p_39,c_40)=>(
 gdO (decide ((lG.length+1)*32<=140737488355328)) (
 gdO (decide (lG.length+1<=4611686018427387904)) (
 some ((p_39,lG++[ae.mk closed c_40]))
 )
 )
 ))

def bt(n:Nat)(c:ae):Option (A2 Int):=
 gdO (inR 0 c.Points.length) (
 some (A2.mk (gt c.Points 0).A (gt c.Points 0).B)
 )

def dN(n:Nat)(a:A2 Int)(b:A2 Int):Option (Bool):=
 cdO (decide (a.e0<b.e0)) (
 some (true)
 ) (
 cdO ((a.e0:Int)==b.e0) (
 some (decide (a.e1<b.e1))
 ) (
 some (false)
 )
 )

def fb(n:Nat)(g:ak)(level:Int):Option (List ae):=
 bdO (eP n g level) fun v1=>(
 bdO (aJ (α:=List (A2 Int×A2 Int)×List (A2 Int×Bool)×Int) (β:=List (A2 Int×A2 Int)×List (A2 Int×Bool)) n (fun again10 (n_3,b_4,x_5)=>(
 cdO (decide (x_5<(v1.length:Int))) (
 gdO (inR x_5 v1.length) (
 again10 (dm n_3 (gt v1 x_5).e0 (gt v1 x_5).e1,dm b_4 (gt v1 x_5).e1 true,Jy (x_5+1))
 )
 ) (
 some ((n_3,b_4))
 )
 )) (([]:List (A2 Int×A2 Int)),([]:List (A2 Int×Bool)),0)) fun o13=>(
 match o13 with
 |(n_8,b_9)=>(
 bdO (aJ (α:=List (A2 Int×Bool)×List ae×Int) (β:=List (A2 Int×Bool)×List ae) n (fun again26 (d_16,a_17,x_18)=>(
 cdO (decide (x_18<(v1.length:Int))) (
 gdO (inR x_18 v1.length) (
 cdO (!(getM false b_9 (gt v1 x_18).e0)) (
 bdO (cN n (gt v1 x_18).e0 false d_16 n_8 g.X0 g.Y0 g.Step g.Width g.Height g.Z level a_17) fun v30=>(
 again26 (v30.1,v30.2,Jy (x_18+1))
 )
 ) (
 again26 (d_16,a_17,Jy (x_18+1))
 )
 )
 ) (
 some ((d_16,a_17))
 )
 )) (([]:List (A2 Int×Bool)),[],0)) fun o32=>(
 match o32 with
 |(d_24,a_25)=>(
 bdO (aJ (α:=List (A2 Int×Bool)×List ae×Int) (β:=List ae) n (fun again59 (d_35,a_36,x_37)=>(
 cdO (decide (x_37<(g.Z.length:Int))) (
 bdO (aJ (α:=List (A2 Int×Bool)×List ae×Int) (β:=List (A2 Int×Bool)×List ae) n (fun again71 (d_61,a_62,b_63)=>(
 cdO (decide (b_63<(g.Z.length:Int))) (
 cdO (dX n_8 (A2.mk x_37 b_63)) (
 cdO (!(getM false d_61 (A2.mk x_37 b_63))) (
 bdO (cN n (A2.mk x_37 b_63) true d_61 n_8 g.X0 g.Y0 g.Step g.Width g.Height g.Z level a_62) fun v75=>(
 again71 (v75.1,v75.2,Jy (b_63+1))
 )
 ) (
 again71 (d_61,a_62,Jy (b_63+1))
 )
 ) (
 again71 (d_61,a_62,Jy (b_63+1))
 )
 ) (
 some ((d_61,a_62))
 )
 )) (d_35,a_36,Jy (x_37+1))) fun o77=>(
 match o77 with
 |(d_69,a_70)=>(
 again59 (d_69,a_70,Jy (x_37+1))
 ))
 ) (
 some (a_36)
 )
 )) (d_24,a_25,0)) fun a_58=>(
 bdO (aJ (α:=List ae×Int) (β:=List ae) n (fun again114 (a_83,x_84)=>(
 cdO (decide (x_84<(a_58.length:Int))) (
 bdO (aJ (α:=List ae×Int) (β:=List ae) n (fun again129 (a_116,j_117)=>(
 cdO (decide (j_117>0)) (
 gdO (inR j_117 a_116.length) (
 bdO (bt n (gt a_116 j_117)) fun v132=>(
 gdO (inR (Jy (j_117-1)) a_116.length) (
 bdO (bt n (gt a_116 (Jy (j_117-1)))) fun v135=>(
 bdO (dN n v132 v135) fun v137=>(
 cdO v137 (
 again129 ((a_116.set j_117.toNat (gt a_116 (Jy (j_117-1)))).set (Jy (j_117-1)).toNat (gt a_116 j_117),Jy (j_117-1))
 ) (
 some (a_116)
 )
 )
 )
 )
 )
 )
 ) (
 some (a_116)
 )
 )) (a_83,x_84)) fun a_128=>(
 again114 (a_128,Jy (x_84+1))
 )
 ) (
 some (a_83)
 )
 )) (a_58,0)) fun a_113=>(
 some (a_113)
 )
 )
 ))
 ))
 )

def bL(n:Nat)(g:ak)(k:Int):Option (al):=
 gdO (!decide (g.Width=0)) (
 bdO (bO n (Jy (g.X0+(Jy ((k.tmod g.Width)*g.Step))))) fun v2=>(
 bdO (bO n (Jy (g.Y0+(Jy ((Jy (k.tdiv g.Width))*g.Step))))) fun v4=>(
 some (al.mk v2 v4)
 )
 )
 )

def bu(n:Nat)(x':aj)(y:aj):Option (aj):=
 bdO (cx n x') fun v1=>(
 bdO (cx n y) fun v3=>(
 bdO (bB n v1.Num v3.Num) fun v5=>(
 bdO (bB n v1.Den v3.Den) fun v7=>(
 bdO (dx n v5 v7) fun v9=>(
 some (v9)
 )
 )
 )
 )
 )

def bs(n:Nat)(g:ak)(c:an):Option (al×Int):=
 bdO (dC n g) fun v1=>(
 bdO (aJ (α:=Bool×Int) (β:=Bool) n (fun again29 (f_3,x_4)=>(
 cdO (decide (x_4<(v1.length:Int))) (
 gdO (inR x_4 v1.length) (
 bdO (aJ (α:=Bool×Int) (β:=Bool) n (fun again42 (f_32,x_33)=>(
 cdO (decide (x_33<3)) (
 cdO (decide (c.A<c.B)) (
 gdO (inR x_33 3) (
 gdO (inR ((Jy (x_33+1)).tmod 3) 3) (
 bdO (dd n (A3.get (gt v1 x_4) x_33) (A3.get (gt v1 x_4) ((Jy (x_33+1)).tmod 3))) fun v47=>(
 cdO (((v47.e0:Int)==c.A)&&(((v47.e1:Int)==c.B)&&true)) (
 again42 (true,Jy (x_33+1))
 ) (
 again42 (f_32,Jy (x_33+1))
 )
 )
 )
 )
 ) (
 again42 (f_32,Jy (x_33+1))
 )
 ) (
 some (f_32)
 )
 )) (f_3,0)) fun f_41=>(
 again29 (f_41,Jy (x_4+1))
 )
 )
 ) (
 some (f_3)
 )
 )) (false,0)) fun f_28=>(
 cdO (!f_28) (
 some ((al.mk (aj.mk (ah.mk false []) (ah.mk false [])) (aj.mk (ah.mk false []) (ah.mk false [])),6))
 ) (
 bdO (bM n c.At) fun v57=>(
 cdO (!v57) (
 some ((al.mk (aj.mk (ah.mk false []) (ah.mk false [])) (aj.mk (ah.mk false []) (ah.mk false [])),1))
 ) (
 bdO (dJ n c.At) fun v60=>(
 cdO (decide (v60<0)) (
 some ((al.mk (aj.mk (ah.mk false []) (ah.mk false [])) (aj.mk (ah.mk false []) (ah.mk false [])),2))
 ) (
 bdO (bO n 1) fun v63=>(
 bdO (aW n c.At v63) fun v65=>(
 cdO (decide (v65>0)) (
 some ((al.mk (aj.mk (ah.mk false []) (ah.mk false [])) (aj.mk (ah.mk false []) (ah.mk false [])),2))
 ) (
 bdO (bL n g c.A) fun v68=>(
 bdO (bL n g c.B) fun v70=>(
 bdO (bh n v70.X v68.X) fun v72=>(
 bdO (bu n c.At v72) fun v74=>(
 bdO (bH n v68.X v74) fun v76=>(
 bdO (bh n v70.Y v68.Y) fun v78=>(
 bdO (bu n c.At v78) fun v80=>(
 bdO (bH n v68.Y v80) fun v82=>(
 some ((al.mk v76 v82,0))
 )
 )
 )
 )
 )
 )
 )
 )
 )
 )
 )
 )
 )
 )
 )
 )
 )
 )

def eM(n:Nat)(g:ak)(c:ae):Option (List al×Int):=
 bdO (aJ (α:=List al×Int) (β:=Sum (List al) (List al×Int)) n (fun again11 (l_1,x_2)=>(
 cdO (decide (x_2<(c.Points.length:Int))) (
 gdO (inR x_2 c.Points.length) (
 bdO (bs n g (gt c.Points x_2)) fun v14=>(
 cdO ((v14.2:Int)!=0) (
 some (Sum.inr (([],v14.2)))
 ) (
 gdO (decide ((l_1.length+1)*128<=140737488355328)) (
 gdO (decide (l_1.length+1<=4611686018427387904)) (
 again11 (l_1++[v14.1],Jy (x_2+1))
 )
 )
 )
 )
 )
 ) (
 some (Sum.inl l_1)
 )
 )) ([],0)) fun o19=>(
 match o19 with
 |.inl l_10=>(
 some ((l_10,0))
 )
 |.inr (r0)=>(
 some r0
 ))

def gM(n:Nat)(a:al)(b:al)(c:al):Option (Int):=
 bdO (bh n b.X a.X) fun v1=>(
 bdO (bh n c.Y a.Y) fun v3=>(
 bdO (bu n v1 v3) fun v5=>(
 bdO (bh n b.Y a.Y) fun v7=>(
 bdO (bh n c.X a.X) fun v9=>(
 bdO (bu n v7 v9) fun v11=>(
 bdO (aW n v5 v11) fun v13=>(
 some (v13)
 )
 )
 )
 )
 )
 )
 )

def cI(n:Nat)(a:aj)(b:aj)(p:aj):Option (Bool):=
 bdO (aW n a p) fun v1=>(
 bdO (aW n p b) fun v3=>(
 some (decide ((Jy (v1*v3))>=0))
 )
 )

def fI(n:Nat)(a:al)(b:al)(p:al):Option (Bool):=
 bdO (cI n a.X b.X p.X) fun v1=>(
 cdO v1 (
 bdO (cI n a.Y b.Y p.Y) fun v4=>(
 some (v4)
 )
 ) (
 some (false)
 )
 )

def eu(n:Nat)(l:List al)(p:al):Option (Int×Bool):=
 bdO (aJ (α:=Int×Int) (β:=Sum (Int) (Int×Bool)) n (fun again32 (n_1,x_2)=>(
 cdO (decide (x_2<(l.length:Int))) (
 gdO (inR x_2 l.length) (
 gdO (!decide ((l.length:Int)=0)) (
 gdO (inR ((Jy (x_2+1)).tmod (l.length:Int)) l.length) (
 bdO (gM n (gt l x_2) (gt l ((Jy (x_2+1)).tmod (l.length:Int))) p) fun v37=>(
 cdO ((v37:Int)==0) (
 bdO (fI n (gt l x_2) (gt l ((Jy (x_2+1)).tmod (l.length:Int))) p) fun v40=>(
 cdO v40 (
 some (Sum.inr ((0,false)))
 ) (
 bdO (aW n (gt l x_2).Y p.Y) fun v43=>(
 bdO (aW n (gt l ((Jy (x_2+1)).tmod (l.length:Int))).Y p.Y) fun v45=>(
 cdO (decide (v43<=0)) (
 cdO (!(decide (v45<=0))) (
 cdO (decide (v37>0)) (
 again32 (Jy (n_1+1),Jy (x_2+1))
 ) (
 again32 (n_1,Jy (x_2+1))
 )
 ) (
 again32 (n_1,Jy (x_2+1))
 )
 ) (
 cdO (decide (v45<=0)) (
 cdO (decide (v37<0)) (
 again32 (Jy (n_1-1),Jy (x_2+1))
 ) (
 again32 (n_1,Jy (x_2+1))
 )
 ) (
 again32 (n_1,Jy (x_2+1))
 )
 )
 )
 )
 )
 )
 ) (
 bdO (aW n (gt l x_2).Y p.Y) fun v52=>(
 bdO (aW n (gt l ((Jy (x_2+1)).tmod (l.length:Int))).Y p.Y) fun v54=>(
 cdO (decide (v52<=0)) (
 cdO (!(decide (v54<=0))) (
 cdO (decide (v37>0)) (
 again32 (Jy (n_1+1),Jy (x_2+1))
 ) (
 again32 (n_1,Jy (x_2+1))
 )
 ) (
 again32 (n_1,Jy (x_2+1))
 )
 ) (
 cdO (decide (v54<=0)) (
 cdO (decide (v37<0)) (
 again32 (Jy (n_1-1),Jy (x_2+1))
 ) (
 again32 (n_1,Jy (x_2+1))
 )
 ) (
 again32 (n_1,Jy (x_2+1))
 )
 )
 )
 )
 )
 )
 )
 )
 )
 ) (
 some (Sum.inl n_1)
 )
 )) (0,0)) fun o61=>(
 match o61 with
 |.inl n_31=>(
 some ((n_31,decide ((l.length:Int)>0)))
 )
 |.inr (r0)=>(
 some r0
 ))

def gR(n:Nat)(g:ak)(all:List ae):Option (List Int):=
 gdO (decide (0<=(all.length:Int))) (
 gdO (decide ((24:Int)*(all.length:Int)<=281474976710656)) (
 gdO (decide ((all.length:Int)<=9223372036854775807)) (
 bdO (aJ (α:=List (List Bool)×Int) (β:=List (List Bool)) n (fun again41 (i_4,x_5)=>(
 cdO (decide (x_5<(all.length:Int))) (
 gdO (decide ((1:Int)*(all.length:Int)<=281474976710656)) (
 gdO (inR x_5 i_4.length) (
 gdO (inR x_5 all.length) (
 gdO (inR 0 (gt all x_5).Points.length) (
 bdO (bs n g (gt (gt all x_5).Points 0)) fun v47=>(
 bdO (aJ (α:=List (List Bool)×Int) (β:=List (List Bool)) n (fun again62 (i_49,x_50)=>(
 cdO (decide (x_50<(all.length:Int))) (
 cdO ((x_5:Int)!=x_50) (
 gdO (inR x_50 all.length) (
 cdO (gt all x_50).Closed (
 bdO (eM n g (gt all x_50)) fun v67=>(
 bdO (eu n v67.1 v47.1) fun v69=>(
 gdO (inR x_5 i_49.length) (
 gdO (inR x_50 (gt i_49 x_5).length) (
 again62 (i_49.set x_5.toNat ((gt i_49 x_5).set x_50.toNat ((v69.1:Int)!=0)),Jy (x_50+1))
 )
 )
 )
 )
 ) (
 again62 (i_49,Jy (x_50+1))
 )
 )
 ) (
 again62 (i_49,Jy (x_50+1))
 )
 ) (
 some (i_49)
 )
 )) (i_4.set x_5.toNat (List.replicate (all.length:Int).toNat false),0)) fun i_61=>(
 again41 (i_61,Jy (x_5+1))
 )
 )
 )
 )
 )
 )
 ) (
 some (i_4)
 )
 )) (List.replicate (all.length:Int).toNat ([]:List Bool),0)) fun i_40=>(
 bdO (aJ (α:=List (List Bool)×List Int×Int) (β:=List Int) n (fun again157 (i_79,r_80,x_81)=>(
 cdO (decide (x_81<(all.length:Int))) (
 bdO (aJ (α:=List (List Bool)×Int×Int) (β:=List (List Bool)×Int) n (fun again195 (i_159,a_160,x_161)=>(
 cdO (decide (x_161<(all.length:Int))) (
 gdO (inR x_81 i_159.length) (
 gdO (inR x_161 (gt i_159 x_81).length) (
 bdO (aJ (α:=List (List Bool)×Bool×Int) (β:=List (List Bool)×Bool) n (fun again213 (i_199,d_200,x_201)=>(
 cdO (decide (x_201<(all.length:Int))) (
 cdO d_200 (
 gdO (inR x_81 i_199.length) (
 gdO (inR x_201 (gt i_199 x_81).length) (
 cdO (gt (gt i_199 x_81) x_201) (
 gdO (inR x_201 i_199.length) (
 gdO (decide (x_81≠x_201)) (
 gdO (inR x_161 (gt i_199 x_201).length) (
 cdO (gt (gt i_199 x_201) x_161) (
 again213 ((i_199.set x_81.toNat (gt i_199 x_81)).set x_201.toNat (gt i_199 x_201),false,Jy (x_201+1))
 ) (
 again213 ((i_199.set x_81.toNat (gt i_199 x_81)).set x_201.toNat (gt i_199 x_201),d_200,Jy (x_201+1))
 )
 )
 )
 )
 ) (
 again213 (i_199.set x_81.toNat (gt i_199 x_81),d_200,Jy (x_201+1))
 )
 )
 )
 ) (
 again213 (i_199,d_200,Jy (x_201+1))
 )
 ) (
 some ((i_199,d_200))
 )
 )) (i_159.set x_81.toNat (gt i_159 x_81),(gt (gt i_159 x_81) x_161),0)) fun o223=>(
 match o223 with
 |(i_211,d_212)=>(
 cdO d_212 (
 again195 (i_211,x_161,Jy (x_161+1))
 ) (
 again195 (i_211,a_160,Jy (x_161+1))
 )
 ))
 )
 )
 ) (
 some ((i_159,a_160))
 )
 )) (i_79,(-1),0)) fun o227=>(
 match o227 with
 |(i_193,a_194)=>(
 gdO (decide ((r_80.length+1)*8<=140737488355328)) (
 gdO (decide (r_80.length+1<=4611686018427387904)) (
 again157 (i_193,r_80++[a_194],Jy (x_81+1))
 )
 )
 ))
 ) (
 some (r_80)
 )
 )) (i_40,[],0)) fun r_156=>(
 some (r_156)
 )
 )
 )
 )
 )

def fL(n:Nat)(s1:List Int)(s2:List Int):Option (Bool):=
 cdO (((s1.length:Int):Int)!=(s2.length:Int)) (
 some (false)
 ) (
 bdO (aJ (α:=Int) (β:=Sum (Unit) (Bool)) n (fun again7 x_2=>(
 cdO (decide (x_2<(s1.length:Int))) (
 gdO (inR x_2 s1.length) (
 gdO (inR x_2 s2.length) (
 cdO (((gt s1 x_2):Int)!=(gt s2 x_2)) (
 some (Sum.inr (false))
 ) (
 again7 (Jy (x_2+1))
 )
 )
 )
 ) (
 some (Sum.inl ())
 )
 )) 0) fun o12=>(
 match o12 with
 |.inl _=>(
 some (true)
 )
 |.inr (r0)=>(
 some r0
 ))
 )

noncomputable def dH(n:Nat)(g:ak)(level:Int):Option (Bool):=
 bdO (kx n) fun v1=>(
 cdO (!v1) (
 some (false)
 ) (
 bdO (mF n g 36) fun v4=>(
 cdO (!v4) (
 some (true)
 ) (
 bdO (js n g level) fun v7=>(
 bdO (fi n g level) fun v9=>(
 cdO ((v9:Int)!=0) (
 cdO ((v7.2:Int)==v9) (
 some (((v7.1.length:Int):Int)==0)
 ) (
 some (false)
 )
 ) (
 cdO ((v7.2:Int)==0) (
 bdO (fb n g level) fun v14=>(
 bdO (gR n g v14) fun v16=>(
 bdO (fL n v7.1 v16) fun v18=>(
 some (v18)
 )
 )
 )
 ) (
 some (false)
 )
 )
 )
 )
 )
 )
 )
 )
abbrev iCu:=iC .u32
abbrev wFu(n:Int):Int:=aa .u64 n
abbrev zN2:List AV:=[aB false,nS,aB false,nS]
abbrev zN3:List AV:=[aB false,nS,aB false,nS,aB false,nS]
abbrev zN4:List AV:=[aB false,nS,aB false,nS,aB false,nS,aB false,nS]
end Go.L