
import Derived.Test.YtfhhaadcodofnaaGreatSc11Chks
import Derived.Test.YtfhhaadcodofnaaGreatScMChks
import Derived.Test.YtfhhaadcodofnaaGreatScRChks
import Derived.Test.YtfhhaadcodofnaaGreatScSChks
import Derived.Test.YtfhhaadcodofnaaGreatSc19Chks
set_option linter.all false
set_option maxRecDepth 100000
set_option maxHeartbeats 4000000
namespace Go.L
open Go Go.Eng
def ir:ByteArray:=⟨#[0,1,2,2,3,3,3,3,4,4,4,4,4,4,4,4,5,5,5,5,5,5,5,5,5,5,5,5,5,5,5,5,6,6,6,6,6,6,6,6,6,6,6,6,6,6,6,6,6,6,6,6,6,6,6,6,6,6,6,6,6,6,6,6,7,7,7,7,7,7,7,7,7,7,7,7,7,7,7,7,7,7,7,7,7,7,7,7,7,7,7,7,7,7,7,7,7,7,7,7,7,7,7,7,7,7,7,7,7,7,7,7,7,7,7,7,7,7,7,7,7,7,7,7,7,7,7,7,8,8,8,8,8,8,8,8,8,8,8,8,8,8,8,8,8,8,8,8,8,8,8,8,8,8,8,8,8,8,8,8,8,8,8,8,8,8,8,8,8,8,8,8,8,8,8,8,8,8,8,8,8,8,8,8,8,8,8,8,8,8,8,8,8,8,8,8,8,8,8,8,8,8,8,8,8,8,8,8,8,8,8,8,8,8,8,8,8,8,8,8,8,8,8,8,8,8,8,8,8,8,8,8,8,8,8,8,8,8,8,8,8,8,8,8,8,8,8,8,8,8,8,8,8,8,8,8]⟩
structure an where
 X0:Int
 Y0:Int
 Step:Int
 Width:Int
 Height:Int
 Z:List Int
 deriving Inhabited

structure ai where
 Negative:Bool
 Groups:List Int
 deriving Inhabited,DecidableEq

structure ar where
 Num:ai
 Den:ai
 deriving Inhabited,DecidableEq

structure ah where
 A:Int
 B:Int
 At:ar
 deriving Inhabited,DecidableEq

structure aa where
 Closed:Bool
 Points:List ah
 deriving Inhabited,DecidableEq

def ah.c(x:ah):List AV:=[.at (.int .i64 x.A),.at (.int .i64 x.B),.at (.bool x.At.Num.Negative),slT (iC .u32) x.At.Num.Groups,.at (.bool x.At.Den.Negative),slT (iC .u32) x.At.Den.Groups]
theorem ah.len:∀x,(ah.c x).length=6:=fun _=>rfl
theorem ah.pure:∀x,cJ (ah.c x)=[]:=fun _=>rfl

def aa.c(x:aa):List AV:=[.at (.bool x.Closed),slT ah.c x.Points]
theorem aa.len:∀x,(aa.c x).length=2:=fun _=>rfl
theorem aa.pure:∀x,cJ (aa.c x)=[]:=fun _=>rfl

structure A2 (α:Type) where
 e0:α
 e1:α
 deriving Inhabited,DecidableEq

def au.K(x:A2 Int):Value:=.agg #[.int .i64 x.e0,.int .i64 x.e1]
theorem au.key:Fu au.K:=fun⟨a0,a1⟩ ⟨b0,b1⟩=>by
 have h:((⟨a0,a1⟩:A2 Int)==⟨b0,b1⟩)=(a0==b0&&(a1==b1&&true)):=by rw[Bool.eq_iff_iff];simp
 show some _=some _;rw[h]

def ak.c(x:A2 Int):List AV:=[.at (.int .i64 x.e0),.at (.int .i64 x.e1)]
theorem ak.len:∀x,(ak.c x).length=2:=fun _=>rfl
theorem ak.pure:∀x,cJ (ak.c x)=[]:=fun _=>rfl

structure A3 (α:Type) where
 e0:α
 e1:α
 e2:α
 deriving Inhabited

def aC.c(x:A3 Int):List AV:=[.at (.int .i64 x.e0),.at (.int .i64 x.e1),.at (.int .i64 x.e2)]
theorem aC.len:∀x,(aC.c x).length=3:=fun _=>rfl
theorem aC.pure:∀x,cJ (aC.c x)=[]:=fun _=>rfl

def A3.get(x:A3 Int)(j:Int):Int:=gt [x.e0,x.e1,x.e2] j
def A3.put(x:A3 Int)(j v:Int):A3 Int:=⟨if j.toNat=0 then v else x.e0,if j.toNat=1 then v else x.e1,if j.toNat=2 then v else x.e2⟩
theorem A3.J6{k:IntKind}(x:A3 Int){j:Int}(v:Int)(h:inR j 3=true):setCells [.at (.int k x.e0),.at (.int k x.e1),.at (.int k x.e2)] j.toNat [.at (.int k v)]=[.at (.int k (x.put j v).e0),.at (.int k (x.put j v).e1),.at (.int k (x.put j v).e2)]:=by
 have h1:=aH h;have hj:j.toNat=0\/j.toNat=1\/j.toNat=2:=by omega
 unfold A3.put;rcases hj with e|e|e<;>simp only[e]<;>rfl

theorem ah.inj:∀x y,ah.c x=ah.c y->x=y:=by
 rintro⟨_,_,⟨⟨_,_⟩,⟨_,_⟩⟩⟩ ⟨_,_,⟨⟨_,_⟩,⟨_,_⟩⟩⟩ h;simp only[ah.c,List.cons.injEq,AV.at.injEq,Value.int.injEq,Value.bool.injEq,true_and,and_true,iq]at h;simp_all

def aK.c(x:A2 (A2 Int)):List AV:=[.at (.int .i64 x.e0.e0),.at (.int .i64 x.e0.e1),.at (.int .i64 x.e1.e0),.at (.int .i64 x.e1.e1)]
theorem aK.len:∀x,(aK.c x).length=4:=fun _=>rfl
theorem aK.pure:∀x,cJ (aK.c x)=[]:=fun _=>rfl

def aY.c(x:A2 Int):List AV:=[.at (.int .i64 x.e0),.at (.int .i64 x.e1)]
theorem aY.len:∀x,(aY.c x).length=2:=fun _=>rfl
theorem aY.pure:∀x,cJ (aY.c x)=[]:=fun _=>rfl

def an.c(x:an):List AV:=[.at (.int .i64 x.X0),.at (.int .i64 x.Y0),.at (.int .i64 x.Step),.at (.int .i64 x.Width),.at (.int .i64 x.Height),slT (iC .i64) x.Z]
theorem an.len:∀x,(an.c x).length=6:=fun _=>rfl
theorem an.pure:∀x,cJ (an.c x)=[]:=fun _=>rfl

def ar.c(x:ar):List AV:=[.at (.bool x.Num.Negative),slT (iC .u32) x.Num.Groups,.at (.bool x.Den.Negative),slT (iC .u32) x.Den.Groups]
theorem ar.len:∀x,(ar.c x).length=4:=fun _=>rfl
theorem ar.pure:∀x,cJ (ar.c x)=[]:=fun _=>rfl

def ai.c(x:ai):List AV:=[.at (.bool x.Negative),slT (iC .u32) x.Groups]
theorem ai.len:∀x,(ai.c x).length=2:=fun _=>rfl
theorem ai.pure:∀x,cJ (ai.c x)=[]:=fun _=>rfl

def ef(n:Nat)(k:Int)(p:Int)(p':Int)(p'':Int)(GQ:Int)(DN:Int)(wK:List Int)(vq:Int):Option (Bool):=
 gdO (inR k wK.length) (
 some (decide ((Ki (2*(gt wK k)))>vq))
 )

def mH(n:Nat)(a:Int)(b:Int):Option (A2 Int):=
 some (A2.mk (mn a b) (mx a b))

def gG(n:Nat)(t:A3 Int)(c:Int)(c':Int)(c'':Int)(Ec:Int)(zY:Int)(vY:List Int)(tj:Int)(p:List (A2 Int×A2 Int))(p':List (A2 Int×Bool)):Option (List (A2 Int×A2 Int)×List (A2 Int×Bool)):=
 bdO (aP (α:=Int×Int×Int×Int×Bool×Int) (β:=Int×Int×Int×Int×Bool) n (fun again110 (f_71,f_72,t_73,t_74,c_75,x_76)=>(
 cdO (decide (x_76<3)) (
 gdO (inR x_76 3) (
 gdO (inR ((Ki (x_76+1)).tmod 3) 3) (
 bdO (some (A3.get t ((Ki (x_76+1)).tmod 3))) fun w115=>(
 bdO (α:=Bool) (
 bdO (ef n (A3.get t x_76) c c' c'' Ec zY vY tj) fun v120=>(
 cdO v120 (
 bdO (ef n w115 c c' c'' Ec zY vY tj) fun v123=>(
 some (!v123)
 )
 ) (
 some (false)
 )
 )
 ) fun x_119=>(
 cdO x_119 (
 bdO (mH n (A3.get t x_76) w115) fun v129=>(
 again110 (v129.e0,v129.e1,t_73,t_74,true,Ki (x_76+1))
 )
 ) (
 bdO (ef n (A3.get t x_76) c c' c'' Ec zY vY tj) fun v131=>(
 cdO (!v131) (
 bdO (ef n w115 c c' c'' Ec zY vY tj) fun v134=>(
 cdO v134 (
 bdO (mH n (A3.get t x_76) w115) fun v137=>(
 again110 (f_71,f_72,v137.e0,v137.e1,c_75,Ki (x_76+1))
 )
 ) (
 again110 (f_71,f_72,t_73,t_74,c_75,Ki (x_76+1))
 )
 )
 ) (
 again110 (f_71,f_72,t_73,t_74,c_75,Ki (x_76+1))
 )
 )
 )
 )
 )
 )
 )
 ) (
 some ((f_71,f_72,t_73,t_74,c_75))
 )
 )) (0,0,0,0,false,0)) fun o139=>(
 match o139 with
 |(f_105,f_106,t_107,t_108,c_109)=>(
 cdO c_109 (
 some ((dL p (A2.mk f_105 f_106) (A2.mk t_107 t_108),dL p' (A2.mk t_107 t_108) true))
 ) (
 some ((p,p'))
 )
 ))

def bf(n:Nat)(g:an)(c:Int)(c':Int)(c'':Int)(Ec:Int)(zY:Int)(vY:List Int)(tj:Int)(FN:List (A2 Int×A2 Int))(D5:List (A2 Int×Bool)):Option (List (A2 Int×A2 Int)×List (A2 Int×Bool)):=
 bdO (aP (α:=List (A2 Int×A2 Int)×List (A2 Int×Bool)×Int) (β:=List (A2 Int×A2 Int)×List (A2 Int×Bool)) n (fun again272 (c_182,c_183,x_184)=>(
 cdO (decide (x_184<(Ki (g.Height-1)))) (
 bdO (aP (α:=List (A2 Int×A2 Int)×List (A2 Int×Bool)×Int) (β:=List (A2 Int×A2 Int)×List (A2 Int×Bool)) n (fun again317 (c_275,c_276,x_277)=>(
 cdO (decide (x_277<(Ki (g.Width-1)))) (
 bdO (some (Ki ((Ki (x_184*g.Width))+x_277))) fun w320=>(
 bdO (some [A3.mk w320 (Ki (w320+1)) (Ki ((Ki (w320+g.Width))+1)),A3.mk w320 (Ki ((Ki (w320+g.Width))+1)) (Ki (w320+g.Width))]) fun w322=>(
 bdO (aP (α:=List (A2 Int×A2 Int)×List (A2 Int×Bool)×Int) (β:=List (A2 Int×A2 Int)×List (A2 Int×Bool)) n (fun again340 (c_324,c_325,x_326)=>(
 cdO (decide (x_326<2)) (
 gdO (inR x_326 w322.length) (
 gdO (inR (gt w322 x_326).e0 g.Z.length) (
 cdO (((gt g.Z (gt w322 x_326).e0):Int)!=(-2147483648)) (
 gdO (inR (gt w322 x_326).e1 g.Z.length) (
 cdO (((gt g.Z (gt w322 x_326).e1):Int)!=(-2147483648)) (
 gdO (inR (gt w322 x_326).e2 g.Z.length) (
 cdO (((gt g.Z (gt w322 x_326).e2):Int)!=(-2147483648)) (
 bdO (gG n (gt w322 x_326) c c' c'' Ec zY vY tj c_324 c_325) fun v350=>(
 again340 (v350.1,v350.2,Ki (x_326+1))
 )
 ) (
 again340 (c_324,c_325,Ki (x_326+1))
 )
 )
 ) (
 again340 (c_324,c_325,Ki (x_326+1))
 )
 )
 ) (
 again340 (c_324,c_325,Ki (x_326+1))
 )
 )
 )
 ) (
 some ((c_324,c_325))
 )
 )) (c_275,c_276,0)) fun o352=>(
 match o352 with
 |(c_338,c_339)=>(
 again317 (c_338,c_339,Ki (x_277+1))
 ))
 )
 )
 ) (
 some ((c_275,c_276))
 )
 )) (c_182,c_183,0)) fun o355=>(
 match o355 with
 |(c_315,c_316)=>(
 again272 (c_315,c_316,Ki (x_184+1))
 ))
 ) (
 some ((c_182,c_183))
 )
 )) (FN,D5,0)) fun o358=>(
 match o358 with
 |(c_270,c_271)=>(
 some ((c_270,c_271))
 ))

def nV(n:Nat)(x':Int):Option (Int):=
 cdO (decide (x'>=4294967296)) (
 cdO (decide ((x'.fdiv (2^32))>=65536)) (
 cdO (decide (((x'.fdiv (2^32)).fdiv (2^16))>=256)) (
 bdO (some (((x'.fdiv (2^32)).fdiv (2^16)).fdiv (2^8))) fun w4=>(
 gdO (inR (ae .u8 w4) 256) (
 some (Ki (56+(Ki (jt ir (ae .u8 w4)))))
 )
 )
 ) (
 gdO (inR (ae .u8 ((x'.fdiv (2^32)).fdiv (2^16))) 256) (
 some (Ki (48+(Ki (jt ir (ae .u8 ((x'.fdiv (2^32)).fdiv (2^16)))))))
 )
 )
 ) (
 cdO (decide ((x'.fdiv (2^32))>=256)) (
 gdO (inR (ae .u8 ((x'.fdiv (2^32)).fdiv (2^8))) 256) (
 some (Ki (40+(Ki (jt ir (ae .u8 ((x'.fdiv (2^32)).fdiv (2^8)))))))
 )
 ) (
 gdO (inR (ae .u8 (x'.fdiv (2^32))) 256) (
 some (Ki (32+(Ki (jt ir (ae .u8 (x'.fdiv (2^32)))))))
 )
 )
 )
 ) (
 cdO (decide (x'>=65536)) (
 cdO (decide ((x'.fdiv (2^16))>=256)) (
 gdO (inR (ae .u8 ((x'.fdiv (2^16)).fdiv (2^8))) 256) (
 some (Ki (24+(Ki (jt ir (ae .u8 ((x'.fdiv (2^16)).fdiv (2^8)))))))
 )
 ) (
 gdO (inR (ae .u8 (x'.fdiv (2^16))) 256) (
 some (Ki (16+(Ki (jt ir (ae .u8 (x'.fdiv (2^16)))))))
 )
 )
 ) (
 cdO (decide (x'>=256)) (
 gdO (inR (ae .u8 (x'.fdiv (2^8))) 256) (
 some (Ki (8+(Ki (jt ir (ae .u8 (x'.fdiv (2^8)))))))
 )
 ) (
 gdO (inR (ae .u8 x') 256) (
 some (Ki (0+(Ki (jt ir (ae .u8 x')))))
 )
 )
 )
 )

def ns(n:Nat)(x':Int):Option (Int):=
 bdO (nV n x') fun v1=>(
 some (v1)
 )

def cU(n:Nat)(a:A2 Int)(b:A2 Int):Option (Int):=
 cdO ((a.e0:Int)!=b.e0) (
 some (Ki (a.e0-b.e0))
 ) (
 some (Ki (a.e1-b.e1))
 )

def aD(n:Nat)(x':List (A2 Int)):Option (List (A2 Int)):=
 gdO (decide (x'.length<4611686018427387904)) (
 sq (fun x y=>cU n x y) x'
 )

def dm(n:Nat)(n':Int):Option (List Int):=
 bdO (aP (α:=Int×List Int) (β:=List Int) n (fun again7 (n_1,g_2)=>(
 cdO (decide (n_1>0)) (
 gdO (decide ((g_2.length+1)*4<=140737488355328)) (
 gdO (decide (g_2.length+1<=4611686018427387904)) (
 again7 (ae .u64 (n_1.tdiv 1000000000),g_2++[ae .u32 (n_1.tmod 1000000000)])
 )
 )
 ) (
 some (g_2)
 )
 )) (n',[])) fun g_6=>(
 some (g_6)
 )

def ff(n:Nat)(g:List Int):Option (List Int):=
 bdO (aP (α:=List Int) (β:=List Int) n (fun again7 g_1=>(
 cdO (decide ((g_1.length:Int)>0)) (
 gdO (inR (Ki ((g_1.length:Int)-1)) g_1.length) (
 cdO (((gt g_1 (Ki ((g_1.length:Int)-1))):Int)==0) (
 gdO (inS 0 (Ki ((g_1.length:Int)-1)) g_1.length) (
 again7 ((g_1.drop (0:Int).toNat).take ((Ki ((g_1.length:Int)-1)).toNat-(0:Int).toNat))
 )
 ) (
 some (g_1)
 )
 )
 ) (
 some (g_1)
 )
 )) g) fun g_6=>(
 some (g_6)
 )

def cv(n:Nat)(negative:Bool)(g:List Int):Option (ai):=
 bdO (ff n g) fun v1=>(
 cdO (((v1.length:Int):Int)==0) (
 some (ai.mk false [])
 ) (
 some (ai.mk negative v1)
 )
 )

def fZ(n:Nat)(n':Int):Option (ai):=
 cdO (decide (n'<0)) (
 bdO (dm n (ae .u64 (0-(ae .u64 n')))) fun v2=>(
 bdO (cv n true v2) fun v4=>(
 some (v4)
 )
 )
 ) (
 bdO (dm n (ae .u64 n')) fun v6=>(
 bdO (cv n false v6) fun v8=>(
 some (v8)
 )
 )
 )

def nP(n:Nat)(g:Int):Option (Bool):=
 some (decide (g>=1000000000))

def bx(n:Nat)(s:List Int):Option (Int):=
 bdO (aP (α:=Int) (β:=Sum (Unit) (Int)) n (fun again7 x_1=>(
 cdO (decide (x_1<(s.length:Int))) (
 gdO (inR x_1 s.length) (
 bdO (nP n (gt s x_1)) fun v10=>(
 cdO v10 (
 some (Sum.inr (x_1))
 ) (
 again7 (Ki (x_1+1))
 )
 )
 )
 ) (
 some (Sum.inl ())
 )
 )) 0) fun o13=>(
 match o13 with
 |.inl _=>(
 some ((-1))
 )
 |.inr (r0)=>(
 some r0
 ))

def aZ(n:Nat)(s:List Int):Option (Bool):=
 bdO (bx n s) fun v1=>(
 some (decide (v1>=0))
 )

def eh(n:Nat)(x':ai):Option (Bool):=
 cdO (((x'.Groups.length:Int):Int)==0) (
 some (!x'.Negative)
 ) (
 gdO (inR (Ki ((x'.Groups.length:Int)-1)) x'.Groups.length) (
 cdO (((gt x'.Groups (Ki ((x'.Groups.length:Int)-1))):Int)!=0) (
 bdO (aZ n x'.Groups) fun v4=>(
 some (!v4)
 )
 ) (
 some (false)
 )
 )
 )

def fY(n:Nat)(n':ai):Option (ai):=
 bdO (eh n n') fun v1=>(
 cdO v1 (
 some (n')
 ) (
 bdO (fZ n 0) fun v4=>(
 some (v4)
 )
 )
 )

def ch(n:Nat)(x':ai):Option (List Int):=
 bdO (eh n x') fun v1=>(
 cdO (!v1) (
 some ([])
 ) (
 some (x'.Groups)
 )
 )

def dC(n:Nat)(x':ai):Option (Int):=
 bdO (ch n x') fun v1=>(
 cdO (((v1.length:Int):Int)==0) (
 some (0)
 ) (
 cdO x'.Negative (
 some ((-1))
 ) (
 some (1)
 )
 )
 )

def cL(n:Nat)(s:List Int):Option (List Int):=
 gdO (decide ((0+s.length)*4<=140737488355328)) (
 gdO (decide (0+s.length<=4611686018427387904)) (
 some (s)
 )
 )

def fj(n:Nat)(x':ai):Option (ai):=
 bdO (ch n x') fun v1=>(
 bdO (cL n v1) fun v3=>(
 bdO (cv n (!x'.Negative) v3) fun v5=>(
 some (v5)
 )
 )
 )




def kb(n:Nat)(a:List Int)(b:List Int):Option (List Int):=
 gdO (decide (0<=Ki ((a.length:Int)+(b.length:Int)))) (
 gdO (decide ((4:Int)*(Ki ((a.length:Int)+(b.length:Int)))<=281474976710656)) (
 gdO (decide (Ki ((a.length:Int)+(b.length:Int))<=9223372036854775807)) (
 bdO (aP (α:=List Int×Int) (β:=List Int) n (fun again25 (o_4,x_5)=>(
 cdO (decide (x_5<(a.length:Int))) (
 gdO (inR x_5 a.length) (
 bdO (aP (α:=List Int×Int×Int) (β:=List Int×Int) n (fun again36 (o_28,c_29,x_30)=>(
 cdO (decide (x_30<(b.length:Int))) (
 gdO (inR x_30 b.length) (
 gdO (inR (Ki (x_5+x_30)) o_28.length) (
 again36 (o_28.set (Ki (x_5+x_30)).toNat (ae .u32 ((ae .u64 ((ae .u64 ((ae .u64 (gt o_28 (Ki (x_5+x_30))))+(ae .u64 ((ae .u64 (gt a x_5))*(ae .u64 (gt b x_30))))))+c_29)).tmod 1000000000)),ae .u64 ((ae .u64 ((ae .u64 ((ae .u64 (gt o_28 (Ki (x_5+x_30))))+(ae .u64 ((ae .u64 (gt a x_5))*(ae .u64 (gt b x_30))))))+c_29)).tdiv 1000000000),Ki (x_30+1))
 )
 )
 ) (
 some ((o_28,c_29))
 )
 )) (o_4,0,0)) fun o40=>(
 match o40 with
 |(o_34,c_35)=>(
 gdO (inR (Ki (x_5+(b.length:Int))) o_34.length) (
 again25 (o_34.set (Ki (x_5+(b.length:Int))).toNat (ae .u32 c_35),Ki (x_5+1))
 )
 ))
 )
 ) (
 some (o_4)
 )
 )) (List.replicate (Ki ((a.length:Int)+(b.length:Int))).toNat ((0:Int):Int),0)) fun o_24=>(
 bdO (ff n o_24) fun v47=>(
 some (v47)
 )
 )
 )
 )
 )

def oU(n:Nat)(g:List Int):Option (List Int):=
 bdO (aP (α:=List Int) (β:=List Int) n (fun again22 g_16=>(
 cdO (decide ((g_16.length:Int)>0)) (
 gdO (inR (Ki ((g_16.length:Int)-1)) g_16.length) (
 cdO (((gt g_16 (Ki ((g_16.length:Int)-1))):Int)==0) (
 gdO (inS 0 (Ki ((g_16.length:Int)-1)) g_16.length) (
 again22 (g_16.take (Ki ((g_16.length:Int)-1)).toNat)
 )
 ) (
 some (g_16)
 )
 )
 ) (
 some (g_16)
 )
 )) g) fun g_21=>(
 some (g_21)
 )

def jO(n:Nat)(a:List Int)(b:List Int):Option (List Int):=
 gdO (decide (0<=Ki ((a.length:Int)+(b.length:Int)))) (
 gdO (decide ((4:Int)*(Ki ((a.length:Int)+(b.length:Int)))<=281474976710656)) (
 gdO (decide (Ki ((a.length:Int)+(b.length:Int))<=9223372036854775807)) (
 bdO (aP (α:=List Int×Int) (β:=List Int) n (fun again74 (o_53,x_54)=>(
 cdO (decide (x_54<(a.length:Int))) (
 gdO (inR x_54 a.length) (
 bdO (aP (α:=List Int×Int×Int) (β:=List Int×Int) n (fun again85 (o_77,c_78,x_79)=>(
 cdO (decide (x_79<(b.length:Int))) (
 gdO (inR x_79 b.length) (
 gdO (inR (Ki (x_54+x_79)) o_77.length) (
 again85 (o_77.set (Ki (x_54+x_79)).toNat (ae .u32 ((ae .u64 ((ae .u64 ((ae .u64 (gt o_77 (Ki (x_54+x_79))))+(ae .u64 ((ae .u64 (gt a x_54))*(ae .u64 (gt b x_79))))))+c_78)).tmod 1000000000)),ae .u64 ((ae .u64 ((ae .u64 ((ae .u64 (gt o_77 (Ki (x_54+x_79))))+(ae .u64 ((ae .u64 (gt a x_54))*(ae .u64 (gt b x_79))))))+c_78)).tdiv 1000000000),Ki (x_79+1))
 )
 )
 ) (
 some ((o_77,c_78))
 )
 )) (o_53,0,0)) fun o89=>(
 match o89 with
 |(o_83,c_84)=>(
 gdO (inR (Ki (x_54+(b.length:Int))) o_83.length) (
 again74 (o_83.set (Ki (x_54+(b.length:Int))).toNat (ae .u32 c_84),Ki (x_54+1))
 )
 ))
 )
 ) (
 some (o_53)
 )
 )) (List.replicate (Ki ((a.length:Int)+(b.length:Int))).toNat ((0:Int):Int),0)) fun o_73=>(
 bdO (oU n o_73) fun v96=>(
 some (v96)
 )
 )
 )
 )
 )

def iF(n:Nat)(g:List Int)(i:Int):Option (Int):=
 cdO (decide (i<(g.length:Int))) (
 gdO (inR i g.length) (
 some ((gt g i))
 )
 ) (
 some (0)
 )

def jF(n:Nat)(a:List Int)(b:List Int):Option (List Int×List Int):=
 gdO (inR (Ki ((b.length:Int)-1)) b.length) (
 gdO (!decide (ae .u64 ((ae .u64 (gt b (Ki ((b.length:Int)-1))))+1)=0)) (
 bdO (jO n a [ae .u32 (ae .u64 ((1000000000:Int).tdiv (ae .u64 ((ae .u64 (gt b (Ki ((b.length:Int)-1))))+1))))]) fun v3=>(
 bdO (jO n b [ae .u32 (ae .u64 ((1000000000:Int).tdiv (ae .u64 ((ae .u64 (gt b (Ki ((b.length:Int)-1))))+1))))]) fun v5=>(
 gdO (decide ((v3.length+1)*4<=140737488355328)) (
 gdO (decide (v3.length+1<=4611686018427387904)) (
 bdO (α:=List Int) (
 cdO (decide (((v3++[(0:Int)]).length:Int)<=(a.length:Int))) (
 gdO (decide (((v3++[(0:Int)]).length+1)*4<=140737488355328)) (
 gdO (decide ((v3++[(0:Int)]).length+1<=4611686018427387904)) (
 some ((v3++[(0:Int)])++[(0:Int)])
 )
 )
 ) (
 some (v3++[(0:Int)])
 )
 ) fun u_9=>(
 gdO (decide (0<=Ki ((u_9.length:Int)-(v5.length:Int)))) (
 gdO (decide ((4:Int)*(Ki ((u_9.length:Int)-(v5.length:Int)))<=281474976710656)) (
 gdO (decide (Ki ((u_9.length:Int)-(v5.length:Int))<=9223372036854775807)) (
 bdO (aP (α:=List Int×List Int×Int) (β:=List Int×List Int) n (fun again129 (q_19,u_20,j_21)=>(
 cdO (decide (j_21>=0)) (
 bdO (iF n u_20 (Ki (j_21+(v5.length:Int)))) fun v132=>(
 gdO (inR (Ki ((Ki (j_21+(v5.length:Int)))-1)) u_20.length) (
 gdO (inR (Ki ((v5.length:Int)-1)) v5.length) (
 gdO (!decide (ae .u64 (gt v5 (Ki ((v5.length:Int)-1)))=0)) (
 bdO (aP (α:=Int×Int) (β:=Int) n (fun again165 (g_156,r_157)=>(
 cdO (decide (g_156>=1000000000)) (
 cdO (decide ((ae .u64 (r_157+(ae .u64 (gt v5 (Ki ((v5.length:Int)-1))))))>=1000000000)) (
 some (ae .u64 (g_156-1))
 ) (
 again165 (ae .u64 (g_156-1),ae .u64 (r_157+(ae .u64 (gt v5 (Ki ((v5.length:Int)-1))))))
 )
 ) (
 gdO (inR (Ki ((v5.length:Int)-2)) v5.length) (
 gdO (inR (Ki ((Ki (j_21+(v5.length:Int)))-2)) u_20.length) (
 cdO (decide ((ae .u64 (g_156*(ae .u64 (gt v5 (Ki ((v5.length:Int)-2))))))>(ae .u64 ((ae .u64 (r_157*1000000000))+(ae .u64 (gt u_20 (Ki ((Ki (j_21+(v5.length:Int)))-2)))))))) (
 cdO (decide ((ae .u64 (r_157+(ae .u64 (gt v5 (Ki ((v5.length:Int)-1))))))>=1000000000)) (
 some (ae .u64 (g_156-1))
 ) (
 again165 (ae .u64 (g_156-1),ae .u64 (r_157+(ae .u64 (gt v5 (Ki ((v5.length:Int)-1))))))
 )
 ) (
 some (g_156)
 )
 )
 )
 )
 )) (ae .u64 ((ae .u64 ((ae .u64 ((ae .u64 v132)*1000000000))+(ae .u64 (gt u_20 (Ki ((Ki (j_21+(v5.length:Int)))-1)))))).tdiv (ae .u64 (gt v5 (Ki ((v5.length:Int)-1))))),(ae .u64 ((ae .u64 ((ae .u64 v132)*1000000000))+(ae .u64 (gt u_20 (Ki ((Ki (j_21+(v5.length:Int)))-1)))))).tmod (ae .u64 (gt v5 (Ki ((v5.length:Int)-1)))))) fun g_164=>(
 bdO (aP (α:=List Int×Int×Int×Int) (β:=List Int×Int×Int) n (fun again205 (u_194,b_195,c_196,x_197)=>(
 cdO (decide (x_197<(v5.length:Int))) (
 gdO (inR x_197 v5.length) (
 gdO (inR (Ki (x_197+j_21)) u_194.length) (
 cdO (decide ((Ki ((Ki ((Ki (gt u_194 (Ki (x_197+j_21))))-b_195))-(Ki ((ae .u64 ((ae .u64 (g_164*(ae .u64 (gt v5 x_197))))+c_196)).tmod 1000000000))))<0)) (
 again205 (u_194.set (Ki (x_197+j_21)).toNat (ae .u32 (Ki ((Ki ((Ki ((Ki (gt u_194 (Ki (x_197+j_21))))-b_195))-(Ki ((ae .u64 ((ae .u64 (g_164*(ae .u64 (gt v5 x_197))))+c_196)).tmod 1000000000))))+1000000000))),1,ae .u64 ((ae .u64 ((ae .u64 (g_164*(ae .u64 (gt v5 x_197))))+c_196)).tdiv 1000000000),Ki (x_197+1))
 ) (
 again205 (u_194.set (Ki (x_197+j_21)).toNat (ae .u32 (Ki ((Ki ((Ki (gt u_194 (Ki (x_197+j_21))))-b_195))-(Ki ((ae .u64 ((ae .u64 (g_164*(ae .u64 (gt v5 x_197))))+c_196)).tmod 1000000000))))),0,ae .u64 ((ae .u64 ((ae .u64 (g_164*(ae .u64 (gt v5 x_197))))+c_196)).tdiv 1000000000),Ki (x_197+1))
 )
 )
 )
 ) (
 some ((u_194,b_195,c_196))
 )
 )) (u_20,0,0,0)) fun o210=>(
 match o210 with
 |(u_202,b_203,c_204)=>(
 gdO (inR (Ki (j_21+(v5.length:Int))) u_202.length) (
 cdO (decide ((Ki ((Ki ((Ki (gt u_202 (Ki (j_21+(v5.length:Int)))))-b_203))-(Ki c_204)))<0)) (
 bdO (aP (α:=List Int×Int×Int) (β:=List Int×Int) n (fun again224 (u_215,c_216,x_217)=>(
 cdO (decide (x_217<(v5.length:Int))) (
 gdO (inR (Ki (x_217+j_21)) u_215.length) (
 gdO (inR x_217 v5.length) (
 cdO (decide ((ae .u32 ((ae .u32 ((gt u_215 (Ki (x_217+j_21)))+(gt v5 x_217)))+c_216))>=1000000000)) (
 again224 (u_215.set (Ki (x_217+j_21)).toNat (ae .u32 ((ae .u32 ((ae .u32 ((gt u_215 (Ki (x_217+j_21)))+(gt v5 x_217)))+c_216))-1000000000)),1,Ki (x_217+1))
 ) (
 again224 (u_215.set (Ki (x_217+j_21)).toNat (ae .u32 ((ae .u32 ((gt u_215 (Ki (x_217+j_21)))+(gt v5 x_217)))+c_216)),0,Ki (x_217+1))
 )
 )
 )
 ) (
 some ((u_215,c_216))
 )
 )) (u_202.set (Ki (j_21+(v5.length:Int))).toNat (ae .u32 (Ki ((Ki ((Ki ((Ki (gt u_202 (Ki (j_21+(v5.length:Int)))))-b_203))-(Ki c_204)))+1000000000))),0,0)) fun o229=>(
 match o229 with
 |(u_222,c_223)=>(
 gdO (inR (Ki (j_21+(v5.length:Int))) u_222.length) (
 gdO (inR j_21 q_19.length) (
 again129 (q_19.set j_21.toNat (ae .u32 (ae .u64 (g_164-1))),u_222.set (Ki (j_21+(v5.length:Int))).toNat ((ae .u32 ((gt u_222 (Ki (j_21+(v5.length:Int))))+c_223)).tmod 1000000000),Ki (j_21-1))
 )
 )
 ))
 ) (
 gdO (inR j_21 q_19.length) (
 again129 (q_19.set j_21.toNat (ae .u32 g_164),u_202.set (Ki (j_21+(v5.length:Int))).toNat (ae .u32 (Ki ((Ki ((Ki (gt u_202 (Ki (j_21+(v5.length:Int)))))-b_203))-(Ki c_204)))),Ki (j_21-1))
 )
 )
 )
 ))
 )
 )
 )
 )
 )
 ) (
 some ((q_19,u_20))
 )
 )) (List.replicate (Ki ((u_9.length:Int)-(v5.length:Int))).toNat ((0:Int):Int),u_9,Ki ((Ki ((u_9.length:Int)-(v5.length:Int)))-1))) fun o235=>(
 match o235 with
 |(q_127,u_128)=>(
 gdO (inS 0 (v5.length:Int) u_128.length) (
 bdO (ff n (u_128.take (v5.length:Int).toNat)) fun v239=>(
 bdO (gk n v239 (ae .u32 (ae .u64 ((1000000000:Int).tdiv (ae .u64 ((ae .u64 (gt b (Ki ((b.length:Int)-1))))+1)))))) fun v241=>(
 bdO (ff n q_127) fun v243=>(
 some ((v243,v241.1))
 )
 )
 )
 )
 ))
 )
 )
 )
 )
 )
 )
 )
 )
 )
 )

def iX(n:Nat)(a:List Int)(b:List Int):Option (List Int×List Int):=
 bdO (gO n a b) fun v1=>(
 cdO (decide (v1<0)) (
 some (([],a))
 ) (
 bdO (jc n a) fun v4=>(
 bdO (jc n b) fun v6=>(
 cdO v4.2 (
 cdO v6.2 (
 gdO (!decide (v6.1=0)) (
 bdO (dm n (ae .u64 (v4.1.tdiv v6.1))) fun v11=>(
 bdO (dm n (v4.1.tmod v6.1)) fun v13=>(
 some ((v11,v13))
 )
 )
 )
 ) (
 cdO (((b.length:Int):Int)==1) (
 gdO (inR 0 b.length) (
 bdO (gk n a (gt b 0)) fun v17=>(
 bdO (dm n (ae .u64 v17.2)) fun v19=>(
 some ((v17.1,v19))
 )
 )
 )
 ) (
 bdO (jF n a b) fun v21=>(
 some ((v21.1,v21.2))
 )
 )
 )
 ) (
 cdO (((b.length:Int):Int)==1) (
 gdO (inR 0 b.length) (
 bdO (gk n a (gt b 0)) fun v25=>(
 bdO (dm n (ae .u64 v25.2)) fun v27=>(
 some ((v25.1,v27))
 )
 )
 )
 ) (
 bdO (jF n a b) fun v29=>(
 some ((v29.1,v29.2))
 )
 )
 )
 )
 )
 )
 )

def iY(n:Nat)(x':ai)(y:ai):Option (ai):=
 bdO (ch n x') fun v1=>(
 bdO (ch n y) fun v3=>(
 bdO (aP (α:=List Int×List Int) (β:=Sum (List Int) (ai)) n (fun again34 (a_5,b_6)=>(
 cdO (decide ((b_6.length:Int)>0)) (
 bdO (jc n a_5) fun v36=>(
 bdO (jc n b_6) fun v38=>(
 cdO v36.2 (
 cdO v38.2 (
 bdO (aP (α:=Int×Int) (β:=Int) n (fun again47 (m_42,n_43)=>(
 cdO (decide (n_43>0)) (
 gdO (!decide (n_43=0)) (
 again47 (n_43,m_42.tmod n_43)
 )
 ) (
 some (m_42)
 )
 )) (v36.1,v38.1)) fun m_46=>(
 bdO (dm n m_46) fun v53=>(
 bdO (cv n false v53) fun v55=>(
 some (Sum.inr (v55))
 )
 )
 )
 ) (
 bdO (iX n a_5 b_6) fun v57=>(
 again34 (b_6,v57.2)
 )
 )
 ) (
 bdO (iX n a_5 b_6) fun v59=>(
 again34 (b_6,v59.2)
 )
 )
 )
 )
 ) (
 some (Sum.inl a_5)
 )
 )) (v1,v3)) fun o61=>(
 match o61 with
 |.inl a_33=>(
 bdO (cL n a_33) fun v64=>(
 bdO (cv n false v64) fun v66=>(
 some (v66)
 )
 )
 )
 |.inr (r0)=>(
 some r0
 ))
 )
 )

def lj(n:Nat)(a:List Int)(b:List Int):Option (List Int):=
 gdO (decide (0<=Ki ((mx (a.length:Int) (b.length:Int))+1))) (
 gdO (decide ((4:Int)*(Ki ((mx (a.length:Int) (b.length:Int))+1))<=281474976710656)) (
 gdO (decide (Ki ((mx (a.length:Int) (b.length:Int))+1)<=9223372036854775807)) (
 bdO (aP (α:=List Int×Int×Int) (β:=List Int) n (fun again16 (o_4,c_5,x_6)=>(
 cdO (decide (x_6<((List.replicate (Ki ((mx (a.length:Int) (b.length:Int))+1)).toNat ((0:Int):Int)).length:Int))) (
 bdO (iF n a x_6) fun v18=>(
 bdO (iF n b x_6) fun v20=>(
 cdO (decide ((ae .u32 ((ae .u32 (v18+v20))+c_5))>=1000000000)) (
 gdO (inR x_6 o_4.length) (
 again16 (o_4.set x_6.toNat (ae .u32 ((ae .u32 ((ae .u32 (v18+v20))+c_5))-1000000000)),1,Ki (x_6+1))
 )
 ) (
 gdO (inR x_6 o_4.length) (
 again16 (o_4.set x_6.toNat (ae .u32 ((ae .u32 (v18+v20))+c_5)),0,Ki (x_6+1))
 )
 )
 )
 )
 ) (
 some (o_4)
 )
 )) (List.replicate (Ki ((mx (a.length:Int) (b.length:Int))+1)).toNat ((0:Int):Int),0,0)) fun o_15=>(
 bdO (ff n o_15) fun v28=>(
 some (v28)
 )
 )
 )
 )
 )

def ji(n:Nat)(a:List Int)(b:List Int):Option (List Int):=
 gdO (decide (0<=(a.length:Int))) (
 gdO (decide ((4:Int)*(a.length:Int)<=281474976710656)) (
 gdO (decide ((a.length:Int)<=9223372036854775807)) (
 bdO (aP (α:=List Int×Int×Int) (β:=List Int) n (fun again15 (o_4,b_5,x_6)=>(
 cdO (decide (x_6<((List.replicate (a.length:Int).toNat ((0:Int):Int)).length:Int))) (
 bdO (iF n b x_6) fun v17=>(
 gdO (inR x_6 a.length) (
 cdO (decide ((gt a x_6)<(ae .u32 (v17+b_5)))) (
 gdO (inR x_6 o_4.length) (
 again15 (o_4.set x_6.toNat (ae .u32 ((ae .u32 ((gt a x_6)+1000000000))-(ae .u32 (v17+b_5)))),1,Ki (x_6+1))
 )
 ) (
 gdO (inR x_6 o_4.length) (
 again15 (o_4.set x_6.toNat (ae .u32 ((gt a x_6)-(ae .u32 (v17+b_5)))),0,Ki (x_6+1))
 )
 )
 )
 )
 ) (
 some (o_4)
 )
 )) (List.replicate (a.length:Int).toNat ((0:Int):Int),0,0)) fun o_14=>(
 bdO (ff n o_14) fun v26=>(
 some (v26)
 )
 )
 )
 )
 )

def dW(n:Nat)(x':ai)(y:ai):Option (ai×ai×Int):=
 bdO (ch n x') fun v1=>(
 bdO (ch n y) fun v3=>(
 cdO (((v3.length:Int):Int)==0) (
 some ((ai.mk false [],ai.mk false [],14))
 ) (
 bdO (iX n v1 v3) fun v6=>(
 bdO (cL n v6.2) fun v8=>(
 cdO (decide ((v8.length:Int)>0)) (
 cdO (x'.Negative !=y.Negative) (
 bdO (lj n v6.1 [(1:Int)]) fun v12=>(
 bdO (ji n v3 v8) fun v14=>(
 bdO (cv n true v12) fun v16=>(
 bdO (cv n y.Negative v14) fun v18=>(
 some ((v16,v18,0))
 )
 )
 )
 )
 ) (
 bdO (cv n false v6.1) fun v20=>(
 bdO (cv n y.Negative v8) fun v22=>(
 some ((v20,v22,0))
 )
 )
 )
 ) (
 bdO (cv n (x'.Negative !=y.Negative) v6.1) fun v24=>(
 bdO (cv n y.Negative v8) fun v26=>(
 some ((v24,v26,0))
 )
 )
 )
 )
 )
 )
 )
 )

def fk(n:Nat)(num:ai)(den:ai):Option (ar):=
 bdO (dC n den) fun v1=>(
 cdO (decide (v1<0)) (
 bdO (fj n num) fun v4=>(
 bdO (fj n den) fun v6=>(
 bdO (iY n v4 v6) fun v8=>(
 bdO (dW n v4 v8) fun v10=>(
 bdO (dW n v6 v8) fun v12=>(
 some (ar.mk v10.1 v12.1)
 )
 )
 )
 )
 )
 ) (
 bdO (iY n num den) fun v14=>(
 bdO (dW n num v14) fun v16=>(
 bdO (dW n den v14) fun v18=>(
 some (ar.mk v16.1 v18.1)
 )
 )
 )
 )
 )

def mS(n:Nat)(num:ai)(den:ai):Option (ar×Int):=
 bdO (fY n num) fun v1=>(
 bdO (fY n den) fun v3=>(
 bdO (dC n v3) fun v5=>(
 cdO ((v5:Int)==0) (
 some ((ar.mk (ai.mk false []) (ai.mk false []),14))
 ) (
 bdO (fk n v1 v3) fun v8=>(
 some ((v8,0))
 )
 )
 )
 )
 )

def me(n:Nat)(n':Int)(d:Int):Option (ar×Int):=
 bdO (fZ n n') fun v1=>(
 bdO (fZ n d) fun v3=>(
 bdO (mS n v1 v3) fun v5=>(
 some ((v5.1,v5.2))
 )
 )
 )

def dh(n:Nat)(g:an)(level:Int)(e:A2 Int):Option (ah):=
 gdO (inR e.e0 g.Z.length) (
 gdO (inR e.e1 g.Z.length) (
 bdO (me n (Ki (level-(Ki (2*(gt g.Z e.e0))))) (Ki (2*(Ki ((gt g.Z e.e1)-(gt g.Z e.e0)))))) fun v3=>(
 some (ah.mk e.e0 e.e1 v3.1)
 )
 )
 )

def eR(n:Nat)(start:A2 Int)(closed:Bool)(p:List (A2 Int×Bool))(p':Int)(p'':Int)(GQ:Int)(DN:Int)(wK:Int)(vq:List Int)(xW:Int)(oG:List (A2 Int×A2 Int))(lS:List aa):Option (List (A2 Int×Bool)×List aa):=
 bdO (aP (α:=List (A2 Int×Bool)×List ah×Int×Int) (β:=List (A2 Int×Bool)×List ah) n (fun again39 (p_27,c_28,a_29,a_30)=>(
 bdO (dh n (an.mk p' p'' GQ DN wK vq) xW (A2.mk a_29 a_30)) fun v40=>(
 gdO (decide ((c_28.length+1)*80<=140737488355328)) (
 gdO (decide (c_28.length+1<=4611686018427387904)) (
 cdO (!(de oG (A2.mk a_29 a_30))) (
 some ((dL p_27 (A2.mk a_29 a_30) true,c_28++[v40]))
 ) (
 cdO (getM false (dL p_27 (A2.mk a_29 a_30) true) (getM (A2.mk 0 0:A2 Int) oG (A2.mk a_29 a_30))) (
 some ((dL p_27 (A2.mk a_29 a_30) true,c_28++[v40]))
 ) (
 again39 (dL p_27 (A2.mk a_29 a_30) true,c_28++[v40],(getM (A2.mk 0 0:A2 Int) oG (A2.mk a_29 a_30)).e0,(getM (A2.mk 0 0:A2 Int) oG (A2.mk a_29 a_30)).e1)
 )
 )
 )
 )
 )
 )) (p,[],start.e0,start.e1)) fun o46=>(
 match o46 with
 |(p_37,c_38)=>(
 gdO (decide ((lS.length+1)*32<=140737488355328)) (
 gdO (decide (lS.length+1<=4611686018427387904)) (
 some ((p_37,lS++[aa.mk closed c_38]))
 )
 )
 ))

def dw(n:Nat)(c:aa):Option (A2 Int):=
 gdO (inR 0 c.Points.length) (
 some (A2.mk (gt c.Points 0).A (gt c.Points 0).B)
 )

def jQ(n:Nat)(a:aa)(b:aa):Option (Int):=
 bdO (dw n a) fun v1=>(
 bdO (dw n b) fun v3=>(
 bdO (cU n v1 v3) fun v5=>(
 some (v5)
 )
 )
 )

def aM(n:Nat)(x':List aa):Option (List aa):=
 gdO (decide (x'.length<4611686018427387904)) (
 sq (fun x y=>jQ n x y) x'
 )

noncomputable def im(n:Nat)(g:an)(level:Int):Option (List aa):=
 bdO (bf n g g.X0 g.Y0 g.Step g.Width g.Height g.Z level ([]:List (A2 Int×A2 Int)) ([]:List (A2 Int×Bool))) fun v1=>(
 BK (ε:=A2 Int×A2 Int) (σ:=List (A2 Int)) v1.1 (fun s_16 e12=>(
 gdO (decide ((s_16.length+1)*16<=140737488355328)) (
 gdO (decide (s_16.length+1<=4611686018427387904)) (
 some (s_16++[e12.1])
 )
 )
 )) [] fun s_16=>(
 bdO (aD n s_16) fun v21=>(
 gdO (decide (v21.length=s_16.length)) (
 bdO (aP (α:=List (A2 Int×Bool)×List aa×Int) (β:=List (A2 Int×Bool)×List aa) n (fun again56 (d_45,o_46,x_47)=>(
 cdO (decide (x_47<(s_16.length:Int))) (
 gdO (inR x_47 v21.length) (
 cdO (!(getM false v1.2 (gt v21 x_47))) (
 bdO (eR n (gt v21 x_47) false d_45 g.X0 g.Y0 g.Step g.Width g.Height g.Z level v1.1 o_46) fun v61=>(
 again56 (v61.1,v61.2,Ki (x_47+1))
 )
 ) (
 again56 (d_45,o_46,Ki (x_47+1))
 )
 )
 ) (
 some ((d_45,o_46))
 )
 )) (([]:List (A2 Int×Bool)),[],0)) fun o63=>(
 match o63 with
 |(d_54,o_55)=>(
 bdO (aP (α:=List (A2 Int×Bool)×List aa×Int) (β:=List aa) n (fun again76 (d_66,o_67,x_68)=>(
 cdO (decide (x_68<(v21.length:Int))) (
 gdO (inR x_68 v21.length) (
 cdO (!(getM false d_66 (gt v21 x_68))) (
 bdO (eR n (gt v21 x_68) true d_66 g.X0 g.Y0 g.Step g.Width g.Height g.Z level v1.1 o_67) fun v81=>(
 again76 (v81.1,v81.2,Ki (x_68+1))
 )
 ) (
 again76 (d_66,o_67,Ki (x_68+1))
 )
 )
 ) (
 some (o_67)
 )
 )) (d_54,o_55,0)) fun o_75=>(
 bdO (aM n o_75) fun v86=>(
 gdO (decide (v86.length=o_75.length)) (
 some (v86)
 )
 )
 )
 ))
 )
 )
 )
 )

def cmp_isNaN_int(n:Nat)(x':Int):Option (Bool):=
 some ((x':Int)!=x')

def jR(n:Nat)(x':Int)(y:Int):Option (Int):=
 bdO (cmp_isNaN_int n x') fun v1=>(
 bdO (cmp_isNaN_int n y) fun v3=>(
 cdO v1 (
 cdO v3 (
 some (0)
 ) (
 some ((-1))
 )
 ) (
 cdO v3 (
 some (1)
 ) (
 cdO (decide (x'<y)) (
 some ((-1))
 ) (
 cdO (decide (x'>y)) (
 some (1)
 ) (
 some (0)
 )
 )
 )
 )
 )
 )

def fL(n:Nat)(x':ai)(y:ai):Option (Int):=
 bdO (dC n x') fun v1=>(
 bdO (dC n y) fun v3=>(
 cdO ((v1:Int)!=v3) (
 bdO (jR n v1 v3) fun v6=>(
 some (v6)
 )
 ) (
 bdO (ch n x') fun v8=>(
 bdO (ch n y) fun v10=>(
 bdO (gO n v8 v10) fun v12=>(
 cdO x'.Negative (
 some (Ki (0-v12))
 ) (
 some (v12)
 )
 )
 )
 )
 )
 )
 )

def cD(n:Nat)(x':ar):Option (Bool):=
 bdO (eh n x'.Num) fun v1=>(
 cdO (!v1) (
 some (false)
 ) (
 bdO (eh n x'.Den) fun v4=>(
 cdO (!v4) (
 some (false)
 ) (
 bdO (dC n x'.Den) fun v7=>(
 cdO (decide (v7<=0)) (
 some (false)
 ) (
 bdO (iY n x'.Num x'.Den) fun v10=>(
 bdO (fZ n 1) fun v12=>(
 bdO (fL n v10 v12) fun v14=>(
 some ((v14:Int)==0)
 )
 )
 )
 )
 )
 )
 )
 )
 )

def jT(n:Nat)(x':ar):Option (ar):=
 bdO (fj n x'.Num) fun v1=>(
 bdO (fj n v1) fun v3=>(
 bdO (fj n x'.Den) fun v5=>(
 bdO (fj n v5) fun v7=>(
 some (ar.mk v3 v7)
 )
 )
 )
 )

def mC(n:Nat)(n':Int):Option (ar):=
 bdO (fZ n n') fun v1=>(
 bdO (fZ n 1) fun v3=>(
 some (ar.mk v1 v3)
 )
 )

def cB(n:Nat)(x':ar):Option (ar):=
 bdO (cD n x') fun v1=>(
 cdO v1 (
 bdO (jT n x') fun v4=>(
 some (v4)
 )
 ) (
 bdO (mC n 0) fun v6=>(
 some (v6)
 )
 )
 )

def ec(n:Nat)(x':ai)(y:ai):Option (ai):=
 bdO (ch n x') fun v1=>(
 bdO (ch n y) fun v3=>(
 bdO (kb n v1 v3) fun v5=>(
 bdO (cv n (x'.Negative !=y.Negative) v5) fun v7=>(
 some (v7)
 )
 )
 )
 )

def se(n:Nat)(negative:Bool)(a:List Int)(other:Bool)(b:List Int):Option (ai):=
 cdO (negative==other) (
 bdO (lj n a b) fun v2=>(
 bdO (cv n negative v2) fun v4=>(
 some (v4)
 )
 )
 ) (
 bdO (gO n a b) fun v6=>(
 cdO (decide (v6>=0)) (
 bdO (ji n a b) fun v9=>(
 bdO (cv n negative v9) fun v11=>(
 some (v11)
 )
 )
 ) (
 bdO (ji n b a) fun v13=>(
 bdO (cv n other v13) fun v15=>(
 some (v15)
 )
 )
 )
 )
 )

def sI(n:Nat)(x':ai)(y:ai):Option (ai):=
 bdO (ch n x') fun v1=>(
 bdO (ch n y) fun v3=>(
 bdO (se n x'.Negative v1 y.Negative v3) fun v5=>(
 some (v5)
 )
 )
 )

def oy(n:Nat)(x':ar)(y:ar):Option (ar):=
 bdO (cB n x') fun v1=>(
 bdO (cB n y) fun v3=>(
 bdO (ec n v1.Num v3.Den) fun v5=>(
 bdO (ec n v3.Num v1.Den) fun v7=>(
 bdO (sI n v5 v7) fun v9=>(
 bdO (ec n v1.Den v3.Den) fun v11=>(
 bdO (fk n v9 v11) fun v13=>(
 some (v13)
 )
 )
 )
 )
 )
 )
 )

def ry(n:Nat)(x':ar):Option (ar):=
 bdO (cB n x') fun v1=>(
 bdO (fj n v1.Num) fun v3=>(
 some (ar.mk v3 v1.Den)
 )
 )

def qV(n:Nat)(x':ar)(y:ar):Option (ar):=
 bdO (ry n y) fun v1=>(
 bdO (oy n x' v1) fun v3=>(
 some (v3)
 )
 )

def rh(n:Nat)(x':ar)(y:ar):Option (ar):=
 bdO (cB n x') fun v1=>(
 bdO (cB n y) fun v3=>(
 bdO (ec n v1.Num v3.Num) fun v5=>(
 bdO (ec n v1.Den v3.Den) fun v7=>(
 bdO (fk n v5 v7) fun v9=>(
 some (v9)
 )
 )
 )
 )
 )

def nT(n:Nat)(x':ar)(y:ar):Option (ar×Int):=
 bdO (cB n x') fun v1=>(
 bdO (cB n y) fun v3=>(
 bdO (dC n v3.Num) fun v5=>(
 cdO ((v5:Int)==0) (
 some ((ar.mk (ai.mk false []) (ai.mk false []),14))
 ) (
 bdO (ec n v1.Num v3.Den) fun v8=>(
 bdO (ec n v1.Den v3.Num) fun v10=>(
 bdO (fk n v8 v10) fun v12=>(
 some ((v12,0))
 )
 )
 )
 )
 )
 )
 )

def dN(n:Nat)(x':ar)(y:ar):Option (Int):=
 bdO (cB n x') fun v1=>(
 bdO (cB n y) fun v3=>(
 bdO (ec n v1.Num v3.Den) fun v5=>(
 bdO (ec n v3.Num v1.Den) fun v7=>(
 bdO (fL n v5 v7) fun v9=>(
 some (v9)
 )
 )
 )
 )
 )

def pO(n:Nat)(x':ar):Option (Int):=
 bdO (cB n x') fun v1=>(
 bdO (dC n v1.Num) fun v3=>(
 some (v3)
 )
 )

def ba(n:Nat)(negative:Bool)(l:List Int):Option (ai):=
 bdO (aP (α:=Int) (β:=Int) n (fun again6 n_1=>(
 cdO (decide (n_1>0)) (
 gdO (inR (Ki (n_1-1)) l.length) (
 cdO (((gt l (Ki (n_1-1))):Int)==0) (
 again6 (Ki (n_1-1))
 ) (
 some (n_1)
 )
 )
 ) (
 some (n_1)
 )
 )) (l.length:Int)) fun n_5=>(
 cdO negative (
 gdO (inS 0 n_5 l.length) (
 gdO (decide ((0+((l.drop (0:Int).toNat).take (n_5.toNat-(0:Int).toNat)).length)*4<=140737488355328)) (
 gdO (decide (0+((l.drop (0:Int).toNat).take (n_5.toNat-(0:Int).toNat)).length<=4611686018427387904)) (
 some (ai.mk (decide (n_5>0)) ((l.drop (0:Int).toNat).take (n_5.toNat-(0:Int).toNat)))
 )
 )
 )
 ) (
 gdO (inS 0 n_5 l.length) (
 gdO (decide ((0+((l.drop (0:Int).toNat).take (n_5.toNat-(0:Int).toNat)).length)*4<=140737488355328)) (
 gdO (decide (0+((l.drop (0:Int).toNat).take (n_5.toNat-(0:Int).toNat)).length<=4611686018427387904)) (
 some (ai.mk false ((l.drop (0:Int).toNat).take (n_5.toNat-(0:Int).toNat)))
 )
 )
 )
 )
 )

def iv(n:Nat)(n':Int):Option (ai):=
 cdO (decide (n'<0)) (
 bdO (aP (α:=Int×List Int) (β:=List Int) n (fun again8 (u_2,l_3)=>(
 cdO (decide (u_2>0)) (
 gdO (decide ((l_3.length+1)*4<=140737488355328)) (
 gdO (decide (l_3.length+1<=4611686018427387904)) (
 again8 (ae .u64 (u_2.tdiv 1000000000),l_3++[ae .u32 (u_2.tmod 1000000000)])
 )
 )
 ) (
 some (l_3)
 )
 )) (ae .u64 ((ae .u64 (Ki (0-(Ki (n'+1)))))+1),[])) fun l_7=>(
 bdO (ba n true l_7) fun v15=>(
 some (v15)
 )
 )
 ) (
 bdO (aP (α:=Int×List Int) (β:=List Int) n (fun again23 (u_17,l_18)=>(
 cdO (decide (u_17>0)) (
 gdO (decide ((l_18.length+1)*4<=140737488355328)) (
 gdO (decide (l_18.length+1<=4611686018427387904)) (
 again23 (ae .u64 (u_17.tdiv 1000000000),l_18++[ae .u32 (u_17.tmod 1000000000)])
 )
 )
 ) (
 some (l_18)
 )
 )) (ae .u64 n',[])) fun l_22=>(
 bdO (ba n false l_22) fun v30=>(
 some (v30)
 )
 )
 )

def cq(n:Nat)(n':Int):Option (ai):=
 bdO (iv n n') fun v1=>(
 some (v1)
 )

def cE(n:Nat)(x':ai):Option (Bool):=
 bdO (aP (α:=Int) (β:=Sum (Unit) (Bool)) n (fun again5 i_1=>(
 cdO (decide (i_1<(x'.Groups.length:Int))) (
 gdO (inR i_1 x'.Groups.length) (
 cdO (decide ((gt x'.Groups i_1)>=1000000000)) (
 some (Sum.inr (false))
 ) (
 again5 (Ki (i_1+1))
 )
 )
 ) (
 some (Sum.inl ())
 )
 )) 0) fun o9=>(
 match o9 with
 |.inl _=>(
 cdO (((x'.Groups.length:Int):Int)==0) (
 some (!x'.Negative)
 ) (
 gdO (inR (Ki ((x'.Groups.length:Int)-1)) x'.Groups.length) (
 some (((gt x'.Groups (Ki ((x'.Groups.length:Int)-1))):Int)!=0)
 )
 )
 )
 |.inr (r0)=>(
 some r0
 ))

def bu(n:Nat)(x':ai):Option (ai):=
 bdO (cE n x') fun v1=>(
 cdO (!v1) (
 some (ai.mk false [])
 ) (
 gdO (decide ((0+x'.Groups.length)*4<=140737488355328)) (
 gdO (decide (0+x'.Groups.length<=4611686018427387904)) (
 some (x')
 )
 )
 )
 )

def cx(n:Nat)(x':ai):Option (Int):=
 bdO (bu n x') fun v1=>(
 cdO (((v1.Groups.length:Int):Int)==0) (
 some (0)
 ) (
 cdO v1.Negative (
 some ((-1))
 ) (
 some (1)
 )
 )
 )

def fG(n:Nat)(a:List Int)(d:Int):Option (List Int×Int):=
 gdO (decide (0<=(a.length:Int))) (
 gdO (decide ((4:Int)*(a.length:Int)<=281474976710656)) (
 gdO (decide ((a.length:Int)<=9223372036854775807)) (
 bdO (aP (α:=List Int×Int×Int) (β:=List Int×Int) n (fun again13 (q_4,r_5,i_6)=>(
 cdO (decide (i_6>=0)) (
 gdO (inR i_6 a.length) (
 gdO (!decide (d=0)) (
 gdO (inR i_6 q_4.length) (
 again13 (q_4.set i_6.toNat (ae .u32 (ae .u64 ((ae .u64 ((ae .u64 (r_5*1000000000))+(ae .u64 (gt a i_6)))).tdiv d))),(ae .u64 ((ae .u64 (r_5*1000000000))+(ae .u64 (gt a i_6)))).tmod d,Ki (i_6-1))
 )
 )
 )
 ) (
 some ((q_4,r_5))
 )
 )) (List.replicate (a.length:Int).toNat ((0:Int):Int),0,Ki ((a.length:Int)-1))) fun o18=>(
 match o18 with
 |(q_11,r_12)=>(
 bdO (ba n false q_11) fun v21=>(
 some ((v21.Groups,r_12))
 )
 ))
 )
 )
 )

def dG(n:Nat)(a:List Int)(b:List Int):Option (Int):=
 cdO (((a.length:Int):Int)!=(b.length:Int)) (
 cdO (decide ((a.length:Int)<(b.length:Int))) (
 some ((-1))
 ) (
 some (1)
 )
 ) (
 bdO (aP (α:=Int) (β:=Sum (Unit) (Int)) n (fun again9 i_3=>(
 cdO (decide (i_3>=0)) (
 gdO (inR i_3 a.length) (
 gdO (inR i_3 b.length) (
 cdO (decide ((gt a i_3)<(gt b i_3))) (
 some (Sum.inr ((-1)))
 ) (
 cdO (decide ((gt a i_3)>(gt b i_3))) (
 some (Sum.inr (1))
 ) (
 again9 (Ki (i_3-1))
 )
 )
 )
 )
 ) (
 some (Sum.inl ())
 )
 )) (Ki ((a.length:Int)-1))) fun o15=>(
 match o15 with
 |.inl _=>(
 some (0)
 )
 |.inr (r0)=>(
 some r0
 ))
 )

def cH(n:Nat)(a:List Int)(d:Int):Option (List Int):=
 bdO (aP (α:=List Int×Int×Int) (β:=List Int×Int) n (fun again10 (o_1,c_2,i_3)=>(
 cdO (decide (i_3<(a.length:Int))) (
 gdO (inR i_3 a.length) (
 gdO (decide ((o_1.length+1)*4<=140737488355328)) (
 gdO (decide (o_1.length+1<=4611686018427387904)) (
 again10 (o_1++[ae .u32 ((ae .u64 ((ae .u64 ((ae .u64 (gt a i_3))*d))+c_2)).tmod 1000000000)],ae .u64 ((ae .u64 ((ae .u64 ((ae .u64 (gt a i_3))*d))+c_2)).tdiv 1000000000),Ki (i_3+1))
 )
 )
 )
 ) (
 some ((o_1,c_2))
 )
 )) ([],0,0)) fun o15=>(
 match o15 with
 |(o_8,c_9)=>(
 gdO (decide ((o_8.length+1)*4<=140737488355328)) (
 gdO (decide (o_8.length+1<=4611686018427387904)) (
 bdO (ba n false (o_8++[ae .u32 c_9])) fun v20=>(
 some (v20.Groups)
 )
 )
 )
 ))

def eU(n:Nat)(a:List Int)(d:Int):Option (List Int):=
 gdO (decide ((1+a.length)*4<=140737488355328)) (
 gdO (decide (1+a.length<=4611686018427387904)) (
 bdO (ba n false ([d]++a)) fun v3=>(
 some (v3.Groups)
 )
 )
 )

def bg(n:Nat)(l:List Int)(i:Int):Option (Int):=
 cdO (decide (i<(l.length:Int))) (
 gdO (inR i l.length) (
 some (ae .u64 (gt l i))
 )
 ) (
 some (0)
 )

def cA(n:Nat)(a:List Int)(b:List Int):Option (List Int):=
 bdO (aP (α:=List Int×Int×Int) (β:=List Int) n (fun again12 (o_1,b_2,i_3)=>(
 cdO (decide (i_3<(a.length:Int))) (
 bdO (bg n a i_3) fun v14=>(
 bdO (bg n b i_3) fun v16=>(
 gdO (decide ((o_1.length+1)*4<=140737488355328)) (
 gdO (decide (o_1.length+1<=4611686018427387904)) (
 again12 (o_1++[ae .u32 ((ae .u64 ((ae .u64 ((ae .u64 (1000000000+v14))-v16))-b_2)).tmod 1000000000)],ae .u64 (1-(ae .u64 ((ae .u64 ((ae .u64 ((ae .u64 (1000000000+v14))-v16))-b_2)).tdiv 1000000000))),Ki (i_3+1))
 )
 )
 )
 )
 ) (
 some (o_1)
 )
 )) ([],0,0)) fun o_11=>(
 bdO (ba n false o_11) fun v23=>(
 some (v23.Groups)
 )
 )

def dP(n:Nat)(a:List Int)(b:List Int):Option (List Int×List Int):=
 cdO (((b.length:Int):Int)==1) (
 gdO (inR 0 b.length) (
 bdO (fG n a (ae .u64 (gt b 0))) fun v3=>(
 bdO (ba n false [(ae .u32 v3.2)]) fun v5=>(
 some ((v3.1,v5.Groups))
 )
 )
 )
 ) (
 bdO (dG n a b) fun v7=>(
 cdO (decide (v7<0)) (
 some (([],a))
 ) (
 gdO (inR (Ki ((b.length:Int)-1)) b.length) (
 gdO (!decide (ae .u64 ((ae .u64 (gt b (Ki ((b.length:Int)-1))))+1)=0)) (
 bdO (cH n a (ae .u64 ((1000000000:Int).tdiv (ae .u64 ((ae .u64 (gt b (Ki ((b.length:Int)-1))))+1))))) fun v12=>(
 bdO (cH n b (ae .u64 ((1000000000:Int).tdiv (ae .u64 ((ae .u64 (gt b (Ki ((b.length:Int)-1))))+1))))) fun v14=>(
 gdO (inS (Ki ((Ki ((v12.length:Int)-(b.length:Int)))+1)) (v12.length:Int) v12.length) (
 bdO (ba n false ((v12.drop (Ki ((Ki ((v12.length:Int)-(b.length:Int)))+1)).toNat).take ((v12.length:Int).toNat-(Ki ((Ki ((v12.length:Int)-(b.length:Int)))+1)).toNat))) fun v17=>(
 gdO (decide (0<=Ki ((Ki ((v12.length:Int)-(b.length:Int)))+1))) (
 gdO (decide ((4:Int)*(Ki ((Ki ((v12.length:Int)-(b.length:Int)))+1))<=281474976710656)) (
 gdO (decide (Ki ((Ki ((v12.length:Int)-(b.length:Int)))+1)<=9223372036854775807)) (
 bdO (aP (α:=List Int×List Int×Int) (β:=List Int×List Int) n (fun again60 (r_22,q_23,i_24)=>(
 cdO (decide (i_24>=0)) (
 gdO (inR i_24 v12.length) (
 bdO (eU n r_22 (gt v12 i_24)) fun v63=>(
 bdO (bg n v63 (b.length:Int)) fun v65=>(
 bdO (bg n v63 (Ki ((b.length:Int)-1))) fun v67=>(
 gdO (inR (Ki ((b.length:Int)-1)) v14.length) (
 gdO (!decide (ae .u64 ((ae .u64 (gt v14 (Ki ((b.length:Int)-1))))+1)=0)) (
 bdO (cH n v14 (ae .u64 ((ae .u64 ((ae .u64 (v65*1000000000))+v67)).tdiv (ae .u64 ((ae .u64 (gt v14 (Ki ((b.length:Int)-1))))+1))))) fun v71=>(
 bdO (cA n v63 v71) fun v73=>(
 bdO (aP (α:=List Int×Int) (β:=List Int×Int) n (fun again84 (r_75,g_76)=>(
 bdO (dG n r_75 v14) fun v85=>(
 cdO (decide (v85>=0)) (
 bdO (cA n r_75 v14) fun v88=>(
 again84 (v88,ae .u64 (g_76+1))
 )
 ) (
 some ((r_75,g_76))
 )
 )
 )) (v73,ae .u64 ((ae .u64 ((ae .u64 (v65*1000000000))+v67)).tdiv (ae .u64 ((ae .u64 (gt v14 (Ki ((b.length:Int)-1))))+1))))) fun o90=>(
 match o90 with
 |(r_82,g_83)=>(
 gdO (inR i_24 q_23.length) (
 again60 (r_82,q_23.set i_24.toNat (ae .u32 g_83),Ki (i_24-1))
 )
 ))
 )
 )
 )
 )
 )
 )
 )
 )
 ) (
 some ((r_22,q_23))
 )
 )) (v17.Groups,List.replicate (Ki ((Ki ((v12.length:Int)-(b.length:Int)))+1)).toNat ((0:Int):Int),Ki ((v12.length:Int)-(b.length:Int)))) fun o94=>(
 match o94 with
 |(r_58,q_59)=>(
 bdO (fG n r_58 (ae .u64 ((1000000000:Int).tdiv (ae .u64 ((ae .u64 (gt b (Ki ((b.length:Int)-1))))+1))))) fun v97=>(
 bdO (ba n false q_59) fun v99=>(
 some ((v99.Groups,v97.1))
 )
 )
 ))
 )
 )
 )
 )
 )
 )
 )
 )
 )
 )
 )
 )

def dX(n:Nat)(a:List Int):Option (Int):=
 bdO (bg n a 1) fun v1=>(
 bdO (bg n a 0) fun v3=>(
 some (ae .u64 ((ae .u64 (v1*1000000000))+v3))
 )
 )

def fy(n:Nat)(x':ai)(y:ai):Option (ai):=
 bdO (bu n x') fun v1=>(
 bdO (bu n y) fun v3=>(
 bdO (aP (α:=List Int×List Int) (β:=List Int×List Int) n (fun again16 (a_5,b_6)=>(
 cdO (decide ((b_6.length:Int)>0)) (
 cdO (decide ((a_5.length:Int)>2)) (
 bdO (dP n a_5 b_6) fun v19=>(
 again16 (b_6,v19.2)
 )
 ) (
 cdO (decide ((b_6.length:Int)>2)) (
 bdO (dP n a_5 b_6) fun v22=>(
 again16 (b_6,v22.2)
 )
 ) (
 some ((a_5,b_6))
 )
 )
 ) (
 some ((a_5,b_6))
 )
 )) (v1.Groups,v3.Groups)) fun o24=>(
 match o24 with
 |(a_14,b_15)=>(
 cdO (((b_15.length:Int):Int)==0) (
 bdO (ba n false a_14) fun v28=>(
 some (v28)
 )
 ) (
 bdO (dX n a_14) fun v30=>(
 bdO (dX n b_15) fun v32=>(
 bdO (aP (α:=Int×Int) (β:=Int) n (fun again39 (u_34,v_35)=>(
 cdO (decide (v_35>0)) (
 gdO (!decide (v_35=0)) (
 again39 (v_35,u_34.tmod v_35)
 )
 ) (
 some (u_34)
 )
 )) (v30,v32)) fun u_38=>(
 bdO (ba n false [(ae .u32 (u_38.tmod 1000000000)),(ae .u32 (ae .u64 (u_38.tdiv 1000000000)))]) fun v45=>(
 some (v45)
 )
 )
 )
 )
 )
 ))
 )
 )

def fq(n:Nat)(x':ai):Option (ai):=
 bdO (bu n x') fun v1=>(
 bdO (ba n (!v1.Negative) v1.Groups) fun v3=>(
 some (v3)
 )
 )

def iE(n:Nat)(a:List Int)(b:List Int):Option (List Int):=
 bdO (aP (α:=List Int×Int×Int) (β:=List Int×Int) n (fun again20 (o_1,c_2,i_3)=>(
 cdO (decide (i_3<(a.length:Int))) (
 bdO (bg n a i_3) fun v22=>(
 bdO (bg n b i_3) fun v24=>(
 gdO (decide ((o_1.length+1)*4<=140737488355328)) (
 gdO (decide (o_1.length+1<=4611686018427387904)) (
 again20 (o_1++[ae .u32 ((ae .u64 ((ae .u64 (v22+v24))+c_2)).tmod 1000000000)],ae .u64 ((ae .u64 ((ae .u64 (v22+v24))+c_2)).tdiv 1000000000),Ki (i_3+1))
 )
 )
 )
 )
 ) (
 cdO (decide (i_3<(b.length:Int))) (
 bdO (bg n a i_3) fun v29=>(
 bdO (bg n b i_3) fun v31=>(
 gdO (decide ((o_1.length+1)*4<=140737488355328)) (
 gdO (decide (o_1.length+1<=4611686018427387904)) (
 again20 (o_1++[ae .u32 ((ae .u64 ((ae .u64 (v29+v31))+c_2)).tmod 1000000000)],ae .u64 ((ae .u64 ((ae .u64 (v29+v31))+c_2)).tdiv 1000000000),Ki (i_3+1))
 )
 )
 )
 )
 ) (
 some ((o_1,c_2))
 )
 )
 )) ([],0,0)) fun o35=>(
 match o35 with
 |(o_18,c_19)=>(
 gdO (decide ((o_18.length+1)*4<=140737488355328)) (
 gdO (decide (o_18.length+1<=4611686018427387904)) (
 bdO (ba n false (o_18++[ae .u32 c_19])) fun v40=>(
 some (v40.Groups)
 )
 )
 )
 ))

def gF(n:Nat)(x':ai)(y:ai):Option (ai):=
 bdO (bu n x') fun v1=>(
 bdO (bu n y) fun v3=>(
 cdO (v1.Negative==v3.Negative) (
 bdO (iE n v1.Groups v3.Groups) fun v6=>(
 bdO (ba n v1.Negative v6) fun v8=>(
 some (v8)
 )
 )
 ) (
 bdO (dG n v1.Groups v3.Groups) fun v10=>(
 cdO (decide (v10>=0)) (
 bdO (cA n v1.Groups v3.Groups) fun v13=>(
 bdO (ba n v1.Negative v13) fun v15=>(
 some (v15)
 )
 )
 ) (
 bdO (cA n v3.Groups v1.Groups) fun v17=>(
 bdO (ba n v3.Negative v17) fun v19=>(
 some (v19)
 )
 )
 )
 )
 )
 )
 )

def dr(n:Nat)(x':ai)(y:ai):Option (ai):=
 bdO (fq n y) fun v1=>(
 bdO (gF n x' v1) fun v3=>(
 some (v3)
 )
 )

def cw(n:Nat)(x':ai)(y:ai):Option (ai):=
 bdO (bu n x') fun v1=>(
 bdO (bu n y) fun v3=>(
 gdO (decide (0<=Ki ((v1.Groups.length:Int)+(v3.Groups.length:Int)))) (
 gdO (decide ((4:Int)*(Ki ((v1.Groups.length:Int)+(v3.Groups.length:Int)))<=281474976710656)) (
 gdO (decide (Ki ((v1.Groups.length:Int)+(v3.Groups.length:Int))<=9223372036854775807)) (
 bdO (aP (α:=List Int×Int) (β:=List Int) n (fun again30 (o_8,i_9)=>(
 cdO (decide (i_9<(v1.Groups.length:Int))) (
 bdO (aP (α:=List Int×Int×Int) (β:=List Int×Int) n (fun again41 (o_32,c_33,j_34)=>(
 cdO (decide (j_34<(v3.Groups.length:Int))) (
 gdO (inR (Ki (i_9+j_34)) o_32.length) (
 gdO (inR i_9 v1.Groups.length) (
 gdO (inR j_34 v3.Groups.length) (
 again41 (o_32.set (Ki (i_9+j_34)).toNat (ae .u32 ((ae .u64 ((ae .u64 ((ae .u64 (gt o_32 (Ki (i_9+j_34))))+(ae .u64 ((ae .u64 (gt v1.Groups i_9))*(ae .u64 (gt v3.Groups j_34))))))+c_33)).tmod 1000000000)),ae .u64 ((ae .u64 ((ae .u64 ((ae .u64 (gt o_32 (Ki (i_9+j_34))))+(ae .u64 ((ae .u64 (gt v1.Groups i_9))*(ae .u64 (gt v3.Groups j_34))))))+c_33)).tdiv 1000000000),Ki (j_34+1))
 )
 )
 )
 ) (
 some ((o_32,c_33))
 )
 )) (o_8,0,0)) fun o46=>(
 match o46 with
 |(o_39,c_40)=>(
 gdO (inR (Ki (i_9+(v3.Groups.length:Int))) o_39.length) (
 again30 (o_39.set (Ki (i_9+(v3.Groups.length:Int))).toNat (ae .u32 c_40),Ki (i_9+1))
 )
 ))
 ) (
 some (o_8)
 )
 )) (List.replicate (Ki ((v1.Groups.length:Int)+(v3.Groups.length:Int))).toNat ((0:Int):Int),0)) fun o_29=>(
 bdO (ba n (v1.Negative !=v3.Negative) o_29) fun v53=>(
 some (v53)
 )
 )
 )
 )
 )
 )
 )

def dy(n:Nat)(x':ai)(y:ai):Option (ai×ai×Int):=
 bdO (bu n x') fun v1=>(
 bdO (bu n y) fun v3=>(
 cdO (((v3.Groups.length:Int):Int)==0) (
 some ((ai.mk false [],ai.mk false [],14))
 ) (
 bdO (dP n v1.Groups v3.Groups) fun v6=>(
 bdO (ba n (v1.Negative !=v3.Negative) v6.1) fun v8=>(
 cdO (v1.Negative !=v3.Negative) (
 cdO (decide ((v6.2.length:Int)>0)) (
 bdO (iv n 1) fun v12=>(
 bdO (dr n v8 v12) fun v14=>(
 bdO (cw n v14 v3) fun v16=>(
 bdO (dr n v1 v16) fun v18=>(
 some ((v14,v18,0))
 )
 )
 )
 )
 ) (
 bdO (cw n v8 v3) fun v20=>(
 bdO (dr n v1 v20) fun v22=>(
 some ((v8,v22,0))
 )
 )
 )
 ) (
 bdO (cw n v8 v3) fun v24=>(
 bdO (dr n v1 v24) fun v26=>(
 some ((v8,v26,0))
 )
 )
 )
 )
 )
 )
 )
 )

def eV(n:Nat)(num:ai)(den:ai):Option (ar):=
 bdO (fy n num den) fun v1=>(
 bdO (cx n den) fun v3=>(
 cdO (decide (v3<0)) (
 bdO (fq n v1) fun v6=>(
 bdO (dy n num v6) fun v8=>(
 bdO (dy n den v6) fun v10=>(
 some (ar.mk v8.1 v10.1)
 )
 )
 )
 ) (
 bdO (dy n num v1) fun v12=>(
 bdO (dy n den v1) fun v14=>(
 some (ar.mk v12.1 v14.1)
 )
 )
 )
 )
 )

def ki(n:Nat)(num:ai)(den:ai):Option (ar×Int):=
 bdO (cx n den) fun v1=>(
 cdO ((v1:Int)==0) (
 some ((ar.mk (ai.mk false []) (ai.mk false []),14))
 ) (
 bdO (eV n num den) fun v4=>(
 some ((v4,0))
 )
 )
 )

def iy(n:Nat)(n':Int)(d:Int):Option (ar×Int):=
 bdO (cq n n') fun v1=>(
 bdO (cq n d) fun v3=>(
 bdO (ki n v1 v3) fun v5=>(
 some ((v5.1,v5.2))
 )
 )
 )

def dQ(n:Nat)(x':ai)(y:ai):Option (Int):=
 bdO (dr n x' y) fun v1=>(
 bdO (cx n v1) fun v3=>(
 some (v3)
 )
 )

def bY(n:Nat)(x':ar):Option (Bool):=
 bdO (cE n x'.Num) fun v1=>(
 cdO (!v1) (
 some (false)
 ) (
 bdO (cE n x'.Den) fun v4=>(
 cdO (!v4) (
 some (false)
 ) (
 bdO (cx n x'.Den) fun v7=>(
 cdO (decide (v7<=0)) (
 some (false)
 ) (
 bdO (fy n x'.Num x'.Den) fun v10=>(
 bdO (cq n 1) fun v12=>(
 bdO (dQ n v10 v12) fun v14=>(
 some ((v14:Int)==0)
 )
 )
 )
 )
 )
 )
 )
 )
 )

def lC(n:Nat)(n':Int):Option (ar):=
 bdO (cq n n') fun v1=>(
 bdO (cq n 1) fun v3=>(
 some (ar.mk v1 v3)
 )
 )

def dO(n:Nat)(x':ar):Option (ar):=
 bdO (bY n x') fun v1=>(
 cdO v1 (
 some (x')
 ) (
 bdO (lC n 0) fun v4=>(
 some (v4)
 )
 )
 )

def iU(n:Nat)(x':ar):Option (ar):=
 bdO (dO n x') fun v1=>(
 bdO (fq n v1.Num) fun v3=>(
 some (ar.mk v3 v1.Den)
 )
 )

def jb(n:Nat)(x':ar)(y:ar):Option (ar):=
 bdO (dO n x') fun v1=>(
 bdO (dO n y) fun v3=>(
 bdO (cw n v1.Num v3.Den) fun v5=>(
 bdO (cw n v3.Num v1.Den) fun v7=>(
 bdO (gF n v5 v7) fun v9=>(
 bdO (cw n v1.Den v3.Den) fun v11=>(
 bdO (eV n v9 v11) fun v13=>(
 some (v13)
 )
 )
 )
 )
 )
 )
 )

def ja(n:Nat)(x':ar)(y:ar):Option (ar):=
 bdO (iU n y) fun v1=>(
 bdO (jb n x' v1) fun v3=>(
 some (v3)
 )
 )

def iD(n:Nat)(x':ar):Option (Int):=
 bdO (dO n x') fun v1=>(
 bdO (cx n v1.Num) fun v3=>(
 some (v3)
 )
 )

def eW(n:Nat)(x':ar)(y:ar):Option (Int):=
 bdO (ja n x' y) fun v1=>(
 bdO (iD n v1) fun v3=>(
 some (v3)
 )
 )

def ga(n:Nat)(x':ar)(y:ar):Option (Bool):=
 bdO (bY n x') fun v1=>(
 cdO v1 (
 bdO (bY n y) fun v4=>(
 cdO v4 (
 bdO (eW n x' y) fun v7=>(
 some ((v7:Int)==0)
 )
 ) (
 some (false)
 )
 )
 ) (
 some (false)
 )
 )

def lB(n:Nat):Option (Bool):=some true

def mj(n:Nat)(g:an)(n':Int):Option (Bool):=
 some (decide ((g.Z.length:Int)<=n'))

def gB(n:Nat)(x':ar):Option (Int):=
 some (Ki ((x'.Num.Groups.length:Int)+(x'.Den.Groups.length:Int)))

def fM(n:Nat)(n':Int):Option (Bool):=
 cdO (decide (n'>=2)) (
 some (decide (n'<=64))
 ) (
 some (false)
 )

def jC(n:Nat)(n':Int):Option (Bool):=
 cdO (decide (n'<(-1048576))) (
 some (true)
 ) (
 some (decide (n'>1048576))
 )

def jS(n:Nat)(z:Int):Option (Bool):=
 cdO ((z:Int)!=(-2147483648)) (
 bdO (jC n z) fun v2=>(
 some (v2)
 )
 ) (
 some (false)
 )

def cz(n:Nat)(s:List Int):Option (Int):=
 bdO (aP (α:=Int) (β:=Sum (Unit) (Int)) n (fun again7 x_1=>(
 cdO (decide (x_1<(s.length:Int))) (
 gdO (inR x_1 s.length) (
 bdO (jS n (gt s x_1)) fun v10=>(
 cdO v10 (
 some (Sum.inr (x_1))
 ) (
 again7 (Ki (x_1+1))
 )
 )
 )
 ) (
 some (Sum.inl ())
 )
 )) 0) fun o13=>(
 match o13 with
 |.inl _=>(
 some ((-1))
 )
 |.inr (r0)=>(
 some r0
 ))

def bH(n:Nat)(s:List Int):Option (Bool):=
 bdO (cz n s) fun v1=>(
 some (decide (v1>=0))
 )

def lJ(n:Nat)(g:an):Option (Int):=
 bdO (fM n g.Width) fun v1=>(
 cdO (!v1) (
 some (2)
 ) (
 bdO (fM n g.Height) fun v4=>(
 cdO (!v4) (
 some (2)
 ) (
 cdO (decide (g.Step<2)) (
 some (2)
 ) (
 cdO (decide (g.Step>65536)) (
 some (2)
 ) (
 cdO (((g.Step.tmod 2):Int)!=0) (
 some (2)
 ) (
 bdO (jC n g.X0) fun v10=>(
 cdO v10 (
 some (2)
 ) (
 bdO (jC n g.Y0) fun v13=>(
 cdO v13 (
 some (2)
 ) (
 cdO (((g.Z.length:Int):Int)!=(Ki (g.Width*g.Height))) (
 some (4)
 ) (
 bdO (bH n g.Z) fun v17=>(
 cdO v17 (
 some (2)
 ) (
 some (0)
 )
 )
 )
 )
 )
 )
 )
 )
 )
 )
 )
 )
 )
 )

def gj(n:Nat)(g:an)(level:Int):Option (Int):=
 bdO (lJ n g) fun v1=>(
 cdO ((v1:Int)!=0) (
 some (v1)
 ) (
 cdO (((level.tmod 2):Int)==0) (
 some (1)
 ) (
 cdO (decide (level<(-2097153))) (
 some (2)
 ) (
 cdO (decide (level>2097153)) (
 some (2)
 ) (
 some (0)
 )
 )
 )
 )
 )

def bz(n:Nat)(n':Int):Option (List ah):=
 gdO (!(decide (n'<0))) (
 cdO (decide ((Ki (n'-0))>0)) (
 gdO (decide (0<(Ki (n'-0)))) (
 gdO (decide ((Ki (n'-0))<=4611686018427387904)) (
 gdO (decide ((Ki (n'-0)).toNat*80<=140737488355328)) (
 gdO (inS 0 0 (Ki (n'-0)).toNat) (
 some (([]:List ah))
 )
 )
 )
 )
 ) (
 some ([])
 )
 )

def bl(n:Nat)(slices:List (List ah)):Option (List ah):=
 bdO (aP (α:=Int×Int) (β:=Int) n (fun again7 (s_1,x_2)=>(
 cdO (decide (x_2<(slices.length:Int))) (
 gdO (inR x_2 slices.length) (
 gdO (!(decide ((Ki (s_1+((gt slices x_2).length:Int)))<0))) (
 again7 (Ki (s_1+((gt slices x_2).length:Int)),Ki (x_2+1))
 )
 )
 ) (
 some (s_1)
 )
 )) (0,0)) fun s_6=>(
 bdO (bz n s_6) fun v14=>(
 bdO (aP (α:=List ah×Int) (β:=List ah) n (fun again23 (n_16,x_17)=>(
 cdO (decide (x_17<(slices.length:Int))) (
 gdO (inR x_17 slices.length) (
 gdO (decide ((n_16.length+(gt slices x_17).length)*80<=140737488355328)) (
 gdO (decide (n_16.length+(gt slices x_17).length<=4611686018427387904)) (
 again23 (n_16++(gt slices x_17),Ki (x_17+1))
 )
 )
 )
 ) (
 some (n_16)
 )
 )) (v14,0)) fun n_22=>(
 some (n_22)
 )
 )
 )

def gy(n:Nat)(c:aa):Option (aa):=
 cdO (!c.Closed) (
 some (c)
 ) (
 bdO (aP (α:=Int×Int) (β:=Int) n (fun again34 (a_24,x_25)=>(
 cdO (decide (x_25<(c.Points.length:Int))) (
 gdO (inR x_25 c.Points.length) (
 gdO (inR a_24 c.Points.length) (
 bdO (cU n (A2.mk (gt c.Points x_25).A (gt c.Points x_25).B) (A2.mk (gt c.Points a_24).A (gt c.Points a_24).B)) fun v39=>(
 cdO (decide (v39<0)) (
 again34 (x_25,Ki (x_25+1))
 ) (
 again34 (a_24,Ki (x_25+1))
 )
 )
 )
 )
 ) (
 some (a_24)
 )
 )) (0,0)) fun a_33=>(
 gdO (inS a_33 (c.Points.length:Int) c.Points.length) (
 gdO (inS 0 a_33 c.Points.length) (
 bdO (bl n [((c.Points.drop a_33.toNat).take ((c.Points.length:Int).toNat-a_33.toNat)),((c.Points.drop (0:Int).toNat).take (a_33.toNat-(0:Int).toNat))]) fun v47=>(
 some (aa.mk true v47)
 )
 )
 )
 )
 )

def bZ(n:Nat)(a:aa)(b:aa):Option (Int):=
 bdO (dw n a) fun v1=>(
 bdO (dw n b) fun v3=>(
 bdO (cU n v1 v3) fun v5=>(
 some (v5)
 )
 )
 )

def aJ(n:Nat)(x':List aa):Option (List aa):=
 gdO (decide (x'.length<4611686018427387904)) (
 sq (fun x y=>bZ n x y) x'
 )

noncomputable def bF(n:Nat)(data:List aa)(a:Int)(b:Int):Option (List aa):=
 bdO (D0 (fun x y=>bZ n x y) data a b) fun w=>some w.2

noncomputable def bV(n:Nat)(data:List aa)(a:Int)(b:Int):Option (List aa):=
 bdO (Ef (fun x y=>bZ n x y) data a b) fun w=>some w.2

noncomputable def bE(n:Nat)(data:List aa)(a:Int)(b:Int):Option (List aa):=
 bdO (D1 (fun x y=>bZ n x y) data a b) fun w=>some w.2

noncomputable def bK(n:Nat)(data:List aa)(a:Int)(b:Int):Option (Int×Int×List aa):=
 bdO (Ew (fun x y=>bZ n x y) data a b) fun w=>some (w.1.1,w.1.2,w.2)

noncomputable def bG(n:Nat)(data:List aa)(a:Int)(b:Int):Option (List aa):=
 bdO (EE (fun x y=>bZ n x y) data a b) fun w=>some w.2

noncomputable def bs(n:Nat)(data:List aa)(a:Int)(b:Int):Option (Bool×List aa):=
 bdO (CO (fun x y=>bZ n x y) data a b) fun w=>some w

noncomputable def bB(n:Nat)(data:List aa)(a:Int)(b:Int)(pivot:Int):Option (Int×List aa):=
 bdO (Ct (fun x y=>bZ n x y) data a b pivot) fun w=>some w

noncomputable def bP(n:Nat)(data:List aa)(a:Int)(b:Int)(pivot:Int):Option (Int×Bool×List aa):=
 bdO (Ez (fun x y=>bZ n x y) data a b pivot) fun w=>some (w.1.1,w.1.2,w.2)

noncomputable def bm(n:Nat)(data:List aa)(a:Int)(b:Int)(limit:Int):Option (List aa):=
 bdO (EF (fun x y=>bZ n x y) data a b limit) fun w=>some w.2

noncomputable def br(n:Nat)(data:List aa)(a:Int)(b:Int)(limit:Int):Option (List aa):=
 bdO (aP (α:=List aa×Int×Int×Int×Bool×Bool) (β:=List aa) n (fun again237 (d_158,a_159,b_160,l_161,w_162,w_163)=>(
 cdO (decide ((Ki (b_160-a_159))<=12)) (
 bdO (bF n d_158 a_159 b_160) fun v243=>(
 gdO (decide (v243.length=d_158.length)) (
 some (v243)
 )
 )
 ) (
 cdO ((l_161:Int)==0) (
 bdO (bV n d_158 a_159 b_160) fun v251=>(
 gdO (decide (v251.length=d_158.length)) (
 some (v251)
 )
 )
 ) (
 bdO (α:=List aa×Int) (
 cdO (!w_162) (
 bdO (bE n d_158 a_159 b_160) fun v257=>(
 gdO (decide (v257.length=d_158.length)) (
 some ((v257,Ki (l_161-1)))
 )
 )
 ) (
 some ((d_158,l_161))
 )
 ) fun o260=>(
 match o260 with
 |(d_254,l_255)=>(
 bdO (bK n d_254 a_159 b_160) fun v263=>(
 gdO (decide (v263.2.2.length=d_254.length)) (
 bdO (α:=List aa×Int×Int) (
 cdO ((v263.2.1:Int)==2) (
 bdO (bG n v263.2.2 a_159 b_160) fun v270=>(
 gdO (decide (v270.length=d_254.length)) (
 some ((v270,Ki ((Ki (b_160-1))-(Ki (v263.1-a_159))),1))
 )
 )
 ) (
 some ((v263.2.2,v263.1,v263.2.1))
 )
 ) fun o273=>(
 match o273 with
 |(d_266,p_267,h_268)=>(
 bdO (α:=Sum (List aa) (List aa)) (
 cdO w_162 (
 cdO w_163 (
 cdO ((h_268:Int)==1) (
 bdO (bs n d_266 a_159 b_160) fun v280=>(
 gdO (decide (v280.2.length=d_266.length)) (
 cdO v280.1 (
 some (Sum.inr (v280.2))
 ) (
 some (Sum.inl v280.2)
 )
 )
 )
 ) (
 some (Sum.inl d_266)
 )
 ) (
 some (Sum.inl d_266)
 )
 ) (
 some (Sum.inl d_266)
 )
 ) fun o284=>(
 match o284 with
 |.inl d_276=>(
 bdO (α:=Sum (List aa×Int) (Unit)) (
 cdO (decide (a_159>0)) (
 gdO (inR (Ki (a_159-1)) d_276.length) (
 gdO (inR p_267 d_276.length) (
 bdO (bZ n (gt d_276 (Ki (a_159-1))) (gt d_276 p_267)) fun v292=>(
 cdO (!(decide (v292<0))) (
 bdO (bB n d_276 a_159 b_160 p_267) fun v295=>(
 gdO (decide (v295.2.length=d_276.length)) (
 some (Sum.inl (v295.2,v295.1))
 )
 )
 ) (
 some (Sum.inr (()))
 )
 )
 )
 )
 ) (
 some (Sum.inr (()))
 )
 ) fun o298=>(
 match o298 with
 |.inl (d_287,a_288)=>(
 again237 (d_287,a_288,b_160,l_255,w_162,w_163)
 )
 |.inr (_)=>(
 bdO (bP n d_276 a_159 b_160 p_267) fun v301=>(
 gdO (decide (v301.2.2.length=d_276.length)) (
 cdO (decide ((Ki (v301.1-a_159))<(Ki (b_160-v301.1)))) (
 bdO (bm n v301.2.2 a_159 v301.1 l_255) fun v305=>(
 gdO (decide (v305.length=d_276.length)) (
 again237 (v305,Ki (v301.1+1),b_160,l_255,decide ((Ki (v301.1-a_159))>=(Ki ((Ki (b_160-a_159)).tdiv 8))),v301.2.1)
 )
 )
 ) (
 bdO (bm n v301.2.2 (Ki (v301.1+1)) b_160 l_255) fun v308=>(
 gdO (decide (v308.length=d_276.length)) (
 again237 (v308,a_159,v301.1,l_255,decide ((Ki (b_160-v301.1))>=(Ki ((Ki (b_160-a_159)).tdiv 8))),v301.2.1)
 )
 )
 )
 )
 )
 ))
 )
 |.inr (r0)=>(
 some (r0)
 ))
 ))
 )
 )
 ))
 )
 )
 )) (data,a,b,limit,true,true)) fun r0=>(
 some r0
 )

noncomputable def aV(n:Nat)(x':List aa):Option (List aa):=
 bdO (ns n (ae .u64 (x'.length:Int))) fun v6=>(
 bdO (br n x' 0 (x'.length:Int) v6) fun v8=>(
 some (v8)
 )
 )

noncomputable def aW(n:Nat)(x':List aa):Option (List aa):=
 match aJ n x' with
 |some r=>some r
 |none=>aV n x'

def kE(n:Nat)(p:ah)(q:ah):Option (Bool):=
 cdO ((p.A:Int)==q.A) (
 cdO ((p.B:Int)==q.B) (
 bdO (cD n p.At) fun v3=>(
 cdO v3 (
 bdO (cD n q.At) fun v6=>(
 cdO v6 (
 bdO (dN n p.At q.At) fun v9=>(
 some ((v9:Int)==0)
 )
 ) (
 some (false)
 )
 )
 ) (
 some (false)
 )
 )
 ) (
 some (false)
 )
 ) (
 some (false)
 )

def aF(n:Nat)(s1:List ah)(s2:List ah):Option (Bool):=
 cdO (((s1.length:Int):Int)!=(s2.length:Int)) (
 some (false)
 ) (
 bdO (aP (α:=Int) (β:=Sum (Unit) (Bool)) n (fun again9 x_2=>(
 cdO (decide (x_2<(s1.length:Int))) (
 gdO (inR x_2 s1.length) (
 gdO (inR x_2 s2.length) (
 bdO (kE n (gt s1 x_2) (gt s2 x_2)) fun v13=>(
 cdO (!v13) (
 some (Sum.inr (false))
 ) (
 again9 (Ki (x_2+1))
 )
 )
 )
 )
 ) (
 some (Sum.inl ())
 )
 )) 0) fun o16=>(
 match o16 with
 |.inl _=>(
 some (true)
 )
 |.inr (r0)=>(
 some r0
 ))
 )

def mE(n:Nat)(a:aa)(b:aa):Option (Bool):=
 cdO (a.Closed==b.Closed) (
 bdO (aF n a.Points b.Points) fun v2=>(
 some (v2)
 )
 ) (
 some (false)
 )

def aG(n:Nat)(s1:List aa)(s2:List aa):Option (Bool):=
 cdO (((s1.length:Int):Int)!=(s2.length:Int)) (
 some (false)
 ) (
 bdO (aP (α:=Int) (β:=Sum (Unit) (Bool)) n (fun again9 x_2=>(
 cdO (decide (x_2<(s1.length:Int))) (
 gdO (inR x_2 s1.length) (
 gdO (inR x_2 s2.length) (
 bdO (mE n (gt s1 x_2) (gt s2 x_2)) fun v13=>(
 cdO (!v13) (
 some (Sum.inr (false))
 ) (
 again9 (Ki (x_2+1))
 )
 )
 )
 )
 ) (
 some (Sum.inl ())
 )
 )) 0) fun o16=>(
 match o16 with
 |.inl _=>(
 some (true)
 )
 |.inr (r0)=>(
 some r0
 ))
 )

noncomputable def ik(n:Nat)(g:an)(level:Int)(l:List aa):Option (Int):=
 bdO (gj n g level) fun v1=>(
 cdO ((v1:Int)!=0) (
 some (v1)
 ) (
 bdO (aP (α:=List aa×Int) (β:=Sum (List aa) (Int)) n (fun again16 (g_5,x_6)=>(
 cdO (decide (x_6<(l.length:Int))) (
 gdO (inR x_6 l.length) (
 cdO ((((gt l x_6).Points.length:Int):Int)==0) (
 some (Sum.inr (12))
 ) (
 bdO (gy n (gt l x_6)) fun v21=>(
 gdO (decide ((g_5.length+1)*32<=140737488355328)) (
 gdO (decide (g_5.length+1<=4611686018427387904)) (
 again16 (g_5++[v21],Ki (x_6+1))
 )
 )
 )
 )
 )
 ) (
 some (Sum.inl g_5)
 )
 )) ([],0)) fun o25=>(
 match o25 with
 |.inl g_15=>(
 bdO (aW n g_15) fun v28=>(
 gdO (decide (v28.length=g_15.length)) (
 bdO (im n g level) fun v31=>(
 bdO (aG n v28 v31) fun v33=>(
 cdO (!v33) (
 some (12)
 ) (
 some (0)
 )
 )
 )
 )
 )
 )
 |.inr (r0)=>(
 some r0
 ))
 )
 )

def eP(n:Nat)(n':Int):Option (Bool):=
 cdO (decide (n'<(-1048576))) (
 some (true)
 ) (
 some (decide (n'>1048576))
 )

def gR(n:Nat)(g:an):Option (Int):=
 cdO (decide (g.Width<2)) (
 some (2)
 ) (
 cdO (decide (g.Width>64)) (
 some (2)
 ) (
 cdO (decide (g.Height<2)) (
 some (2)
 ) (
 cdO (decide (g.Height>64)) (
 some (2)
 ) (
 cdO (decide (g.Step<2)) (
 some (2)
 ) (
 cdO (decide (g.Step>65536)) (
 some (2)
 ) (
 cdO (((g.Step.tmod 2):Int)!=0) (
 some (2)
 ) (
 bdO (eP n g.X0) fun v8=>(
 cdO v8 (
 some (2)
 ) (
 bdO (eP n g.Y0) fun v11=>(
 cdO v11 (
 some (2)
 ) (
 cdO (((g.Z.length:Int):Int)!=(Ki (g.Width*g.Height))) (
 some (4)
 ) (
 bdO (aP (α:=Int) (β:=Sum (Unit) (Int)) n (fun again22 x_15=>(
 cdO (decide (x_15<(g.Z.length:Int))) (
 gdO (inR x_15 g.Z.length) (
 cdO (((gt g.Z x_15):Int)!=(-2147483648)) (
 bdO (eP n (gt g.Z x_15)) fun v26=>(
 cdO v26 (
 some (Sum.inr (2))
 ) (
 again22 (Ki (x_15+1))
 )
 )
 ) (
 again22 (Ki (x_15+1))
 )
 )
 ) (
 some (Sum.inl ())
 )
 )) 0) fun o29=>(
 match o29 with
 |.inl _=>(
 some (0)
 )
 |.inr (r0)=>(
 some r0
 ))
 )
 )
 )
 )
 )
 )
 )
 )
 )
 )
 )
 )

def fU(n:Nat)(g:an)(level:Int):Option (Int):=
 bdO (gR n g) fun v1=>(
 cdO ((v1:Int)!=0) (
 some (v1)
 ) (
 cdO (((level.tmod 2):Int)==0) (
 some (1)
 ) (
 cdO (decide (level<(-2097153))) (
 some (2)
 ) (
 cdO (decide (level>2097153)) (
 some (2)
 ) (
 some (0)
 )
 )
 )
 )
 )

def fi(n:Nat)(g:an):Option (List (A3 Int)):=
 bdO (aP (α:=List (A3 Int)×Int) (β:=List (A3 Int)) n (fun again76 (l_1,x_2)=>(
 cdO (decide (x_2<(Ki (g.Height-1)))) (
 bdO (aP (α:=List (A3 Int)×Int) (β:=List (A3 Int)) n (fun again113 (l_78,x_79)=>(
 cdO (decide (x_79<(Ki (g.Width-1)))) (
 bdO (some (Ki ((Ki (x_2*g.Width))+x_79))) fun w115=>(
 bdO (some [A3.mk w115 (Ki (w115+1)) (Ki ((Ki (w115+g.Width))+1)),A3.mk w115 (Ki ((Ki (w115+g.Width))+1)) (Ki (w115+g.Width))]) fun w117=>(
 bdO (aP (α:=List (A3 Int)×Int) (β:=List (A3 Int)) n (fun again132 (l_119,x_120)=>(
 cdO (decide (x_120<2)) (
 gdO (inR x_120 w117.length) (
 gdO (inR (gt w117 x_120).e0 g.Z.length) (
 cdO (((gt g.Z (gt w117 x_120).e0):Int)!=(-2147483648)) (
 gdO (inR (gt w117 x_120).e1 g.Z.length) (
 cdO (((gt g.Z (gt w117 x_120).e1):Int)!=(-2147483648)) (
 gdO (inR (gt w117 x_120).e2 g.Z.length) (
 cdO (((gt g.Z (gt w117 x_120).e2):Int)!=(-2147483648)) (
 gdO (decide ((l_119.length+1)*24<=140737488355328)) (
 gdO (decide (l_119.length+1<=4611686018427387904)) (
 again132 (l_119++[(gt w117 x_120)],Ki (x_120+1))
 )
 )
 ) (
 again132 (l_119,Ki (x_120+1))
 )
 )
 ) (
 again132 (l_119,Ki (x_120+1))
 )
 )
 ) (
 again132 (l_119,Ki (x_120+1))
 )
 )
 )
 ) (
 some (l_119)
 )
 )) (l_78,0)) fun l_131=>(
 again113 (l_131,Ki (x_79+1))
 )
 )
 )
 ) (
 some (l_78)
 )
 )) (l_1,0)) fun l_112=>(
 again76 (l_112,Ki (x_2+1))
 )
 ) (
 some (l_1)
 )
 )) ([],0)) fun l_75=>(
 some (l_75)
 )

def bL(n:Nat)(g:an)(level:Int)(k:Int):Option (Bool):=
 gdO (inR k g.Z.length) (
 some (decide ((Ki (2*(gt g.Z k)))>level))
 )

def gi(n:Nat)(a:Int)(b:Int):Option (A2 Int):=
 some (A2.mk (mn a b) (mx a b))

def fu(n:Nat)(g:an)(level:Int):Option (List (A2 (A2 Int))):=
 bdO (fi n g) fun v1=>(
 bdO (aP (α:=List (A2 (A2 Int))×Int) (β:=List (A2 (A2 Int))) n (fun again100 (l_3,x_4)=>(
 cdO (decide (x_4<(v1.length:Int))) (
 gdO (inR x_4 v1.length) (
 bdO (aP (α:=Int×Int×Int×Int×Bool×Int) (β:=Int×Int×Int×Int×Bool) n (fun again151 (s_103,s_104,s_105,s_106,f_107,x_108)=>(
 cdO (decide (x_108<3)) (
 gdO (inR x_108 3) (
 gdO (inR ((Ki (x_108+1)).tmod 3) 3) (
 bdO (some (A3.get (gt v1 x_4) ((Ki (x_108+1)).tmod 3))) fun w155=>(
 bdO (bL n g level (A3.get (gt v1 x_4) x_108)) fun v157=>(
 cdO v157 (
 bdO (bL n g level w155) fun v160=>(
 cdO (!v160) (
 bdO (gi n (A3.get (gt v1 x_4) x_108) w155) fun v163=>(
 bdO (bL n g level (A3.get (gt v1 x_4) x_108)) fun v165=>(
 cdO (!v165) (
 bdO (bL n g level w155) fun v168=>(
 cdO v168 (
 bdO (gi n (A3.get (gt v1 x_4) x_108) w155) fun v171=>(
 again151 (v163.e0,v163.e1,v171.e0,v171.e1,true,Ki (x_108+1))
 )
 ) (
 again151 (v163.e0,v163.e1,s_105,s_106,true,Ki (x_108+1))
 )
 )
 ) (
 again151 (v163.e0,v163.e1,s_105,s_106,true,Ki (x_108+1))
 )
 )
 )
 ) (
 bdO (bL n g level (A3.get (gt v1 x_4) x_108)) fun v173=>(
 cdO (!v173) (
 bdO (bL n g level w155) fun v176=>(
 cdO v176 (
 bdO (gi n (A3.get (gt v1 x_4) x_108) w155) fun v179=>(
 again151 (s_103,s_104,v179.e0,v179.e1,f_107,Ki (x_108+1))
 )
 ) (
 again151 (s_103,s_104,s_105,s_106,f_107,Ki (x_108+1))
 )
 )
 ) (
 again151 (s_103,s_104,s_105,s_106,f_107,Ki (x_108+1))
 )
 )
 )
 )
 ) (
 bdO (bL n g level (A3.get (gt v1 x_4) x_108)) fun v181=>(
 cdO (!v181) (
 bdO (bL n g level w155) fun v184=>(
 cdO v184 (
 bdO (gi n (A3.get (gt v1 x_4) x_108) w155) fun v187=>(
 again151 (s_103,s_104,v187.e0,v187.e1,f_107,Ki (x_108+1))
 )
 ) (
 again151 (s_103,s_104,s_105,s_106,f_107,Ki (x_108+1))
 )
 )
 ) (
 again151 (s_103,s_104,s_105,s_106,f_107,Ki (x_108+1))
 )
 )
 )
 )
 )
 )
 )
 ) (
 some ((s_103,s_104,s_105,s_106,f_107))
 )
 )) (0,0,0,0,false,0)) fun o189=>(
 match o189 with
 |(s_146,s_147,s_148,s_149,f_150)=>(
 cdO f_150 (
 gdO (decide ((l_3.length+1)*32<=140737488355328)) (
 gdO (decide (l_3.length+1<=4611686018427387904)) (
 again100 (l_3++[A2.mk (A2.mk s_146 s_147) (A2.mk s_148 s_149)],Ki (x_4+1))
 )
 )
 ) (
 again100 (l_3,Ki (x_4+1))
 )
 ))
 )
 ) (
 some (l_3)
 )
 )) ([],0)) fun l_99=>(
 some (l_99)
 )
 )

def bX(n:Nat)(g:an)(level:Int)(e:A2 Int):Option (ah):=
 gdO (inR e.e0 g.Z.length) (
 gdO (inR e.e1 g.Z.length) (
 bdO (iy n (Ki (level-(Ki (2*(gt g.Z e.e0))))) (Ki (2*(Ki ((gt g.Z e.e1)-(gt g.Z e.e0)))))) fun v3=>(
 some (ah.mk e.e0 e.e1 v3.1)
 )
 )
 )

def dj(n:Nat)(e:A2 Int)(closed:Bool)(p:List (A2 Int×Bool))(p':List (A2 Int×A2 Int))(p'':Int)(GQ:Int)(DN:Int)(wK:Int)(vq:Int)(xW:List Int)(oG:Int)(lS:List aa):Option (List (A2 Int×Bool)×List aa):=
 bdO (aP (α:=List (A2 Int×Bool)×Int×Int×List ah×Bool) (β:=List (A2 Int×Bool)×List ah) n (fun again41 (p_28,e_29,e_30,c_31,o_32)=>(
 cdO o_32 (
 cdO (!(getM false p_28 (A2.mk e_29 e_30))) (
 bdO (bX n (an.mk p'' GQ DN wK vq xW) oG (A2.mk e_29 e_30)) fun v44=>(
 gdO (decide ((c_31.length+1)*80<=140737488355328)) (
 gdO (decide (c_31.length+1<=4611686018427387904)) (
 again41 (dL p_28 (A2.mk e_29 e_30) true,(getM (A2.mk 0 0:A2 Int) p' (A2.mk e_29 e_30)).e0,(getM (A2.mk 0 0:A2 Int) p' (A2.mk e_29 e_30)).e1,c_31++[v44],de p' (A2.mk e_29 e_30))
 )
 )
 )
 ) (
 some ((p_28,c_31))
 )
 ) (
 some ((p_28,c_31))
 )
 )) (p,e.e0,e.e1,[],true)) fun o48=>(
 match o48 with
 |(p_39,c_40)=>(
 gdO (decide ((lS.length+1)*32<=140737488355328)) (
 gdO (decide (lS.length+1<=4611686018427387904)) (
 some ((p_39,lS++[aa.mk closed c_40]))
 )
 )
 ))

def bM(n:Nat)(c:aa):Option (A2 Int):=
 gdO (inR 0 c.Points.length) (
 some (A2.mk (gt c.Points 0).A (gt c.Points 0).B)
 )

def dV(n:Nat)(a:A2 Int)(b:A2 Int):Option (Bool):=
 cdO (decide (a.e0<b.e0)) (
 some (true)
 ) (
 cdO ((a.e0:Int)==b.e0) (
 some (decide (a.e1<b.e1))
 ) (
 some (false)
 )
 )

def fF(n:Nat)(g:an)(level:Int):Option (List aa):=
 bdO (fu n g level) fun v1=>(
 bdO (aP (α:=List (A2 Int×A2 Int)×List (A2 Int×Bool)×Int) (β:=List (A2 Int×A2 Int)×List (A2 Int×Bool)) n (fun again10 (n_3,b_4,x_5)=>(
 cdO (decide (x_5<(v1.length:Int))) (
 gdO (inR x_5 v1.length) (
 again10 (dL n_3 (gt v1 x_5).e0 (gt v1 x_5).e1,dL b_4 (gt v1 x_5).e1 true,Ki (x_5+1))
 )
 ) (
 some ((n_3,b_4))
 )
 )) (([]:List (A2 Int×A2 Int)),([]:List (A2 Int×Bool)),0)) fun o13=>(
 match o13 with
 |(n_8,b_9)=>(
 bdO (aP (α:=List (A2 Int×Bool)×List aa×Int) (β:=List (A2 Int×Bool)×List aa) n (fun again26 (d_16,a_17,x_18)=>(
 cdO (decide (x_18<(v1.length:Int))) (
 gdO (inR x_18 v1.length) (
 cdO (!(getM false b_9 (gt v1 x_18).e0)) (
 bdO (dj n (gt v1 x_18).e0 false d_16 n_8 g.X0 g.Y0 g.Step g.Width g.Height g.Z level a_17) fun v30=>(
 again26 (v30.1,v30.2,Ki (x_18+1))
 )
 ) (
 again26 (d_16,a_17,Ki (x_18+1))
 )
 )
 ) (
 some ((d_16,a_17))
 )
 )) (([]:List (A2 Int×Bool)),[],0)) fun o32=>(
 match o32 with
 |(d_24,a_25)=>(
 bdO (aP (α:=List (A2 Int×Bool)×List aa×Int) (β:=List aa) n (fun again59 (d_35,a_36,x_37)=>(
 cdO (decide (x_37<(g.Z.length:Int))) (
 bdO (aP (α:=List (A2 Int×Bool)×List aa×Int) (β:=List (A2 Int×Bool)×List aa) n (fun again71 (d_61,a_62,b_63)=>(
 cdO (decide (b_63<(g.Z.length:Int))) (
 cdO (de n_8 (A2.mk x_37 b_63)) (
 cdO (!(getM false d_61 (A2.mk x_37 b_63))) (
 bdO (dj n (A2.mk x_37 b_63) true d_61 n_8 g.X0 g.Y0 g.Step g.Width g.Height g.Z level a_62) fun v75=>(
 again71 (v75.1,v75.2,Ki (b_63+1))
 )
 ) (
 again71 (d_61,a_62,Ki (b_63+1))
 )
 ) (
 again71 (d_61,a_62,Ki (b_63+1))
 )
 ) (
 some ((d_61,a_62))
 )
 )) (d_35,a_36,Ki (x_37+1))) fun o77=>(
 match o77 with
 |(d_69,a_70)=>(
 again59 (d_69,a_70,Ki (x_37+1))
 ))
 ) (
 some (a_36)
 )
 )) (d_24,a_25,0)) fun a_58=>(
 bdO (aP (α:=List aa×Int) (β:=List aa) n (fun again114 (a_83,x_84)=>(
 cdO (decide (x_84<(a_58.length:Int))) (
 bdO (aP (α:=List aa×Int) (β:=List aa) n (fun again129 (a_116,j_117)=>(
 cdO (decide (j_117>0)) (
 gdO (inR j_117 a_116.length) (
 bdO (bM n (gt a_116 j_117)) fun v132=>(
 gdO (inR (Ki (j_117-1)) a_116.length) (
 bdO (bM n (gt a_116 (Ki (j_117-1)))) fun v135=>(
 bdO (dV n v132 v135) fun v137=>(
 cdO v137 (
 again129 ((a_116.set j_117.toNat (gt a_116 (Ki (j_117-1)))).set (Ki (j_117-1)).toNat (gt a_116 j_117),Ki (j_117-1))
 ) (
 some (a_116)
 )
 )
 )
 )
 )
 )
 ) (
 some (a_116)
 )
 )) (a_83,x_84)) fun a_128=>(
 again114 (a_128,Ki (x_84+1))
 )
 ) (
 some (a_83)
 )
 )) (a_58,0)) fun a_113=>(
 some (a_113)
 )
 )
 ))
 ))
 )

def cX(n:Nat)(a:aa)(b:aa):Option (Bool):=
 cdO (a.Closed !=b.Closed) (
 some (false)
 ) (
 cdO (((a.Points.length:Int):Int)!=(b.Points.length:Int)) (
 some (false)
 ) (
 bdO (aP (α:=Int) (β:=Sum (Unit) (Bool)) n (fun again12 x_3=>(
 cdO (decide (x_3<(a.Points.length:Int))) (
 gdO (inR x_3 a.Points.length) (
 gdO (inR x_3 b.Points.length) (
 cdO (((gt a.Points x_3).A:Int)!=(gt b.Points x_3).A) (
 some (Sum.inr (false))
 ) (
 cdO (((gt a.Points x_3).B:Int)!=(gt b.Points x_3).B) (
 some (Sum.inr (false))
 ) (
 bdO (ga n (gt a.Points x_3).At (gt b.Points x_3).At) fun v18=>(
 cdO (!v18) (
 some (Sum.inr (false))
 ) (
 again12 (Ki (x_3+1))
 )
 )
 )
 )
 )
 )
 ) (
 some (Sum.inl ())
 )
 )) 0) fun o21=>(
 match o21 with
 |.inl _=>(
 some (true)
 )
 |.inr (r0)=>(
 some r0
 ))
 )
 )

def gx(n:Nat)(a:aa)(b:aa):Option (Bool):=
 cdO (!a.Closed) (
 bdO (cX n a b) fun v2=>(
 some (v2)
 )
 ) (
 cdO (((a.Points.length:Int):Int)==0) (
 bdO (cX n a b) fun v5=>(
 some (v5)
 )
 ) (
 bdO (aP (α:=Int) (β:=Sum (Unit) (Bool)) n (fun again18 x_7=>(
 cdO (decide (x_7<(a.Points.length:Int))) (
 gdO (inS x_7 (a.Points.length:Int) a.Points.length) (
 gdO (decide (((a.Points.drop x_7.toNat).take ((a.Points.length:Int).toNat-x_7.toNat)).length*80<=140737488355328)) (
 gdO (decide (((a.Points.drop x_7.toNat).take ((a.Points.length:Int).toNat-x_7.toNat)).length<=4611686018427387904)) (
 gdO (inS 0 x_7 a.Points.length) (
 gdO (decide ((((a.Points.drop x_7.toNat).take ((a.Points.length:Int).toNat-x_7.toNat)).length+((a.Points.drop (0:Int).toNat).take (x_7.toNat-(0:Int).toNat)).length)*80<=140737488355328)) (
 gdO (decide (((a.Points.drop x_7.toNat).take ((a.Points.length:Int).toNat-x_7.toNat)).length+((a.Points.drop (0:Int).toNat).take (x_7.toNat-(0:Int).toNat)).length<=4611686018427387904)) (
 bdO (cX n (aa.mk true (((a.Points.drop x_7.toNat).take ((a.Points.length:Int).toNat-x_7.toNat))++((a.Points.drop (0:Int).toNat).take (x_7.toNat-(0:Int).toNat)))) b) fun v26=>(
 cdO v26 (
 some (Sum.inr (true))
 ) (
 again18 (Ki (x_7+1))
 )
 )
 )
 )
 )
 )
 )
 )
 ) (
 some (Sum.inl ())
 )
 )) 0) fun o29=>(
 match o29 with
 |.inl _=>(
 some (false)
 )
 |.inr (r0)=>(
 some r0
 ))
 )
 )

def gV(n:Nat)(l:List aa)(want:List aa):Option (Bool):=
 cdO (((l.length:Int):Int)!=(want.length:Int)) (
 some (false)
 ) (
 gdO (decide (0<=(want.length:Int))) (
 gdO (decide ((1:Int)*(want.length:Int)<=281474976710656)) (
 gdO (decide ((want.length:Int)<=9223372036854775807)) (
 bdO (aP (α:=List Bool×Int) (β:=Sum (Unit) (Bool)) n (fun again35 (u_5,x_6)=>(
 cdO (decide (x_6<(l.length:Int))) (
 gdO (inR x_6 l.length) (
 bdO (aP (α:=List Bool×Bool×Int) (β:=List Bool×Bool) n (fun again51 (u_38,o_39,x_40)=>(
 cdO (decide (x_40<(want.length:Int))) (
 gdO (inR x_40 want.length) (
 cdO (!o_39) (
 gdO (inR x_40 u_38.length) (
 cdO (!(gt u_38 x_40)) (
 bdO (gx n (gt l x_6) (gt want x_40)) fun v57=>(
 cdO v57 (
 again51 (u_38.set x_40.toNat true,true,Ki (x_40+1))
 ) (
 again51 (u_38,o_39,Ki (x_40+1))
 )
 )
 ) (
 again51 (u_38,o_39,Ki (x_40+1))
 )
 )
 ) (
 again51 (u_38,o_39,Ki (x_40+1))
 )
 )
 ) (
 some ((u_38,o_39))
 )
 )) (u_5,false,0)) fun o60=>(
 match o60 with
 |(u_49,o_50)=>(
 cdO (!o_50) (
 some (Sum.inr (false))
 ) (
 again35 (u_49,Ki (x_6+1))
 )
 ))
 )
 ) (
 some (Sum.inl ())
 )
 )) (List.replicate (want.length:Int).toNat false,0)) fun o64=>(
 match o64 with
 |.inl _=>(
 some (true)
 )
 |.inr (r0)=>(
 some r0
 ))
 )
 )
 )
 )

noncomputable def cY(n:Nat)(g:an)(level:Int)(l:List aa):Option (Bool):=
 bdO (lB n) fun v1=>(
 cdO (!v1) (
 some (false)
 ) (
 bdO (mj n g 40) fun v4=>(
 cdO (!v4) (
 some (true)
 ) (
 cdO (decide ((l.length:Int)>20)) (
 some (true)
 ) (
 bdO (aP (α:=Int) (β:=Sum (Unit) (Bool)) n (fun again27 x_8=>(
 cdO (decide (x_8<(l.length:Int))) (
 gdO (inR x_8 l.length) (
 cdO (decide (((gt l x_8).Points.length:Int)>80)) (
 some (Sum.inr (true))
 ) (
 bdO (aP (α:=Int) (β:=Sum (Unit) (Bool)) n (fun again37 x_31=>(
 cdO (decide (x_31<((gt l x_8).Points.length:Int))) (
 gdO (inR x_31 (gt l x_8).Points.length) (
 bdO (gB n (gt (gt l x_8).Points x_31).At) fun v40=>(
 cdO (decide (v40>16)) (
 some (Sum.inr (true))
 ) (
 again37 (Ki (x_31+1))
 )
 )
 )
 ) (
 some (Sum.inl ())
 )
 )) 0) fun o43=>(
 match o43 with
 |.inl _=>(
 again27 (Ki (x_8+1))
 )
 |.inr (r0)=>(
 some (Sum.inr (r0))
 ))
 )
 )
 ) (
 some (Sum.inl ())
 )
 )) 0) fun o46=>(
 match o46 with
 |.inl _=>(
 bdO (ik n g level l) fun v49=>(
 bdO (fU n g level) fun v51=>(
 cdO ((v51:Int)!=0) (
 some ((v49:Int)==v51)
 ) (
 bdO (fF n g level) fun v54=>(
 bdO (gV n l v54) fun v56=>(
 cdO v56 (
 some ((v49:Int)==0)
 ) (
 some ((v49:Int)==12)
 )
 )
 )
 )
 )
 )
 )
 |.inr (r0)=>(
 some r0
 ))
 )
 )
 )
 )
 )
abbrev iCu:=iC .u32
abbrev wFu(n:Int):Int:=ae .u64 n
abbrev zN2:List AV:=[aB false,nS,aB false,nS]
abbrev zN3:List AV:=[aB false,nS,aB false,nS,aB false,nS]
abbrev zN4:List AV:=[aB false,nS,aB false,nS,aB false,nS,aB false,nS]
end Go.L