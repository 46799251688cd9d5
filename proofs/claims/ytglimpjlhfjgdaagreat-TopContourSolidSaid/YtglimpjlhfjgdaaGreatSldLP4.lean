
import Derived.Test.YtglimpjlhfjgdaaGreatSldLP3
import Derived.Test.YtglimpjlhfjgdaaGreatL0Slds
import Derived.Test.YtglimpjlhfjgdaaGreatScESlds
import Derived.Test.YtglimpjlhfjgdaaGreatSldL23j
import Derived.Test.YtglimpjlhfjgdaaGreatSortCSlds
import Derived.Test.YtglimpjlhfjgdaaGreatSortKSlds
import Derived.Test.YtglimpjlhfjgdaaGreatChecked
import Derived.KernelRfl
set_option linter.all false
set_option maxRecDepth 100000
set_option maxHeartbeats 4000000
namespace Go.L
open Go Go.Eng Go.Proofs
theorem ky(n:Nat)(g:aj)(k:Int)(up:Int)(r:Bool)(hr:cM n g k up=some r):aT Tryz.prog 4 [.agg (aj.c g),aU8 k,aU8 up] (aB r):=by
 unfold cM at hr;refine aT.bd G Tryz.func4 [.tmp 6] ?_;unfold Tryz.f4;simp only[gS];refine .seq (.r5 G [1,2] [(3,.hp 0 0)] [.own (aj.c g)] (.seq (.seq ?_)));obtain⟨v1,mN,hr⟩:=bd hr;refine .g1 G (ok0 (oc n v1 mN)) (.ca cf0 (.mu 1 (.done (.nh [1,2,3,27] [.own (aj.c g)] ?_))));refine .cd hr ?_ ?_<;>intro tt hr
 ·refine .seq (.ru G (.ret ?_));obtain rfl:=oi hr;exact aO.r1 [aB false]
 refine .skip (.seq (.seq ?_));rcases bT (decide ((g.Z.length:Int)>25))with A|A
 ·replace hr:=cQ A hr;refine .r0 G (.mu 3 (.p0 (v:=aB true) (eB A) (.mu 11 (.done (.nh [1,2,3,42] [.own (aj.c g)] (.cT kRf (.seq (.ru G (.ret ?_)))))))));obtain rfl:=oi hr;exact aO.r1 [aB true]
 replace hr:=cR A hr;rcases bT (((g.Z.length:Int):Int)==0)with C|C
 ·replace hr:=cQ C hr;refine .r0 G (.mu 3 (.p0 (v:=aB false) (eB A) (.mu 4 (.pure (v:=aB true) kRf (eB C) (.mu 6 (.done (.nh [1,2,3,42] [.own (aj.c g)] (.cT kRf (.seq (.ru G (.ret ?_)))))))))));obtain rfl:=oi hr;exact aO.r1 [aB true]
 replace hr:=cR C hr;obtain⟨v6,ny,hr⟩:=bd hr;refine .g1 G (ok0 (jc n g v6 ny)) (.mu 3 (.p0 (v:=aB false) (eB A) (.mu 4 (.pure (v:=aB false) kRf (eB C) (.mu 3 (.ca cf0 (.mu 2 (.done (.nh [1,2,3,42] [.own (aj.c g)] ?_)))))))));refine .cd hr ?_ ?_<;>intro tw hr
 ·refine .seq (.ru G (.ret ?_));obtain rfl:=oi hr;exact aO.r1 [aB true]
 refine .skip (.seq ?_);obtain⟨B,T,hr⟩:=bd hr;refine .g1 G (ok0 (kj n g.Z B T)) (.mu 2 (.ca cf0 (.mu 3 (.done (.nh [1,2,3,7] [.own (aj.c g)] (.seq (.seq ?_)))))));rcases bT (decide ((MR (B-1))<(-10000)))with s|s
 ·replace hr:=cQ s hr;refine .r0 G (.mu 1 (.p0 (v:=aB true) (eB s) (.mu 6 (.done (.nh [1,2,3,7,54] [.own (aj.c g)] (.cT kRf (.seq (.ru G (.ret ?_)))))))));obtain rfl:=oi hr;exact aO.r1 [aB true]
 replace hr:=cR s hr;obtain⟨nY,U,hr⟩:=bd hr;refine .g1 G (ok0 (pR n g.Z nY U)) (.mu 1 (.p0 (v:=aB false) (eB s) (.mu 3 (.ca cf0 (.mu 2 (.done (.nh [1,2,3,7,54] [.own (aj.c g)] ?_)))))));refine .cd hr ?_ ?_<;>intro pT hr
 ·refine .seq (.ru G (.ret ?_));obtain rfl:=oi hr;exact aO.r1 [aB true]
 refine .skip (.seq (.r4 G [1,3,7] [(8,ae (MR ((MR ((MR (B-1))+1))+(MR up))))] (.seq ?_)));obtain⟨V,hr⟩:=gd hr;refine .r0 G (.mu 5 (.p0 (v:=ae ((MR k).tmod (g.Z.length:Int))) (lH (x:=MR k) (y:=(g.Z.length:Int)) kRf kRf V) (.mu 1 (.done (.nh [3,7,8,9] [.own (aj.c g)] (.seq (.seq (.r4 G [3,7,8,9] [(67,ch g.Z),(68,ae (g.Z.length:Int)),(69,ae 0)] (.block ?_)))))))));replace hr:=bd hr;obtain⟨W,D,hr⟩:=hr;refine .aQ (σ:=fun z0=>match z0 with|a=>⟨mkS 215 0 [(3,.hp 0 0),(7,ae (MR (B-1))),(8,ae (MR ((MR ((MR (B-1))+1))+(MR up)))),(9,ae ((MR k).tmod (g.Z.length:Int))),(67,ch g.Z),(68,ae (g.Z.length:Int)),(69,ae a)],[.own (aj.c g)]⟩) (Q:=fun x st'=>match (generalizing:=false) W with|.inl _=>x=.exit 0/\Wk 0 st' ⟨mkS 215 0 [(3,.hp 0 0),(7,ae (MR (B-1))),(8,ae (MR ((MR ((MR (B-1))+1))+(MR up)))),(9,ae ((MR k).tmod (g.Z.length:Int)))],[.own (aj.c g)]⟩|.inr (r0)=>x=.ret/\aO Tryz.prog [.tmp 6] (aB r0) .ret st') D ((Wk.gc [3,7,8,9,67,68,69] [(0,true)] rfl trivial).to) ?_ ?_
 ·clear hr;rintro m a hr;refine CQ.sh ?_;refine .seq (.r4 G [3,7,8,9,67,68,69] [(70,aB (decide (a<(g.Z.length:Int))))] (.seq ?_));refine .cd hr ?_ ?_<;>intro rl hr
  ·refine .skip (.seq (.block (.seq ?_)));obtain⟨J,hr⟩:=gd hr;refine .r0 G (.mu 1 (.p0 (v:=.pp (g.Z.flatMap (iC .i64)) (a.toNat*1)) (tr (aD J)) (.p0 (v:=ae (gt g.Z a)) (tr (aR (aS (aP .i64) (aM J) z1 (by omega:a.toNat*1=a.toNat*1+0) kRf))) (.mu 2 (.done (.nh [3,7,8,9,10,11,67,68,69] [.own (aj.c g)] (.seq ?_)))))));obtain⟨M,hr⟩:=gd hr;refine .fb G bV (.mu 3 (.pk (v:=ae (a.tmod g.Width)) (lH (x:=a) (y:=g.Width) kRf kRf M) (.mu 3 (.pk (v:=ae (MR (a.tdiv g.Width))) (qt (x:=a) (y:=g.Width) kRf kRf M) (.mu 2 ?_)))));refine .done (kRa ?_);refine .nh [3,7,8,9,11,12,13,67,68,69] [.own (aj.c g)] (.seq ?_);rcases bT (((a.tmod g.Width):Int)==0)with e|e
   ·replace hr:=cQ e hr;refine .r0 G (.mu 1 (.p0 (v:=aB true) (eB e) (.mu 23 (.done (.nh [3,7,8,9,67,68,69,106] [.own (aj.c g)] ?_)))));refine .cd hr ?_ ?_<;>intro rm hr
    ·refine .seq (.ru G (.ret ?_));obtain rfl:=oi hr;exact⟨rfl,aO.ret (vs:=[aB true]) kRf (Sn.pure rfl)⟩
    refine .skip (.pop (.ru G ?_));exact aF (MR (a+1)) hr ((Wk.gc [3,7,8,9,67,68,69] [(0,true)] rfl trivial).to)
   replace hr:=cR e hr;rcases bT (((MR (a.tdiv g.Width)):Int)==0)with h|h
   ·replace hr:=cQ h hr;refine .r0 G (.mu 1 (.p0 (v:=aB false) (eB e) (.mu 2 (.pure (v:=aB true) kRf (eB h) (.mu 20 (.done (.nh [3,7,8,9,67,68,69,106] [.own (aj.c g)] ?_)))))));refine .cd hr ?_ ?_<;>intro sA hr
    ·refine .seq (.ru G (.ret ?_));obtain rfl:=oi hr;exact⟨rfl,aO.ret (vs:=[aB true]) kRf (Sn.pure rfl)⟩
    refine .skip (.pop (.ru G ?_));exact aF (MR (a+1)) hr ((Wk.gc [3,7,8,9,67,68,69] [(0,true)] rfl trivial).to)
   replace hr:=cR h hr;rcases bT (((a.tmod g.Width):Int)==(MR (g.Width-1)))with p|p
   ·replace hr:=cQ p hr;refine .r0 G (.mu 1 (.p0 (v:=aB false) (eB e) (.mu 2 (.pure (v:=aB false) kRf (eB h) (.mu 6 (.pure (v:=aB true) kRf (eB p) (.mu 13 (.done (.nh [3,7,8,9,67,68,69,106] [.own (aj.c g)] ?_)))))))));refine .cd hr ?_ ?_<;>intro nr hr
    ·refine .seq (.ru G (.ret ?_));obtain rfl:=oi hr;exact⟨rfl,aO.ret (vs:=[aB true]) kRf (Sn.pure rfl)⟩
    refine .skip (.pop (.ru G ?_));exact aF (MR (a+1)) hr ((Wk.gc [3,7,8,9,67,68,69] [(0,true)] rfl trivial).to)
   replace hr:=cR p hr;rcases bT (((MR (a.tdiv g.Width)):Int)==(MR (g.Height-1)))with t|t
   ·replace hr:=cQ t hr;refine .r0 G (.mu 1 (.p0 (v:=aB false) (eB e) (.mu 2 (.pure (v:=aB false) kRf (eB h) (.mu 6 (.pure (v:=aB false) kRf (eB p) (.mu 6 (.pure (v:=aB true) kRf (eB t) (.mu 6 (.done (.nh [3,7,8,9,67,68,69,106] [.own (aj.c g)] ?_)))))))))));refine .cd hr ?_ ?_<;>intro pD hr
    ·refine .seq (.ru G (.ret ?_));obtain rfl:=oi hr;exact⟨rfl,aO.ret (vs:=[aB true]) kRf (Sn.pure rfl)⟩
    refine .skip (.pop (.ru G ?_));exact aF (MR (a+1)) hr ((Wk.gc [3,7,8,9,67,68,69] [(0,true)] rfl trivial).to)
   replace hr:=cR t hr;refine .r0 G (.mu 1 (.p0 (v:=aB false) (eB e) (.mu 2 (.pure (v:=aB false) kRf (eB h) (.mu 6 (.pure (v:=aB false) kRf (eB p) (.mu 6 (.pure (v:=aB false) kRf (eB t) (.mu 6 (.done (.nh [3,7,8,9,67,68,69,106] [.own (aj.c g)] (.cF kRf (.skip (.pop (.ru G ?_)))))))))))))));exact aF (MR (a+1)) hr ((Wk.gc [3,7,8,9,67,68,69] [(0,true)] rfl trivial).to)
  refine .leave rfl ?_;obtain rfl:=oi hr;exact⟨rfl,((Wk.gc [3,7,8,9] [(0,true)] rfl trivial).to)⟩
 rcases W with⟨⟩|r0
 ·rintro x st' i;clear D;obtain⟨rfl,i⟩:=i;refine aX _ rfl (.wk i (.seq ?_));obtain⟨N,hr⟩:=gd hr;refine .fb G bV (.mu 3 (.pk (v:=ae (((MR k).tmod (g.Z.length:Int)).tmod g.Width)) (lH (x:=(MR k).tmod (g.Z.length:Int)) (y:=g.Width) kRf kRf N) (.mu 3 (.pk (v:=ae (MR (((MR k).tmod (g.Z.length:Int)).tdiv g.Width))) (qt (x:=(MR k).tmod (g.Z.length:Int)) (y:=g.Width) kRf kRf N) (.mu 2 ?_)))));refine .done (kRa ?_);refine .nh [3,7,8,9,14,15] [.own (aj.c g)] (.seq (.seq ?_));rcases bT (((((MR k).tmod (g.Z.length:Int)).tmod g.Width):Int)==0)with f|f
  ·replace hr:=cQ f hr;refine .r0 G (.mu 1 (.p0 (v:=aB true) (eB f) (.mu 27 (.done (.nh [3,7,8,14,15,144] [.own (aj.c g)] (.cT kRf (.seq (.ru G (.ret ?_)))))))));obtain rfl:=oi hr;exact aO.r1 [aB true]
  replace hr:=cR f hr;rcases bT (((MR (((MR k).tmod (g.Z.length:Int)).tdiv g.Width)):Int)==0)with j|j
  ·replace hr:=cQ j hr;refine .r0 G (.mu 1 (.p0 (v:=aB false) (eB f) (.mu 2 (.pure (v:=aB true) kRf (eB j) (.mu 24 (.done (.nh [3,7,8,14,15,144] [.own (aj.c g)] (.cT kRf (.seq (.ru G (.ret ?_)))))))))));obtain rfl:=oi hr;exact aO.r1 [aB true]
  replace hr:=cR j hr;rcases bT (((((MR k).tmod (g.Z.length:Int)).tmod g.Width):Int)==(MR (g.Width-1)))with q|q
  ·replace hr:=cQ q hr;refine .r0 G (.mu 1 (.p0 (v:=aB false) (eB f) (.mu 2 (.pure (v:=aB false) kRf (eB j) (.mu 6 (.pure (v:=aB true) kRf (eB q) (.mu 17 (.done (.nh [3,7,8,14,15,144] [.own (aj.c g)] (.cT kRf (.seq (.ru G (.ret ?_)))))))))))));obtain rfl:=oi hr;exact aO.r1 [aB true]
  replace hr:=cR q hr;rcases bT (((MR (((MR k).tmod (g.Z.length:Int)).tdiv g.Width)):Int)==(MR (g.Height-1)))with u|u
  ·replace hr:=cQ u hr;refine .r0 G (.mu 1 (.p0 (v:=aB false) (eB f) (.mu 2 (.pure (v:=aB false) kRf (eB j) (.mu 6 (.pure (v:=aB false) kRf (eB q) (.mu 6 (.pure (v:=aB true) kRf (eB u) (.mu 10 (.done (.nh [3,7,8,14,15,144] [.own (aj.c g)] (.cT kRf (.seq (.ru G (.ret ?_)))))))))))))));obtain rfl:=oi hr;exact aO.r1 [aB true]
  replace hr:=cR u hr;obtain⟨O,hr⟩:=gd hr;refine .r0 G (.mu 1 (.p0 (v:=aB false) (eB f) (.mu 2 (.pure (v:=aB false) kRf (eB j) (.mu 6 (.pure (v:=aB false) kRf (eB q) (.mu 6 (.pure (v:=aB false) kRf (eB u) (.mu 5 (.pure (v:=.pp (g.Z.flatMap (iC .i64)) (((MR k).tmod (g.Z.length:Int)).toNat*1)) kRf (tr (aD O)) (.pure (v:=ae (gt g.Z ((MR k).tmod (g.Z.length:Int)))) kRf (tr (aR (aS (aP .i64) (aM O) z1 (by omega:((MR k).tmod (g.Z.length:Int)).toNat*1=((MR k).tmod (g.Z.length:Int)).toNat*1+0) kRf))) (.mu 3 (.done (.nh [3,7,8,14,15,144] [.own (aj.c g)] ?_))))))))))))));refine .cd hr ?_ ?_<;>intro qi hr
  ·refine .seq (.ru G (.ret ?_));obtain rfl:=oi hr;exact aO.r1 [aB true]
  refine .skip (.seq ?_);obtain⟨d,X,hr⟩:=bd hr;refine .g1 G (ok0 (uh n g (MR ((MR (2*(MR ((MR ((MR (B-1))+1))+(MR up)))))-1)) d X)) (.mu 4 (.ca cf0 (.mu 5 (.done (.nh [3,7,8,14,15,16,17] [.own (aj.c g)] (.seq ?_))))));obtain⟨o,Y,hr⟩:=bd hr;refine .g1 G (ok0 (pI n g (MR (B-1)) o Y)) (.mu 2 (.ca cf0 (.mu 6 (.done (.nh [3,8,14,15,16,17,18,19] [.own (aj.c g),.own (az.c o.1)] (.seq (.seq ?_)))))));rcases bT ((d.2:Int)!=0)with w|w
  ·replace hr:=cQ w hr;refine .r0 G (.mu 1 (.p0 (v:=aB true) (eB w) (.mu 4 (.done (.nh [3,8,14,15,16,18,164] [.own (aj.c g),.own (az.c o.1)] (.cT kRf (.seq (.ru G (.ret ?_)))))))));obtain rfl:=oi hr;exact aO.r1 [aB false]
  replace hr:=cR w hr;refine .r0 G (.mu 1 (.p0 (v:=aB false) (eB w) (.mu 4 (.done (.nh [3,8,14,15,16,18,164] [.own (aj.c g),.own (az.c o.1)] ?_)))));refine .cd hr ?_ ?_<;>intro rH hr
  ·refine .seq (.ru G (.ret ?_));obtain rfl:=oi hr;exact aO.r1 [aB false]
  refine .skip (.seq (.r4 G [3,8,14,15,16,18] [(20,ae 0)] (.seq (.seq (.r4 G [3,8,14,15,18,20] [(165,slT ak.c d.1),(166,ae (d.1.length:Int)),(167,ae 0)] (.block ?_))))));replace hr:=bd hr;obtain⟨jR,E,hr⟩:=hr;refine .aQ (σ:=fun z0=>match z0 with|(F,b)=>⟨mkS 215 0 [(3,.hp 0 0),(8,ae (MR ((MR ((MR (B-1))+1))+(MR up)))),(14,ae (((MR k).tmod (g.Z.length:Int)).tmod g.Width)),(15,ae (MR (((MR k).tmod (g.Z.length:Int)).tdiv g.Width))),(18,.hp 1 0),(20,ae F),(165,slT ak.c d.1),(166,ae (d.1.length:Int)),(167,ae b)],[.own (aj.c g),.own (az.c o.1)]⟩) (Q:=fun x st'=>match (generalizing:=false) jR with|.inl H=>x=.exit 2/\Wk 0 st' ⟨mkS 215 0 [(3,.hp 0 0),(8,ae (MR ((MR ((MR (B-1))+1))+(MR up)))),(14,ae (((MR k).tmod (g.Z.length:Int)).tmod g.Width)),(15,ae (MR (((MR k).tmod (g.Z.length:Int)).tdiv g.Width))),(18,.hp 1 0),(20,ae H)],[.own (aj.c g),.own (az.c o.1)]⟩|.inr (r0)=>x=.ret/\aO Tryz.prog [.tmp 6] (aB r0) .ret st') E ((Wk.gc [3,8,14,15,18,20,165,166,167] [(0,true),(1,true)] rfl trivial).to) ?_ ?_
  ·clear hr;rintro m ⟨F,b⟩ hr;refine CQ.sh ?_;refine .seq (.r4 G [3,8,14,15,18,20,165,166,167] [(168,aB (decide (b<(d.1.length:Int))))] (.seq ?_));refine .cd hr ?_ ?_<;>intro rG hr
   ·refine .skip (.seq (.block (.seq ?_)));obtain⟨R,hr⟩:=gd hr;refine .r0 G (.p0 (v:=.pp (d.1.flatMap ak.c) (b.toNat*2)) (tr (aD R)) (.p0 (v:=.agg (ak.c (gt d.1 b))) (tr (y:=bj.ofP (eJ (decide (2<=((d.1.flatMap ak.c).drop (b.toNat*2)).length)) (.agg (((d.1.flatMap ak.c).drop (b.toNat*2)).take 2)))) (cm ak.len (aM R) (by decide) (by omega:b.toNat*2=b.toNat*2+0) kRf)) (.mu 2 (.done (.nh [3,8,14,15,18,20,22,165,166,167] [.own (aj.c g),.own (az.c o.1),.own (ak.c (gt d.1 b))] (.seq ?_))))));obtain⟨S,ks,hr⟩:=bd hr;refine .g1 G (ok0 (u4 n g (gt d.1 b) (((MR k).tmod (g.Z.length:Int)).tmod g.Width) (MR (((MR k).tmod (g.Z.length:Int)).tdiv g.Width)) S ks)) (.mu 4 (.ca cf0 (.mu 5 (.done (.nh [3,8,14,15,18,20,23,24,165,166,167] [.own (aj.c g),.own (az.c o.1),.own (ak.c (gt d.1 b))] (.seq (.seq (.r4 G [3,8,14,15,18,20,23,165,166,167] [(180,aB ((S.2:Int)!=0))] ?_))))))));refine .cd hr ?_ ?_<;>intro tU hr
    ·refine .seq (.ru G (.ret ?_));obtain rfl:=oi hr;exact⟨rfl,aO.ret (vs:=[aB false]) kRf (Sn.pure rfl)⟩
    refine .skip (.ru G (.pop (.ru G ?_)));exact aF (MR (F+S.1),MR (b+1)) hr ((Wk.gc [3,8,14,15,18,20,165,166,167] [(0,true),(1,true)] rfl trivial).to)
   refine .leave rfl ?_;obtain rfl:=oi hr;exact⟨rfl,((Wk.gc [3,8,14,15,18,20] [(0,true),(1,true)] rfl trivial).to)⟩
  rcases jR with H|r0
  ·rintro x st' l;clear E;obtain⟨rfl,l⟩:=l;refine aX _ rfl (.wk l (.seq ?_));obtain⟨I,lE,hr⟩:=bd hr;refine .g1 G (ok0 (wA n o.1 (ar.mk (MR (g.X0+(MR ((((MR k).tmod (g.Z.length:Int)).tmod g.Width)*g.Step)))) (MR (g.Y0+(MR ((MR (((MR k).tmod (g.Z.length:Int)).tdiv g.Width))*g.Step)))) (MR ((MR ((MR (B-1))+1))+(MR up)))) I lE)) (.mu 17 (.ca cf0 (.mu 5 (.done (.nh [17,20,25] [.own (aj.c g),.own (az.c o.1)] (.seq (.seq (.r4 G [17,20,25] [(207,aB ((I.2:Int)==2))] ?_))))))));refine .cd hr ?_ ?_<;>intro tp hr
   ·refine .seq (.ru G (.ret ?_));obtain rfl:=oi hr;exact aO.r1 [aB true]
   refine .skip (.seq ?_);rcases bT ((I.2:Int)==0)with z|z
   ·replace hr:=cQ z hr;refine .r0 G (.mu 1 (.p0 (v:=aB true) (eB z) (.mu 6 (.done (.ret ?_)))));obtain rfl:=oi hr;exact aO.r1 [aB ((I.1:Int)==H)]
   replace hr:=cR z hr;refine .r0 G (.mu 1 (.p0 (v:=aB false) (eB z) (.mu 6 (.done (.ret ?_)))));obtain rfl:=oi hr;exact aO.r1 [aB false]
  rintro x st' l;clear E;obtain⟨rfl,l⟩:=l;obtain rfl:=oi hr;exact fT _ l
 rintro x st' i;clear D;obtain⟨rfl,i⟩:=i;obtain rfl:=oi hr;exact fT _ i
end Go.L
