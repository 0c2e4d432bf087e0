import Derived.Test.YtmeohcmbohicoaaGreatDoorL9
import Derived.Test.YtmeohcmbohicoaaGreatDoorChecked
import Derived.Test.YtmeohcmbohicoaaGreatDoorCodeA
namespace Go.Proofs.YtmeohcmbohicoaaGreatDoor
set_option linter.defProp false
open Go.Ev Go
variable {X:Kx} {K:List Kf} {s:St}
def r_ah_0:=rg [
oo 1 (.box 9 (.t 0)),oo 2 (.asg (.c .nilS)),bb6 3 false] [1]
def r_ah_1:=rg [
bcb 12 0 1,oo 13 (.idxB 8 1 (.t 12) (ci 3)),bcj 14 13,bci 15 false 14,bb8 16 .gtr 15 1024] [1,16]
@[go_sem] def r_ah_2_o:Ops:=[
oo 2 (.asg (.c .nilS)),bb6 3 false]
def r_ah_2:=rg r_ah_2_o [2,3]
def r_ah_3:=rg [
oo 4 (.asg (.c .nilS))] [1,4]
def r_ah_4:=rg [
bcb 17 0 1,oo 18 (.idxB 8 1 (.t 17) (ci 3)),bcj 19 18,bci 20 false 19,oo 21 (.mv (ci 0))] [4,19,20,21]
def a2k:=rg [
bb9 22 .lss 21 20] [4,19,20,21,22]
def a2j:=rg [
bcg 23 1 19 21,bcj 24 23,bcr 6 24] [4,6,19,20,21]
def a2i:=rg [
oo 7 (.alloc [(.int .i64 0),(.int .i64 0),(.int .i64 0),(.int .i64 0),(.int .i64 0)])] [4,6,7,19,20,21]
def a2h:=rg [
bcb 25 0 7,bcb 26 1 7,bcb 27 2 7,bcb 28 3 7,bcb 29 4 7,oo 30 (.lit false 1 5 .nilP [(0,(.t 25)),(1,(.t 26)),(2,(.t 27)),(3,(.t 28)),(4,(.t 29))]),bci 31 false 30,oo 32 (.mv (ci 0))] [4,6,7,19,20,21,30,31,32]
def a2g:=rg [
bb9 33 .lss 32 31] [4,6,7,19,20,21,30,31,32,33]
def aic:=rg [
bcl 34 32,bcg 35 1 30 32,bcj 36 35,bcr 8 34,bcr 9 36] [4,6,7,8,9,19,20,21,30,31,32]
def aib:=rg [
bcl 38 6,bcl 39 8,bb8 40 .add 39 1,bca 41 n_bo [(.t 38),(.t 40)],bcl 37 41,bcs 42 37 0,bcs 43 37 1,bcr 10 42,bcr 11 43] [4,6,7,9,10,11,19,20,21,30,31,32]
def aia:=rg [
bcl 44 11,bcn 45 44] [4,6,7,9,10,19,20,21,30,31,32,45]
@[go_sem] def a2l:Ops:=[
oo 2 (.asg (.c .nilS)),bb6 3 false]
def a2m:=rg a2l [2,3]
def ah9:=rg [
bcl 46 9,bcl 47 10,bcm 48 46,bcq 1 48 47] [4,6,7,19,20,21,30,31,32]
def ah8:=rg [
bb8 49 .add 32 1,bcl 32 49] [4,6,7,19,20,21,30,31,32]
def aku:ICode:=(.seq a2g (.seq (.cond (.t 33) .skip (.exit 2)) (.seq (.block 3 (.seq aic (.seq aib (.seq (.seq aia (.cond (.t 45) (.seq a2m .ret) .skip)) ah9)))) ah8)))
def abi:=bce aku.eq_1
def ah7:=rg [
bcl 50 4,bck 51 5 7,oo 52 (.lit false 5 1 (.agg [(.int .i64 0),(.int .i64 0),(.int .i64 0),(.int .i64 0),(.int .i64 0)]) [(0,(.t 51))]),oo 53 (.append 5 40 (.t 50) (.t 52)),bcr 4 53] [4,19,20,21]
def ah6:=rg [
bb8 54 .add 21 1,bcl 21 54] [4,19,20,21]
def qh:ICode:=(.seq a2k (.seq (.cond (.t 22) .skip (.exit 0)) (.seq (.block 1 (.seq a2j (.seq (.seq (.free 7) a2i) (.seq (.seq a2h (.block 2 (.loop aku))) ah7)))) ah6)))
def a8z:=bce qh.eq_1
def ah5:=rg [
bcl 55 4,bca 56 n_cu [(.t 55)],bcr 2 56,bb6 3 true] [2,3]
def c_ah:ICode:=(.seq r_ah_0 (.seq r_ah_1 (.cond (.t 16) (.seq r_ah_2 .ret) (.seq r_ah_3 (.seq (.seq r_ah_4 (.block 0 (.loop qh))) (.seq ah5 .ret))))))
def i_ah:IFunc:=⟨1,[.t 2,.t 3],c_ah⟩
def a_ah:Advice:=⟨[53],zzz 17 [ah7,.ret,ah8,ah9,.ret,aia,aib,aic,a2g,a2h,a2i,a2j,a2k,r_ah_4,r_ah_3,.ret,r_ah_1,r_ah_0]++[(18,[2,3]),(16,[4,19,20,21]),(13,[2,3]),(2,[2,3])],[],[(7,[7])],[],[]⟩
def r_bx_0:=rg [
oo 4 (.box 1 (.t 1)),oo 5 (.box 1 (.t 2)),oo 6 (.alloc [(.int .i64 0),(.int .i64 0),(.int .u64 0),.nilS,(.int .i64 0)]),oo 7 (.alloc [(.bool false)])] [0,4,5,6,7]
def r_bx_1:=rg [
bcl 10 0,bca 11 n_b7 [(.t 10)]] [4,5,6,7,11]
def ayc:=rg [
oo 9 (.alloc [(.int .i64 0),(.int .i64 0),(.int .u64 0),.nilS,(.int .i64 0)]),bcq 5 9 13] [4,5,6,7,9]
def a8m:ICode:=ayc
def a80:=bce a8m.eq_1
def ayb:=rg [
bcb 14 0 9,bcj 15 14,bcj 16 4,bb9 17 .eql 15 16,bcl 18 17,og 19 18 true (.fieldA 1 (.t 9)),og 20 18 true (.load none (.t 19)),og 21 18 true (.load none (.t 5)),og 22 18 true (.bin .eql (.t 20) (.t 21)),bco 23 18 22] [6,7,9,23]
def aya:=rg [
bck 24 5 9,bcq 5 6 24,ow (.store 1 (.t 7) (.c (.bool true)))] [6,7]
def a8l:ICode:=(.block 1 (.seq ayb (.cond (.t 23) (.seq aya .ret) .skip)))
def a81:=bce a8l.eq_1
def ax9:=rg [
oo 25 (.build [(.int .i64 0),(.int .i64 0),(.int .u64 0),.nilS,(.int .i64 0)] []),bcq 5 6 25,ow (.store 1 (.t 7) (.c (.bool false)))] [6,7]
def c_bx:ICode:=(.seq r_bx_0 (.seq (.seq r_bx_1 (.block 0 (.each (.t 11) [12,13] a8m a8l))) (.seq ax9 .ret)))
def i_bx:IFunc:=⟨3,[.cell 6 (some 5),.cell 7 none],c_bx⟩
def a_bx:=zzy (zzz 5 [aya,.ret,.ret,ayc,r_bx_1,r_bx_0]++[(4,[6,7]),(3,[6,7,9,23])])
def r_cf_0:=rg [
oo 4 (.asg (.c (.int .u64 0))),bb6 5 false] [0,1]
def r_cf_1:=rg [
bcl 9 0,bcl 10 1,bca 11 n_bx [(.t 9),(.t 10),(ci 0)],bcl 8 11,bcs 12 8 0,bcs 13 8 1,oo 6 (.alloc [(.int .i64 0),(.int .i64 0),(.int .u64 0),.nilS,(.int .i64 0)]),bcq 5 6 12,bcr 7 13] [6,7]
def r_cf_2:=rg [
bcb 14 2 6,bcj 15 14,bcl 16 7,bcr 4 15,bcr 5 16] [4,5]
def c_cf:ICode:=(.seq r_cf_0 (.seq r_cf_1 (.seq r_cf_2 .ret)))
def i_cf:IFunc:=⟨2,[.t 4,.t 5],c_cf⟩
def a_cf:=zzy (zzz 2 [r_cf_2,r_cf_1,r_cf_0])
def r_bo_0:=rg [
bb7 4 0,bb6 5 false] [0,1]
def r_bo_1:=rg [
bcl 9 0,bcl 10 1,bca 11 n_cf [(.t 9),(.t 10)],bcl 8 11,bcs 12 8 0,bcs 13 8 1,bcr 6 12,bcr 7 13] [6]
def r_bo_2:=rg [
bcl 14 6,oo 15 (.bin .gtr (.t 14) (.c (.int .u64 262144)))] [6,15]
@[go_sem] def r_bo_3_o:Ops:=[
bb7 4 0,bb6 5 false]
def r_bo_3:=rg r_bo_3_o [4,5]
def r_bo_4:=rg [
bcl 16 6,oo 17 (.cvInt .i64 (.t 16)),bcr 4 17,bb6 5 true] [4,5]
def c_bo:ICode:=(.seq r_bo_0 (.seq r_bo_1 (.seq r_bo_2 (.cond (.t 15) (.seq r_bo_3 .ret) (.seq r_bo_4 .ret)))))
def i_bo:IFunc:=⟨2,[.t 4,.t 5],c_bo⟩
def a_bo:=zzy (zzz 4 [r_bo_4,.ret,r_bo_2,r_bo_1,r_bo_0]++[(3,[4,5])])
def r_ay_0:=rg [
oo 2 (.alloc [.nilS,.nilS,.nilS,.nilS,.nilS,.nilS,.nilS,.nilS,.nilS]),bb7 3 0] [0,2]
def r_ay_1:=rg [
oo 4 (.alloc [.nilS,.nilS,.nilS,.nilS,.nilS,.nilS,.nilS,.nilS,.nilS])] [0,2,4]
def r_ay_2:=rg [
bcl 9 0,bci 10 false 9,oo 11 (.mv (ci 0))] [2,4,9,10,11]
def azc:=rg [
bb9 12 .lss 11 10] [2,4,9,10,11,12]
def azb:=rg [
bcg 13 5 9 11,bck 14 5 13,oo 6 (.alloc [(.int .i64 0),(.int .i64 0),(.int .u64 0),.nilS,(.int .i64 0)]),bcq 5 6 14] [2,4,6,9,10,11]
def aza:=rg [
bcb 15 1 6,bcj 16 15,bb8 17 .neq 16 2] [2,4,6,9,10,11,17]
def ay9:=rg [
bcb 18 0 6,bcj 19 18] [2,4,6,9,10,11,19]
def ay8:=rg [
bb8 21 .eql 19 7,bcr 20 21] [2,4,6,9,10,11,19,20]
def ay7:=rg [
bb8 23 .eql 19 3,bcr 22 23] [2,4,6,9,10,11,19,22]
def ay6:=rg [
bb8 24 .eql 19 4,bcr 22 24] [2,4,6,9,10,11,19,22]
def agt:=rg [
bb8 25 .eql 19 5,bcr 22 25] [2,4,6,9,10,11,22]
def ags:=rg [
bcb 26 8 4,bcj 27 26,bcb 28 3 6,bcj 29 28,oo 30 (.lit false 1 1 (.sl []) [(0,(.t 29))]),oo 31 (.append 1 24 (.t 27) (.t 30)),bcb 32 8 4,bcq 1 32 31] [2,4,6,9,10,11]
def agr:=rg [
bcb 34 3 6,bcj 35 34,bca 36 n_bh [(.t 35)],bcl 33 36,bcs 37 33 0,bcs 38 33 1,bcr 7 37,bcr 8 38] [2,4,6,7,8,9,10,11]
def agq:=rg [
bcl 39 8,bb8 40 .neq 39 0] [2,4,6,7,8,9,10,11,40]
@[go_sem] def azd:Ops:=[
bck 41 9 4,bcl 42 8,bcq 9 2 41,bcr 3 42]
def aze:=rg azd [2,3]
@[go_sem] def v4:Ops:=[
bcb 43 0 6,bcj 44 43,bcb 45 0 6,bcj 46 45,bcb 47 0 4,oo 48 (.idxB 8 1 (.t 47) (.t 46)),bcj 49 48,bcl 50 7,oo 51 (.lit false 1 1 (.sl []) [(0,(.t 50))]),oo 52 (.append 1 24 (.t 49) (.t 51)),bcb 53 0 4,oo 54 (.idxB 8 1 (.t 53) (.t 44)),bcq 1 54 52]
def v5:List (Nat×Nat):=[(0,2),(1,2),(0,3),(1,3),(0,4),(1,4),(2,4),(3,4),(0,5),(1,5),(0,6),(1,6),(0,7),(1,7),(2,7),(3,7),(4,7),(5,7),(6,7),(0,8),(1,8),(2,8),(3,8),(4,8),(5,8),(6,8),(0,9),(1,9),(0,10),(1,10),(2,10),(3,10),(4,10),(5,10),(6,10),(7,10),(8,10),(9,10)]
def agp:ICode:= .region v4 v5 [2,4,9,10,11]
@[go_sem] theorem r_ay_15_u:Gu X K s agp v5 v4 [2,4,9,10,11]:=go_regionU' _ _ _ _
def ago:=rg [
bb8 55 .add 11 1,bcl 11 55] [2,4,9,10,11]
def dl:ICode:=(.seq azc (.seq (.cond (.t 12) .skip (.exit 0)) (.seq (.block 1 (.seq (.seq (.free 6) azb) (.seq (.seq aza (.cond (.t 17) (.exit 1) .skip)) (.seq ay9 (.block 2 (.seq (.block 4 (.seq (.block 3 (.seq (.seq (.seq ay8 (.cond (.t 20) (.exit 3) .skip)) (.seq (.seq ay7 (.cond (.t 22) .skip (.seq ay6 (.cond (.t 22) .skip agt)))) (.cond (.t 22) (.exit 4) .skip))) (.exit 2))) ags)) (.seq (.seq agr (.seq (.seq agq (.cond (.t 40) (.seq aze .ret) .skip)) agp)) (.exit 2)))))))) ago)))
def a82:=bce dl.eq_1
def agn:=rg [
bck 56 9 4,bcq 9 2 56,bb7 3 0] [2,3]
def c_ay:ICode:=(.seq r_ay_0 (.seq r_ay_1 (.seq (.seq r_ay_2 (.block 0 (.loop dl))) (.seq agn .ret))))
def i_ay:IFunc:=⟨1,[.cell 2 (some 9),.t 3],c_ay⟩
def a_ay:Advice:=⟨[31],zzz 16 [ago,.ret,.ret,agq,agr,ags,agt,ay6,ay7,ay8,ay9,aza,azb,azc,r_ay_2,r_ay_1,r_ay_0]++[(17,[2,3]),(15,[2,4,9,10,11]),(14,[2,3])],[],[(4,[6])],[],[]⟩
def r_bk_0:=rg [
oo 4 (.asg (.c (.int .u64 0))),bb7 5 0,bb7 6 0] [0,1,4]
def r_bk_1:=rg [
bcl 9 1,bb8 10 .lss 9 0,bcl 11 10,bcd 12 11 false 1,bcd 13 11 false 0,og 14 11 false (.len false (.t 13)),og 15 11 false (.bin .gtr (.t 12) (.t 14)),bcp 16 11 15] [0,1,4,16]
@[go_sem] def r_bk_2_o:Ops:=[
oo 4 (.asg (.c (.int .u64 0))),bb7 5 0,bb7 6 1]
def r_bk_2:=rg r_bk_2_o [4,5,6]
def r_bk_3:=rg [
bcl 17 0,bcl 18 1,oo 19 (.slice 1 (.t 17) (some (.t 18)) none none),bci 20 false 19,oo 21 (.mv (ci 0))] [4,19,20,21]
def ayo:=rg [
bb9 22 .lss 21 20] [4,19,20,21,22]
def ayn:=rg [
bcl 23 21,bcg 24 1 19 21,bcj 25 24,bcr 7 23,bcr 8 25] [4,7,8,19,20,21]
def aym:=rg [
bcl 26 7,bb8 27 .eql 26 9,bcl 28 27,bcd 29 28 true 8,og 30 28 true (.bin .gtr (.t 29) (.c (.int .u8 1))),bco 31 28 30] [4,7,8,19,20,21,31]
def ayl:=rg [
oo 4 (.asg (.c (.int .u64 0))),bb7 5 0,bb7 6 4] [4,5,6]
def ayk:=rg [
bcl 32 4,bcl 33 8,oo 34 (.bin .andNot (.t 33) (.c (.int .u8 128))),oo 35 (.cvInt .u64 (.t 34)),bcl 36 7,oo 37 (.bin .mul (ci 7) (.t 36)),bb9 38 .shl 35 37,bb9 39 .or 32 38,bcr 4 39] [4,7,8,19,20,21]
def ayj:=rg [
bcl 40 8,oo 41 (.bin .lss (.t 40) (.c (.int .u8 128)))] [4,7,19,20,21,41]
def agf:=rg [
bcl 42 4,bcl 43 7,bb8 44 .add 43 1,bcr 4 42,bcr 5 44,bb7 6 0] [4,5,6]
def age:=rg [
bb8 45 .add 21 1,bcl 21 45] [4,19,20,21]
def aki:ICode:=(.seq ayo (.seq (.cond (.t 22) .skip (.exit 0)) (.seq (.block 1 (.seq ayn (.seq (.seq aym (.cond (.t 31) (.seq ayl .ret) .skip)) (.seq ayk (.seq ayj (.cond (.t 41) (.seq agf .ret) .skip)))))) age)))
def a83:=bce aki.eq_1
def agd:=rg [
oo 4 (.asg (.c (.int .u64 0))),bb7 5 0,bb7 6 3] [4,5,6]
def c_bk:ICode:=(.seq r_bk_0 (.seq r_bk_1 (.cond (.t 16) (.seq r_bk_2 .ret) (.seq (.seq r_bk_3 (.block 0 (.loop aki))) (.seq agd .ret)))))
def i_bk:IFunc:=⟨2,[.t 4,.t 5,.t 6],c_bk⟩
def a_bk:=zzy (zzz 11 [age,agf,ayj,ayk,ayl,aym,ayn,ayo,r_bk_3,.ret,r_bk_1,r_bk_0]++[(12,[4,5,6]),(2,[4,5,6])])
def r_ak_0:=rg [
oo 4 (.alloc [(.int .i64 0),(.int .i64 0),(.int .u64 0),.nilS,(.int .i64 0)]),bb7 5 0,bb7 6 0] [0,1,4]
def r_ak_1:=rg [
bcl 18 0,bcl 19 1,bca 20 n_bk [(.t 18),(.t 19)],bcl 17 20,bcs 21 17 0,bcs 22 17 1,bcs 23 17 2,bcr 7 21,bcr 8 22,bcr 9 23] [0,1,4,7,8,9]
def r_ak_2:=rg [
bcl 24 9,bb8 25 .neq 24 0] [0,1,4,7,8,9,25]
def r_ak_3:=rg [
oo 26 (.build [(.int .i64 0),(.int .i64 0),(.int .u64 0),.nilS,(.int .i64 0)] []),bcl 27 9,bcq 5 4 26,bb7 5 0,bcr 6 27] [4,5,6]
def r_ak_4:=rg [
bcl 28 7,oo 29 (.bin .and (.t 28) (.c (.int .u64 7))),oo 30 (.cvInt .i64 (.t 29)),bcl 31 1,oo 32 (.build [(.int .i64 0),(.int .i64 0),(.int .u64 0),.nilS,(.int .i64 0)] [(1,1,(.t 30)),(4,1,(.t 31))]),oo 10 (.alloc [(.int .i64 0),(.int .i64 0),(.int .u64 0),.nilS,(.int .i64 0)]),bcq 5 10 32] [0,1,4,7,8,10]
def r_ak_5:=rg [
bcl 33 7,oo 34 (.bin .shr (.t 33) (.c (.int .u64 3))),oo 35 (.bin .lss (.t 34) (.c (.int .u64 1))),bcl 36 35,bcd 37 36 false 7,og 38 36 false (.bin .shr (.t 37) (.c (.int .u64 3))),og 39 36 false (.bin .gtr (.t 38) (.c (.int .u64 536870911))),bcp 40 36 39] [0,1,4,7,8,10,40]
def r_ak_6:=rg [
oo 41 (.build [(.int .i64 0),(.int .i64 0),(.int .u64 0),.nilS,(.int .i64 0)] []),bcq 5 4 41,bb7 5 0,bb7 6 2] [4,5,6]
def r_ak_7:=rg [
bcl 42 7,oo 43 (.bin .shr (.t 42) (.c (.int .u64 3))),oo 44 (.cvInt .i64 (.t 43)),bcb 45 0 10,bcq 1 45 44] [0,1,4,8,10]
def r_ak_8:=rg [
bb7 11 0] [0,1,4,8,10,11]
def r_ak_9:=rg [
bcb 46 1 10,bcj 47 46] [0,1,4,8,10,11,47]
def a1p:=rg [
bb8 49 .eql 47 0,bcr 48 49] [0,1,4,8,10,11,47,48]
def a1o:=rg [
bb8 50 .eql 47 2,bcr 48 50] [0,1,4,8,10,11,47,48]
def a1n:=rg [
bb8 52 .eql 47 1,bcr 51 52] [0,1,4,8,10,11,47,51]
def a1m:=rg [
bb8 54 .eql 47 5,bcr 53 54] [0,1,4,8,10,11,53]
def a1l:=rg [
bcl 56 0,bcl 57 1,bcl 58 8,bb9 59 .add 57 58,bca 60 n_bk [(.t 56),(.t 59)],bcl 55 60,bcs 61 55 0,bcs 62 55 1,bcs 63 55 2,bcr 12 61,bcr 13 62,bcr 14 63] [0,1,4,8,10,12,13,14]
def a1k:=rg [
bcl 64 14,bb8 65 .neq 64 0] [0,1,4,8,10,12,13,14,65]
def a1j:=rg [
oo 66 (.build [(.int .i64 0),(.int .i64 0),(.int .u64 0),.nilS,(.int .i64 0)] []),bcl 67 14,bcq 5 4 66,bb7 5 0,bcr 6 67] [4,5,6]
def a1i:=rg [
bcl 68 8,bcl 69 13,bb9 70 .add 68 69,bcr 8 70] [0,1,4,8,10,12]
def a1h:=rg [
bcb 71 1 10,bcj 72 71,bb8 73 .eql 72 0] [0,1,4,8,10,12,73]
def a1g:=rg [
bcl 74 12,bcb 75 2 10,bcq 1 75 74] [4,8,10]
def a1f:=rg [
bck 76 5 10,bcl 77 8,bcq 5 4 76,bcr 5 77,bb7 6 0] [4,5,6]
def a1e:=rg [
bcl 78 12,bcl 79 0,bci 80 false 79,bcl 81 1,bb9 82 .sub 80 81,bcl 83 8,bb9 84 .sub 82 83,oo 85 (.cvInt .u64 (.t 84)),bb9 86 .gtr 78 85] [0,1,4,8,10,12,86]
def a1d:=rg [
oo 87 (.build [(.int .i64 0),(.int .i64 0),(.int .u64 0),.nilS,(.int .i64 0)] []),bcq 5 4 87,bb7 5 0,bb7 6 3] [4,5,6]
def a1c:=rg [
bcl 88 0,bcl 89 1,bcl 90 8,bb9 91 .add 89 90,bcl 92 1,bcl 93 8,bb9 94 .add 92 93,bcl 95 12,oo 96 (.cvInt .i64 (.t 95)),bb9 97 .add 94 96,oo 98 (.slice 1 (.t 88) (some (.t 91)) (some (.t 97)) none),bca 99 n_bg [(.t 98)],bca 100 n_cq [(.t 99)],bcb 101 3 10,bcq 1 101 100] [4,8,10,12]
def a1b:=rg [
bck 102 5 10,bcl 103 8,bcl 104 12,oo 105 (.cvInt .i64 (.t 104)),bb9 106 .add 103 105,bcq 5 4 102,bcr 5 106,bb7 6 0] [4,5,6]
def a1a:=rg [
bcl 107 11,bb8 108 .add 107 4,bcr 11 108] [0,1,4,8,10,11]
def a09:=rg [
bcl 109 11,bb8 110 .add 109 4,bcr 11 110] [0,1,4,8,10,11]
def a08:=rg [
oo 111 (.build [(.int .i64 0),(.int .i64 0),(.int .u64 0),.nilS,(.int .i64 0)] []),bcq 5 4 111,bb7 5 0,bb7 6 2] [4,5,6]
def a07:=rg [
bcl 112 11,bcl 113 0,bci 114 false 113,bcl 115 1,bb9 116 .sub 114 115,bcl 117 8,bb9 118 .sub 116 117,bb9 119 .gtr 112 118] [0,1,4,8,10,11,119]
def a06:=rg [
oo 120 (.build [(.int .i64 0),(.int .i64 0),(.int .u64 0),.nilS,(.int .i64 0)] []),bcq 5 4 120,bb7 5 0,bb7 6 3] [4,5,6]
def a05:=rg [
bcl 121 0,bcl 122 1,bcl 123 8,bb9 124 .add 122 123,bcl 125 1,bcl 126 8,bb9 127 .add 125 126,bcl 128 11,bb9 129 .add 127 128,oo 130 (.slice 1 (.t 121) (some (.t 124)) (some (.t 129)) none),bci 131 false 130,oo 132 (.mv (ci 0))] [4,8,10,11,130,131,132]
def ahx:=rg [
bb9 133 .lss 132 131] [4,8,10,11,130,131,132,133]
def ahw:=rg [
bcl 134 132,bcg 135 1 130 132,bcj 136 135,bcr 15 134,bcr 16 136] [4,8,10,11,15,16,130,131,132]
@[go_sem] def yp:Ops:=[
bcb 137 2 10,bcj 138 137,bcl 139 16,oo 140 (.cvInt .u64 (.t 139)),bcl 141 15,oo 142 (.bin .mul (ci 8) (.t 141)),bb9 143 .shl 140 142,bb9 144 .or 138 143,bcb 145 2 10,bcq 1 145 144]
def yr:List (Nat×Nat):=[(0,2),(1,2),(0,3),(1,3),(0,4),(1,4),(2,4),(3,4),(0,5),(1,5),(2,5),(3,5),(0,6),(1,6)]
def ahv:ICode:= .region yp yr [4,8,10,11,130,131,132]
@[go_sem] theorem r_ak_33_u:Gu X K s ahv yr yp [4,8,10,11,130,131,132]:=go_regionU' _ _ _ _
def ahu:=rg [
bb8 146 .add 132 1,bcl 132 146] [4,8,10,11,130,131,132]
def aks:ICode:=(.seq ahx (.seq (.cond (.t 133) .skip (.exit 5)) (.seq (.block 6 (.seq ahw ahv)) ahu)))
def a84:=bce aks.eq_1
def aht:=rg [
bck 147 5 10,bcl 148 8,bcl 149 11,bb9 150 .add 148 149,bcq 5 4 147,bcr 5 150,bb7 6 0] [4,5,6]
def c_ak:ICode:=(.seq r_ak_0 (.seq r_ak_1 (.seq r_ak_2 (.cond (.t 25) (.seq r_ak_3 .ret) (.seq r_ak_4 (.seq r_ak_5 (.cond (.t 40) (.seq r_ak_6 .ret) (.seq r_ak_7 (.seq r_ak_8 (.seq (.seq r_ak_9 (.block 0 (.seq (.block 4 (.seq (.block 3 (.seq (.block 2 (.seq (.block 1 (.seq (.seq (.seq (.seq a1p (.cond (.t 48) .skip a1o)) (.cond (.t 48) (.exit 1) .skip)) (.seq (.seq a1n (.cond (.t 51) (.exit 2) .skip)) (.seq a1m (.cond (.t 53) (.exit 3) .skip)))) (.exit 4))) (.seq (.seq a1l (.seq (.seq a1k (.cond (.t 65) (.seq a1j .ret) .skip)) (.seq a1i (.seq (.seq a1h (.cond (.t 73) (.seq a1g (.seq a1f .ret)) .skip)) (.seq (.seq a1e (.cond (.t 86) (.seq a1d .ret) .skip)) (.seq a1c (.seq a1b .ret))))))) (.exit 0)))) a1a)) (.seq a09 (.exit 0)))) (.seq (.seq a08 .ret) (.exit 0))))) (.seq a07 (.cond (.t 119) (.seq a06 .ret) (.seq (.seq a05 (.block 5 (.loop aks))) (.seq aht .ret))))))))))))))
def i_ak:IFunc:=⟨2,[.cell 4 (some 5),.t 5,.t 6],c_ak⟩
def a_ak:=zzy (zzz 34 [ahu,.ret,ahw,ahx,a05,a06,a07,a08,a09,a1a,a1b,a1c,a1d,a1e,a1f,a1g,a1h,a1i,a1j,a1k,a1l,a1m,a1n,a1o,a1p,r_ak_9,r_ak_8,r_ak_7,r_ak_6,r_ak_5,r_ak_4,r_ak_3,r_ak_2,r_ak_1,r_ak_0]++[(35,[4,5,6]),(33,[4,8,10,11,130,131,132])])
def r_bh_0:=rg [
oo 2 (.asg (.c .nilS)),bb7 3 0] [0]
def r_bh_1:=rg [
bcl 9 0,bci 10 false 9,bb8 11 .gtr 10 262144] [0,11]
def r_bh_2:=rg [
oo 2 (.asg (.c .nilS)),bb7 3 4] [2,3]
def r_bh_3:=rg [
oo 4 (.asg (.c .nilS))] [0,4]
def r_bh_4:=rg [
bb7 5 0] [0,4,5]
def ayt:=rg [
bcl 12 5,bcl 13 0,bci 14 false 13,bb9 15 .lss 12 14] [0,4,5,15]
def ays:=rg [
bcl 16 4,bci 17 false 16,bb8 18 .geq 17 4096] [0,4,5,18]
def ayr:=rg [
oo 2 (.asg (.c .nilS)),bb7 3 4] [2,3]
def ayq:=rg [
bcl 20 0,bcl 21 5,bca 22 n_ak [(.t 20),(.t 21)],bcl 19 22,bcs 23 19 0,bcs 24 19 1,bcs 25 19 2,oo 6 (.alloc [(.int .i64 0),(.int .i64 0),(.int .u64 0),.nilS,(.int .i64 0)]),bcq 5 6 23,bcr 7 24,bcr 8 25] [0,4,5,6,7,8]
def ayp:=rg [
bcl 26 8,bb8 27 .neq 26 0] [0,4,5,6,7,8,27]
def agk:=rg [
bcl 28 8,oo 2 (.asg (.c .nilS)),bcr 3 28] [2,3]
def agj:=rg [
bcl 29 4,bck 30 5 6,oo 31 (.lit false 5 1 (.agg [(.int .i64 0),(.int .i64 0),(.int .u64 0),(.sl []),(.int .i64 0)]) [(0,(.t 30))]),oo 32 (.append 5 56 (.t 29) (.t 31)),bcr 4 32] [0,4,5,7]
def agi:=rg [
bcl 33 5,bcl 34 7,bb9 35 .add 33 34,bcr 5 35] [0,4,5]
def akj:ICode:=(.seq (.seq ayt (.cond (.t 15) .skip (.exit 0))) (.block 1 (.seq (.seq ays (.cond (.t 18) (.seq ayr .ret) .skip)) (.seq (.seq (.free 6) ayq) (.seq (.seq ayp (.cond (.t 27) (.seq agk .ret) .skip)) (.seq agj agi))))))
def a85:=bce akj.eq_1
def agh:=rg [
bcl 36 4,bca 37 n_c8 [(.t 36)],bcr 2 37,bb7 3 0] [2,3]
def c_bh:ICode:=(.seq r_bh_0 (.seq r_bh_1 (.cond (.t 11) (.seq r_bh_2 .ret) (.seq r_bh_3 (.seq (.seq r_bh_4 (.block 0 (.loop akj))) (.seq agh .ret))))))
def i_bh:IFunc:=⟨1,[.t 2,.t 3],c_bh⟩
def a_bh:Advice:=⟨[32],zzz 12 [agi,agj,agk,ayp,ayq,ayr,ays,ayt,r_bh_4,r_bh_3,r_bh_2,r_bh_1,r_bh_0]++[(13,[2,3])],[],[(8,[6])],[],[]⟩
def r_ap_0:=rg [
oo 2 (.alloc [(.int .i64 0),.nilS,(.int .i64 0),.nilS,.nilS,(.int .i64 0),(.int .i64 0),(.int .i64 0),.nilS,(.int .i64 0),.nilS,(.int .i64 0)]),bb7 3 0] [0,2]
def r_ap_1:=rg [
bcl 11 0,bca 12 n_bh [(.t 11)],bcl 10 12,bcs 13 10 0,bcs 14 10 1,bcr 4 13,bcr 5 14] [2,4,5]
def r_ap_2:=rg [
bcl 15 5,bb8 16 .neq 15 0] [2,4,5,16]
@[go_sem] def r_ap_3_o:Ops:=[
oo 17 (.build [(.int .i64 0),.nilS,(.int .i64 0),.nilS,.nilS,(.int .i64 0),(.int .i64 0),(.int .i64 0),.nilS,(.int .i64 0),.nilS,(.int .i64 0)] []),bcl 18 5,bcq 12 2 17,bcr 3 18]
def r_ap_3:=rg r_ap_3_o [2,3]
def r_ap_4:=rg [
bcl 20 4,bca 21 n_ay [(.t 20)],bcl 19 21,bcs 22 19 0,bcs 23 19 1,oo 6 (.alloc [.nilS,.nilS,.nilS,.nilS,.nilS,.nilS,.nilS,.nilS,.nilS]),bcq 9 6 22,bcr 5 23] [2,4,5,6]
def r_ap_5:=rg [
bcl 24 5,bb8 25 .neq 24 0] [2,4,5,6,25]
@[go_sem] def r_ap_6_o:Ops:=[
oo 26 (.build [(.int .i64 0),.nilS,(.int .i64 0),.nilS,.nilS,(.int .i64 0),(.int .i64 0),(.int .i64 0),.nilS,(.int .i64 0),.nilS,(.int .i64 0)] []),bcl 27 5,bcq 12 2 26,bcr 3 27]
def r_ap_6:=rg r_ap_6_o [2,3]
def r_ap_7:=rg [
oo 7 (.alloc [(.int .i64 0),.nilS,(.int .i64 0),.nilS,.nilS,(.int .i64 0),(.int .i64 0),(.int .i64 0),.nilS,(.int .i64 0),.nilS,(.int .i64 0)])] [2,4,6,7]
def r_ap_8:=rg [
bb6 8 false,bb6 9 false] [2,4,6,7]
def r_ap_9:=rg [
bcl 29 4,bca 30 n_bo [(.t 29),(ci 2)],bcl 28 30,bcs 31 28 0,bcs 32 28 1,bcb 33 0 7,bcq 1 33 31,bcr 8 32] [2,4,6,7,8]
def a0s:=rg [
bcl 34 8,bcn 35 34] [2,4,6,7,35]
@[go_sem] def a0r:Ops:=[
oo 36 (.build [(.int .i64 0),.nilS,(.int .i64 0),.nilS,.nilS,(.int .i64 0),(.int .i64 0),(.int .i64 0),.nilS,(.int .i64 0),.nilS,(.int .i64 0)] []),bcq 12 2 36,bb7 3 2]
def r_ap_11:=rg a0r [2,3]
def a0q:=rg [
bck 38 9 6,bca 39 n_ah [(.t 38)],bcl 37 39,bcs 40 37 0,bcs 41 37 1,bcb 42 1 7,bcq 1 42 40,bcr 8 41] [2,4,6,7,8]
def a0p:=rg [
bcl 43 8,bcn 44 43] [2,4,6,7,44]
@[go_sem] def a0o:Ops:=[
oo 45 (.build [(.int .i64 0),.nilS,(.int .i64 0),.nilS,.nilS,(.int .i64 0),(.int .i64 0),(.int .i64 0),.nilS,(.int .i64 0),.nilS,(.int .i64 0)] []),bcq 12 2 45,bb7 3 2]
def r_ap_14:=rg a0o [2,3]
def a0n:=rg [
bck 47 9 6,bca 48 n_az [(.t 47)],bcl 46 48,bcs 49 46 0,bcs 50 46 1,bcb 51 2 7,bcq 6 51 49,bcr 5 50] [2,4,5,6,7]
def a0m:=rg [
bcl 52 5,bb8 53 .neq 52 0] [2,4,5,6,7,53]
@[go_sem] def a0l:Ops:=[
oo 54 (.build [(.int .i64 0),.nilS,(.int .i64 0),.nilS,.nilS,(.int .i64 0),(.int .i64 0),(.int .i64 0),.nilS,(.int .i64 0),.nilS,(.int .i64 0)] []),bcl 55 5,bcq 12 2 54,bcr 3 55]
def r_ap_17:=rg a0l [2,3]
def a0k:=rg [
bck 57 9 6,bca 58 n_ax [(.t 57)],bcl 56 58,bcs 59 56 0,bcs 60 56 1,bcb 61 8 7,bcq 1 61 59,bcr 8 60] [2,4,6,7,8]
def a0j:=rg [
bcl 63 4,bca 64 n_bo [(.t 63),(ci 6)],bcl 62 64,bcs 65 62 0,bcs 66 62 1,bcb 67 9 7,bcq 1 67 65,bcr 9 66] [2,4,6,7,8,9]
def a0i:=rg [
bcl 68 8,bcn 69 68,bcl 70 69,bcd 71 70 false 9,og 72 70 false (.un .not (.t 71)),bcp 73 70 72] [2,4,6,7,73]
@[go_sem] def a0h:Ops:=[
oo 74 (.build [(.int .i64 0),.nilS,(.int .i64 0),.nilS,.nilS,(.int .i64 0),(.int .i64 0),(.int .i64 0),.nilS,(.int .i64 0),.nilS,(.int .i64 0)] []),bcq 12 2 74,bb7 3 2]
def r_ap_21:=rg a0h [2,3]
@[go_sem] def w7:Ops:=[
bck 76 9 6,bcb 77 2 7,bck 78 6 77,bca 79 n_bq [(.t 78)],bca 80 n_aw [(.t 76),(.t 79)],bcl 75 80,bcs 81 75 0,bcs 82 75 1,bcb 83 10 7,bcq 1 83 81,bcr 5 82]
def w8:List (Nat×Nat):=[(0,1),(0,2),(0,3),(6,7),(7,8),(7,9)]
def a0g:ICode:= .region w7 w8 [2,4,5,7]
@[go_sem] theorem r_ap_22_u:Gu X K s a0g w8 w7 [2,4,5,7]:=go_regionU' _ _ _ _
def a0f:=rg [
bcl 84 5,bb8 85 .neq 84 0] [2,4,5,7,85]
@[go_sem] def a0e:Ops:=[
oo 86 (.build [(.int .i64 0),.nilS,(.int .i64 0),.nilS,.nilS,(.int .i64 0),(.int .i64 0),(.int .i64 0),.nilS,(.int .i64 0),.nilS,(.int .i64 0)] []),bcl 87 5,bcq 12 2 86,bcr 3 87]
def r_ap_24:=rg a0e [2,3]
def a0d:=rg [
bcl 89 4,bca 90 n_bo [(.t 89),(ci 8)],bcl 88 90,bcs 91 88 0,bcs 92 88 1,bcb 93 11 7,bcq 1 93 91,bcr 8 92] [2,7,8]
def a0c:=rg [
bcl 94 8,bcn 95 94] [2,7,95]
@[go_sem] def a0b:Ops:=[
oo 96 (.build [(.int .i64 0),.nilS,(.int .i64 0),.nilS,.nilS,(.int .i64 0),(.int .i64 0),(.int .i64 0),.nilS,(.int .i64 0),.nilS,(.int .i64 0)] []),bcq 12 2 96,bb7 3 2]
def r_ap_27:=rg a0b [2,3]
def a0a:=rg [
bck 97 12 7,bcq 12 2 97,bb7 3 0] [2,3]
def c_ap:ICode:=(.seq r_ap_0 (.seq r_ap_1 (.seq r_ap_2 (.cond (.t 16) (.seq r_ap_3 .ret) (.seq r_ap_4 (.seq r_ap_5 (.cond (.t 25) (.seq r_ap_6 .ret) (.seq r_ap_7 (.seq r_ap_8 (.seq (.seq r_ap_9 (.seq a0s (.cond (.t 35) (.seq r_ap_11 .ret) .skip))) (.seq (.seq a0q (.seq a0p (.cond (.t 44) (.seq r_ap_14 .ret) .skip))) (.seq (.seq a0n (.seq a0m (.cond (.t 53) (.seq r_ap_17 .ret) .skip))) (.seq a0k (.seq (.seq a0j (.seq a0i (.cond (.t 73) (.seq r_ap_21 .ret) .skip))) (.seq (.seq a0g (.seq a0f (.cond (.t 85) (.seq r_ap_24 .ret) .skip))) (.seq (.seq a0d (.seq a0c (.cond (.t 95) (.seq r_ap_27 .ret) .skip))) (.seq a0a .ret)))))))))))))))))
def i_ap:IFunc:=⟨1,[.cell 2 (some 12),.t 3],c_ap⟩
def a_ap:=zzy (zzz 28 [a0a,.ret,a0c,a0d,.ret,a0f,.ret,.ret,a0i,a0j,a0k,.ret,a0m,a0n,.ret,a0p,a0q,.ret,a0s,r_ap_9,r_ap_8,r_ap_7,.ret,r_ap_5,r_ap_4,.ret,r_ap_2,r_ap_1,r_ap_0]++[(27,[2,3]),(24,[2,3]),(22,[2,4,5,7]),(21,[2,3]),(17,[2,3]),(14,[2,3]),(11,[2,3]),(6,[2,3]),(3,[2,3])])
@[go_sem] def r_ct_0_o:Ops:=[
oo 2 (.asg (.c (.int .u64 0)))]
def r_ct_0:=rg r_ct_0_o [0]
@[go_sem] def r_ct_1_o:Ops:=[
bcl 3 0,oo 4 (.cvInt .u64 (.t 3)),oo 5 (.bin .shl (.t 4) (.c (.int .u64 1))),bcl 6 0,oo 7 (.bin .shr (.t 6) (.c (.int .u64 63))),oo 8 (.cvInt .u64 (.t 7)),bb9 9 .xor 5 8,bcr 2 9]
def r_ct_1:=rg r_ct_1_o [2]
def c_ct:ICode:=(.seq r_ct_0 (.seq r_ct_1 .ret))
def i_ct:IFunc:=⟨1,[.t 2],c_ct⟩
def a_ct:=zzy ([(1,[2]),(0,[0])])
def r_a8_0:=rg [
bb7 2 0] [0]
def r_a8_1:=rg [
bcl 3 0] [3]
def r_a8_2:=rg [
bb8 5 .eql 3 1,bcr 4 5] [3,4]
def r_a8_3:=rg [
bb8 6 .eql 3 2,bcr 4 6] [3,4]
def r_a8_4:=rg [
bb8 8 .eql 3 3,bcr 7 8] [3,7]
def r_a8_5:=rg [
bb8 9 .eql 3 4,bcr 7 9] [3,7]
def r_a8_6:=rg [
bb8 11 .eql 3 7,bcr 10 11] [3,10]
def r_a8_7:=rg [
bb8 12 .eql 3 16,bcr 10 12] [3,10]
def r_a8_8:=rg [
bb8 13 .eql 3 17,bcr 10 13] [3,10]
def r_a8_9:=rg [
bb8 15 .eql 3 0,bcr 14 15] [3,14]
def a55:=rg [
bb8 17 .eql 3 14,bcr 16 17] [3,16]
def a54:=rg [
bb8 19 .eql 3 15,bcr 18 19] [3,18]
def a53:=rg [
bb8 21 .eql 3 8,bcr 20 21] [3,20]
def a52:=rg [
bb8 23 .eql 3 9,bcr 22 23] [22]
def a51:=rg [
bb7 2 2] [2]
def a50:=rg [
bb7 2 4] [2]
def a5z:=rg [
bb7 2 5] [2]
def a5y:=rg [
bb7 2 6] [2]
def a5x:=rg [
bb7 2 7] [2]
def a5w:=rg [
bb7 2 8] [2]
def a5v:=rg [
bb7 2 9] [2]
def a5u:=rg [
bb7 2 0] [2]
def c_a8:ICode:=(.seq r_a8_0 (.seq (.seq r_a8_1 (.block 0 (.seq (.block 8 (.seq (.block 7 (.seq (.block 6 (.seq (.block 5 (.seq (.block 4 (.seq (.block 3 (.seq (.block 2 (.block 1 (.seq (.seq (.seq (.seq r_a8_2 (.cond (.t 4) .skip r_a8_3)) (.cond (.t 4) (.exit 1) .skip)) (.seq (.seq (.seq r_a8_4 (.cond (.t 7) .skip r_a8_5)) (.cond (.t 7) (.exit 2) .skip)) (.seq (.seq (.seq r_a8_6 (.cond (.t 10) .skip (.seq r_a8_7 (.cond (.t 10) .skip r_a8_8)))) (.cond (.t 10) (.exit 3) .skip)) (.seq (.seq r_a8_9 (.cond (.t 14) (.exit 4) .skip)) (.seq (.seq a55 (.cond (.t 16) (.exit 5) .skip)) (.seq (.seq a54 (.cond (.t 18) (.exit 6) .skip)) (.seq (.seq a53 (.cond (.t 20) (.exit 7) .skip)) (.seq a52 (.cond (.t 22) (.exit 8) .skip))))))))) (.exit 0)))) (.seq (.seq a51 .ret) (.exit 0)))) (.seq (.seq a50 .ret) (.exit 0)))) (.seq (.seq a5z .ret) (.exit 0)))) (.seq (.seq a5y .ret) (.exit 0)))) (.seq (.seq a5x .ret) (.exit 0)))) (.seq (.seq a5w .ret) (.exit 0)))) (.seq (.seq a5v .ret) (.exit 0))))) (.seq a5u .ret)))
def i_a8:IFunc:=⟨1,[.t 2],c_a8⟩
def a_a8:=zzy (zzz 21 [a5u,a5v,a5w,a5x,a5y,a5z,a50,a51,a52,a53,a54,a55,r_a8_9,r_a8_8,r_a8_7,r_a8_6,r_a8_5,r_a8_4,r_a8_3,r_a8_2,r_a8_1,r_a8_0])
@[go_sem] def r_cg_0_o:Ops:=[
oo 6 (.asg (.c .nilS))]
def r_cg_0:=rg r_cg_0_o [0,1,2]
@[go_sem] def r_cg_1_o:Ops:=[
bcl 10 0,bcl 11 1,bca 12 n_cn [(.t 10),(.t 11),(ci 2)],bcl 9 12,bcs 13 9 0,bcs 14 9 1,bcr 7 13,bcr 8 14]
def r_cg_1:=rg r_cg_1_o [2,7,8]
@[go_sem] def r_cg_2_o:Ops:=[
bcl 15 8,bcn 16 15]
def r_cg_2:=rg r_cg_2_o [2,7,16]
@[go_sem] def r_cg_3_o:Ops:=[
bcl 17 7,bcr 6 17]
def r_cg_3:=rg r_cg_3_o [6]
@[go_sem] def r_cg_4_o:Ops:=[
bcl 18 7,bcl 19 2,bci 20 false 19,oo 21 (.cvInt .u64 (.t 20)),oo 22 (.call true n_b8 [(.t 18),(.t 21)]),bcl 23 2,oo 24 (.append 1 1 (.t 22) (.t 23)),bca 25 n_cq [(.t 24)],bcr 6 25]
def r_cg_4:=rg r_cg_4_o [6]
def c_cg:ICode:=(.seq r_cg_0 (.seq r_cg_1 (.seq r_cg_2 (.cond (.t 16) (.seq r_cg_3 .ret) (.seq r_cg_4 .ret)))))
def i_cg:IFunc:=⟨3,[.t 6],c_cg⟩
def a_cg:Advice:=⟨[22],[(4,[6]),(3,[6]),(2,[2,7,16]),(1,[2,7,8]),(0,[0,1,2])],[],[],[],[]⟩
@[go_sem] def r_b8_0_o:Ops:=[
oo 4 (.asg (.c .nilS))]
def r_b8_0:=rg r_b8_0_o [0,1]
@[go_sem] def r_b8_1_o:Ops:=[
bcl 6 0,oo 7 (.call true n_bg [(.t 6)]),bcr 5 7]
def r_b8_1:=rg r_b8_1_o [1,5]
@[go_sem] def r_b8_2_o:Ops:=[
bcl 8 1,oo 9 (.bin .geq (.t 8) (.c (.int .u64 128)))]
def r_b8_2:=rg r_b8_2_o [1,5,9]
@[go_sem] def r_b8_3_o:Ops:=[
bcl 10 5,bcl 11 1,oo 12 (.cvInt .u8 (.t 11)),oo 13 (.bin .or (.t 12) (.c (.int .u8 128))),oo 14 (.lit false 1 1 (.int .u8 0) [(0,(.t 13))]),oo 15 (.append 1 1 (.t 10) (.t 14)),bcr 5 15]
def r_b8_3:=rg r_b8_3_o [1,5]
@[go_sem] def r_b8_4_o:Ops:=[
bcl 16 1,oo 17 (.bin .shr (.t 16) (.c (.int .u64 7))),bcr 1 17]
def r_b8_4:=rg r_b8_4_o [1,5]
def b_b8_5:ICode:=(.seq (.seq r_b8_2 (.cond (.t 9) .skip (.exit 0))) (.block 1 (.seq r_b8_3 r_b8_4)))
def a86:=bce b_b8_5.eq_1
@[go_sem] def r_b8_6_o:Ops:=[
bcl 18 5,bcl 19 1,oo 20 (.cvInt .u8 (.t 19)),oo 21 (.lit false 1 1 (.int .u8 0) [(0,(.t 20))]),oo 22 (.append 1 1 (.t 18) (.t 21)),bca 23 n_cq [(.t 22)],bcr 4 23]
def r_b8_6:=rg r_b8_6_o [4]
def c_b8:ICode:=(.seq r_b8_0 (.seq r_b8_1 (.seq (.block 0 (.loop b_b8_5)) (.seq r_b8_6 .ret))))
def i_b8:IFunc:=⟨2,[.t 4],c_b8⟩
def a_b8:Advice:=⟨[7,15],[(5,[4]),(4,[1,5]),(3,[1,5]),(2,[1,5,9]),(1,[1,5]),(0,[0,1])],[],[],[],[]⟩
def r_bg_0:=rg [
oo 2 (.asg (.c .nilS))] [0]
def r_bg_1:=rg [
bcl 3 0,oo 4 (.isNil false (.t 3))] [0,4]
@[go_sem] def r_bg_2_o:Ops:=[
oo 2 (.asg (.c .nilS))]
def r_bg_2:=rg r_bg_2_o [2]
def r_bg_3:=rg [
oo 5 (.lit true 1 0 (.int .u8 0) []),bcl 6 0,oo 7 (.append 1 1 (.t 5) (.t 6)),bcr 2 7] [2]
def c_bg:ICode:=(.seq r_bg_0 (.seq r_bg_1 (.cond (.t 4) (.seq r_bg_2 .ret) (.seq r_bg_3 .ret))))
def i_bg:IFunc:=⟨1,[.t 2],c_bg⟩
def a_bg:Advice:=⟨[5],zzz 3 [r_bg_3,.ret,r_bg_1,r_bg_0]++[(2,[2])],[],[],[],[]⟩
@[go_sem] def r_cn_0_o:Ops:=[
oo 6 (.asg (.c .nilS)),bb6 7 false]
def r_cn_0:=rg r_cn_0_o [0,1,2]
@[go_sem] def r_cn_1_o:Ops:=[
bcl 8 1,bb8 9 .lss 8 1,bcl 10 9,bcd 11 10 false 1,og 12 10 false (.bin .gtr (.t 11) (ci 536870911)),bcp 13 10 12]
def r_cn_1:=rg r_cn_1_o [0,1,2,13]
@[go_sem] def r_cn_2_o:Ops:=[
bcl 14 0,bca 15 n_bg [(.t 14)],bcr 6 15,bb6 7 false]
def r_cn_2:=rg r_cn_2_o [6,7]
@[go_sem] def r_cn_3_o:Ops:=[
bcl 16 0,bcl 17 1,oo 18 (.cvInt .u64 (.t 17)),oo 19 (.bin .shl (.t 18) (.c (.int .u64 3))),bcl 20 2,oo 21 (.cvInt .u64 (.t 20)),bb9 22 .or 19 21,bca 23 n_b8 [(.t 16),(.t 22)],bcr 6 23,bb6 7 true]
def r_cn_3:=rg r_cn_3_o [6,7]
def c_cn:ICode:=(.seq r_cn_0 (.seq r_cn_1 (.cond (.t 13) (.seq r_cn_2 .ret) (.seq r_cn_3 .ret))))
def i_cn:IFunc:=⟨3,[.t 6,.t 7],c_cn⟩
def a_cn:=zzy ([(3,[6,7]),(2,[6,7]),(1,[0,1,2,13]),(0,[0,1,2])])
@[go_sem] def r_ck_0_o:Ops:=[
oo 6 (.asg (.c .nilS))]
def r_ck_0:=rg r_ck_0_o [0,1,2]
@[go_sem] def r_ck_1_o:Ops:=[
bcl 10 0,bcl 11 1,bca 12 n_cn [(.t 10),(.t 11),(ci 0)],bcl 9 12,bcs 13 9 0,bcs 14 9 1,bcr 7 13,bcr 8 14]
def r_ck_1:=rg r_ck_1_o [2,7,8]
@[go_sem] def r_ck_2_o:Ops:=[
bcl 15 8,bcn 16 15]
def r_ck_2:=rg r_ck_2_o [2,7,16]
@[go_sem] def r_ck_3_o:Ops:=[
bcl 17 7,bcr 6 17]
def r_ck_3:=rg r_ck_3_o [6]
@[go_sem] def r_ck_4_o:Ops:=[
bcl 18 7,bcl 19 2,bca 20 n_b8 [(.t 18),(.t 19)],bcr 6 20]
def r_ck_4:=rg r_ck_4_o [6]
def c_ck:ICode:=(.seq r_ck_0 (.seq r_ck_1 (.seq r_ck_2 (.cond (.t 16) (.seq r_ck_3 .ret) (.seq r_ck_4 .ret)))))
def i_ck:IFunc:=⟨3,[.t 6],c_ck⟩
def a_ck:=zzy ([(4,[6]),(3,[6]),(2,[2,7,16]),(1,[2,7,8]),(0,[0,1,2])])
def r_bb_0:=rg [
oo 2 (.asg (.c .nilS))] [0]
def r_bb_1:=rg [
bcl 3 0,oo 4 (.isNil false (.t 3))] [0,4]
@[go_sem] def r_bb_2_o:Ops:=[
oo 2 (.asg (.c .nilS))]
def r_bb_2:=rg r_bb_2_o [2]
def r_bb_3:=rg [
oo 5 (.lit true 1 0 (.str []) []),bcl 6 0,oo 7 (.append 1 16 (.t 5) (.t 6)),bcr 2 7] [2]
def c_bb:ICode:=(.seq r_bb_0 (.seq r_bb_1 (.cond (.t 4) (.seq r_bb_2 .ret) (.seq r_bb_3 .ret))))
def i_bb:IFunc:=⟨1,[.t 2],c_bb⟩
def a_bb:Advice:=⟨[5],zzz 3 [r_bb_3,.ret,r_bb_1,r_bb_0]++[(2,[2])],[],[],[],[]⟩
def r_a4_0:=rg [
oo 5 (.box 6 (.t 1)),oo 8 (.asg (.c .nilS))] [0,2,3,5]
def r_a4_1:=rg [
bcl 13 0,bci 14 false 13,bcr 9 14] [0,2,3,5,9]
@[go_sem] def aud:Ops:=[
bcl 15 0,bcb 16 0 5,bcj 17 16,bcb 18 1 5,bcj 19 18,bca 20 n_bb [(.t 19)],bca 21 n_cy [(.t 20)],bcb 22 3 5,bcj 23 22,bcb 24 4 5,bcj 25 24,bcb 26 5 5,bcj 27 26,bcl 28 2,bcl 29 3,oo 30 (.build [(.int .i64 0),.nilS,.nilS,(.int .i64 0),(.int .i64 0),(.int .i64 0),(.int .i64 0),(.int .i64 0)] [(0,1,(.t 17)),(1,1,(.c .nilS)),(2,1,(.t 21)),(3,1,(.t 23)),(4,1,(.t 25)),(5,1,(.t 27)),(6,1,(.t 28)),(7,1,(.t 29))]),oo 31 (.lit false 8 1 (.agg [(.int .i64 0),(.sl []),(.sl []),(.int .i64 0),(.int .i64 0),(.int .i64 0),(.int .i64 0),(.int .i64 0)]) [(0,(.t 30))]),oo 32 (.append 8 96 (.t 15) (.t 31)),bcr 0 32]
def aue:List (Nat×Nat):=[(0,1),(0,2),(0,3),(1,3),(2,3),(0,4),(1,4),(2,4),(0,5),(1,5),(2,5),(0,6),(1,6),(2,6),(0,7),(1,7),(2,7),(3,7),(4,7),(5,7),(6,7),(0,8),(1,8),(2,8),(3,8),(4,8),(5,8),(6,8),(0,9),(1,9),(2,9),(3,9),(4,9),(5,9),(6,9),(7,9),(8,9),(0,10),(1,10),(2,10),(3,10),(4,10),(5,10),(6,10),(7,10),(8,10),(0,11),(1,11),(2,11),(3,11),(4,11),(5,11),(6,11),(7,11),(8,11),(9,11),(10,11),(0,12),(1,12),(2,12),(3,12),(4,12),(5,12),(6,12),(7,12),(8,12),(9,12),(10,12),(0,13),(1,13),(2,13),(3,13),(4,13),(5,13),(6,13),(7,13),(8,13),(9,13),(10,13),(11,13),(12,13),(0,14),(1,14),(2,14),(3,14),(4,14),(5,14),(6,14),(7,14),(8,14),(9,14),(10,14),(11,14),(12,14),(13,14),(0,15),(0,16)]
def r_a4_2:ICode:= .region aud aue [0,3,5,9]
@[go_sem] theorem r_a4_2_u:Gu X K s r_a4_2 aue aud [0,3,5,9]:=go_regionU' _ _ _ _
def r_a4_3:=rg [
oo 10 (.asg (.c .nilS))] [0,3,5,9,10]
def r_a4_4:=rg [
bcb 33 2 5,bcj 34 33,bci 35 false 34,oo 36 (.mv (ci 0))] [0,3,9,10,34,35,36]
def a6l:=rg [
bb9 37 .lss 36 35] [0,3,9,10,34,35,36,37]
def a6k:=rg [
bcg 38 6 34 36,bck 39 6 38,oo 12 (.alloc [(.int .i64 0),.nilS,.nilS,(.int .i64 0),(.int .i64 0),(.int .i64 0)]),bcq 6 12 39] [0,3,9,10,12,34,35,36]
def a6j:=rg [
bcl 40 10,bcl 41 0,bci 42 false 41,oo 43 (.lit false 1 1 (.int .i64 0) [(0,(.t 42))]),oo 44 (.append 1 8 (.t 40) (.t 43)),bcr 10 44] [0,3,9,10,12,34,35,36]
def a6i:=rg [
bcl 45 0,bck 46 6 12,bcl 47 9,bcl 48 3,bb8 49 .add 48 1,oo 50 (.callg true n_a4 [(.t 45),(.t 46),(.t 47),(.t 49)] 0),bcr 0 50] [0,3,9,10,34,35,36]
def a6h:=rg [
bb8 51 .add 36 1,bcl 36 51] [0,3,9,10,34,35,36]
def ud:ICode:=(.seq a6l (.seq (.cond (.t 37) .skip (.exit 0)) (.seq (.block 1 (.seq (.seq (.free 12) a6k) (.seq a6j a6i))) a6h)))
def a87:=bce ud.eq_1
def o9:=rg [
bcl 52 0,bcl 53 9,bcl 54 10,bca 55 n_dh [(.t 54)],bcg 56 8 52 53,bcb 57 1 56,bcq 1 57 55] [0]
def oz:=rg [
bcl 58 0,bcr 8 58] [8]
def c_a4:ICode:=(.seq r_a4_0 (.seq r_a4_1 (.seq r_a4_2 (.seq r_a4_3 (.seq (.seq r_a4_4 (.block 0 (.loop ud))) (.seq (.seq (.demote [10]) o9) (.seq oz .ret)))))))
def i_a4:IFunc:=⟨4,[.t 8],c_a4⟩
def a_a4:Advice:=⟨[32,44,50],zzz 9 [a6h,a6i,a6j,a6k,a6l,r_a4_4,r_a4_3,.ret,r_a4_1,r_a4_0]++[(11,[8]),(10,[0]),(2,[0,3,5,9])],[(10,[10])],[(6,[12])],[(50,0)],[]⟩
def r_aj_0:=rg [
oo 1 (.box 6 (.t 0)),bb6 2 false] [1]
def r_aj_1:=rg [
bb7 3 0,bb7 4 0,bb7 5 0,bb6 6 false] [1,3,4,5,6]
def r_aj_2:=rg [
bcb 7 0 1,bcj 8 7] [1,3,4,5,6,8]
def r_aj_3:=rg [
bb8 10 .eql 8 11,bcr 9 10] [1,3,4,5,6,8,9]
def r_aj_4:=rg [
bb8 12 .eql 8 10,bcr 11 12] [1,3,4,5,6,8,11]
def r_aj_5:=rg [
bb8 14 .eql 8 12,bcr 13 14] [1,3,4,5,6,8,13]
def r_aj_6:=rg [
bb8 16 .eql 8 13,bcr 15 16] [1,3,4,5,6,8,15]
def r_aj_7:=rg [
bb8 18 .eql 8 16,bcr 17 18] [1,3,4,5,6,8,17]
def r_aj_8:=rg [
bb8 19 .eql 8 17,bcr 17 19] [1,3,4,5,6,8,17]
def r_aj_9:=rg [
bb8 21 .eql 8 14,bcr 20 21] [1,3,4,5,6,20]
def a14:=rg [
bcl 22 3,bb8 23 .add 22 1,bcr 3 23] [1,3,4,5,6]
def a13:=rg [
bcl 24 3,bb8 25 .add 24 1,bcr 3 25] [1,3,4,5,6]
@[go_sem] def aab:Ops:=[
bcb 26 1 1,bcj 27 26,bci 28 false 27,bcb 29 1 1,bcj 30 29,bci 31 false 30,bcr 3 28,bcr 4 31]
def aac:List (Nat×Nat):=[(0,3),(1,3),(2,3),(0,4),(1,4),(2,4),(0,5),(1,5),(2,5),(3,6),(4,6),(5,6)]
def a12:ICode:= .region aab aac [1,3,4,5,6]
@[go_sem] theorem r_aj_12_u:Gu X K s a12 aac aab [1,3,4,5,6]:=go_regionU' _ _ _ _
def a11:=rg [
bcb 32 2 1,bcj 33 32,bci 34 false 33,bcr 3 34] [1,3,4,5,6]
def a10:=rg [
bcl 35 3,bb8 36 .lss 35 1,bcl 37 36,bcd 38 37 false 3,og 39 37 false (.bin .gtr (.t 38) (ci 255)),bcp 40 37 39] [1,3,4,5,6,40]
def a1z:=rg [
bb6 2 false] [2]
def a1y:=rg [
bcb 41 3 1,bcj 42 41,bcr 5 42] [1,3,4,5,6]
def a1x:=rg [
bcl 43 5,bb8 44 .lss 43 1,bcl 45 44,bcd 46 45 false 5,og 47 45 false (.bin .gtr (.t 46) (ci 4096)),bcp 48 45 47] [1,3,4,5,6,48]
def a1w:=rg [
bb6 2 false] [2]
def a1v:=rg [
bb6 6 true] [1,3,4,5,6]
def a1u:=rg [
bcb 49 2 1,bcj 50 49,bci 51 false 50,bcl 52 3,bb9 53 .neq 51 52,bcl 54 53,og 55 54 false (.fieldA 1 (.t 1)),og 56 54 false (.load none (.t 55)),og 57 54 false (.len false (.t 56)),bcd 58 54 false 4,og 59 54 false (.bin .neq (.t 57) (.t 58)),bcp 60 54 59,bcl 61 60,og 62 61 false (.fieldA 3 (.t 1)),og 63 61 false (.load none (.t 62)),bcd 64 61 false 5,og 65 61 false (.bin .neq (.t 63) (.t 64)),bcp 66 61 65,bcl 67 66,og 68 67 false (.fieldA 1 (.t 1)),og 69 67 false (.load none (.t 68)),og 70 67 false (.call false n_df [(.t 69)]),og 71 67 false (.un .not (.t 70)),bcp 72 67 71] [1,6,72]
def a1t:=rg [
bb6 2 false] [2]
def a1s:=rg [
bcl 73 6] [1,73]
def a1r:=rg [
bcb 74 4 1,bcj 75 74,bb8 76 .geq 75 1,bcl 77 76,og 78 77 true (.fieldA 4 (.t 1)),og 79 77 true (.load none (.t 78)),og 80 77 true (.bin .leq (.t 79) (ci 18)),bco 81 77 80,bcl 82 81,og 83 82 true (.fieldA 5 (.t 1)),og 84 82 true (.load none (.t 83)),og 85 82 true (.bin .geq (.t 84) (ci 0)),bco 86 82 85,bcl 87 86,og 88 87 true (.fieldA 5 (.t 1)),og 89 87 true (.load none (.t 88)),og 90 87 true (.fieldA 4 (.t 1)),og 91 87 true (.load none (.t 90)),og 92 87 true (.bin .leq (.t 89) (.t 91)),bco 93 87 92,bcr 2 93] [2]
def a1q:=rg [
bcb 94 4 1,bcj 95 94,bb8 96 .eql 95 0,bcl 97 96,og 98 97 true (.fieldA 5 (.t 1)),og 99 97 true (.load none (.t 98)),og 100 97 true (.bin .eql (.t 99) (ci 0)),bco 101 97 100,bcr 2 101] [2]
def c_aj:ICode:=(.seq r_aj_0 (.seq r_aj_1 (.seq (.seq r_aj_2 (.block 0 (.seq (.block 6 (.seq (.block 5 (.seq (.block 4 (.seq (.block 3 (.seq (.block 2 (.seq (.block 1 (.seq (.seq (.seq r_aj_3 (.cond (.t 9) (.exit 1) .skip)) (.seq (.seq r_aj_4 (.cond (.t 11) (.exit 2) .skip)) (.seq (.seq r_aj_5 (.cond (.t 13) (.exit 3) .skip)) (.seq (.seq r_aj_6 (.cond (.t 15) (.exit 4) .skip)) (.seq (.seq (.seq r_aj_7 (.cond (.t 17) .skip r_aj_8)) (.cond (.t 17) (.exit 5) .skip)) (.seq r_aj_9 (.cond (.t 20) (.exit 6) .skip))))))) (.exit 0))) a14)) (.seq a13 (.exit 0)))) (.seq a12 (.exit 0)))) (.seq (.seq a11 (.seq a10 (.cond (.t 40) (.seq a1z .ret) .skip))) (.exit 0)))) (.seq (.seq a1y (.seq a1x (.cond (.t 48) (.seq a1w .ret) .skip))) (.exit 0)))) (.seq a1v (.exit 0))))) (.seq a1u (.cond (.t 72) (.seq a1t .ret) (.seq a1s (.cond (.t 73) (.seq a1r .ret) (.seq a1q .ret))))))))
def i_aj:IFunc:=⟨1,[.t 2],c_aj⟩
def a_aj:=zzy (zzz 24 [a1q,a1r,a1s,a1t,a1u,a1v,a1w,a1x,a1y,a1z,a10,a11,.ret,a13,a14,r_aj_9,r_aj_8,r_aj_7,r_aj_6,r_aj_5,r_aj_4,r_aj_3,r_aj_2,r_aj_1,r_aj_0]++[(12,[1,3,4,5,6])])
def r_a7_0:=rg [
oo 3 (.box 6 (.t 0)),bb7 6 0] [1,2,3]
def r_a7_1:=rg [
bcl 11 1,bb8 12 .gtr 11 16,bcl 13 12,bcd 14 13 false 2,og 15 13 false (.nilck (.t 14)),og 16 13 false (.load none (.t 15)),og 17 13 false (.bin .geq (.t 16) (ci 100)),bcp 18 13 17,bcr 10 18] [1,2,3,10]
def r_a7_2:=rg [
bb7 6 4] [6]
def r_a7_3:=rg [
bcb 20 0 3,bcj 21 20,bb8 22 .eql 21 5,bcl 23 22,og 24 23 false (.fieldA 0 (.t 3)),og 25 23 false (.load none (.t 24)),og 26 23 false (.bin .eql (.t 25) (ci 6)),bcp 27 23 26,bcr 19 27] [1,2,3,19]
def r_a7_4:=rg [
bb7 6 5] [6]
def r_a7_5:=rg [
bcb 29 0 3,bcj 30 29,bb8 31 .lss 30 0,bcl 32 31,og 33 32 false (.fieldA 0 (.t 3)),og 34 32 false (.load none (.t 33)),og 35 32 false (.bin .gtr (.t 34) (ci 17)),bcp 36 32 35,bcl 37 36,og 38 37 false (.load (some 6) (.t 3)),og 39 37 false (.call false n_aj [(.t 38)]),og 40 37 false (.un .not (.t 39)),bcp 41 37 40,bcr 28 41] [1,2,3,28]
def r_a7_6:=rg [
bb7 6 1] [6]
def r_a7_7:=rg [
bcl 42 2,bcm 43 42,bcj 44 43,bb8 45 .add 44 1,bcm 46 42,bcq 1 46 45] [1,2,3]
def r_a7_8:=rg [
bcb 47 2 3,bcj 48 47,bci 49 false 48,oo 50 (.mv (ci 0))] [1,2,48,49,50]
def a56:=rg [
bb9 51 .lss 50 49] [1,2,48,49,50,51]
def ajf:=rg [
bcg 52 6 48 50,bck 53 6 52,oo 8 (.alloc [(.int .i64 0),.nilS,.nilS,(.int .i64 0),(.int .i64 0),(.int .i64 0)]),bcq 6 8 53] [1,2,8,48,49,50]
def aje:=rg [
bck 54 6 8,bcl 55 1,bb8 56 .add 55 1,bcl 57 2,bca 58 n_a7 [(.t 54),(.t 56),(.t 57)],bcr 9 58] [1,2,9,48,49,50]
def ajd:=rg [
bcl 59 9,bb8 60 .neq 59 0] [1,2,9,48,49,50,60]
def ajc:=rg [
bcl 61 9,bcr 6 61] [6]
def ajb:=rg [
bb8 62 .add 50 1,bcl 50 62] [1,2,48,49,50]
def akz:ICode:=(.seq a56 (.seq (.cond (.t 51) .skip (.exit 1)) (.seq (.block 2 (.seq (.seq (.free 8) ajf) (.seq aje (.seq ajd (.cond (.t 60) (.seq ajc .ret) .skip))))) ajb)))
def a88:=bce akz.eq_1
def aja:=rg [
bb7 6 0] [6]
def c_a7:ICode:=(.seq r_a7_0 (.seq (.block 0 (.seq r_a7_1 (.cond (.t 10) (.seq r_a7_2 .ret) (.seq r_a7_3 (.cond (.t 19) (.seq r_a7_4 .ret) (.seq r_a7_5 (.cond (.t 28) (.seq r_a7_6 .ret) .skip))))))) (.seq r_a7_7 (.seq (.seq r_a7_8 (.block 1 (.loop akz))) (.seq aja .ret)))))
def i_a7:IFunc:=⟨3,[.t 6],c_a7⟩
def a_a7:Advice:=⟨[],zzz 14 [ajb,ajc,ajd,aje,ajf,a56,r_a7_8,r_a7_7,r_a7_6,r_a7_5,r_a7_4,r_a7_3,r_a7_2,r_a7_1,r_a7_0]++[(15,[6])],[],[(10,[8])],[],[]⟩
def r_b0_0:=rg [
oo 1 (.box 6 (.t 0)),bb7 2 0] [1]
def r_b0_1:=rg [
oo 3 (.alloc [(.int .i64 0)]),ow (.store 1 (.t 3) (ci 0))] [1,3]
def r_b0_2:=rg [
bck 4 6 1,bca 5 n_a7 [(.t 4),(ci 1),(.t 3)],bcr 2 5] [2]
def c_b0:ICode:=(.seq r_b0_0 (.seq r_b0_1 (.seq r_b0_2 .ret)))
def i_b0:IFunc:=⟨1,[.t 2],c_b0⟩
def a_b0:=zzy (zzz 2 [r_b0_2,r_b0_1,r_b0_0])
def r_bq_0:=rg [
oo 1 (.box 6 (.t 0)),oo 2 (.asg (.c .nilS))] [1]
def r_bq_1:=rg [
bck 3 6 1,bca 4 n_b0 [(.t 3)],bb8 5 .neq 4 0] [1,5]
@[go_sem] def r_bq_2_o:Ops:=[
oo 2 (.asg (.c .nilS))]
def r_bq_2:=rg r_bq_2_o [2]
def r_bq_3:=rg [
bck 6 6 1,oo 7 (.callg false n_a4 [(.c .nilS),(.t 6),(ci (-1)),(ci 1)] 0),bca 8 n_cx [(.t 7)],bcr 2 8] [2]
def c_bq:ICode:=(.seq r_bq_0 (.seq r_bq_1 (.cond (.t 5) (.seq r_bq_2 .ret) (.seq r_bq_3 .ret))))
def i_bq:IFunc:=⟨1,[.t 2],c_bq⟩
def a_bq:Advice:=⟨[],zzz 3 [r_bq_3,.ret,r_bq_1,r_bq_0]++[(2,[2])],[],[],[(7,0)],[]⟩
def r_ag_0:=rg [
oo 4 (.box 6 (.t 0)),bb6 8 false] [1,2,3,4]
def r_ag_1:=rg [
bca 17 n_dg [],bcn 18 17] [1,2,3,4,18]
@[go_sem] def r_ag_2_o:Ops:=[
bb6 8 false]
def r_ag_2:=rg r_ag_2_o [8]
def r_ag_3:=rg [
bck 19 6 4,bca 20 n_br [(.t 19)],bcn 21 20,bcl 22 21,og 23 22 false (.load (some 6) (.t 4)),og 24 22 false (.call false n_bp [(.t 23)]),og 25 22 false (.bin .neq (.t 24) (ci 0)),bcp 26 22 25,bcl 27 26,bcd 28 27 false 1,og 29 27 false (.bin .lss (.t 28) (ci 9)),bcp 30 27 29,bcl 31 30,bcd 32 31 false 1,og 33 31 false (.bin .gtr (.t 32) (ci 268435456)),bcp 34 31 33,bcl 35 34,bcd 36 35 false 3,og 37 35 false (.len false (.t 36)),og 38 35 false (.bin .gtr (.t 37) (ci 100)),bcp 39 35 38] [1,2,3,4,39]
def r_ag_4:=rg [
bb6 8 true] [8]
def r_ag_5:=rg [
bck 40 6 4,oo 41 (.build [(.int .i64 0),.nilS,(.int .i64 0),.nilS,.nilS,(.int .i64 0),(.int .i64 0),(.int .i64 0),.nilS,(.int .i64 0),.nilS,(.int .i64 0)] [(2,6,(.t 40)),(9,1,(ci 5)),(11,1,(ci 7))]),oo 9 (.alloc [(.int .i64 0),.nilS,(.int .i64 0),.nilS,.nilS,(.int .i64 0),(.int .i64 0),(.int .i64 0),.nilS,(.int .i64 0),.nilS,(.int .i64 0)]),bcq 12 9 41] [1,2,3,4,9]
def r_ag_6:=rg [
bck 42 6 4,bca 43 n_bl [(.t 42)],bcr 10 43] [1,2,3,4,9,10]
def r_ag_7:=rg [
bb7 11 0] [1,2,3,4,9,10,11]
def a2o:=rg [
bcl 44 11,bcl 45 10,bci 46 false 45,bb9 47 .lss 44 46] [1,2,3,4,9,10,11,47]
@[go_sem] def aro:Ops:=[
bcb 50 10 9,bcj 51 50,oo 52 (.build [(.int .i64 0),(.bool false),(.bool false),(.bool false),(.int .i64 0),(.int .i64 0),.nilS,.nilS,(.bool false),(.int .i64 0),(.int .i64 0),.nilS,.nilS,(.bool false),(.int .i64 0)] [(0,1,(ci 1))]),oo 53 (.lit false 15 1 (.agg [(.int .i64 0),(.bool false),(.bool false),(.bool false),(.int .i64 0),(.int .i64 0),(.sl []),(.sl []),(.bool false),(.int .i64 0),(.int .i64 0),(.sl []),(.sl []),(.bool false),(.int .i64 0)]) [(0,(.t 52))]),oo 54 (.build [(.int .i64 0),.nilS,(.int .i64 0),.nilS,.nilS,(.int .i64 0),(.int .i64 0),(.int .i64 0),.nilS,(.int .i64 0),.nilS,(.int .i64 0)] [(10,1,(.t 53))]),bca 55 n_a6 [(.t 54)],oo 56 (.field 10 none (.t 55)),oo 57 (.idxA 15 (.t 56) (ci 0)),bck 58 15 57,oo 59 (.lit false 15 1 (.agg [(.int .i64 0),(.bool false),(.bool false),(.bool false),(.int .i64 0),(.int .i64 0),(.sl []),(.sl []),(.bool false),(.int .i64 0),(.int .i64 0),(.sl []),(.sl []),(.bool false),(.int .i64 0)]) [(0,(.t 58))]),oo 60 (.append 15 176 (.t 51) (.t 59)),bcb 61 10 9,bcq 1 61 60]
def arp:List (Nat×Nat):=[(0,2),(1,2),(0,3),(1,3),(0,4),(1,4),(0,5),(1,5),(0,6),(1,6),(0,7),(1,7),(0,8),(1,8),(0,9),(1,9)]
def a2n:ICode:= .region aro arp [1,2,3,4,9,10,11]
@[go_sem] theorem r_ag_9_u:Gu X K s a2n arp aro [1,2,3,4,9,10,11]:=go_regionU' _ _ _ _
def aid:=rg [
bcl 48 11,bb8 49 .add 48 1,bcr 11 49] [1,2,3,4,9,10,11]
def akv:ICode:=(.seq (.seq a2o (.cond (.t 47) .skip (.exit 0))) (.seq (.block 1 a2n) aid))
def a89:=bce akv.eq_1
def a2v:=rg [
bck 63 12 9,bca 64 n_ac [(.t 63)],bcl 62 64,bcs 65 62 0,bcs 66 62 1,bcr 12 65,bcr 13 66] [1,2,3,4,9,10,12,13]
def a2u:=rg [
bcl 67 13,bb8 68 .neq 67 0,bcl 69 68,og 70 69 false (.load (some 6) (.t 4)),og 71 69 false (.call false n_bq [(.t 70)]),og 72 69 false (.len false (.t 71)),bcd 73 69 false 10,og 74 69 false (.len false (.t 73)),og 75 69 false (.bin .neq (.t 72) (.t 74)),bcp 76 69 75] [1,2,3,9,12,13,76]
@[go_sem] def a2t:Ops:=[
bcl 77 13,bb8 78 .neq 77 0,bcr 8 78]
def r_ag_14:=rg a2t [8]
def a2s:=rg [
bcl 79 1,bcl 80 2,oo 81 (.callg true n_bf [(.c .nilS),(.t 79),(.t 80)] 0),bcl 82 1,bcl 83 3,oo 84 (.callg true n_ba [(.t 81),(.t 82),(.t 83)] 0),bcr 14 84] [1,2,9,12,14]
def a2r:=rg [
bcl 85 14,bcl 86 12,oo 87 (.append 1 1 (.t 85) (.t 86)),bcl 88 1,bb8 89 .add 88 1,bcl 90 2,oo 91 (.callg false n_bf [(.c .nilS),(.t 89),(.t 90)] 0),oo 92 (.append 1 1 (.t 87) (.t 91)),bcr 14 92] [9,14]
def a2q:=rg [
bcl 94 14,bca 95 n_ap [(.t 94)],bcl 93 95,bcs 96 93 0,bcs 97 93 1,oo 15 (.alloc [(.int .i64 0),.nilS,(.int .i64 0),.nilS,.nilS,(.int .i64 0),(.int .i64 0),(.int .i64 0),.nilS,(.int .i64 0),.nilS,(.int .i64 0)]),bcq 12 15 96,bcr 16 97] [9,15,16]
@[go_sem] def aav:Ops:=[
bcl 98 16,bb8 99 .eql 98 0,bcl 100 99,og 101 100 true (.load (some 12) (.t 15)),og 102 100 true (.call false n_a6 [(.t 101)]),og 103 100 true (.load (some 12) (.t 9)),og 104 100 true (.call false n_ai [(.t 102),(.t 103)]),bco 105 100 104,bcr 8 105]
def aaw:List (Nat×Nat):=[(3,5),(4,5)]
def a2p:ICode:= .region aav aaw [8]
@[go_sem] theorem r_ag_18_u:Gu X K s a2p aaw aav [8]:=go_regionU' _ _ _ _
def c_ag:ICode:=(.seq r_ag_0 (.seq r_ag_1 (.cond (.t 18) (.seq r_ag_2 .ret) (.seq r_ag_3 (.cond (.t 39) (.seq r_ag_4 .ret) (.seq r_ag_5 (.seq r_ag_6 (.seq (.seq r_ag_7 (.block 0 (.loop akv))) (.seq a2v (.seq a2u (.cond (.t 76) (.seq r_ag_14 .ret) (.seq a2s (.seq a2r (.seq (.seq (.demote [14]) a2q) (.seq a2p .ret)))))))))))))))
def i_ag:IFunc:=⟨4,[.t 8],c_ag⟩
def a_ag:Advice:=⟨[60,81,84,87,92],zzz 10 [aid,.ret,a2o,r_ag_7,r_ag_6,r_ag_5,r_ag_4,r_ag_3,.ret,r_ag_1,r_ag_0]++[(17,[8]),(16,[9,15,16]),(15,[9,14]),(14,[1,2,9,12,14]),(13,[8]),(12,[1,2,3,9,12,13,76]),(11,[1,2,3,4,9,10,12,13]),(9,[1,2,3,4,9,10,11]),(2,[8])],[(16,[14])],[],[(81,0),(84,0),(91,0)],[]⟩
def tbl:List (FuncId×IFunc):=[(n_bm,i_bm),(n_ai,i_ai),(n_bt,i_bt),(n_bu,i_bu),(n_ce,i_ce),(n_bw,i_bw),(n_aa,i_aa),(n_ab,i_ab),(n_ba,i_ba),(n_bc,i_bc),(n_bz,i_bz),(n_bf,i_bf),(n_cc,i_cc),(n_ac,i_ac),(n_cl,i_cl),(n_a6,i_a6),(n_bl,i_bl),(n_af,i_af),(n_al,i_al),(n_bp,i_bp),(n_am,i_am),(n_br,i_br),(n_aq,i_aq),(n_cr,i_cr),(n_av,i_av),(n_aw,i_aw),(n_cd,i_cd),(n_ax,i_ax),(n_a5,i_a5),(n_bn,i_bn),(n_bv,i_bv),(n_a9,i_a9),(n_ao,i_ao),(n_az,i_az),(n_ah,i_ah),(n_bx,i_bx),(n_cf,i_cf),(n_bo,i_bo),(n_ay,i_ay),(n_bk,i_bk),(n_ak,i_ak),(n_bh,i_bh),(n_ap,i_ap),(n_ct,i_ct),(n_a8,i_a8),(n_cg,i_cg),(n_b8,i_b8),(n_bg,i_bg),(n_cn,i_cn),(n_ck,i_ck),(n_bb,i_bb),(n_a4,i_a4),(n_aj,i_aj),(n_a7,i_a7),(n_b0,i_b0),(n_bq,i_bq),(n_ag,i_ag)]
def clips:List FuncId:=[68,67,122,121,108,64,63,72,28,61,59]
noncomputable def tab:List AF:=[⟨98,Tryz.f98,⟨[],[(5,[2]),(4,[0,3]),(3,[0,3]),(2,[0,3,11]),(1,[0,3]),(0,[0])],[],[],[],[]⟩⟩,
⟨99,Tryz.f99,⟨[],[(3,[2]),(2,[2]),(1,[0,4]),(0,[0])],[],[],[],[]⟩⟩,
⟨57,Tryz.f57,⟨[],[(8,[4]),(7,[4]),(6,[5,32]),(5,[0,5]),(4,[0,1,5,16]),(3,[0,1,5]),(2,[0,1,5,12]),(1,[0,1,5]),(0,[0,1])],[],[],[],[]⟩⟩,
⟨55,Tryz.f55,⟨[11],[(1,[6]),(0,[0,1,2])],[],[],[(11,0)],[]⟩⟩,
⟨95,Tryz.f95,⟨[],[(1,[4]),(0,[0,1])],[],[],[],[]⟩⟩,
⟨52,Tryz.f52,⟨[],[(1,[4]),(0,[2,3])],[],[],[],[]⟩⟩,
⟨19,Tryz.f19,⟨[],[(1,[4]),(0,[2,3])],[],[],[],[]⟩⟩,
⟨86,Tryz.f86,⟨[],[(12,[6,7]),(11,[6,7]),(10,[2,3,6,36]),(3,[2,3,6]),(5,[2,3,6]),(9,[2,3,6]),(8,[6,7]),(7,[3,4,6,28]),(6,[2,3,4,6,16]),(4,[2,3,4,6,9,12]),(2,[2,3,4,6,9,10]),(1,[2,3,4,6,9]),(0,[2,3,4,6])],[],[],[],[]⟩⟩,
⟨85,Tryz.f85,⟨[],[(14,[4]),(13,[4]),(12,[38]),(11,[6]),(10,[6]),(9,[4]),(8,[6,29]),(7,[5,6]),(6,[5,6,18]),(5,[2,5,6,11,16]),(4,[2,5,6,11,14]),(3,[2,5,6,11,12]),(2,[2,5,6,11]),(1,[2,5,6]),(0,[2,3])],[],[],[],[]⟩⟩,
⟨115,Tryz.f115,⟨[],[(8,[2]),(7,[3,6,7,8]),(6,[3,6,7,8]),(5,[3,6,7,8,14]),(4,[3,5,6,7,8]),(3,[3,6,7,8,9]),(2,[3,6,7,8]),(1,[0,3]),(0,[0])],[],[],[],[]⟩⟩,
⟨84,Tryz.f84,⟨[],[(9,[4]),(8,[4]),(7,[4]),(6,[3,18]),(5,[3,10]),(4,[3,6,10]),(3,[2,3,6,7]),(2,[2,3,6,7]),(1,[2,3,6]),(0,[2,3])],[],[],[],[]⟩⟩,
⟨114,Tryz.f114,⟨[],[(1,[4]),(0,[0,1])],[],[],[],[]⟩⟩,
⟨113,Tryz.f113,⟨[],[(12,[2]),(11,[3,4]),(10,[3,4]),(9,[3,4,22]),(8,[3,4]),(7,[3,4]),(6,[3,4]),(5,[3,4]),(4,[3,4,10]),(3,[3,4,7]),(2,[3,4]),(1,[0,3]),(0,[0])],[],[],[],[]⟩⟩,
⟨112,Tryz.f112,⟨[],[(1,[4]),(0,[0,1])],[],[],[],[]⟩⟩,
⟨83,Tryz.f83,⟨[],[(19,[4]),(3,[4]),(5,[4]),(7,[4]),(10,[4]),(12,[4]),(14,[4]),(16,[4]),(18,[4]),(17,[2,3,50]),(15,[2,3,6,43]),(13,[2,3,6,35]),(11,[2,3,6,33]),(9,[2,3,6,27]),(8,[2,3,6,27]),(6,[2,3,6,22]),(4,[2,3,6,17]),(2,[2,3,6,7]),(1,[2,3,6]),(0,[2,3])],[],[],[],[]⟩⟩,
⟨111,Tryz.f111,⟨[],[(7,[2]),(6,[2]),(5,[7]),(4,[3,7]),(3,[3,4]),(2,[3,4]),(1,[3]),(0,[0])],[],[],[],[]⟩⟩,
⟨110,Tryz.f110,⟨[],[(7,[2]),(6,[2]),(5,[7]),(4,[3,7]),(3,[3,4]),(2,[3,4]),(1,[3]),(0,[0])],[],[],[],[]⟩⟩,
⟨82,Tryz.f82,⟨[],[(3,[4]),(2,[4]),(1,[2,3,6]),(0,[2,3])],[],[],[],[]⟩⟩,
⟨49,Tryz.f49,⟨[],[(20,[4]),(19,[2,3,41,42,43]),(18,[4]),(17,[2,3,10,41,42,43,75]),(16,[2,3,10,41,42,43]),(15,[4]),(14,[2,3,7,8,41,42,43,70]),(13,[2,3,6,7,8,9,41,42,43]),(12,[2,3,6,7,41,42,43]),(11,[2,3,41,42,43,44]),(10,[2,3,41,42,43]),(9,[4]),(8,[2,3,5,38]),(7,[2,3,5]),(2,[4]),(4,[4]),(6,[4]),(5,[2,3,30]),(3,[2,3,27]),(1,[2,3,11]),(0,[2,3])],[],[(12,[7]),(13,[8])],[],[]⟩⟩,
⟨50,Tryz.f50,⟨[],[(1,[2]),(0,[1,2])],[],[],[],[]⟩⟩,
⟨81,Tryz.f81,⟨[],[(3,[6]),(2,[7]),(1,[0,2,7,8]),(0,[0,1,2])],[],[],[],[]⟩⟩,
⟨130,Tryz.f130,⟨[],[(4,[4,5]),(3,[4,5]),(2,[6,19]),(1,[0,1,6]),(0,[0,1])],[],[],[],[]⟩⟩,
⟨142,Tryz.f142,⟨[],[(3,[2]),(2,[2]),(1,[0,4]),(0,[0])],[],[],[],[]⟩⟩,
⟨129,Tryz.f129,⟨[],[(9,[4,5]),(6,[4,5]),(8,[4,5]),(7,[7,43]),(5,[7,8,28]),(4,[6,7,8]),(3,[0,1,6,7]),(2,[4,5]),(1,[0,1,14]),(0,[0,1])],[],[],[],[]⟩⟩,
⟨128,Tryz.f128,⟨[],[(1,[2]),(0,[0])],[],[],[],[]⟩⟩,
⟨139,Tryz.f139,⟨[],[(4,[4,5,6]),(3,[4,5,6]),(2,[0,1,7,12]),(1,[0,1,7]),(0,[0,1])],[],[],[],[]⟩⟩,
⟨127,Tryz.f127,⟨[],[(1,[4,5,6]),(0,[0,1])],[],[],[],[]⟩⟩,
⟨148,Tryz.f148,⟨[],[(1,[4]),(0,[0,1])],[],[],[],[]⟩⟩,
⟨138,Tryz.f138,⟨[],[(3,[4,5]),(2,[4,5]),(1,[0,1,9]),(0,[0,1])],[],[],[],[]⟩⟩,
⟨126,Tryz.f126,⟨[],[(1,[4,5]),(0,[0,1])],[],[],[],[]⟩⟩,
⟨109,Tryz.f109,⟨[],[(21,[4,5]),(20,[7,11,59,60,61]),(19,[7,11,59,60,61]),(18,[4,5]),(17,[7,17,59,60,61,87]),(16,[7,16,17,18,59,60,61]),(15,[7,14,15,16,59,60,61]),(14,[7,11,14,59,60,61]),(13,[7,11,14,59,60,61,68]),(12,[7,11,14,59,60,61]),(11,[7,11,13,59,60,61]),(10,[7,11,59,60,61,62]),(9,[7,11,59,60,61]),(8,[1,7,8,9,11]),(5,[4,5]),(7,[4,5]),(6,[1,7,8,9,45]),(4,[1,7,8,9,33]),(3,[1,7,8,9,10]),(2,[1,6,7]),(1,[0,1]),(0,[0,1])],[],[],[],[]⟩⟩,
⟨80,Tryz.f80,⟨[],[(6,[4,5]),(5,[8]),(4,[0,8,9]),(3,[4,5]),(2,[0,6,20]),(1,[0,6,7]),(0,[0,1])],[],[],[],[]⟩⟩,
⟨77,Tryz.f77,⟨[],[(4,[4,5,6]),(3,[4,5,7]),(2,[0,4,5,7,8]),(1,[0,1,4,7]),(0,[0,1])],[],[],[],[]⟩⟩,
⟨78,Tryz.f78,⟨[],[(1,[4,5]),(0,[0,1])],[],[],[],[]⟩⟩,
⟨76,Tryz.f76,⟨[],[(4,[4,5,6]),(3,[4,5,7]),(2,[0,4,5,7,8]),(1,[0,1,4,7]),(0,[0,1])],[],[],[],[]⟩⟩,
⟨107,Tryz.f107,⟨[],[(2,[4,5]),(1,[6,7]),(0,[0,1])],[],[],[],[]⟩⟩,
⟨75,Tryz.f75,⟨[],[(1,[4,5]),(0,[0,1])],[],[],[],[]⟩⟩,
⟨48,Tryz.f48,⟨[],[(25,[4]),(24,[]),(23,[0,1]),(22,[]),(21,[]),(20,[0,1]),(19,[]),(18,[1,5]),(17,[0,1,5,106]),(16,[0,1,5]),(15,[4]),(14,[0,1,5,6,96]),(13,[0,1,5,6]),(12,[]),(11,[0,1]),(10,[]),(9,[0,1]),(8,[0,1,25]),(7,[0,1,12,23]),(6,[0,1,12,21]),(5,[0,1,12,19]),(4,[0,1,12,17]),(3,[0,1,12,15]),(2,[0,1,12,13]),(1,[0,1,12]),(0,[0,1])],[],[],[],[]⟩⟩,
⟨94,Tryz.f94,⟨[],[(0,[])],[],[],[],[]⟩⟩,
⟨93,Tryz.f93,⟨[],[(1,[]),(0,[0,1,2,6])],[],[],[],[]⟩⟩,
⟨92,Tryz.f92,⟨[],[(2,[]),(1,[0,1]),(0,[0,1,4])],[],[],[],[]⟩⟩,
⟨118,Tryz.f118,⟨[],[(3,[2]),(2,[2]),(1,[0,4]),(0,[0])],[],[],[],[]⟩⟩,
⟨91,Tryz.f91,⟨[],[(12,[4]),(11,[8]),(10,[8,42]),(9,[0,8]),(8,[0,5,7,8,34]),(7,[0,1,5,7,8]),(6,[0,1,5,7]),(5,[0,1,5]),(4,[0,1,5,6,21]),(3,[0,1,5,6]),(2,[0,1,5]),(1,[0,1]),(0,[0,1])],[],[],[],[]⟩⟩,
⟨90,Tryz.f90,⟨[],[(0,[])],[],[],[],[]⟩⟩,
⟨89,Tryz.f89,⟨[],[(0,[])],[],[],[],[]⟩⟩,
⟨88,Tryz.f88,⟨[],[(1,[6]),(0,[0,1,2])],[],[],[],[]⟩⟩,
⟨87,Tryz.f87,⟨[],[(0,[])],[],[],[],[]⟩⟩,
⟨51,Tryz.f51,⟨[],[(29,[4]),(10,[5]),(9,[5,6,10]),(15,[5]),(14,[5,6,10]),(13,[3,5,6,7,10]),(12,[3,5,6,7,10,30]),(17,[5]),(20,[5]),(19,[5,8,10]),(22,[5]),(26,[5]),(25,[3,5]),(24,[3,5,6,9,65]),(28,[5]),(27,[5,6,9,80]),(23,[3,5,6,9,18,62]),(21,[3,5,6,9,10,18,57]),(18,[3,5,6,8,9,10,18,49]),(16,[3,5,6,7,8,9,10,18,44]),(11,[3,5,6,7,8,9,10,18,27]),(8,[3,5,6,7,8,9,10,18,19]),(7,[3,5,6,7,8,9,10,18]),(6,[2,3,5,6,7,8,9,10]),(5,[2,3,5,6,7,8,9]),(4,[2,3,5,6,7,8]),(3,[2,3,5,6,7]),(2,[2,3,5,6]),(1,[2,3,5]),(0,[2,3])],[],[],[],[]⟩⟩,
⟨17,Tryz.f17,⟨[],[(8,[4]),(7,[5,7]),(6,[5,7,32]),(5,[3,5,7]),(4,[3,5]),(3,[2,3,5,6,24]),(2,[2,3,5,6]),(1,[2,3,5]),(0,[2,3])],[],[],[],[]⟩⟩,
⟨44,Tryz.f44,⟨[],[(27,[4]),(26,[5,19,20,21]),(25,[5,19,20,21]),(24,[5,8,19,20,21,65,66,67]),(23,[5,8,19,20,21,65,66,67]),(22,[5,8,14,15,19,20,21,65,66,67,73]),(21,[5,8,14,15,19,20,21,65,66,67]),(20,[5,8,19,20,21,65,66,67,68]),(19,[5,8,19,20,21,65,66,67]),(18,[5,7,8,19,20,21,48,49,50]),(17,[5,7,8,19,20,21,48,49,50]),(16,[5,7,8,13,19,20,21,48,49,50]),(15,[5,7,8,19,20,21,48,49,50,51]),(14,[5,7,8,19,20,21,48,49,50]),(13,[5,7,8,19,20,21]),(12,[5,7,8,9,19,20,21,43]),(11,[5,7,8,9,19,20,21,30,31,32]),(10,[5,7,8,9,19,20,21,30,31,32]),(9,[5,7,8,9,11,19,20,21,30,31,32]),(8,[5,7,8,9,19,20,21,30,31,32,33]),(7,[5,7,8,9,19,20,21,30,31,32]),(6,[5,7,8,9,19,20,21]),(5,[5,7,8,19,20,21]),(4,[5,7,19,20,21]),(3,[5,19,20,21,22]),(2,[5,19,20,21]),(1,[3,5]),(0,[0,3])],[],[(4,[7])],[],[]⟩⟩,
⟨105,Tryz.f105,⟨[],[(1,[2]),(0,[0])],[],[],[],[]⟩⟩,
⟨123,Tryz.f123,⟨[],[(7,[4]),(6,[0,1,7,8]),(5,[4]),(4,[0,1,5,7,8,16]),(3,[0,1,5,7,8]),(2,[0,1,7,8,9]),(1,[0,1,7,8]),(0,[0,1])],[],[],[],[]⟩⟩,
⟨104,Tryz.f104,⟨[],[(1,[4]),(0,[0,1])],[],[],[],[]⟩⟩,
⟨69,Tryz.f69,⟨[],[(1,[2]),(0,[0])],[],[],[],[]⟩⟩,
⟨42,Tryz.f42,⟨[],[(1,[2]),(0,[1])],[],[],[],[]⟩⟩,
⟨40,Tryz.f40,⟨[],[(7,[4]),(6,[1,2,8,9,10]),(5,[4]),(4,[1,2,8,9,10,17]),(3,[1,2,6,8,9,10]),(2,[1,2,8,9,10,11]),(1,[1,2,8,9,10]),(0,[1,2])],[],[(3,[6])],[],[]⟩⟩,
⟨15,Tryz.f15,⟨[],[(34,[2,3]),(33,[2,3]),(32,[6,111]),(31,[6]),(30,[1,5,6,88,89,90]),(29,[1,5,6,88,89,90]),(28,[1,5,6,14,15,88,89,90]),(27,[1,5,6,88,89,90,91]),(26,[1,5,6,88,89,90]),(25,[1,5,6]),(24,[1,5,6,66,67,68]),(23,[1,5,6,66,67,68]),(22,[1,5,6,13,66,67,68]),(21,[1,5,6,66,67,68,69]),(20,[1,5,6,66,67,68]),(19,[1,5,6]),(18,[1,5,6,36,37,38]),(17,[1,5,6,36,37,38]),(16,[1,5,6,9,36,37,38,43,44,45]),(15,[1,5,6,9,36,37,38,43,44,45]),(14,[1,5,6,9,10,11,36,37,38,43,44,45]),(13,[1,5,6,9,36,37,38,43,44,45,46]),(12,[1,5,6,9,36,37,38,43,44,45]),(11,[1,5,6,8,9,36,37,38]),(10,[1,5,6,8,36,37,38]),(9,[1,5,6,36,37,38,39]),(8,[1,5,6,36,37,38]),(7,[1,5,6]),(6,[2,3]),(5,[1,5,29]),(4,[1,5]),(3,[2,3]),(2,[1,4,20]),(1,[1,4]),(0,[1])],[],[(10,[8]),(22,[13]),(28,[15])],[],[]⟩⟩,
⟨4,Tryz.f4,⟨[26],[(9,[0]),(8,[1,3,5,6,7,8,9]),(7,[1,2,3,5,6,7]),(6,[1,2,3,4,5]),(5,[1,2,3]),(4,[0]),(3,[1,2,18]),(2,[1,2]),(1,[1]),(0,[])],[],[],[],[]⟩⟩]
set_option maxRecDepth 100000 in
theorem k_bm:cFunc Tryz.prog a_bm Tryz.f39=some i_bm:=vo
set_option maxRecDepth 100000 in
theorem k_ai:cFunc Tryz.prog a_ai Tryz.f14=some i_ai:=vo
set_option maxRecDepth 100000 in
theorem k_bt:cFunc Tryz.prog a_bt Tryz.f97=some i_bt:=vo
set_option maxRecDepth 100000 in
theorem k_bu:cFunc Tryz.prog a_bu Tryz.f56=some i_bu:=vo
set_option maxRecDepth 100000 in
theorem k_ce:cFunc Tryz.prog a_ce Tryz.f96=some i_ce:=vo
set_option maxRecDepth 100000 in
theorem k_bw:cFunc Tryz.prog a_bw Tryz.f54=some i_bw:=vo
set_option maxRecDepth 100000 in
theorem k_aa:cFunc Tryz.prog a_aa Tryz.f26=some i_aa:=vo
set_option maxRecDepth 100000 in
theorem k_ab:cFunc Tryz.prog a_ab Tryz.f25=some i_ab:=vo
set_option maxRecDepth 100000 in
theorem k_ba:cFunc Tryz.prog a_ba Tryz.f11=some i_ba:=vo
set_option maxRecDepth 100000 in
theorem k_bc:cFunc Tryz.prog a_bc Tryz.f31=some i_bc:=vo
set_option maxRecDepth 100000 in
theorem k_bz:cFunc Tryz.prog a_bz Tryz.f30=some i_bz:=vo
set_option maxRecDepth 100000 in
theorem k_bf:cFunc Tryz.prog a_bf Tryz.f12=some i_bf:=vo
set_option maxRecDepth 100000 in
theorem k_cc:cFunc Tryz.prog a_cc Tryz.f24=some i_cc:=vo
set_option maxRecDepth 100000 in
theorem k_ac:cFunc Tryz.prog a_ac Tryz.f9=some i_ac:=vo
set_option maxRecDepth 100000 in
theorem k_cl:cFunc Tryz.prog a_cl Tryz.f23=some i_cl:=vo
set_option maxRecDepth 100000 in
theorem k_a6:cFunc Tryz.prog a_a6 Tryz.f8=some i_a6:=vo
set_option maxRecDepth 100000 in
theorem k_bl:cFunc Tryz.prog a_bl Tryz.f7=some i_bl:=vo
set_option maxRecDepth 100000 in
theorem k_af:cFunc Tryz.prog a_af Tryz.f53=some i_af:=vo
set_option maxRecDepth 100000 in
theorem k_al:cFunc Tryz.prog a_al Tryz.f21=some i_al:=vo
set_option maxRecDepth 100000 in
theorem k_bp:cFunc Tryz.prog a_bp Tryz.f6=some i_bp:=vo
set_option maxRecDepth 100000 in
theorem k_am:cFunc Tryz.prog a_am Tryz.f20=some i_am:=vo
set_option maxRecDepth 100000 in
theorem k_br:cFunc Tryz.prog a_br Tryz.f5=some i_br:=vo
set_option maxRecDepth 100000 in
theorem k_aq:cFunc Tryz.prog a_aq Tryz.f18=some i_aq:=vo
set_option maxRecDepth 100000 in
theorem k_cr:cFunc Tryz.prog a_cr Tryz.f125=some i_cr:=vo
set_option maxRecDepth 100000 in
theorem k_av:cFunc Tryz.prog a_av Tryz.f16=some i_av:=vo
set_option maxRecDepth 100000 in
theorem k_aw:cFunc Tryz.prog a_aw Tryz.f38=some i_aw:=vo
set_option maxRecDepth 100000 in
theorem k_cd:cFunc Tryz.prog a_cd Tryz.f47=some i_cd:=vo
set_option maxRecDepth 100000 in
theorem k_ax:cFunc Tryz.prog a_ax Tryz.f37=some i_ax:=vo
set_option maxRecDepth 100000 in
theorem k_a5:cFunc Tryz.prog a_a5 Tryz.f103=some i_a5:=vo
set_option maxRecDepth 100000 in
theorem k_bn:cFunc Tryz.prog a_bn Tryz.f66=some i_bn:=vo
set_option maxRecDepth 100000 in
theorem k_bv:cFunc Tryz.prog a_bv Tryz.f102=some i_bv:=vo
set_option maxRecDepth 100000 in
theorem k_a9:cFunc Tryz.prog a_a9 Tryz.f79=some i_a9:=vo
set_option maxRecDepth 100000 in
theorem k_ao:cFunc Tryz.prog a_ao Tryz.f65=some i_ao:=vo
set_option maxRecDepth 100000 in
theorem k_az:cFunc Tryz.prog a_az Tryz.f36=some i_az:=vo
set_option maxRecDepth 100000 in
theorem k_ah:cFunc Tryz.prog a_ah Tryz.f35=some i_ah:=vo
set_option maxRecDepth 100000 in
theorem k_bx:cFunc Tryz.prog a_bx Tryz.f74=some i_bx:=vo
set_option maxRecDepth 100000 in
theorem k_cf:cFunc Tryz.prog a_cf Tryz.f45=some i_cf:=vo
set_option maxRecDepth 100000 in
theorem k_bo:cFunc Tryz.prog a_bo Tryz.f34=some i_bo:=vo
set_option maxRecDepth 100000 in
theorem k_ay:cFunc Tryz.prog a_ay Tryz.f33=some i_ay:=vo
set_option maxRecDepth 100000 in
theorem k_bk:cFunc Tryz.prog a_bk Tryz.f101=some i_bk:=vo
set_option maxRecDepth 100000 in
theorem k_ak:cFunc Tryz.prog a_ak Tryz.f62=some i_ak:=vo
set_option maxRecDepth 100000 in
theorem k_bh:cFunc Tryz.prog a_bh Tryz.f32=some i_bh:=vo
set_option maxRecDepth 100000 in
theorem k_ap:cFunc Tryz.prog a_ap Tryz.f13=some i_ap:=vo
set_option maxRecDepth 100000 in
theorem k_ct:cFunc Tryz.prog a_ct Tryz.f116=some i_ct:=vo
set_option maxRecDepth 100000 in
theorem k_a8:cFunc Tryz.prog a_a8 Tryz.f46=some i_a8:=vo
set_option maxRecDepth 100000 in
theorem k_cg:cFunc Tryz.prog a_cg Tryz.f43=some i_cg:=vo
set_option maxRecDepth 100000 in
theorem k_b8:cFunc Tryz.prog a_b8 Tryz.f71=some i_b8:=vo
set_option maxRecDepth 100000 in
theorem k_bg:cFunc Tryz.prog a_bg Tryz.f73=some i_bg:=vo
set_option maxRecDepth 100000 in
theorem k_cn:cFunc Tryz.prog a_cn Tryz.f70=some i_cn:=vo
set_option maxRecDepth 100000 in
theorem k_ck:cFunc Tryz.prog a_ck Tryz.f41=some i_ck:=vo
set_option maxRecDepth 100000 in
theorem k_bb:cFunc Tryz.prog a_bb Tryz.f60=some i_bb:=vo
set_option maxRecDepth 100000 in
theorem k_a4:cFunc Tryz.prog a_a4 Tryz.f29=some i_a4:=vo
set_option maxRecDepth 100000 in
theorem k_aj:cFunc Tryz.prog a_aj Tryz.f100=some i_aj:=vo
set_option maxRecDepth 100000 in
theorem k_a7:cFunc Tryz.prog a_a7 Tryz.f58=some i_a7:=vo
set_option maxRecDepth 100000 in
theorem k_b0:cFunc Tryz.prog a_b0 Tryz.f27=some i_b0:=vo
set_option maxRecDepth 100000 in
theorem k_bq:cFunc Tryz.prog a_bq Tryz.f10=some i_bq:=vo
set_option maxRecDepth 100000 in
theorem k_ag:cFunc Tryz.prog a_ag Tryz.f3=some i_ag:=vo
theorem tbl_ok:Entries Tryz.prog tbl:=
 .cons (.of Tryz.func39 vo k_bm) <|
 .cons (.of Tryz.func14 vo k_ai) <|
 .cons (.of Tryz.func97 vo k_bt) <|
 .cons (.of Tryz.func56 vo k_bu) <|
 .cons (.of Tryz.func96 vo k_ce) <|
 .cons (.of Tryz.func54 vo k_bw) <|
 .cons (.of Tryz.func26 vo k_aa) <|
 .cons (.of Tryz.func25 vo k_ab) <|
 .cons (.of Tryz.func11 vo k_ba) <|
 .cons (.of Tryz.func31 vo k_bc) <|
 .cons (.of Tryz.func30 vo k_bz) <|
 .cons (.of Tryz.func12 vo k_bf) <|
 .cons (.of Tryz.func24 vo k_cc) <|
 .cons (.of Tryz.func9 vo k_ac) <|
 .cons (.of Tryz.func23 vo k_cl) <|
 .cons (.of Tryz.func8 vo k_a6) <|
 .cons (.of Tryz.func7 vo k_bl) <|
 .cons (.of Tryz.func53 vo k_af) <|
 .cons (.of Tryz.func21 vo k_al) <|
 .cons (.of Tryz.func6 vo k_bp) <|
 .cons (.of Tryz.func20 vo k_am) <|
 .cons (.of Tryz.func5 vo k_br) <|
 .cons (.of Tryz.func18 vo k_aq) <|
 .cons (.of Tryz.func125 vo k_cr) <|
 .cons (.of Tryz.func16 vo k_av) <|
 .cons (.of Tryz.func38 vo k_aw) <|
 .cons (.of Tryz.func47 vo k_cd) <|
 .cons (.of Tryz.func37 vo k_ax) <|
 .cons (.of Tryz.func103 vo k_a5) <|
 .cons (.of Tryz.func66 vo k_bn) <|
 .cons (.of Tryz.func102 vo k_bv) <|
 .cons (.of Tryz.func79 vo k_a9) <|
 .cons (.of Tryz.func65 vo k_ao) <|
 .cons (.of Tryz.func36 vo k_az) <|
 .cons (.of Tryz.func35 vo k_ah) <|
 .cons (.of Tryz.func74 vo k_bx) <|
 .cons (.of Tryz.func45 vo k_cf) <|
 .cons (.of Tryz.func34 vo k_bo) <|
 .cons (.of Tryz.func33 vo k_ay) <|
 .cons (.of Tryz.func101 vo k_bk) <|
 .cons (.of Tryz.func62 vo k_ak) <|
 .cons (.of Tryz.func32 vo k_bh) <|
 .cons (.of Tryz.func13 vo k_ap) <|
 .cons (.of Tryz.func116 vo k_ct) <|
 .cons (.of Tryz.func46 vo k_a8) <|
 .cons (.of Tryz.func43 vo k_cg) <|
 .cons (.of Tryz.func71 vo k_b8) <|
 .cons (.of Tryz.func73 vo k_bg) <|
 .cons (.of Tryz.func70 vo k_cn) <|
 .cons (.of Tryz.func41 vo k_ck) <|
 .cons (.of Tryz.func60 vo k_bb) <|
 .cons (.of Tryz.func29 vo k_a4) <|
 .cons (.of Tryz.func100 vo k_aj) <|
 .cons (.of Tryz.func58 vo k_a7) <|
 .cons (.of Tryz.func27 vo k_b0) <|
 .cons (.of Tryz.func10 vo k_bq) <|
 .cons (.of Tryz.func3 vo k_ag) <|
 .nil
theorem tab_ok:ATab Tryz.prog tab:=
 .cons Tryz.func98 vo <|
 .cons Tryz.func99 vo <|
 .cons Tryz.func57 vo <|
 .cons Tryz.func55 vo <|
 .cons Tryz.func95 vo <|
 .cons Tryz.func52 vo <|
 .cons Tryz.func19 vo <|
 .cons Tryz.func86 vo <|
 .cons Tryz.func85 vo <|
 .cons Tryz.func115 vo <|
 .cons Tryz.func84 vo <|
 .cons Tryz.func114 vo <|
 .cons Tryz.func113 vo <|
 .cons Tryz.func112 vo <|
 .cons Tryz.func83 vo <|
 .cons Tryz.func111 vo <|
 .cons Tryz.func110 vo <|
 .cons Tryz.func82 vo <|
 .cons Tryz.func49 vo <|
 .cons Tryz.func50 vo <|
 .cons Tryz.func81 vo <|
 .cons Tryz.func130 vo <|
 .cons Tryz.func142 vo <|
 .cons Tryz.func129 vo <|
 .cons Tryz.func128 vo <|
 .cons Tryz.func139 vo <|
 .cons Tryz.func127 vo <|
 .cons Tryz.func148 vo <|
 .cons Tryz.func138 vo <|
 .cons Tryz.func126 vo <|
 .cons Tryz.func109 vo <|
 .cons Tryz.func80 vo <|
 .cons Tryz.func77 vo <|
 .cons Tryz.func78 vo <|
 .cons Tryz.func76 vo <|
 .cons Tryz.func107 vo <|
 .cons Tryz.func75 vo <|
 .cons Tryz.func48 vo <|
 .cons Tryz.func94 vo <|
 .cons Tryz.func93 vo <|
 .cons Tryz.func92 vo <|
 .cons Tryz.func118 vo <|
 .cons Tryz.func91 vo <|
 .cons Tryz.func90 vo <|
 .cons Tryz.func89 vo <|
 .cons Tryz.func88 vo <|
 .cons Tryz.func87 vo <|
 .cons Tryz.func51 vo <|
 .cons Tryz.func17 vo <|
 .cons Tryz.func44 vo <|
 .cons Tryz.func105 vo <|
 .cons Tryz.func123 vo <|
 .cons Tryz.func104 vo <|
 .cons Tryz.func69 vo <|
 .cons Tryz.func42 vo <|
 .cons Tryz.func40 vo <|
 .cons Tryz.func15 vo <|
 .cons Tryz.func4 vo <|
 .nil
def exts:FuncId→Option (List D→Option V):=fun f=>if f=n_df then some (qu) else if f=n_c9 then some (xFlat) else if f=n_b7 then some (xSeq n_cm) else none
def iters:FuncId→Option (List D→Option (List (List D))):=fun f=>if f=n_cm then some (r8 5) else none
noncomputable def cfg:Cfg:={funcs:=fnsOf Tryz.prog tbl tab,meth:=fun _ _=>none,glob:=fun _=>none,gobj:=fun _=>none,intTy:=fun _=>false,clip:=fun f=>clips.contains f,ext:=exts,iter:=iters}
noncomputable abbrev X_ai:Kx:=fx cfg 0 [.t 4]
theorem e_ai:Oe cfg n_ai 2 [.t 4] c_ai:=fun _ _ _=>ap (fn:=i_ai) rfl rfl _ _ _
theorem o_ai (x0 x1:D):Of X_ai n_ai [.d x0,.d x1] c_ai:=e_ai 0 _ _ rfl rfl
noncomputable abbrev X_bt:Kx:=fx cfg 0 [.t 2]
theorem e_bt:Oe cfg n_bt 1 [.t 2] c_bt:=fun _ _ _=>ap (fn:=i_bt) rfl rfl _ _ _
theorem o_bt (x0:D):Of X_bt n_bt [.d x0] c_bt:=e_bt 0 _ _ rfl rfl
noncomputable abbrev X_bu:Kx:=fx cfg 0 [.t 2]
theorem e_bu:Oe cfg n_bu 1 [.t 2] c_bu:=fun _ _ _=>ap (fn:=i_bu) rfl rfl _ _ _
theorem o_bu (x0:D):Of X_bu n_bu [.d x0] c_bu:=e_bu 0 _ _ rfl rfl
noncomputable abbrev X_bw:Kx:=fx cfg 0 [.t 2]
theorem e_bw:Oe cfg n_bw 1 [.t 2] c_bw:=fun _ _ _=>ap (fn:=i_bw) rfl rfl _ _ _
theorem o_bw (x0:D):Of X_bw n_bw [.d x0] c_bw:=e_bw 0 _ _ rfl rfl
noncomputable abbrev X_aa:Kx:=fx cfg 0 [.t 4]
theorem e_aa:Oe cfg n_aa 2 [.t 4] c_aa:=fun _ _ _=>ap (fn:=i_aa) rfl rfl _ _ _
theorem o_aa (x0 x1:D):Of X_aa n_aa [.d x0,.d x1] c_aa:=e_aa 0 _ _ rfl rfl
noncomputable abbrev X_ab:Kx:=fx cfg 0 [.t 4]
noncomputable abbrev X_ba:Kx:=fx cfg 0 [.t 6]
theorem e_ba:Oe cfg n_ba 3 [.t 6] c_ba:=fun _ _ _=>ap (fn:=i_ba) rfl rfl _ _ _
theorem o_ba (x0 x1 x2:D):Of X_ba n_ba [.d x0,.d x1,.d x2] c_ba:=e_ba 0 _ _ rfl rfl
noncomputable abbrev X_bc:Kx:=fx cfg 0 [.t 4]
theorem e_bc:Oe cfg n_bc 2 [.t 4] c_bc:=fun _ _ _=>ap (fn:=i_bc) rfl rfl _ _ _
theorem o_bc (x0 x1:D):Of X_bc n_bc [.d x0,.d x1] c_bc:=e_bc 0 _ _ rfl rfl
noncomputable abbrev X_bz:Kx:=fx cfg 0 [.t 2]
theorem e_bz:Oe cfg n_bz 1 [.t 2] c_bz:=fun _ _ _=>ap (fn:=i_bz) rfl rfl _ _ _
theorem o_bz (x0:D):Of X_bz n_bz [.d x0] c_bz:=e_bz 0 _ _ rfl rfl
noncomputable abbrev X_bf:Kx:=fx cfg 0 [.t 6]
theorem e_bf:Oe cfg n_bf 3 [.t 6] c_bf:=fun _ _ _=>ap (fn:=i_bf) rfl rfl _ _ _
theorem o_bf (x0 x1 x2:D):Of X_bf n_bf [.d x0,.d x1,.d x2] c_bf:=e_bf 0 _ _ rfl rfl
noncomputable abbrev X_ac:Kx:=fx cfg 0 [.t 2,.t 3]
theorem e_ac:Oe cfg n_ac 1 [.t 2,.t 3] c_ac:=fun _ _ _=>ap (fn:=i_ac) rfl rfl _ _ _
theorem o_ac (x0:D):Of X_ac n_ac [.d x0] c_ac:=e_ac 0 _ _ rfl rfl
noncomputable abbrev X_a6:Kx:=fx cfg 0 [.cell 2 (some 12)]
theorem e_a6:Oe cfg n_a6 1 [.cell 2 (some 12)] c_a6:=fun _ _ _=>ap (fn:=i_a6) rfl rfl _ _ _
theorem o_a6 (x0:D):Of X_a6 n_a6 [.d x0] c_a6:=e_a6 0 _ _ rfl rfl
noncomputable abbrev X_bl:Kx:=fx cfg 0 [.t 2]
theorem e_bl:Oe cfg n_bl 1 [.t 2] c_bl:=fun _ _ _=>ap (fn:=i_bl) rfl rfl _ _ _
theorem o_bl (x0:D):Of X_bl n_bl [.d x0] c_bl:=e_bl 0 _ _ rfl rfl
noncomputable abbrev X_af:Kx:=fx cfg 0 [.t 2]
theorem e_af:Oe cfg n_af 1 [.t 2] c_af:=fun _ _ _=>ap (fn:=i_af) rfl rfl _ _ _
theorem o_af (x0:D):Of X_af n_af [.d x0] c_af:=e_af 0 _ _ rfl rfl
noncomputable abbrev X_al:Kx:=fx cfg 0 [.t 6,.t 7]
theorem e_al:Oe cfg n_al 3 [.t 6,.t 7] c_al:=fun _ _ _=>ap (fn:=i_al) rfl rfl _ _ _
theorem o_al (x0 x1 x2:D):Of X_al n_al [.d x0,.d x1,.d x2] c_al:=e_al 0 _ _ rfl rfl
noncomputable abbrev X_bp:Kx:=fx cfg 0 [.t 2]
theorem e_bp:Oe cfg n_bp 1 [.t 2] c_bp:=fun _ _ _=>ap (fn:=i_bp) rfl rfl _ _ _
theorem o_bp (x0:D):Of X_bp n_bp [.d x0] c_bp:=e_bp 0 _ _ rfl rfl
noncomputable abbrev X_am:Kx:=fx cfg 0 [.t 4]
theorem e_am:Oe cfg n_am 2 [.t 4] c_am:=fun _ _ _=>ap (fn:=i_am) rfl rfl _ _ _
theorem o_am (x0 x1:D):Of X_am n_am [.d x0,.d x1] c_am:=e_am 0 _ _ rfl rfl
noncomputable abbrev X_br:Kx:=fx cfg 0 [.t 2]
theorem e_br:Oe cfg n_br 1 [.t 2] c_br:=fun _ _ _=>ap (fn:=i_br) rfl rfl _ _ _
theorem o_br (x0:D):Of X_br n_br [.d x0] c_br:=e_br 0 _ _ rfl rfl
noncomputable abbrev X_aq:Kx:=fx cfg 0 [.t 4]
theorem e_aq:Oe cfg n_aq 2 [.t 4] c_aq:=fun _ _ _=>ap (fn:=i_aq) rfl rfl _ _ _
theorem o_aq (x0 x1:D):Of X_aq n_aq [.d x0,.d x1] c_aq:=e_aq 0 _ _ rfl rfl
noncomputable abbrev X_av:Kx:=fx cfg 0 [.cell 4 (some 15),.t 5]
theorem e_av:Oe cfg n_av 2 [.cell 4 (some 15),.t 5] c_av:=fun _ _ _=>ap (fn:=i_av) rfl rfl _ _ _
theorem o_av (x0 x1:D):Of X_av n_av [.d x0,.d x1] c_av:=e_av 0 _ _ rfl rfl
noncomputable abbrev X_aw:Kx:=fx cfg 0 [.t 4,.t 5]
theorem e_aw:Oe cfg n_aw 2 [.t 4,.t 5] c_aw:=fun _ _ _=>ap (fn:=i_aw) rfl rfl _ _ _
theorem o_aw (x0 x1:D):Of X_aw n_aw [.d x0,.d x1] c_aw:=e_aw 0 _ _ rfl rfl
noncomputable abbrev X_cd:Kx:=fx cfg 0 [.t 4,.t 5]
theorem e_cd:Oe cfg n_cd 2 [.t 4,.t 5] c_cd:=fun _ _ _=>ap (fn:=i_cd) rfl rfl _ _ _
theorem o_cd (x0 x1:D):Of X_cd n_cd [.d x0,.d x1] c_cd:=e_cd 0 _ _ rfl rfl
noncomputable abbrev X_ax:Kx:=fx cfg 0 [.t 2,.t 3]
theorem e_ax:Oe cfg n_ax 1 [.t 2,.t 3] c_ax:=fun _ _ _=>ap (fn:=i_ax) rfl rfl _ _ _
theorem o_ax (x0:D):Of X_ax n_ax [.d x0] c_ax:=e_ax 0 _ _ rfl rfl
noncomputable abbrev X_a5:Kx:=fx cfg 0 [.cell 6 (some 6),.t 7]
theorem e_a5:Oe cfg n_a5 3 [.cell 6 (some 6),.t 7] c_a5:=fun _ _ _=>ap (fn:=i_a5) rfl rfl _ _ _
noncomputable abbrev X_bn:Kx:=fx cfg 0 [.cell 2 (some 6),.t 3]
theorem e_bn:Oe cfg n_bn 1 [.cell 2 (some 6),.t 3] c_bn:=fun _ _ _=>ap (fn:=i_bn) rfl rfl _ _ _
theorem o_bn (x0:D):Of X_bn n_bn [.d x0] c_bn:=e_bn 0 _ _ rfl rfl
noncomputable abbrev X_bv:Kx:=fx cfg 0 [.t 4]
theorem e_bv:Oe cfg n_bv 2 [.t 4] c_bv:=fun _ _ _=>ap (fn:=i_bv) rfl rfl _ _ _
theorem o_bv (x0 x1:D):Of X_bv n_bv [.d x0,.d x1] c_bv:=e_bv 0 _ _ rfl rfl
noncomputable abbrev X_a9:Kx:=fx cfg 0 [.t 4,.t 5]
theorem e_a9:Oe cfg n_a9 2 [.t 4,.t 5] c_a9:=fun _ _ _=>ap (fn:=i_a9) rfl rfl _ _ _
theorem o_a9 (x0 x1:D):Of X_a9 n_a9 [.d x0,.d x1] c_a9:=e_a9 0 _ _ rfl rfl
noncomputable abbrev X_ao:Kx:=fx cfg 0 [.cell 2 (some 8),.t 3]
theorem e_ao:Oe cfg n_ao 1 [.cell 2 (some 8),.t 3] c_ao:=fun _ _ _=>ap (fn:=i_ao) rfl rfl _ _ _
theorem o_ao (x0:D):Of X_ao n_ao [.d x0] c_ao:=e_ao 0 _ _ rfl rfl
noncomputable abbrev X_az:Kx:=fx cfg 0 [.cell 2 (some 6),.t 3]
theorem e_az:Oe cfg n_az 1 [.cell 2 (some 6),.t 3] c_az:=fun _ _ _=>ap (fn:=i_az) rfl rfl _ _ _
theorem o_az (x0:D):Of X_az n_az [.d x0] c_az:=e_az 0 _ _ rfl rfl
noncomputable abbrev X_ah:Kx:=fx cfg 0 [.t 2,.t 3]
theorem e_ah:Oe cfg n_ah 1 [.t 2,.t 3] c_ah:=fun _ _ _=>ap (fn:=i_ah) rfl rfl _ _ _
theorem o_ah (x0:D):Of X_ah n_ah [.d x0] c_ah:=e_ah 0 _ _ rfl rfl
noncomputable abbrev X_bx:Kx:=fx cfg 0 [.cell 6 (some 5),.cell 7 none]
theorem e_bx:Oe cfg n_bx 3 [.cell 6 (some 5),.cell 7 none] c_bx:=fun _ _ _=>ap (fn:=i_bx) rfl rfl _ _ _
theorem o_bx (x0 x1 x2:D):Of X_bx n_bx [.d x0,.d x1,.d x2] c_bx:=e_bx 0 _ _ rfl rfl
noncomputable abbrev X_cf:Kx:=fx cfg 0 [.t 4,.t 5]
theorem e_cf:Oe cfg n_cf 2 [.t 4,.t 5] c_cf:=fun _ _ _=>ap (fn:=i_cf) rfl rfl _ _ _
theorem o_cf (x0 x1:D):Of X_cf n_cf [.d x0,.d x1] c_cf:=e_cf 0 _ _ rfl rfl
noncomputable abbrev X_bo:Kx:=fx cfg 0 [.t 4,.t 5]
theorem e_bo:Oe cfg n_bo 2 [.t 4,.t 5] c_bo:=fun _ _ _=>ap (fn:=i_bo) rfl rfl _ _ _
theorem o_bo (x0 x1:D):Of X_bo n_bo [.d x0,.d x1] c_bo:=e_bo 0 _ _ rfl rfl
noncomputable abbrev X_ay:Kx:=fx cfg 0 [.cell 2 (some 9),.t 3]
theorem e_ay:Oe cfg n_ay 1 [.cell 2 (some 9),.t 3] c_ay:=fun _ _ _=>ap (fn:=i_ay) rfl rfl _ _ _
theorem o_ay (x0:D):Of X_ay n_ay [.d x0] c_ay:=e_ay 0 _ _ rfl rfl
noncomputable abbrev X_bk:Kx:=fx cfg 0 [.t 4,.t 5,.t 6]
theorem e_bk:Oe cfg n_bk 2 [.t 4,.t 5,.t 6] c_bk:=fun _ _ _=>ap (fn:=i_bk) rfl rfl _ _ _
theorem o_bk (x0 x1:D):Of X_bk n_bk [.d x0,.d x1] c_bk:=e_bk 0 _ _ rfl rfl
noncomputable abbrev X_ak:Kx:=fx cfg 0 [.cell 4 (some 5),.t 5,.t 6]
theorem e_ak:Oe cfg n_ak 2 [.cell 4 (some 5),.t 5,.t 6] c_ak:=fun _ _ _=>ap (fn:=i_ak) rfl rfl _ _ _
theorem o_ak (x0 x1:D):Of X_ak n_ak [.d x0,.d x1] c_ak:=e_ak 0 _ _ rfl rfl
noncomputable abbrev X_bh:Kx:=fx cfg 0 [.t 2,.t 3]
theorem e_bh:Oe cfg n_bh 1 [.t 2,.t 3] c_bh:=fun _ _ _=>ap (fn:=i_bh) rfl rfl _ _ _
theorem o_bh (x0:D):Of X_bh n_bh [.d x0] c_bh:=e_bh 0 _ _ rfl rfl
noncomputable abbrev X_ap:Kx:=fx cfg 0 [.cell 2 (some 12),.t 3]
theorem e_ap:Oe cfg n_ap 1 [.cell 2 (some 12),.t 3] c_ap:=fun _ _ _=>ap (fn:=i_ap) rfl rfl _ _ _
theorem o_ap (x0:D):Of X_ap n_ap [.d x0] c_ap:=e_ap 0 _ _ rfl rfl
noncomputable abbrev X_a8:Kx:=fx cfg 0 [.t 2]
theorem e_a8:Oe cfg n_a8 1 [.t 2] c_a8:=fun _ _ _=>ap (fn:=i_a8) rfl rfl _ _ _
theorem o_a8 (x0:D):Of X_a8 n_a8 [.d x0] c_a8:=e_a8 0 _ _ rfl rfl
noncomputable abbrev X_bg:Kx:=fx cfg 0 [.t 2]
theorem e_bg:Oe cfg n_bg 1 [.t 2] c_bg:=fun _ _ _=>ap (fn:=i_bg) rfl rfl _ _ _
theorem o_bg (x0:D):Of X_bg n_bg [.d x0] c_bg:=e_bg 0 _ _ rfl rfl
noncomputable abbrev X_bb:Kx:=fx cfg 0 [.t 2]
theorem e_bb:Oe cfg n_bb 1 [.t 2] c_bb:=fun _ _ _=>ap (fn:=i_bb) rfl rfl _ _ _
theorem o_bb (x0:D):Of X_bb n_bb [.d x0] c_bb:=e_bb 0 _ _ rfl rfl
noncomputable abbrev X_a4:Kx:=fx cfg 0 [.t 8]
theorem e_a4:Oe cfg n_a4 4 [.t 8] c_a4:=fun _ _ _=>ap (fn:=i_a4) rfl rfl _ _ _
noncomputable abbrev X_aj:Kx:=fx cfg 0 [.t 2]
theorem e_aj:Oe cfg n_aj 1 [.t 2] c_aj:=fun _ _ _=>ap (fn:=i_aj) rfl rfl _ _ _
theorem o_aj (x0:D):Of X_aj n_aj [.d x0] c_aj:=e_aj 0 _ _ rfl rfl
noncomputable abbrev X_a7:Kx:=fx cfg 0 [.t 6]
theorem e_a7:Oe cfg n_a7 3 [.t 6] c_a7:=fun _ _ _=>ap (fn:=i_a7) rfl rfl _ _ _
noncomputable abbrev X_b0:Kx:=fx cfg 0 [.t 2]
theorem e_b0:Oe cfg n_b0 1 [.t 2] c_b0:=fun _ _ _=>ap (fn:=i_b0) rfl rfl _ _ _
theorem o_b0 (x0:D):Of X_b0 n_b0 [.d x0] c_b0:=e_b0 0 _ _ rfl rfl
noncomputable abbrev X_bq:Kx:=fx cfg 0 [.t 2]
theorem e_bq:Oe cfg n_bq 1 [.t 2] c_bq:=fun _ _ _=>ap (fn:=i_bq) rfl rfl _ _ _
theorem o_bq (x0:D):Of X_bq n_bq [.d x0] c_bq:=e_bq 0 _ _ rfl rfl
noncomputable abbrev X_ag:Kx:=fx cfg 0 [.t 8]
theorem e_ag:Oe cfg n_ag 4 [.t 8] c_ag:=fun _ _ _=>ap (fn:=i_ag) rfl rfl _ _ _
theorem o_ag (x0 x1 x2 x3:D):Of X_ag n_ag [.d x0,.d x1,.d x2,.d x3] c_ag:=e_ag 0 _ _ rfl rfl
@[go_sem] theorem u_di:Uc cfg n_di:=uc rfl
@[go_sem] theorem u_ap:Uc cfg n_ap:=uc rfl
@[go_sem] theorem u_av:Uc cfg n_av:=uc rfl
@[go_sem] theorem u_ao:Uc cfg n_ao:=uc rfl
@[go_sem] theorem u_bo:Uc cfg n_bo:=uc rfl
@[go_sem] theorem u_a8:Uc cfg n_a8:=uc rfl
@[go_sem] theorem u_aw:Uc cfg n_aw:=uc rfl
@[go_sem] theorem u_ax:Uc cfg n_ax:=uc rfl
@[go_sem] theorem u_ah:Uc cfg n_ah:=uc rfl
@[go_sem] theorem u_az:Uc cfg n_az:=uc rfl
@[go_sem] theorem u_ay:Uc cfg n_ay:=uc rfl
@[go_sem] theorem u_dk:Uc cfg n_dk:=uc rfl
@[go_sem] theorem u_br:Uc cfg n_br:=uc rfl
@[go_sem] theorem u_am:Uc cfg n_am:=uc rfl
@[go_sem] theorem u_cl:Uc cfg n_cl:=uc rfl
@[go_sem] theorem u_ag:Uc cfg n_ag:=uc rfl
@[go_sem] theorem u_a6:Uc cfg n_a6:=uc rfl
@[go_sem] theorem u_ai:Uc cfg n_ai:=uc rfl
@[go_sem] theorem u_dg:Uc cfg n_dg:=uc rfl
@[go_sem] theorem u_dc:Uc cfg n_dc:=uc rfl
@[go_sem] theorem u_bp:Uc cfg n_bp:=uc rfl
@[go_sem] theorem u_bl:Uc cfg n_bl:=uc rfl
@[go_sem] theorem u_aq:Uc cfg n_aq:=uc rfl
@[go_sem] theorem u_al:Uc cfg n_al:=uc rfl
@[go_sem] theorem u_c9:Uc cfg n_c9:=uc rfl
@[go_sem] theorem u_af:Uc cfg n_af:=uc rfl
@[go_sem] theorem u_bm:Uc cfg n_bm:=uc rfl
@[go_sem] theorem u_bt:Uc cfg n_bt:=uc rfl
@[go_sem] theorem u_bc:Uc cfg n_bc:=uc rfl
@[go_sem] theorem u_ce:Uc cfg n_ce:=uc rfl
@[go_sem] theorem u_ac:Uc cfg n_ac:=uc rfl
@[go_sem] theorem u_aa:Uc cfg n_aa:=uc rfl
@[go_sem] theorem u_ab:Uc cfg n_ab:=uc rfl
@[go_sem] theorem u_cc:Uc cfg n_cc:=uc rfl
@[go_sem] theorem u_bw:Uc cfg n_bw:=uc rfl
@[go_sem] theorem u_bu:Uc cfg n_bu:=uc rfl
@[go_sem] theorem u_ba:Uc cfg n_ba:=uc rfl
@[go_sem] theorem u_co:Uc cfg n_co:=uc rfl
@[go_sem] theorem u_bf:Uc cfg n_bf:=uc rfl
@[go_sem] theorem u_bz:Uc cfg n_bz:=uc rfl
@[go_sem] theorem u_b8:Uc cfg n_b8:=uc rfl
@[go_sem] theorem u_bk:Uc cfg n_bk:=uc rfl
@[go_sem] theorem u_cr:Uc cfg n_cr:=uc rfl
@[go_sem] theorem u_ct:Uc cfg n_ct:=uc rfl
@[go_sem] theorem u_bv:Uc cfg n_bv:=uc rfl
@[go_sem] theorem u_bh:Uc cfg n_bh:=uc rfl
@[go_sem] theorem u_cg:Uc cfg n_cg:=uc rfl
@[go_sem] theorem u_ck:Uc cfg n_ck:=uc rfl
@[go_sem] theorem u_cd:Uc cfg n_cd:=uc rfl
@[go_sem] theorem u_cf:Uc cfg n_cf:=uc rfl
@[go_sem] theorem u_a9:Uc cfg n_a9:=uc rfl
@[go_sem] theorem u_ak:Uc cfg n_ak:=uc rfl
@[go_sem] theorem u_cn:Uc cfg n_cn:=uc rfl
@[go_sem] theorem u_bx:Uc cfg n_bx:=uc rfl
@[go_sem] theorem u_b7:Uc cfg n_b7:=uc rfl
@[go_sem] theorem u_db:Uk cfg n_db:=uk rfl
@[go_sem] theorem u_cz:Uk cfg n_cz:=uk rfl
@[go_sem] theorem u_c7:Uk cfg n_c7:=uk rfl
@[go_sem] theorem u_cq:Uk cfg n_cq:=uk rfl
@[go_sem] theorem u_cu:Uk cfg n_cu:=uk rfl
@[go_sem] theorem u_dh:Uk cfg n_dh:=uk rfl
@[go_sem] theorem u_c8:Uk cfg n_c8:=uk rfl
@[go_sem] theorem u_cw:Uk cfg n_cw:=uk rfl
@[go_sem] theorem u_cy:Uk cfg n_cy:=uk rfl
@[go_sem] theorem u_cx:Uk cfg n_cx:=uk rfl
@[go_sem] theorem u_da:Uk cfg n_da:=uk rfl
@[go_sem] theorem u_bg:Uc cfg n_bg:=uc rfl
@[go_sem] theorem u_bb:Uc cfg n_bb:=uc rfl
@[go_sem] theorem u_bn:Uc cfg n_bn:=uc rfl
@[go_sem] theorem u_b0:Uc cfg n_b0:=uc rfl
@[go_sem] theorem u_bq:Uc cfg n_bq:=uc rfl
@[go_sem] theorem u_a5:Uc cfg n_a5:=uc rfl
@[go_sem] theorem u_a4:Uc cfg n_a4:=uc rfl
@[go_sem] theorem u_df:Uc cfg n_df:=uc rfl
@[go_sem] theorem u_aj:Uc cfg n_aj:=uc rfl
@[go_sem] theorem u_a7:Uc cfg n_a7:=uc rfl
@[go_sem] theorem u_dj:Uc cfg n_dj:=uc rfl
def a9a:=bcc r_ah_0.eq_1 r_ah_1.eq_1 r_ah_3.eq_1 r_ah_4.eq_1 a2k.eq_1 a2j.eq_1 a2i.eq_1 a2h.eq_1
def a9b:=bcc a2g.eq_1 aic.eq_1 aib.eq_1 aia.eq_1 ah9.eq_1 ah8.eq_1 ah7.eq_1 ah6.eq_1
def a9c:=bcc ah5.eq_1 r_bx_0.eq_1 r_bx_1.eq_1 ayc.eq_1 ayb.eq_1 aya.eq_1 ax9.eq_1 r_cf_0.eq_1
def a9d:=bcc r_cf_1.eq_1 r_cf_2.eq_1 r_bo_0.eq_1 r_bo_1.eq_1 r_bo_2.eq_1 r_bo_4.eq_1 r_ay_0.eq_1 r_ay_1.eq_1
def a9e:=bcc r_ay_2.eq_1 azc.eq_1 azb.eq_1 aza.eq_1 ay9.eq_1 ay8.eq_1 ay7.eq_1 ay6.eq_1
def a9f:=bcc agt.eq_1 ags.eq_1 agr.eq_1 agq.eq_1 ago.eq_1 agn.eq_1 r_bk_0.eq_1 r_bk_1.eq_1
def a9g:=bcc r_bk_3.eq_1 ayo.eq_1 ayn.eq_1 aym.eq_1 ayl.eq_1 ayk.eq_1 ayj.eq_1 agf.eq_1
def a9h:=bcc age.eq_1 agd.eq_1 r_ak_0.eq_1 r_ak_1.eq_1 r_ak_2.eq_1 r_ak_3.eq_1 r_ak_4.eq_1 r_ak_5.eq_1
def a9i:=bcc r_ak_6.eq_1 r_ak_7.eq_1 r_ak_8.eq_1 r_ak_9.eq_1 a1p.eq_1 a1o.eq_1 a1n.eq_1 a1m.eq_1
def a9j:=bcc a1l.eq_1 a1k.eq_1 a1j.eq_1 a1i.eq_1 a1h.eq_1 a1g.eq_1 a1f.eq_1 a1e.eq_1
def a9k:=bcc a1d.eq_1 a1c.eq_1 a1b.eq_1 a1a.eq_1 a09.eq_1 a08.eq_1 a07.eq_1 a06.eq_1
def a9l:=bcc a05.eq_1 ahx.eq_1 ahw.eq_1 ahu.eq_1 aht.eq_1 r_bh_0.eq_1 r_bh_1.eq_1 r_bh_2.eq_1
def a9m:=bcc r_bh_3.eq_1 r_bh_4.eq_1 ayt.eq_1 ays.eq_1 ayr.eq_1 ayq.eq_1 ayp.eq_1 agk.eq_1
def a9n:=bcc agj.eq_1 agi.eq_1 agh.eq_1 r_ap_0.eq_1 r_ap_1.eq_1 r_ap_2.eq_1 r_ap_4.eq_1 r_ap_5.eq_1
def a9o:=bcc r_ap_7.eq_1 r_ap_8.eq_1 r_ap_9.eq_1 a0s.eq_1 a0q.eq_1 a0p.eq_1 a0n.eq_1 a0m.eq_1
def a9p:=bcc a0k.eq_1 a0j.eq_1 a0i.eq_1 a0f.eq_1 a0d.eq_1 a0c.eq_1 a0a.eq_1 r_a8_0.eq_1
def a9q:=bcc r_a8_1.eq_1 r_a8_2.eq_1 r_a8_3.eq_1 r_a8_4.eq_1 r_a8_5.eq_1 r_a8_6.eq_1 r_a8_7.eq_1 r_a8_8.eq_1
def a9r:=bcc r_a8_9.eq_1 a55.eq_1 a54.eq_1 a53.eq_1 a52.eq_1 a51.eq_1 a50.eq_1 a5z.eq_1
def a9s:=bcc a5y.eq_1 a5x.eq_1 a5w.eq_1 a5v.eq_1 a5u.eq_1 r_bg_0.eq_1 r_bg_1.eq_1 r_bg_3.eq_1
def a9t:=bcc r_bb_0.eq_1 r_bb_1.eq_1 r_bb_3.eq_1 r_a4_0.eq_1 r_a4_1.eq_1 r_a4_3.eq_1 r_a4_4.eq_1 a6l.eq_1
def a9u:=bcc a6k.eq_1 a6j.eq_1 a6i.eq_1 a6h.eq_1 o9.eq_1 oz.eq_1 r_aj_0.eq_1 r_aj_1.eq_1
def a9v:=bcc r_aj_2.eq_1 r_aj_3.eq_1 r_aj_4.eq_1 r_aj_5.eq_1 r_aj_6.eq_1 r_aj_7.eq_1 r_aj_8.eq_1 r_aj_9.eq_1
def a9w:=bcc a14.eq_1 a13.eq_1 a11.eq_1 a10.eq_1 a1z.eq_1 a1y.eq_1 a1x.eq_1 a1w.eq_1
def a9x:=bcc a1v.eq_1 a1u.eq_1 a1t.eq_1 a1s.eq_1 a1r.eq_1 a1q.eq_1 r_a7_0.eq_1 r_a7_1.eq_1
def a9y:=bcc r_a7_2.eq_1 r_a7_3.eq_1 r_a7_4.eq_1 r_a7_5.eq_1 r_a7_6.eq_1 r_a7_7.eq_1 r_a7_8.eq_1 a56.eq_1
def a9z:=bcc ajf.eq_1 aje.eq_1 ajd.eq_1 ajc.eq_1 ajb.eq_1 aja.eq_1 r_b0_0.eq_1 r_b0_1.eq_1
def a90:=bcc r_b0_2.eq_1 r_bq_0.eq_1 r_bq_1.eq_1 r_bq_3.eq_1 r_ag_0.eq_1 r_ag_1.eq_1 r_ag_3.eq_1 r_ag_4.eq_1
def a91:=bcc r_ag_5.eq_1 r_ag_6.eq_1 r_ag_7.eq_1 a2o.eq_1 aid.eq_1 a2v.eq_1 a2u.eq_1 a2s.eq_1
def a92:=bcf a2r.eq_1
def a93:=bcf a2q.eq_1
attribute [go_sem] abi a8z a80 a81 a82 a83 a84 a85 a86 a87 a88 a89 a9a a9b a9c a9d a9e a9f a9g a9h a9i a9j a9k a9l a9m a9n a9o a9p a9q a9r a9s a9t a9u a9v a9w a9x a9y a9z a90 a91 a92 a93
