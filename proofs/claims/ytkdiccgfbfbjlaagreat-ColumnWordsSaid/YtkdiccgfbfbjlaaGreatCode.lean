import Derived.Test.YtkdiccgfbfbjlaaGreatOrc
import Derived.Test.YtkdiccgfbfbjlaaGreatChecked
import Derived.Test.YtkdiccgfbfbjlaaGreatCodeA
namespace Go.Proofs.YtkdiccgfbfbjlaaGreat
set_option linter.defProp false
open Go.Ev Go
variable {X:Kx} {K:List Kf} {s:St}
def r_bw_0:=rg [
oo 4 (.asg (.c .nilS))] [0,1]
def r_bw_1:=rg [
a82 5 1,a8p 6 .lss 5 15] [0,1,6]
def r_bw_2:=rg [
a82 7 0,a88 4 7] [4]
def r_bw_3:=rg [
a82 8 1,a8p 9 .sub 8 15,a88 1 9] [0,1]
def ays:=rg [
a82 10 1,a8p 11 .geq 10 255] [0,1,11]
def ayr:=rg [
a82 14 0,oo 15 (.lit false 1 1 (.int .u8 0) [(0,(.c (.int .u8 255)))]),oo 16 (.append 1 1 (.t 14) (.t 15)),a88 0 16] [0,1]
def ayq:=rg [
a82 12 1,a8p 13 .sub 12 255,a88 1 13] [0,1]
def a48:ICode:=(.seq (.seq ays (.cond (.t 11) .skip (.exit 0))) (.seq (.block 1 ayr) ayq))
def a5r:=a8v a48.eq_1
def ayp:=rg [
a82 17 0,a82 18 1,oo 19 (.cvInt .u8 (.t 18)),oo 20 (.lit false 1 1 (.int .u8 0) [(0,(.t 19))]),oo 21 (.append 1 1 (.t 17) (.t 20)),a88 4 21] [4]
def c_bw:ICode:=(.seq r_bw_0 (.seq r_bw_1 (.cond (.t 6) (.seq r_bw_2 .ret) (.seq (.seq r_bw_3 (.block 0 (.loop a48))) (.seq ayp .ret)))))
def i_bw:IFunc:=⟨2,[.t 4],c_bw⟩
def a_bw:Advice:=⟨[16],zzz 6 [ayq,ayr,ays,r_bw_3,r_bw_2,r_bw_1,r_bw_0]++[(7,[4])],[],[],[],[]⟩
def r_bv_0:=rg [
oo 8 (.asg (.c .nilS))] [0,1,2,3]
def r_bv_1:=rg [
a8o 9 0] [0,1,2,3,9]
def r_bv_2:=rg [
a82 10 3,a8p 11 .gtr 10 0] [0,1,2,3,9,11]
def r_bv_3:=rg [
a82 12 3,a8p 13 .sub 12 4,oo 14 (.minmax false [(.t 13),(ci 15)]),a88 9 14] [0,1,2,3,9]
def r_bv_4:=rg [
a82 15 0,a82 16 1,a8z 17 false 16,oo 18 (.minmax false [(.t 17),(ci 15)]),oo 19 (.bin .shl (.t 18) (.c (.int .u64 4))),a82 20 9,a8q 21 .or 19 20,oo 22 (.cvInt .u8 (.t 21)),oo 23 (.lit false 1 1 (.int .u8 0) [(0,(.t 22))]),oo 24 (.append 1 1 (.t 15) (.t 23)),a88 0 24] [0,1,2,3]
def r_bv_5:=rg [
a82 25 0,a82 26 1,a8z 27 false 26,oo 28 (.callg true n_bw [(.t 25),(.t 27)] 0),a88 0 28] [0,1,2,3]
def r_bv_6:=rg [
a82 29 0,a82 30 1,oo 31 (.append 1 1 (.t 29) (.t 30)),a88 0 31] [0,2,3]
def r_bv_7:=rg [
a82 32 3,a8p 33 .eql 32 0] [0,2,3,33]
def r_bv_8:=rg [
a82 34 0,a88 8 34] [8]
def r_bv_9:=rg [
a82 35 0,a82 36 2,oo 37 (.cvInt .u8 (.t 36)),a82 38 2,oo 39 (.bin .shr (.t 38) (.c (.int .u64 8))),oo 40 (.cvInt .u8 (.t 39)),oo 41 (.lit false 1 2 (.int .u8 0) [(0,(.t 37)),(1,(.t 40))]),oo 42 (.append 1 1 (.t 35) (.t 41)),a82 43 3,a8p 44 .sub 43 4,oo 45 (.callg true n_bw [(.t 42),(.t 44)] 0),a88 8 45] [8]
def c_bv:ICode:=(.seq r_bv_0 (.seq r_bv_1 (.seq (.seq r_bv_2 (.cond (.t 11) r_bv_3 .skip)) (.seq r_bv_4 (.seq r_bv_5 (.seq r_bv_6 (.seq r_bv_7 (.cond (.t 33) (.seq r_bv_8 .ret) (.seq r_bv_9 .ret)))))))))
def i_bv:IFunc:=⟨4,[.t 8],c_bv⟩
def a_bv:Advice:=⟨[24,28,31,42,45],zzz 9 [r_bv_9,r_bv_8,r_bv_7,r_bv_6,r_bv_5,r_bv_4,r_bv_3,r_bv_2,r_bv_1,r_bv_0],[],[],[(28,0),(45,0)],[]⟩
def r_ah_0:=rg [
a8n 4 false] [0,1]
def r_ah_1:=rg [
a82 6 0,a8z 7 false 6,a82 8 1,a8z 9 false 8,a8q 10 .neq 7 9] [0,1,10]
@[go_sem] def r_ah_2_o:Ops:=[
a8n 4 false]
def r_ah_2:=rg r_ah_2_o [4]
def r_ah_3:=rg [
a82 11 0,a8z 12 false 11,oo 13 (.mv (ci 0))] [0,1,12,13]
def a07:=rg [
a8q 14 .lss 13 12] [0,1,12,13,14]
def a06:=rg [
a82 15 13,a88 5 15] [0,1,5,12,13]
@[go_sem] def asp:Ops:=[
a82 16 0,a82 17 5,a8x 18 1 16 17,a80 19 18,a82 20 1,a82 21 5,a8x 22 1 20 21,a80 23 22,a8q 24 .neq 19 23]
def asq:List (Nat×Nat):=[(0,1),(0,4),(1,4),(2,4),(3,4),(0,5),(1,5),(2,5),(3,5),(4,5),(0,6),(1,6),(2,6),(3,6),(0,7),(1,7),(2,7),(3,7)]
def a05:ICode:= .region asp asq [0,1,12,13,24]
@[go_sem] theorem r_ah_6_u:Gu X K s a05 asq asp [0,1,12,13,24]:=go_regionU' _ _ _ _
def a04:=rg [
a8n 4 false] [4]
def a03:=rg [
a8p 25 .add 13 1,a82 13 25] [0,1,12,13]
def a5g:ICode:=(.seq a07 (.seq (.cond (.t 14) .skip (.exit 0)) (.seq (.block 1 (.seq a06 (.seq a05 (.cond (.t 24) (.seq a04 .ret) .skip)))) a03)))
def a5s:=a8v a5g.eq_1
def ahd:=rg [
a8n 4 true] [4]
def c_ah:ICode:=(.seq r_ah_0 (.seq r_ah_1 (.cond (.t 10) (.seq r_ah_2 .ret) (.seq (.seq r_ah_3 (.block 0 (.loop a5g))) (.seq ahd .ret)))))
def i_ah:IFunc:=⟨2,[.t 4],c_ah⟩
def a_ah:=zzy (zzz 8 [a03,a04,.ret,a06,a07,r_ah_3,.ret,r_ah_1,r_ah_0]++[(9,[4]),(6,[0,1,12,13,24]),(2,[4])])
def ayo:=rg [
a8o 2 0] [0]
@[go_sem] def akv:Ops:=[
a82 4 0,oo 5 (.idxA 1 (.t 4) (ci 0)),a80 6 5,oo 7 (.cvInt .u32 (.t 6)),a82 8 0,oo 9 (.idxA 1 (.t 8) (ci 1)),a80 10 9,oo 11 (.cvInt .u32 (.t 10)),oo 12 (.bin .shl (.t 11) (.c (.int .u64 8))),a8q 13 .or 7 12,a82 14 0,oo 15 (.idxA 1 (.t 14) (ci 2)),a80 16 15,oo 17 (.cvInt .u32 (.t 16)),oo 18 (.bin .shl (.t 17) (.c (.int .u64 16))),a8q 19 .or 13 18,a82 20 0,oo 21 (.idxA 1 (.t 20) (ci 3)),a80 22 21,oo 23 (.cvInt .u32 (.t 22)),oo 24 (.bin .shl (.t 23) (.c (.int .u64 24))),a8q 25 .or 19 24,a88 3 25]
def akw:List (Nat×Nat):=[(0,4),(1,4),(2,4),(3,4),(0,5),(1,5),(2,5),(3,5),(0,6),(1,6),(2,6),(3,6),(0,7),(1,7),(2,7),(3,7),(0,8),(1,8),(2,8),(3,8),(0,10),(1,10),(2,10),(3,10),(4,10),(5,10),(6,10),(7,10),(8,10),(9,10),(0,11),(1,11),(2,11),(3,11),(4,11),(5,11),(6,11),(7,11),(8,11),(9,11),(0,12),(1,12),(2,12),(3,12),(4,12),(5,12),(6,12),(7,12),(8,12),(9,12),(0,13),(1,13),(2,13),(3,13),(4,13),(5,13),(6,13),(7,13),(8,13),(9,13),(0,14),(1,14),(2,14),(3,14),(4,14),(5,14),(6,14),(7,14),(8,14),(9,14),(0,16),(1,16),(2,16),(3,16),(4,16),(5,16),(6,16),(7,16),(8,16),(9,16),(10,16),(11,16),(12,16),(13,16),(14,16),(15,16),(0,17),(1,17),(2,17),(3,17),(4,17),(5,17),(6,17),(7,17),(8,17),(9,17),(10,17),(11,17),(12,17),(13,17),(14,17),(15,17),(0,18),(1,18),(2,18),(3,18),(4,18),(5,18),(6,18),(7,18),(8,18),(9,18),(10,18),(11,18),(12,18),(13,18),(14,18),(15,18),(0,19),(1,19),(2,19),(3,19),(4,19),(5,19),(6,19),(7,19),(8,19),(9,19),(10,19),(11,19),(12,19),(13,19),(14,19),(15,19),(0,20),(1,20),(2,20),(3,20),(4,20),(5,20),(6,20),(7,20),(8,20),(9,20),(10,20),(11,20),(12,20),(13,20),(14,20),(15,20)]
def ayn:ICode:= .region akv akw [3]
@[go_sem] theorem r_cr_1_u:Gu X K s ayn akw akv [3]:=go_regionU' _ _ _ _
@[go_sem] def aku:Ops:=[
a82 26 3,oo 27 (.bin .mul (.t 26) (.c (.int .u32 2654435761))),oo 28 (.bin .shr (.t 27) (.c (.int .u64 20))),oo 29 (.cvInt .i64 (.t 28)),a88 2 29]
def yn:=rg aku [2]
def c_cr:ICode:=(.seq ayo (.seq ayn (.seq yn .ret)))
def i_cr:IFunc:=⟨1,[.t 2],c_cr⟩
def a_cr:=zzy (zzz 0 [ayo]++[(2,[2]),(1,[3])])
def r_ba_0:=rg [
oo 4 (.asg (.c .nilS))] [0,1]
def r_ba_1:=rg [
oo 5 (.asg (.c .nilS))] [0,1,5]
def r_ba_2:=rg [
a8o 6 0] [0,1,5,6]
def r_ba_3:=rg [
a8o 7 0] [0,1,5,6,7]
def azc:=rg [
a82 11 7,a8p 12 .add 11 4,a82 13 1,a8z 14 false 13,a8q 15 .leq 12 14] [0,1,5,6,7,15]
def azb:=rg [
a82 16 1,a82 17 7,oo 18 (.slice 1 (.t 16) (some (.t 17)) none none),a8r 19 n_cr [(.t 18)],a88 8 19] [0,1,5,6,7,8]
def aza:=rg [
a82 20 0,a82 21 8,a8x 22 1 20 21,a80 23 22,a88 9 23] [0,1,5,6,7,8,9]
def ay9:=rg [
a82 24 0,a82 25 8,a82 26 7,a8x 27 1 24 25,a87 1 27 26] [0,1,5,6,7,9]
@[go_sem] def aog:Ops:=[
a82 28 9,a8p 29 .lss 28 0,a82 30 29,a8u 31 30 false 7,a8u 32 30 false 9,og 33 30 false (.bin .sub (.t 31) (.t 32)),og 34 30 false (.bin .gtr (.t 33) (ci 65535)),a86 35 30 34,a82 36 35,a8u 37 36 false 1,a8u 38 36 false 9,a8u 39 36 false 9,og 40 36 false (.bin .add (.t 39) (ci 4)),og 41 36 false (.slice 1 (.t 37) (some (.t 38)) (some (.t 40)) none),a8u 42 36 false 1,a8u 43 36 false 7,a8u 44 36 false 7,og 45 36 false (.bin .add (.t 44) (ci 4)),og 46 36 false (.slice 1 (.t 42) (some (.t 43)) (some (.t 45)) none),og 47 36 false (.call false n_ah [(.t 41),(.t 46)]),og 48 36 false (.un .not (.t 47)),a86 49 36 48]
def aoh:List (Nat×Nat):=[(3,4),(9,10),(9,11),(10,11),(9,12),(10,12),(9,14),(10,14),(11,14),(12,14),(13,14),(9,15),(10,15),(11,15),(12,15),(13,15),(14,15),(9,16),(10,16),(11,16),(12,16),(13,16),(14,16),(15,16),(9,17),(10,17),(11,17),(12,17),(13,17),(14,17),(15,17),(9,18),(10,18),(11,18),(12,18),(13,18)]
def ay8:ICode:= .region aog aoh [0,1,5,6,7,9,49]
@[go_sem] theorem r_ba_8_u:Gu X K s ay8 aoh aog [0,1,5,6,7,9,49]:=go_regionU' _ _ _ _
def ay7:=rg [
a82 50 7,a8p 51 .add 50 1,a88 7 51] [0,1,5,6,7]
def af2:=rg [
a8o 10 4] [0,1,5,6,7,9,10]
@[go_sem] def y5:Ops:=[
a82 52 7,a82 53 10,a8q 54 .add 52 53,a82 55 1,a8z 56 false 55,a8q 57 .lss 54 56,a82 58 57,a8u 59 58 true 1,a8u 60 58 true 9,a8u 61 58 true 10,og 62 58 true (.bin .add (.t 60) (.t 61)),og 63 58 true (.idxA 1 (.t 59) (.t 62)),og 64 58 true (.load none (.t 63)),a8u 65 58 true 1,a8u 66 58 true 7,a8u 67 58 true 10,og 68 58 true (.bin .add (.t 66) (.t 67)),og 69 58 true (.idxA 1 (.t 65) (.t 68)),og 70 58 true (.load none (.t 69)),og 71 58 true (.bin .eql (.t 64) (.t 70)),a85 72 58 71]
def y6:List (Nat×Nat):=[(0,1),(0,3),(1,3),(2,3),(0,4),(1,4),(2,4),(7,8),(7,9),(8,9),(7,10),(7,13),(8,13),(9,13),(10,13),(11,13),(12,13),(7,14),(8,14),(9,14),(10,14),(11,14),(12,14),(13,14),(7,15),(8,15),(9,15),(10,15),(11,15),(12,15),(13,15),(14,15),(7,16),(8,16),(9,16),(10,16),(11,16),(12,16),(13,16),(7,17),(8,17),(9,17),(10,17),(11,17),(12,17),(7,18),(8,18),(9,18),(10,18),(11,18),(12,18)]
def af1:ICode:= .region y5 y6 [0,1,5,6,7,9,10,72]
@[go_sem] theorem r_ba_11_u:Gu X K s af1 y6 y5 [0,1,5,6,7,9,10,72]:=go_regionU' _ _ _ _
def af0:=rg [
a82 73 10,a8p 74 .add 73 1,a88 10 74] [0,1,5,6,7,9,10]
def w9:ICode:=(.seq (.seq af1 (.cond (.t 72) .skip (.exit 2))) (.block 3 af0))
def a5t:=a8v w9.eq_1
def u5:=rg [
a82 75 5,a82 76 1,a82 77 6,a82 78 7,oo 79 (.slice 1 (.t 76) (some (.t 77)) (some (.t 78)) none),a82 80 7,a82 81 9,a8q 82 .sub 80 81,a82 83 10,oo 84 (.callg true n_bv [(.t 75),(.t 79),(.t 82),(.t 83)] 0),a88 5 84] [0,1,5,7,10]
def u4:=rg [
a82 85 7,a82 86 10,a8q 87 .add 85 86,a88 7 87] [0,1,5,7]
def u3:=rg [
a82 88 7,a88 6 88] [0,1,5,6,7]
def w8:ICode:=(.seq (.seq azc (.cond (.t 15) .skip (.exit 0))) (.block 1 (.seq azb (.seq aza (.seq ay9 (.seq (.seq ay8 (.cond (.t 49) (.seq ay7 (.exit 1)) .skip)) (.seq af2 (.seq (.block 2 (.loop w9)) (.seq u5 (.seq u4 u3))))))))))
def a5u:=a8v w8.eq_1
def u2:=rg [
a82 89 5,a82 90 1,a82 91 6,oo 92 (.slice 1 (.t 90) (some (.t 91)) none none),oo 93 (.callg true n_bv [(.t 89),(.t 92),(ci 0),(ci 0)] 0),a88 4 93] [4]
def c_ba:ICode:=(.seq r_ba_0 (.seq r_ba_1 (.seq r_ba_2 (.seq (.seq r_ba_3 (.block 0 (.loop w8))) (.seq u2 .ret)))))
def i_ba:IFunc:=⟨2,[.t 4],c_ba⟩
def a_ba:Advice:=⟨[84,93],zzz 12 [af0,.ret,af2,ay7,.ret,ay9,aza,azb,azc,r_ba_3,r_ba_2,r_ba_1,r_ba_0]++[(16,[4]),(15,[0,1,5,6,7]),(14,[0,1,5,7]),(13,[0,1,5,7,10]),(11,[0,1,5,6,7,9,10,72]),(8,[0,1,5,6,7,9,49])],[],[],[(84,0),(93,0)],[]⟩
def r_bz_0:=rg [
oo 2 (.asg (.c .nilS))] [0]
def r_bz_1:=rg [
a82 5 0,a8z 6 false 5,a8p 7 .gtr 6 1048576] [0,7]
@[go_sem] def r_bz_2_o:Ops:=[
oo 2 (.asg (.c .nilS))]
def r_bz_2:=rg r_bz_2_o [2]
def r_bz_3:=rg [
oo 8 (.call true n_dq []),a82 9 0,oo 10 (.callg false n_ba [(.t 8),(.t 9)] 0),a88 3 10] [0,3]
def r_bz_4:=rg [
a82 11 0,oo 12 (.callg false n_bv [(.c .nilS),(.t 11),(ci 0),(ci 0)] 0),a88 4 12] [3,4]
def r_bz_5:=rg [
a82 13 4,a8z 14 false 13,a82 15 3,a8z 16 false 15,a8q 17 .lss 14 16] [3,4,17]
def r_bz_6:=rg [
a82 18 4,a88 3 18] [3]
def r_bz_7:=rg [
a82 19 3,a8r 20 n_c9 [(.t 19)],a88 2 20] [2]
def c_bz:ICode:=(.seq r_bz_0 (.seq r_bz_1 (.cond (.t 7) (.seq r_bz_2 .ret) (.seq r_bz_3 (.seq (.seq r_bz_4 (.seq r_bz_5 (.cond (.t 17) r_bz_6 .skip))) (.seq r_bz_7 .ret))))))
def i_bz:IFunc:=⟨1,[.t 2],c_bz⟩
def a_bz:Advice:=⟨[8],zzz 7 [r_bz_7,r_bz_6,r_bz_5,r_bz_4,r_bz_3,.ret,r_bz_1,r_bz_0]++[(2,[2])],[],[],[(10,0),(12,0)],[]⟩
def r_bc_0:=rg [
oo 2 (.asg (.c .nilS))] [0]
def r_bc_1:=rg [
a82 3 0,oo 4 (.isNil false (.t 3))] [0,4]
@[go_sem] def r_bc_2_o:Ops:=[
oo 2 (.asg (.c .nilS))]
def r_bc_2:=rg r_bc_2_o [2]
def r_bc_3:=rg [
oo 5 (.lit true 1 0 (.int .u8 0) []),a82 6 0,oo 7 (.append 1 1 (.t 5) (.t 6)),a88 2 7] [2]
def c_bc:ICode:=(.seq r_bc_0 (.seq r_bc_1 (.cond (.t 4) (.seq r_bc_2 .ret) (.seq r_bc_3 .ret))))
def i_bc:IFunc:=⟨1,[.t 2],c_bc⟩
def a_bc:Advice:=⟨[5],zzz 3 [r_bc_3,.ret,r_bc_1,r_bc_0]++[(2,[2])],[],[],[],[]⟩
@[go_sem] def r_ct_0_o:Ops:=[
a8n 2 false]
def r_ct_0:=rg r_ct_0_o [0]
@[go_sem] def r_ct_1_o:Ops:=[
a82 3 0]
def r_ct_1:=rg r_ct_1_o [3]
@[go_sem] def r_ct_2_o:Ops:=[
a8p 5 .eql 3 0,a88 4 5]
def r_ct_2:=rg r_ct_2_o [3,4]
@[go_sem] def r_ct_3_o:Ops:=[
a8p 7 .eql 3 4,a88 6 7]
def r_ct_3:=rg r_ct_3_o [6]
@[go_sem] def r_ct_4_o:Ops:=[
a8n 2 true]
def r_ct_4:=rg r_ct_4_o [2]
@[go_sem] def r_ct_5_o:Ops:=[
a8n 2 false]
def r_ct_5:=rg r_ct_5_o [2]
def c_ct:ICode:=(.seq r_ct_0 (.seq (.seq r_ct_1 (.block 0 (.seq (.block 2 (.block 1 (.seq (.seq (.seq r_ct_2 (.cond (.t 4) (.exit 1) .skip)) (.seq r_ct_3 (.cond (.t 6) (.exit 2) .skip))) (.exit 0)))) (.seq (.seq r_ct_4 .ret) (.exit 0))))) (.seq r_ct_5 .ret)))
def i_ct:IFunc:=⟨1,[.t 2],c_ct⟩
def a_ct:=zzy ([(5,[2]),(4,[2]),(3,[6]),(2,[3,4]),(1,[3]),(0,[0])])
def r_ao_0:=rg [
oo 6 (.asg (.c .nilS)),a8o 7 0] [0,1,2]
def r_ao_1:=rg [
a82 13 1,a8r 14 n_ct [(.t 13)],a84 15 14,a88 12 15] [0,1,2,12]
@[go_sem] def r_ao_2_o:Ops:=[
oo 6 (.asg (.c .nilS)),a8o 7 7]
def r_ao_2:=rg r_ao_2_o [6,7]
def r_ao_3:=rg [
a82 17 2,a8p 18 .lss 17 1,a82 19 18,a8u 20 19 false 2,og 21 19 false (.bin .gtr (.t 20) (ci 65536)),a86 22 19 21,a88 16 22] [0,1,2,16]
@[go_sem] def r_ao_4_o:Ops:=[
oo 6 (.asg (.c .nilS)),a8o 7 1]
def r_ao_4:=rg r_ao_4_o [6,7]
def r_ao_5:=rg [
a82 24 1,a8p 25 .eql 24 0,a88 23 25] [0,2,23]
def r_ao_6:=rg [
a82 26 0,a8r 27 n_bc [(.t 26)],a8r 28 n_c9 [(.t 27)],a88 6 28,a8o 7 0] [6,7]
def r_ao_7:=rg [
oo 8 (.alloc [.nilS])] [0,2,8]
def r_ao_8:=rg [
a82 29 0,a82 30 2,a8r 31 n_cy [(.t 29),(.t 30)]] [8,31]
def a0b:=rg [
a88 9 32] [8,9]
def ajq:ICode:=a0b
def a5v:=a8v ajq.eq_1
def agw:=rg [
a82 33 9,a8r 34 n_bz [(.t 33)],a88 10 34] [8,9,10]
def agv:=rg [
a82 35 10,a8z 36 false 35,a82 37 9,a8z 38 false 37,a8q 39 .geq 36 38,a88 11 39] [8,9,10,11]
def agu:=rg [
a82 40 11] [8,9,10,11,40]
def agt:=rg [
a82 41 9,a88 10 41] [8,10,11]
@[go_sem] def aau:Ops:=[
a80 42 8,a82 43 10,a8z 44 false 43,a82 45 11,a8r 46 n_b5 [(.t 44),(.t 45)],oo 47 (.append 1 1 (.t 42) (.t 46)),a82 48 10,oo 49 (.append 1 1 (.t 47) (.t 48)),a87 1 8 49]
def aav:List (Nat×Nat):=[(0,1),(0,2),(0,3),(1,3),(2,3),(0,4),(0,6),(1,6),(2,6),(3,6),(4,6),(5,6)]
def ags:ICode:= .region aau aav []
@[go_sem] theorem r_ao_15_u:Gu X K s ags aav aau []:=go_regionU' _ _ _ _
def ajp:ICode:=(.block 2 (.seq agw (.seq agv (.seq (.seq agu (.cond (.t 40) agt .skip)) ags))))
def a5w:=a8v ajp.eq_1
def agr:=rg [
a80 50 8,a8r 51 n_c9 [(.t 50)],a88 6 51,a8o 7 0] [6,7]
def c_ao:ICode:=(.seq r_ao_0 (.seq (.block 0 (.seq r_ao_1 (.cond (.t 12) (.seq r_ao_2 .ret) (.seq r_ao_3 (.cond (.t 16) (.seq r_ao_4 .ret) (.seq r_ao_5 (.cond (.t 23) (.seq r_ao_6 .ret) .skip))))))) (.seq r_ao_7 (.seq (.seq r_ao_8 (.block 1 (.each (.t 31) [32] ajq ajp))) (.seq agr .ret)))))
def i_ao:IFunc:=⟨3,[.t 6,.t 7],c_ao⟩
def a_ao:Advice:=⟨[47,49],zzz 9 [a0b,r_ao_8,r_ao_7,r_ao_6,r_ao_5,.ret,r_ao_3,.ret,r_ao_1,r_ao_0]++[(15,[6,7]),(14,[]),(13,[8,10,11]),(12,[8,9,10,11,40]),(11,[8,9,10,11]),(10,[8,9,10]),(2,[6,7]),(4,[6,7])],[],[],[],[]⟩
@[go_sem] def amv:Ops:=[
a82 9 2,a82 10 0,a83 11 10,a8s 12 1 11,a8s 13 0 12,a80 14 13,a82 15 0,a83 16 15,a8s 17 1 16,a8s 18 1 17,a80 19 18,a8r 20 n_ao [(.t 9),(.t 14),(.t 19)],a82 8 20,a89 21 8 0,a89 22 8 1,a88 6 21,a88 7 22]
def amw:List (Nat×Nat):=[(0,1),(0,2),(0,3),(0,4),(0,5),(0,6),(1,6),(2,6),(3,6),(4,6),(5,6),(0,7),(1,7),(2,7),(3,7),(4,7),(5,7),(0,8),(1,8),(2,8),(3,8),(4,8),(5,8),(0,9),(1,9),(2,9),(3,9),(4,9),(5,9),(0,10),(1,10),(2,10),(3,10),(4,10),(5,10),(13,14),(14,15)]
def r_bo_0:ICode:= .region amv amw [0,1,2,6,7]
@[go_sem] theorem r_bo_0_u:Gu X K s r_bo_0 amw amv [0,1,2,6,7]:=go_regionU' _ _ _ _
def r_bo_1:=rg [
a82 23 2,a8z 24 false 23,a8p 25 .gtr 24 262144] [0,1,6,7,25]
@[go_sem] def r_bo_2_o:Ops:=[
a8o 7 4]
def r_bo_2:=rg r_bo_2_o [0,1,6,7]
def r_bo_3:=rg [
a82 26 7,a8p 27 .neq 26 0,a82 28 27,a8u 29 28 true 0,og 30 28 true (.nilck (.t 29)),og 31 28 true (.fieldA 10 (.t 30)),og 32 28 true (.load none (.t 31)),og 33 28 true (.bin .eql (.t 32) (ci 0)),a85 34 28 33] [0,1,6,7,34]
@[go_sem] def r_bo_4_o:Ops:=[
a82 35 0,a82 36 7,a83 37 35,a8s 38 10 37,a87 1 38 36]
def r_bo_4:=rg r_bo_4_o [0,1,6]
@[go_sem] def amr:Ops:=[
a82 39 0,a82 40 0,a83 41 40,a8s 42 9 41,a80 43 42,a82 44 1,a82 45 0,a83 46 45,a8s 47 0 46,a80 48 47,a82 49 6,oo 50 (.build [(.int .i64 0),(.int .i64 0),.nilS] [(0,1,(.t 44)),(1,1,(.t 48)),(2,1,(.t 49))]),oo 51 (.lit false 3 1 (.agg [(.int .i64 0),(.int .i64 0),(.sl [])]) [(0,(.t 50))]),oo 52 (.append 3 40 (.t 43) (.t 51)),a83 53 39,a8s 54 9 53,a87 1 54 52]
def ams:List (Nat×Nat):=[(0,1),(0,2),(0,3),(0,4),(0,5),(1,5),(2,5),(3,5),(4,5),(0,6),(1,6),(2,6),(3,6),(4,6),(5,6),(0,7),(1,7),(2,7),(3,7),(4,7),(5,7),(0,8),(1,8),(2,8),(3,8),(4,8),(5,8),(0,9),(1,9),(2,9),(3,9),(4,9),(5,9),(0,10),(1,10),(2,10),(3,10),(4,10),(5,10),(6,10),(7,10),(8,10),(9,10),(0,11),(1,11),(2,11),(3,11),(4,11),(0,12),(1,12),(2,12),(3,12),(4,12),(0,13)]
def r_bo_5:ICode:= .region amr ams []
@[go_sem] theorem r_bo_5_u:Gu X K s r_bo_5 ams amr []:=go_regionU' _ _ _ _
def c_bo:ICode:=(.seq r_bo_0 (.seq (.seq r_bo_1 (.cond (.t 25) r_bo_2 .skip)) (.seq (.seq r_bo_3 (.cond (.t 34) r_bo_4 .skip)) r_bo_5)))
def i_bo:IFunc:=⟨3,[],c_bo⟩
def a_bo:Advice:=⟨[52],zzz 3 [r_bo_3,.ret,r_bo_1]++[(5,[]),(4,[0,1,6]),(2,[0,1,6,7]),(0,[0,1,2,6,7])],[],[],[],[]⟩
def r_aj_0:=rg [
a8o 4 0] [0,1]
def r_aj_1:=rg [
a82 6 0,a8z 7 false 6,oo 8 (.mv (ci 0))] [0,1,7,8]
def a0w:=rg [
a8q 9 .lss 8 7] [0,1,7,8,9]
def a0v:=rg [
a82 10 8,a88 5 10] [0,1,5,7,8]
def a0u:=rg [
a82 11 1,a82 12 0,a82 13 5,a8x 14 1 12 13,a80 15 14,oo 16 (.eqn false .bool (.t 11) (.t 15))] [0,1,5,7,8,16]
def a0t:=rg [
a82 17 5,a88 4 17] [4]
def a0s:=rg [
a8p 18 .add 8 1,a82 8 18] [0,1,7,8]
def a5f:ICode:=(.seq a0w (.seq (.cond (.t 9) .skip (.exit 0)) (.seq (.block 1 (.seq a0v (.seq a0u (.cond (.t 16) (.seq a0t .ret) .skip)))) a0s)))
def a5x:=a8v a5f.eq_1
def a0r:=rg [
oo 4 (.asg (ci (-1)))] [4]
def c_aj:ICode:=(.seq r_aj_0 (.seq (.seq r_aj_1 (.block 0 (.loop a5f))) (.seq a0r .ret)))
def i_aj:IFunc:=⟨2,[.t 4],c_aj⟩
def a_aj:=zzy (zzz 6 [a0s,a0t,a0u,a0v,a0w,r_aj_1,r_aj_0]++[(7,[4])])
def r_bp_0:=rg [
a8n 4 false] [0,1]
def r_bp_1:=rg [
a82 5 0,a82 6 1,a8r 7 n_aj [(.t 5),(.t 6)],a8p 8 .geq 7 0,a88 4 8] [4]
def c_bp:ICode:=(.seq r_bp_0 (.seq r_bp_1 .ret))
def i_bp:IFunc:=⟨2,[.t 4],c_bp⟩
def a_bp:=zzy (zzz 1 [r_bp_1,r_bp_0])
def r_c8_0:=rg [
oo 1 (.box 5 (.t 0)),a8n 2 false] [1]
def r_c8_1:=rg [
a8s 3 0 1,a80 4 3,a8r 5 n_bp [(.t 4),(.c (.bool false))],a88 2 5] [2]
def c_c8:ICode:=(.seq r_c8_0 (.seq r_c8_1 .ret))
def i_c8:IFunc:=⟨1,[.t 2],c_c8⟩
def a_c8:=zzy (zzz 1 [r_c8_1,r_c8_0])
def r_ag_0:=rg [
oo 4 (.box 8 (.t 0)),oo 6 (.box 5 (.t 2)),oo 7 (.box 6 (.t 3)),oo 8 (.alloc [(.int .i64 0),(.int .i64 0)]),oo 9 (.asg (.c .nilS)),a8o 10 0] [1,4,6,7,8]
def r_di:=rg [
a81 17 6 7,a8r 18 n_bk [(.t 17)],a88 11 18] [1,4,6,7,8,11]
def r_df:=rg [
a82 19 11,a8p 20 .neq 19 0] [1,4,6,7,8,11,20]
@[go_sem] def r_ag_3_o:Ops:=[
oo 21 (.build [(.int .i64 0),(.int .i64 0)] []),a82 22 11,a87 2 8 21,oo 9 (.asg (.c .nilS)),a88 10 22]
def r_ag_3:=rg r_ag_3_o [8,9,10]
def r_ag_4:=rg [
a82 23 1,a81 24 6 7,oo 25 (.build [(.int .i64 0),(.int .i64 0),(.int .i64 0),(.int .i64 0),(.int .i64 0),(.int .i64 0),(.int .i64 0),(.int .i64 0),(.int .i64 0),.nilS,(.int .i64 0)] [(0,1,(.t 23)),(1,6,(.t 24))]),oo 26 (.box 11 (.t 25)),a88 12 26] [4,6,7,8,12]
def r_ag_5:=rg [
a81 27 5 6,a8r 28 n_c8 [(.t 27)]] [4,6,7,8,12,28]
@[go_sem] def r_ag_6_o:Ops:=[
a82 29 12,a8s 30 0 6,a80 31 30,a8r 32 n_dv [(.t 31)],a8r 33 n_bo [(.t 29),(ci 0),(.t 32)]]
def r_ag_6:=rg r_ag_6_o [4,6,7,8,12]
def r_ag_7:=rg [
a8n 13 false] [4,6,7,8,12,13]
def r_ag_8:=rg [
a8s 34 0 4,a80 35 34] [4,6,7,8,12,13,35]
def r_ag_9:=rg [
a8p 37 .eql 35 12,a88 36 37] [4,6,7,8,12,13,35,36]
def a16:=rg [
a8p 39 .eql 35 0,a88 38 39] [4,6,7,8,12,13,35,38]
def a15:=rg [
a8p 41 .eql 35 1,a88 40 41] [4,6,7,8,12,13,35,40]
def a14:=rg [
a8p 42 .eql 35 13,a88 40 42] [4,6,7,8,12,13,35,40]
def a13:=rg [
a8p 44 .eql 35 9,a88 43 44] [4,6,7,8,12,13,35,43]
def a12:=rg [
a8p 46 .eql 35 14,a88 45 46] [4,6,7,8,12,13,35,45]
def a11:=rg [
a8p 48 .eql 35 7,a88 47 48] [6,7,8,12,13,35,47]
@[go_sem] def a10:Ops:=[
a8p 49 .eql 35 16,a88 47 49]
def r_ag_16:=rg a10 [6,7,8,12,13,35,47]
@[go_sem] def a1z:Ops:=[
a8p 50 .eql 35 17,a88 47 50]
def r_ag_17:=rg a1z [6,7,8,12,13,35,47]
@[go_sem] def a1y:Ops:=[
a8p 52 .eql 35 8,a88 51 52]
def r_ag_18:=rg a1y [6,8,12,13,35,51]
@[go_sem] def a1x:Ops:=[
a8p 54 .eql 35 10,a88 53 54]
def r_ag_19:=rg a1x [6,8,12,35,53]
@[go_sem] def a1w:Ops:=[
a8p 55 .eql 35 11,a88 53 55]
def r_ag_20:=rg a1w [6,8,12,53]
@[go_sem] def a1v:Ops:=[
a8s 56 1 6,a80 57 56,a8z 58 false 57,oo 59 (.mkS 1 1 (.bool false) (.t 58) (.t 58)),a88 14 59]
def r_ag_21:=rg a1v [6,8,12,14]
@[go_sem] def a1u:Ops:=[
a8s 60 1 6,a80 61 60,a8z 62 false 61,oo 63 (.mv (ci 0))]
def r_ag_22:=rg a1u [8,12,14,61,62,63]
@[go_sem] def a1s:Ops:=[
a8q 64 .lss 63 62]
def a1t:=rg a1s [8,12,14,61,62,63,64]
@[go_sem] def a1q:Ops:=[
a82 65 63,a8x 66 1 61 63,a80 67 66,a88 15 65,a88 16 67]
def a1r:=rg a1q [8,12,14,15,16,61,62,63]
@[go_sem] def a1o:Ops:=[
a82 68 14,a82 69 15,a82 70 16,a8p 71 .neq 70 0,a8x 72 1 68 69,a87 1 72 71]
def a1p:=rg a1o [8,12,14,61,62,63]
@[go_sem] def a1m:Ops:=[
a8p 73 .add 63 1,a82 63 73]
def a1n:=rg a1m [8,12,14,61,62,63]
def a5h:ICode:=(.seq a1t (.seq (.cond (.t 64) .skip (.exit 10)) (.seq (.block 11 (.seq a1r a1p)) a1n)))
def a5y:=a8v a5h.eq_1
@[go_sem] def a1l:Ops:=[
a82 74 12,a82 75 14,a8r 76 n_dv [(.t 75)],a8r 77 n_bo [(.t 74),(ci 1),(.t 76)]]
def r_ag_28:=rg a1l [8,12]
@[go_sem] def a1k:Ops:=[
a82 78 12,a8s 79 1 6,a80 80 79,a8r 81 n_d7 [(.t 80)],a8r 82 n_dz [(.t 81)],a8r 83 n_bo [(.t 78),(ci 1),(.t 82)]]
def r_ag_29:=rg a1k [8,12]
@[go_sem] def a1j:Ops:=[
a82 84 12,a8s 85 1 6,a80 86 85,a8r 87 n_du [(.t 86),(.c (.fn n_di))],a8r 88 n_bd [(.t 84),(ci 1),(.t 87),(.c (.bool true))]]
def r_ag_30:=rg a1j [6,8,12]
@[go_sem] def a1i:Ops:=[
a82 89 12,a8s 90 2 6,a80 91 90,a8r 92 n_dy [(.t 91),(.c (.fn n_df))],a8r 93 n_bd [(.t 89),(ci 5),(.t 92),(.c (.bool false))]]
def r_ag_31:=rg a1i [8,12]
@[go_sem] def a1h:Ops:=[
a82 94 12,a8s 95 1 6,a80 96 95,a8r 97 n_d6 [(.t 96)],a8r 98 n_bo [(.t 94),(ci 1),(.t 97)]]
def r_ag_32:=rg a1h [4,6,8,12]
@[go_sem] def a1g:Ops:=[
a82 99 12,a8s 100 5 4,a80 101 100,oo 102 (.lit false 1 1 (.int .i64 0) [(0,(.t 101))]),a8s 103 1 6,a80 104 103,a8z 105 false 104,a8r 106 n_dj [(.t 102),(.t 105)],a8r 107 n_bd [(.t 99),(ci 5),(.t 106),(.c (.bool true))]]
def r_ag_33:=rg a1g [8,12]
def a1f:=rg [
a8s 108 3 6,a80 109 108,a8s 110 3 7,a80 111 110,a8r 112 n_cg [(.t 109),(.t 111)],a88 13 112] [6,8,12,13]
def a1e:=rg [
a82 113 12,a8s 114 3 6,a80 115 114,a82 116 13,a8r 117 n_av [(.t 113),(.t 115),(.t 116)]] [8,12]
@[go_sem] def a1d:Ops:=[
a82 118 12,a8s 119 4 6,a80 120 119,a8r 121 n_bd [(.t 118),(ci 2),(.t 120),(.c (.bool false))]]
def r_ag_36:=rg a1d [8,12]
@[go_sem] def a1c:Ops:=[
a82 122 12,a8s 123 1 6,a80 124 123,a8r 125 n_bd [(.t 122),(ci 1),(.t 124),(.c (.bool true))]]
def r_ag_37:=rg a1c [8,12]
def a1b:=rg [
a82 126 12,a83 127 126,a8s 128 10 127,a80 129 128,a8p 130 .neq 129 0] [8,12,130]
@[go_sem] def a09:Ops:=[
oo 131 (.build [(.int .i64 0),(.int .i64 0)] []),a82 132 12,a83 133 132,a8s 134 10 133,a80 135 134,a87 2 8 131,oo 9 (.asg (.c .nilS)),a88 10 135]
def a1a:List (Nat×Nat):=[(0,1),(0,2),(0,3),(0,4),(1,5),(2,5),(3,5),(4,5),(1,6),(2,6),(3,6),(4,6)]
def r_ag_39:ICode:= .region a09 a1a [8,9,10]
@[go_sem] def abw:Ops:=[
a82 136 12,a83 137 136,a8s 138 7 137,a81 139 2 138,a82 140 12,a83 141 140,a8s 142 9 141,a80 143 142,a8r 144 n_de [(.t 143)],a87 2 8 139,a88 9 144,a8o 10 0]
def abx:List (Nat×Nat):=[(0,4),(1,4),(2,4),(3,4),(0,5),(1,5),(2,5),(3,5),(0,6),(1,6),(2,6),(3,6),(0,7),(1,7),(2,7),(3,7),(0,8),(1,8),(2,8),(3,8)]
def a08:ICode:= .region abw abx [8,9,10]
@[go_sem] theorem r_ag_40_u:Gu X K s a08 abx abw [8,9,10]:=go_regionU' _ _ _ _
def c_ag:ICode:=(.seq r_ag_0 (.seq (.seq r_di (.seq r_df (.cond (.t 20) (.seq r_ag_3 .ret) .skip))) (.seq r_ag_4 (.seq (.seq r_ag_5 (.cond (.t 28) r_ag_6 .skip)) (.seq r_ag_7 (.seq (.seq r_ag_8 (.block 0 (.seq (.block 9 (.seq (.block 8 (.seq (.block 7 (.seq (.block 6 (.seq (.block 5 (.seq (.block 4 (.seq (.block 3 (.seq (.block 2 (.seq (.block 1 (.seq (.seq (.seq r_ag_9 (.cond (.t 36) (.exit 1) .skip)) (.seq (.seq a16 (.cond (.t 38) (.exit 2) .skip)) (.seq (.seq (.seq a15 (.cond (.t 40) .skip a14)) (.cond (.t 40) (.exit 3) .skip)) (.seq (.seq a13 (.cond (.t 43) (.exit 4) .skip)) (.seq (.seq a12 (.cond (.t 45) (.exit 5) .skip)) (.seq (.seq (.seq a11 (.cond (.t 47) .skip (.seq r_ag_16 (.cond (.t 47) .skip r_ag_17)))) (.cond (.t 47) (.exit 6) .skip)) (.seq (.seq r_ag_18 (.cond (.t 51) (.exit 7) .skip)) (.seq (.seq r_ag_19 (.cond (.t 53) .skip r_ag_20)) (.cond (.t 53) (.exit 8) .skip))))))))) (.exit 9))) (.exit 0))) (.seq (.seq r_ag_21 (.seq (.seq r_ag_22 (.block 10 (.loop a5h))) (.seq (.demote [14]) r_ag_28))) (.exit 0)))) (.seq r_ag_29 (.exit 0)))) (.seq (.seq r_ag_30 r_ag_31) (.exit 0)))) (.seq (.seq r_ag_32 r_ag_33) (.exit 0)))) a1f)) (.seq a1e (.exit 0)))) (.seq r_ag_36 (.exit 0)))) (.seq r_ag_37 (.exit 0))))) (.seq a1b (.cond (.t 130) (.seq r_ag_39 .ret) (.seq a08 .ret)))))))))
def i_ag:IFunc:=⟨4,[.cell 8 (some 2),.t 9,.t 10],c_ag⟩
def a_ag:Advice:=⟨[],a8y [(35,a1e),(15,a11),(14,a12),(13,a13),(12,a14),(11,a15),(10,a16),(9,r_ag_9),(8,r_ag_8),(7,r_ag_7),(5,r_ag_5),(4,r_ag_4),(0,r_ag_0)]++[(39,[8,9,10]),(38,[8,9,10]),(37,[8,12,130]),(36,[8,12]),(34,[8,12]),(33,[6,8,12,13]),(32,[8,12]),(31,[4,6,8,12]),(30,[8,12]),(29,[6,8,12]),(28,[8,12]),(27,[8,12]),(26,[8,12,14,61,62,63]),(25,[8,12,14,61,62,63]),(24,[8,12,14,15,16,61,62,63]),(23,[8,12,14,61,62,63,64]),(22,[8,12,14,61,62,63]),(21,[6,8,12,14]),(20,[6,8,12,53]),(19,[6,8,12,35,53]),(18,[6,8,12,13,35,51]),(17,[6,7,8,12,13,35,47]),(16,[6,7,8,12,13,35,47]),(6,[4,6,7,8,12]),(3,[8,9,10]),(2,[1,4,6,7,8,11,20]),(1,[1,4,6,7,8,11])],[(27,[14])],[],[],[]⟩
def r_cf_0:=rg [
oo 1 (.box 5 (.t 0)),oo 2 (.alloc [.nilS,.nilS,.nilS,.nilS,.nilS])] [1,2]
def r_cf_1:=rg [
a8s 3 0 1,a80 4 3,a8s 5 1 1,a80 6 5,a8s 7 2 1,a80 8 7,a8s 9 3 1,a80 10 9,a8s 11 4 1,a80 12 11,oo 13 (.build [.nilS,.nilS,.nilS,.nilS,.nilS] [(0,1,(.t 4)),(1,1,(.t 6)),(2,1,(.t 8)),(3,1,(.t 10)),(4,1,(.t 12))]),a87 5 2 13] [2]
def c_cf:ICode:=(.seq r_cf_0 (.seq r_cf_1 .ret))
def i_cf:IFunc:=⟨1,[.cell 2 (some 5)],c_cf⟩
def a_cf:=zzy (zzz 1 [r_cf_1,r_cf_0])
def r_bk_0:=rg [
oo 1 (.box 6 (.t 0)),a8o 2 0] [1]
def r_bk_1:=rg [
a8s 3 0 1,a80 4 3] [1,4]
def r_bk_2:=rg [
a8p 6 .eql 4 0,a88 5 6] [1,4,5]
def r_bk_3:=rg [
a8p 7 .eql 4 4,a88 5 7] [1,5]
def r_bk_4:=rg [
a8o 2 7] [2]
def r_bk_5:=rg [
a8s 8 1 1,a80 9 8,a8p 10 .lss 9 64,a82 11 10,og 12 11 false (.fieldA 1 (.t 1)),og 13 11 false (.load none (.t 12)),og 14 11 false (.bin .gtr (.t 13) (ci 65536)),a86 15 11 14,a82 16 15,og 17 16 false (.fieldA 2 (.t 1)),og 18 16 false (.load none (.t 17)),og 19 16 false (.bin .lss (.t 18) (ci 1)),a86 20 16 19,a82 21 20,og 22 21 false (.fieldA 2 (.t 1)),og 23 21 false (.load none (.t 22)),og 24 21 false (.bin .gtr (.t 23) (ci 2)),a86 25 21 24,a82 26 25,og 27 26 false (.fieldA 3 (.t 1)),og 28 26 false (.load none (.t 27)),og 29 26 false (.bin .lss (.t 28) (ci 0)),a86 30 26 29,a82 31 30,og 32 31 false (.fieldA 3 (.t 1)),og 33 31 false (.load none (.t 32)),og 34 31 false (.bin .gtr (.t 33) (ci 100)),a86 35 31 34,a82 36 35,og 37 36 false (.fieldA 4 (.t 1)),og 38 36 false (.load none (.t 37)),og 39 36 false (.bin .lss (.t 38) (ci 1)),a86 40 36 39,a82 41 40,og 42 41 false (.fieldA 4 (.t 1)),og 43 41 false (.load none (.t 42)),og 44 41 false (.bin .gtr (.t 43) (ci 4096)),a86 45 41 44,a82 46 45,og 47 46 false (.fieldA 5 (.t 1)),og 48 46 false (.load none (.t 47)),og 49 46 false (.bin .lss (.t 48) (ci 0)),a86 50 46 49,a82 51 50,og 52 51 false (.fieldA 5 (.t 1)),og 53 51 false (.load none (.t 52)),og 54 51 false (.bin .gtr (.t 53) (ci 4096)),a86 55 51 54] [55]
def r_bk_6:=rg [
a8o 2 1] [2]
def r_bk_7:=rg [
a8o 2 0] [2]
def c_bk:ICode:=(.seq r_bk_0 (.seq (.seq r_bk_1 (.block 0 (.seq (.seq r_bk_2 (.cond (.t 5) .skip r_bk_3)) (.cond (.t 5) .skip (.seq r_bk_4 .ret))))) (.seq r_bk_5 (.cond (.t 55) (.seq r_bk_6 .ret) (.seq r_bk_7 .ret)))))
def i_bk:IFunc:=⟨1,[.t 2],c_bk⟩
def a_bk:=zzy (zzz 7 [r_bk_7,r_bk_6,r_bk_5,.ret,.ret,.ret,r_bk_1,r_bk_0]++[(2,[2]),(4,[1,5]),(3,[1,4,5])])
def r_aa_0:=rg [
oo 3 (.box 6 (.t 1)),a8n 4 false] [0,3]
def r_aa_1:=rg [
a8r 15 n_dg [],a84 16 15] [0,3,16]
@[go_sem] def r_aa_2_o:Ops:=[
a8n 4 false]
def r_aa_2:=rg r_aa_2_o [4]
def r_aa_3:=rg [
a82 17 0,a8z 18 false 17,a8p 19 .gtr 18 100,a82 20 19,og 21 20 false (.load (some 6) (.t 3)),og 22 20 false (.call false n_bk [(.t 21)]),og 23 20 false (.bin .neq (.t 22) (ci 0)),a86 24 20 23] [0,3,24]
def r_aa_4:=rg [
a8n 4 true] [4]
def r_aa_5:=rg [
oo 25 (.lit false 1 1 (.str []) [(0,(.c (.str [97])))]),oo 26 (.build [(.int .i64 0),.nilS,.nilS,(.int .i64 0),(.int .i64 0),(.int .i64 0)] [(0,1,(ci 7))]),oo 27 (.lit false 6 1 (.agg [(.int .i64 0),(.sl []),(.sl []),(.int .i64 0),(.int .i64 0),(.int .i64 0)]) [(0,(.t 26))]),oo 28 (.build [(.int .i64 0),.nilS,.nilS,(.int .i64 0),(.int .i64 0),(.int .i64 0)] [(0,1,(ci 12)),(1,1,(.t 25)),(2,1,(.t 27))]),a8r 29 n_dr [(.t 28)],a88 5 29] [0,3,5]
def r_aa_6:=rg [
a82 30 5,a8z 31 false 30,a8p 32 .neq 31 2] [0,3,5,32]
@[go_sem] def r_aa_7_o:Ops:=[
a8n 4 false]
def r_aa_7:=rg r_aa_7_o [4]
def r_aa_8:=rg [
a82 33 0,oo 34 (.build [.nilS,.nilS,.nilS,.nilS,.nilS] [(3,1,(.t 33))]),oo 6 (.alloc [.nilS,.nilS,.nilS,.nilS,.nilS]),a87 5 6 34] [0,3,5,6]
def r_aa_9:=rg [
a8o 7 0] [0,3,5,6,7]
def a2n:=rg [
a8o 8 0] [0,3,5,6,7,8]
def aih:=rg [
a82 35 8,a82 36 0,a8z 37 false 36,a8q 38 .lss 35 37] [0,3,5,6,7,8,38]
def aig:=rg [
a82 41 0,a82 42 8,a8x 43 1 41 42,a80 44 43,a8z 45 false 44,a8p 46 .gtr 45 200] [0,3,5,6,7,8,46]
def aif:=rg [
a8n 4 true] [4]
def aie:=rg [
a8s 47 0 6,a80 48 47,oo 49 (.lit false 1 1 (.bool false) [(0,(.c (.bool true)))]),oo 50 (.append 1 1 (.t 48) (.t 49)),a8s 51 0 6,a87 1 51 50] [0,3,5,6,7,8]
def aid:=rg [
a8n 9 true] [0,3,5,6,7,8,9]
def aic:=rg [
a8o 10 0] [0,3,5,6,7,8,9,10]
def aib:=rg [
a82 52 10,a82 53 8,a8q 54 .lss 52 53] [0,3,5,6,7,8,9,10,54]
@[go_sem] def ade:Ops:=[
a82 57 9,a82 58 57,a8u 59 58 true 0,a8u 60 58 true 10,og 61 58 true (.idxA 1 (.t 59) (.t 60)),og 62 58 true (.load none (.t 61)),og 63 58 true (.b2s (.t 62)),a8u 64 58 true 0,a8u 65 58 true 8,og 66 58 true (.idxA 1 (.t 64) (.t 65)),og 67 58 true (.load none (.t 66)),og 68 58 true (.b2s (.t 67)),og 69 58 true (.bin .neq (.t 63) (.t 68)),a85 70 58 69,a88 9 70]
def adf:List (Nat×Nat):=[(2,3),(2,7),(3,7),(4,7),(5,7),(6,7),(2,8),(3,8),(4,8),(5,8),(6,8),(7,8),(2,9),(3,9),(4,9),(5,9),(6,9),(2,10),(3,10),(4,10),(5,10),(6,10),(2,11),(3,11),(4,11),(5,11),(6,11)]
def aia:ICode:= .region ade adf [0,3,5,6,7,8,9,10]
@[go_sem] theorem r_aa_18_u:Gu X K s aia adf ade [0,3,5,6,7,8,9,10]:=go_regionU' _ _ _ _
def ah9:=rg [
a82 55 10,a8p 56 .add 55 1,a88 10 56] [0,3,5,6,7,8,9,10]
def xd:ICode:=(.seq (.seq aib (.cond (.t 54) .skip (.exit 2))) (.seq (.block 3 aia) ah9))
def a5z:=a8v xd.eq_1
def qc:=rg [
a82 71 9] [0,3,5,6,7,8,71]
def qb:=rg [
a82 72 7,a8p 73 .add 72 1,a88 7 73] [0,3,5,6,7,8]
def qa:=rg [
a82 39 8,a8p 40 .add 39 1,a88 8 40] [0,3,5,6,7,8]
def lq:ICode:=(.seq (.seq aih (.cond (.t 38) .skip (.exit 0))) (.seq (.block 1 (.seq (.seq aig (.cond (.t 46) (.seq aif .ret) .skip)) (.seq aie (.seq aid (.seq (.seq aic (.block 2 (.loop xd))) (.seq qc (.cond (.t 71) qb .skip))))))) qa))
def a50:=a8v lq.eq_1
@[go_sem] def ac7:Ops:=[
a82 75 5,oo 76 (.idxA 8 (.t 75) (ci 1)),a81 77 8 76,a81 78 5 6,a8r 79 n_cf [(.t 78)],a81 80 6 3,a8r 81 n_ag [(.t 77),(ci 1),(.t 79),(.t 80)],a82 74 81,a89 82 74 0,a89 83 74 1,a89 84 74 2,oo 11 (.alloc [(.int .i64 0),(.int .i64 0)]),a87 2 11 82,a88 12 83,a88 13 84]
def ac8:List (Nat×Nat):=[(0,3),(1,3),(2,3),(0,4),(1,4),(2,4),(0,5),(1,5),(2,5),(3,5),(4,5),(8,9),(8,10),(9,10),(0,11),(1,11),(2,11),(3,11),(4,11),(5,11),(6,11),(7,11),(8,11),(9,11),(10,11),(9,12),(10,12),(10,13)]
def ah8:ICode:= .region ac7 ac8 [0,3,7,11,12,13]
@[go_sem] theorem r_aa_25_u:Gu X K s ah8 ac8 ac7 [0,3,7,11,12,13]:=go_regionU' _ _ _ _
def ah7:=rg [
a82 85 13,a8p 86 .neq 85 0] [0,3,7,11,12,86]
@[go_sem] def a2l:Ops:=[
a8n 4 false]
def a2m:=rg a2l [4]
def ah6:=rg [
a82 87 0,a8z 88 false 87,a8p 89 .gtr 88 0,a82 90 89,a8u 91 90 true 7,og 92 90 true (.bin .mul (ci 100) (.t 91)),og 93 90 true (.fieldA 3 (.t 3)),og 94 90 true (.load none (.t 93)),a8u 95 90 true 0,og 96 90 true (.len false (.t 95)),og 97 90 true (.bin .mul (.t 94) (.t 96)),og 98 90 true (.bin .leq (.t 92) (.t 97)),a85 99 90 98,a88 14 99] [3,7,11,12,14]
def ah5:=rg [
a82 100 14] [3,7,11,12,100]
def ah4:=rg [
a82 101 12,a8z 102 false 101,a8p 103 .eql 102 3,a82 104 103,og 105 104 true (.fieldA 1 (.t 11)),og 106 104 true (.load none (.t 105)),a8u 107 104 true 7,og 108 104 true (.bin .eql (.t 106) (.t 107)),a85 109 104 108,a82 110 109,og 111 110 true (.fieldA 0 (.t 11)),og 112 110 true (.load none (.t 111)),og 113 110 true (.fieldA 2 (.t 3)),og 114 110 true (.load none (.t 113)),og 115 110 true (.bin .mul (ci 2) (.t 114)),og 116 110 true (.bin .sub (.t 115) (ci 1)),og 117 110 true (.bin .eql (.t 112) (.t 116)),a85 118 110 117,a88 4 118] [4]
def ah3:=rg [
a82 119 12,a8z 120 false 119,a8p 121 .eql 120 2,a82 122 121,og 123 122 true (.fieldA 1 (.t 11)),og 124 122 true (.load none (.t 123)),og 125 122 true (.bin .eql (.t 124) (ci 0)),a85 126 122 125,a82 127 126,og 128 127 true (.fieldA 0 (.t 11)),og 129 127 true (.load none (.t 128)),og 130 127 true (.fieldA 2 (.t 3)),og 131 127 true (.load none (.t 130)),og 132 127 true (.bin .mul (ci 2) (.t 131)),og 133 127 true (.bin .sub (.t 132) (ci 2)),og 134 127 true (.bin .eql (.t 129) (.t 133)),a85 135 127 134,a88 4 135] [4]
def c_aa:ICode:=(.seq r_aa_0 (.seq r_aa_1 (.cond (.t 16) (.seq r_aa_2 .ret) (.seq r_aa_3 (.cond (.t 24) (.seq r_aa_4 .ret) (.seq r_aa_5 (.seq r_aa_6 (.cond (.t 32) (.seq r_aa_7 .ret) (.seq r_aa_8 (.seq r_aa_9 (.seq (.seq a2n (.block 0 (.loop lq))) (.seq ah8 (.seq ah7 (.cond (.t 86) (.seq a2m .ret) (.seq ah6 (.seq ah5 (.cond (.t 100) (.seq ah4 .ret) (.seq ah3 .ret))))))))))))))))))
def i_aa:IFunc:=⟨2,[.t 4],c_aa⟩
def a_aa:Advice:=⟨[50],zzz 22 [qb,qc,.ret,ah9,.ret,.ret,.ret,.ret,.ret,.ret,.ret,aih,a2n,r_aa_9,r_aa_8,.ret,r_aa_6,r_aa_5,r_aa_4,r_aa_3,.ret,r_aa_1,r_aa_0]++[(29,[4]),(28,[4]),(27,[3,7,11,12,100]),(26,[3,7,11,12,14]),(25,[4]),(24,[0,3,7,11,12,86]),(23,[0,3,7,11,12,13]),(12,[0,3,5,6,7,8]),(20,[0,3,5,6,7,8,9,10]),(18,[0,3,5,6,7,8,9,10,54]),(17,[0,3,5,6,7,8,9,10]),(16,[0,3,5,6,7,8,9]),(15,[0,3,5,6,7,8]),(14,[4]),(13,[0,3,5,6,7,8,46]),(7,[4]),(2,[4])],[],[],[],[]⟩
def tbl:List (FuncId×IFunc):=[(n_b8,i_b8),(n_ab,i_ab),(n_ay,i_ay),(n_ai,i_ai),(n_bu,i_bu),(n_av,i_av),(n_cg,i_cg),(n_bn,i_bn),(n_b4,i_b4),(n_ak,i_ak),(n_ae,i_ae),(n_am,i_am),(n_br,i_br),(n_ap,i_ap),(n_ax,i_ax),(n_cw,i_cw),(n_bm,i_bm),(n_cx,i_cx),(n_ce,i_ce),(n_aq,i_aq),(n_az,i_az),(n_b9,i_b9),(n_cn,i_cn),(n_bh,i_bh),(n_bq,i_bq),(n_cz,i_cz),(n_b7,i_b7),(n_aw,i_aw),(n_bx,i_bx),(n_ac,i_ac),(n_b6,i_b6),(n_af,i_af),(n_bg,i_bg),(n_bt,i_bt),(n_au,i_au),(n_bd,i_bd),(n_b5,i_b5),(n_bw,i_bw),(n_bv,i_bv),(n_ah,i_ah),(n_cr,i_cr),(n_ba,i_ba),(n_bz,i_bz),(n_bc,i_bc),(n_ct,i_ct),(n_ao,i_ao),(n_bo,i_bo),(n_aj,i_aj),(n_bp,i_bp),(n_c8,i_c8),(n_ag,i_ag),(n_cf,i_cf),(n_bk,i_bk),(n_aa,i_aa)]
def clips:List FuncId:=[49,133,132,84,32,78,76]
noncomputable def tab:List AF:=[⟨124,Tryz.f124,⟨[],[(11,[4,5]),(10,[0,1,4]),(9,[0,1,7,9,12,13]),(8,[0,1,6,7,9,12,13]),(7,[0,1,6,7,9,11,12]),(6,[0,1,6,7,9,11]),(5,[0,1,6,7,8,9,10]),(4,[0,1,6,7,8,9]),(3,[0,1,6,7,8]),(2,[0,1,6,7]),(1,[0,1,6]),(0,[0,1])],[],[],[],[]⟩⟩,
⟨123,Tryz.f123,⟨[],[(2,[4,5]),(1,[6]),(0,[0,1])],[],[],[],[]⟩⟩,
⟨88,Tryz.f88,⟨[],[(4,[4,5]),(3,[8,9]),(2,[4,5]),(1,[6,7]),(0,[0,1])],[],[],[],[]⟩⟩,
⟨46,Tryz.f46,⟨[],[(10,[4]),(9,[7,8]),(8,[7,8,37]),(7,[7,8]),(6,[0,7]),(5,[0,6]),(4,[0,6,26]),(3,[0,5,6]),(2,[0,1]),(1,[0,1,10]),(0,[0,1])],[],[],[],[]⟩⟩,
⟨45,Tryz.f45,⟨[],[(7,[2]),(6,[3,6,7,8]),(5,[3,6,7,8]),(4,[3,5,6,7,8]),(3,[3,6,7,8,9]),(2,[3,6,7,8]),(1,[0,3]),(0,[0])],[],[],[],[]⟩⟩,
⟨44,Tryz.f44,⟨[],[(14,[2]),(13,[0,3,24,25]),(12,[0,3,24,25]),(11,[0,3,24,25,26]),(10,[0,3,24,25]),(9,[2]),(8,[0,3,20]),(6,[0,3,4]),(7,[0,3,4]),(5,[0,3,4,14]),(4,[0,3,4]),(3,[0,3]),(2,[2]),(1,[0,6]),(0,[0])],[],[],[],[]⟩⟩,
⟨43,Tryz.f43,⟨[],[(1,[2]),(0,[0])],[],[],[],[]⟩⟩,
⟨42,Tryz.f42,⟨[],[(7,[4]),(6,[1,5,11,12,13]),(5,[1,5,11,12,13]),(4,[1,5,6,7,11,12,13]),(3,[1,5,11,12,13,14]),(2,[1,5,11,12,13]),(1,[0,1,5]),(0,[0,1])],[],[],[],[]⟩⟩,
⟨178,Tryz.f178,⟨[],[(7,[2,3]),(6,[0,5]),(5,[2,3]),(4,[0,4,5,11]),(3,[0,4,5]),(2,[0,5,6]),(1,[0,5]),(0,[0])],[],[],[],[]⟩⟩,
⟨197,Tryz.f197,⟨[],[(21,[2]),(20,[3]),(19,[3]),(18,[3]),(17,[3]),(16,[3]),(15,[3]),(14,[3]),(13,[3,29]),(12,[3,16,27]),(11,[3,16,25]),(10,[3,16,23]),(9,[3,16,21]),(8,[3,16,19]),(7,[3,16,17]),(6,[3,16]),(5,[0,3]),(2,[2]),(4,[2]),(3,[0,11]),(1,[0,4]),(0,[0])],[],[],[],[]⟩⟩,
⟨177,Tryz.f177,⟨[],[(8,[2]),(7,[0,5]),(6,[2]),(5,[0,4,5,12]),(4,[0,4,5]),(3,[0,3,5]),(2,[0,5,6]),(1,[0,5]),(0,[0])],[],[],[],[]⟩⟩,
⟨41,Tryz.f41,⟨[],[(1,[2]),(0,[0])],[],[],[],[]⟩⟩,
⟨40,Tryz.f40,⟨[],[(7,[4]),(6,[1,5,11,12,13]),(5,[1,5,11,12,13]),(4,[1,5,6,7,11,12,13]),(3,[1,5,11,12,13,14]),(2,[1,5,11,12,13]),(1,[0,1,5]),(0,[0,1])],[],[],[],[]⟩⟩,
⟨38,Tryz.f38,⟨[],[(7,[2]),(6,[3,9,10,11]),(5,[3,9,10,11]),(4,[3,4,5,9,10,11]),(3,[3,9,10,11,12]),(2,[3,9,10,11]),(1,[0,3]),(0,[0])],[],[],[],[]⟩⟩,
⟨82,Tryz.f82,⟨[12,14],[(3,[]),(2,[]),(1,[1,2]),(0,[0,1,4])],[],[],[],[(0,[0])]⟩⟩,
⟨37,Tryz.f37,⟨[51,59],[(14,[2]),(13,[3]),(12,[0,3,4,5,6]),(10,[0,3,4,5,6,7]),(9,[0,3,4,5,6,7]),(11,[0,3,4,5,6,7]),(8,[0,3,4,5,6,7,39]),(7,[0,3,4,5,6,7]),(6,[0,3,4,5,6,7,35]),(5,[0,3,4,5,6,7]),(4,[0,3,4,5,6,12]),(3,[0,3,4,5,6]),(2,[0,3,4,5]),(1,[0,3,4]),(0,[0])],[],[],[],[]⟩⟩,
⟨81,Tryz.f81,⟨[],[(8,[2]),(7,[3,11,12,13]),(6,[3,11,12,13]),(5,[3,4,11,12,13,18]),(4,[3,4,5,11,12,13]),(3,[3,11,12,13,14]),(2,[3,11,12,13]),(1,[0,3]),(0,[0])],[],[],[],[]⟩⟩,
⟨36,Tryz.f36,⟨[],[(3,[2]),(2,[2]),(1,[0,5]),(0,[0])],[],[],[],[]⟩⟩,
⟨77,Tryz.f77,⟨[5],[(3,[2]),(2,[2]),(1,[0,4]),(0,[0])],[],[],[],[]⟩⟩,
⟨33,Tryz.f33,⟨[32,44,50],[(11,[8]),(10,[0]),(9,[0,3,9,10,34,35,36]),(8,[0,3,9,10,34,35,36]),(7,[0,3,9,10,12,34,35,36]),(6,[0,3,9,10,12,34,35,36]),(5,[0,3,9,10,34,35,36,37]),(4,[0,3,9,10,34,35,36]),(3,[0,3,5,9,10]),(2,[0,3,5,9]),(1,[0,2,3,5,9]),(0,[0,2,3,5])],[(10,[10])],[(6,[12])],[(50,0)],[]⟩⟩,
⟨111,Tryz.f111,⟨[],[(24,[2]),(23,[2]),(22,[1,73]),(21,[2]),(20,[1,6,72]),(19,[1,3,4,5,6]),(18,[2]),(17,[1,3,4,5,6,48]),(16,[1,3,4,5,6]),(15,[2]),(14,[1,3,4,5,6,40]),(13,[1,3,4,5,6]),(12,[1,3,4,5,6]),(11,[1,3,4,5,6]),(10,[1,3,4,5,6]),(9,[1,3,4,5,6,20]),(8,[1,3,4,5,6,8,17]),(7,[1,3,4,5,6,8,17]),(6,[1,3,4,5,6,8,15]),(5,[1,3,4,5,6,8,13]),(4,[1,3,4,5,6,8,11]),(3,[1,3,4,5,6,8,9]),(2,[1,3,4,5,6,8]),(1,[1,3,4,5,6]),(0,[1])],[],[],[],[]⟩⟩,
⟨75,Tryz.f75,⟨[],[(15,[6]),(14,[1,2,48,49,50]),(13,[6]),(12,[1,2,9,48,49,50,60]),(11,[1,2,9,48,49,50]),(10,[1,2,8,48,49,50]),(9,[1,2,48,49,50,51]),(8,[1,2,48,49,50]),(7,[1,2,3]),(2,[6]),(4,[6]),(6,[6]),(5,[1,2,3,28]),(3,[1,2,3,19]),(1,[1,2,3,10]),(0,[1,2,3])],[],[(10,[8])],[],[]⟩⟩,
⟨31,Tryz.f31,⟨[],[(2,[2]),(1,[1,3]),(0,[1])],[],[],[],[]⟩⟩,
⟨12,Tryz.f12,⟨[],[(3,[2]),(2,[2]),(1,[1,5]),(0,[1])],[],[],[(7,0)],[]⟩⟩]
set_option maxRecDepth 100000 in
theorem k_b8:cFunc Tryz.prog a_b8 Tryz.f131=some i_b8:=yr
set_option maxRecDepth 100000 in
theorem k_ab:cFunc Tryz.prog a_ab Tryz.f130=some i_ab:=yr
set_option maxRecDepth 100000 in
theorem k_ay:cFunc Tryz.prog a_ay Tryz.f91=some i_ay:=yr
set_option maxRecDepth 100000 in
theorem k_ai:cFunc Tryz.prog a_ai Tryz.f129=some i_ai:=yr
set_option maxRecDepth 100000 in
theorem k_bu:cFunc Tryz.prog a_bu Tryz.f90=some i_bu:=yr
set_option maxRecDepth 100000 in
theorem k_av:cFunc Tryz.prog a_av Tryz.f48=some i_av:=yr
set_option maxRecDepth 100000 in
theorem k_cg:cFunc Tryz.prog a_cg Tryz.f47=some i_cg:=yr
set_option maxRecDepth 100000 in
theorem k_bn:cFunc Tryz.prog a_bn Tryz.f161=some i_bn:=yr
set_option maxRecDepth 100000 in
theorem k_b4:cFunc Tryz.prog a_b4 Tryz.f160=some i_b4:=yr
set_option maxRecDepth 100000 in
theorem k_ak:cFunc Tryz.prog a_ak Tryz.f122=some i_ak:=yr
set_option maxRecDepth 100000 in
theorem k_ae:cFunc Tryz.prog a_ae Tryz.f159=some i_ae:=yr
set_option maxRecDepth 100000 in
theorem k_am:cFunc Tryz.prog a_am Tryz.f182=some i_am:=yr
set_option maxRecDepth 100000 in
theorem k_br:cFunc Tryz.prog a_br Tryz.f158=some i_br:=yr
set_option maxRecDepth 100000 in
theorem k_ap:cFunc Tryz.prog a_ap Tryz.f157=some i_ap:=yr
set_option maxRecDepth 100000 in
theorem k_ax:cFunc Tryz.prog a_ax Tryz.f179=some i_ax:=yr
set_option maxRecDepth 100000 in
theorem k_cw:cFunc Tryz.prog a_cw Tryz.f180=some i_cw:=yr
set_option maxRecDepth 100000 in
theorem k_bm:cFunc Tryz.prog a_bm Tryz.f184=some i_bm:=yr
set_option maxRecDepth 100000 in
theorem k_cx:cFunc Tryz.prog a_cx Tryz.f176=some i_cx:=yr
set_option maxRecDepth 100000 in
theorem k_ce:cFunc Tryz.prog a_ce Tryz.f175=some i_ce:=yr
set_option maxRecDepth 100000 in
theorem k_aq:cFunc Tryz.prog a_aq Tryz.f156=some i_aq:=yr
set_option maxRecDepth 100000 in
theorem k_az:cFunc Tryz.prog a_az Tryz.f121=some i_az:=yr
set_option maxRecDepth 100000 in
theorem k_b9:cFunc Tryz.prog a_b9 Tryz.f181=some i_b9:=yr
set_option maxRecDepth 100000 in
theorem k_cn:cFunc Tryz.prog a_cn Tryz.f174=some i_cn:=yr
set_option maxRecDepth 100000 in
theorem k_bh:cFunc Tryz.prog a_bh Tryz.f154=some i_bh:=yr
set_option maxRecDepth 100000 in
theorem k_bq:cFunc Tryz.prog a_bq Tryz.f86=some i_bq:=yr
set_option maxRecDepth 100000 in
theorem k_cz:cFunc Tryz.prog a_cz Tryz.f87=some i_cz:=yr
set_option maxRecDepth 100000 in
theorem k_b7:cFunc Tryz.prog a_b7 Tryz.f153=some i_b7:=yr
set_option maxRecDepth 100000 in
theorem k_aw:cFunc Tryz.prog a_aw Tryz.f152=some i_aw:=yr
set_option maxRecDepth 100000 in
theorem k_bx:cFunc Tryz.prog a_bx Tryz.f151=some i_bx:=yr
set_option maxRecDepth 100000 in
theorem k_ac:cFunc Tryz.prog a_ac Tryz.f119=some i_ac:=yr
set_option maxRecDepth 100000 in
theorem k_b6:cFunc Tryz.prog a_b6 Tryz.f150=some i_b6:=yr
set_option maxRecDepth 100000 in
theorem k_af:cFunc Tryz.prog a_af Tryz.f173=some i_af:=yr
set_option maxRecDepth 100000 in
theorem k_bg:cFunc Tryz.prog a_bg Tryz.f149=some i_bg:=yr
set_option maxRecDepth 100000 in
theorem k_bt:cFunc Tryz.prog a_bt Tryz.f118=some i_bt:=yr
set_option maxRecDepth 100000 in
theorem k_au:cFunc Tryz.prog a_au Tryz.f85=some i_au:=yr
set_option maxRecDepth 100000 in
theorem k_bd:cFunc Tryz.prog a_bd Tryz.f39=some i_bd:=yr
set_option maxRecDepth 100000 in
theorem k_b5:cFunc Tryz.prog a_b5 Tryz.f116=some i_b5:=yr
set_option maxRecDepth 100000 in
theorem k_bw:cFunc Tryz.prog a_bw Tryz.f172=some i_bw:=yr
set_option maxRecDepth 100000 in
theorem k_bv:cFunc Tryz.prog a_bv Tryz.f148=some i_bv:=yr
set_option maxRecDepth 100000 in
theorem k_ah:cFunc Tryz.prog a_ah Tryz.f171=some i_ah:=yr
set_option maxRecDepth 100000 in
theorem k_cr:cFunc Tryz.prog a_cr Tryz.f170=some i_cr:=yr
set_option maxRecDepth 100000 in
theorem k_ba:cFunc Tryz.prog a_ba Tryz.f146=some i_ba:=yr
set_option maxRecDepth 100000 in
theorem k_bz:cFunc Tryz.prog a_bz Tryz.f115=some i_bz:=yr
set_option maxRecDepth 100000 in
theorem k_bc:cFunc Tryz.prog a_bc Tryz.f114=some i_bc:=yr
set_option maxRecDepth 100000 in
theorem k_ct:cFunc Tryz.prog a_ct Tryz.f113=some i_ct:=yr
set_option maxRecDepth 100000 in
theorem k_ao:cFunc Tryz.prog a_ao Tryz.f80=some i_ao:=yr
set_option maxRecDepth 100000 in
theorem k_bo:cFunc Tryz.prog a_bo Tryz.f35=some i_bo:=yr
set_option maxRecDepth 100000 in
theorem k_aj:cFunc Tryz.prog a_aj Tryz.f112=some i_aj:=yr
set_option maxRecDepth 100000 in
theorem k_bp:cFunc Tryz.prog a_bp Tryz.f79=some i_bp:=yr
set_option maxRecDepth 100000 in
theorem k_c8:cFunc Tryz.prog a_c8 Tryz.f34=some i_c8:=yr
set_option maxRecDepth 100000 in
theorem k_ag:cFunc Tryz.prog a_ag Tryz.f16=some i_ag:=yr
set_option maxRecDepth 100000 in
theorem k_cf:cFunc Tryz.prog a_cf Tryz.f17=some i_cf:=yr
set_option maxRecDepth 100000 in
theorem k_bk:cFunc Tryz.prog a_bk Tryz.f15=some i_bk:=yr
set_option maxRecDepth 100000 in
theorem k_aa:cFunc Tryz.prog a_aa Tryz.f7=some i_aa:=yr
theorem tbl_ok:Entries Tryz.prog tbl:=
 .cons (.of Tryz.func131 yr k_b8) <|
 .cons (.of Tryz.func130 yr k_ab) <|
 .cons (.of Tryz.func91 yr k_ay) <|
 .cons (.of Tryz.func129 yr k_ai) <|
 .cons (.of Tryz.func90 yr k_bu) <|
 .cons (.of Tryz.func48 yr k_av) <|
 .cons (.of Tryz.func47 yr k_cg) <|
 .cons (.of Tryz.func161 yr k_bn) <|
 .cons (.of Tryz.func160 yr k_b4) <|
 .cons (.of Tryz.func122 yr k_ak) <|
 .cons (.of Tryz.func159 yr k_ae) <|
 .cons (.of Tryz.func182 yr k_am) <|
 .cons (.of Tryz.func158 yr k_br) <|
 .cons (.of Tryz.func157 yr k_ap) <|
 .cons (.of Tryz.func179 yr k_ax) <|
 .cons (.of Tryz.func180 yr k_cw) <|
 .cons (.of Tryz.func184 yr k_bm) <|
 .cons (.of Tryz.func176 yr k_cx) <|
 .cons (.of Tryz.func175 yr k_ce) <|
 .cons (.of Tryz.func156 yr k_aq) <|
 .cons (.of Tryz.func121 yr k_az) <|
 .cons (.of Tryz.func181 yr k_b9) <|
 .cons (.of Tryz.func174 yr k_cn) <|
 .cons (.of Tryz.func154 yr k_bh) <|
 .cons (.of Tryz.func86 yr k_bq) <|
 .cons (.of Tryz.func87 yr k_cz) <|
 .cons (.of Tryz.func153 yr k_b7) <|
 .cons (.of Tryz.func152 yr k_aw) <|
 .cons (.of Tryz.func151 yr k_bx) <|
 .cons (.of Tryz.func119 yr k_ac) <|
 .cons (.of Tryz.func150 yr k_b6) <|
 .cons (.of Tryz.func173 yr k_af) <|
 .cons (.of Tryz.func149 yr k_bg) <|
 .cons (.of Tryz.func118 yr k_bt) <|
 .cons (.of Tryz.func85 yr k_au) <|
 .cons (.of Tryz.func39 yr k_bd) <|
 .cons (.of Tryz.func116 yr k_b5) <|
 .cons (.of Tryz.func172 yr k_bw) <|
 .cons (.of Tryz.func148 yr k_bv) <|
 .cons (.of Tryz.func171 yr k_ah) <|
 .cons (.of Tryz.func170 yr k_cr) <|
 .cons (.of Tryz.func146 yr k_ba) <|
 .cons (.of Tryz.func115 yr k_bz) <|
 .cons (.of Tryz.func114 yr k_bc) <|
 .cons (.of Tryz.func113 yr k_ct) <|
 .cons (.of Tryz.func80 yr k_ao) <|
 .cons (.of Tryz.func35 yr k_bo) <|
 .cons (.of Tryz.func112 yr k_aj) <|
 .cons (.of Tryz.func79 yr k_bp) <|
 .cons (.of Tryz.func34 yr k_c8) <|
 .cons (.of Tryz.func16 yr k_ag) <|
 .cons (.of Tryz.func17 yr k_cf) <|
 .cons (.of Tryz.func15 yr k_bk) <|
 .cons (.of Tryz.func7 yr k_aa) <|
 .nil
theorem tab_ok:ATab Tryz.prog tab:=
 .cons Tryz.func124 yr <|
 .cons Tryz.func123 yr <|
 .cons Tryz.func88 yr <|
 .cons Tryz.func46 yr <|
 .cons Tryz.func45 yr <|
 .cons Tryz.func44 yr <|
 .cons Tryz.func43 yr <|
 .cons Tryz.func42 yr <|
 .cons Tryz.func178 yr <|
 .cons Tryz.func197 yr <|
 .cons Tryz.func177 yr <|
 .cons Tryz.func41 yr <|
 .cons Tryz.func40 yr <|
 .cons Tryz.func38 yr <|
 .cons Tryz.func82 yr <|
 .cons Tryz.func37 yr <|
 .cons Tryz.func81 yr <|
 .cons Tryz.func36 yr <|
 .cons Tryz.func77 yr <|
 .cons Tryz.func33 yr <|
 .cons Tryz.func111 yr <|
 .cons Tryz.func75 yr <|
 .cons Tryz.func31 yr <|
 .cons Tryz.func12 yr <|
 .nil
def exts:FuncId→Option (List D→Option V):=fun f=>if f=n_dx then some (ajx) else if f=n_dg then some (xk) else if f=n_dq then some (xTab) else if f=n_dn then some (mm) else if f=n_dh then some (xCompare) else if f=n_dc then some (dc) else if f=n_cy then some (xSeqN n_db) else if f=n_cu then some (xSeqN n_da) else none
def iters:FuncId→Option (List D→Option (List (List D))):=fun f=>if f=n_db then some (gk) else if f=n_da then some (gk) else none
noncomputable def cfg:Cfg:={funcs:=fnsOf Tryz.prog tbl tab,meth:=fun _ _=>none,glob:=fun _=>none,gobj:=fun _=>none,intTy:=fun _=>false,clip:=fun f=>clips.contains f,ext:=exts,iter:=iters}
noncomputable abbrev X_b8:Kx:=fx cfg 0 [.t 4]
theorem e_b8:Oe cfg n_b8 2 [.t 4] c_b8:=fun _ _ _=>ag (fn:=i_b8) rfl rfl _ _ _
theorem o_b8 (x0 x1:D):Of X_b8 n_b8 [.d x0,.d x1] c_b8:=e_b8 0 _ _ rfl rfl
noncomputable abbrev X_ab:Kx:=fx cfg 0 [.t 6,.t 7]
theorem e_ab:Oe cfg n_ab 3 [.t 6,.t 7] c_ab:=fun _ _ _=>ag (fn:=i_ab) rfl rfl _ _ _
theorem o_ab (x0 x1 x2:D):Of X_ab n_ab [.d x0,.d x1,.d x2] c_ab:=e_ab 0 _ _ rfl rfl
noncomputable abbrev X_ay:Kx:=fx cfg 0 [.cell 2 (some 2)]
theorem e_ay:Oe cfg n_ay 1 [.cell 2 (some 2)] c_ay:=fun _ _ _=>ag (fn:=i_ay) rfl rfl _ _ _
theorem o_ay (x0:D):Of X_ay n_ay [.d x0] c_ay:=e_ay 0 _ _ rfl rfl
noncomputable abbrev X_ai:Kx:=fx cfg 0 [.t 4]
theorem e_ai:Oe cfg n_ai 2 [.t 4] c_ai:=fun _ _ _=>ag (fn:=i_ai) rfl rfl _ _ _
theorem o_ai (x0 x1:D):Of X_ai n_ai [.d x0,.d x1] c_ai:=e_ai 0 _ _ rfl rfl
noncomputable abbrev X_bu:Kx:=fx cfg 0 [.t 2,.t 3]
theorem e_bu:Oe cfg n_bu 1 [.t 2,.t 3] c_bu:=fun _ _ _=>ag (fn:=i_bu) rfl rfl _ _ _
theorem o_bu (x0:D):Of X_bu n_bu [.d x0] c_bu:=e_bu 0 _ _ rfl rfl
noncomputable abbrev X_av:Kx:=fx cfg 0 []
theorem e_av:Oe cfg n_av 3 [] c_av:=fun _ _ _=>ag (fn:=i_av) rfl rfl _ _ _
noncomputable abbrev X_cg:Kx:=fx cfg 0 [.t 4]
theorem e_cg:Oe cfg n_cg 2 [.t 4] c_cg:=fun _ _ _=>ag (fn:=i_cg) rfl rfl _ _ _
theorem o_cg (x0 x1:D):Of X_cg n_cg [.d x0,.d x1] c_cg:=e_cg 0 _ _ rfl rfl
noncomputable abbrev X_bn:Kx:=fx cfg 0 [.t 2]
theorem e_bn:Oe cfg n_bn 1 [.t 2] c_bn:=fun _ _ _=>ag (fn:=i_bn) rfl rfl _ _ _
theorem o_bn (x0:D):Of X_bn n_bn [.d x0] c_bn:=e_bn 0 _ _ rfl rfl
noncomputable abbrev X_b4:Kx:=fx cfg 0 []
theorem e_b4:Oe cfg n_b4 5 [] c_b4:=fun _ _ _=>ag (fn:=i_b4) rfl rfl _ _ _
noncomputable abbrev X_ak:Kx:=fx cfg 0 [.t 4]
theorem e_ak:Oe cfg n_ak 2 [.t 4] c_ak:=fun _ _ _=>ag (fn:=i_ak) rfl rfl _ _ _
theorem o_ak (x0 x1:D):Of X_ak n_ak [.d x0,.d x1] c_ak:=e_ak 0 _ _ rfl rfl
noncomputable abbrev X_ae:Kx:=fx cfg 0 [.t 6,.t 7]
theorem e_ae:Oe cfg n_ae 3 [.t 6,.t 7] c_ae:=fun _ _ _=>ag (fn:=i_ae) rfl rfl _ _ _
theorem o_ae (x0 x1 x2:D):Of X_ae n_ae [.d x0,.d x1,.d x2] c_ae:=e_ae 0 _ _ rfl rfl
noncomputable abbrev X_am:Kx:=fx cfg 0 [.t 6]
theorem e_am:Oe cfg n_am 3 [.t 6] c_am:=fun _ _ _=>ag (fn:=i_am) rfl rfl _ _ _
theorem o_am (x0 x1 x2:D):Of X_am n_am [.d x0,.d x1,.d x2] c_am:=e_am 0 _ _ rfl rfl
noncomputable abbrev X_br:Kx:=fx cfg 0 [.t 8,.t 9]
theorem e_br:Oe cfg n_br 4 [.t 8,.t 9] c_br:=fun _ _ _=>ag (fn:=i_br) rfl rfl _ _ _
theorem o_br (x0 x1 x2 x3:D):Of X_br n_br [.d x0,.d x1,.d x2,.d x3] c_br:=e_br 0 _ _ rfl rfl
noncomputable abbrev X_ap:Kx:=fx cfg 0 [.t 2,.t 3,.t 4]
theorem e_ap:Oe cfg n_ap 1 [.t 2,.t 3,.t 4] c_ap:=fun _ _ _=>ag (fn:=i_ap) rfl rfl _ _ _
theorem o_ap (x0:D):Of X_ap n_ap [.d x0] c_ap:=e_ap 0 _ _ rfl rfl
noncomputable abbrev X_ax:Kx:=fx cfg 0 [.t 6]
theorem e_ax:Oe cfg n_ax 3 [.t 6] c_ax:=fun _ _ _=>ag (fn:=i_ax) rfl rfl _ _ _
theorem o_ax (x0 x1 x2:D):Of X_ax n_ax [.d x0,.d x1,.d x2] c_ax:=e_ax 0 _ _ rfl rfl
noncomputable abbrev X_cw:Kx:=fx cfg 0 [.t 8]
theorem e_cw:Oe cfg n_cw 4 [.t 8] c_cw:=fun _ _ _=>ag (fn:=i_cw) rfl rfl _ _ _
theorem o_cw (x0 x1 x2 x3:D):Of X_cw n_cw [.d x0,.d x1,.d x2,.d x3] c_cw:=e_cw 0 _ _ rfl rfl
noncomputable abbrev X_bm:Kx:=fx cfg 0 [.t 2]
theorem e_bm:Oe cfg n_bm 1 [.t 2] c_bm:=fun _ _ _=>ag (fn:=i_bm) rfl rfl _ _ _
theorem o_bm (x0:D):Of X_bm n_bm [.d x0] c_bm:=e_bm 0 _ _ rfl rfl
noncomputable abbrev X_cx:Kx:=fx cfg 0 [.t 2]
theorem e_cx:Oe cfg n_cx 1 [.t 2] c_cx:=fun _ _ _=>ag (fn:=i_cx) rfl rfl _ _ _
theorem o_cx (x0:D):Of X_cx n_cx [.d x0] c_cx:=e_cx 0 _ _ rfl rfl
noncomputable abbrev X_ce:Kx:=fx cfg 0 [.t 4]
theorem e_ce:Oe cfg n_ce 2 [.t 4] c_ce:=fun _ _ _=>ag (fn:=i_ce) rfl rfl _ _ _
theorem o_ce (x0 x1:D):Of X_ce n_ce [.d x0,.d x1] c_ce:=e_ce 0 _ _ rfl rfl
noncomputable abbrev X_aq:Kx:=fx cfg 0 [.t 6,.t 7]
theorem e_aq:Oe cfg n_aq 3 [.t 6,.t 7] c_aq:=fun _ _ _=>ag (fn:=i_aq) rfl rfl _ _ _
theorem o_aq (x0 x1 x2:D):Of X_aq n_aq [.d x0,.d x1,.d x2] c_aq:=e_aq 0 _ _ rfl rfl
noncomputable abbrev X_az:Kx:=fx cfg 0 [.t 6]
theorem e_az:Oe cfg n_az 3 [.t 6] c_az:=fun _ _ _=>ag (fn:=i_az) rfl rfl _ _ _
theorem o_az (x0 x1 x2:D):Of X_az n_az [.d x0,.d x1,.d x2] c_az:=e_az 0 _ _ rfl rfl
noncomputable abbrev X_b9:Kx:=fx cfg 0 [.t 4,.t 5]
theorem e_b9:Oe cfg n_b9 2 [.t 4,.t 5] c_b9:=fun _ _ _=>ag (fn:=i_b9) rfl rfl _ _ _
theorem o_b9 (x0 x1:D):Of X_b9 n_b9 [.d x0,.d x1] c_b9:=e_b9 0 _ _ rfl rfl
noncomputable abbrev X_cn:Kx:=fx cfg 0 [.t 4,.t 5]
theorem e_cn:Oe cfg n_cn 2 [.t 4,.t 5] c_cn:=fun _ _ _=>ag (fn:=i_cn) rfl rfl _ _ _
theorem o_cn (x0 x1:D):Of X_cn n_cn [.d x0,.d x1] c_cn:=e_cn 0 _ _ rfl rfl
noncomputable abbrev X_bh:Kx:=fx cfg 0 [.t 2,.t 3]
theorem e_bh:Oe cfg n_bh 1 [.t 2,.t 3] c_bh:=fun _ _ _=>ag (fn:=i_bh) rfl rfl _ _ _
theorem o_bh (x0:D):Of X_bh n_bh [.d x0] c_bh:=e_bh 0 _ _ rfl rfl
noncomputable abbrev X_bq:Kx:=fx cfg 0 [.t 4]
theorem e_bq:Oe cfg n_bq 2 [.t 4] c_bq:=fun _ _ _=>ag (fn:=i_bq) rfl rfl _ _ _
theorem o_bq (x0 x1:D):Of X_bq n_bq [.d x0,.d x1] c_bq:=e_bq 0 _ _ rfl rfl
noncomputable abbrev X_cz:Kx:=fx cfg 0 [.t 2]
theorem e_cz:Oe cfg n_cz 1 [.t 2] c_cz:=fun _ _ _=>ag (fn:=i_cz) rfl rfl _ _ _
theorem o_cz (x0:D):Of X_cz n_cz [.d x0] c_cz:=e_cz 0 _ _ rfl rfl
noncomputable abbrev X_b7:Kx:=fx cfg 0 [.t 6]
theorem e_b7:Oe cfg n_b7 3 [.t 6] c_b7:=fun _ _ _=>ag (fn:=i_b7) rfl rfl _ _ _
theorem o_b7 (x0 x1 x2:D):Of X_b7 n_b7 [.d x0,.d x1,.d x2] c_b7:=e_b7 0 _ _ rfl rfl
noncomputable abbrev X_aw:Kx:=fx cfg 0 []
theorem e_aw:Oe cfg n_aw 3 [] c_aw:=fun _ _ _=>ag (fn:=i_aw) rfl rfl _ _ _
noncomputable abbrev X_bx:Kx:=fx cfg 0 [.t 2]
theorem e_bx:Oe cfg n_bx 1 [.t 2] c_bx:=fun _ _ _=>ag (fn:=i_bx) rfl rfl _ _ _
theorem o_bx (x0:D):Of X_bx n_bx [.d x0] c_bx:=e_bx 0 _ _ rfl rfl
noncomputable abbrev X_ac:Kx:=fx cfg 0 [.t 4,.t 5]
theorem e_ac:Oe cfg n_ac 2 [.t 4,.t 5] c_ac:=fun _ _ _=>ag (fn:=i_ac) rfl rfl _ _ _
theorem o_ac (x0 x1:D):Of X_ac n_ac [.d x0,.d x1] c_ac:=e_ac 0 _ _ rfl rfl
noncomputable abbrev X_b6:Kx:=fx cfg 0 [.t 2]
theorem e_b6:Oe cfg n_b6 1 [.t 2] c_b6:=fun _ _ _=>ag (fn:=i_b6) rfl rfl _ _ _
theorem o_b6 (x0:D):Of X_b6 n_b6 [.d x0] c_b6:=e_b6 0 _ _ rfl rfl
noncomputable abbrev X_af:Kx:=fx cfg 0 [.t 4]
theorem e_af:Oe cfg n_af 2 [.t 4] c_af:=fun _ _ _=>ag (fn:=i_af) rfl rfl _ _ _
theorem o_af (x0 x1:D):Of X_af n_af [.d x0,.d x1] c_af:=e_af 0 _ _ rfl rfl
noncomputable abbrev X_bg:Kx:=fx cfg 0 [.t 4]
theorem e_bg:Oe cfg n_bg 2 [.t 4] c_bg:=fun _ _ _=>ag (fn:=i_bg) rfl rfl _ _ _
theorem o_bg (x0 x1:D):Of X_bg n_bg [.d x0,.d x1] c_bg:=e_bg 0 _ _ rfl rfl
noncomputable abbrev X_bt:Kx:=fx cfg 0 [.t 4]
theorem e_bt:Oe cfg n_bt 2 [.t 4] c_bt:=fun _ _ _=>ag (fn:=i_bt) rfl rfl _ _ _
theorem o_bt (x0 x1:D):Of X_bt n_bt [.d x0,.d x1] c_bt:=e_bt 0 _ _ rfl rfl
noncomputable abbrev X_au:Kx:=fx cfg 0 [.t 6,.t 7]
theorem e_au:Oe cfg n_au 3 [.t 6,.t 7] c_au:=fun _ _ _=>ag (fn:=i_au) rfl rfl _ _ _
theorem o_au (x0 x1 x2:D):Of X_au n_au [.d x0,.d x1,.d x2] c_au:=e_au 0 _ _ rfl rfl
noncomputable abbrev X_bd:Kx:=fx cfg 0 []
theorem e_bd:Oe cfg n_bd 4 [] c_bd:=fun _ _ _=>ag (fn:=i_bd) rfl rfl _ _ _
noncomputable abbrev X_b5:Kx:=fx cfg 0 [.t 4]
theorem e_b5:Oe cfg n_b5 2 [.t 4] c_b5:=fun _ _ _=>ag (fn:=i_b5) rfl rfl _ _ _
theorem o_b5 (x0 x1:D):Of X_b5 n_b5 [.d x0,.d x1] c_b5:=e_b5 0 _ _ rfl rfl
noncomputable abbrev X_bw:Kx:=fx cfg 0 [.t 4]
noncomputable abbrev X_bv:Kx:=fx cfg 0 [.t 8]
theorem e_bv:Oe cfg n_bv 4 [.t 8] c_bv:=fun _ _ _=>ag (fn:=i_bv) rfl rfl _ _ _
theorem o_bv (x0 x1 x2 x3:D):Of X_bv n_bv [.d x0,.d x1,.d x2,.d x3] c_bv:=e_bv 0 _ _ rfl rfl
noncomputable abbrev X_ah:Kx:=fx cfg 0 [.t 4]
theorem e_ah:Oe cfg n_ah 2 [.t 4] c_ah:=fun _ _ _=>ag (fn:=i_ah) rfl rfl _ _ _
theorem o_ah (x0 x1:D):Of X_ah n_ah [.d x0,.d x1] c_ah:=e_ah 0 _ _ rfl rfl
noncomputable abbrev X_cr:Kx:=fx cfg 0 [.t 2]
theorem e_cr:Oe cfg n_cr 1 [.t 2] c_cr:=fun _ _ _=>ag (fn:=i_cr) rfl rfl _ _ _
theorem o_cr (x0:D):Of X_cr n_cr [.d x0] c_cr:=e_cr 0 _ _ rfl rfl
noncomputable abbrev X_ba:Kx:=fx cfg 0 [.t 4]
noncomputable abbrev X_bz:Kx:=fx cfg 0 [.t 2]
theorem e_bz:Oe cfg n_bz 1 [.t 2] c_bz:=fun _ _ _=>ag (fn:=i_bz) rfl rfl _ _ _
theorem o_bz (x0:D):Of X_bz n_bz [.d x0] c_bz:=e_bz 0 _ _ rfl rfl
noncomputable abbrev X_bc:Kx:=fx cfg 0 [.t 2]
theorem e_bc:Oe cfg n_bc 1 [.t 2] c_bc:=fun _ _ _=>ag (fn:=i_bc) rfl rfl _ _ _
theorem o_bc (x0:D):Of X_bc n_bc [.d x0] c_bc:=e_bc 0 _ _ rfl rfl
noncomputable abbrev X_ao:Kx:=fx cfg 0 [.t 6,.t 7]
theorem e_ao:Oe cfg n_ao 3 [.t 6,.t 7] c_ao:=fun _ _ _=>ag (fn:=i_ao) rfl rfl _ _ _
theorem o_ao (x0 x1 x2:D):Of X_ao n_ao [.d x0,.d x1,.d x2] c_ao:=e_ao 0 _ _ rfl rfl
noncomputable abbrev X_bo:Kx:=fx cfg 0 []
theorem e_bo:Oe cfg n_bo 3 [] c_bo:=fun _ _ _=>ag (fn:=i_bo) rfl rfl _ _ _
noncomputable abbrev X_aj:Kx:=fx cfg 0 [.t 4]
theorem e_aj:Oe cfg n_aj 2 [.t 4] c_aj:=fun _ _ _=>ag (fn:=i_aj) rfl rfl _ _ _
theorem o_aj (x0 x1:D):Of X_aj n_aj [.d x0,.d x1] c_aj:=e_aj 0 _ _ rfl rfl
noncomputable abbrev X_bp:Kx:=fx cfg 0 [.t 4]
theorem e_bp:Oe cfg n_bp 2 [.t 4] c_bp:=fun _ _ _=>ag (fn:=i_bp) rfl rfl _ _ _
theorem o_bp (x0 x1:D):Of X_bp n_bp [.d x0,.d x1] c_bp:=e_bp 0 _ _ rfl rfl
noncomputable abbrev X_c8:Kx:=fx cfg 0 [.t 2]
theorem e_c8:Oe cfg n_c8 1 [.t 2] c_c8:=fun _ _ _=>ag (fn:=i_c8) rfl rfl _ _ _
theorem o_c8 (x0:D):Of X_c8 n_c8 [.d x0] c_c8:=e_c8 0 _ _ rfl rfl
noncomputable abbrev X_ag:Kx:=fx cfg 0 [.cell 8 (some 2),.t 9,.t 10]
theorem e_ag:Oe cfg n_ag 4 [.cell 8 (some 2),.t 9,.t 10] c_ag:=fun _ _ _=>ag (fn:=i_ag) rfl rfl _ _ _
theorem o_ag (x0 x1 x2 x3:D):Of X_ag n_ag [.d x0,.d x1,.d x2,.d x3] c_ag:=e_ag 0 _ _ rfl rfl
noncomputable abbrev X_cf:Kx:=fx cfg 0 [.cell 2 (some 5)]
theorem e_cf:Oe cfg n_cf 1 [.cell 2 (some 5)] c_cf:=fun _ _ _=>ag (fn:=i_cf) rfl rfl _ _ _
theorem o_cf (x0:D):Of X_cf n_cf [.d x0] c_cf:=e_cf 0 _ _ rfl rfl
noncomputable abbrev X_bk:Kx:=fx cfg 0 [.t 2]
theorem e_bk:Oe cfg n_bk 1 [.t 2] c_bk:=fun _ _ _=>ag (fn:=i_bk) rfl rfl _ _ _
theorem o_bk (x0:D):Of X_bk n_bk [.d x0] c_bk:=e_bk 0 _ _ rfl rfl
noncomputable abbrev X_aa:Kx:=fx cfg 0 [.t 4]
theorem e_aa:Oe cfg n_aa 2 [.t 4] c_aa:=fun _ _ _=>ag (fn:=i_aa) rfl rfl _ _ _
theorem o_aa (x0 x1:D):Of X_aa n_aa [.d x0,.d x1] c_aa:=e_aa 0 _ _ rfl rfl
@[go_sem] theorem u_bd:Uc cfg n_bd:=uc rfl
@[go_sem] theorem u_bo:Uc cfg n_bo:=uc rfl
@[go_sem] theorem u_av:Uc cfg n_av:=uc rfl
@[go_sem] theorem u_bm:Uc cfg n_bm:=uc rfl
@[go_sem] theorem u_dz:Uc cfg n_dz:=uc rfl
@[go_sem] theorem u_dh:Uc cfg n_dh:=uc rfl
@[go_sem] theorem u_dc:Uc cfg n_dc:=uc rfl
@[go_sem] theorem u_b8:Uc cfg n_b8:=uc rfl
@[go_sem] theorem u_ai:Uc cfg n_ai:=uc rfl
@[go_sem] theorem u_ao:Uc cfg n_ao:=uc rfl
@[go_sem] theorem u_b5:Uc cfg n_b5:=uc rfl
@[go_sem] theorem u_ct:Uc cfg n_ct:=uc rfl
@[go_sem] theorem u_bk:Uc cfg n_bk:=uc rfl
@[go_sem] theorem u_ag:Uc cfg n_ag:=uc rfl
@[go_sem] theorem u_df:Uc cfg n_df:=uc rfl
@[go_sem] theorem u_d7:Uc cfg n_d7:=uc rfl
@[go_sem] theorem u_dy:Uc cfg n_dy:=uc rfl
@[go_sem] theorem u_du:Uc cfg n_du:=uc rfl
@[go_sem] theorem u_d6:Uc cfg n_d6:=uc rfl
@[go_sem] theorem u_bu:Uc cfg n_bu:=uc rfl
@[go_sem] theorem u_ay:Uc cfg n_ay:=uc rfl
@[go_sem] theorem u_cg:Uc cfg n_cg:=uc rfl
@[go_sem] theorem u_dn:Uc cfg n_dn:=uc rfl
@[go_sem] theorem u_dv:Uc cfg n_dv:=uc rfl
@[go_sem] theorem u_c8:Uc cfg n_c8:=uc rfl
@[go_sem] theorem u_cf:Uc cfg n_cf:=uc rfl
@[go_sem] theorem u_aa:Uc cfg n_aa:=uc rfl
@[go_sem] theorem u_dg:Uc cfg n_dg:=uc rfl
@[go_sem] theorem u_au:Uc cfg n_au:=uc rfl
@[go_sem] theorem u_ae:Uc cfg n_ae:=uc rfl
@[go_sem] theorem u_aq:Uc cfg n_aq:=uc rfl
@[go_sem] theorem u_br:Uc cfg n_br:=uc rfl
@[go_sem] theorem u_ap:Uc cfg n_ap:=uc rfl
@[go_sem] theorem u_bt:Uc cfg n_bt:=uc rfl
@[go_sem] theorem u_b6:Uc cfg n_b6:=uc rfl
@[go_sem] theorem u_ce:Uc cfg n_ce:=uc rfl
@[go_sem] theorem u_bn:Uc cfg n_bn:=uc rfl
@[go_sem] theorem u_cw:Uc cfg n_cw:=uc rfl
@[go_sem] theorem u_az:Uc cfg n_az:=uc rfl
@[go_sem] theorem u_ak:Uc cfg n_ak:=uc rfl
@[go_sem] theorem u_b4:Uc cfg n_b4:=uc rfl
@[go_sem] theorem u_bz:Uc cfg n_bz:=uc rfl
@[go_sem] theorem u_ba:Uc cfg n_ba:=uc rfl
@[go_sem] theorem u_cr:Uc cfg n_cr:=uc rfl
@[go_sem] theorem u_bv:Uc cfg n_bv:=uc rfl
@[go_sem] theorem u_bw:Uc cfg n_bw:=uc rfl
@[go_sem] theorem u_dq:Uc cfg n_dq:=uc rfl
@[go_sem] theorem u_cx:Uc cfg n_cx:=uc rfl
@[go_sem] theorem u_am:Uc cfg n_am:=uc rfl
@[go_sem] theorem u_bq:Uc cfg n_bq:=uc rfl
@[go_sem] theorem u_b9:Uc cfg n_b9:=uc rfl
@[go_sem] theorem u_cz:Uc cfg n_cz:=uc rfl
@[go_sem] theorem u_dt:Uc cfg n_dt:=uc rfl
@[go_sem] theorem u_dw:Uc cfg n_dw:=uc rfl
@[go_sem] theorem u_ax:Uc cfg n_ax:=uc rfl
@[go_sem] theorem u_ac:Uc cfg n_ac:=uc rfl
@[go_sem] theorem u_bx:Uc cfg n_bx:=uc rfl
@[go_sem] theorem u_aw:Uc cfg n_aw:=uc rfl
@[go_sem] theorem u_bh:Uc cfg n_bh:=uc rfl
@[go_sem] theorem u_cn:Uc cfg n_cn:=uc rfl
@[go_sem] theorem u_b7:Uc cfg n_b7:=uc rfl
@[go_sem] theorem u_ab:Uc cfg n_ab:=uc rfl
@[go_sem] theorem u_cy:Uc cfg n_cy:=uc rfl
@[go_sem] theorem u_cu:Uc cfg n_cu:=uc rfl
@[go_sem] theorem u_dl:Uk cfg n_dl:=uk rfl
@[go_sem] theorem u_c9:Uk cfg n_c9:=uk rfl
@[go_sem] theorem u_de:Uk cfg n_de:=uk rfl
@[go_sem] theorem u_dm:Uk cfg n_dm:=uk rfl
@[go_sem] theorem u_bc:Uc cfg n_bc:=uc rfl
@[go_sem] theorem u_bg:Uc cfg n_bg:=uc rfl
@[go_sem] theorem u_bp:Uc cfg n_bp:=uc rfl
@[go_sem] theorem u_ah:Uc cfg n_ah:=uc rfl
@[go_sem] theorem u_af:Uc cfg n_af:=uc rfl
@[go_sem] theorem u_aj:Uc cfg n_aj:=uc rfl
@[go_sem] theorem u_dj:Uc cfg n_dj:=uc rfl
@[go_sem] theorem u_dr:Uc cfg n_dr:=uc rfl
@[go_sem] theorem u_dx:Uc cfg n_dx:=uc rfl
def a51:=a8t r_bw_0.eq_1 r_bw_1.eq_1 r_bw_2.eq_1 r_bw_3.eq_1 ays.eq_1 ayr.eq_1 ayq.eq_1 ayp.eq_1
def a52:=a8t r_bv_0.eq_1 r_bv_1.eq_1 r_bv_2.eq_1 r_bv_3.eq_1 r_bv_4.eq_1 r_bv_5.eq_1 r_bv_6.eq_1 r_bv_7.eq_1
def a53:=a8t r_bv_8.eq_1 r_bv_9.eq_1 r_ah_0.eq_1 r_ah_1.eq_1 r_ah_3.eq_1 a07.eq_1 a06.eq_1 a04.eq_1
def a54:=a8t a03.eq_1 ahd.eq_1 ayo.eq_1 r_ba_0.eq_1 r_ba_1.eq_1 r_ba_2.eq_1 r_ba_3.eq_1 azc.eq_1
def a55:=a8t azb.eq_1 aza.eq_1 ay9.eq_1 ay7.eq_1 af2.eq_1 af0.eq_1 u5.eq_1 u4.eq_1
def a57:=a8t u3.eq_1 u2.eq_1 r_bz_0.eq_1 r_bz_1.eq_1 r_bz_3.eq_1 r_bz_4.eq_1 r_bz_5.eq_1 r_bz_6.eq_1
def a59:=a8t r_bz_7.eq_1 r_bc_0.eq_1 r_bc_1.eq_1 r_bc_3.eq_1 r_ao_0.eq_1 r_ao_1.eq_1 r_ao_3.eq_1 r_ao_5.eq_1
def a6a:=a8t r_ao_6.eq_1 r_ao_7.eq_1 r_ao_8.eq_1 a0b.eq_1 agw.eq_1 agv.eq_1 agu.eq_1 agt.eq_1
def a6b:=a8t agr.eq_1 r_bo_1.eq_1 r_bo_3.eq_1 r_aj_0.eq_1 r_aj_1.eq_1 a0w.eq_1 a0v.eq_1 a0u.eq_1
def a6c:=a8t a0t.eq_1 a0s.eq_1 a0r.eq_1 r_bp_0.eq_1 r_bp_1.eq_1 r_c8_0.eq_1 r_c8_1.eq_1 r_ag_0.eq_1
def a6d:=a8t r_di.eq_1 r_df.eq_1 r_ag_4.eq_1 r_ag_5.eq_1 r_ag_7.eq_1 r_ag_8.eq_1 r_ag_9.eq_1 a16.eq_1
def a6e:=a8t a15.eq_1 a14.eq_1 a13.eq_1 a12.eq_1 a11.eq_1 a1f.eq_1 a1e.eq_1 a1b.eq_1
def a6f:=a8t r_cf_0.eq_1 r_cf_1.eq_1 r_bk_0.eq_1 r_bk_1.eq_1 r_bk_2.eq_1 r_bk_3.eq_1 r_bk_4.eq_1 r_bk_5.eq_1
def a6g:=a8t r_bk_6.eq_1 r_bk_7.eq_1 r_aa_0.eq_1 r_aa_1.eq_1 r_aa_3.eq_1 r_aa_4.eq_1 r_aa_5.eq_1 r_aa_6.eq_1
def a6h:=a8t r_aa_8.eq_1 r_aa_9.eq_1 a2n.eq_1 aih.eq_1 aig.eq_1 aif.eq_1 aie.eq_1 aid.eq_1
def a6i:=a8t aic.eq_1 aib.eq_1 ah9.eq_1 qc.eq_1 qb.eq_1 qa.eq_1 ah7.eq_1 ah6.eq_1
def a6j:=a8w ah5.eq_1
def a6k:=a8w ah4.eq_1
def a6l:=a8w ah3.eq_1
attribute [go_sem] a5r a5s a5t a5u a5v a5w a5x a5y a5z a50 a51 a52 a53 a54 a55 a57 a59 a6a a6b a6c a6d a6e a6f a6g a6h a6i a6j a6k a6l
end Go.Proofs.YtkdiccgfbfbjlaaGreat
