/-
  Proved: colletlaw36.RetreatRestart returns true for every input, and its arguments read as before, where the listed package variables read as their initialisers lay them (tied to the program's text: the tied card). No other condition.
-/
import Derived.Test.YthmbjgnjfjjibaaGreatDoorK25
import Derived.Test.YthmbjgnjfjjibaaGreatDoorRows
import Derived.ProofKit
import Derived.LaidMore
import Derived.OpenShut
import Derived.MakeChecks
import Derived.Lib.LaidU8
import Derived.Test.YthmbjgnjfjjibaaGreatDoorCards
import Derived.Test.YthmbjgnjfjjibaaGreatDoorTie
import Derived.SevenTiedAt
set_option linter.unusedVariables false
set_option linter.unusedSimpArgs false
namespace Go.Proofs.YthmbjgnjfjjibaaGreatDoor
open Go.RowKit
set_option maxRecDepth 100000
def mch13:MC:=(sq [oN 4 (.alloc 26 2 (iz 2)) []] (sq [oM 5 0 [],oM 6 1 [],oN 7 (.build (iz 2) [(0,1,5),(1,1,6)]) [0,1],oS 2 4 7 [2,0,1,2]] .ret))
theorem mcOkh13:(match Tryz.f13.body with | some c=>Qq Tryz.prog 8 c | none=>none)=some mch13:=by kernel_rfl
theorem js13 (a b:Int):FC Tryz.prog 13 [iv a,iv b] [] (.agg [iv a,iv b]) [] false:=by
 refine Qh (nt:=8) Tryz.func13 rfl rfl mcOkh13 (nL rfl) ?_
 delta mch13
 refine gA 12 rfl ?_
 exact rQ
def mch19:MC:=(sq [oN 6 (.alloc 32 3 (iz 3)) []] (sq [oM 7 0 [],oM 8 1 [],oM 9 2 [],oN 10 (.build (iz 3) [(0,1,7),(1,1,8),(2,1,9)]) [0,1,2],oS 3 6 10 (3::up 4)] .ret))
theorem mcOkh19:(match Tryz.f19.body with | some c=>Qq Tryz.prog 11 c | none=>none)=some mch19:=by kernel_rfl
theorem js19 (a b c:Int):FC Tryz.prog 19 [iv a,iv b,iv c] [] (.agg [iv a,iv b,iv c]) [] false:=by
 refine Qh (nt:=11) Tryz.func19 rfl rfl mcOkh19 (nL rfl) ?_
 delta mch19
 refine gA 13 rfl ?_
 exact rQ
def cM0 (k a b c d e f:Int):List AV:=[iv k,iv a,iv b,iv c,iv d,iv e,iv f,iv 0,iv 0,iv 0,iv 0]
def mch4:MC:=(sq [oN 0 (.mv (.c (.bool false))) []] (sq [oQ 21 14 [] [],oQ 22 15 [] [0],oN 1 (.alloc 65 36 [(iv 0),(iv 0),(iv 0),(iv 0),(iv 0),(iv 0),(iv 0),(iv 0),(iv 0),(iv 0),(iv 0),(iv 0),(iv 0),.nils,.nils,.nils,.nils,(iv 0),(iv 0),(iv 0),(iv 0),(iv 0),(iv 0),.nils,(iv 0),(iv 0),(iv 0),(iv 0),(iv 0),(iv 0),(iv 0),(iv 0),(iv 0),(iv 0),(iv 0),(iv 0)]) [],oN 2 (.alloc 71 7 [(.str (strN [])),.nils,.nils,.nils,.nils,(iv 0),.nils]) [],oS 36 1 21 [2,0,1,0,2,3],oS 7 2 22 (3::1::4::up 5)] (sq [oQ 23 16 [(cI (-3))] [],oN 24 (.slc 11 23 none (some (cI 4))) [0],oM 3 24 [1,0,0,1]] (sq [oQ 25 17 [(.c (.bool false))] [],oN 26 (.bslice 3 1 [(iv 0)] 3 [(0,(cI 1)),(1,(cI 3)),(2,(cI 2))]) [],oN 27 (.build [(.str (strN [])),.nils,.nils] [(1,1,25),(2,1,26)]) [0,1],oN 4 (.alloc 76 3 [(.str (strN [])),.nils,.nils]) [],oS 3 4 27 [3,2,0,0,1,2,3]] (sq [oL 28 3 4 [],oQ 29 18 [28] [0],oN 5 (.alloc 79 3 [.nils,.nils,.nils]) [],oS 3 5 29 [2,1,1,0,1,2]] (sq [oQ 30 19 [(cI 1),(cI 1),(cI 1)] [],oN 6 (.alloc 32 3 (iz 3)) [],oS 3 6 30 [1,0,0,0,1]] (dq [oL 32 36 1 [],oL 33 7 2 [],oM 34 3 [],oQ 35 13 [(cI 20),(cI 25)] [],oQ 36 13 [(cI 15),(cI 25)] [3],oL 37 3 6 [],oQ 38 20 [32,33,(cI 0),34,35,36,37] [0,1,2,3,4,5,4],oM 31 38 [6],oN 39 (.ext 31 0) [7],oN 40 (.ext 31 1) [7],oN 41 (.ext 31 2) [7],oM 7 39 (8::6::up 9),oM 8 40 [9,11,0,1,2,3,4,5,6,7,8,9,11],oM 9 41 (10::12::up 13)] (.seq (dq [oM 42 9 [],oB 43 .neq 42 (cI 0) [0],oM 44 43 [1],pM 45 7 44 false [2],oG 46 (.len 45) 44 false [3,2],oG 47 (.bin .neq 46 (cI 1)) 44 false [4,2],oN 48 (.pick 44 (.c (.bool true)) 47) [2,5],oM 49 48 [6,2],pM 50 8 49 false [7],oG 51 (.len 50) 49 false [8,7],oG 52 (.bin .neq 51 (cI 2)) 49 false [9,7],oN 53 (.pick 49 (.c (.bool true)) 52) [7,10],oM 54 53 [11,7],pM 55 7 54 false [12],oG 56 (.ixsl 1 55 (cI 0)) 54 false [13,12],pD 57 1 56 54 false [14,12],oG 58 (.call 19 [(cI (-9)),(cI (-1)),(cI 3)]) 54 false [12,12],oG 59 (.call 21 [57,58]) 54 false [15,16,16,12],oG 60 (.un .not 59) 54 false [17,12],oN 61 (.pick 54 (.c (.bool true)) 60) [12,18],oM 62 61 [19,17],pM 63 7 62 false [20],oG 64 (.ixsl 1 63 (cI 0)) 62 false [21,20],pD 65 1 64 62 false [22,20],oG 66 (.call 19 [(cI (-8)),(cI (-1)),(cI 3)]) 62 false [20,20],oG 67 (.call 21 [65,66]) 62 false [23,24,24,20],oN 68 (.pick 62 (.c (.bool true)) 67) [20,25],oM 69 68 [26,25],pM 70 7 69 false [27],oG 71 (.ixsl 1 70 (cI 0)) 69 false [28,27],pD 72 1 71 69 false [29,27],oG 73 (.call 19 [(cI (-19)),(cI (-7)),(cI (-2))]) 69 false [27,27],oG 74 (.call 21 [72,73]) 69 false [30,31,31,27],oG 75 (.un .not 74) 69 false [32,27],oN 76 (.pick 69 (.c (.bool true)) 75) [27,33]] (.cond 76 (sq [oN 0 (.mv (.c (.bool false))) []] .ret) .skip)) (dq [oL 78 36 1 [],oL 79 7 2 [],oM 80 3 [],oQ 81 13 [(cI 11),(cI 11)] [],oQ 82 13 [(cI 11),(cI 11)] [3],oL 83 3 6 [],oQ 84 20 [78,79,(cI 0),80,81,82,83] [0,1,2,3,4,5,4],oM 77 84 [6],oN 85 (.ext 77 0) [7],oN 86 (.ext 77 1) [7],oN 87 (.ext 77 2) [7],oM 10 85 (8::6::up 9),oM 11 86 [9,11,0,1,2,3,4,5,6,7,8,9,11],oM 12 87 (10::12::up 13)] (.seq (sq [oM 88 12 [],oB 89 .neq 88 (cI 0) [0],oM 90 89 [1],pM 91 10 90 false [2],oG 92 (.len 91) 90 false [3,2],oG 93 (.bin .neq 92 (cI 0)) 90 false [4,2],oN 94 (.pick 90 (.c (.bool true)) 93) [2,5],oM 95 94 [6,2],pM 96 11 95 false [7],oG 97 (.len 96) 95 false [8,7],oG 98 (.bin .neq 97 (cI 1)) 95 false [9,7],oN 99 (.pick 95 (.c (.bool true)) 98) [7,10],oM 100 99 [11,7],pM 101 3 100 false [12],oG 102 (.call 13 [(cI 20),(cI 25)]) 100 false [12,12],oG 103 (.call 13 [(cI 15),(cI 25)]) 100 false [14,12],oG 104 (.call 22 [101,102,103,(cI 11)]) 100 false [13,14,15,15,12],oG 105 (.un .not 104) 100 false [16,12],oN 106 (.pick 100 (.c (.bool true)) 105) [12,17],oM 107 106 [18,16],pM 108 3 107 false [19],oG 109 (.call 13 [(cI 34),(cI 38)]) 107 false [19,19],oG 110 (.call 13 [(cI 34),(cI 38)]) 107 false [21,19],oG 111 (.call 22 [108,109,110,(cI 34)]) 107 false [20,21,22,22,19],oG 112 (.un .not 111) 107 false [23,19],oN 113 (.pick 107 (.c (.bool true)) 112) [19,24]] (.cond 113 (sq [oN 0 (.mv (.c (.bool false))) []] .ret) .skip)) (sq [oM 115 3 [],oQ 116 13 [(cI 61),(cI 61)] [],oQ 117 13 [(cI 61),(cI 61)] [1],oQ 118 9 [115,116,117] [0,1,2,2],oM 114 118 [3],oN 119 (.ext 114 0) [4],oN 120 (.ext 114 1) [4],oM 13 119 (5::3::up 6),oM 14 120 (6::7::up 8)] (sq [oM 122 3 [],oQ 123 13 [(cI 20),(cI 25)] [],oQ 124 13 [(cI 15),(cI 26)] [1],oQ 125 9 [122,123,124] [0,1,2,2],oM 121 125 [3],oN 126 (.ext 121 0) [4],oN 127 (.ext 121 1) [4],oM 15 126 (5::3::up 6),oM 16 127 (6::7::up 8)] (dq [oL 129 3 4 [],oL 130 3 5 [],oL 131 36 1 [],oL 132 7 2 [],oM 133 3 [],oQ 134 13 [(cI 20),(cI 25)] [],oL 135 3 6 [],oQ 136 23 [129,130,131,132,133,134,(cI 9),135] [0,1,2,3,4,5,6,5],oM 128 136 [7],oN 137 (.ext 128 0) [8],oN 138 (.ext 128 1) [8],oM 17 137 (9::7::up 10),oM 18 138 (10::11::up 12)] (sq [oQ 139 19 [(cI (-9)),(cI (-9)),(cI 14)] [],oQ 140 19 [(cI 9),(cI 9),(cI 15)] [0],oQ 141 24 [139,140] [0,1,1],oN 142 (.bslice 85 1 [.nils] 1 [(0,141)]) [2],oA 143 17 1 (up 4),oA 144 6 143 (4::up 4),oS 1 144 142 [5,3,2,0,1,2,3]] (dq [oL 146 3 4 [],oL 147 3 5 [],oL 148 36 1 [],oL 149 7 2 [],oM 150 3 [],oQ 151 13 [(cI 20),(cI 25)] [],oL 152 3 6 [],oQ 153 23 [146,147,148,149,150,151,(cI 9),152] [0,1,2,3,4,5,6,5],oM 145 153 [7],oN 154 (.ext 145 0) [8],oN 155 (.ext 145 1) [8],oM 19 154 (9::7::up 10),oM 20 155 (10::11::up 12)] (dq [oM 156 14 [],oB 157 .eql 156 (cI 43) [0],oM 158 157 [1],pM 159 16 158 true [2],oG 160 (.bin .eql 159 (cI 3)) 158 true [3,2],oN 161 (.pick 158 160 (.c (.bool false))) [2,4],oM 162 161 [5,2],pM 163 18 162 true [6],oG 164 (.bin .eql 163 (cI 0)) 162 true [7,6],oN 165 (.pick 162 164 (.c (.bool false))) [6,8],oM 166 165 [9,6],pM 167 20 166 true [10],oG 168 (.bin .eql 167 (cI 0)) 166 true [11,10],oN 169 (.pick 166 168 (.c (.bool false))) [10,12],oM 170 169 [13,10],pM 171 17 170 true [14],oG 172 (.len 171) 170 true [15,14],oG 173 (.bin .eql 172 (cI 6)) 170 true [16,14],oN 174 (.pick 170 173 (.c (.bool false))) [14,17],oM 175 174 [18,14],pM 176 19 175 true [19],oG 177 (.len 176) 175 true [20,19],oG 178 (.bin .eql 177 (cI 6)) 175 true [21,19],oN 179 (.pick 175 178 (.c (.bool false))) [19,22],oM 180 179 [23,19],pM 181 17 180 true [24],oG 182 (.ixsl 11 181 (cI 0)) 180 true [25,24],oG 183 (.ld true 11 182) 180 true [26,24],oG 184 (.call 19 [(cI (-7)),(cI (-4)),(cI (-3))]) 180 true [24,24],oG 185 (.call 19 [(cI (-7)),(cI (-4)),(cI 6)]) 180 true [28,24],oG 186 (.build (iz 11) [(0,1,(cI 1)),(1,3,184),(4,3,185)]) 180 true [28,29,24],oG 187 (.aeq false 11 183 186) 180 true [27,30,24],oN 188 (.pick 180 187 (.c (.bool false))) [24,31],oM 189 188 [32,29],pM 190 19 189 true [33],oG 191 (.ixsl 11 190 (cI 0)) 189 true [34,33],oG 192 (.ld true 11 191) 189 true [35,33],oG 193 (.call 19 [(cI (-7)),(cI (-4)),(cI (-3))]) 189 true [33,33],oG 194 (.call 19 [(cI 2),(cI (-4)),(cI (-3))]) 189 true [37,33],oG 195 (.build (iz 11) [(0,1,(cI 1)),(1,3,193),(4,3,194)]) 189 true [37,38,33],oG 196 (.aeq false 11 192 195) 189 true [36,39,33],oN 197 (.pick 189 196 (.c (.bool false))) [33,40],oM 0 197 (41::38::up 42)] .ret))))))))))))))))
theorem mcOkh4:(match Tryz.f4.body with | some c=>Qq Tryz.prog 198 c | none=>none)=some mch4:=by kernel_rfl
set_option maxHeartbeats 4000000 in
theorem js4  : FC Tryz.prog 4 [] Gid (.bool true) Gid true:=by
 refine Qh (nt:=198) Tryz.func4 rfl rfl mcOkh4 (nL rfl) ?_
 delta mch4
 refine gA 6 rfl (clO rfl (cq0) rfl (gR 0 rfl (clO rfl (cq1) rfl (gR 2 rfl (rs_st (els':=[sSc]) (fl':=true) rfl rfl rfl rfl rfl rfl (by kernel_rfl) (Nat.le_of_ble_eq_true (by kernel_rfl)) (by kernel_rfl) (by kernel_rfl) (gR 0 rfl (rs_st (els':=[sTc]) (fl':=true) rfl rfl rfl rfl rfl rfl (by kernel_rfl) (Nat.le_of_ble_eq_true (by kernel_rfl)) (by kernel_rfl) (by kernel_rfl) (gR 3 rfl (clO rfl (cq2) rfl (gR 0 rfl (rs_slc_r (l:=0) (q:=4) (els':=sLe) rfl rfl rfl rfl rfl (by decide) (by decide) (by decide +kernel) (by kernel_rfl) ?_)))))))))))
 refine gR 4 rfl (clO rfl (cq3) rfl (gR 0 rfl (rs_bslf (l:=[iv 1,iv 3,iv 2]) (els:=[[iv 1],[iv 3],[iv 2]]) rfl (by kernel_rfl) rfl rfl (by kernel_rfl) rfl (by kernel_rfl) (gR 2 rfl (rs_st (els':=[sPc]) (fl':=true) rfl rfl rfl rfl rfl rfl (by kernel_rfl) (Nat.le_of_ble_eq_true (by kernel_rfl)) (by kernel_rfl) (by kernel_rfl) (gR 3 rfl (Q2 (cs:=sPc) rfl rfl rfl rfl (nL rfl) (by kernel_rfl) (gR 0 rfl (X0 [] rfl rfl (cq4) (.cons (Ql (by kernel_rfl)) (.nil)) (.nil) rfl rfl rfl (gR 1 rfl (rs_st (els':=[sXc]) (fl':=true) rfl rfl rfl rfl rfl rfl (by kernel_rfl) (Nat.le_of_ble_eq_true (by kernel_rfl)) (by kernel_rfl) (by kernel_rfl) ?_)))))))))))
 refine gR 3 rfl (cN rfl rfl (js19 1 1 1) (gR 1 rfl (rs_st (els':=[[iv 1,iv 1,iv 1]]) (fl':=true) rfl rfl rfl rfl rfl rfl (by kernel_rfl) (Nat.le_of_ble_eq_true (by kernel_rfl)) (by kernel_rfl) (by kernel_rfl) (gR 3 rfl (Q2 (cs:=sSc) rfl rfl rfl rfl (nL rfl) (by kernel_rfl) (gR 0 rfl (Q2 (cs:=sTc) rfl rfl rfl rfl (nL rfl) (by kernel_rfl) (gR 1 rfl (cN rfl rfl (js13 20 25) (gR 0 rfl (cN rfl rfl (js13 15 25) ?_)))))))))))
 refine gR 0 rfl (Q2 (cs:=[iv 1,iv 1,iv 1]) rfl rfl rfl rfl (nL rfl) (by kernel_rfl) (gR 0 rfl (X0 Gid rfl rfl (cq5) (.cons (Ql (by kernel_rfl)) (.cons (Ql (by kernel_rfl)) (.cons (Ql (by kernel_rfl)) (.cons (Ql (by kernel_rfl)) (.cons (Ql (by kernel_rfl)) (.cons (Ql (by kernel_rfl)) (.cons (Ql (by kernel_rfl)) (.nil)))))))) (.cons rfl (.nil)) rfl rfl rfl (gR 7 rfl (Xa (by kernel_rfl) (gP 4 rfl (Xo rfl rfl rfl rfl (fun h=>h rfl) (gR 2 rfl (JL (n:=1) rfl rfl (by kernel_rfl) (gR 0 rfl (Xo rfl rfl rfl rfl (fun h=>h rfl) ?_)))))))))))
 refine gR 3 rfl (JL (n:=2) rfl rfl (by kernel_rfl) (gR 0 rfl (Xo rfl rfl rfl rfl (fun h=>h rfl) (gR 3 rfl (rs_ix_r (el:=[.rs 4 sKe]) rfl rfl rfl (by decide) (by decide +kernel) (by kernel_rfl) (gR 1 rfl (cN rfl rfl (js19 (-9) (-1) 3) (gR 0 rfl (X0 [] rfl rfl (cq6) (.cons (Ql (by kernel_rfl)) (.cons (Ql (by kernel_rfl)) (.nil))) (.nil) rfl rfl rfl (gR 4 rfl (rs_ix_r (el:=[.rs 4 sKe]) rfl rfl rfl (by decide) (by decide +kernel) (by kernel_rfl) ?_)))))))))))
 refine gR 1 rfl (cN rfl rfl (js19 (-8) (-1) 3) (gR 0 rfl (X0 [] rfl rfl (cq7) (.cons (Ql (by kernel_rfl)) (.cons (Ql (by kernel_rfl)) (.nil))) (.nil) rfl rfl rfl (gR 3 rfl (rs_ix_r (el:=[.rs 4 sKe]) rfl rfl rfl (by decide) (by decide +kernel) (by kernel_rfl) (gR 1 rfl (cN rfl rfl (js19 (-19) (-7) (-2)) (gR 0 rfl (X0 [] rfl rfl (cq8) (.cons (Ql (by kernel_rfl)) (.cons (Ql (by kernel_rfl)) (.nil))) (.nil) rfl rfl rfl (gR 2 rfl (Xa (by kernel_rfl) ?_)))))))))))
 refine gP 4 rfl (Q2 (cs:=sSc) rfl rfl rfl rfl (nL rfl) (by kernel_rfl) (gR 0 rfl (Q2 (cs:=sTc) rfl rfl rfl rfl (nL rfl) (by kernel_rfl) (gR 1 rfl (cN rfl rfl (js13 11 11) (gR 0 rfl (cN rfl rfl (js13 11 11) (gR 0 rfl (Q2 (cs:=[iv 1,iv 1,iv 1]) rfl rfl rfl rfl (nL rfl) (by kernel_rfl) (gR 0 rfl (X0 Gid rfl rfl (cq9) (.cons (Ql (by kernel_rfl)) (.cons (Ql (by kernel_rfl)) (.cons (Ql (by kernel_rfl)) (.cons (Ql (by kernel_rfl)) (.cons (Ql (by kernel_rfl)) (.cons (Ql (by kernel_rfl)) (.cons (Ql (by kernel_rfl)) (.nil)))))))) (.cons rfl (.nil)) rfl rfl rfl ?_)))))))))))
 refine gR 7 rfl (Xa (by kernel_rfl) (gP 4 rfl (Xo rfl rfl rfl rfl (fun h=>h rfl) (gR 2 rfl (JL (n:=0) rfl rfl (by kernel_rfl) (gR 0 rfl (Xo rfl rfl rfl rfl (fun h=>h rfl) (gR 3 rfl (JL (n:=1) rfl rfl (by kernel_rfl) (gR 0 rfl (Xo rfl rfl rfl rfl (fun h=>h rfl) ?_)))))))))))
 refine gR 3 rfl (cN rfl rfl (js13 20 25) (gR 0 rfl (cN rfl rfl (js13 15 25) (gR 0 rfl (X0 [] rfl rfl (cq10) (.cons (Ql (by kernel_rfl)) (.cons (Ql (by kernel_rfl)) (.cons (Ql (by kernel_rfl)) (.cons (Ql (by kernel_rfl)) (.nil))))) (.nil) rfl rfl rfl (gR 4 rfl (cN rfl rfl (js13 34 38) (gR 0 rfl (cN rfl rfl (js13 34 38) (gR 0 rfl (X0 [] rfl rfl (cq11) (.cons (Ql (by kernel_rfl)) (.cons (Ql (by kernel_rfl)) (.cons (Ql (by kernel_rfl)) (.cons (Ql (by kernel_rfl)) (.nil))))) (.nil) rfl rfl rfl ?_)))))))))))
 refine gR 8 rfl (cN rfl rfl (js13 61 61) (gR 0 rfl (cN rfl rfl (js13 61 61) (gR 0 rfl (X0 [] rfl rfl (cq12) (.cons (Ql (by kernel_rfl)) (.cons (Ql (by kernel_rfl)) (.cons (Ql (by kernel_rfl)) (.nil)))) (.nil) rfl rfl rfl (gR 9 rfl (cN rfl rfl (js13 20 25) (gR 0 rfl (cN rfl rfl (js13 15 26) (gR 0 rfl (X0 [] rfl rfl (cq13) (.cons (Ql (by kernel_rfl)) (.cons (Ql (by kernel_rfl)) (.cons (Ql (by kernel_rfl)) (.nil)))) (.nil) rfl rfl rfl ?_)))))))))))
 refine gR 8 rfl (Q2 (cs:=sPc) rfl rfl rfl rfl (nL rfl) (by kernel_rfl) (gR 0 rfl (Q2 (cs:=sXc) rfl rfl rfl rfl (nL rfl) (by kernel_rfl) (gR 0 rfl (Q2 (cs:=sSc) rfl rfl rfl rfl (nL rfl) (by kernel_rfl) (gR 0 rfl (Q2 (cs:=sTc) rfl rfl rfl rfl (nL rfl) (by kernel_rfl) (gR 1 rfl (cN rfl rfl (js13 20 25) (gR 0 rfl (Q2 (cs:=[iv 1,iv 1,iv 1]) rfl rfl rfl rfl (nL rfl) (by kernel_rfl) ?_)))))))))))
 refine gR 0 rfl (X0 Gid rfl rfl (cq14) (.cons (Ql (by kernel_rfl)) (.cons (Ql (by kernel_rfl)) (.cons (Ql (by kernel_rfl)) (.cons (Ql (by kernel_rfl)) (.cons (Ql (by kernel_rfl)) (.cons (Ql (by kernel_rfl)) (.cons (Ql (by kernel_rfl)) (.cons (Ql (by kernel_rfl)) (.nil))))))))) (.cons rfl (.nil)) rfl rfl rfl (gR 5 rfl (Xa (by kernel_rfl) (gP 2 rfl (cN rfl rfl (js19 (-9) (-9) 14) (gR 0 rfl (cN rfl rfl (js19 9 9 15) (gR 0 rfl (X0 [] rfl rfl (cq15) (.cons (Ql (by kernel_rfl)) (.cons (Ql (by kernel_rfl)) (.nil))) (.nil) rfl rfl rfl (gR 0 rfl (rs_bslf (l:=[.rs 4 sBe]) (els:=[[.rs 4 sBe]]) rfl (by kernel_rfl) rfl rfl (by kernel_rfl) rfl (by kernel_rfl) ?_)))))))))))
 refine gR 2 rfl (rs_st (els':=[sS1c]) (fl':=true) rfl rfl rfl rfl rfl rfl (by kernel_rfl) (Nat.le_of_ble_eq_true (by kernel_rfl)) (by kernel_rfl) (by kernel_rfl) (gR 3 rfl (Q2 (cs:=sPc) rfl rfl rfl rfl (nL rfl) (by kernel_rfl) (gR 0 rfl (Q2 (cs:=sXc) rfl rfl rfl rfl (nL rfl) (by kernel_rfl) (gR 0 rfl (Q2 (cs:=sS1c) rfl rfl rfl rfl (nL rfl) (by kernel_rfl) (gR 0 rfl (Q2 (cs:=sTc) rfl rfl rfl rfl (nL rfl) (by kernel_rfl) (gR 1 rfl (cN rfl rfl (js13 20 25) ?_)))))))))))
 refine gR 0 rfl (Q2 (cs:=[iv 1,iv 1,iv 1]) rfl rfl rfl rfl (nL rfl) (by kernel_rfl) (gR 0 rfl (X0 Gid rfl rfl (cq16) (.cons (Ql (by kernel_rfl)) (.cons (Ql (by kernel_rfl)) (.cons (Ql (by kernel_rfl)) (.cons (Ql (by kernel_rfl)) (.cons (Ql (by kernel_rfl)) (.cons (Ql (by kernel_rfl)) (.cons (Ql (by kernel_rfl)) (.cons (Ql (by kernel_rfl)) (.nil))))))))) (.cons rfl (.nil)) rfl rfl rfl (gR 5 rfl (Xa (by kernel_rfl) (gP 3 rfl (QZ rfl rfl rfl rfl rfl (gR 2 rfl (QZ rfl rfl rfl rfl rfl (gR 3 rfl (QZ rfl rfl rfl rfl rfl ?_)))))))))))
 refine gR 3 rfl (QZ rfl rfl rfl rfl rfl (gR 3 rfl (JL (n:=6) rfl rfl (by kernel_rfl) (gR 0 rfl (QZ rfl rfl rfl rfl rfl (gR 3 rfl (JL (n:=6) rfl rfl (by kernel_rfl) (gR 0 rfl (QZ rfl rfl rfl rfl rfl (gR 3 rfl (rs_ix_r (el:=(cM0 1 (-7) (-4) (-3) (-7) (-4) 6)) rfl rfl rfl (by decide) (by decide +kernel) (by kernel_rfl) ?_)))))))))))
 refine gR 1 rfl (cN rfl rfl (js19 (-7) (-4) (-3)) (gR 0 rfl (cN rfl rfl (js19 (-7) (-4) 6) (gR 1 rfl (rs_aeq (b:=true) [1,-7,-4,-3,-7,-4,6,0,0,0,0] [1,-7,-4,-3,-7,-4,6,0,0,0,0] rfl rfl rfl (by kernel_rfl) (by kernel_rfl) rfl rfl (by decide) (gR 3 rfl (rs_ix_r (el:=(cM0 1 (-7) (-4) (-3) 2 (-4) (-3))) rfl rfl rfl (by decide) (by decide +kernel) (by kernel_rfl) (gR 1 rfl (cN rfl rfl (js19 (-7) (-4) (-3)) (gR 0 rfl (cN rfl rfl (js19 2 (-4) (-3)) ?_)))))))))))
 refine gR 1 rfl (rs_aeq (b:=true) [1,-7,-4,-3,2,-4,-3,0,0,0,0] [1,-7,-4,-3,2,-4,-3,0,0,0,0] rfl rfl rfl (by kernel_rfl) (by kernel_rfl) rfl rfl (by decide) (gR 2 rfl (Xa (by kernel_rfl) (gP 1 rfl ?_))))
 exact Q5 <| ret_own rfl sm (kS rfl rfl) (.dead rfl rfl .nil)
end Go.Proofs.YthmbjgnjfjjibaaGreatDoor
namespace Go.Proofs.YthmbjgnjfjjibaaGreatDoor
open Go.RowKit
set_option maxRecDepth 100000
abbrev Sp:=Int×Int
abbrev cS2 (s:Sp):List AV:=[iv s.1,iv s.2]
abbrev aS (s:Sp):AV:=.agg [iv s.1,iv s.2]
def fitB (n:Int) (s:Sp):Bool:=decide (s.1 ≥ 0)&&(decide (s.2 ≥ s.1)&&decide (s.2<=n))
theorem fit_t {n:Int} {s:Sp} (h1:s.1 ≥ 0) (h2:s.2 ≥ s.1) (h3:s.2<=n):fitB n s=true:=by simp [fitB,h1,h2,h3]
theorem fit_1 {n:Int} {s:Sp} (h:¬ s.1 ≥ 0):fitB n s=false:=by unfold fitB; rw [decide_eq_false h]; rfl
theorem fit_2 {n:Int} {s:Sp} (h:¬ s.2 ≥ s.1):fitB n s=false:=by unfold fitB; rw [decide_eq_false h]; simp
theorem fit_3 {n:Int} {s:Sp} (h:¬ s.2<=n):fitB n s=false:=by unfold fitB; rw [decide_eq_false h]; simp
def Jh (lo b:Int):List Mv->Sp
 | []=>(0,43)
 | m::l=>if b+Q9 m>lo then (b,0) else Jh lo (b+Q9 m) l
def spnS (ms:List Mv) (a b:Sp):Int:=if X8 ms=0 then (if fitB (QI ms) a=true/\fitB (QI ms) b=true/\b.2<=a.2 then 0 else 3) else X8 ms
def rsS (ms:List Mv) (a b:Sp):Sp:=if spnS ms a b=0 then Jh b.1 0 ms else (0,spnS ms a b)
def fGo (s:Int):List Mv->Nat->Int×Int×Bool
 | [],_=>(0,0,false)
 | m::l,k=>if s<=Q9 m then ((k:Int),s,true) else fGo (s-Q9 m) l (k+1)
def fndS (ms:List Mv) (s:Int):Int×Int×Bool:=if X8 ms=0 then (if s<0 then (0,0,false) else fGo s ms 0) else (0,0,false)
theorem all2 (n:Int) (a b:Sp):[a,b].all (fitB n)=(fitB n a&&fitB n b):=by simp
variable {ms:List Mv}
theorem spn_0 {a b:Sp} (h:¬ X8 ms=0):spnS ms a b=X8 ms:=if_neg h
theorem spn_1 {a b:Sp} (h:X8 ms=0) (h2:[a,b].all (fitB (QI ms))=false):spnS ms a b=3:=by
 rw [all2] at h2
 unfold spnS; rw [if_pos h,if_neg]
 rintro ⟨h3,h4,_⟩
 rw [h3,h4] at h2; cases h2
theorem spn_2 {a b:Sp} (h:X8 ms=0) (h2:¬ b.2<=a.2):spnS ms a b=3:=by
 unfold spnS; rw [if_pos h,if_neg]
 rintro ⟨_,_,h3⟩; exact h2 h3
theorem spn_3 {a b:Sp} (h:X8 ms=0) (h2:[a,b].all (fitB (QI ms))=true) (h3:b.2<=a.2):spnS ms a b=0:=by
 rw [all2,Bool.and_eq_true] at h2
 unfold spnS; rw [if_pos h,if_pos ⟨h2.1,h2.2,h3⟩]
theorem fnd_0 {s:Int} (h:¬ X8 ms=0):fndS ms s=(0,0,false):=if_neg h
theorem fnd_1 {s:Int} (h:X8 ms=0) (h2:s<0):fndS ms s=(0,0,false):=by unfold fndS; rw [if_pos h,if_pos h2]
theorem fnd_2 {s:Int} (h:X8 ms=0) (h2:¬ s<0):fndS ms s=fGo s ms 0:=by unfold fndS; rw [if_pos h,if_neg h2]
def spsS (st n0 n1 n2 n3:Int):Sp×Sp :=
 let a:=Xd n0 (st+1)
 let b:=min st (a+Xd n1 7)
 let c:=max 0 (a-Xd n2 9)
 ((a,b),(c,c+Xd n3 (b-c+1)))
theorem pstep_range (ms:List Mv):0<=QI ms/\QI ms<=1920:=by
 unfold QI
 split
 ·rename_i h
  have h1:=sumM_range ms
  have h2:=pchk_len h
  omega
 ·omega
theorem sum_bd (h:X8 ms=0) (k:Nat):0<=Xt (ms.take k)/\Xt (ms.take k)<=1920:=by
 have h1:=sumM_range (ms.take k)
 have h2:=pchk_len h
 have h3:(ms.take k).length<=40:=by rw [List.length_take]; omega
 omega
def mch29:MC:=(sq [oN 3 (.box 26 2 1) [],oN 4 (.mv (.c (.bool false))) []] (dq [oA 5 0 3 [],oD 6 1 5 [0],oB 7 .geq 6 (cI 0) [1],oM 8 7 [2],pA 9 1 3 8 true [3],pD 10 1 9 8 true [4,3],pA 11 0 3 8 true [3],pD 12 1 11 8 true [6,3],oG 13 (.bin .geq 10 12) 8 true [5,7,3],oN 14 (.pick 8 13 (.c (.bool false))) [3,8],oM 15 14 [9,3],pA 16 1 3 15 true [10],pD 17 1 16 15 true [11,10],pM 18 0 15 true [10],oG 19 (.call 11 [18]) 15 true [13,10,10],oG 20 (.bin .leq 17 19) 15 true [12,14,10],oN 21 (.pick 15 20 (.c (.bool false))) [10,15],oM 4 21 (16::14::up 17)] .ret))
theorem mcOkh29:(match Tryz.f29.body with | some c=>Qq Tryz.prog 22 c | none=>none)=some mch29:=by kernel_rfl
theorem jr29 (ms:List Mv) (hl:ms.length<=4611686018427387904) (s:Sp):FC Tryz.prog 29 [mvs ms,aS s] [] (.bool (fitB (QI ms) s)) [] false:=by
 refine Qh (nt:=22) Tryz.func29 rfl rfl mcOkh29 (nL rfl) ?_
 delta mch29
 refine gA 9 rfl (Qz rfl rfl rfl rfl (fun h7=>?_) (fun h7=>?_))
 ·skip
  refine gR 5 rfl (Qz rfl rfl rfl rfl (fun h13=>?_) (fun h13=>?_))
  ·skip
   refine gR 5 rfl (cN rfl rfl (gc38 ms hl) (gR 0 rfl (Qz rfl rfl rfl rfl (fun h20=>?_) (fun h20=>?_))))
   ·skip
    refine gR 2 rfl (Xa (by kernel_rfl) (gP 1 rfl ?_))
    rw [fit_t h7 h13 h20]
    exact rQ
   ·skip
    refine gR 2 rfl (Xa (by kernel_rfl) (gP 1 rfl ?_))
    rw [fit_3 h20]
    exact rQ
  ·skip
   refine gR 9 rfl (Xa (by kernel_rfl) (gP 1 rfl ?_))
   rw [fit_2 h13]
   exact rQ
 ·skip
  refine gR 15 rfl (Xa (by kernel_rfl) (gP 1 rfl ?_))
  rw [fit_1 h7]
  exact rQ
def mch42:MC:=(sq [oN 4 (.mv (.c (.bool false))) []] (sq [oM 8 0 [],oQ 9 76 [8] [0],oM 5 9 [1,1,0,1]] (.seq (sq [oM 10 1 [],oE 11 10 [0],oN 12 (.mv (cI 0)) []] (.block 0 (.loop (sq [oB 13 .lss 12 11 []] (.seq (.cond 13 .skip (.exit 0)) (.seq (.block 1 (sq [oX 14 2 10 12 [],oL 15 2 14 [0],oN 7 (.alloc 26 2 (iz 2)) [],oS 2 7 15 [2,1,0,1,2]] (sq [oA 16 0 7 [],oD 17 1 16 [0],oB 18 .lss 17 (cI 0) [1],oM 19 18 [2],pA 20 1 7 19 false [3],pD 21 1 20 19 false [4,3],pA 22 0 7 19 false [3],pD 23 1 22 19 false [6,3],oG 24 (.bin .lss 21 23) 19 false [5,7,3],oN 25 (.pick 19 (.c (.bool true)) 24) [3,8],oM 26 25 [9,3],pA 27 1 7 26 false [10],pD 28 1 27 26 false [11,10],pM 29 5 26 false [10],oG 30 (.bin .gtr 28 29) 26 false [12,13,10],oN 31 (.pick 26 (.c (.bool true)) 30) [10,14]] (.cond 31 (sq [oN 4 (.mv (.c (.bool false))) []] .ret) .skip)))) (rg [oB 32 .add 12 (cI 1) [],oM 12 32 [0]]))))))) (sq [oN 4 (.mv (.c (.bool true))) []] .ret))))
theorem mcOkh42:(match Tryz.f42.body with | some c=>Qq Tryz.prog 33 c | none=>none)=some mch42:=by kernel_rfl
theorem jr42 (ms:List Mv) (hl:ms.length<=4611686018427387904) (xs:List Sp) (hn:xs.length<=1000):FC Tryz.prog 42 [mvs ms,.rs 2 (xs.map cS2)] [] (.bool (xs.all (fitB (QI ms)))) [] false:=by
 refine Qh (nt:=33) Tryz.func42 rfl rfl mcOkh42 (nL rfl) ?_
 delta mch42
 refine gA 7 rfl (cN rfl rfl (gc28 ms hl) (gR 6 rfl (Q1 rfl rfl (gR 3 rfl ?_))))
 refine Xp (α:=Nat) [4,5,10,11] [] (fun k=>xs.length-k) (fun k=>[(12,iv (((k):Nat):Int))]) (fun k=>[]) (fun k=>k<=xs.length/\xs.all (fitB (QI ms))=(xs.drop k).all (fitB (QI ms))) 0 (⟨by omega,rfl⟩) rfl (wkS rfl) ?_
 rintro k ⟨hk,hinv⟩
 refine gT 5 rfl (Qc rfl (fun h13=>?_) (fun h13=>?_))
 ·refine gK 5 rfl ?_
  obtain ⟨x,hx,hxm⟩:=Q8 (L:=xs) (k:=k) (by omega)
  refine QH rfl rfl rfl (by omega) hx (gR 8 rfl (Qz rfl rfl rfl rfl (fun h18=>?_) (fun h18=>?_)))
  ·skip
   refine gR 20 rfl ?_
   rw [hinv,Jt hx,List.all_cons,fit_1 (by omega),Bool.false_and]
   exact rQ
  ·skip
   refine gR 5 rfl (Qz rfl rfl rfl rfl (fun h24=>?_) (fun h24=>?_))
   ·skip
    refine gR 14 rfl ?_
    rw [hinv,Jt hx,List.all_cons,fit_2 (by omega),Bool.false_and]
    exact rQ
   ·skip
    refine gR 5 rfl (Qz rfl rfl rfl rfl (fun h30=>?_) (fun h30=>?_))
    ·skip
     refine gR 8 rfl ?_
     rw [hinv,Jt hx,List.all_cons,fit_3 (by omega),Bool.false_and]
     exact rQ
    ·skip
     refine gR 5 rfl (Qm rfl rfl rfl (by omega) (gR 2 rfl ?_))
     rw [Jt hx,List.all_cons,fit_t (by omega) (by omega) (by omega),Bool.true_and] at hinv
     exact X9 <| ⟨k+1,⟨by omega,hinv⟩,by omega,wkS rfl⟩
 ·refine gK 6 rfl ?_
  rw [hinv,List.drop_eq_nil_of_le (by omega)]
  exact rQ
def mch26:MC:=(sq [oN 4 (.box 26 2 1) [],oN 5 (.box 26 2 2) [],oN 6 (.mv (cI 0)) []] (.seq (sq [oM 8 0 [],oQ 9 31 [8] [0],oM 7 9 [1,1,0,1]] (sq [oM 10 7 [],oB 11 .neq 10 (cI 0) [0]] (.cond 11 (sq [oM 12 7 [],oM 6 12 [0,0]] .ret) .skip))) (.seq (sq [oM 13 0 [],oL 14 2 4 [],oL 15 2 5 [],oN 16 (.bslice 26 2 (iz 2) 2 [(0,14),(1,15)]) [1,2],oQ 17 42 [13,16] [0,3],oN 18 (.un .not 17) [4],oM 19 18 [5,4],pA 20 1 5 19 false [6],pD 21 1 20 19 false [7,6],pA 22 1 4 19 false [6],pD 23 1 22 19 false [9,6],oG 24 (.bin .gtr 21 23) 19 false [8,10,6],oN 25 (.pick 19 (.c (.bool true)) 24) [6,11]] (.cond 25 (sq [oN 6 (.mv (cI 3)) []] .ret) .skip)) (sq [oN 6 (.mv (cI 0)) []] .ret))))
theorem mcOkh26:(match Tryz.f26.body with | some c=>Qq Tryz.prog 26 c | none=>none)=some mch26:=by kernel_rfl
theorem jr26 (ms:List Mv) (hl:ms.length<=4611686018427387904) (a b:Sp):FC Tryz.prog 26 [mvs ms,aS a,aS b] [] (iv (spnS ms a b)) [] false:=by
 refine Qh (nt:=26) Tryz.func26 rfl rfl mcOkh26 (nL rfl) ?_
 delta mch26
 refine gA 10 rfl (cN rfl rfl (gc36 ms hl) (gR 5 rfl (Jv rfl rfl rfl (gR 1 rfl (Qc rfl (fun h11=>?_) (fun h11=>?_))))))
 ·refine gK 6 rfl ?_
  rw [spn_0 h11]
  exact rQ
 ·refine gK 7 rfl (bM cS2 (([a,b]:List Sp)) (by kernel_rfl) (gR 0 rfl (XM [16] rfl rfl (jr42 ms hl [a,b] (by simp)) (.cons (Ql rfl) (.cons (hv_slm (f:=cS2) (xs:=[a,b]) (by simp) rfl rfl) (.nil))) rfl ?_)))
  cases h17:([a,b].all (fitB (QI ms)))
  ·skip
   refine gR 15 rfl ?_
   rw [spn_1 (Decidable.not_not.1 h11) h17]
   exact rQ
  ·skip
   refine gR 6 rfl (Qz rfl rfl rfl rfl (fun h24=>?_) (fun h24=>?_))
   ·skip
    refine gR 8 rfl ?_
    rw [spn_2 (Decidable.not_not.1 h11) (by omega)]
    exact rQ
   ·skip
    refine gR 9 rfl ?_
    rw [spn_3 (Decidable.not_not.1 h11) h17 (by omega)]
    exact rQ
def mch12:MC:=(sq [oN 4 (.mv (cI 0)) [],oN 5 (.mv (cI 0)) [0],oN 6 (.mv (.c (.bool false))) [1]] (.seq (sq [oM 10 0 [],oQ 11 31 [10] [0],oB 12 .neq 11 (cI 0) [1],oM 13 12 [2,1],pM 14 1 13 false [3],oG 15 (.bin .lss 14 (cI 0)) 13 false [4,3],oN 16 (.pick 13 (.c (.bool true)) 15) [3,5]] (.cond 16 (sq [oN 4 (.mv (cI 0)) [],oN 5 (.mv (cI 0)) [0,0],oN 6 (.mv (.c (.bool false))) [1,0,1]] .ret) .skip)) (.seq (sq [oM 17 0 [],oE 18 17 [0],oN 19 (.mv (cI 0)) []] (.block 0 (.loop (sq [oB 20 .lss 19 18 []] (.seq (.cond 20 .skip (.exit 0)) (.seq (.block 1 (sq [oM 21 19 [],oX 22 11 17 19 [],oL 23 11 22 [1],oN 8 (.alloc 34 11 (iz 11)) [],oM 7 21 (0::up 4),oS 11 8 23 (3::2::4::up 5)] (sq [oL 24 11 8 [],oQ 25 32 [24] [0],oM 9 25 [1,1,0,1]] (.seq (sq [oM 26 1 [],oM 27 9 [],oB 28 .leq 26 27 [0,1]] (.cond 28 (sq [oM 29 7 [],oM 30 1 [],oM 4 29 [0,0],oM 5 30 [1,2,0,1,2],oN 6 (.mv (.c (.bool true))) (3::up 4)] .ret) .skip)) (rg [oM 31 1 [],oM 32 9 [],oB 33 .sub 31 32 [0,1],oM 1 33 [2,0,1,2]]))))) (rg [oB 34 .add 19 (cI 1) [],oM 19 34 [0]]))))))) (sq [oN 4 (.mv (cI 0)) [],oN 5 (.mv (cI 0)) [0,0],oN 6 (.mv (.c (.bool false))) [1,0,1]] .ret))))
theorem mcOkh12:(match Tryz.f12.body with | some c=>Qq Tryz.prog 35 c | none=>none)=some mch12:=by kernel_rfl
theorem jr12 (ms:List Mv) (hl:ms.length<=4611686018427387904) (s:Int) (hs:s<=1000000):FC Tryz.prog 12 [mvs ms,iv s] [] (.tup [iv (fndS ms s).1,iv (fndS ms s).2.1,.bool (fndS ms s).2.2]) [] false:=by
 refine Qh (nt:=35) Tryz.func12 rfl rfl mcOkh12 (nL rfl) ?_
 delta mch12
 refine gA 10 rfl (cN rfl rfl (gc36 ms hl) (gR 0 rfl (Qz rfl rfl rfl rfl (fun h12=>?_) (fun h12=>?_))))
 ·skip
  refine gR 13 rfl ?_
  rw [fnd_0 h12]
  exact rQ
 ·skip
  refine gR 2 rfl (Qz rfl rfl rfl rfl (fun h15=>?_) (fun h15=>?_))
  ·skip
   refine gR 10 rfl ?_
   rw [fnd_1 (Decidable.not_not.1 h12) h15]
   exact rQ
  ·skip
   refine gR 8 rfl (Q1 rfl rfl (gR 3 rfl ?_))
   refine Xp (α:=Nat×Int) [4,5,6,17,18] [] (fun a=>ms.length-a.1) (fun a=>[(1,iv (a.2)),(19,iv (((a.1):Nat):Int))]) (fun a=>[]) (fun a=>a.1<=ms.length/\0<=a.2/\a.2<=1000000/\fGo s ms 0=fGo a.2 (ms.drop a.1) a.1) (0,s) (⟨by omega,by omega,hs,rfl⟩) rfl (wkS rfl) ?_
   rintro a ⟨hk,ha0,ha1,hinv⟩
   refine gT 5 rfl (Qc rfl (fun h20=>?_) (fun h20=>?_))
   ·refine gK 6 rfl ?_
    obtain ⟨m,hm,hmm⟩:=Q8 (L:=ms) (k:=a.1) (by omega)
    have hsr:=Xx m
    refine QH rfl rfl rfl (by omega) hm (gR 8 rfl (cN rfl rfl (fc14 m) (gR 7 rfl (rs_leq rfl rfl rfl (gR 1 rfl (Qc rfl (fun h28=>?_) (fun h28=>?_)))))))
    ·refine gK 9 rfl ?_
     rw [fnd_2 (Decidable.not_not.1 h12) h15,hinv,Jt hm,show fGo a.2 (m::ms.drop (a.1+1)) a.1=((a.1:Int),a.2,true) from if_pos h28]
     exact rQ
    ·refine gK 4 rfl (JK rfl rfl rfl (by omega) (gR 3 rfl (Qm rfl rfl rfl (by omega) (gR 2 rfl ?_))))
     rw [Jt hm,show fGo a.2 (m::ms.drop (a.1+1)) a.1=fGo (a.2-Q9 m) (ms.drop (a.1+1)) (a.1+1) from if_neg h28] at hinv
     exact X9 <| ⟨(a.1+1,a.2-Q9 m),⟨by omega,by omega,by omega,hinv⟩,by dsimp only; omega,wkS rfl⟩
   ·refine gK 8 rfl ?_
    rw [fnd_2 (Decidable.not_not.1 h12) h15,hinv,List.drop_eq_nil_of_le (by omega)]
    exact rQ
def mch10:MC:=(sq [oN 4 (.box 26 2 1) [],oN 5 (.box 26 2 2) [],oN 6 (.mv (cI 0)) [],oN 7 (.mv (cI 0)) [2]] (sq [oM 12 0 [],oQ 13 28 [12] [0],oM 8 13 [1,1,0,1]] (.seq (sq [oM 14 8 [],oB 15 .neq 14 (cI 0) [0]] (.cond 15 (sq [oM 16 8 [],oN 6 (.mv (cI 0)) [],oM 7 16 [0,1,0,1]] .ret) .skip)) (.seq (sq [oM 17 0 [],oL 18 2 4 [],oQ 19 29 [17,18] [0,1],oN 20 (.un .not 19) [2],oM 21 20 [3,2],pM 22 0 21 false [4],oG 23 (.ld true 2 5) 21 false [4],oG 24 (.call 29 [22,23]) 21 false [5,6,4,4],oG 25 (.un .not 24) 21 false [7,4],oN 26 (.pick 21 (.c (.bool true)) 25) [4,8],oM 27 26 [9,7],pA 28 1 5 27 false [10],pD 29 1 28 27 false [11,10],pA 30 1 4 27 false [10],pD 31 1 30 27 false [13,10],oG 32 (.bin .gtr 29 31) 27 false [12,14,10],oN 33 (.pick 27 (.c (.bool true)) 32) [10,15]] (.cond 33 (sq [oN 6 (.mv (cI 0)) [],oN 7 (.mv (cI 3)) [0,0]] .ret) .skip)) (sq [oN 9 (.mv (cI 0)) []] (.seq (sq [oN 10 (.mv (cI 0)) []] (.block 0 (.loop (.seq (sq [oM 34 10 [],oM 35 0 [],oE 36 35 [1],oB 37 .lss 34 36 [0,2]] (.cond 37 .skip (.exit 0))) (.seq (.block 1 (sq [oM 40 0 [],oM 41 10 [],oX 42 11 40 41 [0,1],oL 43 11 42 [2],oQ 44 30 [43] [3],oM 11 44 (4::4::up 5)] (.seq (sq [oM 45 9 [],oM 46 11 [],oB 47 .add 45 46 [0,1],oA 48 0 5 [],oD 49 1 48 [3],oB 50 .gtr 47 49 [2,4]] (.cond 50 (sq [oM 51 9 [],oM 6 51 [0,0],oN 7 (.mv (cI 0)) [1,0,1]] .ret) .skip)) (rg [oM 52 9 [],oM 53 11 [],oB 54 .add 52 53 [0,1],oM 9 54 [2,0,1,2]])))) (rg [oM 38 10 [],oB 39 .add 38 (cI 1) [0],oM 10 39 [1,0,1]])))))) (sq [oN 6 (.mv (cI 0)) [],oN 7 (.mv (cI 43)) [0,0]] .ret)))))))
theorem mcOkh10:(match Tryz.f10.body with | some c=>Qq Tryz.prog 55 c | none=>none)=some mch10:=by kernel_rfl
theorem jr10 (ms:List Mv) (hl:ms.length<=4611686018427387904) (a b:Sp):FC Tryz.prog 10 [mvs ms,aS a,aS b] [] (.tup [iv (rsS ms a b).1,iv (rsS ms a b).2]) [] false:=by
 refine Qh (nt:=55) Tryz.func10 rfl rfl mcOkh10 (nL rfl) ?_
 delta mch10
 refine gA 10 rfl (cN rfl rfl (gc37 ms hl) (gR 6 rfl (Jv rfl rfl rfl (gR 1 rfl (Qc rfl (fun h15=>?_) (fun h15=>?_))))))
 ·refine gK 7 rfl ?_
  rw [show rsS ms a b=(0,X8 ms) by unfold rsS; rw [spn_0 h15,if_neg h15]]
  exact rQ
 ·refine gK 6 rfl (cN rfl rfl (jr29 ms hl a) ?_)
  cases h19:(fitB (QI ms) a)
  ·skip
   refine gR 22 rfl ?_
   rw [show rsS ms a b=(0,3) by unfold rsS; rw [spn_1 (Decidable.not_not.1 h15) (by rw [all2,h19]; rfl)]; rfl]
   exact rQ
  ·skip
   refine gR 4 rfl (cN rfl rfl (jr29 ms hl b) ?_)
   cases h24:(fitB (QI ms) b)
   ·skip
    refine gR 17 rfl ?_
    rw [show rsS ms a b=(0,3) by unfold rsS; rw [spn_1 (Decidable.not_not.1 h15) (by rw [all2,h24,Bool.and_false])]; rfl]
    exact rQ
   ·skip
    refine gR 7 rfl (Qz rfl rfl rfl rfl (fun h32=>?_) (fun h32=>?_))
    ·skip
     refine gR 9 rfl ?_
     rw [show rsS ms a b=(0,3) by unfold rsS; rw [spn_2 (Decidable.not_not.1 h15) (by omega)]; rfl]
     exact rQ
    ·skip
     refine gR 14 rfl ?_
     refine Xv (α:=Nat) (fun k=>ms.length-k) (fun k=>[(5,.ptr 5 0 0),(6,iv 0),(7,iv 0),(9,iv (Xt (ms.take (k)))),(10,iv (((k):Nat):Int)),(0,mvs ms)]) (fun k=>[(5,.cells 26 2 [cS2 b] true)]) (fun k=>k<=ms.length/\Jh b.1 0 ms=Jh b.1 (Xt (ms.take k)) (ms.drop k)) 0 (⟨by omega,rfl⟩)
      (wkS rfl) ?_
     rintro k ⟨hk,hinv⟩
     refine gT 5 rfl (Q1 rfl rfl (gR 2 rfl (Qc rfl (fun h37=>?_) (fun h37=>?_))))
     ·refine gK 7 rfl ?_
      obtain ⟨m,hm,hmm⟩:=Q8 (L:=ms) (k:=k) (by omega)
      have hsr:=Xx m
      have hsb:=sum_bd (Decidable.not_not.1 h15) k
      refine QH rfl rfl rfl (by omega) hm (gR 1 rfl (cN rfl rfl (fc15 m) (gR 7 rfl (Qm rfl rfl rfl (by omega) (gR 2 rfl (rs_gtr rfl rfl rfl (gR 1 rfl (Qc rfl (fun h50=>?_) (fun h50=>?_)))))))))
      ·refine gK 7 rfl ?_
       rw [show rsS ms a b=Jh b.1 0 ms by unfold rsS; rw [spn_3 (Decidable.not_not.1 h15) (by rw [all2,h19,h24]; rfl) (by omega)]; rfl]
       rw [hinv,Jt hm,show Jh b.1 (Xt (ms.take k)) (m::ms.drop (k+1))=(Xt (ms.take k),0) from if_pos h50]
       exact rQ
      ·refine gK 4 rfl (Qm rfl rfl rfl (by omega) (gR 4 rfl (Qm rfl rfl rfl (by omega) (gR 2 rfl ?_))))
       rw [Jt hm,show Jh b.1 (Xt (ms.take k)) (m::ms.drop (k+1))=Jh b.1 (Xt (ms.take k)+Q9 m) (ms.drop (k+1)) from if_neg h50,← sumM_succ hm] at hinv
       refine ⟨k+1,⟨by omega,hinv⟩,by omega,?_⟩
       rw [sumM_succ hm]
       exact wkS rfl
     ·refine gK 7 rfl ?_
      rw [show rsS ms a b=Jh b.1 0 ms by unfold rsS; rw [spn_3 (Decidable.not_not.1 h15) (by rw [all2,h19,h24]; rfl) (by omega)]; rfl]
      rw [hinv,List.drop_eq_nil_of_le (by omega)]
      exact rQ
def mch8:MC:=(sq [oN 3 (.box 24 4 1) [],oN 4 (.alloc 26 2 (iz 2)) [],oN 5 (.alloc 26 2 (iz 2)) []] (sq [oM 9 0 [],oQ 10 11 [9] [0],oM 6 10 [1,1,0,1]] (sq [oN 11 (.ixarr 4 1 3 (cI 0)) [],oD 12 1 11 [0],oM 13 6 [],oB 14 .add 13 (cI 1) [2],oQ 15 7 [12,14] [1,3],oN 16 (.build (iz 2) [(0,1,15)]) [4],oN 7 (.alloc 26 2 (iz 2)) [],oS 2 7 16 (6::5::4::up 7)] (dq [oM 17 6 [],oA 18 0 7 [],oD 19 1 18 [1],oN 20 (.ixarr 4 1 3 (cI 1)) [],oD 21 1 20 [3],oQ 22 7 [21,(cI 7)] [4],oB 23 .add 19 22 [2,5],oN 24 (.mn 17 23) [0,6],oA 25 1 7 (up 8),oS 1 25 24 (8::7::5::up 8)] (dq [oA 26 0 7 [],oD 27 1 26 [0],oN 28 (.ixarr 4 1 3 (cI 2)) [],oD 29 1 28 [2],oQ 30 7 [29,(cI 9)] [3],oB 31 .sub 27 30 [1,4],oN 32 (.mx (cI 0) 31) [5],oN 33 (.build (iz 2) [(0,1,32)]) [6],oN 8 (.alloc 26 2 (iz 2)) [],oS 2 8 33 (8::7::4::up 9)] (dq [oA 34 0 8 [],oD 35 1 34 [0],oN 36 (.ixarr 4 1 3 (cI 3)) [],oD 37 1 36 [2],oA 38 1 7 [],oD 39 1 38 [4],oA 40 0 8 [],oD 41 1 40 [6],oB 42 .sub 39 41 [5,7],oB 43 .add 42 (cI 1) [8],oQ 44 7 [37,43] [3,9],oB 45 .add 35 44 [1,10],oA 46 1 8 (up 12),oS 1 46 45 (12::11::10::up 12)] (dq [oL 47 2 7 [],oL 48 2 8 [],oS 2 4 47 [0,0],oS 2 5 48 [1,2,0,1,2]] .ret)))))))
theorem mcOkh8:(match Tryz.f8.body with | some c=>Qq Tryz.prog 49 c | none=>none)=some mch8:=by kernel_rfl
theorem jr8 (ms:List Mv) (hl:ms.length<=4611686018427387904) (n0 n1 n2 n3:Int):FC Tryz.prog 8 [mvs ms,.agg [iv n0,iv n1,iv n2,iv n3]] [] (.tup [aS (spsS (QI ms) n0 n1 n2 n3).1,aS (spsS (QI ms) n0 n1 n2 n3).2]) [] false:=by
 have hp:=pstep_range ms
 have e0:=QT n0 (QI ms+1) (by omega)
 have e1:=QT n1 7 (by omega)
 have e2:=QT n2 9 (by omega)
 refine Qh (nt:=49) Tryz.func8 rfl rfl mcOkh8 (nL rfl) ?_
 delta mch8
 refine gA 9 rfl (cN rfl rfl (gc38 ms hl) (gR 4 rfl (Qx rfl rfl rfl (by decide) (by decide) (gR 2 rfl (Qm rfl rfl rfl (by omega) (gR 0 rfl (cN rfl rfl (fc16 n0 (QI ms+1) (by omega)) (gR 9 rfl (Qx rfl rfl rfl (by decide) (by decide) (gR 1 rfl (cN rfl rfl (fc16 n1 7 (by omega)) ?_)))))))))))
 refine gR 0 rfl (Qm rfl rfl rfl (by omega) (gR 0 rfl (rs_mn rfl rfl rfl rfl (gR 2 rfl (Xa (by kernel_rfl) (gP 4 rfl (Qx rfl rfl rfl (by decide) (by decide) (gR 1 rfl (cN rfl rfl (fc16 n2 9 (by omega)) (gR 0 rfl (JK rfl rfl rfl (by omega) ?_)))))))))))
 refine gR 0 rfl (rs_mx rfl rfl rfl rfl (gR 3 rfl (Xa (by kernel_rfl) (gP 4 rfl (Qx rfl rfl rfl (by decide) (by decide) (gR 5 rfl (JK rfl rfl rfl (by omega) (gR 0 rfl (Qm rfl rfl rfl (by omega) (gR 0 rfl (cN rfl rfl (fc16 n3 (min (QI ms) (Xd n0 (QI ms+1)+Xd n1 7)-max 0 (Xd n0 (QI ms+1)-Xd n2 9)+1) (by omega)) ?_)))))))))))
 refine gR 0 rfl (Qm rfl rfl rfl (by have:=QT n3 (min (QI ms) (Xd n0 (QI ms+1)+Xd n1 7)-max 0 (Xd n0 (QI ms+1)-Xd n2 9)+1) (by omega); omega) (gR 2 rfl (Xa (by kernel_rfl) (gP 6 rfl (Xa (by kernel_rfl) (gP 1 rfl ?_))))))
 exact rQ
end Go.Proofs.YthmbjgnjfjjibaaGreatDoor
namespace Go.Proofs.YthmbjgnjfjjibaaGreatDoor
open Go.RowKit
set_option maxRecDepth 100000
abbrev cPrt (m:Mv) (f n:Int):List AV:=[iv m.kind,iv m.fr.x,iv m.fr.y,iv m.fr.z,iv m.to.x,iv m.to.y,iv m.to.z,iv m.co.x,iv m.co.y,iv m.co.z,iv m.feed,iv f,iv n]
theorem rsGo_cases (lo:Int):∀ (l:List Mv) (b:Int),(Jh lo b l=(0,43)/\∀ (k:Nat) m,l[k]?=some m->¬ b+Xt (l.take k)+Q9 m>lo) ∨
  ∃ (k:Nat) (m:Mv),l[k]?=some m/\b+Xt (l.take k)+Q9 m>lo/\(∀ (j:Nat),j<k->∀ m',l[j]?=some m'->¬ b+Xt (l.take j)+Q9 m'>lo)/\Jh lo b l=(b+Xt (l.take k),0)
 | [],b=>.inl ⟨rfl,fun k m h=>by simp at h⟩
 | x::l,b=>by
  have e2:∀ k,Xt ((x::l).take (k+1))=Q9 x+Xt (l.take k):=fun k=>by simp [Xt]
  have e0:Xt ((x::l).take 0)=0:=rfl
  by_cases h:b+Q9 x>lo
  ·refine .inr ⟨0,x,rfl,by rw [e0]; omega,fun j hj=>by omega,?_⟩
   show (if b+Q9 x>lo then ((b,0):Sp) else _)=_
   rw [if_pos h,e0,Int.add_zero]
  ·have e:Jh lo b (x::l)=Jh lo (b+Q9 x) l:=if_neg h
   rcases rsGo_cases lo l (b+Q9 x) with ⟨h1,h2⟩ | ⟨k,m,h1,h2,h3,h4⟩
   ·refine .inl ⟨e.trans h1,fun k m hk=>?_⟩
    cases k with
    | zero =>
     injection (show some x=some m from hk) with hk
     subst hk
     rw [e0]; omega
    | succ k =>
     have:=h2 k m hk
     rw [e2]; omega
   ·refine .inr ⟨k+1,m,h1,by rw [e2]; omega,fun j hj m' hm'=>?_,?_⟩
    ·cases j with
     | zero =>
      injection (show some x=some m' from hm') with hk
      subst hk
      rw [e0]; omega
     | succ j =>
      have:=h3 j (by omega) m' hm'
      rw [e2]; omega
    ·rw [e,h4,e2,Int.add_assoc]
theorem spn_ok {ms:List Mv} {a b:Sp} (h:spnS ms a b=0):X8 ms=0/\fitB (QI ms) a=true/\fitB (QI ms) b=true/\b.2<=a.2:=by
 unfold spnS at h
 split at h
 ·rename_i h0
  split at h
  ·rename_i h1; exact ⟨h0,h1⟩
  ·cases h
 ·rename_i h0; exact absurd h h0
def mch27:MC:=(sq [oN 1 (.box 29 1 0) [],oN 2 (.mv (.c .nilf)) []] (sq [oN 3 (.mkfn (.func 54) [1]) [],oM 2 3 [0,0]] .ret))
theorem mcOkh27:(match Tryz.f27.body with | some c=>Qq Tryz.prog 4 c | none=>none)=some mch27:=by kernel_rfl
theorem jr27 (ms:List Mv):FC Tryz.prog 27 [mvs ms] [] (.fn (.func 54) [.rp [mvs ms]]) [] true:=by
 refine Qh (nt:=4) Tryz.func27 rfl rfl mcOkh27 (nL rfl) ?_
 delta mch27
 refine gA 11 rfl ?_
 exact Q5 <| Xg rfl (rc_fnr (.cons (XJ rfl rfl (.inl rfl)) .nil)) .nil
def as9:MC:=(rg [oN 9 (.alloc 96 13 (iz 13)) [],oS 13 9 19 [0,0]])
def bd9:MC:=(.block 1 (sq [oA 20 11 9 [],oD 21 1 20 [0],oA 22 12 9 [],oD 23 1 22 [2],oB 24 .add 21 23 [1,3],oA 25 0 5 [],oD 26 1 25 [5],oB 27 .gtr 24 26 [4,6]] (.cond 27 (sq [oA 28 11 9 [],oD 29 1 28 [0],oS 1 6 29 [1,0,1],oS 1 7 (cI 0) [2,0,1,2]] .ret) .skip)))
theorem as9w (ms:List Mv) (b:Sp) (m:Mv) (f n:Int) (hf:0<=f/\f<=1920) (hn:0<=n/\n<=48) (o:Loop) (lb:Nat):AW Tryz.prog 30 [900,1005,6,7] (some lb) as9 (fun e F' H'=>e = .normal/\Weak 30 [900,1005,6,7] F' H' [(5,.ptr 1005 0 0),(6,.ptr 6 0 0),(7,.ptr 7 0 0),(9,.ptr 9 0 0)] [(900,.lp o [(18,.fn (.func 54) [.rp [mvs ms]]),(5,.ptr 1005 0 0),(6,.ptr 6 0 0),(7,.ptr 7 0 0)]),(1005,.cells 26 2 [cS2 b] true),(6,.cells 3 1 [[iv (0)]] true),(7,.cells 41 1 [[iv 0]] true),(9,.cells 96 13 [cPrt m f n] true)]) [(19,.agg (cPrt m f n)),(18,.fn (.func 54) [.rp [mvs ms]]),(5,.ptr 1005 0 0),(6,.ptr 6 0 0),(7,.ptr 7 0 0)] [(900,.lp o [(18,.fn (.func 54) [.rp [mvs ms]]),(5,.ptr 1005 0 0),(6,.ptr 6 0 0),(7,.ptr 7 0 0)]),(1005,.cells 26 2 [cS2 b] true),(6,.cells 3 1 [[iv (0)]] true),(7,.cells 41 1 [[iv 0]] true)]:=by
 delta as9
 refine gA 4 rfl ?_
 exact Q5 <| ⟨rfl,Qf (Qk rfl rfl) (kS rfl rfl) (fun i hi=>by simp [Qa] at hi ⊢; omega)⟩
theorem bd9w_n (ms:List Mv) (b:Sp) (m:Mv) (f n:Int) (hf:0<=f/\f<=1920) (hn:0<=n/\n<=48) (hs:¬ f+n>b.1) (o:Loop) (lb:Nat):AW Tryz.prog 30 [900,1005,6,7] (some lb) bd9 (fun e F' H'=>e = .normal/\Weak 30 [900,1005,6,7] F' H' [] [(900,.lp o [(18,.fn (.func 54) [.rp [mvs ms]]),(5,.ptr 1005 0 0),(6,.ptr 6 0 0),(7,.ptr 7 0 0)]),(1005,.cells 26 2 [cS2 b] true),(6,.cells 3 1 [[iv (0)]] true),(7,.cells 41 1 [[iv 0]] true)]) [(5,.ptr 1005 0 0),(6,.ptr 6 0 0),(7,.ptr 7 0 0),(9,.ptr 9 0 0)] [(900,.lp o [(18,.fn (.func 54) [.rp [mvs ms]]),(5,.ptr 1005 0 0),(6,.ptr 6 0 0),(7,.ptr 7 0 0)]),(1005,.cells 26 2 [cS2 b] true),(6,.cells 3 1 [[iv (0)]] true),(7,.cells 41 1 [[iv 0]] true),(9,.cells 96 13 [cPrt m f n] true)]:=by
 delta bd9
 refine gA 7 rfl (Qm rfl rfl rfl (by omega) (gR 2 rfl (Xo rfl rfl rfl rfl hs (gR 3 rfl ?_))))
 exact Q5 <| ⟨rfl,Qf (.nil) (kS rfl rfl) (fun i hi=>by simp [Qa] at hi ⊢; omega)⟩
theorem y9_n (ms:List Mv) (b:Sp) (m:Mv) (f n:Int) (hf:0<=f/\f<=1920) (hn:0<=n/\n<=48) (hs:¬ f+n>b.1) (r0:Loop) (h:Rec0 Tryz.prog 30 [19] as9 bd9 r0) :
  FCg (XB Tryz.prog) [.yl 900,.agg (cPrt m f n)] [(900,.lp r0 [(18,.fn (.func 54) [.rp [mvs ms]]),(5,.ptr 1005 0 0),(6,.ptr 6 0 0),(7,.ptr 7 0 0)]),(1005,.cells 26 2 [cS2 b] true),(6,.cells 3 1 [[iv (0)]] true),(7,.cells 41 1 [[iv 0]] true)] (.bool true) [(900,.lp r0 [(18,.fn (.func 54) [.rp [mvs ms]]),(5,.ptr 1005 0 0),(6,.ptr 6 0 0),(7,.ptr 7 0 0)]),(1005,.cells 26 2 [cS2 b] true),(6,.cells 3 1 [[iv (0)]] true),(7,.cells 41 1 [[iv 0]] true)] true:=by
 have:=Jm (P:=Tryz.prog) (F:=[(18,.fn (.func 54) [.rp [mvs ms]]),(5,.ptr 1005 0 0),(6,.ptr 6 0 0),(7,.ptr 7 0 0)]) (N:=30) (x:=as9) (y:=bd9) h.ca h.cb (li:=900) (ps:=[19]) (vs:=[.agg (cPrt m f n)]) (J:=[(1005,.cells 26 2 [cS2 b] true),(6,.cells 3 1 [[iv (0)]] true),(7,.cells 41 1 [[iv 0]] true)]) (J1:=[(1005,.cells 26 2 [cS2 b] true),(6,.cells 3 1 [[iv (0)]] true),(7,.cells 41 1 [[iv 0]] true),(9,.cells 96 13 [cPrt m f n] true)]) (J':=[(1005,.cells 26 2 [cS2 b] true),(6,.cells 3 1 [[iv (0)]] true),(7,.cells 41 1 [[iv 0]] true)]) (Fb:=[(5,.ptr 1005 0 0),(6,.ptr 6 0 0),(7,.ptr 7 0 0),(9,.ptr 9 0 0)]) (Z0:=[900,1005,6,7]) .normal none (.inl ⟨rfl,rfl⟩)
  rfl rfl (fun i hi=>Qp.1 hi) (by simp) (fun i h=>Qp.2 h) (fun i hi=>Qp.1 (by simp [Qa] at hi ⊢; omega)) h.state h.params rfl rfl h.size (fun t v h=>Js h) (fun lb o=>as9w ms b m f n hf hn o lb) (fun lb o=>bd9w_n ms b m f n hf hn hs o lb)
 rw [rec_same h.state h.pending] at this
 exact this
theorem bd9w_s (ms:List Mv) (b:Sp) (m:Mv) (f n:Int) (hf:0<=f/\f<=1920) (hn:0<=n/\n<=48) (hs:f+n>b.1) (o:Loop) (lb:Nat):AW Tryz.prog 30 [900,1005,6,7] (some lb) bd9 (fun e F' H'=>e = .ret/\Weak 30 [900,1005,6,7] F' H' [] [(900,.lp o [(18,.fn (.func 54) [.rp [mvs ms]]),(5,.ptr 1005 0 0),(6,.ptr 6 0 0),(7,.ptr 7 0 0)]),(1005,.cells 26 2 [cS2 b] true),(6,.cells 3 1 [[iv (f)]] true),(7,.cells 41 1 [[iv 0]] true)]) [(5,.ptr 1005 0 0),(6,.ptr 6 0 0),(7,.ptr 7 0 0),(9,.ptr 9 0 0)] [(900,.lp o [(18,.fn (.func 54) [.rp [mvs ms]]),(5,.ptr 1005 0 0),(6,.ptr 6 0 0),(7,.ptr 7 0 0)]),(1005,.cells 26 2 [cS2 b] true),(6,.cells 3 1 [[iv (0)]] true),(7,.cells 41 1 [[iv 0]] true),(9,.cells 96 13 [cPrt m f n] true)]:=by
 delta bd9
 refine gA 7 rfl (Qm rfl rfl rfl (by omega) (gR 2 rfl (QZ rfl rfl rfl rfl hs (gR 10 rfl ?_))))
 exact Q5 <| ⟨rfl,Qf (.nil) (kS rfl rfl) (fun i hi=>by simp [Qa] at hi ⊢; omega)⟩
theorem y9_s (ms:List Mv) (b:Sp) (m:Mv) (f n:Int) (hf:0<=f/\f<=1920) (hn:0<=n/\n<=48) (hs:f+n>b.1) (r0:Loop) (h:Rec0 Tryz.prog 30 [19] as9 bd9 r0) :
  FCg (XB Tryz.prog) [.yl 900,.agg (cPrt m f n)] [(900,.lp r0 [(18,.fn (.func 54) [.rp [mvs ms]]),(5,.ptr 1005 0 0),(6,.ptr 6 0 0),(7,.ptr 7 0 0)]),(1005,.cells 26 2 [cS2 b] true),(6,.cells 3 1 [[iv (0)]] true),(7,.cells 41 1 [[iv 0]] true)] (.bool false) [(900,.lp { r0 with state:=.done,pending:=some .ret } [(18,.fn (.func 54) [.rp [mvs ms]]),(5,.ptr 1005 0 0),(6,.ptr 6 0 0),(7,.ptr 7 0 0)]),(1005,.cells 26 2 [cS2 b] true),(6,.cells 3 1 [[iv (f)]] true),(7,.cells 41 1 [[iv 0]] true)] true:=by
 have:=Jm (P:=Tryz.prog) (F:=[(18,.fn (.func 54) [.rp [mvs ms]]),(5,.ptr 1005 0 0),(6,.ptr 6 0 0),(7,.ptr 7 0 0)]) (N:=30) (x:=as9) (y:=bd9) h.ca h.cb (li:=900) (ps:=[19]) (vs:=[.agg (cPrt m f n)]) (J:=[(1005,.cells 26 2 [cS2 b] true),(6,.cells 3 1 [[iv (0)]] true),(7,.cells 41 1 [[iv 0]] true)]) (J1:=[(1005,.cells 26 2 [cS2 b] true),(6,.cells 3 1 [[iv (0)]] true),(7,.cells 41 1 [[iv 0]] true),(9,.cells 96 13 [cPrt m f n] true)]) (J':=[(1005,.cells 26 2 [cS2 b] true),(6,.cells 3 1 [[iv (f)]] true),(7,.cells 41 1 [[iv 0]] true)]) (Fb:=[(5,.ptr 1005 0 0),(6,.ptr 6 0 0),(7,.ptr 7 0 0),(9,.ptr 9 0 0)]) (Z0:=[900,1005,6,7]) .ret (some .ret) (.inr ⟨rfl,rfl⟩)
  rfl rfl (fun i hi=>Qp.1 hi) (by simp) (fun i h=>Qp.2 h) (fun i hi=>Qp.1 (by simp [Qa] at hi ⊢; omega)) h.state h.params rfl rfl h.size (fun t v h=>Js h) (fun lb o=>as9w ms b m f n hf hn o lb) (fun lb o=>bd9w_s ms b m f n hf hn hs o lb)
 exact this
def mch54:MC:=(sq [oN 3 (.mv (cI 0)) []] (sq [oD 7 1 1 [],oE 8 7 [0],oN 9 (.mv (cI 0)) []] (.block 0 (.loop (sq [oB 10 .lss 9 8 []] (.seq (.cond 10 .skip (.exit 0)) (.seq (.block 1 (sq [oX 11 11 7 9 [],oL 12 11 11 [0],oN 5 (.alloc 34 11 (iz 11)) [],oS 11 5 12 [2,1,0,1,2]] (sq [oL 13 11 5 [],oQ 14 32 [13] [0],oM 6 14 [1,1,0,1]] (.seq (sq [oM 15 0 [],oL 16 11 5 [],oM 17 3 [],oM 18 6 [],oN 19 (.build (iz 13) [(0,11,16),(11,1,17),(12,1,18)]) [1,2,3],oN 20 (.callv 15 [19]) [0,4],oN 21 (.un .not 20) [5]] (.cond 21 .ret .skip)) (rg [oM 22 3 [],oM 23 6 [],oB 24 .add 22 23 [0,1],oM 3 24 [2,0,1,2]]))))) (rg [oB 25 .add 9 (cI 1) [],oM 9 25 [0]]))))))))
theorem mcOkh54:(match Tryz.f54.body with | some c=>Qq Tryz.prog 26 c | none=>none)=some mch54:=by kernel_rfl
theorem jr54_n (ms:List Mv) (hl:ms.length<=4611686018427387904) (b:Sp) (hp:X8 ms=0) (hns:∀ (k:Nat) m,ms[k]?=some m->¬ Xt (ms.take k)+Q9 m>b.1) (r0:Loop) (h:Rec0 Tryz.prog 30 [19] as9 bd9 r0):FC Tryz.prog 54 [.yl 900,.rp [mvs ms]] [(900,.lp r0 [(18,.fn (.func 54) [.rp [mvs ms]]),(5,.ptr 1005 0 0),(6,.ptr 6 0 0),(7,.ptr 7 0 0)]),(1005,.cells 26 2 [cS2 b] true),(6,.cells 3 1 [[iv (0)]] true),(7,.cells 41 1 [[iv 0]] true)] (.tup []) [(900,.lp r0 [(18,.fn (.func 54) [.rp [mvs ms]]),(5,.ptr 1005 0 0),(6,.ptr 6 0 0),(7,.ptr 7 0 0)]),(1005,.cells 26 2 [cS2 b] true),(6,.cells 3 1 [[iv (0)]] true),(7,.cells 41 1 [[iv 0]] true)] true:=by
 refine Qh (nt:=26) Tryz.func54 rfl rfl mcOkh54 (nL rfl) ?_
 delta mch54
 refine gA 7 rfl (Q1 rfl rfl (gR 3 rfl ?_))
 refine Xv (α:=Nat) (fun k=>ms.length-k) (fun k=>[(0,.yl 900),(1,.rp [mvs ms]),(3,iv (Xt (ms.take (k)))),(7,mvs ms),(8,iv (ms.length:Int)),(9,iv (((k):Nat):Int))]) (fun k=>[(900,.lp r0 [(18,.fn (.func 54) [.rp [mvs ms]]),(5,.ptr 1005 0 0),(6,.ptr 6 0 0),(7,.ptr 7 0 0)]),(1005,.cells 26 2 [cS2 b] true),(6,.cells 3 1 [[iv (0)]] true),(7,.cells 41 1 [[iv 0]] true)]) (fun k=>k<=ms.length) 0 (by omega)
  (Qf (Qk rfl rfl) (kS rfl rfl) (fun i hi=>by simp [Qa] at hi ⊢; omega)) ?_
 intro k hk
 refine gT 5 rfl (Qc rfl (fun h10=>?_) (fun h10=>?_))
 ·refine gK 5 rfl ?_
  obtain ⟨m,hm,hmm⟩:=Q8 (L:=ms) (k:=k) (by omega)
  have hsr:=Xx m
  have hsb:=sum_bd hp k
  refine QH rfl rfl rfl (by omega) hm (gR 6 rfl (Q2 (cs:=cM m) rfl rfl rfl rfl (nL rfl) rfl (gR 0 rfl (cN rfl rfl (fc14 m) (gR 6 rfl (Q2 (cs:=cM m) rfl rfl rfl rfl (nL rfl) rfl (gR 2 rfl (rs_build (cs:=cPrt m (Xt (ms.take k)) (Q9 m)) rfl rfl (gR 0 rfl (rs_yield [(900,.lp r0 [(18,.fn (.func 54) [.rp [mvs ms]]),(5,.ptr 1005 0 0),(6,.ptr 6 0 0),(7,.ptr 7 0 0)]),(1005,.cells 26 2 [cS2 b] true),(6,.cells 3 1 [[iv (0)]] true),(7,.cells 41 1 [[iv 0]] true)] rfl rfl rfl (y9_n ms b m (Xt (ms.take k)) (Q9 m) hsb hsr (hns k m hm) r0 h) (.cons (Ql rfl) (.cons (Ql rfl) (.nil))) (.cons rfl (.cons rfl (.cons rfl (.cons rfl (.nil))))) rfl rfl rfl (gR 7 rfl ?_)))))))))))
  refine Qm rfl rfl rfl (by omega) (gR 3 rfl (Qm rfl rfl rfl (by omega) (gR 2 rfl (⟨k+1,by omega,by omega,?_⟩))))
  rw [sumM_succ hm]
  exact Qf (Qk rfl rfl) (kS rfl rfl) (fun i hi=>by simp [Qa] at hi ⊢; omega)
 ·refine gK 1 rfl ?_
  exact Q5 <| ret_own_e (by first | exact .inl rfl | exact .inr rfl) rfl sm (kS rfl rfl) (.cons rfl rfl rfl (.cons rfl rfl rfl (.cons rfl rfl rfl (.cons rfl rfl rfl (.nil)))))
theorem jr54_s (ms:List Mv) (hl:ms.length<=4611686018427387904) (b:Sp) (hp:X8 ms=0) (q:Nat) (mq:Mv) (hq:ms[q]?=some mq) (hst:Xt (ms.take q)+Q9 mq>b.1) (hns:∀ (k:Nat),k<q->∀ m,ms[k]?=some m->¬ Xt (ms.take k)+Q9 m>b.1) (r0:Loop) (h:Rec0 Tryz.prog 30 [19] as9 bd9 r0):FC Tryz.prog 54 [.yl 900,.rp [mvs ms]] [(900,.lp r0 [(18,.fn (.func 54) [.rp [mvs ms]]),(5,.ptr 1005 0 0),(6,.ptr 6 0 0),(7,.ptr 7 0 0)]),(1005,.cells 26 2 [cS2 b] true),(6,.cells 3 1 [[iv (0)]] true),(7,.cells 41 1 [[iv 0]] true)] (.tup []) [(900,.lp { r0 with state:=.done,pending:=some .ret } [(18,.fn (.func 54) [.rp [mvs ms]]),(5,.ptr 1005 0 0),(6,.ptr 6 0 0),(7,.ptr 7 0 0)]),(1005,.cells 26 2 [cS2 b] true),(6,.cells 3 1 [[iv (Xt (ms.take q))]] true),(7,.cells 41 1 [[iv 0]] true)] true:=by
 refine Qh (nt:=26) Tryz.func54 rfl rfl mcOkh54 (nL rfl) ?_
 delta mch54
 refine gA 7 rfl (Q1 rfl rfl (gR 3 rfl ?_))
 refine Xv (α:=Nat) (fun k=>ms.length-k) (fun k=>[(0,.yl 900),(1,.rp [mvs ms]),(3,iv (Xt (ms.take (k)))),(7,mvs ms),(8,iv (ms.length:Int)),(9,iv (((k):Nat):Int))]) (fun k=>[(900,.lp r0 [(18,.fn (.func 54) [.rp [mvs ms]]),(5,.ptr 1005 0 0),(6,.ptr 6 0 0),(7,.ptr 7 0 0)]),(1005,.cells 26 2 [cS2 b] true),(6,.cells 3 1 [[iv (0)]] true),(7,.cells 41 1 [[iv 0]] true)]) (fun k=>k<=q) 0 (by omega)
  (Qf (Qk rfl rfl) (kS rfl rfl) (fun i hi=>by simp [Qa] at hi ⊢; omega)) ?_
 intro k hk
 refine gT 5 rfl (Qc rfl (fun h10=>?_) (fun h10=>?_))
 ·refine gK 5 rfl ?_
  obtain ⟨m,hm,hmm⟩:=Q8 (L:=ms) (k:=k) (by omega)
  have hsr:=Xx m
  have hsb:=sum_bd hp k
  refine QH rfl rfl rfl (by omega) hm (gR 6 rfl (Q2 (cs:=cM m) rfl rfl rfl rfl (nL rfl) rfl (gR 0 rfl (cN rfl rfl (fc14 m) (gR 6 rfl (Q2 (cs:=cM m) rfl rfl rfl rfl (nL rfl) rfl (gR 2 rfl (rs_build (cs:=cPrt m (Xt (ms.take k)) (Q9 m)) rfl rfl ?_))))))))
  rcases Nat.lt_or_ge k q with hkq | hkq
  ·skip
   refine gR 0 rfl (rs_yield [(900,.lp r0 [(18,.fn (.func 54) [.rp [mvs ms]]),(5,.ptr 1005 0 0),(6,.ptr 6 0 0),(7,.ptr 7 0 0)]),(1005,.cells 26 2 [cS2 b] true),(6,.cells 3 1 [[iv (0)]] true),(7,.cells 41 1 [[iv 0]] true)] rfl rfl rfl (y9_n ms b m (Xt (ms.take k)) (Q9 m) hsb hsr (hns k hkq m hm) r0 h) (.cons (Ql rfl) (.cons (Ql rfl) (.nil))) (.cons rfl (.cons rfl (.cons rfl (.cons rfl (.nil))))) rfl rfl rfl (gR 7 rfl (Qm rfl rfl rfl (by omega) (gR 3 rfl (Qm rfl rfl rfl (by omega) (gR 2 rfl (⟨k+1,by omega,by omega,?_⟩)))))))
   rw [sumM_succ hm]
   exact Qf (Qk rfl rfl) (kS rfl rfl) (fun i hi=>by simp [Qa] at hi ⊢; omega)
  ·have hkq2:k=q:=by omega
   subst hkq2
   rw [hq] at hm
   injection hm with hm
   subst hm
   refine gR 0 rfl (rs_yield [(900,.lp r0 [(18,.fn (.func 54) [.rp [mvs ms]]),(5,.ptr 1005 0 0),(6,.ptr 6 0 0),(7,.ptr 7 0 0)]),(1005,.cells 26 2 [cS2 b] true),(6,.cells 3 1 [[iv (0)]] true),(7,.cells 41 1 [[iv 0]] true)] rfl rfl rfl (y9_s ms b mq (Xt (ms.take k)) (Q9 mq) hsb hsr hst r0 h) (.cons (Ql rfl) (.cons (Ql rfl) (.nil))) (.cons rfl (.cons rfl (.cons rfl (.cons rfl (.nil))))) rfl rfl rfl (gR 4 rfl ?_))
   exact Q5 <| ret_own_e (by first | exact .inl rfl | exact .inr rfl) rfl sm (kS rfl rfl) (.cons rfl rfl rfl (.cons rfl rfl rfl (.cons rfl rfl rfl (.cons rfl rfl rfl (.nil)))))
 ·refine gK 1 rfl ?_
  exfalso
  have:=lt_of_at hq
  omega
def mch9:MC:=(sq [oN 4 (.box 26 2 1) [],oN 5 (.box 26 2 2) [],oN 6 (.alloc 3 1 [(iv 0)]) [],oN 7 (.alloc 41 1 [(iv 0)]) []] (.seq (sq [oM 10 0 [],oL 11 2 4 [],oL 12 2 5 [],oQ 13 26 [10,11,12] [0,1,2],oM 8 13 (3::3::up 4)] (sq [oM 14 8 [],oB 15 .neq 14 (cI 0) [0]] (.cond 15 (sq [oM 16 8 [],oS 1 6 (cI 0) [],oS 1 7 16 [0,1,0,1]] .ret) .skip))) (.seq (sq [oM 17 0 [],oQ 18 27 [17] [0]] (.block 0 (.rfunc 18 [19] (rg [oN 9 (.alloc 96 13 (iz 13)) [],oS 13 9 19 [0,0]]) (.block 1 (sq [oA 20 11 9 [],oD 21 1 20 [0],oA 22 12 9 [],oD 23 1 22 [2],oB 24 .add 21 23 [1,3],oA 25 0 5 [],oD 26 1 25 [5],oB 27 .gtr 24 26 [4,6]] (.cond 27 (sq [oA 28 11 9 [],oD 29 1 28 [0],oS 1 6 29 [1,0,1],oS 1 7 (cI 0) [2,0,1,2]] .ret) .skip)))))) (sq [oS 1 6 (cI 0) [],oS 1 7 (cI 43) [0,0]] .ret))))
theorem mcOkh9:(match Tryz.f9.body with | some c=>Qq Tryz.prog 30 c | none=>none)=some mch9:=by kernel_rfl
theorem jr9_0 (ms:List Mv) (hl:ms.length<=4611686018427387904) (a b:Sp) (h0:¬ spnS ms a b=0):FC Tryz.prog 9 [mvs ms,aS a,aS b] [] (.tup [iv 0,iv (spnS ms a b)]) [] false:=by
 refine Qh (nt:=30) Tryz.func9 rfl rfl mcOkh9 (nL rfl) ?_
 delta mch9
 refine gA 13 rfl (cN rfl rfl (jr26 ms hl a b) (gR 5 rfl (QZ rfl rfl rfl rfl h0 (gR 9 rfl ?_))))
 exact rQ
theorem jr9_n (ms:List Mv) (hl:ms.length<=4611686018427387904) (a b:Sp) (h0:spnS ms a b=0) (hns:∀ (k:Nat) m,ms[k]?=some m->¬ Xt (ms.take k)+Q9 m>b.1):FC Tryz.prog 9 [mvs ms,aS a,aS b] [] (.tup [iv 0,iv 43]) [] false:=by
 refine Qh (nt:=30) Tryz.func9 rfl rfl mcOkh9 (nL rfl) ?_
 delta mch9
 refine gA 13 rfl (cN rfl rfl (jr26 ms hl a b) (gR 5 rfl (Xo rfl rfl rfl rfl (fun h=>h h0) (gR 7 rfl (clO rfl (jr27 ms) rfl (gR 2 rfl (QC (F0:=[(18,.fn (.func 54) [.rp [mvs ms]]),(5,.ptr 1005 0 0),(6,.ptr 6 0 0),(7,.ptr 7 0 0)]) (H0:=[(1005,.cells 26 2 [cS2 b] true),(6,.cells 3 1 [[iv (0)]] true),(7,.cells 41 1 [[iv 0]] true)]) (wR 5 1005 (Qk rfl rfl) (kS rfl rfl) rfl) (aw_rfunc 900 [(1005,.cells 26 2 [cS2 b] true),(6,.cells 3 1 [[iv (0)]] true),(7,.cells 41 1 [[iv 0]] true)] [(1005,.cells 26 2 [cS2 b] true),(6,.cells 3 1 [[iv (0)]] true),(7,.cells 41 1 [[iv 0]] true)] (.inl ⟨rfl,rfl⟩) rfl (by kernel_rfl) rfl rfl rfl (.cons rfl (.cons rfl (.cons rfl (.nil)))) rfl rfl rfl rfl (fun r0 hrec=>⟨r0,(by rw [hrec.state]; intro h; cases h),hrec.pending,jr54_n ms hl b (spn_ok h0).1 hns r0 hrec⟩) (gP 6 rfl ?_)))))))))
 exact rQ
theorem jr9_s (ms:List Mv) (hl:ms.length<=4611686018427387904) (a b:Sp) (h0:spnS ms a b=0) (q:Nat) (mq:Mv) (hq:ms[q]?=some mq) (hst:Xt (ms.take q)+Q9 mq>b.1) (hns:∀ (k:Nat),k<q->∀ m,ms[k]?=some m->¬ Xt (ms.take k)+Q9 m>b.1):FC Tryz.prog 9 [mvs ms,aS a,aS b] [] (.tup [iv (Xt (ms.take q)),iv 0]) [] false:=by
 refine Qh (nt:=30) Tryz.func9 rfl rfl mcOkh9 (nL rfl) ?_
 delta mch9
 refine gA 13 rfl (cN rfl rfl (jr26 ms hl a b) (gR 5 rfl (Xo rfl rfl rfl rfl (fun h=>h h0) (gR 7 rfl (clO rfl (jr27 ms) rfl (gR 2 rfl (QC (F0:=[(18,.fn (.func 54) [.rp [mvs ms]]),(5,.ptr 1005 0 0),(6,.ptr 6 0 0),(7,.ptr 7 0 0)]) (H0:=[(1005,.cells 26 2 [cS2 b] true),(6,.cells 3 1 [[iv (0)]] true),(7,.cells 41 1 [[iv 0]] true)]) (wR 5 1005 (Qk rfl rfl) (kS rfl rfl) rfl) (aw_rfunc 900 [(1005,.cells 26 2 [cS2 b] true),(6,.cells 3 1 [[iv (0)]] true),(7,.cells 41 1 [[iv 0]] true)] [(1005,.cells 26 2 [cS2 b] true),(6,.cells 3 1 [[iv (Xt (ms.take q))]] true),(7,.cells 41 1 [[iv 0]] true)] (.inr ⟨rfl,rfl⟩) rfl (by kernel_rfl) rfl rfl rfl (.cons rfl (.cons rfl (.cons rfl (.nil)))) rfl rfl rfl rfl (fun r0 hrec=>⟨{ r0 with state:=.done,pending:=some .ret },(by intro h; cases h),rfl,jr54_s ms hl b (spn_ok h0).1 q mq hq hst hns r0 hrec⟩) (gP 0 rfl ?_)))))))))
 exact rQ
theorem jr9 (ms:List Mv) (hl:ms.length<=4611686018427387904) (a b:Sp):FC Tryz.prog 9 [mvs ms,aS a,aS b] [] (.tup [iv (rsS ms a b).1,iv (rsS ms a b).2]) [] false:=by
 by_cases h0:spnS ms a b=0
 ·have e:rsS ms a b=Jh b.1 0 ms:=if_pos h0
  rw [e]
  rcases rsGo_cases b.1 ms 0 with ⟨h1,h2⟩ | ⟨k,m,h1,h2,h3,h4⟩
  ·rw [h1]
   exact jr9_n ms hl a b h0 fun k m hk=>by have:=h2 k m hk; omega
  ·rw [h4,Int.zero_add]
   exact jr9_s ms hl a b h0 k m h1 (by omega) fun j hj m' hm'=>by have:=h3 j hj m' hm'; omega
 ·rw [show rsS ms a b=(0,spnS ms a b) from if_neg h0]
  exact jr9_0 ms hl a b h0
end Go.Proofs.YthmbjgnjfjjibaaGreatDoor
namespace Go.Proofs.YthmbjgnjfjjibaaGreatDoor
open Go.RowKit
set_option maxRecDepth 100000
theorem aw_cutw {P:Program} {N:Nat} {Z:List Nat} {rn:Option Nat} {Q:Post} {F F0:Fr} {H H0:Hp} {x y:MC} (h1:AW P N Z rn x (fun e F' H'=>e = .normal/\Weak N Z F' H' F0 H0) F H) (h2:AW P N Z rn y Q F0 H0):AW P N Z rn (.seq x y) Q F H :=
 aw_seq (XG h1 fun e F' H' ⟨he,hw⟩=>by subst he; exact QC hw h2)
theorem rsGo_y {lo b:Int} {x:Mv} {l:List Mv} (h:b+Q9 x>lo):Jh lo b (x::l)=(b,0):=if_pos h
theorem rsGo_n {lo b:Int} {x:Mv} {l:List Mv} (h:¬ b+Q9 x>lo):Jh lo b (x::l)=Jh lo (b+Q9 x) l:=if_neg h
theorem sumM_cons (x:Mv) (l:List Mv):Xt (x::l)=Q9 x+Xt l:=by simp [Xt]
theorem rsGo_ge (lo:Int):∀ (l:List Mv) (b:Int),(Jh lo b l).2=0->b<=(Jh lo b l).1
 | [],b,h=>by cases h
 | x::l,b,h=>by
  have hs:=Xx x
  by_cases h1:b+Q9 x>lo
  ·rw [rsGo_y h1]; exact Int.le_refl _
  ·rw [rsGo_n h1] at h ⊢
   have:=rsGo_ge lo l _ h
   omega
theorem rsGo_top (lo:Int):∀ (l:List Mv) (b:Int),(Jh lo b l).2=0->(Jh lo b l).1<=b+Xt l
 | [],b,h=>by cases h
 | x::l,b,h=>by
  have hs:=Xx x
  have hr:=sumM_range l
  rw [sumM_cons]
  by_cases h1:b+Q9 x>lo
  ·rw [rsGo_y h1]; show b<=_; omega
  ·rw [rsGo_n h1] at h ⊢
   have:=rsGo_top lo l _ h
   omega
theorem rsGo_lo (lo:Int):∀ (l:List Mv) (b:Int),b<=lo->(Jh lo b l).2=0->(Jh lo b l).1<=lo
 | [],b,_,h=>by cases h
 | x::l,b,hb,h=>by
  by_cases h1:b+Q9 x>lo
  ·rw [rsGo_y h1]; exact hb
  ·rw [rsGo_n h1] at h ⊢
   exact rsGo_lo lo l _ (by omega) h
theorem rsGo_done (lo:Int):∀ (l:List Mv) (b:Int),b<=lo->(Jh lo b l).2≠0->Jh lo b l=(0,43)/\b+Xt l<=lo
 | [],b,hb,_=>⟨rfl,by show b+0<=lo; omega⟩
 | x::l,b,hb,h=>by
  by_cases h1:b+Q9 x>lo
  ·rw [rsGo_y h1] at h; exact absurd rfl h
  ·rw [rsGo_n h1] at h ⊢
   obtain ⟨e1,e2⟩:=rsGo_done lo l _ (by omega) h
   rw [sumM_cons]
   exact ⟨e1,by omega⟩
theorem rsGo_less {lo lo':Int} (hlo:lo'<=lo):∀ (l:List Mv) (b:Int),(Jh lo b l).2=0->(Jh lo' b l).2=0/\(Jh lo' b l).1<=(Jh lo b l).1
 | [],b,h=>by cases h
 | x::l,b,h=>by
  by_cases h1:b+Q9 x>lo'
  ·rw [rsGo_y h1]
   exact ⟨rfl,rsGo_ge lo _ _ h⟩
  ·rw [rsGo_n h1,rsGo_n (by omega)] at *
   exact rsGo_less hlo l _ h
theorem fGo_ok:∀ (l:List Mv) (s:Int) (k:Nat),l≠[]->s<=Xt l->∃ a i,fGo s l k=(a,i,true)/\(s<=0->i<=0)/\(0<=s->0<=i)
 | [],s,k,h,_=>absurd rfl h
 | x::l,s,k,_,h=>by
  have hs:=Xx x
  rw [sumM_cons] at h
  by_cases h1:s<=Q9 x
  ·exact ⟨k,s,if_pos h1,id,id⟩
  ·obtain ⟨a,i,e1,e2,e3⟩:=fGo_ok l (s-Q9 x) (k+1) (by rintro rfl; have:Xt []=0:=rfl; omega) (by omega)
   exact ⟨a,i,(if_neg h1).trans e1,fun h=>by omega,fun h=>e3 (by omega)⟩
variable {ms:List Mv}
theorem spn_fit {a b:Sp} (h:X8 ms=0) (a1:0<=a.1) (a2:a.1<=a.2) (a3:a.2<=QI ms) (b1:0<=b.1) (b2:b.1<=b.2) (b3:b.2<=a.2):rsS ms a b=Jh b.1 0 ms:=by
 have e:spnS ms a b=0:=by
  unfold spnS
  rw [if_pos h,if_pos ⟨fit_t a1 a2 a3,fit_t b1 b2 (by omega),b3⟩]
 exact if_pos e
theorem law_case (hck:X8 ms=0) (hne:ms≠[]) (n0 n1 n2 n3:Int) {a b:Sp} (hab:spsS (QI ms) n0 n1 n2 n3=(a,b)) :
  (0<=a.1/\a.1<=a.2/\a.2<=QI ms/\0<=b.1/\b.1<=b.2/\b.2<=a.2) ∧
  ((rsS ms a b=(0,43)/\b.1=QI ms) ∨
   ∃ q k i less,rsS ms a b=(q,0)/\fndS ms q=(k,i,true)/\q<=b.1/\(i=0\/q>0)/\rsS ms (0,a.2) (b.1.tdiv 2,b.2)=(less,0)/\less<=q/\0<=q/\q<=1000000):=by
 have hp:=pstep_range ms
 have e0:=QT n0 (QI ms+1) (by omega)
 have e1:=QT n1 7 (by omega)
 have e2:=QT n2 9 (by omega)
 have e3:=QT n3 (min (QI ms) (Xd n0 (QI ms+1)+Xd n1 7)-max 0 (Xd n0 (QI ms+1)-Xd n2 9)+1) (by omega)
 have ha:a=(Xd n0 (QI ms+1),min (QI ms) (Xd n0 (QI ms+1)+Xd n1 7)):=(congrArg Prod.fst hab).symm
 have hb:b=(max 0 (Xd n0 (QI ms+1)-Xd n2 9),max 0 (Xd n0 (QI ms+1)-Xd n2 9)+Xd n3 (min (QI ms) (Xd n0 (QI ms+1)+Xd n1 7)-max 0 (Xd n0 (QI ms+1)-Xd n2 9)+1)):=(congrArg Prod.snd hab).symm
 have a1:0<=a.1:=by rw [ha]; exact e0.1
 have a2:a.1<=a.2:=by rw [ha]; show _<=min _ _; omega
 have a3:a.2<=QI ms:=by rw [ha]; show min _ _<=_; omega
 have b1:0<=b.1:=by rw [hb]; show 0<=max _ _; omega
 have b2:b.1<=b.2:=by rw [hb]; show max _ _<=max _ _+_; omega
 have b3:b.2<=a.2:=by rw [ha,hb]; show max _ _+_<=min _ _; omega
 have hst:QI ms=Xt ms:=if_pos hck
 refine ⟨⟨a1,a2,a3,b1,b2,b3⟩,?_⟩
 have t2:b.1.tdiv 2=b.1 / 2:=Int.tdiv_eq_ediv_of_nonneg b1
 rw [spn_fit hck a1 a2 a3 b1 b2 b3,spn_fit (a:=(0,a.2)) (b:=(b.1.tdiv 2,b.2)) hck (Int.le_refl 0) (show 0<=a.2 by omega) a3 (show 0<=b.1.tdiv 2 by omega) (show b.1.tdiv 2<=b.2 by omega) b3]
 show (_\/∃ q k i less,_/\_/\_/\_/\Jh (b.1.tdiv 2) 0 ms=_/\_)
 by_cases h:(Jh b.1 0 ms).2=0
 ·right
  obtain ⟨l1,l2⟩:=rsGo_less (lo':=b.1.tdiv 2) (lo:=b.1) (by omega) ms 0 h
  have t:=rsGo_top b.1 ms 0 h
  have g:=rsGo_ge b.1 ms 0 h
  have o:=rsGo_lo b.1 ms 0 b1 h
  obtain ⟨k,i,f1,f2,f3⟩:=fGo_ok ms (Jh b.1 0 ms).1 0 hne (by omega)
  refine ⟨(Jh b.1 0 ms).1,k,i,(Jh (b.1.tdiv 2) 0 ms).1,Prod.ext rfl h,?_,o,?_,Prod.ext rfl l1,l2,g,by omega⟩
  ·rw [fnd_2 hck (by omega)]; exact f1
  ·by_cases hq:(Jh b.1 0 ms).1>0
   ·exact .inr hq
   ·exact .inl (by have:=f2 (by omega); have:=f3 g; omega)
 ·left
  obtain ⟨d1,d2⟩:=rsGo_done b.1 ms 0 b1 h
  exact ⟨d1,by omega⟩
def l3 (ms od:List Mv):Nat->List Mv
 | 0=>ms
 | 1=>od
 | _=>[]
abbrev cS4 (x:Sp×Sp):List AV:=[iv x.1.1,iv x.1.2,iv x.2.1,iv x.2.2]
def mch3:MC:=(sq [oN 5 (.box 23 3 1) [],oN 6 (.box 24 4 2) [],oN 7 (.box 27 4 3) [],oN 8 (.mv (.c (.bool false))) []] (sq [oQ 29 4 [] [],oM 9 29 [0,0,0]] (sq [oM 30 0 [],oM 31 0 [],oE 32 31 [1],oN 33 (.mn 32 (cI 5)) [2],oN 34 (.slc 1 30 none (some 33)) [0,3],oQ 35 5 [34] [4],oM 10 35 (5::5::up 6)] (sq [oN 36 (.bslice 34 11 (iz 11) 0 []) [],oM 37 10 [],oN 38 (.app 34 11 88 (iz 11) 36 37) [0,1],oM 11 38 [2,2,0,1,2]] (.seq (sq [oM 39 11 [],oE 40 39 [0],oB 41 .gtr 40 (cI 0) [1]] (.cond 41 (dg [oM 42 11 [],oN 43 (.ixarr 3 1 5 (cI 1)) [],oD 44 1 43 [1],oM 45 11 [],oE 46 45 [3],oQ 47 7 [44,46] [2,4],oM 48 11 [],oN 49 (.ixarr 3 1 5 (cI 1)) [],oD 50 1 49 [7],oM 51 11 [],oE 52 51 [9],oQ 53 7 [50,52] [8,10,5],oX 54 11 48 53 [6,11],oL 55 11 54 [12],oL 56 3 5 [],oQ 57 6 [55,56] [13,14,11],oX 58 11 42 47 (0::5::up 16),oS 11 58 57 (16::15::15::up 16)]) .skip)) (sq [oM 60 10 [],oL 61 4 6 [],oQ 62 8 [60,61] [0,1],oM 59 62 [2],oN 63 (.ext 59 0) [3],oN 64 (.ext 59 1) [3],oN 12 (.alloc 26 2 (iz 2)) [],oN 13 (.alloc 26 2 (iz 2)) [],oS 2 12 63 [6,4,2,0,1,2,3,4,6,7],oS 2 13 64 (7::5::8::up 9)] (.seq (sq [oM 65 10 [],oM 66 11 [],oN 67 (.bslice 29 1 [.nils] 3 [(0,65),(1,66),(2,(.c .nils))]) [0,1],oE 68 67 [2],oN 69 (.mv (cI 0)) []] (.block 0 (.loop (sq [oB 70 .lss 69 68 []] (.seq (.cond 70 .skip (.exit 0)) (.seq (.block 1 (sq [oX 71 1 67 69 [],oD 72 1 71 [0],oM 15 72 [1,0,1]] (sq [oL 73 2 12 [],oL 74 2 13 [],oN 75 (.build (iz 4) [(0,2,73),(2,2,74)]) [0,1],oL 76 2 12 [],oN 77 (.ixarr 2 2 7 (cI 1)) [],oL 78 2 77 [4],oN 79 (.build (iz 4) [(0,2,76),(2,2,78)]) [3,5],oN 80 (.ixarr 2 2 7 (cI 0)) [],oL 81 2 80 [7],oL 82 2 13 [],oN 83 (.build (iz 4) [(0,2,81),(2,2,82)]) [8,9],oL 84 4 7 [],oN 85 (.bslice 27 4 (iz 4) 4 [(0,75),(1,79),(2,83),(3,84)]) [2,6,10,11],oE 86 85 [12],oN 87 (.mv (cI 0)) []] (.block 2 (.loop (sq [oB 88 .lss 87 86 []] (.seq (.cond 88 .skip (.exit 2)) (.seq (.block 3 (sq [oX 89 4 85 87 [],oL 90 4 89 [0],oN 17 (.alloc 27 4 (iz 4)) [],oS 4 17 90 [2,1,0,1,2]] (sq [oM 92 15 [],oN 93 (.ixarr 2 2 17 (cI 0)) [],oL 94 2 93 [1],oN 95 (.ixarr 2 2 17 (cI 1)) [],oL 96 2 95 [3],oQ 97 9 [92,94,96] [0,2,4],oM 91 97 [5],oN 98 (.ext 91 0) [6],oN 99 (.ext 91 1) [6],oM 18 98 (7::5::up 8),oM 19 99 (8::9::up 10)] (sq [oM 101 15 [],oN 102 (.ixarr 2 2 17 (cI 0)) [],oL 103 2 102 [1],oN 104 (.ixarr 2 2 17 (cI 1)) [],oL 105 2 104 [3],oQ 106 10 [101,103,105] [0,2,4],oM 100 106 [5],oN 107 (.ext 100 0) [6],oN 108 (.ext 100 1) [6],oM 20 107 (7::5::up 8),oM 21 108 (8::9::up 10)] (sq [oM 109 18 [],oM 110 20 [],oB 111 .neq 109 110 [0,1],oM 112 111 [2],pM 113 19 112 false [3],pM 114 21 112 false [3],oG 115 (.bin .neq 113 114) 112 false [4,5,3],oN 116 (.pick 112 (.c (.bool true)) 115) [3,6]] (.cond 116 (sq [oN 8 (.mv (.c (.bool false))) []] .ret) .skip)))))) (rg [oB 117 .add 87 (cI 1) [],oM 87 117 [0]]))))))))) (rg [oB 118 .add 69 (cI 1) [],oM 69 118 [0]]))))))) (sq [oM 120 10 [],oL 121 2 12 [],oL 122 2 13 [],oQ 123 9 [120,121,122] [0,1,2],oM 119 123 [3],oN 124 (.ext 119 0) [4],oN 125 (.ext 119 1) [4],oM 22 124 (5::3::up 6),oM 23 125 (6::7::up 8)] (.seq (sq [oM 126 23 [],oB 127 .neq 126 (cI 0) [0]] (.cond 127 (dq [oM 128 9 [],oM 129 128 [0],pM 130 23 129 true [1],oG 131 (.bin .eql 130 (cI 43)) 129 true [2,1],oN 132 (.pick 129 131 (.c (.bool false))) [1,3],oM 133 132 [4,1],pA 134 0 13 133 true [5],pD 135 1 134 133 true [6,5],pM 136 10 133 true [5],oG 137 (.call 11 [136]) 133 true [8,5,5],oG 138 (.bin .eql 135 137) 133 true [7,9,5],oN 139 (.pick 133 138 (.c (.bool false))) [5,10],oM 8 139 (11::9::up 12)] .ret) .skip)) (sq [oM 141 10 [],oM 142 22 [],oQ 143 12 [141,142] [0,1],oM 140 143 [2],oN 144 (.ext 140 0) [3],oN 145 (.ext 140 1) [3],oN 146 (.ext 140 2) [3],oM 24 144 (4::2::up 5),oM 25 145 [5,7,0,1,2,3,4,5,7],oM 26 146 (6::8::up 9)] (dq [oM 148 10 [],oA 149 1 12 [],oD 150 1 149 [1],oQ 151 13 [(cI 0),150] [2],oA 152 0 13 [],oD 153 1 152 [4],oB 154 .quo 153 (cI 2) [5],oA 155 1 13 [],oD 156 1 155 [7],oQ 157 13 [154,156] [6,8,3],oQ 158 9 [148,151,157] [0,3,9,9],oM 147 158 [10],oN 159 (.ext 147 0) [11],oN 160 (.ext 147 1) [11],oM 27 159 (12::10::up 13),oM 28 160 (13::14::up 15)] (sq [oM 161 9 [],oM 162 161 [0],pM 163 26 162 true [1],oN 164 (.pick 162 163 (.c (.bool false))) [1,2],oM 165 164 [3,1],pM 166 22 165 true [4],pA 167 0 13 165 true [4],pD 168 1 167 165 true [6,4],oG 169 (.bin .leq 166 168) 165 true [5,7,4],oN 170 (.pick 165 169 (.c (.bool false))) [4,8],oM 171 170 [9,4],pM 172 25 171 true [10],oG 173 (.bin .eql 172 (cI 0)) 171 true [11,10],pM 174 173 171 true [12,10,10],pM 175 22 174 false [13],oG 176 (.bin .gtr 175 (cI 0)) 174 false [14,13],oG 177 (.pick 174 (.c (.bool true)) 176) 171 true [13,15,10],oN 178 (.pick 171 177 (.c (.bool false))) [10,16],oM 179 178 [17,13],pM 180 28 179 true [18],oG 181 (.bin .eql 180 (cI 0)) 179 true [19,18],oN 182 (.pick 179 181 (.c (.bool false))) [18,20],oM 183 182 [21,18],pM 184 27 183 true [22],pM 185 22 183 true [22],oG 186 (.bin .leq 184 185) 183 true [23,24,22],oN 187 (.pick 183 186 (.c (.bool false))) [22,25],oM 8 187 (26::22::up 27)] .ret))))))))))))
theorem mcOkh3:(match Tryz.f3.body with | some c=>Qq Tryz.prog 188 c | none=>none)=some mch3:=by kernel_rfl
set_option maxHeartbeats 4000000 in
theorem ju3 (ls:List (List Int)) (hls:∀ L∈ls,L.length<=4611686018427387904) (hl:ls.length<=4611686018427387904) (q0 q1 q2 n0 n1 n2 n3:Int) (w0 w1:Sp):FC Tryz.prog 3 [.rs 1 (ls.map cL),.agg [iv q0,iv q1,iv q2],.agg [iv n0,iv n1,iv n2,iv n3],.agg [iv w0.1,iv w0.2,iv w1.1,iv w1.2]] Gid (.bool true) Gid true:=by
 have h35:=gc35 (ls.take 5) (fun L h=>hls L (List.mem_of_mem_take h)) (by rw [List.length_take]; omega)
 have hck:=pthS_ok (ls.take 5)
 have hln:=pthS_len (ls.take 5)
 generalize pthS (ls.take 5)=ms at h35 hck hln
 have hl6:ms.length<=4611686018427387904:=by omega
 have hmod:=QT q1 (ms.length:Int) (by omega)
 obtain ⟨i,hi⟩:∃ i:Nat,Xd q1 (ms.length:Int)=(i:Int):=⟨_,(Int.toNat_of_nonneg hmod.1).symm⟩
 have h16:=fc16 q1 (ms.length:Int) (by omega)
 rw [hi] at h16 hmod
 obtain ⟨mi,hmi,_⟩:=Q8 (L:=ms) (k:=i) (by omega)
 have h8:=jr8 ms hl6 n0 n1 n2 n3
 obtain ⟨a,b,hab⟩:∃ a b,spsS (QI ms) n0 n1 n2 n3=(a,b):=⟨_,_,rfl⟩
 rw [hab] at h8
 obtain ⟨⟨a1,a2,a3,b1,b2,b3⟩,hcase⟩:=law_case hck (by rintro rfl; simp at hln) n0 n1 n2 n3 hab
 have hp:=pstep_range ms
 have hodl:(ms.set i (XV mi q0 q1 q2)).length=ms.length:=List.length_set
 have hl3:∀ k,(l3 ms (ms.set i (XV mi q0 q1 q2)) k).length<=4611686018427387904:=fun k=>by
  match k with
  | 0=>exact hl6
  | 1=>show (ms.set i (XV mi q0 q1 q2)).length<=_; omega
  | _+2=>exact Nat.zero_le _
 refine Qh (nt:=188) Tryz.func3 rfl rfl mcOkh3 (nL rfl) ?_
 delta mch3
 refine gA 9 rfl (X0 Gid rfl rfl (js4) (.nil) (.cons rfl (.nil)) rfl rfl rfl (gR 6 rfl (Q1 rfl rfl (gR 0 rfl (rs_mn rfl rfl rfl rfl (gR 0 rfl (rs_slc_r (l:=0) (q:=min (ls.length:Int) 5) (els':=(ls.take 5).map cL) rfl rfl rfl rfl rfl (by omega) (by omega) (by simp; omega) (by rw [show (min (ls.length:Int) 5).toNat=min ls.length 5 by omega]; simp [List.take_eq_take_min,Nat.min_comm]) (gR 0 rfl (clO rfl (h35) rfl (gR 4 rfl (XN (l:=[]) (els:=[]) (fl:=true) rfl rfl rfl rfl rfl rfl ?_)))))))))))
 refine gR 1 rfl (rs_app_e (ys:=ms) (f:=cM) (n:=ms.length) (rd:=[]) rfl rfl rfl rfl rfl rfl rfl (by simp) (fun _=>rfl) rfl (by omega) (by omega) (fun _=>rfl) (gR 6 rfl (rs_len_s rfl rfl (gR 0 rfl (QZ rfl rfl rfl rfl (by omega) (gR 4 rfl (Qx rfl rfl rfl (by decide) (by decide) (gR 2 rfl (rs_len_s rfl rfl (gR 0 rfl (cN rfl rfl (h16) ?_)))))))))))
 refine gR 1 rfl (Qx rfl rfl rfl (by decide) (by decide) (gR 2 rfl (rs_len_s rfl rfl (gR 0 rfl (cN rfl rfl (h16) (gR 0 rfl (rs_ix_sm (t:=i) rfl rfl rfl rfl (by omega) (gR 0 rfl (rs_ld_ga (f:=cM) (xs:=ms) (y:=mi) rfl rfl rfl hmi (nL rfl) rfl (gR 0 rfl (Q2 (cs:=[iv q0,iv q1,iv q2]) rfl rfl rfl rfl (nL rfl) rfl ?_)))))))))))
 refine gR 0 rfl (cN rfl rfl (fc11 mi q0 q1 q2) (gR 0 rfl (rs_ix_sm (t:=i) rfl rfl rfl rfl (by omega) (gR 0 rfl (rs_st_m (t:=i) (v:=XV mi q0 q1 q2) (fl':=true) rfl rfl rfl rfl (by omega) rfl rfl (nL rfl) rfl rfl (gR 0 rfl (Xa (by kernel_rfl) (gP 1 rfl (QC (F0:=[(8,.bool false),(9,.bool true),(10,mvs ms),(11,mvs (ms.set i (XV mi q0 q1 q2))),(6,.ptr 6 0 0),(7,.ptr 7 0 0)]) (H0:=[(5000000,.glob 0 idn),(6,.cells 24 4 [[iv n0,iv n1,iv n2,iv n3]] true),(7,.cells 27 4 [[iv w0.1,iv w0.2,iv w1.1,iv w1.2]] true)]) (Qf (.cs (.cs (.cs (.cons rfl (rc_frz rfl rfl hodl (fun _=>rfl)) (.cs (.cs (.nil))))))) (kS rfl rfl) ((fun i hi=>by simp [Qa,Gid] at hi ⊢; omega))) (gK 2 rfl (Q2 (cs:=[iv n0,iv n1,iv n2,iv n3]) rfl rfl rfl rfl (nL rfl) rfl ?_)))))))))))
 refine gR 0 rfl (cN rfl rfl (h8) (gR 13 rfl (XN (l:=[mvs ms,mvs (ms.set i (XV mi q0 q1 q2)),.nils]) (els:=[[mvs ms],[mvs (ms.set i (XV mi q0 q1 q2))],[.nils]]) (fl:=true) rfl rfl rfl rfl rfl rfl (gR 0 rfl (rs_len_s rfl rfl (gR 3 rfl ?_))))))
 refine Xv (α:=Nat) (fun k=>3-k) (fun k=>[(8,.bool false),(9,.bool true),(10,mvs ms),(12,.ptr 12 0 0),(13,.ptr 13 0 0),(7,.ptr 7 0 0),(67,.sl 67 0 3),(68,iv 3),(69,iv (((k):Nat):Int))]) (fun k=>[(5000000,.glob 0 idn),(7,.cells 27 4 [[iv w0.1,iv w0.2,iv w1.1,iv w1.2]] true),(12,.cells 26 2 [cS2 a] true),(13,.cells 26 2 [cS2 b] true),(67,.cells 29 1 [[mvs ms],[mvs (ms.set i (XV mi q0 q1 q2))],[.nils]] true)]) (fun k=>k<=3) 0 (by omega)
  (Qf (Qk rfl rfl) (kS rfl rfl) ((fun i hi=>by simp [Qa,Gid] at hi ⊢; omega))) ?_
 intro k hk
 refine gT 5 rfl (Qc rfl (fun h70=>?_) (fun h70=>?_))
 ·refine gK 3 rfl (aw_cutw (F0:=[(8,.bool false),(9,.bool true),(10,mvs ms),(12,.ptr 12 0 0),(13,.ptr 13 0 0),(7,.ptr 7 0 0),(67,.sl 67 0 3),(68,iv 3),(69,iv (((k):Nat):Int)),(15,mvs (l3 ms (ms.set i (XV mi q0 q1 q2)) k))]) (H0:=[(5000000,.glob 0 idn),(7,.cells 27 4 [[iv w0.1,iv w0.2,iv w1.1,iv w1.2]] true),(12,.cells 26 2 [cS2 a] true),(13,.cells 26 2 [cS2 b] true),(67,.cells 29 1 [[mvs ms],[mvs (ms.set i (XV mi q0 q1 q2))],[.nils]] true)]) ?_ ?_)
  ·skip
   refine gA 1 rfl (rs_ix_s rfl rfl rfl rfl (by omega) (by omega) ?_)
   obtain rfl | rfl | rfl:k=0\/k=1\/k=2:=by omega
   ·skip
    refine gR 3 rfl ?_
    exact Q5 <| ⟨rfl,Qf (.cs (.cs (.cs (.cs (.cs (.cs (.cs (.cs (.cs (.cons rfl ((by first | exact Xq rfl (.inl rfl) | exact rc_nils)) (.nil))))))))))) (kS rfl rfl) ((fun i hi=>by simp [Qa,Gid] at hi ⊢; omega))⟩
   ·skip
    refine gR 3 rfl ?_
    exact Q5 <| ⟨rfl,Qf (.cs (.cs (.cs (.cs (.cs (.cs (.cs (.cs (.cs (.cons rfl ((by first | exact Xq rfl (.inl rfl) | exact rc_nils)) (.nil))))))))))) (kS rfl rfl) ((fun i hi=>by simp [Qa,Gid] at hi ⊢; omega))⟩
   ·skip
    refine gR 3 rfl ?_
    exact Q5 <| ⟨rfl,Qf (.cs (.cs (.cs (.cs (.cs (.cs (.cs (.cs (.cs (.cons rfl ((by first | exact Xq rfl (.inl rfl) | exact rc_nils)) (.nil))))))))))) (kS rfl rfl) ((fun i hi=>by simp [Qa,Gid] at hi ⊢; omega))⟩
  ·skip
   refine gK 2 rfl (Q2 (cs:=cS2 a) rfl rfl rfl rfl (nL rfl) rfl (gR 0 rfl (Q2 (cs:=cS2 b) rfl rfl rfl rfl (nL rfl) rfl (gR 0 rfl (rs_build (cs:=cS4 (a,b)) rfl rfl (gR 0 rfl (Q2 (cs:=cS2 a) rfl rfl rfl rfl (nL rfl) rfl (gR 0 rfl (Qx rfl rfl rfl (by decide) (by decide) (gR 0 rfl (Q2 (cs:=cS2 w1) rfl rfl rfl rfl (nL rfl) rfl ?_)))))))))))
   refine gR 0 rfl (rs_build (cs:=cS4 (a,w1)) rfl rfl (gR 0 rfl (Qx rfl rfl rfl (by decide) (by decide) (gR 0 rfl (Q2 (cs:=cS2 w0) rfl rfl rfl rfl (nL rfl) rfl (gR 0 rfl (Q2 (cs:=cS2 b) rfl rfl rfl rfl (nL rfl) rfl (gR 0 rfl (rs_build (cs:=cS4 (w0,b)) rfl rfl (gR 0 rfl (Q2 (cs:=cS4 (w0,w1)) rfl rfl rfl rfl (nL rfl) rfl ?_)))))))))))
   refine gR 0 rfl (bM cS4 (([(a,b),(a,w1),(w0,b),(w0,w1)]:List (Sp×Sp))) (by kernel_rfl) (gR 0 rfl (rs_len_s rfl rfl (gR 3 rfl ?_))))
   refine Xv (α:=Nat) (fun j=>4-j) (fun j=>[(8,.bool false),(9,.bool true),(10,mvs ms),(12,.ptr 12 0 0),(13,.ptr 13 0 0),(7,.ptr 7 0 0),(67,.sl 67 0 3),(68,iv 3),(69,iv (((k):Nat):Int)),(15,mvs (l3 ms (ms.set i (XV mi q0 q1 q2)) k)),(85,.sl 85 0 4),(86,iv 4),(87,iv (((j):Nat):Int))]) (fun j=>[(5000000,.glob 0 idn),(7,.cells 27 4 [[iv w0.1,iv w0.2,iv w1.1,iv w1.2]] true),(12,.cells 26 2 [cS2 a] true),(13,.cells 26 2 [cS2 b] true),(67,.cells 29 1 [[mvs ms],[mvs (ms.set i (XV mi q0 q1 q2))],[.nils]] true),(85,.cells 27 4 (([(a,b),(a,w1),(w0,b),(w0,w1)]:List (Sp×Sp)).map cS4) true)]) (fun j=>j<=4) 0 (by omega)
    (Qf (Qk rfl rfl) (kS rfl rfl) ((fun i hi=>by simp [Qa,Gid] at hi ⊢; omega))) ?_
   intro j hj
   refine gT 5 rfl (Qc rfl (fun h88=>?_) (fun h88=>?_))
   ·refine gK 5 rfl ?_
    obtain ⟨x,hx,hxm⟩:=Q8 (L:=([(a,b),(a,w1),(w0,b),(w0,w1)]:List (Sp×Sp))) (k:=j) (by show j<4; omega)
    refine rs_ix_sm (t:=j) rfl rfl rfl rfl (by omega) (gR 0 rfl (rs_ld_ga (f:=cS4) (xs:=([(a,b),(a,w1),(w0,b),(w0,w1)]:List (Sp×Sp))) (y:=x) rfl rfl rfl hx (nL rfl) rfl (gR 6 rfl (Qx rfl rfl rfl (by decide) (by decide) (gR 0 rfl (Q2 (cs:=cS2 x.1) rfl rfl rfl rfl (nL rfl) rfl (gR 0 rfl (Qx rfl rfl rfl (by decide) (by decide) (gR 0 rfl (Q2 (cs:=cS2 x.2) rfl rfl rfl rfl (nL rfl) rfl (gR 0 rfl ?_)))))))))))
    refine cN rfl rfl (jr9 (l3 ms (ms.set i (XV mi q0 q1 q2)) k) (hl3 k) x.1 x.2) (gR 9 rfl (Qx rfl rfl rfl (by decide) (by decide) (gR 0 rfl (Q2 (cs:=cS2 x.1) rfl rfl rfl rfl (nL rfl) rfl (gR 0 rfl (Qx rfl rfl rfl (by decide) (by decide) (gR 0 rfl (Q2 (cs:=cS2 x.2) rfl rfl rfl rfl (nL rfl) rfl (gR 0 rfl (cN rfl rfl (jr10 (l3 ms (ms.set i (XV mi q0 q1 q2)) k) (hl3 k) x.1 x.2) (gR 10 rfl ?_)))))))))))
    refine Xo rfl rfl rfl rfl (fun h=>h rfl) (gR 3 rfl (Xo rfl rfl rfl rfl (fun h=>h rfl) (gR 5 rfl (Qm rfl rfl rfl (by omega) (gR 2 rfl ?_)))))
    exact X9 <| ⟨j+1,by omega,by omega,Qf (Qk rfl rfl) (kS rfl rfl) ((fun i hi=>by simp [Qa,Gid] at hi ⊢; omega))⟩
   ·refine gK 2 rfl (Qm rfl rfl rfl (by omega) (gR 2 rfl ?_))
    obtain rfl:j=4:=by omega
    exact X9 <| ⟨k+1,by omega,by omega,Qf (Qk rfl rfl) (kS rfl rfl) ((fun i hi=>by simp [Qa,Gid] at hi ⊢; omega))⟩
 ·refine gK 2 rfl ?_
  obtain rfl:k=3:=by omega
  refine QC (F0:=[(8,.bool false),(9,.bool true),(10,mvs ms),(12,.ptr 12 0 0),(13,.ptr 13 0 0)]) (H0:=[(5000000,.glob 0 idn),(12,.cells 26 2 [cS2 a] true),(13,.cells 26 2 [cS2 b] true)]) (Qf (Qk rfl rfl) (kS rfl rfl) ((fun i hi=>by simp [Qa,Gid] at hi ⊢; omega))) (gK 2 rfl (Q2 (cs:=cS2 a) rfl rfl rfl rfl (nL rfl) rfl (gR 0 rfl (Q2 (cs:=cS2 b) rfl rfl rfl rfl (nL rfl) rfl ?_))))
  rcases hcase with ⟨h9,hb⟩ | ⟨q,kk,ii,less,h9,hfn,hqb,hiq,hrs,hle,hq0,hq1⟩
  ·have h9c:=jr9 ms hl6 a b
   rw [h9] at h9c
   dsimp only at h9c
   refine gR 0 rfl (cN rfl rfl (h9c) (gR 10 rfl (QZ rfl rfl rfl rfl (by decide) (gR 7 rfl (QZ rfl rfl rfl rfl rfl (gR 5 rfl (cN rfl rfl (gc38 ms hl6) (gR 0 rfl (QZ rfl rfl rfl rfl hb (gR 2 rfl (Xa (by kernel_rfl) ?_)))))))))))
   refine gP 1 rfl ?_
   exact Q5 <| ret_own rfl sm (kS rfl rfl) (.dead rfl rfl .nil)
  ·have h9c:=jr9 ms hl6 a b
   rw [h9] at h9c
   have h12:=jr12 ms hl6 q hq1
   rw [hfn] at h12
   have h9b:=jr9 ms hl6 (0,a.2) (b.1.tdiv 2,b.2)
   rw [hrs] at h9b
   dsimp only at h9c h12 h9b
   refine gR 0 rfl (cN rfl rfl (h9c) (gR 10 rfl (Xo rfl rfl rfl rfl (fun h=>h rfl) (gR 7 rfl (cN rfl rfl (h12) (gR 13 rfl (cN rfl rfl (js13 0 a.2) (gR 2 rfl (XC (c:=b.1.tdiv 2) rfl rfl rfl (by decide) (Xe (by have:=Int.tdiv_eq_ediv_of_nonneg (b:=2) b1; omega)) (gR 2 rfl (cN rfl rfl (js13 (b.1.tdiv 2) b.2) ?_)))))))))))
   refine gR 0 rfl (cN rfl rfl (h9b) (gR 5 rfl (Xa (by kernel_rfl) (gP 10 rfl (QZ rfl rfl rfl rfl hqb (gR 3 rfl (Qz rfl rfl rfl rfl (fun h173=>?_) (fun h173=>?_))))))))
   ·skip
    refine gR 7 rfl (QZ rfl rfl rfl rfl rfl (gR 4 rfl (QZ rfl rfl rfl rfl hle (gR 4 rfl ?_))))
    exact Q5 <| ret_own rfl sm (kS rfl rfl) (.dead rfl rfl .nil)
   ·skip
    refine gR 2 rfl (QZ rfl rfl rfl rfl (by omega) (gR 4 rfl (QZ rfl rfl rfl rfl rfl (gR 4 rfl (QZ rfl rfl rfl rfl hle (gR 4 rfl ?_))))))
    exact Q5 <| ret_own rfl sm (kS rfl rfl) (.dead rfl rfl .nil)
end Go.Proofs.YthmbjgnjfjjibaaGreatDoor
namespace Go.Proofs.YthmbjgnjfjjibaaGreatDoor
open Go.RowKit Go.WideShapes Go.ChangeShapes Go.ChangeAt
set_option maxRecDepth 100000
theorem own_knob:ownKnob Tryz.prog.godebug=none:=by kernel_rfl
theorem laid_out:laidOutB Tryz.prog=true:=by kernel_rfl
abbrev laidL : List (String × DataW Unit) := [("unicode/utf8.acceptRanges", Rows.laid_unicode_utf8_acceptRanges), ("collet/turn.identity", Rows.laid_collet_turn_identity), ("unicode/utf8.first", Rows.laid_unicode_utf8_first)]
noncomputable def laidWorld (os:Go.Os):World :=
 let w0:=World.holding Tryz.prog os ⟨#[],#[],[]⟩
 let put (h:Array Obj) (g:Nat) (cs:Array Value):Array Obj:=h.modify g fun
  | .cells _ t frozen=>.cells cs t frozen
  | o=>o
 let h1 := put w0.heap ((Tryz.prog.globalNamed "unicode/utf8.first").getD 0) (Lib.firstTab.map fun z => Value.int .u8 z).toArray
 let h2 := put h1 ((Tryz.prog.globalNamed "unicode/utf8.acceptRanges").getD 0) ((List.range 16).flatMap fun i => [Value.int .u8 (Lib.accLo i), Value.int .u8 (Lib.accHi i)]).toArray
 let h3:=put h2 0 #[.int .i64 1,.int .i64 0,.int .i64 0,.int .i64 0,.int .i64 1,.int .i64 0,.int .i64 0,.int .i64 0,.int .i64 1]
 { w0 with heap:=h3 }
theorem laid_met (os:Go.Os) (args:Array Value):laidMetH Tryz.prog laidL ((laidWorld os).forCall (fun _ _=>0) ⟨#[],args,[]⟩).memory :=
 laidMetH_of_parts3 (fuel:=8) (laidMet_of_run' 8 (by kernel_rfl) (by kernel_rfl)) (by kernel_rfl) (by kernel_rfl)
theorem of_laid {W:World} (h:laidMetH Tryz.prog laidL W):CR W (Sall W) (.rp idn) (.pointer (some ⟨0,0,none⟩)):=by
 rw [MakeChecks.laidMetH_plain _ _ _ (by kernel_rfl)] at h
 obtain ⟨g0, t0, cs0, f0, p0, hg0, ht0, hv0, hd0⟩ := Go.Lib.laidMet.reads h (n := "collet/turn.identity") (d := Rows.laid_collet_turn_identity) (by simp [laidL])
 obtain rfl := Option.some.inj ((show Tryz.prog.globalNamed "collet/turn.identity" = some 0 by kernel_rfl).symm.trans hg0)
 obtain rfl:=Option.some.inj ((show (Tryz.prog.globals[0]?).map (·.type)=some 155 by kernel_rfl).symm.trans ht0)
 obtain ⟨_,hl,hc⟩:=trod_av f0 (.arr 3 (.arr 3 (.int .i64))) 155 cs0.toList (Rows.laid_collet_turn_identity,p0) (show okSh Tryz.prog (.arr 3 (.arr 3 (.int .i64))) 155=true by kernel_rfl) (fun n hn=>by
  have:DataW.weights Tryz.prog 155 (Rows.laid_collet_turn_identity:DataW Unit)=[]:=by kernel_rfl
  rw [this] at hn; cases hn) hd0
 have hcell:∀ (o:Nat) (v:AV),idn[o]?=some v->∃ c,W.cell? ⟨0,o,none⟩=some c/\c.oneCell'=true/\CR W (Sall W) v c:=fun o v hv=>by
  obtain ⟨c,h1,h2,h3⟩:=hc.2 o v hv
  refine ⟨c,?_,h2,h3⟩
  rw [World.var?_cell hg0 hv0 o]
  simpa using h1
 refine .rp idn 0 0 (fun o=>(W.cell? ⟨0,o,none⟩).getD undef) ?_ (fun o v hv=>?_) (fun o v hv=>?_)
 ·obtain ⟨c,h1,_⟩:=hcell 0 (iv 1) rfl
  exact W.block_lt_of_cell? _ h1
 ·obtain ⟨c,h1,h2,_⟩:=hcell o v hv
  rw [Nat.zero_add,h1]; exact ⟨rfl,h2⟩
 ·obtain ⟨c,h1,_,h3⟩:=hcell o v hv
  rw [h1]; exact h3
def rhoG:Rho:=fun i=>if i=5000000 then some (none,0,0) else none
theorem hrf_g {w:World} (h:CR w (Sall w) (.rp idn) (.pointer (some ⟨0,0,none⟩))):HRF w (Sall w) rhoG (get [(5000000,.glob 0 idn)]):=by
 refine ⟨fun _ h=>h,fun i hi=>?_,⟨fun i o _ ho=>?_,fun i j oi oj b z z' c c' _ _ _ hi _ hl=>?_⟩⟩
 ·simp only [get] at hi
  split at hi
  ·cases hi
  ·rename_i hne; exact if_neg fun e=>hne e.symm
 ·simp only [get] at ho
  split at ho
  ·rename_i e; subst e
   injection ho with ho; subst ho
   exact ⟨none,0,0,rfl,h⟩
  ·cases ho
 ·simp only [get] at hi
  split at hi
  ·injection hi with hi; subst hi; cases hl
  ·cases hi
theorem fc_rowG {f:FuncId} {args:List AV} {al:Bool} (h:FC Tryz.prog f args [(5000000,.glob 0 idn)] (.bool true) [(5000000,.glob 0 idn)] al) {w:World} {cargs:Array Value} (hg:CR w (Sall w) (.rp idn) (.pointer (some ⟨0,0,none⟩)))
  (ha:VRs w (Sall w) rhoG args cargs):Calls Tryz.prog f cargs w fun e w'=>e = .returned (.bool true)/\Below w.heap.size w w' :=
 (h w (Sall w) rhoG cargs (hrf_g hg) ha).mono fun e w' ⟨cv,S',ρ',he,hv,_,hk,_⟩=>by
  have hc:=hv.bool_inv
  subst hc
  refine ⟨he,hk.os,hk.tape,hk.output,hk.size,fun k hlt=>hk.block k hlt ?_⟩
  rintro ⟨i,ob,z,cap,_,h0,hl,_⟩
  simp only [get] at h0
  split at h0
  ·injection h0 with h0; subst h0; cases hl
  ·cases h0
theorem rd_i {H:Type} (d:DataW H) (h:Gd (.int .i64) d):∃ n:Int,True/\avD (.int .i64) d=ci n:=by
 obtain ⟨n,_,e⟩:=rd_int d h
 exact ⟨n,trivial,e⟩
end Go.Proofs.YthmbjgnjfjjibaaGreatDoor
namespace Go.Proofs.YthmbjgnjfjjibaaGreatDoor
open Go.RowKit Go.WideShapes Go.ChangeShapes Go.ChangeAt
set_option maxRecDepth 100000
abbrev shSp:Sh:=.st [.int .i64,.int .i64]
abbrev shs3:List Sh:=[.sl 1 (.sl 1 (.int .i64)),.arr 3 (.int .i64),.arr 4 (.int .i64),.arr 2 shSp]
theorem rd_sp {H:Type} (d:DataW H) (h:Gd shSp d):∃ s:Sp,True/\avD shSp d=cS2 s:=by
 obtain ⟨ps,g,e⟩:=rd_st d h
 obtain ⟨d0,r0,g0,g,e0⟩:=rd_cons ps g
 obtain ⟨d1,r1,g1,g,e1⟩:=rd_cons r0 g
 obtain ⟨n0,_,a0⟩:=rd_i d0 g0
 obtain ⟨n1,_,a1⟩:=rd_i d1 g1
 exact ⟨(n0,n1),trivial,by rw [e,e0,e1,rd_nil r1 g,a0,a1]; rfl⟩
theorem rd_l {H:Type} (d:DataW H) (h:Gd (.sl 1 (.int .i64)) d):∃ l:List Int,l.length<=4611686018427387904/\avD (.sl 1 (.int .i64)) d=cL l:=by
 obtain ⟨l,⟨hl,_⟩,e⟩:=rd_sl _ ci rd_i d h
 exact ⟨l,Nat.le_trans hl (by decide),e⟩
theorem args3 {H:Type} (ds:List (DataW H)) (hg:GdFs shs3 ds):FC Tryz.prog 3 (argAs shs3 ds) Gid (.bool true) Gid true:=by
 simp only [shs3,GdFs] at hg
 obtain ⟨d0,_,rfl,g0,d1,_,rfl,g1,d2,_,rfl,g2,d3,_,rfl,g3,rfl⟩:=hg
 obtain ⟨ls,⟨hl,hls⟩,e0⟩:=rd_sl _ cL rd_l d0 g0
 obtain ⟨qs,⟨hq,_⟩,e1⟩:=rd_arr _ ci rd_i d1 g1
 obtain ⟨ns,⟨hn,_⟩,e2⟩:=rd_arr _ ci rd_i d2 g2
 obtain ⟨ws,⟨hw,_⟩,e3⟩:=rd_arr _ cS2 rd_sp d3 g3
 match qs,hq,ns,hn,ws,hw with
 | [q0,q1,q2],_,[n0,n1,n2,n3],_,[w0,w1],_ =>
  have e:argAs shs3 [d0,d1,d2,d3]=[.rs 1 (ls.map cL),.agg [iv q0,iv q1,iv q2],.agg [iv n0,iv n1,iv n2,iv n3],.agg [iv w0.1,iv w0.2,iv w1.1,iv w1.2]]:=by
   simp only [argAs,shs3,argA]
   rw [e0,e1,e2,e3]
   rfl
  rw [e]
  exact ju3 ls hls (Nat.le_trans hl (by decide)) q0 q1 q2 n0 n1 n2 n3 w0 w1
theorem lifted3 (os:Go.Os) (started:os.Started) (H:Type) (enc:TypeId×Value->H) :
  ReturnsInHanded {} Tryz.checked os 3 .any (fun w args=>(Rows.retreatRestartSpec.pre enc Tryz.prog Tryz.f3 [] false w args/\laidMetH Tryz.prog laidL w)/\sizedMet enc Tryz.prog Tryz.f3 (OpenSpec.ofChange Rows.retreatRestartSpec) false w args)
   (Rows.retreatRestartSpec.post enc Tryz.prog Tryz.f3 false true false false):=by
 refine returnsInHanded_of_change_and (C:=Tryz.checked) (X:=fun w _=>laidMetH Tryz.prog laidL w) (fun _ _ _ hh h=>h.of_heap hh) own_knob started (by kernel_rfl) Tryz.func3
  (ChangeSpec.witness_shaped (enc:=enc) (C:=Tryz.checked) (os:=os) (X:=fun w _=>laidMetH Tryz.prog laidL w) false (laidWorld os) #[.slice none 0 0,.agg #[.int .i64 0,.int .i64 0,.int .i64 0],.agg #[.int .i64 0,.int .i64 0,.int .i64 0,.int .i64 0],.agg #[.int .i64 0,.int .i64 0,.int .i64 0,.int .i64 0]] 8 rfl (World.shaped_of_RefB (by kernel_rfl) (by kernel_rfl)) (by kernel_rfl) (by kernel_rfl) (by kernel_rfl) (laid_met os _)) ?_
 intro W base args ds gs before hval hW _ hsz hL _
 have hW':=hW
 obtain ⟨p,q,hA,hV,rfl,hfz,hnd⟩:=hW
 obtain ⟨rfl,rfl⟩:=trodVars_none hV
 have hw:∀ n∈DataW.weightsEach Tryz.prog Tryz.f3.params.toList ds,n<=140737488351232:=fun n hn=>by
  have hvt:Rows.retreatRestartSpec.plain.varTypes Tryz.checked.prog=[]:=by
   show DataSpec.varTypes Tryz.checked.prog Rows.retreatRestartSpec.plain=[]
   unfold DataSpec.varTypes
   simp [ChangeSpec.plain,Rows.retreatRestartSpec]
  rw [hvt] at hsz
  simp only [List.append_nil] at hsz
  have:=List.all_eq_true.1 hsz n hn
  exact (of_decide_eq_true this:n<=reachBytes)
 have hss:okShs Tryz.prog shs3 Tryz.f3.params.toList=true:=by kernel_rfl
 obtain ⟨g1,g2,g3⟩:=args_av (r:=.any) (base:=base) shs3 Tryz.f3.params.toList args.toList ds p hss hA (fun j t v h1 h2=>hval j t v (by simpa using h1) (by simpa using h2)) hw
 have hc:=args3 ds g1
 have hvr:VRs W (Sall W) rhoG (argAs shs3 ds) args:=⟨by simpa using g2.symm,fun j v hv=>.cl (by
  have hj:j<args.size:=by
   have:=(List.getElem?_eq_some_iff.1 hv).1
   rw [g2] at this; simpa using this
  have e:args.getD j undef=args[j]:=by simp [hj]
  rw [e]
  exact g3 j v _ hv (by simp [hj]))⟩
 refine (fc_rowG hc (of_laid hL) hvr).mono fun e W' ⟨he,bel⟩=>?_
 subst he
 have hln:ds.length=shs3.length:=gd_len shs3 ds g1
 have hsp:Rows.retreatRestartSpec.fn H ds={ results:=[.lit (.bool true)],args:=ds,vars:=[] }:=by
  match ds,hln with
  | [_,_,_,_],_=>rfl
 have hps:DataW.TrodAll enc Tryz.prog W' W.heap.size (fun _=>false) false Tryz.f3.resultTypes.toList ((Value.bool true).resultList Tryz.f3.resultTypes.size) [.lit (.bool true)] []:=by
  rw [show Tryz.f3.resultTypes = #[4] from rfl]
  exact trodAll_mk1 (shut_bool Tryz.underlying4 _)
 refine ⟨_,rfl,ds,[],_,[],p,[],hW',?_,?_,?_,bel.frame _,fun h=>by cases h⟩
 ·rw [List.append_nil,hsp]; exact hps
 ·rw [List.append_nil,hsp]; exact args_back laid_out bel shs3 _ _ _ _ hss hA
 ·rw [List.append_nil,hsp]; rfl
theorem row_holds:Rows.RetreatRestartSaid :=
 OpenClaim.holds_of_wide 3 Tryz.f3 rfl rfl rfl rfl rfl rfl rfl ⟨rfl,rfl,rfl,rfl,rfl⟩ rfl rfl rfl rfl rfl (by kernel_rfl) Tryz.func3 closed3
  (of_decide_eq_true (by kernel_rfl)) (by unfold Func.isWrapper; first | (rw [if_pos (by decide +kernel)]; kernel_rfl) | (rw [if_neg (by decide +kernel)]; exact ⟨rfl,rfl⟩))
  (fun os started H enc _=>lifted3 os started H enc)
theorem retreatRestart_holds:Rows.RetreatRestartCardSaid :=
 Claim7.holds_tied_plain_at .later [] [.data, .wider, .pinned] true (true, "eafa506783dbf8062268ec4e1282b25daf0c7b72812c7d7d073f632810f09048") true
  row_holds (fun _ h=>by cases h) (by kernel_rfl) (fun _ h=>by cases h) retreatRestart_row_tie rfl ⟨rfl,rfl⟩ (by kernel_rfl) rfl
  (fun f fn hf hfn=>by
   obtain rfl : f = 3 := Option.some.inj ((show Tryz.prog.funcNamed "collet/colletlaw36.RetreatRestart" = some 3 by kernel_rfl).symm.trans hf) |>.symm
   obtain rfl:fn=Tryz.f3:=(Option.some.inj (Tryz.func3.symm.trans hfn)).symm
   exact ⟨by kernel_rfl,fun j t ht=>by
    rw [Tryz.params3] at ht
    have hm:=Array.mem_of_getElem? ht
    have hall:(Tryz.f3.params.toList.all fun u => !Tryz.prog.wantsStandIn u)=true:=by kernel_rfl
    rw [Tryz.params3] at hall
    exact (show Tryz.prog.wantsStandIn t=false by simpa using List.all_eq_true.1 hall t (by simpa using hm))⟩)
  (by kernel_rfl)
#print axioms retreatRestart_holds
end Go.Proofs.YthmbjgnjfjjibaaGreatDoor
