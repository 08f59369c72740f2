/-
  Parts of the proof: X5 X6 X7 W4 VS VT VU W1 VV W2 VX VY VZ X8 X9 XB.
-/
import Derived.Test.YthfhaoogcpfboaaGreatK4
set_option linter.unusedVariables false
set_option linter.unusedSimpArgs false
namespace Go.Proofs.YthfhaoogcpfboaaGreat
open Go.RowKit
set_option maxRecDepth 100000
set_option linter.unusedVariables false
theorem addW0 (v:V3) (n:Int):addW ⟨0,0,0⟩ (QQ v n)=QQ v n:=by
 have h:∀ m:Int,W (0+W m)=W m:=fun m=>by simp only [W,IntKind.wrap_i64]; omega
 unfold addW QQ; dsimp only; rw [h,h,h]
theorem wsub4 (a b c d:Int):W (W (W (W a-W b)-W c)-W d)=W (W a-W (W (W b+W c)+W d)):=by
 simp only [W,IntKind.wrap_i64]; omega
def X1 (p:Pl):Pl:=⟨subW ⟨0,0,0⟩ p.n,-p.b⟩
def vk (v:V3) (k:Nat):Int:=[v.x,v.y,v.z].getD k 0
theorem c3at {v:V3} {k:Nat} (h:k<3):(cV v)[0+((k:Int)).toNat*1]?=some (iv (vk v k)):=by
 obtain rfl | rfl | rfl:k=0\/k=1\/k=2:=by omega
 all_goals rfl
theorem vk_bd {v:V3} {k:Nat} {m:Int} (h:k<3) (hv:VB m v) : -m<=vk v k/\vk v k<=m:=by
 obtain ⟨h1,h2,h3⟩:=hv
 obtain rfl | rfl | rfl:k=0\/k=1\/k=2:=by omega
 ·exact h1
 ·exact h2
 ·exact h3
def g3L (v:V3):Nat:=gL [v.x,v.y,v.z]
theorem g3L_succ {v:V3} {k:Nat} (h:k<3):gL ([v.x,v.y,v.z].take (k+1))=Nat.gcd (gL ([v.x,v.y,v.z].take k)) (vk v k).natAbs:=by
 obtain rfl | rfl | rfl:k=0\/k=1\/k=2:=by omega
 all_goals rfl
def primS (v:V3):V3:=if g3L v=0 then ⟨0,0,0⟩ else ⟨W (v.x.tdiv (g3L v)),W (v.y.tdiv (g3L v)),W (v.z.tdiv (g3L v))⟩
theorem val_f1 {p:Pl} {k:Nat} (h:k<3) (hb:¬ (-4608<=vk p.n k/\vk p.n k<=4608)):Q5 p=false:=by
 cases hv:Q5 p
 ·rfl
 ·exact absurd (vk_bd h (valid_b hv).1) hb
theorem val_eq {p:Pl} (h:VB 4608 p.n):Q5 p=(decide ((g3L p.n:Int)=1)&&decide (-2097152<=p.b/\p.b<=2097152)):=by
 obtain ⟨h1,h2,h3⟩:=h
 unfold Q5
 rw [show Ji 4608 [p.n.x,p.n.y,p.n.z]=true from by simp [Ji,h1,h2,h3],show Ji 2097152 [p.b]=decide (-2097152<=p.b/\p.b<=2097152) from by simp [Ji]]
 rfl
theorem vb_of {v:V3} {m:Int} (h:∀ j,j<3 → -m<=vk v j/\vk v j<=m):VB m v:=⟨h 0 (by decide),h 1 (by decide),h 2 (by decide)⟩
def mcv98:MC:=(.seq (.reg [oN 2 (.box 88 3 (.t 0)) [],oN 3 (.box 88 3 (.t 1)) [],oN 4 (.alloc 88 3 [(.int .i64 0),(.int .i64 0),(.int .i64 0)]) []] false) (.seq (.reg [oA 5 0 2 [],oD 6 1 5 [0],oA 7 0 3 [],oD 8 1 7 [2],oN 9 (.bin .sub (.t 6) (.t 8)) [1,3],oA 10 1 2 [],oD 11 1 10 [5],oA 12 1 3 [],oD 13 1 12 [7],oN 14 (.bin .sub (.t 11) (.t 13)) [6,8],oA 15 2 2 [],oD 16 1 15 [10],oA 17 2 3 [],oD 18 1 17 [12],oN 19 (.bin .sub (.t 16) (.t 18)) [11,13],oN 20 (.build [(.int .i64 0),(.int .i64 0),(.int .i64 0)] [(0,(1,(.t 9))),(1,(1,(.t 14))),(2,(1,(.t 19)))]) [4,9,14],⟨none,(.st 3 (.t 4) (.t 20)),none,[15,0,1,2,3,4,5,6,7,8,9,10,11,12,13,14,15]⟩] false) .ret))
theorem mcOkv98:okM Tryz.prog Tryz.f98 21=some mcv98:=by kernel_rfl
theorem vc98 (a b:V3):FC Tryz.prog 98 [aV a,aV b] [] (aV (subW a b)) [] false:=by
 refine Qj (nt:=21) Tryz.func98 rfl rfl mcOkv98 (nL rfl) ?_
 delta mcv98
 refine gA 12 rfl (Xl rfl rfl rfl rfl (gR 4 rfl (Xl rfl rfl rfl rfl (gR 4 rfl (Xl rfl rfl rfl rfl (gR 4 rfl ?_))))))
 exact Qk <| Qc rfl rfl rfl (.inr rfl)
def mcv202:MC:=(.seq (.reg [oN 2 (.box 88 3 (.t 0)) [],oN 3 (.box 88 3 (.t 1)) [],oN 4 (.alloc 88 3 [(.int .i64 0),(.int .i64 0),(.int .i64 0)]) []] false) (.seq (.reg [oA 5 0 2 [],oD 6 1 5 [0],oA 7 0 3 [],oD 8 1 7 [2],oN 9 (.bin .add (.t 6) (.t 8)) [1,3],oA 10 1 2 [],oD 11 1 10 [5],oA 12 1 3 [],oD 13 1 12 [7],oN 14 (.bin .add (.t 11) (.t 13)) [6,8],oA 15 2 2 [],oD 16 1 15 [10],oA 17 2 3 [],oD 18 1 17 [12],oN 19 (.bin .add (.t 16) (.t 18)) [11,13],oN 20 (.build [(.int .i64 0),(.int .i64 0),(.int .i64 0)] [(0,(1,(.t 9))),(1,(1,(.t 14))),(2,(1,(.t 19)))]) [4,9,14],⟨none,(.st 3 (.t 4) (.t 20)),none,[15,0,1,2,3,4,5,6,7,8,9,10,11,12,13,14,15]⟩] false) .ret))
theorem mcOkv202:okM Tryz.prog Tryz.f202 21=some mcv202:=by kernel_rfl
theorem vc202 (a b:V3):FC Tryz.prog 202 [aV a,aV b] [] (aV (addW a b)) [] false:=by
 refine Qj (nt:=21) Tryz.func202 rfl rfl mcOkv202 (nL rfl) ?_
 delta mcv202
 refine gA 12 rfl (QH rfl rfl rfl rfl (gR 4 rfl (QH rfl rfl rfl rfl (gR 4 rfl (QH rfl rfl rfl rfl (gR 4 rfl ?_))))))
 exact Qk <| Qc rfl rfl rfl (.inr rfl)
def mcv200:MC:=(.seq (.reg [oN 2 (.box 88 3 (.t 0)) [],oN 3 (.box 88 3 (.t 1)) [],oN 4 (.alloc 88 3 [(.int .i64 0),(.int .i64 0),(.int .i64 0)]) []] false) (.seq (.reg [oA 5 1 2 [],oD 6 1 5 [0],oA 7 2 3 [],oD 8 1 7 [2],oN 9 (.bin .mul (.t 6) (.t 8)) [1,3],oA 10 2 2 [],oD 11 1 10 [5],oA 12 1 3 [],oD 13 1 12 [7],oN 14 (.bin .mul (.t 11) (.t 13)) [6,8],oN 15 (.bin .sub (.t 9) (.t 14)) [4,9],oA 16 2 2 [],oD 17 1 16 [11],oA 18 0 3 [],oD 19 1 18 [13],oN 20 (.bin .mul (.t 17) (.t 19)) [12,14],oA 21 0 2 [],oD 22 1 21 [16],oA 23 2 3 [],oD 24 1 23 [18],oN 25 (.bin .mul (.t 22) (.t 24)) [17,19],oN 26 (.bin .sub (.t 20) (.t 25)) [15,20],oA 27 0 2 [],oD 28 1 27 [22],oA 29 1 3 [],oD 30 1 29 [24],oN 31 (.bin .mul (.t 28) (.t 30)) [23,25],oA 32 1 2 [],oD 33 1 32 [27],oA 34 0 3 [],oD 35 1 34 [29],oN 36 (.bin .mul (.t 33) (.t 35)) [28,30],oN 37 (.bin .sub (.t 31) (.t 36)) [26,31],oN 38 (.build [(.int .i64 0),(.int .i64 0),(.int .i64 0)] [(0,(1,(.t 15))),(1,(1,(.t 26))),(2,(1,(.t 37)))]) [10,21,32],⟨none,(.st 3 (.t 4) (.t 38)),none,[33,0,1,2,3,4,5,6,7,8,9,10,11,12,13,14,15,16,17,18,19,20,21,22,23,24,25,26,27,28,29,30,31,32,33]⟩] false) .ret))
theorem mcOkv200:okM Tryz.prog Tryz.f200 39=some mcv200:=by kernel_rfl
theorem vc200 (a b:V3):FC Tryz.prog 200 [aV a,aV b] [] (aV (QC a b)) [] false:=by
 refine Qj (nt:=39) Tryz.func200 rfl rfl mcOkv200 (nL rfl) ?_
 delta mcv200
 refine gA 12 rfl (QA rfl rfl rfl rfl (gR 4 rfl (QA rfl rfl rfl rfl (gR 0 rfl (Xl rfl rfl rfl rfl (gR 4 rfl (QA rfl rfl rfl rfl (gR 4 rfl (QA rfl rfl rfl rfl (gR 0 rfl (Xl rfl rfl rfl rfl ?_)))))))))))
 refine gR 4 rfl (QA rfl rfl rfl rfl (gR 4 rfl (QA rfl rfl rfl rfl (gR 0 rfl (Xl rfl rfl rfl rfl (gR 4 rfl ?_))))))
 exact Qk <| Qc rfl rfl rfl (.inr rfl)
def mcv199:MC:=(.seq (.reg [oN 2 (.box 88 3 (.t 0)) [],oN 3 (.box 88 3 (.t 1)) [],oN 4 (.mv (.c (.int .i64 0))) []] false) (.seq (.reg [oA 5 0 2 [],oD 6 1 5 [0],oA 7 0 3 [],oD 8 1 7 [2],oN 9 (.bin .mul (.t 6) (.t 8)) [1,3],oA 10 1 2 [],oD 11 1 10 [5],oA 12 1 3 [],oD 13 1 12 [7],oN 14 (.bin .mul (.t 11) (.t 13)) [6,8],oN 15 (.bin .add (.t 9) (.t 14)) [4,9],oA 16 2 2 [],oD 17 1 16 [11],oA 18 2 3 [],oD 19 1 18 [13],oN 20 (.bin .mul (.t 17) (.t 19)) [12,14],oN 21 (.bin .add (.t 15) (.t 20)) [10,15],oM 4 21 [16,0,1,2,3,4,5,6,7,8,9,10,11,12,13,14,15,16]] false) .ret))
theorem mcOkv199:okM Tryz.prog Tryz.f199 22=some mcv199:=by kernel_rfl
theorem vc199 (a b:V3):FC Tryz.prog 199 [aV a,aV b] [] (iv (dotW a b)) [] false:=by
 refine Qj (nt:=22) Tryz.func199 rfl rfl mcOkv199 (nL rfl) ?_
 delta mcv199
 refine gA 12 rfl (QA rfl rfl rfl rfl (gR 4 rfl (QA rfl rfl rfl rfl (gR 0 rfl (QH rfl rfl rfl rfl (gR 4 rfl (QA rfl rfl rfl rfl (gR 0 rfl (QH rfl rfl rfl rfl (gR 3 rfl ?_))))))))))
 exact Qk <| Qc rfl rfl rfl (.inr rfl)
def mcv201:MC:=(.seq (.reg [oN 2 (.box 88 3 (.t 0)) [],oN 4 (.alloc 88 3 [(.int .i64 0),(.int .i64 0),(.int .i64 0)]) []] false) (.seq (.reg [oA 5 0 2 [],oD 6 1 5 [0],oM 7 1 [],oN 8 (.bin .mul (.t 6) (.t 7)) [1,2],oA 9 1 2 [],oD 10 1 9 [4],oM 11 1 [],oN 12 (.bin .mul (.t 10) (.t 11)) [5,6],oA 13 2 2 [],oD 14 1 13 [8],oM 15 1 [],oN 16 (.bin .mul (.t 14) (.t 15)) [9,10],oN 17 (.build [(.int .i64 0),(.int .i64 0),(.int .i64 0)] [(0,(1,(.t 8))),(1,(1,(.t 12))),(2,(1,(.t 16)))]) [3,7,11],⟨none,(.st 3 (.t 4) (.t 17)),none,[12,0,1,2,3,4,5,6,7,8,9,10,11,12]⟩] false) .ret))
theorem mcOkv201:okM Tryz.prog Tryz.f201 18=some mcv201:=by kernel_rfl
theorem vc201 (v:V3) (n:Int):FC Tryz.prog 201 [aV v,iv n] [] (aV (QQ v n)) [] false:=by
 refine Qj (nt:=18) Tryz.func201 rfl rfl mcOkv201 (nL rfl) ?_
 delta mcv201
 refine gA 10 rfl (QA rfl rfl rfl rfl (gR 3 rfl (QA rfl rfl rfl rfl (gR 3 rfl (QA rfl rfl rfl rfl (gR 4 rfl ?_))))))
 exact Qk <| Qc rfl rfl rfl (.inr rfl)
def mcv141:MC:=(.seq (.reg [oN 2 (.box 90 4 (.t 0)) [],oN 3 (.box 174 4 (.t 1)) [],oN 4 (.mv (.c (.int .i64 0))) []] false) (.seq (.reg [oA 5 3 2 [],oD 6 1 5 [0],oA 7 3 3 [],oD 8 1 7 [2],oN 9 (.bin .mul (.t 6) (.t 8)) [1,3],oA 10 0 2 [],oA 11 0 10 [5],oD 12 1 11 [6],oA 13 0 3 [],oD 14 1 13 [8],oN 15 (.bin .mul (.t 12) (.t 14)) [7,9],oN 16 (.bin .sub (.t 9) (.t 15)) [4,10],oA 17 0 2 [],oA 18 1 17 [12],oD 19 1 18 [13],oA 20 1 3 [],oD 21 1 20 [15],oN 22 (.bin .mul (.t 19) (.t 21)) [14,16],oN 23 (.bin .sub (.t 16) (.t 22)) [11,17],oA 24 0 2 [],oA 25 2 24 [19],oD 26 1 25 [20],oA 27 2 3 [],oD 28 1 27 [22],oN 29 (.bin .mul (.t 26) (.t 28)) [21,23],oN 30 (.bin .sub (.t 23) (.t 29)) [18,24],oM 4 30 [25,0,1,2,3,4,5,6,7,8,9,10,11,12,13,14,15,16,17,18,19,20,21,22,23,24,25]] false) .ret))
theorem mcOkv141:okM Tryz.prog Tryz.f141 31=some mcv141:=by kernel_rfl
theorem vc141 (p:Pl) (x:Pt):FC Tryz.prog 141 [.agg (cPl p),.agg (cPt x)] [] (iv (JO p x)) [] false:=by
 refine Qj (nt:=31) Tryz.func141 rfl rfl mcOkv141 (nL rfl) ?_
 delta mcv141
 refine gA 12 rfl (QA rfl rfl rfl rfl (gR 5 rfl (QA rfl rfl rfl rfl (gR 0 rfl (Xl rfl rfl rfl rfl (gR 5 rfl (QA rfl rfl rfl rfl (gR 0 rfl (Xl rfl rfl rfl rfl (gR 5 rfl (QA rfl rfl rfl rfl ?_)))))))))))
 refine gR 0 rfl (Xl rfl rfl rfl rfl (gR 3 rfl ?_))
 exact Qk <| Qc rfl (congrArg iv (wsub4 (p.b*x.w) (p.n.x*x.x) (p.n.y*x.y) (p.n.z*x.z))) rfl (.inr rfl)
def mcv198:MC:=(.seq (.reg [oN 2 (.mv (.c (.int .i64 0))) []] false) (.seq (.seq (.reg [oM 3 0 [],oN 4 (.bin .lss (.t 3) (.c (.int .i64 0))) [0]] false) (.cond (.t 4) (.seq (.reg [oM 5 0 [],oN 6 (.un .neg (.t 5)) [0],oM 2 6 [1,0,1]] false) .ret) .skip)) (.seq (.reg [oM 7 0 [],oM 2 7 [0,0]] false) .ret)))
theorem mcOkv198:okM Tryz.prog Tryz.f198 8=some mcv198:=by kernel_rfl
theorem vc198 (n:Int) (h : -9223372036854775807<=n/\n<=9223372036854775807):FC Tryz.prog 198 [iv n] [] (iv (n.natAbs:Int)) [] false:=by
 refine Qj (nt:=8) Tryz.func198 rfl rfl mcOkv198 (nL rfl) ?_
 delta mcv198
 refine gA 10 rfl (Qe rfl (fun h4=>?_) (fun h4=>?_))
 ·replace h4:=of_decide_eq_true h4
  refine gK 3 rfl (Jz rfl rfl (by omega) (gR 3 rfl ?_))
  exact Qk <| Qc rfl (congrArg iv (by omega)) rfl (.inr rfl)
 ·replace h4:=of_decide_eq_false h4
  refine gK 7 rfl ?_
  exact Qk <| Qc rfl (congrArg iv (by omega)) rfl (.inr rfl)
def mcv48:MC:=(.seq (.reg [oN 1 (.box 90 4 (.t 0)) [],oN 2 (.alloc 90 4 [(.int .i64 0),(.int .i64 0),(.int .i64 0),(.int .i64 0)]) []] false) (.seq (.reg [oN 3 (.build [(.int .i64 0),(.int .i64 0),(.int .i64 0)] []) [],oA 4 0 1 [],oN 5 (.ld true 3 (.t 4)) [1],oN 6 (.call 98 [(.t 3),(.t 5)]) [0,2],oA 7 3 1 [],oD 8 1 7 [4],oN 9 (.un .neg (.t 8)) [5],oN 10 (.build [(.int .i64 0),(.int .i64 0),(.int .i64 0),(.int .i64 0)] [(0,(3,(.t 6))),(3,(1,(.t 9)))]) [3,6],⟨none,(.st 4 (.t 2) (.t 10)),none,[7,3,0,1,2,3,4,5,6,7]⟩] true) .ret))
theorem mcOkv48:okM Tryz.prog Tryz.f48 11=some mcv48:=by kernel_rfl
theorem vc48 (p:Pl) (h : -9223372036854775807<=p.b/\p.b<=9223372036854775807):FC Tryz.prog 48 [.agg (cPl p)] [] (.agg (cPl (X1 p))) [] false:=by
 refine Qj (nt:=11) Tryz.func48 rfl rfl mcOkv48 (nL rfl) ?_
 delta mcv48
 refine gA 10 rfl (cN rfl rfl (vc98 ⟨0,0,0⟩ p.n) (gR 2 rfl (Jz rfl rfl (by omega) (gR 2 rfl (QJ (by kernel_rfl) (gP 1 rfl ?_))))))
 exact Qk <| Qc rfl rfl rfl (.inr rfl)
def mcv203:MC:=(.seq (.reg [oN 4 (.mv (.c (.int .i64 0))) []] false) (.seq (.block 0 (.loop (.seq (.seq (.reg [oM 5 1 [],oN 6 (.bin .neq (.t 5) (.c (.int .i64 0))) [0]] false) (.cond (.t 6) .skip (.exit 0))) (.block 1 (.reg [oM 7 1 [],oM 8 0 [],oM 9 1 [],oN 10 (.bin .rem (.t 8) (.t 9)) [1,2],oM 0 7 [0,0,1],oM 1 10 [3,4,0,1,2,3,4]] true))))) (.seq (.reg [oM 11 0 [],oM 4 11 [0,0]] false) .ret)))
theorem mcOkv203:okM Tryz.prog Tryz.f203 12=some mcv203:=by kernel_rfl
theorem vc203 (x y:Int) (hx:0<=x/\x<=9223372036854775807) (hy:0<=y/\y<=9223372036854775807):FC Tryz.prog 203 [iv x,iv y] [] (iv (Nat.gcd x.natAbs y.natAbs:Int)) [] false:=by
 refine Qj (nt:=12) Tryz.func203 rfl rfl mcOkv203 (nL rfl) ?_
 delta mcv203
 refine gA 6 rfl ?_
 refine Qr (α:=Int×Int) (fun u=>u.2.natAbs) (fun u=>[(0,iv u.1),(1,iv u.2),(4,iv 0)]) (fun u=>[]) (fun u=>Nat.gcd u.1.natAbs u.2.natAbs=Nat.gcd x.natAbs y.natAbs/\(0<=u.1/\u.1<=9223372036854775807)/\(0<=u.2/\u.2<=9223372036854775807)) (x,y) (⟨rfl,hx,hy⟩)
  (Qa (Qb rfl rfl) (.nil) (fun i h=>by cases h)) ?_
 rintro ⟨a,b⟩ ⟨hg,ha,hb⟩
 dsimp only at hg ha hb ⊢
 refine gT 4 rfl (Ja rfl rfl rfl (gR 1 rfl (Qe rfl (fun h6=>?_) (fun h6=>?_))))
 ·replace h6:=of_decide_eq_true h6
  refine gK 6 rfl (XO rfl rfl rfl (by omega) rfl (gR 2 rfl (QJ (by kernel_rfl) (gP 0 rfl ?_))))
  have h1:=tmod_lt a b h6
  have h2:=gcd_st2 a b h6
  have h3:=Int.tmod_nonneg b ha.1
  exact Q8 <| ⟨(b,a.tmod b),⟨by show Nat.gcd b.natAbs (a.tmod b).natAbs=_; rw [h2,hg],hb,by show 0<=a.tmod b/\a.tmod b<=_; omega⟩,h1,Qa (Qb rfl rfl) (.nil) (fun i h=>by cases h)⟩
 ·replace h6:=of_decide_eq_false h6
  refine gK 7 rfl ?_
  obtain rfl:b=0:=by omega
  rw [← hg]
  exact Qk <| Qc rfl (congrArg iv (by simp; omega)) rfl (.inr rfl)
def mcv171:MC:=(.seq (.reg [oN 1 (.box 88 3 (.t 0)) [],oN 2 (.alloc 25 3 [(.int .i64 0),(.int .i64 0),(.int .i64 0)]) []] false) (.seq (.reg [oA 3 0 1 [],oD 4 1 3 [0],oA 5 1 1 [],oD 6 1 5 [2],oA 7 2 1 [],oD 8 1 7 [4],oN 9 (.build [(.int .i64 0),(.int .i64 0),(.int .i64 0)] [(0,(1,(.t 4))),(1,(1,(.t 6))),(2,(1,(.t 8)))]) [1,3,5],⟨none,(.st 3 (.t 2) (.t 9)),none,[6,0,1,2,3,4,5,6]⟩] false) .ret))
theorem mcOkv171:okM Tryz.prog Tryz.f171 10=some mcv171:=by kernel_rfl
theorem vc171 (v:V3):FC Tryz.prog 171 [aV v] [] (aV v) [] false:=by
 refine Qj (nt:=10) Tryz.func171 rfl rfl mcOkv171 (nL rfl) ?_
 delta mcv171
 refine gA 17 rfl ?_
 exact Qk <| Qc rfl rfl rfl (.inr rfl)
def mcv172:MC:=(.seq (.reg [oN 1 (.box 88 3 (.t 0)) [],oN 2 (.alloc 88 3 [(.int .i64 0),(.int .i64 0),(.int .i64 0)]) [],oN 3 (.mv (.c (.int .i64 0))) []] false) (.seq (.reg [oN 8 (.ld true 3 (.t 1)) [],oN 9 (.call 171 [(.t 8)]) [0],oN 4 (.alloc 25 3 [(.int .i64 0),(.int .i64 0),(.int .i64 0)]) [],⟨none,(.st 3 (.t 4) (.t 9)),none,[2,1,1,0,1,2]⟩] false) (.seq (.reg [oN 5 (.mv (.c (.int .i64 0))) []] false) (.seq (.seq (.reg [oN 6 (.mv (.c (.int .i64 0))) []] false) (.block 0 (.loop (.seq (.seq (.reg [oM 10 6 [],oN 11 (.bin .lss (.t 10) (.c (.int .i64 3))) [0]] false) (.cond (.t 11) .skip (.exit 0))) (.seq (.block 1 (.seq (.seq (.reg [oM 14 6 [],oN 15 (.ixarr 3 1 (.t 4) (.t 14)) [0],oD 16 1 15 [1],oN 17 (.bin .eql (.t 16) (.c (.int .i64 (-9223372036854775808)))) [2]] false) (.cond (.t 17) (.seq (.reg [oN 18 (.build [(.int .i64 0),(.int .i64 0),(.int .i64 0)] []) [],⟨none,(.st 3 (.t 2) (.t 18)),none,[0,0]⟩,oN 3 (.mv (.c (.int .i64 0))) [1,0,1]] false) .ret) .skip)) (.seq (.reg [oM 19 6 [],oN 20 (.ixarr 3 1 (.t 4) (.t 19)) [0],oD 21 1 20 [1],oN 22 (.call 198 [(.t 21)]) [2],oM 7 22 [3,3,0,1,2,3]] false) (.block 2 (.loop (.seq (.seq (.reg [oM 23 7 [],oN 24 (.bin .gtr (.t 23) (.c (.int .i64 0))) [0]] false) (.cond (.t 24) .skip (.exit 2))) (.block 3 (.reg [oM 25 7 [],oM 26 5 [],oM 27 7 [],oN 28 (.bin .rem (.t 26) (.t 27)) [1,2],oM 5 25 [0,0,1],oM 7 28 [3,4,0,1,2,3,4]] true)))))))) (.reg [oM 12 6 [],oN 13 (.bin .add (.t 12) (.c (.int .i64 1))) [0],oM 6 13 [1,0,1]] false)))))) (.seq (.seq (.reg [oM 29 5 [],oN 30 (.bin .eql (.t 29) (.c (.int .i64 0))) [0]] false) (.cond (.t 30) (.seq (.reg [oN 31 (.build [(.int .i64 0),(.int .i64 0),(.int .i64 0)] []) [],⟨none,(.st 3 (.t 2) (.t 31)),none,[0,0]⟩,oN 3 (.mv (.c (.int .i64 0))) [1,0,1]] false) .ret) .skip)) (.seq (.reg [oA 32 0 1 [],oD 33 1 32 [0],oM 34 5 [],oN 35 (.bin .quo (.t 33) (.t 34)) [1,2],oA 36 1 1 [],oD 37 1 36 [4],oM 38 5 [],oN 39 (.bin .quo (.t 37) (.t 38)) [5,6],oA 40 2 1 [],oD 41 1 40 [8],oM 42 5 [],oN 43 (.bin .quo (.t 41) (.t 42)) [9,10],oN 44 (.build [(.int .i64 0),(.int .i64 0),(.int .i64 0)] [(0,(1,(.t 35))),(1,(1,(.t 39))),(2,(1,(.t 43)))]) [3,7,11],oM 45 5 [],⟨none,(.st 3 (.t 2) (.t 44)),none,[12,0,1,2,3,4,5,6,7,8,9,10,11,12]⟩,oM 3 45 [13,14,0,1,2,3,4,5,6,7,8,9,10,11,12,13,14]] true) .ret))))))
theorem mcOkv172:okM Tryz.prog Tryz.f172 46=some mcv172:=by kernel_rfl
theorem vc172 (v:V3) (hv:VB 1000000000 v):FC Tryz.prog 172 [aV v] [] (.tup [aV (primS v),iv ((g3L v:Int))]) [] false:=by
 refine Qj (nt:=46) Tryz.func172 rfl rfl mcOkv172 (nL rfl) ?_
 delta mcv172
 refine gA 9 rfl (cN rfl rfl (vc171 v) (gR 13 rfl ?_))
 refine Qr (α:=Nat×Int) (fun s=>3-s.1) (fun s=>[(1,.ptr 1 0 0),(2,.ptr 2 0 0),(3,iv 0),(4,.ptr 4 0 0),(5,iv (s.2)),(6,iv (((s.1):Nat):Int))]) (fun s=>[(1,.cells 88 3 [cV v] true),(2,.cells 88 3 [[iv 0,iv 0,iv 0]] true),(4,.cells 25 3 [cV v] true)]) (fun s=>s.1<=3/\0<=s.2/\s.2<=1000000000/\s.2.natAbs=gL ([v.x,v.y,v.z].take s.1)) (0,0) (⟨by omega,by omega,by omega,rfl⟩)
  (Qa (Qb rfl rfl) (.keep (rfl) rfl (.keep (rfl) rfl (.keep (rfl) rfl (.nil)))) (fun i h=>by cases h)) ?_
 rintro ⟨k,g⟩ ⟨hk,hg0,hg1,hg⟩
 dsimp only at hk hg0 hg1 hg ⊢
 refine gT 6 rfl (Qe rfl (fun h11=>?_) (fun h11=>?_))
 ·replace h11:=of_decide_eq_true h11
  refine gK 7 rfl ?_
  have hb:=vk_bd (show k<3 by omega) hv
  refine Q0 rfl rfl rfl (by omega) (by omega) (gR 0 rfl (JD rfl rfl rfl rfl (c3at (by omega)) (gR 0 rfl (rs_eql rfl rfl rfl (gR 1 rfl (Qe rfl (fun h17=>?_) (fun h17=>?_)))))))
  ·replace h17:=of_decide_eq_true h17
   refine gK 1 rfl ?_
   exact absurd h17 (by omega)
  ·replace h17:=of_decide_eq_false h17
   refine gK 4 rfl (Q0 rfl rfl rfl (by omega) (by omega) (gR 0 rfl (JD rfl rfl rfl rfl (c3at (by omega)) (gR 0 rfl (cN rfl rfl (vc198 (vk v k) (by omega)) (gR 3 rfl ?_))))))
   refine Qr (α:=Int×Int) (fun u=>u.2.natAbs) (fun u=>[(1,.ptr 1 0 0),(2,.ptr 2 0 0),(3,iv 0),(4,.ptr 4 0 0),(5,iv (u.1)),(6,iv (((k):Nat):Int)),(7,iv (u.2))]) (fun u=>[(1,.cells 88 3 [cV v] true),(2,.cells 88 3 [[iv 0,iv 0,iv 0]] true),(4,.cells 25 3 [cV v] true)]) (fun u=>Nat.gcd u.1.natAbs u.2.natAbs=Nat.gcd g.natAbs (vk v k).natAbs/\(0<=u.1/\u.1<=1000000000)/\(0<=u.2/\u.2<=1000000000)) (g,((vk v k).natAbs:Int)) (⟨by simp,⟨hg0,hg1⟩,by dsimp only; omega⟩)
    (Qa (Qb rfl rfl) (.keep (rfl) rfl (.keep (rfl) rfl (.keep (rfl) rfl (.nil)))) (fun i h=>by cases h)) ?_
   rintro ⟨a,b⟩ ⟨hgc,ha,hb2⟩
   dsimp only at hgc ha hb2 ⊢
   refine gT 4 rfl (rs_gtr rfl rfl rfl (gR 1 rfl (Qe rfl (fun h24=>?_) (fun h24=>?_))))
   ·replace h24:=of_decide_eq_true h24
    refine gK 6 rfl (XO rfl rfl rfl (by omega) rfl (gR 2 rfl (QJ (by kernel_rfl) (gP 0 rfl ?_))))
    have h1:=tmod_lt a b (by omega)
    have h2:=gcd_st2 a b (by omega)
    have h3:=Int.tmod_nonneg b ha.1
    exact Q8 <| ⟨(b,a.tmod b),⟨by show Nat.gcd b.natAbs (a.tmod b).natAbs=_; rw [h2,hgc],hb2,by show 0<=a.tmod b/\a.tmod b<=_; omega⟩,h1,Qa (Qb rfl rfl) (.keep (rfl) rfl (.keep (rfl) rfl (.keep (rfl) rfl (.nil)))) (fun i h=>by cases h)⟩
   ·replace h24:=of_decide_eq_false h24
    refine gK 3 rfl (Qg rfl rfl rfl (by omega) (gR 2 rfl (⟨(k+1,a),⟨by show k+1<=3; omega,ha.1,ha.2,?_⟩,by show 3-(k+1)<_; omega,Qa (Qb rfl rfl) (.keep (rfl) rfl (.keep (rfl) rfl (.keep (rfl) rfl (.nil)))) (fun i h=>by cases h)⟩)))
    show a.natAbs=_
    obtain rfl:b=0:=by omega
    rw [g3L_succ (by omega),← hg,← hgc]
    simp
 ·replace h11:=of_decide_eq_false h11
  refine gK 3 rfl ?_
  obtain rfl:k=3:=by omega
  rw [show gL ([v.x,v.y,v.z].take 3)=g3L v from rfl] at hg
  refine gI 2 rfl (rs_eql rfl rfl rfl (gR 1 rfl (Qe rfl (fun h30=>?_) (fun h30=>?_))))
  ·replace h30:=of_decide_eq_true h30
   refine gK 7 rfl ?_
   rw [show primS v=⟨0,0,0⟩ from if_pos (by omega),show (g3L v:Int)=0 by omega]
   exact Qk <| Qs rfl (Xc (.cons (Q3 rfl (.inr rfl)) (.cons (Q3 rfl (.inr rfl)) .nil))) .nil
  ·replace h30:=of_decide_eq_false h30
   refine gK 6 rfl (Xm rfl rfl rfl (by omega) rfl (gR 3 rfl (Xm rfl rfl rfl (by omega) rfl (gR 3 rfl (Xm rfl rfl rfl (by omega) rfl (gR 4 rfl (QJ (by kernel_rfl) (gP 1 rfl ?_))))))))
   obtain rfl:g=(g3L v:Int):=by omega
   rw [show primS v=_ from if_neg (by omega)]
   exact Qk <| Qs rfl (Xc (.cons (Q3 rfl (.inr rfl)) (.cons (Q3 rfl (.inr rfl)) .nil))) .nil
def mcv139:MC:=(.seq (.reg [oN 1 (.box 90 4 (.t 0)) [],oN 2 (.mv (.c (.bool false))) []] false) (.seq (.reg [oA 7 0 1 [],oN 8 (.ld true 3 (.t 7)) [0],oN 9 (.call 171 [(.t 8)]) [1],oN 3 (.alloc 25 3 [(.int .i64 0),(.int .i64 0),(.int .i64 0)]) [],⟨none,(.st 3 (.t 3) (.t 9)),none,[3,2,2,0,1,2,3]⟩] false) (.seq (.seq (.reg [oN 4 (.mv (.c (.int .i64 0))) []] false) (.block 0 (.loop (.seq (.seq (.reg [oM 10 4 [],oN 11 (.bin .lss (.t 10) (.c (.int .i64 3))) [0]] false) (.cond (.t 11) .skip (.exit 0))) (.seq (.block 1 (.seq (.reg [oM 14 4 [],oN 15 (.ixarr 3 1 (.t 3) (.t 14)) [0],oD 16 1 15 [1],oN 17 (.bin .lss (.t 16) (.c (.int .i64 (-4608)))) [2],oM 18 17 [3],pM 19 4 18 false [4],oG 20 (.ixarr 3 1 (.t 3) (.t 19)) 18 false [5,4],pD 21 1 20 18 false [6,4],oG 22 (.bin .gtr (.t 21) (.c (.int .i64 4608))) 18 false [7,4],oN 23 (.pick (.t 18) (.c (.bool true)) (.t 22)) [4,8]] false) (.cond (.t 23) (.seq (.reg [oN 2 (.mv (.c (.bool false))) []] false) .ret) .skip))) (.reg [oM 12 4 [],oN 13 (.bin .add (.t 12) (.c (.int .i64 1))) [0],oM 4 13 [1,0,1]] false)))))) (.seq (.reg [oA 25 0 1 [],oN 26 (.ld true 3 (.t 25)) [0],oN 27 (.call 172 [(.t 26)]) [1],oM 24 27 [2],oN 28 (.ext (.t 24) 0) [3],oN 29 (.ext (.t 24) 1) [3],oN 5 (.alloc 88 3 [(.int .i64 0),(.int .i64 0),(.int .i64 0)]) [],⟨none,(.st 3 (.t 5) (.t 28)),none,[6,4,2,0,1,2,3,4,6]⟩,oM 6 29 [5,7,0,1,2,3,4,5,6,7]] false) (.seq (.reg [oM 30 6 [],oN 31 (.bin .eql (.t 30) (.c (.int .i64 1))) [0],oM 32 31 [1],pA 33 3 1 32 true [2],pD 34 1 33 32 true [3,2],oG 35 (.bin .geq (.t 34) (.c (.int .i64 (-2097152)))) 32 true [4,2],oN 36 (.pick (.t 32) (.t 35) (.c (.bool false))) [2,5],oM 37 36 [6,2],pA 38 3 1 37 true [7],pD 39 1 38 37 true [8,7],oG 40 (.bin .leq (.t 39) (.c (.int .i64 2097152))) 37 true [9,7],oN 41 (.pick (.t 37) (.t 40) (.c (.bool false))) [7,10],oM 2 41 [11,7,0,1,2,3,4,5,6,7,8,9,10,11]] false) .ret)))))
theorem mcOkv139:okM Tryz.prog Tryz.f139 42=some mcv139:=by kernel_rfl
theorem vc139 (p:Pl):FC Tryz.prog 139 [.agg (cPl p)] [] (.bool (Q5 p)) [] false:=by
 refine Qj (nt:=42) Tryz.func139 rfl rfl mcOkv139 (nL rfl) ?_
 delta mcv139
 refine Q4 (QF (QO 2 rfl (Qz fun _=>QK (Q4 (QF (rs_fa_p rfl rfl (rs_ld_pa rfl rfl rfl rfl (nL rfl) rfl (Qx [] rfl rfl (vc171 p.n) (.cons (Qd rfl) (.nil)) rfl (rs_alloc rfl rfl rfl (rs_st rfl rfl rfl rfl rfl rfl rfl (nL rfl) rfl rfl ?_))))))))))
 refine Qz fun _=>QK (Q4 (Q4 (QF (Xp rfl rfl (Qz fun _=>QK (XI ?_))))))
 refine Qr (α:=Nat) (fun k=>3-k) (fun k=>[(1,.ptr 1 0 0),(2,.bool false),(3,.ptr 3 0 0),(4,iv (((k):Nat):Int))]) (fun k=>[(1,.cells 90 4 [cPl p] true),(3,.cells 25 3 [cV p.n] true)]) (fun k=>k<=3/\∀ j,j<k → -4608<=vk p.n j/\vk p.n j<=4608) 0 (⟨by omega,fun j h=>absurd h (by omega)⟩)
  (Qa (.cs (.cs (.cs (.cs (.nil))))) (.keep (rfl) rfl (.keep (rfl) rfl (.nil))) (fun i h=>by cases h)) ?_
 rintro k ⟨hk,hin⟩
 refine Q4 (Q4 (QF (QO 2 rfl (Qz fun _=>QK (Qe rfl (fun h11=>?_) (fun h11=>?_))))))
 ·replace h11:=of_decide_eq_true h11
  refine Jp (QK (Q4 (XI (Q4 (QF (Xp rfl rfl (Q0 rfl rfl rfl (by omega) (by omega) (JD rfl rfl rfl rfl (c3at (by omega)) (Q9 rfl rfl rfl rfl (fun h17=>?_) (fun h17=>?_))))))))))
  ·skip
   refine QO 6 rfl (Qz fun _=>QK (Qe rfl (fun _=>?_) (fun h=>by cases h)))
   refine Q4 (QF (Xp rfl rfl (Qz fun _=>QK (J2 (in_r (th_r (th_r (in_r (th_r ?_)))))))))
   rw [val_f1 (p:=p) (k:=k) (by omega) (by omega)]
   exact Qc rfl rfl rfl (.inr rfl)
  ·skip
   refine QO 2 rfl (Q0 rfl rfl rfl (by omega) (by omega) (JD rfl rfl rfl rfl (c3at (by omega)) (Q9 rfl rfl rfl rfl (fun h22=>?_) (fun h22=>?_))))
   ·skip
    refine rs_pick rfl rfl rfl (Qz fun _=>QK (Qe rfl (fun _=>?_) (fun h=>by cases h)))
    refine Q4 (QF (Xp rfl rfl (Qz fun _=>QK (J2 (in_r (th_r (th_r (in_r (th_r ?_)))))))))
    rw [val_f1 (p:=p) (k:=k) (by omega) (by omega)]
    exact Qc rfl rfl rfl (.inr rfl)
   ·skip
    refine rs_pick rfl rfl rfl (Qz fun _=>QK (Qe rfl (fun h=>by cases h) (fun _=>?_)))
    refine Jp (in_n (QK (QF (Xp rfl rfl (Qg rfl rfl rfl (by omega) (Xp rfl rfl (Qz fun _=>QK ?_)))))))
    exact ⟨k+1,⟨by omega,fun j hj=>by
     rcases Nat.lt_or_ge j k with h | h
     ·exact hin j h
     ·obtain rfl:j=k:=by omega
      omega⟩,by omega,Qa (.cs (.cs (.cs (.cs (.nil))))) (.keep (rfl) rfl (.keep (rfl) rfl (.nil))) (fun i h=>by cases h)⟩
 ·replace h11:=of_decide_eq_false h11
  refine aw_exit (th_e (th_e (in_hit (QK (Q4 ?_)))))
  obtain rfl:k=3:=by omega
  have hvb:VB 4608 p.n:=vb_of hin
  refine QF (rs_fa_p rfl rfl (rs_ld_pa rfl rfl rfl rfl (nL rfl) rfl (Qx [] rfl rfl (vc172 p.n (by obtain ⟨h1,h2,h3⟩:=hvb; unfold VB; omega)) (.cons (Qd rfl) (.nil)) rfl (QO 4 rfl (rs_st rfl rfl rfl rfl rfl rfl rfl (nL rfl) rfl rfl (Xp rfl rfl (Qz fun _=>QK (Q4 (QF (Xp rfl rfl ?_))))))))))
  refine Q9 rfl rfl rfl rfl (fun h31=>?_) (fun h31=>?_)
  ·skip
   refine QO 3 rfl (Q9 rfl rfl rfl rfl (fun h35=>?_) (fun h35=>?_))
   ·skip
    refine QO 4 rfl (Q9 rfl rfl rfl rfl (fun h40=>?_) (fun h40=>?_))
    ·skip
     refine QO 2 rfl (Qz fun _=>QK (J2 ?_))
     rw [val_eq hvb]
     exact Qc rfl (congrArg AV.bool (by simp [h31,h35,h40])) rfl (.inr rfl)
    ·skip
     refine QO 2 rfl (Qz fun _=>QK (J2 ?_))
     rw [val_eq hvb]
     exact Qc rfl (congrArg AV.bool (by simp [h31,h35,h40])) rfl (.inr rfl)
   ·skip
    refine QO 7 rfl (Qz fun _=>QK (J2 ?_))
    rw [val_eq hvb]
    exact Qc rfl (congrArg AV.bool (by simp [h31,h35])) rfl (.inr rfl)
  ·skip
   refine QO 11 rfl (Qz fun _=>QK (J2 ?_))
   rw [val_eq hvb]
   exact Qc rfl (congrArg AV.bool (by simp [h31])) rfl (.inr rfl)
def mcv99:MC:=(.seq (.reg [oN 2 (.mv (.c (.int .i64 0))) []] false) (.seq (.seq (.reg [oM 4 0 [],oN 5 (.len (.t 4)) [0],oN 6 (.bin .gtr (.t 5) (.c (.int .i64 48))) [1]] false) (.cond (.t 6) (.seq (.reg [oN 2 (.mv (.c (.int .i64 2))) []] false) .ret) .skip)) (.seq (.seq (.reg [oN 3 (.mv (.c (.int .i64 0))) []] false) (.block 0 (.loop (.seq (.seq (.reg [oM 7 3 [],oM 8 0 [],oN 9 (.len (.t 8)) [1],oN 10 (.bin .lss (.t 7) (.t 9)) [0,2]] false) (.cond (.t 10) .skip (.exit 0))) (.seq (.block 1 (.seq (.reg [oM 13 0 [],oM 14 3 [],oN 15 (.ixsl 4 (.t 13) (.t 14)) [0,1],oN 16 (.ld true 4 (.t 15)) [2],oN 17 (.call 139 [(.t 16)]) [3],oN 18 (.un .not (.t 17)) [4]] false) (.cond (.t 18) (.seq (.reg [oN 2 (.mv (.c (.int .i64 12))) []] false) .ret) .skip))) (.reg [oM 11 3 [],oN 12 (.bin .add (.t 11) (.c (.int .i64 1))) [0],oM 3 12 [1,0,1]] false)))))) (.seq (.reg [oN 2 (.mv (.c (.int .i64 0))) []] false) .ret))))
theorem mcOkv99:okM Tryz.prog Tryz.f99 19=some mcv99:=by kernel_rfl
theorem vc99 (c:List Pl) (hc:c.length<=1000):FC Tryz.prog 99 [.rs 4 (c.map cPl)] [] (iv (ckS c)) [] false:=by
 refine Qj (nt:=19) Tryz.func99 rfl rfl mcOkv99 (nL rfl) ?_
 delta mcv99
 refine gA 8 rfl (Qh rfl rfl (gR 0 rfl (rs_gtr rfl rfl rfl (gR 1 rfl (Qe rfl (fun h6=>?_) (fun h6=>?_))))))
 ·replace h6:=of_decide_eq_true h6
  refine gK 5 rfl ?_
  rw [show ckS c=2 from if_pos (by omega)]
  exact Qk <| Qc rfl rfl rfl (.inr rfl)
 ·replace h6:=of_decide_eq_false h6
  refine gK 7 rfl ?_
  refine Qr (α:=Nat) (fun k=>c.length-k) (fun k=>[(0,.rs 4 (c.map cPl)),(2,iv 0),(3,iv (((k):Nat):Int))]) (fun k=>[]) (fun k=>k<=c.length/\(c.take k).any badP=false) 0 (⟨by omega,rfl⟩)
   (Qa (Qb rfl rfl) (.nil) (fun i h=>by cases h)) ?_
  rintro k ⟨hk,hinv⟩
  refine gT 5 rfl (Qh rfl rfl (gR 2 rfl (Qe rfl (fun h10=>?_) (fun h10=>?_))))
  ·replace h10:=of_decide_eq_true h10
   refine gK 7 rfl ?_
   obtain ⟨x,hxk,hxm⟩:=Qo (L:=c) (k:=k) (by omega)
   refine Qp (f:=cPl) (y:=x) rfl rfl rfl (by omega) hxk (gR 1 rfl (cN rfl rfl (vc139 x) ?_))
   cases h17:Q5 x
   ·skip
    refine gR 8 rfl ?_
    rw [show ckS c=12 from by unfold ckS; rw [if_neg (by omega),if_pos (List.any_eq_true.2 ⟨x,hxm,by simp [badP,h17]⟩)]]
    exact Qk <| Qc rfl rfl rfl (.inr rfl)
   ·skip
    refine gR 6 rfl (Qg rfl rfl rfl (by omega) (gR 2 rfl ?_))
    exact Q8 <| ⟨k+1,⟨by omega,by rw [Qv hxk,List.any_append,hinv]; simp [badP,h17]⟩,by omega,Qa (Qb rfl rfl) (.nil) (fun i h=>by cases h)⟩
  ·replace h10:=of_decide_eq_false h10
   refine gK 6 rfl ?_
   rw [show ckS c=0 from by
    unfold ckS
    rw [if_neg (by omega),if_neg (by
     rw [List.take_of_length_le (by omega)] at hinv; rw [hinv]; decide)]]
   exact Qk <| Qc rfl rfl rfl (.inr rfl)
end Go.Proofs.YthfhaoogcpfboaaGreat
namespace Go.Proofs.YthfhaoogcpfboaaGreat
open Go.RowKit
set_option maxRecDepth 100000
set_option linter.unusedVariables false
theorem crossE {a b:V3} (ha:VB 4608 a) (hb:VB 4608 b):QC a b=⟨a.y*b.z-a.z*b.y,a.z*b.x-a.x*b.z,a.x*b.y-a.y*b.x⟩:=by
 obtain ⟨ax,ay,az⟩:=ha
 obtain ⟨bx,by_,bz⟩:=hb
 have e1:=Jt ay bz; have e2:=Jt az by_; have e3:=Jt az bx; have e4:=Jt ax bz; have e5:=Jt ax by_; have e6:=Jt ay bx
 simp only [QC]
 rw [Xk (n:=a.y*b.z) (by omega),Xk (n:=a.z*b.y) (by omega),Xk (n:=a.z*b.x) (by omega),Xk (n:=a.x*b.z) (by omega),Xk (n:=a.x*b.y) (by omega),Xk (n:=a.y*b.x) (by omega),Xk (n:=a.y*b.z-a.z*b.y) (by omega),Xk (n:=a.z*b.x-a.x*b.z) (by omega),Xk (n:=a.x*b.y-a.y*b.x) (by omega)]
theorem VB.mono {m n:Int} {v:V3} (h:VB m v) (hn:m<=n):VB n v:=by
 obtain ⟨h1,h2,h3⟩:=h; unfold VB; omega
theorem wd_turn {p q r:Pl} (hp:Q5 p=true) (hq:Q5 q=true) (hr:Q5 r=true):dotW p.n (QC q.n r.n)=wd3 p q r:=by
 have p1:=(valid_b hp).1
 have q1:=(valid_b hq).1
 have r1:=(valid_b hr).1
 show _=dotW r.n (QC p.n q.n)
 rw [dotE p1 ((crossW_b q1 r1).mono (by decide)),dotE r1 ((crossW_b p1 q1).mono (by decide)),crossE q1 r1,crossE p1 q1]
 dsimp only
 simp only [Int.mul_sub,Int.mul_comm,Int.mul_left_comm,Int.mul_assoc]
 omega
def vS (p q r:Pl):V3:=if wd3 p q r<0 then QQ (Xw p q r) (-1) else Xw p q r
def wA (p q r:Pl):Int:=if wd3 p q r<0 then -wd3 p q r else wd3 p q r
theorem sum_turn (p q r:Pl):addW (addW (QQ (QC q.n r.n) p.b) (QQ (QC r.n p.n) q.b)) (QQ (QC p.n q.n) r.b)=Xw p q r:=by
 show _=addW (addW (addW ⟨0,0,0⟩ (QQ (QC q.n r.n) p.b)) (QQ (QC r.n p.n) q.b)) (QQ (QC p.n q.n) r.b)
 rw [addW0]
theorem negE {v:V3} (h:VB 267181325549568 v):QQ v (-1)=⟨-v.x,-v.y,-v.z⟩:=by
 obtain ⟨h1,h2,h3⟩:=h
 unfold QQ
 rw [Xk (by omega),Xk (by omega),Xk (by omega)]
 simp
theorem gcd4 (x y z w:Int):Nat.gcd (Nat.gcd x.natAbs y.natAbs) (Nat.gcd z.natAbs w.natAbs)=gL [x,y,z,w]:=by
 unfold gL
 simp only [List.foldl_cons,List.foldl_nil,Nat.gcd_zero_left]
 rw [← Nat.gcd_assoc]
theorem gcd_bd (a b:Int) (ha:a.natAbs<=1000000000000000) (hb:b.natAbs<=1000000000000000):0<=(Nat.gcd a.natAbs b.natAbs:Int)/\(Nat.gcd a.natAbs b.natAbs:Int)<=9223372036854775807:=by
 rcases Nat.eq_zero_or_pos a.natAbs with h | h
 ·rw [h,Nat.gcd_zero_left]; omega
 ·have:=Nat.gcd_le_left b.natAbs h; omega
structure MtB (p q r:Pl):Prop where
 v:VB 267181325549568 (vS p q r)
 w:1<=wA p q r/\wA p q r<=1000000000000
 g:0<gL [(vS p q r).x,(vS p q r).y,(vS p q r).z,wA p q r]
 gl:gL [(vS p q r).x,(vS p q r).y,(vS p q r).z,wA p q r]<=1000000000000
theorem mt_b {p q r:Pl} (hp:Q5 p=true) (hq:Q5 q=true) (hr:Q5 r=true) (h0:wd3 p q r≠0):MtB p q r:=by
 obtain ⟨hs,hw⟩:=sum3_b hp hq hr
 have w:1<=wA p q r/\wA p q r<=1000000000000:=by unfold wA; split <;> omega
 refine ⟨?_,w,gL_pos (x:=wA p q r) (by simp) (by omega),gL_le (x:=wA p q r) (by simp) (by omega) (by omega)⟩
 unfold vS
 split
 ·rw [negE hs]; obtain ⟨h1,h2,h3⟩:=hs; exact ⟨by dsimp only; omega,by dsimp only; omega,by dsimp only; omega⟩
 ·exact hs
theorem mt_turn {p q r:Pl} (hp:Q5 p=true) (hq:Q5 q=true) (hr:Q5 r=true) {g:Int} (hg:g=(gL [(vS p q r).x,(vS p q r).y,(vS p q r).z,wA p q r]:Int)):(⟨W ((vS p q r).x.tdiv g),W ((vS p q r).y.tdiv g),W ((vS p q r).z.tdiv g),W ((wA p q r).tdiv g)⟩:Pt)=mtP p q r:=by
 obtain ⟨hs,hw⟩:=sum3_b hp hq hr
 subst hg
 unfold mtP g3 vS wA
 split
 ·rename_i h
  rw [negE hs]
  have e:gL [-(Xw p q r).x,-(Xw p q r).y,-(Xw p q r).z,-wd3 p q r]=gL [(Xw p q r).x,(Xw p q r).y,(Xw p q r).z,wd3 p q r]:=by simp [gL]
  dsimp only
  rw [e]
  simp only [Int.neg_tdiv,Int.tdiv_neg]
 ·rfl
theorem inn_ge {r:List Pl} {p q:Pl}:∀ {t:List Pl} {l:List Pt},l.length<=(innS r p q l t).length
 | [],l=>Nat.le_refl _
 | s::t,l=>Nat.le_trans (by
  unfold Jg
  split
  ·exact Nat.le_refl _
  ·split
   ·exact Nat.le_refl _
   ·split
    ·simp
    ·exact Nat.le_refl _) (inn_ge (t:=t) (l:=Jg r l p q s))
theorem mid_ge {r:List Pl} {p:Pl}:∀ {t:List Pl} {l:List Pt},l.length<=(midS r p l t).length
 | [],l=>Nat.le_refl _
 | q::t,l=>Nat.le_trans inn_ge (mid_ge (t:=t))
theorem top_ge {r:List Pl}:∀ {t:List Pl} {l:List Pt},l.length<=(topS r l t).length
 | [],l=>Nat.le_refl _
 | p::t,l=>Nat.le_trans mid_ge (top_ge (t:=t))
theorem top_end {r:List Pl} {l:List Pt} {k:Nat} (h:r.length<=k):topS r l (r.drop k)=l:=by rw [List.drop_eq_nil_of_le h]; rfl
theorem mid_end {r:List Pl} {p:Pl} {l:List Pt} {k:Nat} (h:r.length<=k):midS r p l (r.drop k)=l:=by rw [List.drop_eq_nil_of_le h]; rfl
theorem inn_end {r:List Pl} {p q:Pl} {l:List Pt} {k:Nat} (h:r.length<=k):innS r p q l (r.drop k)=l:=by rw [List.drop_eq_nil_of_le h]; rfl
theorem pt_mem {l:List Pt} {x:Pt}:decide (ptK x∈l.map ptK)=decide (x∈l):=by
 by_cases h:x∈l
 ·rw [decide_eq_true h,decide_eq_true (List.mem_map.2 ⟨x,h,rfl⟩)]
 ·rw [decide_eq_false h,decide_eq_false fun hc=>h (by obtain ⟨y,hy,e⟩:=List.mem_map.1 hc; rw [← ptK_inj e]; exact hy)]
theorem any_succ {α:Type} {l:List α} {k:Nat} {x:α} {f:α->Bool} (h:l[k]?=some x):(l.take (k+1)).any f=((l.take k).any f||f x):=by rw [Qv h]; simp
theorem take_all {α:Type} {l:List α} {k:Nat} (h:l.length<=k):l.take k=l:=List.take_of_length_le h
def mcv173:MC:=(.seq (.reg [oN 3 (.box 90 4 (.t 0)) [],oN 4 (.box 90 4 (.t 1)) [],oN 5 (.box 90 4 (.t 2)) [],oN 6 (.alloc 174 4 [(.int .i64 0),(.int .i64 0),(.int .i64 0),(.int .i64 0)]) [],oN 7 (.mv (.c (.bool false))) []] false) (.seq (.reg [oA 11 0 3 [],oN 12 (.ld true 3 (.t 11)) [0],oA 13 0 4 [],oN 14 (.ld true 3 (.t 13)) [2],oA 15 0 5 [],oN 16 (.ld true 3 (.t 15)) [4],oN 17 (.call 200 [(.t 14),(.t 16)]) [3,5],oN 18 (.call 199 [(.t 12),(.t 17)]) [1,6,6],oM 8 18 [7,7,0,1,2,3,4,5,6,7]] true) (.seq (.seq (.reg [oM 19 8 [],oN 20 (.bin .eql (.t 19) (.c (.int .i64 0))) [0]] false) (.cond (.t 20) (.seq (.reg [oN 21 (.build [(.int .i64 0),(.int .i64 0),(.int .i64 0),(.int .i64 0)] []) [],⟨none,(.st 4 (.t 6) (.t 21)),none,[0,0]⟩,oN 7 (.mv (.c (.bool false))) [1,0,1]] false) .ret) .skip)) (.seq (.reg [oA 22 0 4 [],oN 23 (.ld true 3 (.t 22)) [0],oA 24 0 5 [],oN 25 (.ld true 3 (.t 24)) [2],oN 26 (.call 200 [(.t 23),(.t 25)]) [1,3],oA 27 3 3 [],oD 28 1 27 [5],oN 29 (.call 201 [(.t 26),(.t 28)]) [4,6,4],oN 9 (.alloc 88 3 [(.int .i64 0),(.int .i64 0),(.int .i64 0)]) [],⟨none,(.st 3 (.t 9) (.t 29)),none,[8,7,7,0,1,2,3,4,5,6,7,8]⟩] true) (.seq (.reg [oN 30 (.ld true 3 (.t 9)) [],oA 31 0 5 [],oN 32 (.ld true 3 (.t 31)) [1],oA 33 0 3 [],oN 34 (.ld true 3 (.t 33)) [3],oN 35 (.call 200 [(.t 32),(.t 34)]) [2,4],oA 36 3 4 [],oD 37 1 36 [6],oN 38 (.call 201 [(.t 35),(.t 37)]) [5,7,5],oN 39 (.call 202 [(.t 30),(.t 38)]) [0,8,8],⟨none,(.st 3 (.t 9) (.t 39)),none,[9,9,0,1,2,3,4,5,6,7,8,9]⟩] true) (.seq (.reg [oN 40 (.ld true 3 (.t 9)) [],oA 41 0 3 [],oN 42 (.ld true 3 (.t 41)) [1],oA 43 0 4 [],oN 44 (.ld true 3 (.t 43)) [3],oN 45 (.call 200 [(.t 42),(.t 44)]) [2,4],oA 46 3 5 [],oD 47 1 46 [6],oN 48 (.call 201 [(.t 45),(.t 47)]) [5,7,5],oN 49 (.call 202 [(.t 40),(.t 48)]) [0,8,8],⟨none,(.st 3 (.t 9) (.t 49)),none,[9,9,0,1,2,3,4,5,6,7,8,9]⟩] true) (.seq (.seq (.reg [oM 50 8 [],oN 51 (.bin .lss (.t 50) (.c (.int .i64 0))) [0]] false) (.cond (.t 51) (.seq (.reg [oN 52 (.ld true 3 (.t 9)) [],oN 53 (.call 201 [(.t 52),(.c (.int .i64 (-1)))]) [0],⟨none,(.st 3 (.t 9) (.t 53)),none,[1,1,0,1]⟩] false) (.reg [oM 54 8 [],oN 55 (.un .neg (.t 54)) [0],oM 8 55 [1,0,1]] false)) .skip)) (.seq (.reg [oA 56 0 9 [],oD 57 1 56 [0],oA 58 0 9 [],oD 59 1 58 [2],oN 60 (.un .neg (.t 59)) [3],oN 61 (.mx (.t 57) (.t 60)) [1,4],oA 62 1 9 [],oD 63 1 62 [6],oA 64 1 9 [],oD 65 1 64 [8],oN 66 (.un .neg (.t 65)) [9],oN 67 (.mx (.t 63) (.t 66)) [7,10],oN 68 (.call 203 [(.t 61),(.t 67)]) [5,11],oA 69 2 9 [],oD 70 1 69 [13],oA 71 2 9 [],oD 72 1 71 [15],oN 73 (.un .neg (.t 72)) [16],oN 74 (.mx (.t 70) (.t 73)) [14,17],oM 75 8 [],oN 76 (.call 203 [(.t 74),(.t 75)]) [18,19,12],oN 77 (.call 203 [(.t 68),(.t 76)]) [12,20,20],oM 10 77 [21,21,0,1,2,3,4,5,6,7,8,9,10,11,12,13,14,15,16,17,18,19,20,21]] true) (.seq (.reg [oA 78 0 9 [],oD 79 1 78 [0],oM 80 10 [],oN 81 (.bin .quo (.t 79) (.t 80)) [1,2],oA 82 1 9 [],oD 83 1 82 [4],oM 84 10 [],oN 85 (.bin .quo (.t 83) (.t 84)) [5,6],oA 86 2 9 [],oD 87 1 86 [8],oM 88 10 [],oN 89 (.bin .quo (.t 87) (.t 88)) [9,10],oM 90 8 [],oM 91 10 [],oN 92 (.bin .quo (.t 90) (.t 91)) [12,13],oN 93 (.build [(.int .i64 0),(.int .i64 0),(.int .i64 0),(.int .i64 0)] [(0,(1,(.t 81))),(1,(1,(.t 85))),(2,(1,(.t 89))),(3,(1,(.t 92)))]) [3,7,11,14],⟨none,(.st 4 (.t 6) (.t 93)),none,[15,0,1,2,3,4,5,6,7,8,9,10,11,12,13,14,15]⟩,oN 7 (.mv (.c (.bool true))) [16,0,1,2,3,4,5,6,7,8,9,10,11,12,13,14,15,16]] true) .ret)))))))))
theorem mcOkv173:okM Tryz.prog Tryz.f173 94=some mcv173:=by kernel_rfl
set_option maxHeartbeats 1000000 in
theorem vc173_n (p q r:Pl) (hp:Q5 p=true) (hq:Q5 q=true) (hr:Q5 r=true) (h0:wd3 p q r=0):FC Tryz.prog 173 [.agg (cPl p),.agg (cPl q),.agg (cPl r)] [] (.tup [.agg [iv 0,iv 0,iv 0,iv 0],.bool false]) [] false:=by
 refine Qj (nt:=94) Tryz.func173 rfl rfl mcOkv173 (nL rfl) ?_
 delta mcv173
 refine gA 16 rfl (cN rfl rfl (vc200 q.n r.n) (gR 0 rfl (cN rfl rfl (vc199 p.n (QC q.n r.n)) (gR 1 rfl (QJ (by kernel_rfl) (gP 4 rfl (rs_eql rfl rfl rfl (gR 1 rfl (Qe rfl (fun h20=>?_) (fun h20=>?_))))))))))
 ·replace h20:=of_decide_eq_true h20
  refine gK 7 rfl ?_
  exact Qk <| Qs rfl (Xc (.cons (Q3 rfl (.inr rfl)) (.cons (Q3 rfl (.inr rfl)) .nil))) .nil
 ·replace h20:=of_decide_eq_false h20
  refine gK 2 rfl ?_
  exact absurd (by rw [wd_turn hp hq hr]; exact h0) h20
set_option maxHeartbeats 1000000 in
theorem vc173_s (p q r:Pl) (hp:Q5 p=true) (hq:Q5 q=true) (hr:Q5 r=true) (h0:wd3 p q r≠0):FC Tryz.prog 173 [.agg (cPl p),.agg (cPl q),.agg (cPl r)] [] (.tup [.agg (cPt (mtP p q r)),.bool true]) [] false:=by
 refine Qj (nt:=94) Tryz.func173 rfl rfl mcOkv173 (nL rfl) ?_
 delta mcv173
 refine gA 16 rfl (cN rfl rfl (vc200 q.n r.n) (gR 0 rfl (cN rfl rfl (vc199 p.n (QC q.n r.n)) (gR 1 rfl (QJ (by kernel_rfl) (gP 4 rfl (rs_eql rfl rfl rfl (gR 1 rfl (Qe rfl (fun h20=>?_) (fun h20=>?_))))))))))
 ·replace h20:=of_decide_eq_true h20
  refine gK 1 rfl ?_
  exact absurd (by rw [← wd_turn hp hq hr]; exact h20) h0
 ·replace h20:=of_decide_eq_false h20
  refine gK 7 rfl (cN rfl rfl (vc200 q.n r.n) (gR 2 rfl (cN rfl rfl (vc201 (QC q.n r.n) p.b) (gR 2 rfl (QJ (by kernel_rfl) (gP 7 rfl (cN rfl rfl (vc200 r.n p.n) (gR 2 rfl (cN rfl rfl (vc201 (QC r.n p.n) q.b) (gR 0 rfl (cN rfl rfl (vc202 (QQ (QC q.n r.n) p.b) (QQ (QC r.n p.n) q.b)) ?_)))))))))))
  refine gR 1 rfl (QJ (by kernel_rfl) (gP 7 rfl (cN rfl rfl (vc200 p.n q.n) (gR 2 rfl (cN rfl rfl (vc201 (QC p.n q.n) r.b) (gR 0 rfl (cN rfl rfl (vc202 (addW (QQ (QC q.n r.n) p.b) (QQ (QC r.n p.n) q.b)) (QQ (QC p.n q.n) r.b)) (gR 1 rfl (QJ (by kernel_rfl) (gP 2 rfl ?_))))))))))
  have hwd:=wd_turn hp hq hr
  have hw0:=(sum3_b hp hq hr).2
  refine gI 4 rfl (Qe rfl (fun h51=>?_) (fun h51=>?_))
  ·replace h51:=of_decide_eq_true h51
   refine gK 3 rfl (cN rfl rfl (vc201 (addW (addW (QQ (QC q.n r.n) p.b) (QQ (QC r.n p.n) q.b)) (QQ (QC p.n q.n) r.b)) (-1)) (gR 4 rfl (Jz rfl rfl (by omega) (gR 3 rfl (QE (F0:=[(6,.ptr 6 0 0),(8,iv (wA p q r)),(9,.ptr 9 0 0)]) (H0:=[(6,.cells 174 4 [[iv 0,iv 0,iv 0,iv 0]] true),(9,.cells 88 3 [cV (vS p q r)] true)]) (Qa (.cs (.cons rfl (rc_int (by unfold wA; rw [if_pos (by omega),hwd])) (.cs (.nil)))) (.keep (rfl) rfl (.keep (by unfold vS; rw [if_pos (by omega),← sum_turn]; rfl) rfl (.nil))) (fun i h=>by cases h)) ?_)))))
   have hm:=mt_b hp hq hr h0
   obtain ⟨⟨hx,hy,hz⟩,hw,hg,hgl⟩:=hm
   refine gK 5 rfl (Jz rfl rfl (by omega) (gR 0 rfl (rs_mx (c:=((vS p q r).x.natAbs:Int)) rfl rfl rfl (by omega) (gR 4 rfl (Jz rfl rfl (by omega) (gR 0 rfl (rs_mx (c:=((vS p q r).y.natAbs:Int)) rfl rfl rfl (by omega) (gR 0 rfl (cN rfl rfl (vc203 ((vS p q r).x.natAbs:Int) ((vS p q r).y.natAbs:Int) (by omega) (by omega)) (gR 4 rfl (Jz rfl rfl (by omega) ?_)))))))))))
   refine gR 0 rfl (rs_mx (c:=((vS p q r).z.natAbs:Int)) rfl rfl rfl (by omega) (gR 1 rfl ?_))
   have hwg:0<=wA p q r/\wA p q r<=9223372036854775807:=by omega
   refine cN rfl rfl (vc203 ((vS p q r).z.natAbs:Int) (wA p q r) (by omega) hwg) ?_
   have hgx:Nat.gcd (Nat.gcd (vS p q r).x.natAbs (vS p q r).y.natAbs) (Nat.gcd (vS p q r).z.natAbs (wA p q r).natAbs)=gL [(vS p q r).x,(vS p q r).y,(vS p q r).z,wA p q r]:=gcd4 _ _ _ _
   have hg1:0<=(Nat.gcd ((vS p q r).x.natAbs:Int).natAbs ((vS p q r).y.natAbs:Int).natAbs:Int)/\(Nat.gcd ((vS p q r).x.natAbs:Int).natAbs ((vS p q r).y.natAbs:Int).natAbs:Int)<=9223372036854775807:=gcd_bd _ _ (by omega) (by omega)
   have hg2:0<=(Nat.gcd ((vS p q r).z.natAbs:Int).natAbs (wA p q r).natAbs:Int)/\(Nat.gcd ((vS p q r).z.natAbs:Int).natAbs (wA p q r).natAbs:Int)<=9223372036854775807:=gcd_bd _ _ (by omega) (by omega)
   refine gR 0 rfl (cN rfl rfl (vc203 _ _ hg1 hg2) (gR 1 rfl (QJ (by kernel_rfl) (gP 3 rfl ?_))))
   have hgq:((Nat.gcd (Nat.gcd (vS p q r).x.natAbs (vS p q r).y.natAbs) (Nat.gcd (vS p q r).z.natAbs (wA p q r).natAbs):Nat):Int)≠0:=by omega
   refine gI 2 rfl (Xm rfl rfl rfl hgq rfl (gR 3 rfl (Xm rfl rfl rfl hgq rfl (gR 3 rfl (Xm rfl rfl rfl hgq rfl (gR 2 rfl (Xm rfl rfl rfl hgq rfl (gR 3 rfl (QJ (by kernel_rfl) (gP 1 rfl ?_))))))))))
   rw [← mt_turn hp hq hr (g:=((Nat.gcd (Nat.gcd (vS p q r).x.natAbs (vS p q r).y.natAbs) (Nat.gcd (vS p q r).z.natAbs (wA p q r).natAbs):Nat):Int)) (by rw [hgx])]
   exact Qk <| Qs rfl (Xc (.cons (Q3 rfl (.inr rfl)) (.cons (Q3 rfl (.inr rfl)) .nil))) .nil
  ·replace h51:=of_decide_eq_false h51
   refine gK 2 rfl (QE (F0:=[(6,.ptr 6 0 0),(8,iv (wA p q r)),(9,.ptr 9 0 0)]) (H0:=[(6,.cells 174 4 [[iv 0,iv 0,iv 0,iv 0]] true),(9,.cells 88 3 [cV (vS p q r)] true)]) (Qa (.cs (.cons rfl (rc_int (by unfold wA; rw [if_neg (by omega),hwd])) (.cs (.nil)))) (.keep (rfl) rfl (.keep (by unfold vS; rw [if_neg (by omega),← sum_turn]; rfl) rfl (.nil))) (fun i h=>by cases h)) ?_)
   have hm:=mt_b hp hq hr h0
   obtain ⟨⟨hx,hy,hz⟩,hw,hg,hgl⟩:=hm
   refine gK 5 rfl (Jz rfl rfl (by omega) (gR 0 rfl (rs_mx (c:=((vS p q r).x.natAbs:Int)) rfl rfl rfl (by omega) (gR 4 rfl (Jz rfl rfl (by omega) (gR 0 rfl (rs_mx (c:=((vS p q r).y.natAbs:Int)) rfl rfl rfl (by omega) (gR 0 rfl (cN rfl rfl (vc203 ((vS p q r).x.natAbs:Int) ((vS p q r).y.natAbs:Int) (by omega) (by omega)) (gR 4 rfl (Jz rfl rfl (by omega) ?_)))))))))))
   refine gR 0 rfl (rs_mx (c:=((vS p q r).z.natAbs:Int)) rfl rfl rfl (by omega) (gR 1 rfl ?_))
   have hwg:0<=wA p q r/\wA p q r<=9223372036854775807:=by omega
   refine cN rfl rfl (vc203 ((vS p q r).z.natAbs:Int) (wA p q r) (by omega) hwg) ?_
   have hgx:Nat.gcd (Nat.gcd (vS p q r).x.natAbs (vS p q r).y.natAbs) (Nat.gcd (vS p q r).z.natAbs (wA p q r).natAbs)=gL [(vS p q r).x,(vS p q r).y,(vS p q r).z,wA p q r]:=gcd4 _ _ _ _
   have hg1:0<=(Nat.gcd ((vS p q r).x.natAbs:Int).natAbs ((vS p q r).y.natAbs:Int).natAbs:Int)/\(Nat.gcd ((vS p q r).x.natAbs:Int).natAbs ((vS p q r).y.natAbs:Int).natAbs:Int)<=9223372036854775807:=gcd_bd _ _ (by omega) (by omega)
   have hg2:0<=(Nat.gcd ((vS p q r).z.natAbs:Int).natAbs (wA p q r).natAbs:Int)/\(Nat.gcd ((vS p q r).z.natAbs:Int).natAbs (wA p q r).natAbs:Int)<=9223372036854775807:=gcd_bd _ _ (by omega) (by omega)
   refine gR 0 rfl (cN rfl rfl (vc203 _ _ hg1 hg2) (gR 1 rfl (QJ (by kernel_rfl) (gP 3 rfl ?_))))
   have hgq:((Nat.gcd (Nat.gcd (vS p q r).x.natAbs (vS p q r).y.natAbs) (Nat.gcd (vS p q r).z.natAbs (wA p q r).natAbs):Nat):Int)≠0:=by omega
   refine gI 2 rfl (Xm rfl rfl rfl hgq rfl (gR 3 rfl (Xm rfl rfl rfl hgq rfl (gR 3 rfl (Xm rfl rfl rfl hgq rfl (gR 2 rfl (Xm rfl rfl rfl hgq rfl (gR 3 rfl (QJ (by kernel_rfl) (gP 1 rfl ?_))))))))))
   rw [← mt_turn hp hq hr (g:=((Nat.gcd (Nat.gcd (vS p q r).x.natAbs (vS p q r).y.natAbs) (Nat.gcd (vS p q r).z.natAbs (wA p q r).natAbs):Nat):Int)) (by rw [hgx])]
   exact Qk <| Qs rfl (Xc (.cons (Q3 rfl (.inr rfl)) (.cons (Q3 rfl (.inr rfl)) .nil))) .nil
end Go.Proofs.YthfhaoogcpfboaaGreat
namespace Go.Proofs.YthfhaoogcpfboaaGreat
open Go.RowKit
set_option maxRecDepth 100000
set_option linter.unusedVariables false
theorem with_f {r:List Pl} {x:Pt} {p:Pl} (hp:p∈r) (h:JO p x<0):XX r x=false:=by
 unfold XX; rw [List.any_eq_true.2 ⟨p,hp,decide_eq_true h⟩]; rfl
theorem at_mem {α:Type} {l:List α} {x:α}:∀ {k:Nat},l.length<=k->(∀ j y,j<k->l[j]?=some y->y≠x)->x ∉ l:=fun hk h hm=>by
 obtain ⟨j,hj⟩:=List.mem_iff_getElem?.1 hm
 obtain ⟨hl,_⟩:=List.getElem?_eq_some_iff.1 hj
 exact h j x (by omega) hj rfl
theorem ptK_eq {x y:Pt}:decide ([y.x,y.y,y.z,y.w]=[x.x,x.y,x.z,x.w])=decide (y=x):=by cases x; cases y; simp
theorem rs_aeq_p {P:Program} {N:Nat} {F:Fr} {H:Hp} {ml:List MOper} {K:List Fp->Fr->Hp->Prop} {d:Nat} {g:Option (Nat×Bool)} {pre:List Nat} {a b:Arg} {y z:Pt} (hg:gOK F g=true) (ha:Ql F a=some (.agg (cPt y))) (hb:Ql F b=some (.agg (cPt z)))
  (h:RS P N ml ((d,.bool (decide (y=z)))::F) H (fun fps=>K (([],[])::fps))):RS P N (⟨some d,.aeq false 4 a b,g,pre⟩::ml) F H K :=
 rs_aeq [y.x,y.y,y.z,y.w] [z.x,z.y,z.z,z.w] hg ha hb rfl rfl rfl rfl (by rw [ptK_eq]; simp) h
theorem all_of (c:List Pl):ofS [c]=c++JC ⟨-24,-24,-24⟩ ⟨24,24,24⟩:=by simp [ofS,norms,JC,wsP]
theorem corn_bd {r:List Pl} {p q:Pl} {l:List Pt} {t t' t'':List Pl} (hr:r.length<=110) (h:topS r (midS r p (innS r p q l t) t') t''=Xo r):l.length<=1331000:=by
 have h1:=inn_ge (r:=r) (p:=p) (q:=q) (t:=t) (l:=l)
 have h2:=mid_ge (r:=r) (p:=p) (t:=t') (l:=innS r p q l t)
 have h3:=top_ge (r:=r) (t:=t'') (l:=midS r p (innS r p q l t) t')
 have h4:=corn_len hr
 rw [h] at h3; omega
theorem acc_w {r:List Pl} {l:List Pt} {p q s:Pl} (h:XX r (mtP p q s)=false):Jg r l p q s=l:=by
 unfold Jg; split
 ·rfl
 ·split
  ·rfl
  ·rw [if_neg (by rw [h]; decide)]
theorem acc_m {r:List Pl} {l:List Pt} {p q s:Pl} (h:decide (mtP p q s∈l)=true):Jg r l p q s=l:=by
 unfold Jg; split
 ·rfl
 ·rw [if_pos (of_decide_eq_true (by rw [pt_mem]; exact h))]
theorem acc_n {r:List Pl} {l:List Pt} {p q s:Pl} (h0:wd3 p q s≠0) (hw:XX r (mtP p q s)=true) (h:decide (mtP p q s∈l)=false):Jg r l p q s=l++[mtP p q s] :=
 acc_3 h0 (by rw [pt_mem]; exact h) hw
theorem ck0 {c:List Pl} (h:ckS c=0):XQ [c]=true:=by unfold XQ badC; simp [h]
theorem ck1 {c:List Pl} (h:¬ ckS c=0):XQ [c]=false:=by unfold XQ badC; simp [h]
def mcv174:MC:=(.seq (.reg [oN 3 (.box 174 4 (.t 1)) [],oN 4 (.mv (.c (.bool false))) []] false) (.seq (.seq (.reg [oN 5 (.mv (.c (.int .i64 0))) []] false) (.block 0 (.loop (.seq (.seq (.reg [oM 6 5 [],oM 7 0 [],oN 8 (.len (.t 7)) [1],oN 9 (.bin .lss (.t 6) (.t 8)) [0,2]] false) (.cond (.t 9) .skip (.exit 0))) (.seq (.block 1 (.seq (.reg [oM 12 0 [],oM 13 5 [],oN 14 (.ixsl 4 (.t 12) (.t 13)) [0,1],oN 15 (.ld true 4 (.t 14)) [2],oN 16 (.ld true 4 (.t 3)) [],oN 17 (.call 141 [(.t 15),(.t 16)]) [3,4],oN 18 (.bin .lss (.t 17) (.c (.int .i64 0))) [5]] true) (.cond (.t 18) (.seq (.reg [oN 4 (.mv (.c (.bool false))) []] false) .ret) .skip))) (.reg [oM 10 5 [],oN 11 (.bin .add (.t 10) (.c (.int .i64 1))) [0],oM 5 11 [1,0,1]] false)))))) (.seq (.reg [oN 4 (.mv (.c (.bool true))) []] false) .ret)))
theorem mcOkv174:okM Tryz.prog Tryz.f174 19=some mcv174:=by kernel_rfl
theorem vc174 (r:List Pl) (x:Pt) (hr:r.length<=1000):FC Tryz.prog 174 [.rs 4 (r.map cPl),.agg (cPt x)] [] (.bool (XX r x)) [] false:=by
 refine Qj (nt:=19) Tryz.func174 rfl rfl mcOkv174 (nL rfl) ?_
 delta mcv174
 refine gA 11 rfl ?_
 refine Qr (α:=Nat) (fun k=>r.length-k) (fun k=>[(0,.rs 4 (r.map cPl)),(3,.ptr 3 0 0),(4,.bool false),(5,iv (((k):Nat):Int))]) (fun k=>[(3,.cells 174 4 [cPt x] true)]) (fun k=>k<=r.length/\(r.take k).any (outB x)=false) 0 (⟨by omega,rfl⟩)
  (Qa (Qb rfl rfl) (.keep rfl rfl .nil) nz) ?_
 rintro k ⟨hk,hinv⟩
 refine gT 5 rfl (Qh rfl rfl (gR 2 rfl (Qe rfl (fun h9=>?_) (fun h9=>?_))))
 ·replace h9:=of_decide_eq_true h9
  refine gK 7 rfl ?_
  obtain ⟨p,hpk,hpm⟩:=Qo (L:=r) (k:=k) (by omega)
  refine Qp (f:=cPl) (y:=p) rfl rfl rfl (by omega) hpk (gR 2 rfl (cN rfl rfl (vc141 p x) (gR 1 rfl (QJ (by kernel_rfl) (gP 0 rfl (Qe rfl (fun h18=>?_) (fun h18=>?_)))))))
  ·replace h18:=of_decide_eq_true h18
   refine gK 5 rfl ?_
   rw [with_f hpm h18]
   exact Qk <| Qc rfl rfl rfl (.inr rfl)
  ·replace h18:=of_decide_eq_false h18
   refine gK 3 rfl (Qg rfl rfl rfl (by omega) (gR 2 rfl ?_))
   exact Q8 <| ⟨k+1,⟨by omega,by rw [any_succ hpk,hinv]; exact decide_eq_false h18⟩,by omega,Qa (Qb rfl rfl) (.keep rfl rfl .nil) nz⟩
 ·replace h9:=of_decide_eq_false h9
  refine gK 6 rfl ?_
  rw [take_all (by omega)] at hinv
  rw [show XX r x=true from by unfold XX; rw [hinv]; rfl]
  exact Qk <| Qc rfl rfl rfl (.inr rfl)
def mcv175:MC:=(.seq (.reg [oN 3 (.box 174 4 (.t 1)) [],oN 4 (.mv (.c (.bool false))) []] false) (.seq (.seq (.reg [oN 5 (.mv (.c (.int .i64 0))) []] false) (.block 0 (.loop (.seq (.seq (.reg [oM 6 5 [],oM 7 0 [],oN 8 (.len (.t 7)) [1],oN 9 (.bin .lss (.t 6) (.t 8)) [0,2]] false) (.cond (.t 9) .skip (.exit 0))) (.seq (.block 1 (.seq (.reg [oM 12 0 [],oM 13 5 [],oN 14 (.ixsl 4 (.t 12) (.t 13)) [0,1],oN 15 (.ld true 4 (.t 14)) [2],oN 16 (.ld true 4 (.t 3)) [],oN 17 (.aeq false 4 (.t 15) (.t 16)) [3,4]] true) (.cond (.t 17) (.seq (.reg [oN 4 (.mv (.c (.bool true))) []] false) .ret) .skip))) (.reg [oM 10 5 [],oN 11 (.bin .add (.t 10) (.c (.int .i64 1))) [0],oM 5 11 [1,0,1]] false)))))) (.seq (.reg [oN 4 (.mv (.c (.bool false))) []] false) .ret)))
theorem mcOkv175:okM Tryz.prog Tryz.f175 18=some mcv175:=by kernel_rfl
theorem vc175 (l:List Pt) (x:Pt) (hl:l.length<=2000000):FC Tryz.prog 175 [.rs 4 (l.map cPt),.agg (cPt x)] [] (.bool (decide (x∈l))) [] false:=by
 refine Qj (nt:=18) Tryz.func175 rfl rfl mcOkv175 (nL rfl) ?_
 delta mcv175
 refine Q4 (QF (QO 2 rfl (Qz fun _=>QK (Q4 (Q4 (QF (Xp rfl rfl (Qz fun _=>QK (XI ?_)))))))))
 refine Qr (α:=Nat) (fun k=>l.length-k) (fun k=>[(0,.rs 4 (l.map cPt)),(3,.ptr 3 0 0),(4,.bool false),(5,iv (((k):Nat):Int))]) (fun k=>[(3,.cells 174 4 [cPt x] true)]) (fun k=>k<=l.length/\∀ (j:Nat) (y:Pt),j<k->l[j]?=some y->y≠x) 0 (⟨by omega,fun j y h=>absurd h (by omega)⟩)
  (Qa (.cs (.cs (.cs (.cs (.nil))))) (.keep (rfl) rfl (.nil)) (fun i h=>by cases h)) ?_
 rintro k ⟨hk,hinv⟩
 refine Q4 (Q4 (QF (QO 2 rfl (Qh rfl rfl (rs_lss rfl rfl rfl (Qz fun _=>QK (Qe rfl (fun h9=>?_) (fun h9=>?_))))))))
 ·replace h9:=of_decide_eq_true h9
  refine Jp (QK (Q4 (XI (Q4 (aw_draw hmix (QO 2 rfl ?_))))))
  obtain ⟨y,hyk,hym⟩:=Qo (L:=l) (k:=k) (by omega)
  refine Qp (f:=cPt) (y:=y) rfl rfl rfl (by omega) hyk (QG rfl rfl (nL rfl) rfl (rs_ld_pa rfl rfl rfl rfl (nL rfl) rfl (rs_aeq_p (y:=y) (z:=x) rfl rfl rfl ?_)))
  cases h17:decide (y=x)
  ·skip
   refine Qz ⟨by kernel_rfl,fun _=>?_⟩
   refine QK (Qe rfl (fun h=>by cases h) (fun _=>?_))
   refine Jp (in_n (QK (QF (Xp rfl rfl (Qg rfl rfl rfl (by omega) (Xp rfl rfl (Qz fun _=>QK ?_)))))))
   exact ⟨k+1,⟨by omega,fun j z hj hz=>by
    rcases Nat.lt_or_ge j k with h | h
    ·exact hinv j z h hz
    ·obtain rfl:j=k:=by omega
     rw [hyk] at hz; cases hz
     exact of_decide_eq_false h17⟩,by omega,Qa (.cs (.cs (.cs (.cs (.nil))))) (.keep (rfl) rfl (.nil)) (fun i h=>by cases h)⟩
  ·skip
   refine Qz ⟨by kernel_rfl,fun _=>?_⟩
   refine QK (Qe rfl (fun _=>?_) (fun h=>by cases h))
   refine Q4 (QF (Xp rfl rfl (Qz fun _=>QK (J2 (in_r (th_r (th_r (in_r (th_r ?_)))))))))
   rw [show decide (x∈l)=true from decide_eq_true (by rw [← of_decide_eq_true h17]; exact hym)]
   exact Qc rfl rfl rfl (.inr rfl)
 ·replace h9:=of_decide_eq_false h9
  refine aw_exit (th_e (th_e (in_hit (QK (Q4 (QF (Xp rfl rfl (Qz fun _=>QK (J2 ?_)))))))))
  rw [show decide (x∈l)=false from decide_eq_false (at_mem (k:=k) (by omega) hinv)]
  exact Qc rfl rfl rfl (.inr rfl)
def mcv101:MC:=(.seq (.reg [oN 2 (.mv (.c .nils)) []] false) (.seq (.reg [oN 5 (.build [(.int .i64 0),(.int .i64 0),(.int .i64 0)] [(0,(1,(.c (.int .i64 24)))),(1,(1,(.c (.int .i64 24)))),(2,(1,(.c (.int .i64 24))))]) [],oN 3 (.alloc 88 3 [(.int .i64 0),(.int .i64 0),(.int .i64 0)]) [],⟨none,(.st 3 (.t 3) (.t 5)),none,[1,0,0,1]⟩] false) (.seq (.reg [oN 6 (.build [(.int .i64 0),(.int .i64 0),(.int .i64 0)] [(0,(1,(.c (.int .i64 (-24))))),(1,(1,(.c (.int .i64 (-24))))),(2,(1,(.c (.int .i64 (-24)))))]) [],oN 4 (.alloc 88 3 [(.int .i64 0),(.int .i64 0),(.int .i64 0)]) [],⟨none,(.st 3 (.t 4) (.t 6)),none,[1,0,0,1]⟩] false) (.seq (.reg [oN 7 (.bslice 90 4 [(.int .i64 0),(.int .i64 0),(.int .i64 0),(.int .i64 0)] 0 []) [],oM 8 0 [],oN 9 (.app 90 4 32 [(.int .i64 0),(.int .i64 0),(.int .i64 0),(.int .i64 0)] (.t 7) (.t 8)) [0,1],oN 10 (.ld true 3 (.t 4)) [],oN 11 (.ld true 3 (.t 3)) [],oN 12 (.call 47 [(.t 10),(.t 11)]) [3,4,2],oN 13 (.app 90 4 32 [(.int .i64 0),(.int .i64 0),(.int .i64 0),(.int .i64 0)] (.t 9) (.t 12)) [2,5,5],oM 2 13 [6,6,0,1,2,3,4,5,6]] true) .ret))))
theorem mcOkv101:okM Tryz.prog Tryz.f101 14=some mcv101:=by kernel_rfl
theorem vc101 (c:List Pl) (hc:c.length<=1000):FC Tryz.prog 101 [.rs 4 (c.map cPl)] [] (.rs 4 ((ofS [c]).map cPl)) [] false:=by
 refine Qj (nt:=14) Tryz.func101 rfl rfl mcOkv101 (nL rfl) ?_
 delta mcv101
 refine gA 18 rfl (Qi (l:=[]) (els:=[]) (fl:=true) rfl (by kernel_rfl) rfl rfl rfl rfl (gR 1 rfl (JZ (f:=cPl) (ys:=c) (n:=c.length) (rd:=[]) rfl rfl rfl rfl rfl rfl rfl (by simp) (fun _=>rfl) rfl (by omega) (by omega) (fun _=>rfl) (gR 2 rfl (cN rfl rfl (vc47 ⟨-24,-24,-24⟩ ⟨24,24,24⟩ (by decide)) (gR 0 rfl (rs_app_mm (f:=cPl) (xs:=c) (ys:=JC ⟨-24,-24,-24⟩ ⟨24,24,24⟩) (n:=c.length) (m:=6) (rd:=[]) rfl rfl rfl rfl rfl rfl rfl (by simp) (fun _=>rfl) rfl rfl (by omega) (by omega) (fun _=>rfl) (gR 1 rfl (QJ (by kernel_rfl) (gP 1 rfl ?_))))))))))
 rw [all_of]
 exact Qk <| Qs rfl (Xr (f:=cPl) (xs:=c++JC ⟨-24,-24,-24⟩ ⟨24,24,24⟩) rfl rfl (by simp [JC]) (fun _=>rfl)) .nil
def mcv140:MC:=(.seq (.reg [oN 2 (.mv (.c .nils)) []] false) (.seq (.reg [oN 3 (.mv (.c .nils)) []] false) (.seq (.seq (.reg [oN 4 (.mv (.c (.int .i64 0))) []] false) (.block 0 (.loop (.seq (.seq (.reg [oM 9 4 [],oM 10 0 [],oN 11 (.len (.t 10)) [1],oN 12 (.bin .lss (.t 9) (.t 11)) [0,2]] false) (.cond (.t 12) .skip (.exit 0))) (.seq (.block 1 (.seq (.reg [oM 15 4 [],oN 16 (.bin .add (.t 15) (.c (.int .i64 1))) [0],oM 5 16 [1,0,1]] false) (.block 2 (.loop (.seq (.seq (.reg [oM 17 5 [],oM 18 0 [],oN 19 (.len (.t 18)) [1],oN 20 (.bin .lss (.t 17) (.t 19)) [0,2]] false) (.cond (.t 20) .skip (.exit 2))) (.seq (.block 3 (.seq (.reg [oM 23 5 [],oN 24 (.bin .add (.t 23) (.c (.int .i64 1))) [0],oM 6 24 [1,0,1]] false) (.block 4 (.loop (.seq (.seq (.reg [oM 25 6 [],oM 26 0 [],oN 27 (.len (.t 26)) [1],oN 28 (.bin .lss (.t 25) (.t 27)) [0,2]] false) (.cond (.t 28) .skip (.exit 4))) (.seq (.block 5 (.seq (.reg [oM 32 0 [],oM 33 4 [],oN 34 (.ixsl 4 (.t 32) (.t 33)) [0,1],oN 35 (.ld true 4 (.t 34)) [2],oM 36 0 [],oM 37 5 [],oN 38 (.ixsl 4 (.t 36) (.t 37)) [4,5],oN 39 (.ld true 4 (.t 38)) [6],oM 40 0 [],oM 41 6 [],oN 42 (.ixsl 4 (.t 40) (.t 41)) [8,9],oN 43 (.ld true 4 (.t 42)) [10],oN 44 (.call 173 [(.t 35),(.t 39),(.t 43)]) [3,7,11],oM 31 44 [12],oN 45 (.ext (.t 31) 0) [13],oN 46 (.ext (.t 31) 1) [13],oN 7 (.alloc 174 4 [(.int .i64 0),(.int .i64 0),(.int .i64 0),(.int .i64 0)]) [],⟨none,(.st 4 (.t 7) (.t 45)),none,[16,14,12,0,1,2,3,4,5,6,7,8,9,10,11,12,13,14,16]⟩,oM 8 46 [15,17,0,1,2,3,4,5,6,7,8,9,10,11,12,13,14,15,16,17]] true) (.seq (.reg [oM 47 8 [],oM 48 47 [0],pM 49 0 48 true [1],oG 50 (.ld true 4 (.t 7)) 48 true [1],oG 51 (.call 174 [(.t 49),(.t 50)]) 48 true [2,3,1,1],oN 52 (.pick (.t 48) (.t 51) (.c (.bool false))) [1,4],oM 53 52 [5,4],pM 54 3 53 true [6],oG 55 (.ld true 4 (.t 7)) 53 true [6],oG 56 (.call 175 [(.t 54),(.t 55)]) 53 true [7,8,6,6],oG 57 (.un .not (.t 56)) 53 true [9,6],oN 58 (.pick (.t 53) (.t 57) (.c (.bool false))) [6,10]] false) (.cond (.t 58) (.reg [oM 59 3 [],oN 60 (.ld true 4 (.t 7)) [],oN 61 (.bslice 174 4 [(.int .i64 0),(.int .i64 0),(.int .i64 0),(.int .i64 0)] 1 [(0,(.t 60))]) [1],oN 62 (.app 174 4 32 [(.int .i64 0),(.int .i64 0),(.int .i64 0),(.int .i64 0)] (.t 59) (.t 61)) [0,2],oM 3 62 [3,3,0,1,2,3]] false) .skip)))) (.reg [oM 29 6 [],oN 30 (.bin .add (.t 29) (.c (.int .i64 1))) [0],oM 6 30 [1,0,1]] false))))))) (.reg [oM 21 5 [],oN 22 (.bin .add (.t 21) (.c (.int .i64 1))) [0],oM 5 22 [1,0,1]] false))))))) (.reg [oM 13 4 [],oN 14 (.bin .add (.t 13) (.c (.int .i64 1))) [0],oM 4 14 [1,0,1]] false)))))) (.seq (.reg [oM 63 3 [],oM 2 63 [0,0]] false) .ret))))
theorem mcOkv140:okM Tryz.prog Tryz.f140 64=some mcv140:=by kernel_rfl
set_option maxHeartbeats 1000000 in
theorem vc140 (r:List Pl) (hr:r.length<=110) (hv:∀ p∈r,Q5 p=true):FC Tryz.prog 140 [.rs 4 (r.map cPl)] [] (.rs 4 ((Xo r).map cPt)) [] false:=by
 refine Qj (nt:=64) Tryz.func140 rfl rfl mcOkv140 (nL rfl) ?_
 delta mcv140
 refine gA 14 rfl ?_
 refine Qr (α:=Nat×List Pt) (fun s=>r.length-s.1) (fun s=>[(0,.rs 4 (r.map cPl)),(2,.nils),(3,.sl 901 0 (s.2).length),(4,iv (((s.1):Nat):Int))]) (fun s=>[(901,.cells 174 4 ((s.2).map cPt) true)]) (fun s=>s.1<=r.length/\topS r s.2 (r.drop s.1)=Xo r) (0,[]) (⟨by omega,rfl⟩)
  (Qa (.cs (.cs (.cons rfl (J4 rfl rfl) (.cs (.nil))))) (.virt rfl (.nil)) (fun i h=>by cases h)) ?_
 rintro ⟨i,l⟩ ⟨hi,hinv⟩
 dsimp only at hi hinv ⊢
 refine gT 5 rfl (Qh rfl rfl (gR 2 rfl (Qe rfl (fun h12=>?_) (fun h12=>?_))))
 ·replace h12:=of_decide_eq_true h12
  refine gK 5 rfl ?_
  obtain ⟨p,hpi,hpm⟩:=Qo (L:=r) (k:=i) (by omega)
  rw [topS_at hpi] at hinv
  refine gI 1 rfl (Qg rfl rfl rfl (by omega) (gR 3 rfl ?_))
  refine Qr (α:=Nat×List Pt) (fun s=>r.length-s.1) (fun s=>[(0,.rs 4 (r.map cPl)),(2,.nils),(3,.sl 901 0 (s.2).length),(4,iv (((i):Nat):Int)),(5,iv (((s.1):Nat):Int))]) (fun s=>[(901,.cells 174 4 ((s.2).map cPt) true)]) (fun s=>i+1<=s.1/\s.1<=r.length/\topS r (midS r p s.2 (r.drop s.1)) (r.drop (i+1))=Xo r) (i+1,l) (⟨by dsimp only; omega,by dsimp only; omega,hinv⟩)
   (Qa (Qb rfl rfl) (.keep rfl rfl .nil) nz) ?_
  rintro ⟨j,l⟩ ⟨hij,hj,hinv⟩
  dsimp only at hij hj hinv ⊢
  refine gT 5 rfl (Qh rfl rfl (gR 2 rfl (Qe rfl (fun h20=>?_) (fun h20=>?_))))
  ·replace h20:=of_decide_eq_true h20
   refine gK 5 rfl ?_
   obtain ⟨q,hqj,hqm⟩:=Qo (L:=r) (k:=j) (by omega)
   rw [midS_at hqj] at hinv
   refine gI 1 rfl (Qg rfl rfl rfl (by omega) (gR 3 rfl ?_))
   refine Qr (α:=Nat×List Pt) (fun s=>r.length-s.1) (fun s=>[(0,.rs 4 (r.map cPl)),(2,.nils),(3,.sl 901 0 (s.2).length),(4,iv (((i):Nat):Int)),(5,iv (((j):Nat):Int)),(6,iv (((s.1):Nat):Int))]) (fun s=>[(901,.cells 174 4 ((s.2).map cPt) true)]) (fun s=>j+1<=s.1/\s.1<=r.length/\topS r (midS r p (innS r p q s.2 (r.drop s.1)) (r.drop (j+1))) (r.drop (i+1))=Xo r) (j+1,l) (⟨by dsimp only; omega,by dsimp only; omega,hinv⟩)
    (Qa (Qb rfl rfl) (.keep rfl rfl .nil) nz) ?_
   rintro ⟨k,l⟩ ⟨hjk,hk,hinv⟩
   dsimp only at hjk hk hinv ⊢
   refine gT 5 rfl (Qh rfl rfl (gR 2 rfl (Qe rfl (fun h28=>?_) (fun h28=>?_))))
   ·replace h28:=of_decide_eq_true h28
    refine gK 5 rfl ?_
    obtain ⟨s,hsk,hsm⟩:=Qo (L:=r) (k:=k) (by omega)
    have hlb:=corn_bd hr hinv
    rw [innS_at hsk] at hinv
    refine gI 2 rfl (Qp (f:=cPl) (y:=p) rfl rfl rfl (by omega) hpi (gR 3 rfl (Qp (f:=cPl) (y:=q) rfl rfl rfl (by omega) hqj (gR 3 rfl (Qp (f:=cPl) (y:=s) rfl rfl rfl (by omega) hsk (gR 1 rfl ?_))))))
    by_cases h0:wd3 p q s=0
    ·skip
     refine cN rfl rfl (vc173_n p q s (hv p hpm) (hv q hqm) (hv s hsm) h0) (gR 6 rfl (QJ (by kernel_rfl) (gP 19 rfl (Qg rfl rfl rfl (by omega) (gR 2 rfl ?_)))))
     rw [acc_1 h0] at hinv
     exact Q8 <| ⟨(k+1,l),⟨by dsimp only; omega,by dsimp only; omega,hinv⟩,by dsimp only; omega,Qa (Qb rfl rfl) (.keep rfl rfl .nil) nz⟩
    ·skip
     refine cN rfl rfl (vc173_s p q s (hv p hpm) (hv q hqm) (hv s hsm) h0) (gR 6 rfl (QJ (by kernel_rfl) (gP 6 rfl (cN rfl rfl (vc174 r (mtP p q s) (by omega)) ?_))))
     cases h51:XX r (mtP p q s)
     ·skip
      refine gR 12 rfl (Qg rfl rfl rfl (by omega) (gR 2 rfl ?_))
      rw [acc_w h51] at hinv
      exact Q8 <| ⟨(k+1,l),⟨by dsimp only; omega,by dsimp only; omega,hinv⟩,by dsimp only; omega,Qa (Qb rfl rfl) (.keep rfl rfl .nil) nz⟩
     ·skip
      refine gR 4 rfl (Qx [901] rfl rfl (vc175 l (mtP p q s) (by omega)) (.cons (QL (f:=cPt) (xs:=l) (by simp) rfl rfl) (.cons (Qd rfl) (.nil))) rfl ?_)
      cases h56:decide (mtP p q s∈l)
      ·skip
       refine gR 7 rfl (Qi (l:=(([mtP p q s]:List Pt)).flatMap cPt) (els:=(([mtP p q s]:List Pt)).map cPt) (fl:=true) rfl (by kernel_rfl) rfl rfl (by kernel_rfl) (by kernel_rfl) (gR 0 rfl (QB (f:=cPt) (xs:=l) (y:=mtP p q s) (fl':=true) rfl rfl rfl rfl (rfl) rfl rfl rfl (by decide) rfl (by omega) (by omega) rfl (gR 4 rfl (Qg rfl rfl rfl (by omega) (gR 2 rfl ?_))))))
       rw [acc_n h0 h51 h56] at hinv
       exact Q8 <| ⟨(k+1,l++[mtP p q s]),⟨by dsimp only; omega,by dsimp only; omega,hinv⟩,by dsimp only; omega,Q6 (i:=62) (i':=901) (F1:=[(0,.rs 4 (r.map cPl)),(2,.nils),(3,.sl 62 0 (l++[mtP p q s]).length),(4,iv (((i):Nat):Int)),(5,iv (((j):Nat):Int)),(6,iv (((k+1):Nat):Int))]) (H1:=[(62,.cells 174 4 ((l++[mtP p q s]).map cPt) true)]) (.cs (.cs (.cons rfl (Ua (by simp) rfl) (.cs (.cs (.cs (.nil))))))) (.keep rfl rfl .nil) nz rfl rfl (.cons rfl (.same _) (.cons rfl (.same _) (.cons rfl (.sl _ _) (.cons rfl (.same _) (.cons rfl (.same _) (.cons rfl (.same _) (.nil))))))) (Qb rfl rfl) (.keep rfl rfl .nil) nz⟩
      ·skip
       refine gR 7 rfl (Qg rfl rfl rfl (by omega) (gR 2 rfl ?_))
       rw [acc_m h56] at hinv
       exact Q8 <| ⟨(k+1,l),⟨by dsimp only; omega,by dsimp only; omega,hinv⟩,by dsimp only; omega,Qa (Qb rfl rfl) (.keep rfl rfl .nil) nz⟩
   ·replace h28:=of_decide_eq_false h28
    refine gK 3 rfl (Qg rfl rfl rfl (by omega) (gR 2 rfl ?_))
    rw [inn_end (by omega)] at hinv
    exact Q8 <| ⟨(j+1,l),⟨by dsimp only; omega,by dsimp only; omega,hinv⟩,by dsimp only; omega,Qa (Qb rfl rfl) (.keep rfl rfl .nil) nz⟩
  ·replace h20:=of_decide_eq_false h20
   refine gK 3 rfl (Qg rfl rfl rfl (by omega) (gR 2 rfl ?_))
   rw [mid_end (by omega)] at hinv
   exact Q8 <| ⟨(i+1,l),⟨by dsimp only; omega,hinv⟩,by dsimp only; omega,Qa (Qb rfl rfl) (.keep rfl rfl .nil) nz⟩
 ·replace h12:=of_decide_eq_false h12
  refine gK 7 rfl ?_
  rw [top_end (by omega)] at hinv
  rw [← hinv]
  exact Qk <| Qs rfl (Xr rfl rfl rfl (fun _=>rfl)) .nil
def mcv100:MC:=(.seq (.reg [oN 2 (.mv (.c (.bool false))) []] false) (.seq (.reg [oM 7 0 [],oN 8 (.call 140 [(.t 7)]) [0],oM 3 8 [1,1,0,1]] false) (.seq (.seq (.reg [oN 4 (.mv (.c (.int .i64 0))) []] false) (.block 0 (.loop (.seq (.seq (.reg [oM 9 4 [],oM 10 0 [],oN 11 (.len (.t 10)) [1],oN 12 (.bin .lss (.t 9) (.t 11)) [0,2]] false) (.cond (.t 12) .skip (.exit 0))) (.seq (.block 1 (.seq (.reg [oN 5 (.mv (.c (.bool false))) []] false) (.seq (.seq (.reg [oN 6 (.mv (.c (.int .i64 0))) []] false) (.block 2 (.loop (.seq (.seq (.reg [oM 15 6 [],oM 16 3 [],oN 17 (.len (.t 16)) [1],oN 18 (.bin .lss (.t 15) (.t 17)) [0,2]] false) (.cond (.t 18) .skip (.exit 2))) (.seq (.block 3 (.reg [oM 21 5 [],oM 22 21 [0],pM 23 0 22 false [1],pM 24 4 22 false [1],oG 25 (.ixsl 4 (.t 23) (.t 24)) 22 false [2,3,1],oG 26 (.ld true 4 (.t 25)) 22 false [4,1],pM 27 3 22 false [1],pM 28 6 22 false [1],oG 29 (.ixsl 4 (.t 27) (.t 28)) 22 false [6,7,1],oG 30 (.ld true 4 (.t 29)) 22 false [8,1],oG 31 (.call 141 [(.t 26),(.t 30)]) 22 false [5,9,1,1],oG 32 (.bin .gtr (.t 31) (.c (.int .i64 0))) 22 false [10,1],oN 33 (.pick (.t 22) (.c (.bool true)) (.t 32)) [1,11],oM 5 33 [12,10,0,1,2,3,4,5,6,7,8,9,10,11,12]] true)) (.reg [oM 19 6 [],oN 20 (.bin .add (.t 19) (.c (.int .i64 1))) [0],oM 6 20 [1,0,1]] false)))))) (.seq (.reg [oM 34 5 [],oN 35 (.un .not (.t 34)) [0]] false) (.cond (.t 35) (.seq (.reg [oN 2 (.mv (.c (.bool false))) []] false) .ret) .skip))))) (.reg [oM 13 4 [],oN 14 (.bin .add (.t 13) (.c (.int .i64 1))) [0],oM 4 14 [1,0,1]] false)))))) (.seq (.reg [oN 2 (.mv (.c (.bool true))) []] false) .ret))))
theorem mcOkv100:okM Tryz.prog Tryz.f100 36=some mcv100:=by kernel_rfl
theorem vc100 (r:List Pl) (hr:r.length<=110) (hv:∀ p∈r,Q5 p=true):FC Tryz.prog 100 [.rs 4 (r.map cPl)] [] (.bool (fullS r)) [] false:=by
 have hcl:=corn_len hr
 refine Qj (nt:=36) Tryz.func100 rfl rfl mcOkv100 (nL rfl) ?_
 delta mcv100
 refine gA 7 rfl (cN rfl rfl (vc140 r hr hv) (gR 8 rfl ?_))
 refine Qr (α:=Nat) (fun k=>r.length-k) (fun k=>[(0,.rs 4 (r.map cPl)),(2,.bool false),(3,.rs 4 ((Xo r).map cPt)),(4,iv (((k):Nat):Int))]) (fun k=>[]) (fun k=>k<=r.length/\(r.take k).any (nonS (Xo r))=false) 0 (⟨by omega,rfl⟩)
  (Qa (Qb rfl rfl) (.nil) (fun i h=>by cases h)) ?_
 rintro k ⟨hk,hinv⟩
 refine gT 5 rfl (Qh rfl rfl (gR 2 rfl (Qe rfl (fun h12=>?_) (fun h12=>?_))))
 ·replace h12:=of_decide_eq_true h12
  refine gK 4 rfl ?_
  obtain ⟨p,hpk,hpm⟩:=Qo (L:=r) (k:=k) (by omega)
  refine gI 9 rfl ?_
  refine Qr (α:=Nat) (fun i=>(Xo r).length-i) (fun i=>[(0,.rs 4 (r.map cPl)),(2,.bool false),(3,.rs 4 ((Xo r).map cPt)),(4,iv (((k):Nat):Int)),(5,.bool (((Xo r).take (i)).any (inB p))),(6,iv (((i):Nat):Int))]) (fun i=>[]) (fun i=>i<=(Xo r).length) 0 (by omega)
   (Qa (Qb rfl rfl) (.nil) (fun i h=>by cases h)) ?_
  intro i hi
  refine gT 5 rfl (Qh rfl rfl (gR 2 rfl (Qe rfl (fun h18=>?_) (fun h18=>?_))))
  ·replace h18:=of_decide_eq_true h18
   refine gK 4 rfl ?_
   obtain ⟨x,hxi,hxm⟩:=Qo (L:=(Xo r)) (k:=i) (by omega)
   refine gI 1 rfl ?_
   cases h21:((Xo r).take i).any (inB p)
   ·skip
    refine gI 3 rfl (Qp (f:=cPl) (y:=p) rfl rfl rfl (by omega) hpk (gR 3 rfl (Qp (f:=cPt) (y:=x) rfl rfl rfl (by omega) hxi (gR 1 rfl (cN rfl rfl (vc141 p x) (gR 0 rfl (Q9 rfl rfl rfl rfl (fun h32=>?_) (fun h32=>?_))))))))
    ·skip
     refine gR 2 rfl (QJ (by kernel_rfl) (gP 2 rfl (Qg rfl rfl rfl (by omega) (gR 2 rfl ?_))))
     exact Q8 <| ⟨i+1,by omega,by omega,Qa (.cs (.cs (.cs (.cs (.cons rfl (Ua (by rw [any_succ hxi,h21]; simp [inB,h32]) rfl) (.cs (.nil))))))) (.nil) (fun i h=>by cases h)⟩
    ·skip
     refine gR 2 rfl (QJ (by kernel_rfl) (gP 2 rfl (Qg rfl rfl rfl (by omega) (gR 2 rfl ?_))))
     exact Q8 <| ⟨i+1,by omega,by omega,Qa (.cs (.cs (.cs (.cs (.cons rfl (Ua (by rw [any_succ hxi,h21]; simp [inB,h32]) rfl) (.cs (.nil))))))) (.nil) (fun i h=>by cases h)⟩
   ·skip
    refine gI 13 rfl (QJ (by kernel_rfl) (gP 2 rfl (Qg rfl rfl rfl (by omega) (gR 2 rfl ?_))))
    exact Q8 <| ⟨i+1,by omega,by omega,Qa (.cs (.cs (.cs (.cs (.cons rfl (Ua (by rw [any_succ hxi,h21]; rfl) rfl) (.cs (.nil))))))) (.nil) (fun i h=>by cases h)⟩
  ·replace h18:=of_decide_eq_false h18
   refine gK 4 rfl ?_
   cases h34:((Xo r).take i).any (inB p)
   ·skip
    refine gI 8 rfl ?_
    rw [take_all (by omega)] at h34
    rw [show fullS r=false from by unfold fullS; rw [List.any_eq_true.2 ⟨p,hpm,by unfold nonS; rw [h34]; rfl⟩]; rfl]
    exact Qk <| Qc rfl rfl rfl (.inr rfl)
   ·skip
    refine gI 6 rfl (Qg rfl rfl rfl (by omega) (gR 2 rfl ?_))
    rw [take_all (by omega)] at h34
    exact Q8 <| ⟨k+1,⟨by omega,by rw [any_succ hpk,hinv]; simp [nonS,h34]⟩,by omega,Qa (Qb rfl rfl) (.nil) (fun i h=>by cases h)⟩
 ·replace h12:=of_decide_eq_false h12
  refine gK 6 rfl ?_
  rw [take_all (by omega)] at hinv
  rw [show fullS r=true from by unfold fullS; rw [hinv]; rfl]
  exact Qk <| Qc rfl rfl rfl (.inr rfl)
def mcv49:MC:=(.seq (.reg [oN 2 (.mv (.c (.bool false))) []] false) (.seq (.reg [oM 3 0 [],oN 4 (.call 99 [(.t 3)]) [0],oN 5 (.bin .eql (.t 4) (.c (.int .i64 0))) [1],oM 6 5 [2,1],pM 7 0 6 true [3],oG 8 (.call 101 [(.t 7)]) 6 true [4,3,3],oG 9 (.call 100 [(.t 8)]) 6 true [5,5,3],oN 10 (.pick (.t 6) (.t 9) (.c (.bool false))) [3,6],oM 2 10 [7,6,0,1,2,3,4,5,6,7]] false) .ret))
theorem mcOkv49:okM Tryz.prog Tryz.f49 11=some mcv49:=by kernel_rfl
theorem vc49 (c:List Pl) (hc:c.length<=1000):FC Tryz.prog 49 [.rs 4 (c.map cPl)] [] (.bool (QX c)) [] false:=by
 refine Qj (nt:=11) Tryz.func49 rfl rfl mcOkv49 (nL rfl) ?_
 delta mcv49
 refine gA 7 rfl (cN rfl rfl (vc99 c hc) (gR 0 rfl (Q9 rfl rfl rfl rfl (fun h5=>?_) (fun h5=>?_))))
 ·skip
  refine gR 2 rfl (cN rfl rfl (vc101 c hc) (gR 0 rfl (cN rfl rfl (vc100 (ofS [c]) (OkC.of (ck0 h5)) (ofS_valid (ck0 h5))) (gR 4 rfl ?_))))
  rw [show QX c=fullS (ofS [c]) from by unfold QX; rw [ck0 h5]; rfl]
  exact Qk <| Qc rfl rfl rfl (.inr rfl)
 ·skip
  refine gR 8 rfl ?_
  rw [show QX c=false from by unfold QX; rw [ck1 h5]; rfl]
  exact Qk <| Qc rfl rfl rfl (.inr rfl)
end Go.Proofs.YthfhaoogcpfboaaGreat
namespace Go.Proofs.YthfhaoogcpfboaaGreat
open Go.RowKit
set_option maxRecDepth 100000
set_option linter.unusedVariables false
section
variable (L E:List Int)
def JF:Int:=2+QM L 0 3
def pA1:Nat:=XT L 0
def Ub:Bool:=decide (QM L (pA1 L) 3=2)&&decide (JF L<4)
def pA2:Nat:=XT L (pA1 L)
def pX0:Int := -6+QM L (pA2 L) 3
def pA3:Nat:=XT L (pA2 L)
def pH:Int:=2+QM L (pA3 L) 3
def pA4:Nat:=XT L (pA3 L)
structure PSt where
 cells:List (List Pl)
 x:Int
 a:Nat
def pW (s:PSt):Int:=1+QM L s.a 4
def pB1 (s:PSt):List Pl:=JC ⟨s.x,0,0⟩ ⟨s.x+pW L s,3,pH L⟩
def pB2 (s:PSt):List Pl:=JC ⟨s.x,3,0⟩ ⟨s.x+pW L s,6,pH L⟩
def pStep (s:PSt):PSt:=⟨if Ub L=true then s.cells++[pB1 L s]++[pB2 L s] else s.cells++[pB1 L s],s.x+pW L s,XT L s.a⟩
def pSt:Nat->PSt
 | 0=>⟨[],pX0 L,pA4 L⟩
 | k+1=>pStep L (pSt k)
def J7:PSt:=pSt L (JF L).toNat
def pA5:Nat:=XT L (J7 L).a
def pCan:Bool:=decide (QM L (J7 L).a 4=3)&&decide (((J7 L).cells.length:Int)<6)
def pK:Nat:=(QM L (pA5 L) ((J7 L).cells.length:Int)).toNat
def pA6:Nat:=XT L (pA5 L)
def pP:Pl:=⟨⟨0,1,1⟩,2+QM L (pA6 L) 4⟩
def pC:List Pl:=(J7 L).cells.getD (pK L) []
def pDo:Bool:=QX (pC L++[pP L])&&QX (pC L++[X1 (pP L)])
def Xy:List (List Pl):=if pCan L=true/\pDo L=true then (J7 L).cells.set (pK L) (pC L++[pP L])++[pC L++[X1 (pP L)]] else (J7 L).cells
def pickW (v:Int):Int:=([2,1,3,2]:List Int).getD v.toNat 0
def wSt:Nat->List Int×Nat
 | 0=>([],0)
 | k+1=>((wSt k).1++[pickW (QM E (wSt k).2 4)],XT E (wSt k).2)
def partS:Pa:=⟨[112],Xy L,(wSt E (Xy L).length).1⟩
theorem pMany_bd:2<=JF L/\JF L<=4:=by have:=Qu L 0 3 (by decide); unfold JF; omega
theorem pH_bd:2<=pH L/\pH L<=4:=by have:=Qu L (pA3 L) 3 (by decide); unfold pH; omega
theorem pX0_bd : -6<=pX0 L/\pX0 L ≤ -4:=by have:=Qu L (pA2 L) 3 (by decide); unfold pX0; omega
theorem pW_bd (s:PSt):1<=pW L s/\pW L s<=4:=by have:=Qu L s.a 4 (by decide); unfold pW; omega
structure PStI (k:Nat):Prop where
 x : -6<=(pSt L k).x/\(pSt L k).x ≤ -4+4*(k:Int)
 n:(pSt L k).cells.length=if Ub L=true then 2*k else k
 inv:PtI (pSt L k).cells (pSt L k).x
theorem pB1_ok {k:Nat} (hk:k<4) (h:PStI L k):BoxB ⟨(pSt L k).x,0,0⟩ ⟨(pSt L k).x+pW L (pSt L k),3,pH L⟩:=by
 have:=h.x; have:=pH_bd L; have:=pW_bd L (pSt L k)
 exact ⟨by dsimp only; omega,by dsimp only; omega,by dsimp only; omega⟩
theorem pB2_ok {k:Nat} (hk:k<4) (h:PStI L k):BoxB ⟨(pSt L k).x,3,0⟩ ⟨(pSt L k).x+pW L (pSt L k),6,pH L⟩:=by
 have:=h.x; have:=pH_bd L; have:=pW_bd L (pSt L k)
 exact ⟨by dsimp only; omega,by dsimp only; omega,by dsimp only; omega⟩
theorem pSt_ok:∀ k,k<=4->PStI L k
 | 0,_=>⟨by have:=pX0_bd L; exact ⟨this.1,by show pX0 L<=_; omega⟩,by show (0:Nat)=_; split <;> rfl,PtI.nil _⟩
 | k+1,hk=>by
  have h:=pSt_ok k (by omega)
  have hw:=pW_bd L (pSt L k)
  refine ⟨?_,?_,?_⟩
  ·show -6<=(pSt L k).x+pW L (pSt L k)/\(pSt L k).x+pW L (pSt L k)<=_
   have:=h.x; omega
  ·show (if Ub L=true then (pSt L k).cells++[pB1 L (pSt L k)]++[pB2 L (pSt L k)] else (pSt L k).cells++[pB1 L (pSt L k)]).length=_
   have:=h.n
   by_cases ht:Ub L=true
   ·rw [if_pos ht] at this ⊢; rw [if_pos ht]; simp; omega
   ·rw [if_neg ht] at this ⊢; rw [if_neg ht]; simp; omega
  ·show PtI (if Ub L=true then (pSt L k).cells++[pB1 L (pSt L k)]++[pB2 L (pSt L k)] else (pSt L k).cells++[pB1 L (pSt L k)]) ((pSt L k).x+pW L (pSt L k))
   split
   ·rw [List.append_assoc]
    exact h.inv.push2 (pB1_ok L (by omega) h) (pB2_ok L (by omega) h) rfl rfl rfl rfl (by show (3:Int)<=3; omega)
   ·exact h.inv.push (pB1_ok L (by omega) h) rfl rfl
theorem pEnd_ok:PStI L (JF L).toNat:=pSt_ok L _ (by have:=pMany_bd L; omega)
theorem pEnd_n:2<=(J7 L).cells.length/\(J7 L).cells.length<=6:=by
 have h:=(pEnd_ok L).n
 have hm:=pMany_bd L
 show 2<=(pSt L (JF L).toNat).cells.length/\(pSt L (JF L).toNat).cells.length<=6
 rw [h]
 split
 ·rename_i ht
  simp only [Ub,Bool.and_eq_true,decide_eq_true_eq] at ht
  omega
 ·omega
theorem pK_lt:(0<=QM L (pA5 L) ((J7 L).cells.length:Int)/\QM L (pA5 L) ((J7 L).cells.length:Int)<(J7 L).cells.length)/\pK L<(J7 L).cells.length:=by
 have h:=pEnd_n L
 have:=Qu L (pA5 L) ((J7 L).cells.length:Int) (by omega)
 unfold pK; omega
theorem pC_at:(J7 L).cells[pK L]?=some (pC L):=by
 have:=(pK_lt L).2
 unfold pC; rw [List.getD_eq_getElem?_getD,List.getElem?_eq_getElem this]; rfl
theorem pC_len:(pC L).length=6:=by
 obtain ⟨lo,hi,e,_⟩:=(pEnd_ok L).inv.box _ (JQ (pC_at L))
 rw [e]; rfl
theorem pP_b:2<=(pP L).b/\(pP L).b<=5:=by have:=Qu L (pA6 L) 4 (by decide); unfold pP; dsimp only; omega
theorem flip_p:X1 (pP L)=⟨⟨0,-1,-1⟩,-(pP L).b⟩:=by
 show (⟨subW ⟨0,0,0⟩ ⟨0,1,1⟩,-(pP L).b⟩:Pl)=_
 rw [show subW ⟨0,0,0⟩ ⟨0,1,1⟩=⟨0,-1,-1⟩ by decide +kernel]
theorem pP_v:Q5 (pP L)=true/\Q5 (X1 (pP L))=true:=by
 have:=pP_b L
 constructor
 ·exact val_of (n:=⟨0,1,1⟩) (by decide +kernel) (by show _<=(pP L).b/\(pP L).b<=_; omega)
 ·rw [flip_p]; exact val_of (by decide +kernel) (by omega)
theorem pCells_ok:PtC (Xy L)/\2<=(Xy L).length/\(Xy L).length<=6:=by
 have hn:=pEnd_n L
 have hc:=(pEnd_ok L).inv.all
 unfold Xy
 split
 ·rename_i h
  obtain ⟨h1,h2⟩:=h
  simp only [pDo,pCan,Bool.and_eq_true,decide_eq_true_eq] at h1 h2
  refine ⟨PtC.cut hc (pC_at L) (by rw [pC_len]; omega) (pP_v L).1 (pP_v L).2 ?_ ?_ h2.1 h2.2,?_⟩
  ·rw [flip_p]; exact ⟨rfl,rfl,rfl⟩
  ·rw [flip_p]; dsimp only; omega
  ·simp; omega
 ·exact ⟨hc,hn⟩
theorem wSt_len:∀ k,(wSt E k).1.length=k
 | 0=>rfl
 | k+1=>by show ((wSt E k).1++[_]).length=_; rw [List.length_append,wSt_len k]; rfl
theorem pickW_bd (a:Nat):1<=pickW (QM E a 4)/\pickW (QM E a 4)<=3:=by
 have:=Qu E a 4 (by decide)
 generalize QM E a 4=v at this
 obtain rfl | rfl | rfl | rfl:v=0\/v=1\/v=2\/v=3:=by omega
 all_goals decide
theorem wSt_ok:∀ k,∀ w∈(wSt E k).1,1<=w/\w<=3
 | 0,w,h=>by cases h
 | k+1,w,h=>by
  rcases List.mem_append.1 h with h | h
  ·exact wSt_ok k w h
  ·rw [List.mem_singleton.1 h]; exact pickW_bd E _
theorem partS_ok:GoodP (partS L E):=⟨(pCells_ok L).2,(pCells_ok L).1,wSt_len E _,wSt_ok E _⟩
end
end Go.Proofs.YthfhaoogcpfboaaGreat
namespace Go.Proofs.YthfhaoogcpfboaaGreat
open Go.RowKit
set_option maxRecDepth 100000
set_option linter.unusedVariables false
theorem verd_1 {p:Pa} {x:Pc} (h:Jv p x≠0):JN p x=Jv p x:=if_pos h
theorem verd_2 {p:Pa} {x:Pc} (h:¬ Jv p x≠0) (h0:anyK p x 0=true):JN p x=35:=by unfold JN; rw [if_neg h,if_pos h0]
theorem verd_3 {p:Pa} {x:Pc} (h:¬ Jv p x≠0) (h0:anyK p x 0=false) (h1:anyK p x 1=true):JN p x=30:=by unfold JN; rw [if_neg h,if_neg (by rw [h0]; decide),if_pos h1]
theorem verd_4 {p:Pa} {x:Pc} (h:¬ Jv p x≠0) (h0:anyK p x 0=false) (h1:anyK p x 1=false) (h2:anyK p x 2=true):JN p x=34:=by unfold JN; rw [if_neg h,if_neg (by rw [h0]; decide),if_neg (by rw [h1]; decide),if_pos h2]
theorem verd_5 {p:Pa} {x:Pc} (h:¬ Jv p x≠0) (h0:anyK p x 0=false) (h1:anyK p x 1=false) (h2:anyK p x 2=false):JN p x=0:=by unfold JN; rw [if_neg h,if_neg (by rw [h0]; decide),if_neg (by rw [h1]; decide),if_neg (by rw [h2]; decide)]
def mcv60:MC:=(.seq (.reg [oN 2 (.box 31 3 (.t 0)) [],oN 3 (.box 35 3 (.t 1)) [],oN 4 (.mv (.c (.int .i64 0))) []] false) (.seq (.seq (.reg [oN 10 (.ld true 3 (.t 2)) [],oN 11 (.ld true 3 (.t 3)) [],oN 12 (.call 81 [(.t 10),(.t 11)]) [0,1],oM 5 12 [2,2,0,1,2]] false) (.seq (.reg [oM 13 5 [],oN 14 (.bin .neq (.t 13) (.c (.int .i64 0))) [0]] false) (.cond (.t 14) (.seq (.reg [oM 15 5 [],oM 4 15 [0,0]] false) .ret) .skip))) (.seq (.reg [oN 16 (.ld true 3 (.t 2)) [],oN 17 (.ld true 3 (.t 3)) [],oN 18 (.build [(.str (Qm [])),.nils,.nils,.nils,.nils,.nils] [(0,(3,(.t 16))),(3,(3,(.t 17)))]) [0,1],oN 6 (.alloc 144 6 [(.str (Qm [])),.nils,.nils,.nils,.nils,.nils]) [],⟨none,(.st 6 (.t 6) (.t 18)),none,[3,2,0,1,2,3]⟩] false) (.seq (.seq (.reg [oN 19 (.ld true 6 (.t 6)) [],oN 20 (.mkbnd 107 (.t 19)) [0],oN 21 (.build [.nilf,(.int .i64 0)] [(0,(1,(.t 20))),(1,(1,(.c (.int .i64 35))))]) [1],oN 22 (.ld true 6 (.t 6)) [],oN 23 (.mkbnd 108 (.t 22)) [3],oN 24 (.build [.nilf,(.int .i64 0)] [(0,(1,(.t 23))),(1,(1,(.c (.int .i64 30))))]) [4],oN 25 (.ld true 6 (.t 6)) [],oN 26 (.mkbnd 109 (.t 25)) [6],oN 27 (.build [.nilf,(.int .i64 0)] [(0,(1,(.t 26))),(1,(1,(.c (.int .i64 34))))]) [7],oN 28 (.bslice 145 2 [.nilf,(.int .i64 0)] 3 [(0,(.t 21)),(1,(.t 24)),(2,(.t 27))]) [2,5,8],oN 29 (.len (.t 28)) [9],oN 30 (.mv (.c (.int .i64 0))) []] false) (.block 0 (.loop (.seq (.reg [oN 31 (.bin .lss (.t 30) (.t 29)) []] false) (.seq (.cond (.t 31) .skip (.exit 0)) (.seq (.block 1 (.seq (.reg [oN 32 (.ixsl 2 (.t 28) (.t 30)) [],oN 33 (.ld true 2 (.t 32)) [0],oN 8 (.alloc 145 2 [.nilf,(.int .i64 0)]) [],⟨none,(.st 2 (.t 8) (.t 33)),none,[2,1,0,1,2]⟩] false) (.seq (.reg [oA 34 1 2 [],oD 35 1 34 [0],oN 36 (.len (.t 35)) [1],oN 37 (.mv (.c (.int .i64 0))) []] false) (.block 2 (.loop (.seq (.reg [oN 38 (.bin .lss (.t 37) (.t 36)) []] false) (.seq (.cond (.t 38) .skip (.exit 2)) (.seq (.block 3 (.seq (.reg [oM 39 37 [],oM 9 39 [0,0]] false) (.seq (.reg [oA 40 0 8 [],oD 41 1 40 [0],oM 42 9 [],oN 43 (.callv (.t 41) [(.t 42)]) [1,2]] false) (.cond (.t 43) (.seq (.reg [oA 44 1 8 [],oD 45 1 44 [0],oM 4 45 [1,0,1]] false) .ret) .skip)))) (.reg [oN 46 (.bin .add (.t 37) (.c (.int .i64 1))) [],oM 37 46 [0]] false))))))))) (.reg [oN 47 (.bin .add (.t 30) (.c (.int .i64 1))) [],oM 30 47 [0]] false))))))) (.seq (.reg [oN 4 (.mv (.c (.int .i64 0))) []] false) .ret)))))
theorem mcOkv60:okM Tryz.prog Tryz.f60 48=some mcv60:=by kernel_rfl
set_option maxHeartbeats 2000000 in
theorem vc60 (p:Pa) (hp:PaOK p) (x:Pc) (hx:PcOK x):FC Tryz.prog 60 [.agg (cPa p),.agg (cPc x)] [] (iv (JN p x)) [] false:=by
 have hpn:=hp.n
 have hxn:=hx.n
 refine Qj (nt:=48) Tryz.func60 rfl rfl mcOkv60 (nL rfl) ?_
 delta mcv60
 refine gA 11 rfl (cN rfl rfl (vc81 p hp x hx) (gR 5 rfl (Ja rfl rfl rfl (gR 1 rfl (Qe rfl (fun h14=>?_) (fun h14=>?_))))))
 ·replace h14:=of_decide_eq_true h14
  refine gK 6 rfl ?_
  rw [verd_1 h14]
  exact Qk <| Qc rfl rfl rfl (.inr rfl)
 ·replace h14:=of_decide_eq_false h14
  refine gK 2 rfl ?_
  have hfit:Jv p x=0:=by omega
  obtain ⟨hl1,hl2,hl3,_,_⟩:=fit_len hfit
  refine gI 11 rfl (rs_mkbnd rfl rfl (gR 2 rfl (rs_mkbnd rfl rfl (gR 2 rfl (rs_mkbnd rfl rfl (gR 1 rfl (Qi (l:=[.bnd (.func 107) (.agg (cJ p x)),iv 35,.bnd (.func 108) (.agg (cJ p x)),iv 30,.bnd (.func 109) (.agg (cJ p x)),iv 34]) (els:=[[.bnd (.func 107) (.agg (cJ p x)),iv 35],[.bnd (.func 108) (.agg (cJ p x)),iv 30],[.bnd (.func 109) (.agg (cJ p x)),iv 34]]) (fl:=false) rfl (by kernel_rfl) rfl rfl (by kernel_rfl) (by kernel_rfl) (gR 0 rfl (Xi rfl rfl (gR 3 rfl ?_))))))))))
  refine Qr (α:=Nat) (fun i=>3-i) (fun i=>[(2,.ptr 2 0 0),(28,.sl 28 0 3),(29,iv 3),(30,iv (((i):Nat):Int))]) (fun i=>[(2,.cells 31 3 [cPa p] true),(28,.cells 145 2 [[.bnd (.func 107) (.agg (cJ p x)),iv 35],[.bnd (.func 108) (.agg (cJ p x)),iv 30],[.bnd (.func 109) (.agg (cJ p x)),iv 34]] false)]) (fun i=>i<=3/\(1<=i->anyK p x 0=false)/\(2<=i->anyK p x 1=false)/\(3<=i->anyK p x 2=false)) 0 (⟨by omega,fun h=>by omega,fun h=>by omega,fun h=>by omega⟩)
   (Qa (Qb rfl rfl) (.keep (rfl) rfl (.keep (rfl) rfl (.nil))) (fun i h=>by cases h)) ?_
  rintro i ⟨hi,hi0,hi1,hi2⟩
  refine gT 5 rfl (Qe rfl (fun h31=>?_) (fun h31=>?_))
  ·replace h31:=of_decide_eq_true h31
   refine gK 5 rfl ?_
   obtain rfl | rfl | rfl:i=0\/i=1\/i=2:=by omega
   ·skip
    refine XS rfl rfl rfl rfl (by decide) (by decide) (gR 8 rfl (Qh rfl rfl (gR 3 rfl ?_)))
    refine Qr (α:=Nat) (fun j=>p.cells.length-j) (fun j=>[(2,.ptr 2 0 0),(28,.sl 28 0 3),(29,iv 3),(30,iv (((0):Nat):Int)),(8,.ptr 8 0 0),(35,.rs 1 (p.cells.map cR)),(36,iv (p.cells.length:Int)),(37,iv (((j):Nat):Int))]) (fun j=>[(2,.cells 31 3 [cPa p] true),(28,.cells 145 2 [[.bnd (.func 107) (.agg (cJ p x)),iv 35],[.bnd (.func 108) (.agg (cJ p x)),iv 30],[.bnd (.func 109) (.agg (cJ p x)),iv 34]] false),(8,.cells 145 2 [[.bnd (.func 107) (.agg (cJ p x)),iv 35]] false)]) (fun j=>j<=p.cells.length/\∀ m,m<j->badK p x 0 m=false) 0 (⟨by omega,fun m hm=>by omega⟩)
     (Qa (Qb rfl rfl) (.keep (rfl) rfl (.keep (rfl) rfl (.keep (rfl) rfl (.nil)))) (fun i h=>by cases h)) ?_
    rintro j ⟨hj,hinv⟩
    refine gT 5 rfl (Qe rfl (fun h38=>?_) (fun h38=>?_))
    ·replace h38:=of_decide_eq_true h38
     refine gK 11 rfl ?_
     obtain ⟨c,hck,hcm⟩:=Qo (L:=p.cells) (k:=j) (by omega)
     obtain ⟨w,hwk,hwm⟩:=Qo (L:=p.want) (k:=j) (by omega)
     refine gI 2 rfl (rs_callb [] rfl rfl (by kernel_rfl) rfl (JI (vc107 p x j w c hwk hck (fun q hq=>⟨hp.c c hcm,hx.c q hq⟩) hxn)) (.cons (Qd rfl) (.cons (Qd rfl) .nil)) .nil rfl rfl rfl ?_)
     cases h43:spoiltB p x j
     ·skip
      refine gR 4 rfl (Qg rfl rfl rfl (by omega) (gR 2 rfl ?_))
      exact Q8 <| ⟨j+1,⟨by omega,fun m hm=>by rcases Nat.lt_succ_iff_lt_or_eq.1 hm with h | h; exact hinv m h; rw [h]; exact h43⟩,by omega,Qa (Qb rfl rfl) (.keep (rfl) rfl (.keep (rfl) rfl (.keep (rfl) rfl (.nil)))) (fun i h=>by cases h)⟩
     ·skip
      refine gR 9 rfl ?_
      have hk3:anyK p x 0=true:=anyK_t (by omega) h43
      rw [verd_2 h14  hk3]
      exact Qk <| Qc rfl rfl rfl (.inr rfl)
    ·replace h38:=of_decide_eq_false h38
     refine gK 2 rfl (Qg rfl rfl rfl (by omega) (gR 2 rfl ?_))
     exact Q8 <| ⟨0+1,⟨by decide,fun hm=>anyK_f fun m hm=>hinv m (by omega),fun hm=>absurd hm (by decide),fun hm=>absurd hm (by decide)⟩,by decide,Qa (Qb rfl rfl) (.keep (rfl) rfl (.keep (rfl) rfl (.nil))) (fun i h=>by cases h)⟩
   ·skip
    refine XS rfl rfl rfl rfl (by decide) (by decide) (gR 8 rfl (Qh rfl rfl (gR 3 rfl ?_)))
    refine Qr (α:=Nat) (fun j=>p.cells.length-j) (fun j=>[(2,.ptr 2 0 0),(28,.sl 28 0 3),(29,iv 3),(30,iv (((1):Nat):Int)),(8,.ptr 8 0 0),(35,.rs 1 (p.cells.map cR)),(36,iv (p.cells.length:Int)),(37,iv (((j):Nat):Int))]) (fun j=>[(2,.cells 31 3 [cPa p] true),(28,.cells 145 2 [[.bnd (.func 107) (.agg (cJ p x)),iv 35],[.bnd (.func 108) (.agg (cJ p x)),iv 30],[.bnd (.func 109) (.agg (cJ p x)),iv 34]] false),(8,.cells 145 2 [[.bnd (.func 108) (.agg (cJ p x)),iv 30]] false)]) (fun j=>j<=p.cells.length/\∀ m,m<j->badK p x 1 m=false) 0 (⟨by omega,fun m hm=>by omega⟩)
     (Qa (Qb rfl rfl) (.keep (rfl) rfl (.keep (rfl) rfl (.keep (rfl) rfl (.nil)))) (fun i h=>by cases h)) ?_
    rintro j ⟨hj,hinv⟩
    refine gT 5 rfl (Qe rfl (fun h38=>?_) (fun h38=>?_))
    ·replace h38:=of_decide_eq_true h38
     refine gK 11 rfl ?_
     obtain ⟨b,hbk,hbm⟩:=Qo (L:=x.touched) (k:=j) (by omega)
     obtain ⟨w,hwk,hwm⟩:=Qo (L:=p.want) (k:=j) (by omega)
     refine gI 2 rfl (rs_callb [] rfl rfl (by kernel_rfl) rfl (JI (vc108 p x j w b hwk hbk)) (.cons (Qd rfl) (.cons (Qd rfl) .nil)) .nil rfl rfl rfl ?_)
     cases h43:gougedB p x j
     ·skip
      refine gR 4 rfl (Qg rfl rfl rfl (by omega) (gR 2 rfl ?_))
      exact Q8 <| ⟨j+1,⟨by omega,fun m hm=>by rcases Nat.lt_succ_iff_lt_or_eq.1 hm with h | h; exact hinv m h; rw [h]; exact h43⟩,by omega,Qa (Qb rfl rfl) (.keep (rfl) rfl (.keep (rfl) rfl (.keep (rfl) rfl (.nil)))) (fun i h=>by cases h)⟩
     ·skip
      refine gR 9 rfl ?_
      have hk3:anyK p x 1=true:=anyK_t (by omega) h43
      rw [verd_3 h14 (hi0 (by decide)) hk3]
      exact Qk <| Qc rfl rfl rfl (.inr rfl)
    ·replace h38:=of_decide_eq_false h38
     refine gK 2 rfl (Qg rfl rfl rfl (by omega) (gR 2 rfl ?_))
     exact Q8 <| ⟨1+1,⟨by decide,fun hm=>hi0 (by omega),fun hm=>anyK_f fun m hm=>hinv m (by omega),fun hm=>absurd hm (by decide)⟩,by decide,Qa (Qb rfl rfl) (.keep (rfl) rfl (.keep (rfl) rfl (.nil))) (fun i h=>by cases h)⟩
   ·skip
    refine XS rfl rfl rfl rfl (by decide) (by decide) (gR 8 rfl (Qh rfl rfl (gR 3 rfl ?_)))
    refine Qr (α:=Nat) (fun j=>p.cells.length-j) (fun j=>[(2,.ptr 2 0 0),(28,.sl 28 0 3),(29,iv 3),(30,iv (((2):Nat):Int)),(8,.ptr 8 0 0),(35,.rs 1 (p.cells.map cR)),(36,iv (p.cells.length:Int)),(37,iv (((j):Nat):Int))]) (fun j=>[(2,.cells 31 3 [cPa p] true),(28,.cells 145 2 [[.bnd (.func 107) (.agg (cJ p x)),iv 35],[.bnd (.func 108) (.agg (cJ p x)),iv 30],[.bnd (.func 109) (.agg (cJ p x)),iv 34]] false),(8,.cells 145 2 [[.bnd (.func 109) (.agg (cJ p x)),iv 34]] false)]) (fun j=>j<=p.cells.length/\∀ m,m<j->badK p x 2 m=false) 0 (⟨by omega,fun m hm=>by omega⟩)
     (Qa (Qb rfl rfl) (.keep (rfl) rfl (.keep (rfl) rfl (.keep (rfl) rfl (.nil)))) (fun i h=>by cases h)) ?_
    rintro j ⟨hj,hinv⟩
    refine gT 5 rfl (Qe rfl (fun h38=>?_) (fun h38=>?_))
    ·replace h38:=of_decide_eq_true h38
     refine gK 11 rfl ?_
     obtain ⟨b,hbk,hbm⟩:=Qo (L:=x.sure) (k:=j) (by omega)
     obtain ⟨w,hwk,hwm⟩:=Qo (L:=p.want) (k:=j) (by omega)
     refine gI 2 rfl (rs_callb [] rfl rfl (by kernel_rfl) rfl (JI (vc109 p x j w b hwk hbk)) (.cons (Qd rfl) (.cons (Qd rfl) .nil)) .nil rfl rfl rfl ?_)
     cases h43:leftB p x j
     ·skip
      refine gR 4 rfl (Qg rfl rfl rfl (by omega) (gR 2 rfl ?_))
      exact Q8 <| ⟨j+1,⟨by omega,fun m hm=>by rcases Nat.lt_succ_iff_lt_or_eq.1 hm with h | h; exact hinv m h; rw [h]; exact h43⟩,by omega,Qa (Qb rfl rfl) (.keep (rfl) rfl (.keep (rfl) rfl (.keep (rfl) rfl (.nil)))) (fun i h=>by cases h)⟩
     ·skip
      refine gR 9 rfl ?_
      have hk3:anyK p x 2=true:=anyK_t (by omega) h43
      rw [verd_4 h14 (hi0 (by decide)) (hi1 (by decide)) hk3]
      exact Qk <| Qc rfl rfl rfl (.inr rfl)
    ·replace h38:=of_decide_eq_false h38
     refine gK 2 rfl (Qg rfl rfl rfl (by omega) (gR 2 rfl ?_))
     exact Q8 <| ⟨2+1,⟨by decide,fun hm=>hi0 (by omega),fun hm=>hi1 (by omega),fun hm=>anyK_f fun m hm=>hinv m (by omega)⟩,by decide,Qa (Qb rfl rfl) (.keep (rfl) rfl (.keep (rfl) rfl (.nil))) (fun i h=>by cases h)⟩
  ·replace h31:=of_decide_eq_false h31
   refine gK 6 rfl ?_
   obtain rfl:i=3:=by omega
   rw [verd_5 h14 (hi0 (by decide)) (hi1 (by decide)) (hi2 (by decide))]
   exact Qk <| Qc rfl rfl rfl (.inr rfl)
def mcv16:MC:=(.seq (.reg [oN 3 (.box 31 3 (.t 0)) [],oN 4 (.box 35 3 (.t 1)) [],oN 6 (.mv (.c .nils)) []] false) (.seq (.reg [oN 12 (.ld true 3 (.t 3)) [],oN 13 (.ld true 3 (.t 4)) [],oN 14 (.call 60 [(.t 12),(.t 13)]) [0,1],oM 7 14 [2,2,0,1,2]] false) (.seq (.reg [oM 15 7 [],oN 16 (.bin .eql (.t 15) (.c (.int .i64 0))) [0],oM 17 16 [1],pM 18 7 17 false [2],oG 19 (.bin .eql (.t 18) (.c (.int .i64 35))) 17 false [3,2],oN 20 (.pick (.t 17) (.c (.bool true)) (.t 19)) [2,4],oM 21 20 [5,2],pM 22 7 21 false [6],oG 23 (.bin .eql (.t 22) (.c (.int .i64 30))) 21 false [7,6],oN 24 (.pick (.t 21) (.c (.bool true)) (.t 23)) [6,8],oM 25 24 [9,6],pM 26 7 25 false [10],oG 27 (.bin .eql (.t 26) (.c (.int .i64 34))) 25 false [11,10],oN 28 (.pick (.t 25) (.c (.bool true)) (.t 27)) [10,12],oM 8 28 [13,10,0,1,2,3,4,5,6,7,8,9,10,11,12,13]] false) (.seq (.seq (.reg [oM 29 8 [],oN 30 (.un .not (.t 29)) [0],oM 31 30 [1],pM 32 2 31 false [2],oG 33 (.seq false (.t 32) (.c (.str (Qm [])))) 31 false [3,2],oN 34 (.pick (.t 31) (.c (.bool true)) (.t 33)) [2,4]] false) (.cond (.t 34) (.seq (.reg [oN 6 (.mv (.c .nils)) []] false) .ret) .skip)) (.seq (.reg [oN 9 (.mv (.c .nils)) []] false) (.seq (.seq (.reg [oA 35 2 3 [],oD 36 1 35 [0],oN 37 (.len (.t 36)) [1],oN 38 (.mv (.c (.int .i64 0))) []] false) (.block 0 (.loop (.seq (.reg [oN 39 (.bin .lss (.t 38) (.t 37)) []] false) (.seq (.cond (.t 39) .skip (.exit 0)) (.seq (.block 1 (.seq (.reg [oM 40 38 [],oN 41 (.ixsl 1 (.t 36) (.t 38)) [],oD 42 1 41 [1],oM 10 40 [0,0,1,2],oM 11 42 [2,3,0,1,2,3]] false) (.reg [oM 43 9 [],oM 44 10 [],oM 45 11 [],oA 46 0 4 [],oD 47 1 46 [3],oM 48 10 [],oN 49 (.ixsl 1 (.t 47) (.t 48)) [4,5],oD 50 1 49 [6],oA 51 1 4 [],oD 52 1 51 [8],oM 53 10 [],oN 54 (.ixsl 1 (.t 52) (.t 53)) [9,10],oD 55 1 54 [11],oM 56 2 [],oM 57 10 [],oN 58 (.call 61 [(.t 57)]) [14],oN 59 (.call 40 [(.t 56),(.t 58)]) [13,15,15],oN 60 (.build [(.int .i64 0),(.int .i64 0),(.bool false),(.bool false),(.str (Qm []))] [(0,(1,(.t 44))),(1,(1,(.t 45))),(2,(1,(.t 50))),(3,(1,(.t 55))),(4,(1,(.t 59)))]) [1,2,7,12,16],oN 61 (.bslice 51 5 [(.int .i64 0),(.int .i64 0),(.bool false),(.bool false),(.str (Qm []))] 1 [(0,(.t 60))]) [17],oN 62 (.app 51 5 40 [(.int .i64 0),(.int .i64 0),(.bool false),(.bool false),(.str (Qm []))] (.t 43) (.t 61)) [0,18,16],oM 9 62 [19,19,0,1,2,3,4,5,6,7,8,9,10,11,12,13,14,15,16,17,18,19]] true))) (.reg [oN 63 (.bin .add (.t 38) (.c (.int .i64 1))) [],oM 38 63 [0]] false))))))) (.seq (.reg [oM 64 9 [],oM 6 64 [0,0]] false) .ret)))))))
theorem mcOkv16:okM Tryz.prog Tryz.f16 65=some mcv16:=by kernel_rfl
set_option maxHeartbeats 2000000 in
theorem vc16 (p:Pa) (hp:PaOK p) (x:Pc) (hx:PcOK x) (s:List Int) (hs:B8 s/\s.length<=LIM):FC Tryz.prog 16 [.agg (cPa p),.agg (cPc x),.str (Qm s)] [] (.rs 5 ((Xh p x s).map cLf)) [] false:=by
 have hpn:=hp.n
 have hxn:=hx.n
 refine Qj (nt:=65) Tryz.func16 rfl rfl mcOkv16 (nL rfl) ?_
 delta mcv16
 refine gA 10 rfl (cN rfl rfl (vc60 p hp x hx) (gR 5 rfl (Q9 rfl rfl rfl rfl (fun h16=>?_) (fun h16=>?_))))
 ·skip
  refine gR 21 rfl (rs_seq (r:=decide (s=[])) rfl rfl rfl hs.1 (fun x hx=>by cases hx) (by by_cases e:s=[] <;> simp [e]) ?_)
  cases h33:decide (s=[])
  ·skip
   refine gR 5 rfl ?_
   have hfine:fineB (JN p x)=true:=by unfold fineB; rw [decide_eq_true h16]; rfl
   have hfit:=fine_fit hfine
   obtain ⟨hl1,hl2,hl3,_,_⟩:=fit_len hfit
   refine gI 8 rfl (Qh rfl rfl (gR 3 rfl ?_))
   refine Qr (α:=Nat) (fun k=>p.want.length-k) (fun k=>[(2,.str (Qm s)),(4,.ptr 4 0 0),(36,.rs 1 (p.want.map civ)),(37,iv (p.want.length:Int)),(38,iv (((k):Nat):Int)),(9,.sl 901 0 (k))]) (fun k=>[(4,.cells 35 3 [cPc x] true),(901,.cells 51 5 (((List.range (k)).map (Je p x s)).map cLf) true)]) (fun k=>k<=p.want.length) 0 (by omega)
    (Qa (.cs (.cs (.cs (.cs (.cs (.cons rfl (J4 rfl rfl) (.nil))))))) (.keep (rfl) rfl (.virt rfl (.nil))) (fun i h=>by cases h)) ?_
   intro k hk
   refine gT 5 rfl (Qe rfl (fun h39=>?_) (fun h39=>?_))
   ·replace h39:=of_decide_eq_true h39
    refine gK 6 rfl ?_
    obtain ⟨w,hwk,hwm⟩:=Qo (L:=p.want) (k:=k) (by omega)
    obtain ⟨a,hak,ham⟩:=Qo (L:=x.sure) (k:=k) (by omega)
    obtain ⟨b,hbk,hbm⟩:=Qo (L:=x.touched) (k:=k) (by omega)
    refine Qp (f:=civ) (y:=w) rfl rfl rfl (by omega) hwk (gR 11 rfl (Qp (f:=cB) (y:=a) rfl rfl rfl (by omega) hak (gR 4 rfl (Qp (f:=cB) (y:=b) rfl rfl rfl (by omega) hbk (gR 3 rfl (cN rfl rfl (vc61 (k:Int) ⟨by omega,by omega⟩) (gR 0 rfl (cN rfl rfl (vc40 s (XK (k:Int)) hs ⟨vint_8 _,Nat.le_trans (Xv _) (by decide)⟩) (gR 1 rfl (Qi (l:=(([⟨(k:Int),w,a,b,Xn s (XK (k:Int))⟩]:List Lf)).flatMap cLf) (els:=(([⟨(k:Int),w,a,b,Xn s (XK (k:Int))⟩]:List Lf)).map cLf) (fl:=true) rfl (by kernel_rfl) rfl rfl (by kernel_rfl) (by kernel_rfl) (gR 0 rfl ?_)))))))))))
    refine QB (f:=cLf) (xs:=(List.range k).map (Je p x s)) (y:=⟨(k:Int),w,a,b,Xn s (XK (k:Int))⟩) (fl':=true) rfl rfl rfl rfl (by simp) rfl rfl rfl (by decide) rfl (by omega) (by omega) rfl (gR 1 rfl (QJ (by kernel_rfl) (gP 1 rfl (Qg rfl rfl rfl (by omega) (gR 2 rfl ?_)))))
    exact Q8 <| ⟨k+1,by omega,by omega,Q6 (i:=62) (i':=901) (F1:=[(2,.str (Qm s)),(4,.ptr 4 0 0),(36,.rs 1 (p.want.map civ)),(37,iv (p.want.length:Int)),(38,iv (((k+1):Nat):Int)),(9,.sl 62 0 (k+1))]) (H1:=[(4,.cells 35 3 [cPc x] true),(62,.cells 51 5 (((List.range (k+1)).map (Je p x s)).map cLf) true)]) (Qb rfl rfl) (.keep (rfl) rfl (.keep (by rw [leaf_snoc hwk hak hbk]; rfl) rfl (.nil))) (fun i h=>by cases h) rfl rfl (.cons rfl (.same _) (.cons rfl (.same _) (.cons rfl (.same _) (.cons rfl (.same _) (.cons rfl (.same _) (.cons rfl (.sl _ _) (.nil))))))) (Qb rfl rfl) (.keep (rfl) rfl (.keep (rfl) rfl (.nil))) (fun i h=>by cases h)⟩
   ·replace h39:=of_decide_eq_false h39
    refine gK 7 rfl ?_
    obtain rfl:k=p.want.length:=by omega
    rw [show Xh p x s=(List.range p.want.length).map (Je p x s) from by unfold Xh; rw [if_pos ⟨hfine,of_decide_eq_false h33⟩]]
    exact Qk <| Qs rfl (Xr (f:=cLf) (xs:=(List.range p.want.length).map (Je p x s)) rfl rfl (by simp) (fun _=>rfl)) .nil
  ·skip
   refine gR 8 rfl ?_
   rw [show Xh p x s=[] from by unfold Xh; rw [if_neg (fun h=>h.2 (of_decide_eq_true h33))]]
   exact Qk <| Qs rfl QI .nil
 ·skip
  refine gR 2 rfl (Q9 rfl rfl rfl rfl (fun h19=>?_) (fun h19=>?_))
  ·skip
   refine gR 18 rfl (rs_seq (r:=decide (s=[])) rfl rfl rfl hs.1 (fun x hx=>by cases hx) (by by_cases e:s=[] <;> simp [e]) ?_)
   cases h33:decide (s=[])
   ·skip
    refine gR 5 rfl ?_
    have hfine:fineB (JN p x)=true:=by unfold fineB; rw [decide_eq_false h16,decide_eq_true h19]; rfl
    have hfit:=fine_fit hfine
    obtain ⟨hl1,hl2,hl3,_,_⟩:=fit_len hfit
    refine gI 8 rfl (Qh rfl rfl (gR 3 rfl ?_))
    refine Qr (α:=Nat) (fun k=>p.want.length-k) (fun k=>[(2,.str (Qm s)),(4,.ptr 4 0 0),(36,.rs 1 (p.want.map civ)),(37,iv (p.want.length:Int)),(38,iv (((k):Nat):Int)),(9,.sl 901 0 (k))]) (fun k=>[(4,.cells 35 3 [cPc x] true),(901,.cells 51 5 (((List.range (k)).map (Je p x s)).map cLf) true)]) (fun k=>k<=p.want.length) 0 (by omega)
     (Qa (.cs (.cs (.cs (.cs (.cs (.cons rfl (J4 rfl rfl) (.nil))))))) (.keep (rfl) rfl (.virt rfl (.nil))) (fun i h=>by cases h)) ?_
    intro k hk
    refine gT 5 rfl (Qe rfl (fun h39=>?_) (fun h39=>?_))
    ·replace h39:=of_decide_eq_true h39
     refine gK 6 rfl ?_
     obtain ⟨w,hwk,hwm⟩:=Qo (L:=p.want) (k:=k) (by omega)
     obtain ⟨a,hak,ham⟩:=Qo (L:=x.sure) (k:=k) (by omega)
     obtain ⟨b,hbk,hbm⟩:=Qo (L:=x.touched) (k:=k) (by omega)
     refine Qp (f:=civ) (y:=w) rfl rfl rfl (by omega) hwk (gR 11 rfl (Qp (f:=cB) (y:=a) rfl rfl rfl (by omega) hak (gR 4 rfl (Qp (f:=cB) (y:=b) rfl rfl rfl (by omega) hbk (gR 3 rfl (cN rfl rfl (vc61 (k:Int) ⟨by omega,by omega⟩) (gR 0 rfl (cN rfl rfl (vc40 s (XK (k:Int)) hs ⟨vint_8 _,Nat.le_trans (Xv _) (by decide)⟩) (gR 1 rfl (Qi (l:=(([⟨(k:Int),w,a,b,Xn s (XK (k:Int))⟩]:List Lf)).flatMap cLf) (els:=(([⟨(k:Int),w,a,b,Xn s (XK (k:Int))⟩]:List Lf)).map cLf) (fl:=true) rfl (by kernel_rfl) rfl rfl (by kernel_rfl) (by kernel_rfl) (gR 0 rfl ?_)))))))))))
     refine QB (f:=cLf) (xs:=(List.range k).map (Je p x s)) (y:=⟨(k:Int),w,a,b,Xn s (XK (k:Int))⟩) (fl':=true) rfl rfl rfl rfl (by simp) rfl rfl rfl (by decide) rfl (by omega) (by omega) rfl (gR 1 rfl (QJ (by kernel_rfl) (gP 1 rfl (Qg rfl rfl rfl (by omega) (gR 2 rfl ?_)))))
     exact Q8 <| ⟨k+1,by omega,by omega,Q6 (i:=62) (i':=901) (F1:=[(2,.str (Qm s)),(4,.ptr 4 0 0),(36,.rs 1 (p.want.map civ)),(37,iv (p.want.length:Int)),(38,iv (((k+1):Nat):Int)),(9,.sl 62 0 (k+1))]) (H1:=[(4,.cells 35 3 [cPc x] true),(62,.cells 51 5 (((List.range (k+1)).map (Je p x s)).map cLf) true)]) (Qb rfl rfl) (.keep (rfl) rfl (.keep (by rw [leaf_snoc hwk hak hbk]; rfl) rfl (.nil))) (fun i h=>by cases h) rfl rfl (.cons rfl (.same _) (.cons rfl (.same _) (.cons rfl (.same _) (.cons rfl (.same _) (.cons rfl (.same _) (.cons rfl (.sl _ _) (.nil))))))) (Qb rfl rfl) (.keep (rfl) rfl (.keep (rfl) rfl (.nil))) (fun i h=>by cases h)⟩
    ·replace h39:=of_decide_eq_false h39
     refine gK 7 rfl ?_
     obtain rfl:k=p.want.length:=by omega
     rw [show Xh p x s=(List.range p.want.length).map (Je p x s) from by unfold Xh; rw [if_pos ⟨hfine,of_decide_eq_false h33⟩]]
     exact Qk <| Qs rfl (Xr (f:=cLf) (xs:=(List.range p.want.length).map (Je p x s)) rfl rfl (by simp) (fun _=>rfl)) .nil
   ·skip
    refine gR 8 rfl ?_
    rw [show Xh p x s=[] from by unfold Xh; rw [if_neg (fun h=>h.2 (of_decide_eq_true h33))]]
    exact Qk <| Qs rfl QI .nil
  ·skip
   refine gR 3 rfl (Q9 rfl rfl rfl rfl (fun h23=>?_) (fun h23=>?_))
   ·skip
    refine gR 14 rfl (rs_seq (r:=decide (s=[])) rfl rfl rfl hs.1 (fun x hx=>by cases hx) (by by_cases e:s=[] <;> simp [e]) ?_)
    cases h33:decide (s=[])
    ·skip
     refine gR 5 rfl ?_
     have hfine:fineB (JN p x)=true:=by unfold fineB; rw [decide_eq_false h16,decide_eq_false h19,decide_eq_true h23]; rfl
     have hfit:=fine_fit hfine
     obtain ⟨hl1,hl2,hl3,_,_⟩:=fit_len hfit
     refine gI 8 rfl (Qh rfl rfl (gR 3 rfl ?_))
     refine Qr (α:=Nat) (fun k=>p.want.length-k) (fun k=>[(2,.str (Qm s)),(4,.ptr 4 0 0),(36,.rs 1 (p.want.map civ)),(37,iv (p.want.length:Int)),(38,iv (((k):Nat):Int)),(9,.sl 901 0 (k))]) (fun k=>[(4,.cells 35 3 [cPc x] true),(901,.cells 51 5 (((List.range (k)).map (Je p x s)).map cLf) true)]) (fun k=>k<=p.want.length) 0 (by omega)
      (Qa (.cs (.cs (.cs (.cs (.cs (.cons rfl (J4 rfl rfl) (.nil))))))) (.keep (rfl) rfl (.virt rfl (.nil))) (fun i h=>by cases h)) ?_
     intro k hk
     refine gT 5 rfl (Qe rfl (fun h39=>?_) (fun h39=>?_))
     ·replace h39:=of_decide_eq_true h39
      refine gK 6 rfl ?_
      obtain ⟨w,hwk,hwm⟩:=Qo (L:=p.want) (k:=k) (by omega)
      obtain ⟨a,hak,ham⟩:=Qo (L:=x.sure) (k:=k) (by omega)
      obtain ⟨b,hbk,hbm⟩:=Qo (L:=x.touched) (k:=k) (by omega)
      refine Qp (f:=civ) (y:=w) rfl rfl rfl (by omega) hwk (gR 11 rfl (Qp (f:=cB) (y:=a) rfl rfl rfl (by omega) hak (gR 4 rfl (Qp (f:=cB) (y:=b) rfl rfl rfl (by omega) hbk (gR 3 rfl (cN rfl rfl (vc61 (k:Int) ⟨by omega,by omega⟩) (gR 0 rfl (cN rfl rfl (vc40 s (XK (k:Int)) hs ⟨vint_8 _,Nat.le_trans (Xv _) (by decide)⟩) (gR 1 rfl (Qi (l:=(([⟨(k:Int),w,a,b,Xn s (XK (k:Int))⟩]:List Lf)).flatMap cLf) (els:=(([⟨(k:Int),w,a,b,Xn s (XK (k:Int))⟩]:List Lf)).map cLf) (fl:=true) rfl (by kernel_rfl) rfl rfl (by kernel_rfl) (by kernel_rfl) (gR 0 rfl ?_)))))))))))
      refine QB (f:=cLf) (xs:=(List.range k).map (Je p x s)) (y:=⟨(k:Int),w,a,b,Xn s (XK (k:Int))⟩) (fl':=true) rfl rfl rfl rfl (by simp) rfl rfl rfl (by decide) rfl (by omega) (by omega) rfl (gR 1 rfl (QJ (by kernel_rfl) (gP 1 rfl (Qg rfl rfl rfl (by omega) (gR 2 rfl ?_)))))
      exact Q8 <| ⟨k+1,by omega,by omega,Q6 (i:=62) (i':=901) (F1:=[(2,.str (Qm s)),(4,.ptr 4 0 0),(36,.rs 1 (p.want.map civ)),(37,iv (p.want.length:Int)),(38,iv (((k+1):Nat):Int)),(9,.sl 62 0 (k+1))]) (H1:=[(4,.cells 35 3 [cPc x] true),(62,.cells 51 5 (((List.range (k+1)).map (Je p x s)).map cLf) true)]) (Qb rfl rfl) (.keep (rfl) rfl (.keep (by rw [leaf_snoc hwk hak hbk]; rfl) rfl (.nil))) (fun i h=>by cases h) rfl rfl (.cons rfl (.same _) (.cons rfl (.same _) (.cons rfl (.same _) (.cons rfl (.same _) (.cons rfl (.same _) (.cons rfl (.sl _ _) (.nil))))))) (Qb rfl rfl) (.keep (rfl) rfl (.keep (rfl) rfl (.nil))) (fun i h=>by cases h)⟩
     ·replace h39:=of_decide_eq_false h39
      refine gK 7 rfl ?_
      obtain rfl:k=p.want.length:=by omega
      rw [show Xh p x s=(List.range p.want.length).map (Je p x s) from by unfold Xh; rw [if_pos ⟨hfine,of_decide_eq_false h33⟩]]
      exact Qk <| Qs rfl (Xr (f:=cLf) (xs:=(List.range p.want.length).map (Je p x s)) rfl rfl (by simp) (fun _=>rfl)) .nil
    ·skip
     refine gR 8 rfl ?_
     rw [show Xh p x s=[] from by unfold Xh; rw [if_neg (fun h=>h.2 (of_decide_eq_true h33))]]
     exact Qk <| Qs rfl QI .nil
   ·skip
    refine gR 3 rfl (Q9 rfl rfl rfl rfl (fun h27=>?_) (fun h27=>?_))
    ·skip
     refine gR 10 rfl (rs_seq (r:=decide (s=[])) rfl rfl rfl hs.1 (fun x hx=>by cases hx) (by by_cases e:s=[] <;> simp [e]) ?_)
     cases h33:decide (s=[])
     ·skip
      refine gR 5 rfl ?_
      have hfine:fineB (JN p x)=true:=by unfold fineB; rw [decide_eq_false h16,decide_eq_false h19,decide_eq_false h23,decide_eq_true h27]; rfl
      have hfit:=fine_fit hfine
      obtain ⟨hl1,hl2,hl3,_,_⟩:=fit_len hfit
      refine gI 8 rfl (Qh rfl rfl (gR 3 rfl ?_))
      refine Qr (α:=Nat) (fun k=>p.want.length-k) (fun k=>[(2,.str (Qm s)),(4,.ptr 4 0 0),(36,.rs 1 (p.want.map civ)),(37,iv (p.want.length:Int)),(38,iv (((k):Nat):Int)),(9,.sl 901 0 (k))]) (fun k=>[(4,.cells 35 3 [cPc x] true),(901,.cells 51 5 (((List.range (k)).map (Je p x s)).map cLf) true)]) (fun k=>k<=p.want.length) 0 (by omega)
       (Qa (.cs (.cs (.cs (.cs (.cs (.cons rfl (J4 rfl rfl) (.nil))))))) (.keep (rfl) rfl (.virt rfl (.nil))) (fun i h=>by cases h)) ?_
      intro k hk
      refine gT 5 rfl (Qe rfl (fun h39=>?_) (fun h39=>?_))
      ·replace h39:=of_decide_eq_true h39
       refine gK 6 rfl ?_
       obtain ⟨w,hwk,hwm⟩:=Qo (L:=p.want) (k:=k) (by omega)
       obtain ⟨a,hak,ham⟩:=Qo (L:=x.sure) (k:=k) (by omega)
       obtain ⟨b,hbk,hbm⟩:=Qo (L:=x.touched) (k:=k) (by omega)
       refine Qp (f:=civ) (y:=w) rfl rfl rfl (by omega) hwk (gR 11 rfl (Qp (f:=cB) (y:=a) rfl rfl rfl (by omega) hak (gR 4 rfl (Qp (f:=cB) (y:=b) rfl rfl rfl (by omega) hbk (gR 3 rfl (cN rfl rfl (vc61 (k:Int) ⟨by omega,by omega⟩) (gR 0 rfl (cN rfl rfl (vc40 s (XK (k:Int)) hs ⟨vint_8 _,Nat.le_trans (Xv _) (by decide)⟩) (gR 1 rfl (Qi (l:=(([⟨(k:Int),w,a,b,Xn s (XK (k:Int))⟩]:List Lf)).flatMap cLf) (els:=(([⟨(k:Int),w,a,b,Xn s (XK (k:Int))⟩]:List Lf)).map cLf) (fl:=true) rfl (by kernel_rfl) rfl rfl (by kernel_rfl) (by kernel_rfl) (gR 0 rfl ?_)))))))))))
       refine QB (f:=cLf) (xs:=(List.range k).map (Je p x s)) (y:=⟨(k:Int),w,a,b,Xn s (XK (k:Int))⟩) (fl':=true) rfl rfl rfl rfl (by simp) rfl rfl rfl (by decide) rfl (by omega) (by omega) rfl (gR 1 rfl (QJ (by kernel_rfl) (gP 1 rfl (Qg rfl rfl rfl (by omega) (gR 2 rfl ?_)))))
       exact Q8 <| ⟨k+1,by omega,by omega,Q6 (i:=62) (i':=901) (F1:=[(2,.str (Qm s)),(4,.ptr 4 0 0),(36,.rs 1 (p.want.map civ)),(37,iv (p.want.length:Int)),(38,iv (((k+1):Nat):Int)),(9,.sl 62 0 (k+1))]) (H1:=[(4,.cells 35 3 [cPc x] true),(62,.cells 51 5 (((List.range (k+1)).map (Je p x s)).map cLf) true)]) (Qb rfl rfl) (.keep (rfl) rfl (.keep (by rw [leaf_snoc hwk hak hbk]; rfl) rfl (.nil))) (fun i h=>by cases h) rfl rfl (.cons rfl (.same _) (.cons rfl (.same _) (.cons rfl (.same _) (.cons rfl (.same _) (.cons rfl (.same _) (.cons rfl (.sl _ _) (.nil))))))) (Qb rfl rfl) (.keep (rfl) rfl (.keep (rfl) rfl (.nil))) (fun i h=>by cases h)⟩
      ·replace h39:=of_decide_eq_false h39
       refine gK 7 rfl ?_
       obtain rfl:k=p.want.length:=by omega
       rw [show Xh p x s=(List.range p.want.length).map (Je p x s) from by unfold Xh; rw [if_pos ⟨hfine,of_decide_eq_false h33⟩]]
       exact Qk <| Qs rfl (Xr (f:=cLf) (xs:=(List.range p.want.length).map (Je p x s)) rfl rfl (by simp) (fun _=>rfl)) .nil
     ·skip
      refine gR 8 rfl ?_
      rw [show Xh p x s=[] from by unfold Xh; rw [if_neg (fun h=>h.2 (of_decide_eq_true h33))]]
      exact Qk <| Qs rfl QI .nil
    ·skip
     refine gR 19 rfl ?_
     rw [show Xh p x s=[] from by unfold Xh; rw [if_neg (fun h=>by have h1:=h.1; unfold fineB at h1; rw [decide_eq_false h16,decide_eq_false h19,decide_eq_false h23,decide_eq_false h27] at h1; cases h1)]]
     exact Qk <| Qs rfl QI .nil
end Go.Proofs.YthfhaoogcpfboaaGreat
namespace Go.Proofs.YthfhaoogcpfboaaGreat
open Go.RowKit
set_option maxRecDepth 100000
set_option linter.unusedVariables false
def exBox (k:Nat):List Pl:=JC ⟨k,0,0⟩ ⟨k+1,1,1⟩
def exBs (k:Nat):List (List Pl):=(List.range k).map exBox
def exWs (k:Nat):List Int:=(List.range k).map fun (i:Nat)=>(i:Int)+1
theorem exBs_succ (k:Nat):exBs (k+1)=exBs k++[exBox k]:=by unfold exBs; rw [List.range_succ,List.map_append]; rfl
theorem exWs_succ (k:Nat):exWs (k+1)=exWs k++[(k:Int)+1]:=by unfold exWs; rw [List.range_succ,List.map_append]; rfl
theorem exBs_len (k:Nat):(exBs k).length=k:=by simp [exBs]
theorem exWs_len (k:Nat):(exWs k).length=k:=by simp [exWs]
def exA:Pa:=⟨[],exBs 3,exWs 3⟩
def exX:Pc:=⟨[false,true,false],[false,true,false],[]⟩
theorem exA_ok:PaOK exA:=⟨by decide,by decide,by decide⟩
theorem exX_ok:PcOK exX:=⟨by decide,by decide⟩
def exL:List Lf:=Xh exA exX [115]
def ixF:Nat->List Lf->Bool
 | _,[]=>true
 | k,x::l=>decide (x.ix=(k:Int))&&ixF (k+1) l
theorem ixF_at {l:List Lf} {k:Nat} {x:Lf} (h:l[k]?=some x):ixF k (l.drop k)=(decide (x.ix=(k:Int))&&ixF (k+1) (l.drop (k+1))):=by rw [Jo h]; rfl
theorem ixF_ix:∀ {l:List Lf} {k:Nat},ixF k l=true->∀ (i:Nat) (x:Lf),l[i]?=some x->x.ix=((k+i:Nat):Int)
 | [],k,_,i,x,h=>by simp at h
 | y::l,k,hl,i,x,h=>by
  simp only [ixF,Bool.and_eq_true,decide_eq_true_eq] at hl
  cases i with
  | zero=>simp at h; subst h; exact hl.1
  | succ i=>rw [ixF_ix hl.2 i x (by simpa using h)]; omega
def XY (ls:List Lf) (w:List Int):Int:=if ls.length=0\/ls.length>16 then 2 else if ixF 0 ls=false then 4 else if w.any (outP ls.length)=true then 5 else if incF (ls.length:Int) (-1) w=false then 7 else 0
def showG (ls:List Lf) (w:List Int):Shn:=if XY ls w=0 then showS ls w else ⟨0,[],[]⟩
theorem shE_2 {ls:List Lf} {w:List Int} (h:ls.length=0\/ls.length>16):XY ls w=2:=if_pos h
theorem shE_4 {ls:List Lf} {w:List Int} (h:¬ (ls.length=0\/ls.length>16)) (h2:ixF 0 ls=false):XY ls w=4:=by unfold XY; rw [if_neg h,if_pos h2]
theorem shE_5 {ls:List Lf} {w:List Int} (h:¬ (ls.length=0\/ls.length>16)) (h2:ixF 0 ls=true) (h3:w.any (outP ls.length)=true):XY ls w=5:=by unfold XY; rw [if_neg h,if_neg (by rw [h2]; decide),if_pos h3]
theorem shE_7 {ls:List Lf} {w:List Int} (h:¬ (ls.length=0\/ls.length>16)) (h2:ixF 0 ls=true) (h3:w.any (outP ls.length)=false) (h4:incF (ls.length:Int) (-1) w=false):XY ls w=7:=by unfold XY; rw [if_neg h,if_neg (by rw [h2]; decide),if_neg (by rw [h3]; decide),if_pos h4]
theorem shE_0 {ls:List Lf} {w:List Int} (h:¬ (ls.length=0\/ls.length>16)) (h2:ixF 0 ls=true) (h3:w.any (outP ls.length)=false) (h4:incF (ls.length:Int) (-1) w=true):XY ls w=0:=by unfold XY; rw [if_neg h,if_neg (by rw [h2]; decide),if_neg (by rw [h3]; decide),if_neg (by rw [h4]; decide)]
theorem shG_e {ls:List Lf} {w:List Int} {e:Int} (h:XY ls w=e) (h0:e≠0):showG ls w=⟨0,[],[]⟩:=by unfold showG; rw [if_neg (by rw [h]; exact h0)]
theorem shG_0 {ls:List Lf} {w:List Int} (h:XY ls w=0):showG ls w=showS ls w:=if_pos h
theorem out_bd {n:Nat} {w:List Int} (h:w.any (outP n)=false):∀ x∈w,0<=x/\x<(n:Int):=fun x hx=>by
 have:=List.any_eq_false.1 h x hx
 simp only [outP,Bool.or_eq_true,decide_eq_true_eq] at this
 omega
theorem showG_8 {ls:List Lf} {w:List Int}:∀ d∈(showG ls w).hid,B8 d/\d.length<=LIM:=fun d hd=>by
 unfold showG at hd
 split at hd
 ·obtain ⟨s,_,rfl⟩:=List.mem_map.1 hd
  exact (ofK_ok ls).tree _ _
 ·cases hd
def shB (ls:List Lf) (w:List Int) (want:List (List Int)):Bool:=decide (XY ls w=0)&&(decide ((showG ls w).size=ls.length)&&(decide ((showG ls w).hid=want)&&decide (((showG ls w).leaves.length:Int)=w.length)))
def mcv39:MC:=(.seq (.reg [oN 0 (.mv (.c .nils)) []] false) (.seq (.reg [oN 1 (.alloc 31 3 [(.str (Qm [])),.nils,.nils]) []] false) (.seq (.seq (.reg [oN 2 (.mv (.c (.int .i64 0))) []] false) (.block 0 (.loop (.seq (.seq (.reg [oM 3 2 [],oN 4 (.bin .lss (.t 3) (.c (.int .i64 3))) [0]] false) (.cond (.t 4) .skip (.exit 0))) (.seq (.block 1 (.seq (.reg [oA 7 1 1 [],oD 8 1 7 [0],oM 9 2 [],oN 10 (.build [(.int .i64 0),(.int .i64 0),(.int .i64 0)] [(0,(1,(.t 9)))]) [2],oM 11 2 [],oN 12 (.bin .add (.t 11) (.c (.int .i64 1))) [4],oN 13 (.build [(.int .i64 0),(.int .i64 0),(.int .i64 0)] [(0,(1,(.t 12))),(1,(1,(.c (.int .i64 1)))),(2,(1,(.c (.int .i64 1))))]) [5],oN 14 (.call 47 [(.t 10),(.t 13)]) [3,6],oN 15 (.bslice 85 1 [.nils] 1 [(0,(.t 14))]) [7],oN 16 (.app 85 1 24 [.nils] (.t 8) (.t 15)) [1,8,7],oA 17 1 1 [0,1,2,3,4,5,6,7,8,9],⟨none,(.st 1 (.t 17) (.t 16)),none,[10,9,9,0,1,2,3,4,5,6,7,8,9]⟩] true) (.reg [oA 18 2 1 [],oD 19 1 18 [0],oM 20 2 [],oN 21 (.bin .add (.t 20) (.c (.int .i64 1))) [2],oN 22 (.bslice 3 1 [(.int .i64 0)] 1 [(0,(.t 21))]) [3],oN 23 (.app 3 1 8 [(.int .i64 0)] (.t 19) (.t 22)) [1,4],oA 24 2 1 [0,1,2,3,4,5],⟨none,(.st 1 (.t 24) (.t 23)),none,[6,5,5,0,1,2,3,4,5]⟩] false))) (.reg [oM 5 2 [],oN 6 (.bin .add (.t 5) (.c (.int .i64 1))) [0],oM 2 6 [1,0,1]] false)))))) (.seq (.reg [oN 25 (.ld true 3 (.t 1)) [],oN 26 (.bslice 4 1 [(.bool false)] 3 [(0,(.c (.bool false))),(1,(.c (.bool true))),(2,(.c (.bool false)))]) [],oN 27 (.bslice 4 1 [(.bool false)] 3 [(0,(.c (.bool false))),(1,(.c (.bool true))),(2,(.c (.bool false)))]) [],oN 28 (.build [.nils,.nils,.nils] [(0,(1,(.t 26))),(1,(1,(.t 27)))]) [1,2],oN 29 (.call 16 [(.t 25),(.t 28),(.c (.str (Qm [115])))]) [0,3],oM 0 29 [4,4,0,1,2,3,4]] false) .ret))))
theorem mcOkv39:okM Tryz.prog Tryz.f39 30=some mcv39:=by kernel_rfl
set_option maxHeartbeats 1000000 in
theorem vc39  : FC Tryz.prog 39 [] [] (.rs 5 (exL.map cLf)) [] true:=by
 refine Qj (nt:=30) Tryz.func39 rfl rfl mcOkv39 (nL rfl) ?_
 delta mcv39
 refine gA 14 rfl (QE (F0:=[(1,.ptr 1 0 0),(2,iv (((0):Nat):Int))]) (H0:=[(1,.cells 31 3 [[.str (Qm []),.sl 905 0 (0),.sl 906 0 (0)]] false),(905,.cells 85 1 ((exBs (0)).map cR) true),(906,.cells 3 1 ((exWs (0)).map civ) true)]) (Weak.trans (F1:=[(1,.ptr 1 0 0),(2,iv (((0):Nat):Int))]) (H1:=[(1,.cells 31 3 [[.str (Qm []),.nils,.nils]] true)]) (Qa (Qb rfl rfl) (.keep (rfl) rfl (.nil)) fun i h=>by cases h) (Weak.trans (F1:=[(1,.ptr 1 0 0),(2,iv (((0):Nat):Int))]) (H1:=[(1,.cells 31 3 [[.str (Qm []),.sl 905 0 0,.nils]] false),(905,.cells 85 1 ((exBs (0)).map cR) true)]) (Weak.trans (F1:=[(1,.ptr 1 0 0),(2,iv (((0):Nat):Int))]) (Jx (i:=905) (k:=1) (e2:=85) (z2:=1) (fl2:=true) rfl rfl (.next .here)) (Qa (Qb rfl rfl) (.keep (rfl) rfl (.keep (rfl) rfl (.nil))) fun i h=>by cases h)) (Weak.trans (F1:=[(1,.ptr 1 0 0),(2,iv (((0):Nat):Int))]) (Jx (i:=906) (k:=1) (e2:=3) (z2:=1) (fl2:=true) rfl rfl (.next (.next .here))) (Qa (Qb rfl rfl) (.keep (rfl) rfl (.keep (rfl) rfl (.keep (rfl) rfl (.nil)))) fun i h=>by cases h)))) ?_)
 refine Qr (α:=Nat) (fun k=>3-k) (fun k=>[(1,.ptr 1 0 0),(2,iv (((k):Nat):Int))]) (fun k=>[(1,.cells 31 3 [[.str (Qm []),.sl 905 0 (k),.sl 906 0 (k)]] false),(905,.cells 85 1 ((exBs (k)).map cR) true),(906,.cells 3 1 ((exWs (k)).map civ) true)]) (fun k=>k<=3) 0 (by omega)
  (Qa (Qb rfl rfl) (.keep (rfl) rfl (.keep (rfl) rfl (.keep (rfl) rfl (.nil)))) (fun i h=>by cases h)) ?_
 intro k hk
 refine gT 6 rfl (Qe rfl (fun h4=>?_) (fun h4=>?_))
 ·replace h4:=of_decide_eq_true h4
  refine gK 10 rfl (Qg rfl rfl rfl (by omega) (gR 1 rfl (cN rfl rfl (vc47 ⟨k,0,0⟩ ⟨k+1,1,1⟩ ⟨by dsimp only; omega,by dsimp only; omega,by dsimp only; omega⟩) (gR 0 rfl (Qi (l:=(([exBox k]:List (List Pl))).flatMap cR) (els:=(([exBox k]:List (List Pl))).map cR) (fl:=true) rfl (by kernel_rfl) rfl rfl (by kernel_rfl) (by kernel_rfl) (gR 0 rfl (QB (f:=cR) (xs:=exBs k) (y:=exBox k) (fl':=true) rfl rfl rfl rfl (exBs_len k) rfl rfl rfl (by decide) rfl (by omega) (by omega) rfl (gR 2 rfl (QJ (by kernel_rfl) (gP 4 rfl (Qg rfl rfl rfl (by omega) ?_)))))))))))
  refine gR 0 rfl (Qi (l:=(([(k:Int)+1]:List Int)).flatMap civ) (els:=(([(k:Int)+1]:List Int)).map civ) (fl:=true) rfl (by kernel_rfl) rfl rfl (by kernel_rfl) (by kernel_rfl) (gR 0 rfl (QB (f:=civ) (xs:=exWs k) (y:=(k:Int)+1) (fl':=true) rfl rfl rfl rfl (exWs_len k) rfl rfl rfl (by decide) rfl (by omega) (by omega) rfl (gR 5 rfl (Qg rfl rfl rfl (by omega) (gR 2 rfl ?_))))))
  exact Q8 <| ⟨k+1,by omega,by omega,Weak.trans (F1:=[(1,.ptr 1 0 0),(2,iv (((k+1):Nat):Int))]) (H1:=[(1,.cells 31 3 [[.str (Qm []),.sl 905 0 (k+1),.sl 23 0 (k+1)]] false),(905,.cells 85 1 ((exBs (k+1)).map cR) true),(23,.cells 3 1 ((exWs (k+1)).map civ) true)]) (show Weak _ _ _ _ [(1,.ptr 1 0 0),(2,iv (((k+1):Nat):Int))] [(1,.cells 31 3 [[.str (Qm []),.sl 905 0 (k+1),.sl 23 0 (k+1)]] false),(905,.cells 85 1 ((exBs (k+1)).map cR) true),(23,.cells 3 1 ((exWs (k+1)).map civ) true)] from Weak.trans (F1:=[(1,.ptr 1 0 0),(2,iv (((k+1):Nat):Int))]) (H1:=[(1,.cells 31 3 [[.str (Qm []),.sl 16 0 (k+1),.sl 23 0 (k+1)]] false),(16,.cells 85 1 ((exBs (k+1)).map cR) true),(23,.cells 3 1 ((exWs (k+1)).map civ) true)]) (Qa (Qb rfl rfl) (.keep (rfl) rfl (.keep (by rw [exBs_succ]; rfl) rfl (.keep (by rw [exWs_succ]; rfl) rfl (.nil)))) fun i h=>by cases h) (Weak.trans (F1:=[(1,.ptr 1 0 0),(2,iv (((k+1):Nat):Int))]) (XJ (i:=16) (i':=905) (k:=1) rfl rfl (.cons rfl (.same _) (.cons rfl (.same _) (.nil))) (by decide) rfl (.cons (.same _) (.cons (.sl _ _) (RenL.refl _ _ _)))) (Qa (Qb rfl rfl) (.keep (rfl) rfl (.keep (rfl) rfl (.keep (rfl) rfl (.nil)))) fun i h=>by cases h))) (show Weak _ _ _ _ [(1,.ptr 1 0 0),(2,iv (((k+1):Nat):Int))] [(1,.cells 31 3 [[.str (Qm []),.sl 905 0 (k+1),.sl 906 0 (k+1)]] false),(905,.cells 85 1 ((exBs (k+1)).map cR) true),(906,.cells 3 1 ((exWs (k+1)).map civ) true)] from Weak.trans (F1:=[(1,.ptr 1 0 0),(2,iv (((k+1):Nat):Int))]) (H1:=[(1,.cells 31 3 [[.str (Qm []),.sl 905 0 (k+1),.sl 23 0 (k+1)]] false),(905,.cells 85 1 ((exBs (k+1)).map cR) true),(23,.cells 3 1 ((exWs (k+1)).map civ) true)]) (Qa (Qb rfl rfl) (.keep (rfl) rfl (.keep (rfl) rfl (.keep (rfl) rfl (.nil)))) fun i h=>by cases h) (Weak.trans (F1:=[(1,.ptr 1 0 0),(2,iv (((k+1):Nat):Int))]) (XJ (i:=23) (i':=906) (k:=1) rfl rfl (.cons rfl (.same _) (.cons rfl (.same _) (.nil))) (by decide) rfl (.cons (.same _) (.cons (.same _) (.cons (.sl _ _) (RenL.refl _ _ _))))) (Qa (Qb rfl rfl) (.keep (rfl) rfl (.keep (rfl) rfl (.keep (rfl) rfl (.nil)))) fun i h=>by cases h)))⟩
 ·replace h4:=of_decide_eq_false h4
  refine gK 2 rfl ?_
  obtain rfl:k=3:=by omega
  refine gI 2 rfl (Qi (l:=(([false,true,false]:List Bool)).flatMap cB) (els:=(([false,true,false]:List Bool)).map cB) (fl:=true) rfl (by kernel_rfl) rfl rfl (by kernel_rfl) (by kernel_rfl) (gR 0 rfl (Qi (l:=(([false,true,false]:List Bool)).flatMap cB) (els:=(([false,true,false]:List Bool)).map cB) (fl:=true) rfl (by kernel_rfl) rfl rfl (by kernel_rfl) (by kernel_rfl) (gR 1 rfl (Qx [905,906,26,27] rfl rfl (vc16 exA exA_ok exX exX_ok [115] ⟨b8_c,by decide⟩) (.cons (hv_agg (.cons (Qd rfl) (.cons (QL (f:=cR) (xs:=exBs 3) (by simp) rfl rfl) (.cons (QL (f:=civ) (xs:=exWs 3) (by simp) rfl rfl) .nil)))) (.cons (hv_agg (.cons (QL (f:=cB) (xs:=([false,true,false]:List Bool)) (by simp) rfl rfl) (.cons (QL (f:=cB) (xs:=([false,true,false]:List Bool)) (by simp) rfl rfl) (.cons hv_nils .nil)))) (.cons (Qd rfl) (.nil)))) rfl (gR 3 rfl ?_))))))
  exact Qk <| Qc rfl rfl rfl (.inl rfl)
set_option maxHeartbeats 2000000 in
theorem vc22 (ls:List Lf) (hl:ls.length<=64) (hok:∀ x∈ls,x.OK) (w:List Int) (hwl:w.length<=64):FC Tryz.prog 22 [.rs 5 (ls.map cLf),.rs 1 (w.map civ)] [] (.tup [.agg (cSh (showG ls w)),iv (XY ls w)]) [] false:=by
 refine Qj (nt:=90) Tryz.func22 rfl rfl mcOkv22 (nL rfl) ?_
 delta mcv22
 refine gA 8 rfl (Qh rfl rfl (gR 7 rfl (Q9 rfl rfl rfl rfl (fun h17=>?_) (fun h17=>?_))))
 ·skip
  refine gR 13 rfl ?_
  have he:XY ls w=2:=shE_2 (by omega)
  rw [shG_e he (by decide),he]
  exact Qk <| Qs rfl (Xc (.cons (rc_agg (.cons (Q3 rfl (.inr rfl)) (.cons QI (.cons QI .nil)))) (.cons (Q3 rfl (.inr rfl)) .nil))) .nil
 ·skip
  refine gR 2 rfl (Q9 rfl rfl rfl rfl (fun h20=>?_) (fun h20=>?_))
  ·skip
   refine gR 10 rfl ?_
   have he:XY ls w=2:=shE_2 (by omega)
   rw [shG_e he (by decide),he]
   exact Qk <| Qs rfl (Xc (.cons (rc_agg (.cons (Q3 rfl (.inr rfl)) (.cons QI (.cons QI .nil)))) (.cons (Q3 rfl (.inr rfl)) .nil))) .nil
  ·skip
   refine gR 8 rfl (Qh rfl rfl (gR 3 rfl ?_))
   refine Qr (α:=Nat) (fun k=>ls.length-k) (fun k=>[(0,.rs 5 (ls.map cLf)),(1,.rs 1 (w.map civ)),(4,.ptr 4 0 0),(6,.ptr 6 0 0),(23,.rs 5 (ls.map cLf)),(24,iv (ls.length:Int)),(25,iv (((k):Nat):Int))]) (fun k=>[(4,.cells 55 3 [[iv 0,.nils,.nils]] true),(6,.cells 3 1 [[iv (ls.length:Int)]] true)]) (fun k=>k<=ls.length/\ixF k (ls.drop k)=ixF 0 ls) 0 (⟨by omega,rfl⟩)
    (Qa (Qb rfl rfl) (.keep (rfl) rfl (.keep (rfl) rfl (.nil))) (fun i h=>by cases h)) ?_
   rintro k ⟨hk,hinv⟩
   refine gT 5 rfl (Qe rfl (fun h26=>?_) (fun h26=>?_))
   ·replace h26:=of_decide_eq_true h26
    refine gK 6 rfl ?_
    obtain ⟨x,hxk,hxm⟩:=Qo (L:=ls) (k:=k) (by omega)
    refine Qp (f:=cLf) (y:=x) rfl rfl rfl (by omega) hxk (gR 0 rfl (QG (cs:=cLf x) rfl rfl (nL rfl) rfl (gR 9 rfl (Ja rfl rfl rfl (gR 1 rfl (Qe rfl (fun h33=>?_) (fun h33=>?_)))))))
    ·replace h33:=of_decide_eq_true h33
     refine gK 7 rfl ?_
     have he:XY ls w=4:=shE_4 (by omega) (by rw [← hinv,ixF_at hxk,decide_eq_false h33]; rfl)
     rw [shG_e he (by decide),he]
     exact Qk <| Qs rfl (Xc (.cons (rc_agg (.cons (Q3 rfl (.inr rfl)) (.cons QI (.cons QI .nil)))) (.cons (Q3 rfl (.inr rfl)) .nil))) .nil
    ·replace h33:=of_decide_eq_false h33
     refine gK 2 rfl (Qg rfl rfl rfl (by omega) (gR 2 rfl ?_))
     rw [ixF_at hxk,decide_eq_true (Decidable.byContradiction h33),Bool.true_and] at hinv
     exact Q8 <| ⟨k+1,⟨by omega,hinv⟩,by omega,Qa (Qb rfl rfl) (.keep (rfl) rfl (.keep (rfl) rfl (.nil))) (fun i h=>by cases h)⟩
   ·replace h26:=of_decide_eq_false h26
    refine gK 3 rfl ?_
    have hix:ixF 0 ls=true:=by rw [← hinv,List.drop_eq_nil_of_le (by omega)]; rfl
    refine QE (F0:=[(0,.rs 5 (ls.map cLf)),(1,.rs 1 (w.map civ)),(4,.ptr 4 0 0),(6,.rp [iv (ls.length:Int)])]) (H0:=[(4,.cells 55 3 [[iv 0,.nils,.nils]] true)]) (Qa (.cs (.cs (.cs (.cons rfl (Xq rfl rfl (.inl rfl)) (.nil))))) (.keep (rfl) rfl (.nil)) fun i h=>by cases h) (gK 3 rfl (cN rfl rfl (vcC_out ls.length w (by omega)) ?_))
    cases h38:w.any (outP ls.length)
    ·skip
     refine gR 12 rfl ?_
     have hbd:=out_bd h38
     refine QE (F0:=[(0,.rs 5 (ls.map cLf)),(1,.rs 1 (w.map civ)),(4,.ptr 4 0 0),(6,.rp [iv (ls.length:Int)]),(9,.ptr 9 0 0)]) (H0:=[(4,.cells 55 3 [[iv 0,.nils,.nils]] true),(9,.cells 55 3 [[iv (ls.length:Int),.sl 905 0 (0),.sl 906 0 (0)]] false),(905,.cells 51 5 (((w.take (0)).map (Jj ls)).map cLf) true),(906,.cells 9 1 ((((X0 ls.length w).take (0)).map (JH ls)).map cS) true)]) (Weak.trans (F1:=[(0,.rs 5 (ls.map cLf)),(1,.rs 1 (w.map civ)),(4,.ptr 4 0 0),(6,.rp [iv (ls.length:Int)]),(9,.ptr 9 0 0)]) (H1:=[(4,.cells 55 3 [[iv 0,.nils,.nils]] true),(9,.cells 55 3 [[iv (ls.length:Int),.nils,.nils]] true)]) (Qa (Qb rfl rfl) (.keep (rfl) rfl (.keep (rfl) rfl (.nil))) fun i h=>by cases h) (Weak.trans (F1:=[(0,.rs 5 (ls.map cLf)),(1,.rs 1 (w.map civ)),(4,.ptr 4 0 0),(6,.rp [iv (ls.length:Int)]),(9,.ptr 9 0 0)]) (H1:=[(4,.cells 55 3 [[iv 0,.nils,.nils]] true),(9,.cells 55 3 [[iv (ls.length:Int),.sl 905 0 0,.nils]] false),(905,.cells 51 5 (((w.take (0)).map (Jj ls)).map cLf) true)]) (Weak.trans (F1:=[(0,.rs 5 (ls.map cLf)),(1,.rs 1 (w.map civ)),(4,.ptr 4 0 0),(6,.rp [iv (ls.length:Int)]),(9,.ptr 9 0 0)]) (Jx (i:=905) (k:=9) (e2:=51) (z2:=5) (fl2:=true) rfl rfl (.next .here)) (Qa (Qb rfl rfl) (.keep (rfl) rfl (.keep (rfl) rfl (.keep (rfl) rfl (.nil)))) fun i h=>by cases h)) (Weak.trans (F1:=[(0,.rs 5 (ls.map cLf)),(1,.rs 1 (w.map civ)),(4,.ptr 4 0 0),(6,.rp [iv (ls.length:Int)]),(9,.ptr 9 0 0)]) (Jx (i:=906) (k:=9) (e2:=9) (z2:=1) (fl2:=true) rfl rfl (.next (.next .here))) (Qa (Qb rfl rfl) (.keep (rfl) rfl (.keep (rfl) rfl (.keep (rfl) rfl (.keep (rfl) rfl (.nil))))) fun i h=>by cases h)))) (gK 2 rfl (Qh rfl rfl (gR 3 rfl ?_)))
     refine Qr (α:=Nat×Int) (fun s=>w.length-s.1) (fun s=>[(0,.rs 5 (ls.map cLf)),(1,.rs 1 (w.map civ)),(4,.ptr 4 0 0),(6,.rp [iv (ls.length:Int)]),(9,.ptr 9 0 0),(42,.rs 1 (w.map civ)),(43,iv (w.length:Int)),(44,iv (((s.1):Nat):Int))]) (fun s=>[(4,.cells 55 3 [[iv 0,.nils,.nils]] true),(9,.cells 55 3 [[iv (ls.length:Int),.sl 905 0 (s.1),.sl 906 0 (0)]] false),(905,.cells 51 5 (((w.take (s.1)).map (Jj ls)).map cLf) true),(906,.cells 9 1 ((((X0 ls.length w).take (0)).map (JH ls)).map cS) true)]) (fun s=>s.1<=w.length/\(s.1=0/\s.2 = -1\/1<=s.1/\w[s.1-1]?=some s.2)/\incF (ls.length:Int) s.2 (w.drop s.1)=incF (ls.length:Int) (-1) w) (0,-1) (⟨by show 0<=_; omega,.inl ⟨rfl,rfl⟩,rfl⟩)
      (Qa (Qb rfl rfl) (.keep (rfl) rfl (.keep (rfl) rfl (.keep (rfl) rfl (.keep (rfl) rfl (.nil))))) (fun i h=>by cases h)) ?_
     rintro ⟨k,p⟩ ⟨hk,hp,hinv2⟩
     dsimp only at hk hp hinv2 ⊢
     refine gT 5 rfl (Qe rfl (fun h45=>?_) (fun h45=>?_))
     ·replace h45:=of_decide_eq_true h45
      refine gK 6 rfl ?_
      obtain ⟨b,hbk,hbm⟩:=Qo (L:=w) (k:=k) (by omega)
      obtain ⟨hb0,hb1⟩:=hbd b hbm
      obtain ⟨x,hx,hxm⟩:=Qo (L:=ls) (k:=b.toNat) (by omega)
      refine Qp (f:=civ) (y:=b) rfl rfl rfl (by omega) hbk (gR 8 rfl (Q9 rfl rfl rfl rfl (fun h50=>?_) (fun h50=>?_)))
      ·skip
       refine gR 3 rfl (rs_sub rfl rfl rfl (by omega) ?_)
       obtain ⟨a,ha,ham⟩:=Qo (L:=w) (k:=k-1) (by omega)
       refine gR 0 rfl (Qp (f:=civ) (y:=a) rfl rfl rfl (by omega) (by rw [show ((k:Int)-1).toNat=k-1 by omega]; exact ha) (gR 2 rfl (Q9 rfl rfl rfl rfl (fun h58=>?_) (fun h58=>?_))))
       ·skip
        refine gR 10 rfl ?_
        have he:XY ls w=7:=shE_7 (by omega) hix h38 (by rw [← hinv2,incF_at hbk,decide_eq_false (show ¬ p<b by have hp2:=(hp.resolve_left (fun h=>by omega)).2; rw [hp2] at ha; injection ha with ha; omega),Bool.and_false]; rfl)
        rw [shG_e he (by decide),he]
        exact Qk <| Qs rfl (Xc (.cons (rc_agg (.cons (Q3 rfl (.inr rfl)) (.cons QI (.cons QI .nil)))) (.cons (Q3 rfl (.inr rfl)) .nil))) .nil
       ·skip
        refine gR 9 rfl (Qp (f:=cLf) (y:=x) rfl rfl rfl hb0 hx (gR 0 rfl (QG (cs:=cLf x) rfl rfl (nL rfl) rfl (gR 0 rfl (Qi (l:=(([x]:List Lf)).flatMap cLf) (els:=(([x]:List Lf)).map cLf) (fl:=true) rfl (by kernel_rfl) rfl rfl (by kernel_rfl) (by kernel_rfl) (gR 0 rfl (QB (f:=cLf) (xs:=(w.take k).map (Jj ls)) (y:=x) (fl':=true) rfl rfl rfl rfl (by simp; omega) rfl rfl rfl (by decide) rfl (by omega) (by omega) rfl (gR 2 rfl (QJ (by kernel_rfl) (gP 1 rfl (Qg rfl rfl rfl (by omega) ?_)))))))))))
        refine gR 2 rfl ?_
        rw [incF_at hbk,show (decide (0<=b)&&decide (b<(ls.length:Int))&&decide (p<b))=true from by simp only [Bool.and_eq_true,decide_eq_true_eq]; exact ⟨⟨hb0,hb1⟩,(by have hp2:=(hp.resolve_left (fun h=>by omega)).2; rw [hp2] at ha; injection ha with ha; omega)⟩,Bool.true_and] at hinv2
        exact Q8 <| ⟨(k+1,b),⟨by show k+1<=_; omega,.inr ⟨by show 1<=k+1; omega,by show w[k+1-1]?=_; rw [show k+1-1=k by omega]; exact hbk⟩,hinv2⟩,by show _-(k+1)<_; omega,show Weak _ _ _ _ [(0,.rs 5 (ls.map cLf)),(1,.rs 1 (w.map civ)),(4,.ptr 4 0 0),(6,.rp [iv (ls.length:Int)]),(9,.ptr 9 0 0),(42,.rs 1 (w.map civ)),(43,iv (w.length:Int)),(44,iv (((k+1):Nat):Int))] [(4,.cells 55 3 [[iv 0,.nils,.nils]] true),(9,.cells 55 3 [[iv (ls.length:Int),.sl 905 0 (k+1),.sl 906 0 (0)]] false),(905,.cells 51 5 (((w.take (k+1)).map (Jj ls)).map cLf) true),(906,.cells 9 1 ((((X0 ls.length w).take (0)).map (JH ls)).map cS) true)] from Weak.trans (F1:=[(0,.rs 5 (ls.map cLf)),(1,.rs 1 (w.map civ)),(4,.ptr 4 0 0),(6,.rp [iv (ls.length:Int)]),(9,.ptr 9 0 0),(42,.rs 1 (w.map civ)),(43,iv (w.length:Int)),(44,iv (((k+1):Nat):Int))]) (H1:=[(4,.cells 55 3 [[iv 0,.nils,.nils]] true),(9,.cells 55 3 [[iv (ls.length:Int),.sl 68 0 (k+1),.sl 906 0 (0)]] false),(68,.cells 51 5 (((w.take (k+1)).map (Jj ls)).map cLf) true),(906,.cells 9 1 ((((X0 ls.length w).take (0)).map (JH ls)).map cS) true)]) (Qa (Qb rfl rfl) (.keep (rfl) rfl (.keep (rfl) rfl (.keep (by rw [sel_succ hbk hx]; rfl) rfl (.keep (rfl) rfl (.nil))))) fun i h=>by cases h) (Weak.trans (F1:=[(0,.rs 5 (ls.map cLf)),(1,.rs 1 (w.map civ)),(4,.ptr 4 0 0),(6,.rp [iv (ls.length:Int)]),(9,.ptr 9 0 0),(42,.rs 1 (w.map civ)),(43,iv (w.length:Int)),(44,iv (((k+1):Nat):Int))]) (XJ (i:=68) (i':=905) (k:=9) rfl rfl (.cons rfl (.same _) (.cons rfl (.same _) (.cons rfl (.same _) (.cons rfl (.same _) (.cons rfl (.same _) (.cons rfl (.same _) (.cons rfl (.same _) (.cons rfl (.same _) (.nil))))))))) (by decide) rfl (.cons (.same _) (.cons (.sl _ _) (RenL.refl _ _ _)))) (Qa (Qb rfl rfl) (.keep (rfl) rfl (.keep (rfl) rfl (.keep (rfl) rfl (.keep (rfl) rfl (.nil))))) fun i h=>by cases h))⟩
      ·skip
       refine gR 17 rfl (Qp (f:=cLf) (y:=x) rfl rfl rfl hb0 hx (gR 0 rfl (QG (cs:=cLf x) rfl rfl (nL rfl) rfl (gR 0 rfl (Qi (l:=(([x]:List Lf)).flatMap cLf) (els:=(([x]:List Lf)).map cLf) (fl:=true) rfl (by kernel_rfl) rfl rfl (by kernel_rfl) (by kernel_rfl) (gR 0 rfl (QB (f:=cLf) (xs:=(w.take k).map (Jj ls)) (y:=x) (fl':=true) rfl rfl rfl rfl (by simp; omega) rfl rfl rfl (by decide) rfl (by omega) (by omega) rfl (gR 2 rfl (QJ (by kernel_rfl) (gP 1 rfl (Qg rfl rfl rfl (by omega) ?_)))))))))))
       refine gR 2 rfl ?_
       rw [incF_at hbk,show (decide (0<=b)&&decide (b<(ls.length:Int))&&decide (p<b))=true from by simp only [Bool.and_eq_true,decide_eq_true_eq]; exact ⟨⟨hb0,hb1⟩,(hp.elim (fun h=>by omega) (fun h=>by omega))⟩,Bool.true_and] at hinv2
       exact Q8 <| ⟨(k+1,b),⟨by show k+1<=_; omega,.inr ⟨by show 1<=k+1; omega,by show w[k+1-1]?=_; rw [show k+1-1=k by omega]; exact hbk⟩,hinv2⟩,by show _-(k+1)<_; omega,show Weak _ _ _ _ [(0,.rs 5 (ls.map cLf)),(1,.rs 1 (w.map civ)),(4,.ptr 4 0 0),(6,.rp [iv (ls.length:Int)]),(9,.ptr 9 0 0),(42,.rs 1 (w.map civ)),(43,iv (w.length:Int)),(44,iv (((k+1):Nat):Int))] [(4,.cells 55 3 [[iv 0,.nils,.nils]] true),(9,.cells 55 3 [[iv (ls.length:Int),.sl 905 0 (k+1),.sl 906 0 (0)]] false),(905,.cells 51 5 (((w.take (k+1)).map (Jj ls)).map cLf) true),(906,.cells 9 1 ((((X0 ls.length w).take (0)).map (JH ls)).map cS) true)] from Weak.trans (F1:=[(0,.rs 5 (ls.map cLf)),(1,.rs 1 (w.map civ)),(4,.ptr 4 0 0),(6,.rp [iv (ls.length:Int)]),(9,.ptr 9 0 0),(42,.rs 1 (w.map civ)),(43,iv (w.length:Int)),(44,iv (((k+1):Nat):Int))]) (H1:=[(4,.cells 55 3 [[iv 0,.nils,.nils]] true),(9,.cells 55 3 [[iv (ls.length:Int),.sl 68 0 (k+1),.sl 906 0 (0)]] false),(68,.cells 51 5 (((w.take (k+1)).map (Jj ls)).map cLf) true),(906,.cells 9 1 ((((X0 ls.length w).take (0)).map (JH ls)).map cS) true)]) (Qa (Qb rfl rfl) (.keep (rfl) rfl (.keep (rfl) rfl (.keep (by rw [sel_succ hbk hx]; rfl) rfl (.keep (rfl) rfl (.nil))))) fun i h=>by cases h) (Weak.trans (F1:=[(0,.rs 5 (ls.map cLf)),(1,.rs 1 (w.map civ)),(4,.ptr 4 0 0),(6,.rp [iv (ls.length:Int)]),(9,.ptr 9 0 0),(42,.rs 1 (w.map civ)),(43,iv (w.length:Int)),(44,iv (((k+1):Nat):Int))]) (XJ (i:=68) (i':=905) (k:=9) rfl rfl (.cons rfl (.same _) (.cons rfl (.same _) (.cons rfl (.same _) (.cons rfl (.same _) (.cons rfl (.same _) (.cons rfl (.same _) (.cons rfl (.same _) (.cons rfl (.same _) (.nil))))))))) (by decide) rfl (.cons (.same _) (.cons (.sl _ _) (RenL.refl _ _ _)))) (Qa (Qb rfl rfl) (.keep (rfl) rfl (.keep (rfl) rfl (.keep (rfl) rfl (.keep (rfl) rfl (.nil))))) fun i h=>by cases h))⟩
     ·replace h45:=of_decide_eq_false h45
      refine gK 3 rfl ?_
      obtain rfl:k=w.length:=by omega
      have hinc:incF (ls.length:Int) (-1) w=true:=by rw [← hinv2,List.drop_eq_nil_of_le (Nat.le_refl _)]; rfl
      have hlv:LvsOK ls:=⟨by omega,fun i x h=>by rw [ixF_ix hix i x h]; omega,hok⟩
      have he:XY ls w=0:=shE_0 (by omega) hix h38 hinc
      have hha:=hidA_len (w:=w) hlv.n.2
      refine gI 3 rfl (cN rfl rfl (vc67 ls.length hlv.n w (by omega)) (gR 0 rfl (Qh rfl rfl (gR 3 rfl ?_))))
      refine Qr (α:=Nat) (fun k=>(X0 ls.length w).length-k) (fun k=>[(0,.rs 5 (ls.map cLf)),(1,.rs 1 (w.map civ)),(4,.ptr 4 0 0),(6,.rp [iv (ls.length:Int)]),(9,.ptr 9 0 0),(73,.rs 2 ((X0 ls.length w).map cSp)),(74,iv ((X0 ls.length w).length:Int)),(75,iv (((k):Nat):Int))]) (fun k=>[(4,.cells 55 3 [[iv 0,.nils,.nils]] true),(9,.cells 55 3 [[iv (ls.length:Int),.sl 905 0 (w.length),.sl 906 0 (k)]] false),(905,.cells 51 5 (((w.take (w.length)).map (Jj ls)).map cLf) true),(906,.cells 9 1 ((((X0 ls.length w).take (k)).map (JH ls)).map cS) true)]) (fun k=>k<=(X0 ls.length w).length) 0 (by omega)
       (Qa (Qb rfl rfl) (.keep (rfl) rfl (.keep (rfl) rfl (.keep (rfl) rfl (.keep (rfl) rfl (.nil))))) (fun i h=>by cases h)) ?_
      intro k hk
      refine gT 5 rfl (Qe rfl (fun h76=>?_) (fun h76=>?_))
      ·replace h76:=of_decide_eq_true h76
       refine gK 5 rfl ?_
       obtain ⟨s,hsk,hsm⟩:=Qo (L:=X0 ls.length w) (k:=k) (by omega)
       obtain ⟨c,e,rfl,he2,hce,hcn⟩:=hidA_mem hlv.n.2 hsm
       refine Qp (f:=cSp) (y:=(c,2^e)) rfl rfl rfl (by omega) hsk (gR 0 rfl (QG (cs:=cP c (2^e)) rfl rfl (nL rfl) rfl (gR 7 rfl (Q1 [] rfl rfl (vc68 ls) (.cons (Qd rfl) .nil) .nil rfl rfl rfl (gR 1 rfl (cN rfl rfl (vc69_1 ls (ofK ls) (ofK_ok ls) (fun b m _=>vc119 ls hlv.ls b m) e c (by omega)) (gR 0 rfl (Qi (l:=(([Qw (ofK ls) e c]:List (List Int))).flatMap cS) (els:=(([Qw (ofK ls) e c]:List (List Int))).map cS) (fl:=true) rfl (by kernel_rfl) rfl rfl (by kernel_rfl) (by kernel_rfl) (gR 0 rfl (QB (f:=cS) (xs:=((X0 ls.length w).take k).map (JH ls)) (y:=Qw (ofK ls) e c) (fl':=true) rfl rfl rfl rfl (by simp; omega) rfl rfl rfl (by decide) rfl (by omega) (by omega) rfl (gR 2 rfl ?_)))))))))))
       refine QJ (by kernel_rfl) (gP 1 rfl (Qg rfl rfl rfl (by omega) (gR 2 rfl ?_)))
       exact Q8 <| ⟨k+1,by omega,by omega,show Weak _ _ _ _ [(0,.rs 5 (ls.map cLf)),(1,.rs 1 (w.map civ)),(4,.ptr 4 0 0),(6,.rp [iv (ls.length:Int)]),(9,.ptr 9 0 0),(73,.rs 2 ((X0 ls.length w).map cSp)),(74,iv ((X0 ls.length w).length:Int)),(75,iv (((k+1):Nat):Int))] [(4,.cells 55 3 [[iv 0,.nils,.nils]] true),(9,.cells 55 3 [[iv (ls.length:Int),.sl 905 0 (w.length),.sl 906 0 (k+1)]] false),(905,.cells 51 5 (((w.take (w.length)).map (Jj ls)).map cLf) true),(906,.cells 9 1 ((((X0 ls.length w).take (k+1)).map (JH ls)).map cS) true)] from Weak.trans (F1:=[(0,.rs 5 (ls.map cLf)),(1,.rs 1 (w.map civ)),(4,.ptr 4 0 0),(6,.rp [iv (ls.length:Int)]),(9,.ptr 9 0 0),(73,.rs 2 ((X0 ls.length w).map cSp)),(74,iv ((X0 ls.length w).length:Int)),(75,iv (((k+1):Nat):Int))]) (H1:=[(4,.cells 55 3 [[iv 0,.nils,.nils]] true),(9,.cells 55 3 [[iv (ls.length:Int),.sl 905 0 (w.length),.sl 86 0 (k+1)]] false),(905,.cells 51 5 (((w.take (w.length)).map (Jj ls)).map cLf) true),(86,.cells 9 1 ((((X0 ls.length w).take (k+1)).map (JH ls)).map cS) true)]) (Qa (Qb rfl rfl) (.keep (rfl) rfl (.keep (rfl) rfl (.keep (rfl) rfl (.keep (by rw [hidT_succ hsk he2]; rfl) rfl (.nil))))) fun i h=>by cases h) (Weak.trans (F1:=[(0,.rs 5 (ls.map cLf)),(1,.rs 1 (w.map civ)),(4,.ptr 4 0 0),(6,.rp [iv (ls.length:Int)]),(9,.ptr 9 0 0),(73,.rs 2 ((X0 ls.length w).map cSp)),(74,iv ((X0 ls.length w).length:Int)),(75,iv (((k+1):Nat):Int))]) (XJ (i:=86) (i':=906) (k:=9) rfl rfl (.cons rfl (.same _) (.cons rfl (.same _) (.cons rfl (.same _) (.cons rfl (.same _) (.cons rfl (.same _) (.cons rfl (.same _) (.cons rfl (.same _) (.cons rfl (.same _) (.nil))))))))) (by decide) rfl (.cons (.same _) (.cons (.same _) (.cons (.sl _ _) (RenL.refl _ _ _))))) (Qa (Qb rfl rfl) (.keep (rfl) rfl (.keep (rfl) rfl (.keep (rfl) rfl (.keep (rfl) rfl (.nil))))) fun i h=>by cases h))⟩
      ·replace h76:=of_decide_eq_false h76
       refine gK 8 rfl ?_
       obtain rfl:k=(X0 ls.length w).length:=by omega
       rw [shG_0 he,he,show cSh (showS ls w)=[iv (ls.length:Int),.rs 5 (((w.take w.length).map (Jj ls)).map cLf),.rs 1 ((((X0 ls.length w).take (X0 ls.length w).length).map (JH ls)).map cS)] by rw [List.take_of_length_le (Nat.le_refl _),List.take_of_length_le (Nat.le_refl _)]; rfl]
       exact Qk <| Qs rfl (Xc (.cons (rc_agg (.cons (Q3 rfl (.inr rfl)) (.cons (Xr rfl rfl (by simp) (fun _=>rfl)) (.cons (Xr rfl rfl (by simp) (fun _=>rfl)) .nil)))) (.cons (Q3 rfl (.inr rfl)) .nil))) .nil
    ·skip
     refine gR 9 rfl ?_
     have he:XY ls w=5:=shE_5 (by omega) hix h38
     rw [shG_e he (by decide),he]
     exact Qk <| Qs rfl (Xc (.cons (rc_agg (.cons (Q3 rfl (.inr rfl)) (.cons QI (.cons QI .nil)))) (.cons (Q3 rfl (.inr rfl)) .nil))) .nil
def mcv45:MC:=(.seq (.reg [oN 6 (.mv (.c (.bool false))) []] false) (.seq (.reg [oM 10 0 [],oM 11 1 [],oN 12 (.call 22 [(.t 10),(.t 11)]) [0,1],oM 9 12 [2],oN 13 (.ext (.t 9) 0) [3],oN 14 (.ext (.t 9) 1) [3],oN 7 (.alloc 55 3 [(.int .i64 0),.nils,.nils]) [],⟨none,(.st 3 (.t 7) (.t 13)),none,[6,4,2,0,1,2,3,4,6]⟩,oM 8 14 [5,7,0,1,2,3,4,5,6,7]] false) (.seq (.reg [oM 15 8 [],oN 16 (.bin .eql (.t 15) (.c (.int .i64 0))) [0],oM 17 16 [1],pA 18 0 7 17 true [2],pD 19 1 18 17 true [3,2],pM 20 0 17 true [2],oG 21 (.len (.t 20)) 17 true [5,2],oG 22 (.bin .eql (.t 19) (.t 21)) 17 true [4,6,2],oN 23 (.pick (.t 17) (.t 22) (.c (.bool false))) [2,7],oM 24 23 [8,2],pA 25 2 7 24 true [9],pD 26 1 25 24 true [10,9],pM 27 2 24 true [9],oG 28 (.call 34 [(.t 26),(.t 27)]) 24 true [11,12,9,9],oN 29 (.pick (.t 24) (.t 28) (.c (.bool false))) [9,13],oM 30 29 [14,13],pA 31 1 7 30 true [15],pD 32 1 31 30 true [16,15],oG 33 (.len (.t 32)) 30 true [17,15],pM 34 1 30 true [15],oG 35 (.len (.t 34)) 30 true [19,15],oG 36 (.bin .eql (.t 33) (.t 35)) 30 true [18,20,15],oN 37 (.pick (.t 30) (.t 36) (.c (.bool false))) [15,21],oM 6 37 [22,15,0,1,2,3,4,5,6,7,8,9,10,11,12,13,14,15,16,17,18,19,20,21,22]] false) .ret)))
theorem mcOkv45:okM Tryz.prog Tryz.f45 38=some mcv45:=by kernel_rfl
theorem vc45 (ls:List Lf) (hl:ls.length<=64) (hok:∀ x∈ls,x.OK) (w:List Int) (hwl:w.length<=64) (want:List (List Int)) (hwa:∀ d∈want,B8 d):FC Tryz.prog 45 [.rs 5 (ls.map cLf),.rs 1 (w.map civ),.rs 1 (want.map cS)] [] (.bool (shB ls w want)) [] false:=by
 have h8:∀ d∈(showG ls w).hid,B8 d:=fun d hd=>(showG_8 d hd).1
 have hgl:(showG ls w).hid.length<=16:=by
  by_cases h0:XY ls w=0
  ·rw [shG_0 h0]; show ((X0 ls.length w).map (JH ls)).length<=16; rw [List.length_map]; exact hidA_len (by unfold XY at h0; split at h0; cases h0; omega)
  ·rw [shG_e rfl h0]; exact Nat.zero_le _
 refine Qj (nt:=38) Tryz.func45 rfl rfl mcOkv45 (nL rfl) ?_
 delta mcv45
 refine gA 8 rfl (cN rfl rfl (vc22 ls hl hok w hwl) (gR 10 rfl (Q9 rfl rfl rfl rfl (fun h16=>?_) (fun h16=>?_))))
 ·skip
  refine gR 4 rfl (Qh rfl rfl (gR 0 rfl (Q9 rfl rfl rfl rfl (fun h22=>?_) (fun h22=>?_))))
  ·skip
   refine gR 5 rfl (cN rfl rfl (vc34 (showG ls w).hid want h8 hwa (by omega)) ?_)
   cases h28:decide ((showG ls w).hid=want)
   ·skip
    refine gR 12 rfl ?_
    rw [show shB ls w want=false from by unfold shB; rw [decide_eq_true h16,decide_eq_true h22,h28]; rfl]
    exact Qk <| Qc rfl rfl rfl (.inr rfl)
   ·skip
    refine gR 4 rfl (Qh rfl rfl (gR 1 rfl (Qh rfl rfl (gR 0 rfl (Q9 rfl rfl rfl rfl (fun h36=>?_) (fun h36=>?_))))))
    ·skip
     refine gR 4 rfl ?_
     rw [show shB ls w want=true from by unfold shB; rw [decide_eq_true h16,decide_eq_true h22,h28,decide_eq_true h36]; rfl]
     exact Qk <| Qc rfl rfl rfl (.inr rfl)
    ·skip
     refine gR 4 rfl ?_
     rw [show shB ls w want=false from by unfold shB; rw [decide_eq_true h16,decide_eq_true h22,h28,decide_eq_false h36]; rfl]
     exact Qk <| Qc rfl rfl rfl (.inr rfl)
  ·skip
   refine gR 18 rfl ?_
   rw [show shB ls w want=false from by unfold shB; rw [decide_eq_true h16,decide_eq_false h22]; rfl]
   exact Qk <| Qc rfl rfl rfl (.inr rfl)
 ·skip
  refine gR 24 rfl ?_
  rw [show shB ls w want=false from by unfold shB; rw [decide_eq_false h16]; rfl]
  exact Qk <| Qc rfl rfl rfl (.inr rfl)
end Go.Proofs.YthfhaoogcpfboaaGreat
namespace Go.Proofs.YthfhaoogcpfboaaGreat
open Go.RowKit
set_option maxRecDepth 100000
set_option linter.unusedVariables false
def eL (k:Nat):Lf:=match k with
 | 0=>⟨0,1,false,false,Xn [115] [0]⟩
 | 1=>⟨1,2,true,true,Xn [115] [2]⟩
 | _=>⟨2,3,false,false,Xn [115] [4]⟩
abbrev eLs:List Lf:=[eL 0,eL 1,eL 2]
def eN:Lf:=⟨1,2,false,true,Xn [115] [2]⟩
theorem exF:fineB (JN exA exX)=true:=by decide +kernel
theorem exL_eq:exL=eLs:=by
 unfold exL Xh
 rw [if_pos ⟨exF,by decide⟩]
 rfl
def eD (k:Nat):List Int:=leafS (XN (eL k))
def eLow:List Int:=JM (eD 0) (eD 1)
def J5:List Int:=JM (eD 2) missS
def eRoot:List Int:=JM eLow J5
theorem mark_ok (k m:List Int):B8 (Xn k m)/\(Xn k m).length<=LIM:=⟨(Jh _).1,by rw [show (Xn k m).length=8 from (Jh _).2]; decide⟩
theorem Uc (k m:List Int):B8 (JM k m)/\(JM k m).length<=LIM:=⟨(Jh _).1,by rw [show (JM k m).length=8 from (Jh _).2]; decide⟩
theorem leafD_ok (k:List Int):B8 (leafS k)/\(leafS k).length<=LIM:=⟨(Jh _).1,by rw [show (leafS k).length=8 from (Jh _).2]; decide⟩
theorem eL_ok (k:Nat):(eL k).OK:=by
 have h8:∀ m,(Xn [115] m).length<=1000000000:=fun m=>by rw [show (Xn [115] m).length=8 from (Jh _).2]; decide
 unfold eL
 split <;> exact ⟨by decide,by decide,(mark_ok _ _).1,h8 _⟩
theorem eN_ok:eN.OK:=⟨by decide,by decide,(mark_ok _ _).1,by rw [show eN.salt.length=8 from (Jh _).2]; decide⟩
theorem eLs_ok:∀ x∈eLs,x.OK:=fun x hx=>by
 simp only [eLs,List.mem_cons,List.not_mem_nil,or_false] at hx
 rcases hx with rfl | rfl | rfl <;> exact eL_ok _
theorem text_ok (k:Nat):B8 (XN (eL k))/\(XN (eL k)).length<=LIM:=⟨textS_8 (eL_ok k).b,Nat.le_trans (textS_len (eL_ok k).n) (by decide)⟩
theorem eText:XN (eL 1)=[8,2,4,2,2,16]++Xn [115] [2]:=by decide +kernel
theorem eRootF:rootF eLs=eRoot:=by decide +kernel
theorem eS1:shB eLs [1] [eD 0,J5]=true:=by decide +kernel
theorem eS2:shB eLs [2] [eLow]=true:=by decide +kernel
theorem eS3:shB eLs [] [eRoot]=true:=by decide +kernel
theorem eS4:shB eLs [0,1,2] []=true:=by decide +kernel
theorem eE3:XY eLs [3]=5:=by decide +kernel
theorem eE11:XY eLs [1,1]=7:=by decide +kernel
theorem eE0:XY [] []=2:=by decide +kernel
theorem eE1:XY eLs [1]=0:=by decide +kernel
abbrev eSh:Shn:=⟨3,[eL 1],[eD 0,J5]⟩
theorem eG1:showG eLs [1]=eSh:=by decide +kernel
theorem eR1:rootOfS 3 [eL 1] [eD 0,J5]=some eRoot:=by decide +kernel
theorem eC1:JE 3 [eL 1] [eD 0,J5] 3 [eN] [eD 0,J5]=7:=by decide +kernel
theorem eC2:JE 3 [eN] [eD 0,J5] 3 [eL 1] [eD 0,J5]=0:=by decide +kernel
theorem eSh_ok:ShOK [eL 1] [eD 0,J5]:=⟨by decide,by decide,fun x hx=>by rw [List.mem_singleton.1 hx]; exact eL_ok 1,fun d hd=>by
 simp only [List.mem_cons,List.not_mem_nil,or_false] at hd
 rcases hd with rfl | rfl
 ·exact leafD_ok _
 ·exact Uc _ _⟩
theorem eShN_ok:ShOK [eN] [eD 0,J5]:=⟨by decide,by decide,fun x hx=>by rw [List.mem_singleton.1 hx]; exact eN_ok,eSh_ok.b⟩
def eAr (k:Nat):List AV:=match k with
 | 0=>[.str (Qm []),.str (Qm []),.str (Qm [])]
 | 1=>[.str (Qm (eD 0)),.str (Qm []),.str (Qm [])]
 | 2=>[.str (Qm (eD 0)),.str (Qm (eD 1)),.str (Qm [])]
 | _=>[.str (Qm (eD 0)),.str (Qm (eD 1)),.str (Qm (eD 2))]
def mcv8:MC:=(.seq (.reg [oN 0 (.mv (.c (.bool false))) []] false) (.seq (.reg [oN 19 (.call 39 []) [],oM 1 19 [0,0,0]] false) (.seq (.seq (.reg [oM 20 1 [],oN 21 (.len (.t 20)) [0],oN 22 (.bin .neq (.t 21) (.c (.int .i64 3))) [1],oM 23 22 [2],pM 24 1 23 false [3],oG 25 (.ixsl 5 (.t 24) (.c (.int .i64 1))) 23 false [4,3],oG 26 (.ld true 5 (.t 25)) 23 false [5,3],oG 27 (.call 40 [(.c (.str (Qm [115]))),(.c (.str (Qm [2])))]) 23 false [3,3],oG 28 (.build [(.int .i64 0),(.int .i64 0),(.bool false),(.bool false),(.str (Qm []))] [(0,(1,(.c (.int .i64 1)))),(1,(1,(.c (.int .i64 2)))),(2,(1,(.c (.bool true)))),(3,(1,(.c (.bool true)))),(4,(1,(.t 27)))]) 23 false [7,3],oG 29 (.aeqx true [0,0,1,1,2] (.t 26) (.t 28)) 23 false [6,8,3],oN 30 (.pick (.t 23) (.c (.bool true)) (.t 29)) [3,9]] true) (.cond (.t 30) (.seq (.reg [oN 0 (.mv (.c (.bool false))) []] false) .ret) .skip)) (.seq (.reg [oN 2 (.alloc 76 3 [(.str (Qm [])),(.str (Qm [])),(.str (Qm []))]) []] false) (.seq (.seq (.reg [oN 31 (.mv (.c (.int .i64 0))) []] false) (.block 0 (.loop (.seq (.reg [oN 32 (.bin .lss (.t 31) (.c (.int .i64 3))) []] false) (.seq (.cond (.t 32) .skip (.exit 0)) (.seq (.block 1 (.seq (.reg [oM 33 31 [],oM 3 33 [0,0]] false) (.reg [oM 34 3 [],oM 35 1 [],oM 36 3 [],oN 37 (.ixsl 5 (.t 35) (.t 36)) [1,2],oN 38 (.ld true 5 (.t 37)) [3],oN 39 (.call 42 [(.t 38)]) [4],oN 40 (.call 41 [(.t 39)]) [5,5],oN 41 (.ixarr 3 1 (.t 2) (.t 34)) [0,0,1,2,3,4,5,6],⟨none,(.st 1 (.t 41) (.t 40)),none,[7,6,6,0,1,2,3,4,5,6]⟩] false))) (.reg [oN 42 (.bin .add (.t 31) (.c (.int .i64 1))) [],oM 31 42 [0]] false))))))) (.seq (.reg [oN 43 (.ixarr 3 1 (.t 2) (.c (.int .i64 0))) [],oD 44 1 43 [0],oN 45 (.ixarr 3 1 (.t 2) (.c (.int .i64 1))) [],oD 46 1 45 [2],oN 47 (.call 43 [(.t 44),(.t 46)]) [1,3],oN 48 (.ixarr 3 1 (.t 2) (.c (.int .i64 2))) [],oD 49 1 48 [5],oN 50 (.call 44 []) [4],oN 51 (.call 43 [(.t 49),(.t 50)]) [6,7,7],oM 4 47 [4,8,0,1,2,3,4],oM 5 51 [8,9,0,1,2,3,4,5,6,7,8,9]] true) (.seq (.reg [oM 52 4 [],oM 53 5 [],oN 54 (.call 43 [(.t 52),(.t 53)]) [0,1],oM 6 54 [2,2,0,1,2]] false) (.seq (.reg [oM 55 1 [],oN 56 (.ixsl 5 (.t 55) (.c (.int .i64 1))) [0],oN 57 (.ld true 5 (.t 56)) [1],oN 58 (.call 42 [(.t 57)]) [2],oN 59 (.call 40 [(.c (.str (Qm [115]))),(.c (.str (Qm [2])))]) [3],oN 60 (.scat (.c (.str (Qm [8,2,4,2,2,16]))) (.t 59)) [4],oN 61 (.seq false (.t 58) (.t 60)) [3,5],oM 62 61 [6,4],pM 63 1 62 true [7],oG 64 (.call 19 [(.t 63)]) 62 true [8,7,7],pM 65 6 62 true [7],oG 66 (.seq false (.t 64) (.t 65)) 62 true [9,10,7],oN 67 (.pick (.t 62) (.t 66) (.c (.bool false))) [7,11],oM 68 67 [12,9],pM 69 1 68 true [13],oG 70 (.bslice 3 1 [(.int .i64 0)] 1 [(0,(.c (.int .i64 1)))]) 68 true [13],oG 71 (.ixarr 3 1 (.t 2) (.c (.int .i64 0))) 68 true [13],pD 72 1 71 68 true [16,13],pM 73 5 68 true [13],oG 74 (.bslice 9 1 [(.str (Qm []))] 2 [(0,(.t 72)),(1,(.t 73))]) 68 true [17,18,13],oG 75 (.call 45 [(.t 69),(.t 70),(.t 74)]) 68 true [14,15,19,13,13],oN 76 (.pick (.t 68) (.t 75) (.c (.bool false))) [13,20],oM 77 76 [21,20],pM 78 1 77 true [22],oG 79 (.bslice 3 1 [(.int .i64 0)] 1 [(0,(.c (.int .i64 2)))]) 77 true [22],pM 80 4 77 true [22],oG 81 (.bslice 9 1 [(.str (Qm []))] 1 [(0,(.t 80))]) 77 true [25,22],oG 82 (.call 45 [(.t 78),(.t 79),(.t 81)]) 77 true [23,24,26,22,22],oN 83 (.pick (.t 77) (.t 82) (.c (.bool false))) [22,27],oM 84 83 [28,27],pM 85 1 84 true [29],pM 86 6 84 true [29],oG 87 (.bslice 9 1 [(.str (Qm []))] 1 [(0,(.t 86))]) 84 true [31,29],oG 88 (.call 45 [(.t 85),(.c .nils),(.t 87)]) 84 true [30,32,29,29],oN 89 (.pick (.t 84) (.t 88) (.c (.bool false))) [29,33],oM 90 89 [34,33],pM 91 1 90 true [35],oG 92 (.bslice 3 1 [(.int .i64 0)] 3 [(0,(.c (.int .i64 0))),(1,(.c (.int .i64 1))),(2,(.c (.int .i64 2)))]) 90 true [35],oG 93 (.call 45 [(.t 91),(.t 92),(.c .nils)]) 90 true [36,37,35,35],oN 94 (.pick (.t 90) (.t 93) (.c (.bool false))) [35,38],oM 7 94 [39,38,0,1,2,3,4,5,6,7,8,9,10,11,12,13,14,15,16,17,18,19,20,21,22,23,24,25,26,27,28,29,30,31,32,33,34,35,36,37,38,39]] false) (.seq (.reg [oM 96 1 [],oN 97 (.bslice 3 1 [(.int .i64 0)] 1 [(0,(.c (.int .i64 3)))]) [],oN 98 (.call 22 [(.t 96),(.t 97)]) [0,1],oM 95 98 [2],oN 99 (.ext (.t 95) 0) [3],oN 100 (.ext (.t 95) 1) [3],oN 8 (.alloc 55 3 [(.int .i64 0),.nils,.nils]) [],⟨none,(.st 3 (.t 8) (.t 99)),none,[6,4,2,0,1,2,3,4,6]⟩,oM 9 100 [5,7,0,1,2,3,4,5,6,7]] false) (.seq (.reg [oM 102 1 [],oN 103 (.bslice 3 1 [(.int .i64 0)] 2 [(0,(.c (.int .i64 1))),(1,(.c (.int .i64 1)))]) [],oN 104 (.call 22 [(.t 102),(.t 103)]) [0,1],oM 101 104 [2],oN 105 (.ext (.t 101) 0) [3],oN 106 (.ext (.t 101) 1) [3],oN 10 (.alloc 55 3 [(.int .i64 0),.nils,.nils]) [],⟨none,(.st 3 (.t 10) (.t 105)),none,[6,4,2,0,1,2,3,4,6]⟩,oM 11 106 [5,7,0,1,2,3,4,5,6,7]] false) (.seq (.reg [oN 108 (.call 22 [(.c .nils),(.c .nils)]) [],oM 107 108 [0],oN 109 (.ext (.t 107) 0) [1],oN 110 (.ext (.t 107) 1) [1],oN 12 (.alloc 55 3 [(.int .i64 0),.nils,.nils]) [],⟨none,(.st 3 (.t 12) (.t 109)),none,[4,2,0,0,1,2,4]⟩,oM 13 110 [3,5,0,1,2,3,4,5]] false) (.seq (.reg [oM 112 1 [],oN 113 (.bslice 3 1 [(.int .i64 0)] 1 [(0,(.c (.int .i64 1)))]) [],oN 114 (.call 22 [(.t 112),(.t 113)]) [0,1],oM 111 114 [2],oN 115 (.ext (.t 111) 0) [3],oN 116 (.ext (.t 111) 1) [3],oN 14 (.alloc 55 3 [(.int .i64 0),.nils,.nils]) [],⟨none,(.st 3 (.t 14) (.t 115)),none,[6,4,2,0,1,2,3,4,6]⟩,oM 15 116 [5,7,0,1,2,3,4,5,6,7]] false) (.seq (.reg [oN 118 (.ld true 3 (.t 14)) [],oN 119 (.call 27 [(.t 118)]) [0],oM 117 119 [1],oN 120 (.ext (.t 117) 0) [2],oN 121 (.ext (.t 117) 1) [2],oM 16 120 [3,1,0,1,2,3],oM 17 121 [4,5,0,1,2,3,4,5]] false) (.seq (.reg [oN 122 (.ld true 3 (.t 14)) [],oN 123 (.call 31 [(.t 122)]) [0],oN 18 (.alloc 55 3 [(.int .i64 0),.nils,.nils]) [],⟨none,(.st 3 (.t 18) (.t 123)),none,[2,1,1,0,1,2]⟩] false) (.seq (.seq (.reg [oA 124 1 18 [],oD 125 1 124 [0],oN 126 (.len (.t 125)) [1],oN 127 (.bin .neq (.t 126) (.c (.int .i64 1))) [2]] false) (.cond (.t 127) (.seq (.reg [oN 0 (.mv (.c (.bool false))) []] false) .ret) .skip)) (.seq (.reg [oA 128 1 18 [],oD 129 1 128 [0],oN 130 (.ixsl 5 (.t 129) (.c (.int .i64 0))) [1,0,1],oA 131 2 130 [2,0,1],⟨none,(.st 1 (.t 131) (.c (.bool false))),none,[3,0,1]⟩] false) (.seq (.reg [oM 132 7 [],oM 133 132 [0],pM 134 9 133 true [1],oG 135 (.bin .eql (.t 134) (.c (.int .i64 5))) 133 true [2,1],oN 136 (.pick (.t 133) (.t 135) (.c (.bool false))) [1,3],oM 137 136 [4,1],pM 138 11 137 true [5],oG 139 (.bin .eql (.t 138) (.c (.int .i64 7))) 137 true [6,5],oN 140 (.pick (.t 137) (.t 139) (.c (.bool false))) [5,7],oM 141 140 [8,5],pM 142 13 141 true [9],oG 143 (.bin .eql (.t 142) (.c (.int .i64 2))) 141 true [10,9],oN 144 (.pick (.t 141) (.t 143) (.c (.bool false))) [9,11],oM 145 144 [12,9],pM 146 17 145 true [13],oN 147 (.pick (.t 145) (.t 146) (.c (.bool false))) [13,14],oM 148 147 [15,13],pM 149 16 148 true [16],pM 150 6 148 true [16],oG 151 (.seq false (.t 149) (.t 150)) 148 true [17,18,16],oN 152 (.pick (.t 148) (.t 151) (.c (.bool false))) [16,19],oM 153 152 [20,16],oG 154 (.ld true 3 (.t 14)) 153 true [21],oG 155 (.ld true 3 (.t 18)) 153 true [21],oG 156 (.call 29 [(.t 154),(.t 155)]) 153 true [22,23,21,21],oG 157 (.bin .eql (.t 156) (.c (.int .i64 7))) 153 true [24,21],oN 158 (.pick (.t 153) (.t 157) (.c (.bool false))) [21,25],oM 159 158 [26,24],oG 160 (.ld true 3 (.t 18)) 159 true [27],oG 161 (.ld true 3 (.t 14)) 159 true [27],oG 162 (.call 29 [(.t 160),(.t 161)]) 159 true [28,29,27,27],oG 163 (.bin .eql (.t 162) (.c (.int .i64 0))) 159 true [30,27],oN 164 (.pick (.t 159) (.t 163) (.c (.bool false))) [27,31],oM 0 164 [32,30,0,1,2,3,4,5,6,7,8,9,10,11,12,13,14,15,16,17,18,19,20,21,22,23,24,25,26,27,28,29,30,31,32]] false) .ret)))))))))))))))))
theorem mcOkv8:okM Tryz.prog Tryz.f8 165=some mcv8:=by kernel_rfl
set_option maxHeartbeats 4000000 in
theorem vc8  : FC Tryz.prog 8 [] [] (.bool true) [] false:=by
 refine Qj (nt:=165) Tryz.func8 rfl rfl mcOkv8 (nL rfl) ?_
 delta mcv8
 refine gA 6 rfl (Q1 [] rfl rfl vc39 .nil .nil rfl rfl rfl ?_)
 rw [exL_eq]
 refine gR 6 rfl (Qh rfl rfl (gR 0 rfl (Xd rfl rfl rfl rfl (by decide) (gR 2 rfl (Qp (f:=cLf) (xs:=eLs) (y:=eL 1) rfl rfl rfl (by decide) rfl (gR 0 rfl (QG (cs:=cLf (eL 1)) rfl rfl (nL rfl) rfl (gR 0 rfl (cN rfl rfl (vc40 [115] [2] ⟨b8_c,by decide⟩ ⟨b8_c,by decide⟩) (gR 1 rfl (rs_aeqx (r:=false) (scs (eL 1)) (scs (eL 1)) rfl rfl rfl rfl rfl rfl rfl (by simp) ?_)))))))))))
 refine gR 1 rfl (QJ (by kernel_rfl) (gP 12 rfl ?_))
 refine Qr (α:=Nat) (fun k=>3-k) (fun k=>[(1,.rs 5 (eLs.map cLf)),(2,.ptr 2 0 0),(31,iv (((k):Nat):Int))]) (fun k=>[(2,.cells 76 3 [eAr (k)] true)]) (fun k=>k<=3) 0 (by omega)
  (Qa (Qb rfl rfl) (.keep rfl rfl .nil) nz) ?_
 intro k hk
 refine gT 5 rfl (Qe rfl (fun h32=>?_) (fun h32=>?_))
 ·replace h32:=of_decide_eq_true h32
  refine gK 5 rfl ?_
  obtain rfl | rfl | rfl:k=0\/k=1\/k=2:=by omega
  ·skip
   refine gI 7 rfl (Qp (f:=cLf) (xs:=eLs) (y:=eL 0) rfl rfl rfl (by decide) rfl (gR 0 rfl (QG (cs:=cLf (eL 0)) rfl rfl (nL rfl) rfl (gR 0 rfl (cN rfl rfl (vc42 (eL 0) (eL_ok 0)) (gR 0 rfl (cN rfl rfl (vc41 (XN (eL 0)) (text_ok 0)) (gR 0 rfl (Q0 rfl rfl rfl (by decide) (by decide) (gR 3 rfl (Qg rfl rfl rfl (by omega) ?_)))))))))))
   refine gR 2 rfl ?_
   exact Q8 <| ⟨0+1,by omega,by omega,Qa (Qb rfl rfl) (.keep rfl rfl .nil) nz⟩
  ·skip
   refine gI 7 rfl (Qp (f:=cLf) (xs:=eLs) (y:=eL 1) rfl rfl rfl (by decide) rfl (gR 0 rfl (QG (cs:=cLf (eL 1)) rfl rfl (nL rfl) rfl (gR 0 rfl (cN rfl rfl (vc42 (eL 1) (eL_ok 1)) (gR 0 rfl (cN rfl rfl (vc41 (XN (eL 1)) (text_ok 1)) (gR 0 rfl (Q0 rfl rfl rfl (by decide) (by decide) (gR 3 rfl (Qg rfl rfl rfl (by omega) ?_)))))))))))
   refine gR 2 rfl ?_
   exact Q8 <| ⟨1+1,by omega,by omega,Qa (Qb rfl rfl) (.keep rfl rfl .nil) nz⟩
  ·skip
   refine gI 7 rfl (Qp (f:=cLf) (xs:=eLs) (y:=eL 2) rfl rfl rfl (by decide) rfl (gR 0 rfl (QG (cs:=cLf (eL 2)) rfl rfl (nL rfl) rfl (gR 0 rfl (cN rfl rfl (vc42 (eL 2) (eL_ok 2)) (gR 0 rfl (cN rfl rfl (vc41 (XN (eL 2)) (text_ok 2)) (gR 0 rfl (Q0 rfl rfl rfl (by decide) (by decide) (gR 3 rfl (Qg rfl rfl rfl (by omega) ?_)))))))))))
   refine gR 2 rfl ?_
   exact Q8 <| ⟨2+1,by omega,by omega,Qa (Qb rfl rfl) (.keep rfl rfl .nil) nz⟩
 ·replace h32:=of_decide_eq_false h32
  refine gK 2 rfl ?_
  obtain rfl:k=3:=by omega
  refine gI 1 rfl (Q0 rfl rfl rfl (by decide) (by decide) (gR 1 rfl (Q0 rfl rfl rfl (by decide) (by decide) (gR 1 rfl (cN rfl rfl (vc43 (eD 0) (eD 1) (leafD_ok _) (leafD_ok _)) (gR 0 rfl (Q0 rfl rfl rfl (by decide) (by decide) (gR 1 rfl (cN rfl rfl (vc44) (gR 0 rfl (cN rfl rfl (vc43 (eD 2) missS (leafD_ok _) ⟨(Jh _).1,by rw [show missS.length=8 from (Jh _).2]; decide⟩) ?_)))))))))))
  refine gR 2 rfl (QJ (by kernel_rfl) (gP 4 rfl (cN rfl rfl (vc43 eLow J5 (Uc _ _) (Uc _ _)) (gR 5 rfl (Qp (f:=cLf) (xs:=eLs) (y:=eL 1) rfl rfl rfl (by decide) rfl (gR 0 rfl (QG (cs:=cLf (eL 1)) rfl rfl (nL rfl) rfl (gR 0 rfl (cN rfl rfl (vc42 (eL 1) (eL_ok 1)) (gR 0 rfl (cN rfl rfl (vc40 [115] [2] ⟨b8_c,by decide⟩ ⟨b8_c,by decide⟩) ?_)))))))))))
  refine gR 0 rfl (J3 (c:=[8,2,4,2,2,16]++Xn [115] [2]) rfl rfl rfl (by rw [show (Xn [115] [2]).length=8 from (Jh _).2]; decide) rfl (gR 0 rfl (rs_seq (r:=true) rfl rfl rfl (text_ok 1).1 (b8_app (fun x hx=>by simp only [List.mem_cons,List.not_mem_nil,or_false] at hx; rcases hx with rfl | rfl | rfl | rfl | rfl | rfl <;> decide) (mark_ok _ _).1) (by rw [decide_eq_true eText]; rfl) (gR 2 rfl (cN rfl rfl (vc19 eLs ⟨by decide,eLs_ok⟩) ?_)))))
  rw [eRootF]
  refine gR 1 rfl (rs_seq (r:=true) rfl rfl rfl (Uc _ _).1 (Uc _ _).1 (by rw [decide_eq_true (show eRoot=JM eLow J5 from rfl)]; rfl) (gR 3 rfl (Qi (l:=(([1]:List Int)).flatMap civ) (els:=(([1]:List Int)).map civ) (fl:=true) rfl (by kernel_rfl) rfl rfl (by kernel_rfl) (by kernel_rfl) (gR 0 rfl (Q0 rfl rfl rfl (by decide) (by decide) (gR 2 rfl (Qi (l:=(([eD 0,J5]:List (List Int))).flatMap cS) (els:=(([eD 0,J5]:List (List Int))).map cS) (fl:=true) rfl (by kernel_rfl) rfl rfl (by kernel_rfl) (by kernel_rfl) (gR 0 rfl (Qx [70,74] rfl rfl (vc45 eLs (by decide) eLs_ok [1] (by decide) [eD 0,J5] (fun d hd=>(eSh_ok.b d hd).1)) (.cons (Qd rfl) (.cons (QL (f:=civ) (xs:=[1]) (by simp) rfl rfl) (.cons (QL (f:=cS) (xs:=[eD 0,J5]) (by simp) rfl rfl) (.nil)))) rfl ?_)))))))))
  rw [eS1]
  refine gR 3 rfl (Qi (l:=(([2]:List Int)).flatMap civ) (els:=(([2]:List Int)).map civ) (fl:=true) rfl (by kernel_rfl) rfl rfl (by kernel_rfl) (by kernel_rfl) (gR 1 rfl (Qi (l:=(([eLow]:List (List Int))).flatMap cS) (els:=(([eLow]:List (List Int))).map cS) (fl:=true) rfl (by kernel_rfl) rfl rfl (by kernel_rfl) (by kernel_rfl) (gR 0 rfl (Qx [79,81] rfl rfl (vc45 eLs (by decide) eLs_ok [2] (by decide) [eLow] (fun d hd=>by rw [List.mem_singleton.1 hd]; exact (Uc _ _).1)) (.cons (Qd rfl) (.cons (QL (f:=civ) (xs:=[2]) (by simp) rfl rfl) (.cons (QL (f:=cS) (xs:=[eLow]) (by simp) rfl rfl) (.nil)))) rfl ?_)))))
  rw [eS2]
  refine gR 4 rfl (Qi (l:=(([eRoot]:List (List Int))).flatMap cS) (els:=(([eRoot]:List (List Int))).map cS) (fl:=true) rfl (by kernel_rfl) rfl rfl (by kernel_rfl) (by kernel_rfl) (gR 0 rfl (Qx [87] rfl rfl (vc45 eLs (by decide) eLs_ok [] (by decide) [eRoot] (fun d hd=>by rw [List.mem_singleton.1 hd]; exact (Uc _ _).1)) (.cons (Qd rfl) (.cons (hv_nils) (.cons (QL (f:=cS) (xs:=[eRoot]) (by simp) rfl rfl) (.nil)))) rfl ?_)))
  rw [eS3]
  refine gR 3 rfl (Qi (l:=(([0,1,2]:List Int)).flatMap civ) (els:=(([0,1,2]:List Int)).map civ) (fl:=true) rfl (by kernel_rfl) rfl rfl (by kernel_rfl) (by kernel_rfl) (gR 0 rfl (Qx [92] rfl rfl (vc45 eLs (by decide) eLs_ok [0,1,2] (by decide) [] (fun d hd=>by cases hd)) (.cons (Qd rfl) (.cons (QL (f:=civ) (xs:=[0,1,2]) (by simp) rfl rfl) (.cons (hv_nils) (.nil)))) rfl ?_)))
  rw [eS4]
  refine gR 6 rfl (Qi (l:=(([3]:List Int)).flatMap civ) (els:=(([3]:List Int)).map civ) (fl:=true) rfl (by kernel_rfl) rfl rfl (by kernel_rfl) (by kernel_rfl) (gR 0 rfl (Qx [97] rfl rfl (vc22 eLs (by decide) eLs_ok [3] (by decide)) (.cons (Qd rfl) (.cons (QL (f:=civ) (xs:=[3]) (by simp) rfl rfl) (.nil))) rfl ?_)))
  rw [eE3]
  refine gR 10 rfl (Qi (l:=(([1,1]:List Int)).flatMap civ) (els:=(([1,1]:List Int)).map civ) (fl:=true) rfl (by kernel_rfl) rfl rfl (by kernel_rfl) (by kernel_rfl) (gR 0 rfl (Qx [103] rfl rfl (vc22 eLs (by decide) eLs_ok [1,1] (by decide)) (.cons (Qd rfl) (.cons (QL (f:=civ) (xs:=[1,1]) (by simp) rfl rfl) (.nil))) rfl ?_)))
  rw [eE11]
  refine gR 9 rfl (Qx [] rfl rfl (vc22 [] (by decide) (fun x hx=>by cases hx) [] (by decide)) (.cons (hv_nils) (.cons (hv_nils) (.nil))) rfl ?_)
  rw [eE0]
  refine gR 10 rfl (Qi (l:=(([1]:List Int)).flatMap civ) (els:=(([1]:List Int)).map civ) (fl:=true) rfl (by kernel_rfl) rfl rfl (by kernel_rfl) (by kernel_rfl) (gR 0 rfl (Qx [113] rfl rfl (vc22 eLs (by decide) eLs_ok [1] (by decide)) (.cons (Qd rfl) (.cons (QL (f:=civ) (xs:=[1]) (by simp) rfl rfl) (.nil))) rfl ?_)))
  rw [eE1,eG1]
  refine gR 10 rfl (cN rfl rfl (vc27 3 [eL 1] [eD 0,J5] eSh_ok) ?_)
  rw [eR1]
  refine gR 7 rfl (QE (F0:=[(1,.rs 5 (eLs.map cLf)),(6,.str (Qm eRoot)),(7,.bool true),(9,iv 5),(11,iv 7),(13,iv 2),(14,.ptr 14 0 0),(16,.str (Qm eRoot)),(17,.bool true)]) (H0:=[(14,.cells 55 3 [cSh eSh] true)]) (Qa (Qb rfl rfl) (.keep rfl rfl .nil) nz) (gK 2 rfl (cN rfl rfl (vc31 3 [eL 1] [eD 0,J5] (by decide) (by decide)) (gR 8 rfl (Xi rfl rfl (gR 0 rfl (Xd rfl rfl rfl rfl (by decide) (gR 7 rfl (XS rfl rfl rfl rfl (by decide) (by decide) (gR 8 rfl (Js rfl rfl rfl rfl rfl ?_)))))))))))
  refine gR 3 rfl (Js rfl rfl rfl rfl rfl (gR 3 rfl (Js rfl rfl rfl rfl rfl (gR 7 rfl (rs_seq (r:=true) rfl rfl rfl (Uc _ _).1 (Uc _ _).1 (by simp) (gR 4 rfl (Qx [8,12] rfl rfl (vc29 3 [eL 1] [eD 0,J5] eSh_ok 3 [eN] [eD 0,J5] eShN_ok) (.cons (Qd rfl) (.cons (hv_agg (.cons (Qd rfl) (.cons (QL (f:=cLf) (xs:=[eN]) (by simp) rfl rfl) (.cons (QL (f:=cS) (xs:=[eD 0,J5]) (by simp) rfl rfl) .nil)))) (.nil))) rfl ?_)))))))
  rw [eC1]
  refine gR 0 rfl (Js rfl rfl rfl rfl rfl (gR 4 rfl (Qx [8,12] rfl rfl (vc29 3 [eN] [eD 0,J5] eShN_ok 3 [eL 1] [eD 0,J5] eSh_ok) (.cons (hv_agg (.cons (Qd rfl) (.cons (QL (f:=cLf) (xs:=[eN]) (by simp) rfl rfl) (.cons (QL (f:=cS) (xs:=[eD 0,J5]) (by simp) rfl rfl) .nil)))) (.cons (Qd rfl) (.nil))) rfl ?_)))
  rw [eC2]
  refine gR 0 rfl (Js rfl rfl rfl rfl rfl (gR 4 rfl ?_))
  exact Qk <| Qc rfl rfl rfl (.inr rfl)
end Go.Proofs.YthfhaoogcpfboaaGreat
namespace Go.Proofs.YthfhaoogcpfboaaGreat
open Go.RowKit
set_option linter.unusedVariables false
def bitZ (s:Int) (k:Nat):Bool:=decide (bits .and .i64 (s.fdiv (2^min k 64)) 1=0)
section
variable {ls:List Lf} {w:List Int} {b0 b1 b2:Int}
theorem w_at {k:Nat} (h:k<w.length):w[k]?=some (w.getD k 0):=by
 rw [List.getD_eq_getElem?_getD,List.getElem?_eq_getElem h]; rfl
theorem IxOK.at_ {n:Nat} (h:IxOK n w) {k:Nat} (hk:k<w.length):0<=w.getD k 0/\w.getD k 0<(n:Int):=h.bd _ (JQ (w_at hk))
theorem IxOK.lt {n:Nat} (h:IxOK n w) {i:Nat}:∀ {j:Nat},i<j->j<w.length->w.getD i 0<w.getD j 0
 | 0,hij,_=>by omega
 | j+1,hij,hj=>by
  have h1:=h.inc j _ _ (w_at (by omega)) (w_at hj)
  by_cases e:i=j
  ·rw [e]; exact h1
  ·have:=h.lt (i:=i) (j:=j) (by omega) (by omega); omega
theorem sel_mem {i:Int} (h0:0<=i) (h1:i<(ls.length:Int)):Jj ls i∈ls:=JQ (sel_some h0 h1)
theorem LvsOK.set {i:Nat} {y:Lf} (h:LvsOK ls) (hy:y.ix=(i:Int)) (ho:y.OK):LvsOK (ls.set i y) where
 n:=by rw [List.length_set]; exact h.n
 ix k x hx:=by
  rw [List.getElem?_set] at hx
  split at hx
  ·rename_i e
   split at hx
   ·injection hx with hx; rw [← hx,← e]; exact hy
   ·cases hx
  ·exact h.ix k x hx
 ok x hx:=by
  rcases List.mem_or_eq_of_mem_set hx with hx | hx
  ·exact h.ok x hx
  ·rw [hx]; exact ho
theorem allZ_iff {p:Lf->Lf->Bool}:∀ {l m:List Lf},allZ p l m=true ↔ ∀ (k:Nat) (x y:Lf),l[k]?=some x->m[k]?=some y->p x y=true
 | [],m=>⟨fun _ k x y h=>by simp at h,fun _=>by unfold allZ; rfl⟩
 | x::l,[]=>⟨fun _ k x y _ h=>by simp at h,fun _=>rfl⟩
 | x::l,y::m=>by
  show (p x y&&allZ p l m)=true ↔ _
  rw [Bool.and_eq_true,allZ_iff]
  constructor
  ·rintro ⟨h1,h2⟩ k a b ha hb
   cases k with
   | zero=>simp at ha hb; subst ha hb; exact h1
   | succ k=>exact h2 k a b (by simpa using ha) (by simpa using hb)
  ·intro h
   exact ⟨h 0 x y rfl rfl,fun k a b ha hb=>h (k+1) a b (by simpa using ha) (by simpa using hb)⟩
end
end Go.Proofs.YthfhaoogcpfboaaGreat
namespace Go.Proofs.YthfhaoogcpfboaaGreat
open Go.RowKit
set_option maxRecDepth 100000
set_option linter.unusedVariables false
theorem aw_cutw {P:Program} {N:Nat} {Z:List Nat} {rn:Option Nat} {Q:Post} {F F0:Fr} {H H0:Hp} {x y:MC} (h1:AW P N Z rn x (fun e F' H'=>e = .normal/\Weak N Z F' H' F0 H0) F H) (h2:AW P N Z rn y Q F0 H0):AW P N Z rn (.seq x y) Q F H :=
 Q4 (aw_mono h1 fun e F' H' ⟨he,hw⟩=>by subst he; exact QE hw h2)
theorem show_E {ls:List Lf} (h:LvsOK ls) {w:List Int} (hw:IxOK ls.length w):XY ls w=0:=by
 have hn:=h.n
 refine shE_0 (by omega) ?_ (IxOK.out hw.bd) hw.incF
 have key:∀ (l:List Lf) (k:Nat),(∀ (i:Nat) (x:Lf),l[i]?=some x->x.ix=((k+i:Nat):Int))->ixF k l=true:=by
  intro l
  induction l with
  | nil=>intro k _; rfl
  | cons a l ih =>
   intro k hk
   simp only [ixF,Bool.and_eq_true,decide_eq_true_eq]
   exact ⟨by have:=hk 0 a rfl; simpa using this,ih (k+1) fun i x hx=>by rw [hk (i+1) x (by simpa using hx)]; omega⟩
 exact key ls 0 fun i x hx=>by rw [h.ix i x hx]; omega
theorem show_ok {ls:List Lf} (h:LvsOK ls) {w:List Int} (hw:IxOK ls.length w):ShOK (w.map (Jj ls)) ((X0 ls.length w).map (JH ls)) where
 nl:=by rw [List.length_map]; have:=hw.n; omega
 nh:=by rw [List.length_map]; have:=hidA_len (w:=w) h.n.2; omega
 ok x hx:=by
  obtain ⟨i,hi,rfl⟩:=List.mem_map.1 hx
  exact h.ok _ (sel_mem (hw.bd i hi).1 (hw.bd i hi).2)
 b d hd:=by
  obtain ⟨s,_,rfl⟩:=List.mem_map.1 hd
  exact (ofK_ok ls).tree _ _
end Go.Proofs.YthfhaoogcpfboaaGreat
namespace Go.Proofs.YthfhaoogcpfboaaGreat
open Go.RowKit
set_option linter.unusedVariables false
section
variable {z:Int} {lv:List Lf} {hd:List (List Int)}
end
end Go.Proofs.YthfhaoogcpfboaaGreat
namespace Go.Proofs.YthfhaoogcpfboaaGreat
open Go.RowKit
set_option maxRecDepth 100000
set_option linter.unusedVariables false
end Go.Proofs.YthfhaoogcpfboaaGreat
namespace Go.Proofs.YthfhaoogcpfboaaGreat
open Go.RowKit
set_option maxRecDepth 100000
set_option linter.unusedVariables false
end Go.Proofs.YthfhaoogcpfboaaGreat
namespace Go.Proofs.YthfhaoogcpfboaaGreat
open Go.RowKit
set_option maxRecDepth 100000
set_option linter.unusedVariables false
def oddZ (kd N M:Nat):Prop:=(kd<6/\N=0)\/(6<kd/\kd<9/\M=0)
instance (kd N M:Nat):Decidable (oddZ kd N M):=by unfold oddZ; exact inferInstance
structure ShB (n:Nat) (lv:List Lf) (hd:List (List Int)):Prop where
 nl:lv.length<=n
 nh:hd.length<=n
 ok:∀ x∈lv,I64 x.ix/\I64 x.want/\B8 x.salt/\x.salt.length<=n
 b:∀ d∈hd,B8 d/\d.length<=n
theorem ShB.sh {n:Nat} {lv:List Lf} {hd:List (List Int)} (h:ShB n lv hd) (hn:n<=64):ShOK lv hd where
 nl:=Nat.le_trans h.nl hn
 nh:=Nat.le_trans h.nh hn
 ok x hx:=by have:=h.ok x hx; exact ⟨this.1,this.2.1,this.2.2.1,by omega⟩
 b d hd:=by have:=h.b d hd; exact ⟨this.1,by show d.length<=140737488355328; omega⟩
end Go.Proofs.YthfhaoogcpfboaaGreat
namespace Go.Proofs.YthfhaoogcpfboaaGreat
open Go.RowKit
set_option maxRecDepth 100000
set_option linter.unusedVariables false
def pkS (L E:List Int):Nat->List AV
 | 0=>[.nils,.nils]
 | 1=>[ints L,.nils]
 | _=>[ints L,ints E]
theorem rc_frzA {α:Type} {f:α->List AV} {xs:List α} {H H0:Hp} {i e z n:Nat} (h:get H i=some (.cells e z (xs.map f) true)) (h0:get H0 i=none) (hn:xs.length=n):RC H H0 true (.sl i 0 n) (.rs z (xs.map f)):=by
 have:=rc_freeze (H0:=H0) (al:=true) (j:=0) (n:=n) h h0 (by simp; omega) (.inl rfl)
 rw [List.drop_zero,List.take_of_length_le (by simp; omega)] at this
 exact this
theorem pst_t {L:List Int} {k:Nat} (h:Ub L=true):pSt L (k+1)=⟨(pSt L k).cells++[pB1 L (pSt L k)]++[pB2 L (pSt L k)],(pSt L k).x+pW L (pSt L k),XT L (pSt L k).a⟩:=by
 show pStep L (pSt L k)=_; unfold pStep; rw [if_pos h]
theorem pst_f {L:List Int} {k:Nat} (h:Ub L=false):pSt L (k+1)=⟨(pSt L k).cells++[pB1 L (pSt L k)],(pSt L k).x+pW L (pSt L k),XT L (pSt L k).a⟩:=by
 show pStep L (pSt L k)=_; unfold pStep; rw [if_neg (by rw [h]; decide)]
theorem pst_len {L:List Int} {k:Nat} (h:PStI L k) (hk:k<=4):(pSt L k).cells.length<=8:=by have:=h.n; split at this <;> omega
theorem pickW_at (v:Int) (h:0<=v/\v<4):([2,1,3,2]:List Int)[v.toNat]?=some (pickW v):=by
 obtain rfl | rfl | rfl | rfl:v=0\/v=1\/v=2\/v=3:=by omega
 all_goals rfl
def mcv9:MC:=(.seq (.reg [oN 2 (.alloc 31 3 [(.str (Qm [])),.nils,.nils]) []] false) (.seq (.reg [oN 3 (.alloc 23 2 [.nils,.nils]) []] false) (.seq (.seq (.reg [oN 4 (.mv (.c (.int .i64 0))) []] false) (.block 0 (.loop (.seq (.seq (.reg [oM 19 4 [],oM 20 0 [],oN 21 (.len (.t 20)) [1],oN 22 (.bin .lss (.t 19) (.t 21)) [0,2],oM 23 22 [3],pM 24 4 23 true [4],oG 25 (.bin .lss (.t 24) (.c (.int .i64 2))) 23 true [5,4],oN 26 (.pick (.t 23) (.t 25) (.c (.bool false))) [4,6]] false) (.cond (.t 26) .skip (.exit 0))) (.seq (.block 1 (.reg [oM 29 4 [],oM 30 0 [],oM 31 4 [],oN 32 (.ixsl 1 (.t 30) (.t 31)) [1,2],oD 33 1 32 [3],oN 34 (.ixarr 2 1 (.t 3) (.t 29)) [0,0,1,2,3,4],⟨none,(.st 1 (.t 34) (.t 33)),none,[5,4,0,1,2,3,4]⟩] false)) (.reg [oM 27 4 [],oN 28 (.bin .add (.t 27) (.c (.int .i64 1))) [0],oM 4 28 [1,0,1]] false)))))) (.seq (.reg [oN 35 (.ixarr 2 1 (.t 3) (.c (.int .i64 0))) [],oD 36 1 35 [0],oN 37 (.build [.nils,(.int .i64 0)] [(0,(1,(.t 36)))]) [1],oN 38 (.box 83 2 (.t 37)) [2],oM 5 38 [3,0,1,2,3]] false) (.seq (.reg [oN 39 (.build [(.str (Qm [])),.nils,.nils] [(0,(1,(.c (.str (Qm [112])))))]) [],oN 6 (.alloc 31 3 [(.str (Qm [])),.nils,.nils]) [],⟨none,(.st 3 (.t 6) (.t 39)),none,[1,0,0,1]⟩] false) (.seq (.reg [oM 40 5 [],oN 41 (.call 46 [(.t 40),(.c (.int .i64 3))]) [0],oN 42 (.bin .add (.c (.int .i64 2)) (.t 41)) [1],oM 7 42 [2,1,0,1,2]] false) (.seq (.reg [oM 43 5 [],oN 44 (.call 46 [(.t 43),(.c (.int .i64 3))]) [0],oN 45 (.bin .eql (.t 44) (.c (.int .i64 2))) [1],oM 46 45 [2,1],pM 47 7 46 true [3],oG 48 (.bin .lss (.t 47) (.c (.int .i64 4))) 46 true [4,3],oN 49 (.pick (.t 46) (.t 48) (.c (.bool false))) [3,5],oM 8 49 [6,3,0,1,2,3,4,5,6]] false) (.seq (.reg [oM 50 5 [],oN 51 (.call 46 [(.t 50),(.c (.int .i64 3))]) [0],oN 52 (.bin .add (.c (.int .i64 (-6))) (.t 51)) [1],oM 9 52 [2,1,0,1,2]] false) (.seq (.reg [oM 53 5 [],oN 54 (.call 46 [(.t 53),(.c (.int .i64 3))]) [0],oN 55 (.bin .add (.c (.int .i64 2)) (.t 54)) [1],oM 10 55 [2,1,0,1,2]] false) (.seq (.seq (.reg [oN 11 (.mv (.c (.int .i64 0))) []] false) (.block 2 (.loop (.seq (.seq (.reg [oM 56 11 [],oM 57 7 [],oN 58 (.bin .lss (.t 56) (.t 57)) [0,1]] false) (.cond (.t 58) .skip (.exit 2))) (.seq (.block 3 (.seq (.reg [oM 61 5 [],oN 62 (.call 46 [(.t 61),(.c (.int .i64 4))]) [0],oN 63 (.bin .add (.c (.int .i64 1)) (.t 62)) [1],oM 12 63 [2,1,0,1,2]] false) (.seq (.reg [oA 64 1 6 [],oD 65 1 64 [0],oM 66 9 [],oN 67 (.build [(.int .i64 0),(.int .i64 0),(.int .i64 0)] [(0,(1,(.t 66)))]) [2],oM 68 9 [],oM 69 12 [],oN 70 (.bin .add (.t 68) (.t 69)) [4,5],oM 71 10 [],oN 72 (.build [(.int .i64 0),(.int .i64 0),(.int .i64 0)] [(0,(1,(.t 70))),(1,(1,(.c (.int .i64 3)))),(2,(1,(.t 71)))]) [6,7],oN 73 (.call 47 [(.t 67),(.t 72)]) [3,8],oN 74 (.bslice 85 1 [.nils] 1 [(0,(.t 73))]) [9],oN 75 (.app 85 1 24 [.nils] (.t 65) (.t 74)) [1,10,9],oA 76 1 6 [0,1,2,3,4,5,6,7,8,9,10,11],⟨none,(.st 1 (.t 76) (.t 75)),none,[12,11,11,0,1,2,3,4,5,6,7,8,9,10,11]⟩] true) (.seq (.seq (.reg [oM 77 8 []] false) (.cond (.t 77) (.reg [oA 78 1 6 [],oD 79 1 78 [0],oM 80 9 [],oN 81 (.build [(.int .i64 0),(.int .i64 0),(.int .i64 0)] [(0,(1,(.t 80))),(1,(1,(.c (.int .i64 3))))]) [2],oM 82 9 [],oM 83 12 [],oN 84 (.bin .add (.t 82) (.t 83)) [4,5],oM 85 10 [],oN 86 (.build [(.int .i64 0),(.int .i64 0),(.int .i64 0)] [(0,(1,(.t 84))),(1,(1,(.c (.int .i64 6)))),(2,(1,(.t 85)))]) [6,7],oN 87 (.call 47 [(.t 81),(.t 86)]) [3,8],oN 88 (.bslice 85 1 [.nils] 1 [(0,(.t 87))]) [9],oN 89 (.app 85 1 24 [.nils] (.t 79) (.t 88)) [1,10,9],oA 90 1 6 [0,1,2,3,4,5,6,7,8,9,10,11],⟨none,(.st 1 (.t 90) (.t 89)),none,[12,11,11,0,1,2,3,4,5,6,7,8,9,10,11]⟩] true) .skip)) (.reg [oM 91 9 [],oM 92 12 [],oN 93 (.bin .add (.t 91) (.t 92)) [0,1],oM 9 93 [2,0,1,2]] false))))) (.reg [oM 59 11 [],oN 60 (.bin .add (.t 59) (.c (.int .i64 1))) [0],oM 11 60 [1,0,1]] false)))))) (.seq (.seq (.reg [oM 94 5 [],oN 95 (.call 46 [(.t 94),(.c (.int .i64 4))]) [0],oN 96 (.bin .eql (.t 95) (.c (.int .i64 3))) [1],oM 97 96 [2,1],pA 98 1 6 97 true [3],pD 99 1 98 97 true [4,3],oG 100 (.len (.t 99)) 97 true [5,3],oG 101 (.bin .lss (.t 100) (.c (.int .i64 6))) 97 true [6,3],oN 102 (.pick (.t 97) (.t 101) (.c (.bool false))) [3,7]] false) (.cond (.t 102) (.seq (.reg [oM 103 5 [],oA 104 1 6 [],oD 105 1 104 [1],oN 106 (.len (.t 105)) [2],oN 107 (.call 46 [(.t 103),(.t 106)]) [0,3],oM 13 107 [4,4,0,1,2,3,4]] false) (.seq (.reg [oN 108 (.build [(.int .i64 0),(.int .i64 0),(.int .i64 0)] [(1,(1,(.c (.int .i64 1)))),(2,(1,(.c (.int .i64 1))))]) [],oM 109 5 [],oN 110 (.call 46 [(.t 109),(.c (.int .i64 4))]) [1],oN 111 (.bin .add (.c (.int .i64 2)) (.t 110)) [2],oN 112 (.build [(.int .i64 0),(.int .i64 0),(.int .i64 0),(.int .i64 0)] [(0,(3,(.t 108))),(3,(1,(.t 111)))]) [0,3],oN 14 (.alloc 90 4 [(.int .i64 0),(.int .i64 0),(.int .i64 0),(.int .i64 0)]) [],⟨none,(.st 4 (.t 14) (.t 112)),none,[5,4,2,0,1,2,3,4,5]⟩] false) (.seq (.reg [oN 113 (.bslice 90 4 [(.int .i64 0),(.int .i64 0),(.int .i64 0),(.int .i64 0)] 0 []) [],oA 114 1 6 [],oD 115 1 114 [1],oM 116 13 [],oN 117 (.ixsl 1 (.t 115) (.t 116)) [2,3],oD 118 1 117 [4],oN 119 (.app 90 4 32 [(.int .i64 0),(.int .i64 0),(.int .i64 0),(.int .i64 0)] (.t 113) (.t 118)) [0,5],oN 120 (.ld true 4 (.t 14)) [],oN 121 (.bslice 90 4 [(.int .i64 0),(.int .i64 0),(.int .i64 0),(.int .i64 0)] 1 [(0,(.t 120))]) [7],oN 122 (.app 90 4 32 [(.int .i64 0),(.int .i64 0),(.int .i64 0),(.int .i64 0)] (.t 119) (.t 121)) [6,8,6],oM 15 122 [9,9,0,1,2,3,4,5,6,7,8,9]] true) (.seq (.reg [oN 123 (.bslice 90 4 [(.int .i64 0),(.int .i64 0),(.int .i64 0),(.int .i64 0)] 0 []) [],oA 124 1 6 [],oD 125 1 124 [1],oM 126 13 [],oN 127 (.ixsl 1 (.t 125) (.t 126)) [2,3],oD 128 1 127 [4],oN 129 (.app 90 4 32 [(.int .i64 0),(.int .i64 0),(.int .i64 0),(.int .i64 0)] (.t 123) (.t 128)) [0,5],oN 130 (.ld true 4 (.t 14)) [],oN 131 (.call 48 [(.t 130)]) [7,6],oN 132 (.bslice 90 4 [(.int .i64 0),(.int .i64 0),(.int .i64 0),(.int .i64 0)] 1 [(0,(.t 131))]) [8],oN 133 (.app 90 4 32 [(.int .i64 0),(.int .i64 0),(.int .i64 0),(.int .i64 0)] (.t 129) (.t 132)) [6,9,8],oM 16 133 [10,10,0,1,2,3,4,5,6,7,8,9,10]] true) (.seq (.reg [oM 134 15 [],oN 135 (.call 49 [(.t 134)]) [0],oM 136 135 [1,1],pM 137 16 136 true [2],oG 138 (.call 49 [(.t 137)]) 136 true [3,2,2],oN 139 (.pick (.t 136) (.t 138) (.c (.bool false))) [2,4]] false) (.cond (.t 139) (.seq (.reg [oA 140 1 6 [],oD 141 1 140 [0],oM 142 13 [],oM 143 15 [],oN 144 (.ixsl 1 (.t 141) (.t 142)) [1,2,0,1,2,3],⟨none,(.st 1 (.t 144) (.t 143)),none,[4,3,0,1,2,3]⟩] false) (.reg [oA 145 1 6 [],oD 146 1 145 [0],oM 147 16 [],oN 148 (.bslice 85 1 [.nils] 1 [(0,(.t 147))]) [2],oN 149 (.app 85 1 24 [.nils] (.t 146) (.t 148)) [1,3],oA 150 1 6 [0,1,2,3,4],⟨none,(.st 1 (.t 150) (.t 149)),none,[5,4,4,0,1,2,3,4]⟩] false)) .skip)))))) .skip)) (.seq (.reg [oN 151 (.ixarr 2 1 (.t 3) (.c (.int .i64 1))) [],oD 152 1 151 [0],oN 153 (.build [.nils,(.int .i64 0)] [(0,(1,(.t 152)))]) [1],oN 154 (.box 83 2 (.t 153)) [2],oM 17 154 [3,0,1,2,3]] false) (.seq (.seq (.reg [oN 18 (.mv (.c (.int .i64 0))) []] false) (.block 4 (.loop (.seq (.seq (.reg [oM 155 18 [],oA 156 1 6 [],oD 157 1 156 [1],oN 158 (.len (.t 157)) [2],oN 159 (.bin .lss (.t 155) (.t 158)) [0,3]] false) (.cond (.t 159) .skip (.exit 4))) (.seq (.block 5 (.reg [oA 162 2 6 [],oD 163 1 162 [0],oN 164 (.bslice 3 1 [(.int .i64 0)] 4 [(0,(.c (.int .i64 2))),(1,(.c (.int .i64 1))),(2,(.c (.int .i64 3))),(3,(.c (.int .i64 2)))]) [],oM 165 17 [],oN 166 (.call 46 [(.t 165),(.c (.int .i64 4))]) [3],oN 167 (.ixsl 1 (.t 164) (.t 166)) [2,4],oD 168 1 167 [5],oN 169 (.bslice 3 1 [(.int .i64 0)] 1 [(0,(.t 168))]) [6],oN 170 (.app 3 1 8 [(.int .i64 0)] (.t 163) (.t 169)) [1,7,4],oA 171 2 6 [0,1,2,3,4,5,6,7,8],⟨none,(.st 1 (.t 171) (.t 170)),none,[9,8,8,0,1,2,3,4,5,6,7,8]⟩] true)) (.reg [oM 160 18 [],oN 161 (.bin .add (.t 160) (.c (.int .i64 1))) [0],oM 18 161 [1,0,1]] false)))))) (.seq (.reg [oN 172 (.ld true 3 (.t 6)) [],⟨none,(.st 3 (.t 2) (.t 172)),none,[0,0]⟩] false) .ret))))))))))))))
theorem mcOkv9:okM Tryz.prog Tryz.f9 173=some mcv9:=by kernel_rfl
set_option maxHeartbeats 4000000 in
theorem vc9 (L E:List Int) (hL:L.length<=4611686018427387904) (hE:E.length<=4611686018427387904):FC Tryz.prog 9 [.rs 1 [[ints L],[ints E]]] [] (.agg (cPa (partS L E))) [] true:=by
 have v0:=Qu L 0 3 (by decide)
 have v2:=Qu L (pA2 L) 3 (by decide)
 have v3:=Qu L (pA3 L) 3 (by decide)
 have v6:=Qu L (pA6 L) 4 (by decide)
 have hmb:=pMany_bd L
 have hhb:=pH_bd L
 have hcl:=pC_len L
 have hen:=pEnd_n L
 have hkk:=pK_lt L
 have hpb:=pP_b L
 have hcc:=(pCells_ok L).2
 refine Qj (nt:=173) Tryz.func9 rfl rfl mcOkv9 (nL rfl) ?_
 delta mcv9
 refine gA 14 rfl ?_
 refine Qr (α:=Nat) (fun k=>2-k) (fun k=>[(0,.rs 1 [[ints L],[ints E]]),(2,.ptr 2 0 0),(3,.ptr 3 0 0),(4,iv (((k):Nat):Int))]) (fun k=>[(2,.cells 31 3 [[.str (Qm []),.nils,.nils]] true),(3,.cells 23 2 [pkS L E (k)] true)]) (fun k=>k<=2) 0 (by omega)
  (Qa (Qb rfl rfl) (.keep (rfl) rfl (.keep (rfl) rfl (.nil))) (fun i h=>by cases h)) ?_
 intro k hk
 refine gT 5 rfl (rs_len_r (n:=2) rfl rfl rfl (gR 0 rfl (Q9 rfl rfl rfl rfl (fun h22=>?_) (fun h22=>?_))))
 ·skip
  refine gR 2 rfl (Js rfl rfl rfl rfl (by omega) (gR 7 rfl ?_))
  obtain rfl | rfl:k=0\/k=1:=by omega
  ·skip
   refine gI 3 rfl (rs_ix_r rfl rfl rfl (by decide) (by show _<((2:Nat):Int); decide) rfl (gR 1 rfl (Q0 rfl rfl rfl (by decide) (by decide) (gR 4 rfl (Qg rfl rfl rfl (by omega) (gR 2 rfl ?_))))))
   exact Q8 <| ⟨0+1,by omega,by omega,Qa (Qb rfl rfl) (.keep (rfl) rfl (.keep (rfl) rfl (.nil))) (fun i h=>by cases h)⟩
  ·skip
   refine gI 3 rfl (rs_ix_r rfl rfl rfl (by decide) (by show _<((2:Nat):Int); decide) rfl (gR 1 rfl (Q0 rfl rfl rfl (by decide) (by decide) (gR 4 rfl (Qg rfl rfl rfl (by omega) (gR 2 rfl ?_))))))
   exact Q8 <| ⟨1+1,by omega,by omega,Qa (Qb rfl rfl) (.keep (rfl) rfl (.keep (rfl) rfl (.nil))) (fun i h=>by cases h)⟩
 ·skip
  refine gR 8 rfl ?_
  obtain rfl:k=2:=by omega
  refine gI 1 rfl (Q0 rfl rfl rfl (by decide) (by decide) (gR 14 rfl (Q1 [(38,QN 83 L (0))] rfl rfl (fc35 38 83 L (0) 3 (by omega) hL) (.cons (Qd rfl) (.cons (Qd rfl) (.nil))) (.cons rfl (.nil)) rfl rfl rfl (gR 0 rfl (Qg rfl rfl rfl (by omega) (gR 2 rfl (aw_cutw (F0:=[(2,.ptr 2 0 0),(3,.ptr 3 0 0),(5,.ptr 38 0 0),(6,.ptr 6 0 0),(7,iv (JF L)),(8,.bool (Ub L))]) (H0:=[(2,.cells 31 3 [[.str (Qm []),.nils,.nils]] true),(3,.cells 23 2 [pkS L E (2)] true),(38,QN 83 L (pA2 L)),(6,.cells 31 3 [[.str (Qm [112]),.nils,.nils]] true)]) ?_ ?_)))))))
  ·skip
   refine gA 2 rfl (Q1 [(38,QN 83 L (pA1 L))] rfl rfl (fc35 38 83 L (pA1 L) 3 (by omega) hL) (.cons (Qd rfl) (.cons (Qd rfl) (.nil))) (.cons rfl (.nil)) rfl rfl rfl (gR 0 rfl (Q9 rfl rfl rfl rfl (fun h45=>?_) (fun h45=>?_))))
   ·skip
    refine gR 2 rfl (Q9 rfl rfl rfl rfl (fun h48=>?_) (fun h48=>?_))
    ·skip
     refine gR 3 rfl ?_
     exact Qk <| ⟨rfl,Qa (.cs (.cs (.cs (.cs (.cs (.cons rfl (Ua (congrArg AV.bool (by show _=(decide (QM L (pA1 L) 3=2)&&decide (2+QM L 0 3<4)); rw [decide_eq_true h45,decide_eq_true h48]; rfl)) rfl) (.nil))))))) (.keep (rfl) rfl (.keep (rfl) rfl (.keep (rfl) rfl (.keep (rfl) rfl (.nil))))) (fun i h=>by cases h)⟩
    ·skip
     refine gR 3 rfl ?_
     exact Qk <| ⟨rfl,Qa (.cs (.cs (.cs (.cs (.cs (.cons rfl (Ua (congrArg AV.bool (by show _=(decide (QM L (pA1 L) 3=2)&&decide (2+QM L 0 3<4)); rw [decide_eq_true h45,decide_eq_false h48]; rfl)) rfl) (.nil))))))) (.keep (rfl) rfl (.keep (rfl) rfl (.keep (rfl) rfl (.keep (rfl) rfl (.nil))))) (fun i h=>by cases h)⟩
   ·skip
    refine gR 6 rfl ?_
    exact Qk <| ⟨rfl,Qa (.cs (.cs (.cs (.cs (.cs (.cons rfl (Ua (congrArg AV.bool (by show _=(decide (QM L (pA1 L) 3=2)&&decide (2+QM L 0 3<4)); rw [decide_eq_false h45]; rfl)) rfl) (.nil))))))) (.keep (rfl) rfl (.keep (rfl) rfl (.keep (rfl) rfl (.keep (rfl) rfl (.nil))))) (fun i h=>by cases h)⟩
  ·skip
   refine gK 3 rfl (Q1 [(38,QN 83 L (pA2 L))] rfl rfl (fc35 38 83 L (pA2 L) 3 (by omega) hL) (.cons (Qd rfl) (.cons (Qd rfl) (.nil))) (.cons rfl (.nil)) rfl rfl rfl (gR 0 rfl (Qg rfl rfl rfl (by omega) (gR 5 rfl (Q1 [(38,QN 83 L (pA3 L))] rfl rfl (fc35 38 83 L (pA3 L) 3 (by omega) hL) (.cons (Qd rfl) (.cons (Qd rfl) (.nil))) (.cons rfl (.nil)) rfl rfl rfl (gR 0 rfl (Qg rfl rfl rfl (by omega) (gR 8 rfl (QE (F0:=[(2,.ptr 2 0 0),(3,.ptr 3 0 0),(5,.ptr 38 0 0),(6,.ptr 6 0 0),(7,iv (JF L)),(8,.bool (Ub L)),(9,iv (pSt L (0)).x),(10,iv (pH L)),(11,iv (((0):Nat):Int))]) (H0:=[(2,.cells 31 3 [[.str (Qm []),.nils,.nils]] true),(3,.cells 23 2 [pkS L E (2)] true),(38,QN 83 L ((pSt L (0)).a)),(6,.cells 31 3 [[.str (Qm [112]),.sl 905 0 ((pSt L (0)).cells.length),.nils]] false),(905,.cells 85 1 (((pSt L (0)).cells).map cR) true)]) (Weak.trans (F1:=[(2,.ptr 2 0 0),(3,.ptr 3 0 0),(5,.ptr 38 0 0),(6,.ptr 6 0 0),(7,iv (JF L)),(8,.bool (Ub L)),(9,iv (pSt L (0)).x),(10,iv (pH L)),(11,iv (((0):Nat):Int))]) (H1:=[(2,.cells 31 3 [[.str (Qm []),.nils,.nils]] true),(3,.cells 23 2 [pkS L E (2)] true),(38,QN 83 L (pA4 L)),(6,.cells 31 3 [[.str (Qm [112]),.nils,.nils]] true)]) (Qa (Qb rfl rfl) (.keep (rfl) rfl (.keep (rfl) rfl (.keep (rfl) rfl (.keep (rfl) rfl (.nil))))) fun i h=>by cases h) (Weak.trans (F1:=[(2,.ptr 2 0 0),(3,.ptr 3 0 0),(5,.ptr 38 0 0),(6,.ptr 6 0 0),(7,iv (JF L)),(8,.bool (Ub L)),(9,iv (pSt L (0)).x),(10,iv (pH L)),(11,iv (((0):Nat):Int))]) (Jx (i:=905) (k:=6) (e2:=85) (z2:=1) (fl2:=true) rfl rfl (.next .here)) (Qa (Qb rfl rfl) (.keep (rfl) rfl (.keep (rfl) rfl (.keep (rfl) rfl (.keep (rfl) rfl (.keep (rfl) rfl (.nil)))))) fun i h=>by cases h))) ?_)))))))))
   refine Qr (α:=Nat) (fun k=>(JF L).toNat-k) (fun k=>[(2,.ptr 2 0 0),(3,.ptr 3 0 0),(5,.ptr 38 0 0),(6,.ptr 6 0 0),(7,iv (JF L)),(8,.bool (Ub L)),(9,iv (pSt L (k)).x),(10,iv (pH L)),(11,iv (((k):Nat):Int))]) (fun k=>[(2,.cells 31 3 [[.str (Qm []),.nils,.nils]] true),(3,.cells 23 2 [pkS L E (2)] true),(38,QN 83 L ((pSt L (k)).a)),(6,.cells 31 3 [[.str (Qm [112]),.sl 905 0 ((pSt L (k)).cells.length),.nils]] false),(905,.cells 85 1 (((pSt L (k)).cells).map cR) true)]) (fun k=>k<=(JF L).toNat) 0 (by omega)
    (Qa (Qb rfl rfl) (.keep (rfl) rfl (.keep (rfl) rfl (.keep (rfl) rfl (.keep (rfl) rfl (.keep (rfl) rfl (.nil)))))) (fun i h=>by cases h)) ?_
   intro k hk
   refine gT 7 rfl (Qe rfl (fun h58=>?_) (fun h58=>?_))
   ·replace h58:=of_decide_eq_true h58
    refine gK 5 rfl ?_
    have hI:=pSt_ok L k (by omega)
    have hIx:=hI.x
    have hIl:=pst_len hI (by omega)
    have hw:=Qu L (pSt L k).a 4 (by decide)
    have hwp:pW L (pSt L k)=1+QM L (pSt L k).a 4:=rfl
    refine gI 1 rfl (Q1 [(38,QN 83 L ((pSt L k).a))] rfl rfl (fc35 38 83 L ((pSt L k).a) 4 (by omega) hL) (.cons (Qd rfl) (.cons (Qd rfl) (.nil))) (.cons rfl (.nil)) rfl rfl rfl (gR 0 rfl (Qg rfl rfl rfl (by omega) (gR 10 rfl (Qg rfl rfl rfl (by omega) (gR 2 rfl (cN rfl rfl (vc47 ⟨(pSt L k).x,0,0⟩ ⟨(pSt L k).x+pW L (pSt L k),3,pH L⟩ ⟨by dsimp only; omega,by dsimp only; omega,by dsimp only; omega⟩) (gR 0 rfl (Qi (l:=(([pB1 L (pSt L k)]:List (List Pl))).flatMap cR) (els:=(([pB1 L (pSt L k)]:List (List Pl))).map cR) (fl:=true) rfl (by kernel_rfl) rfl rfl (by kernel_rfl) (by kernel_rfl) (gR 0 rfl (QB (f:=cR) (xs:=(pSt L k).cells) (y:=pB1 L (pSt L k)) (fl':=true) rfl rfl rfl rfl (rfl) rfl rfl rfl (by decide) rfl (by omega) (by omega) rfl ?_)))))))))))
    refine gR 2 rfl (QJ (by kernel_rfl) (gP 4 rfl ?_))
    cases h77:Ub L
    ·skip
     refine gI 6 rfl (Qg rfl rfl rfl (by omega) (gR 4 rfl (Qg rfl rfl rfl (by omega) (gR 2 rfl ?_))))
     exact Q8 <| ⟨k+1,by omega,by omega,by rw [pst_f h77]; simp only [List.length_append,List.length_singleton]; exact show Weak _ _ _ _ [(2,.ptr 2 0 0),(3,.ptr 3 0 0),(5,.ptr 38 0 0),(6,.ptr 6 0 0),(7,iv (JF L)),(8,.bool false),(9,iv ((pSt L k).x+pW L (pSt L k))),(10,iv (pH L)),(11,iv (((k+1):Nat):Int))] [(2,.cells 31 3 [[.str (Qm []),.nils,.nils]] true),(3,.cells 23 2 [pkS L E (2)] true),(38,QN 83 L (XT L (pSt L k).a)),(6,.cells 31 3 [[.str (Qm [112]),.sl 905 0 ((pSt L k).cells.length+1),.nils]] false),(905,.cells 85 1 (((pSt L k).cells++[pB1 L (pSt L k)]).map cR) true)] from Weak.trans (F1:=[(2,.ptr 2 0 0),(3,.ptr 3 0 0),(5,.ptr 38 0 0),(6,.ptr 6 0 0),(7,iv (JF L)),(8,.bool false),(9,iv ((pSt L k).x+pW L (pSt L k))),(10,iv (pH L)),(11,iv (((k+1):Nat):Int))]) (H1:=[(2,.cells 31 3 [[.str (Qm []),.nils,.nils]] true),(3,.cells 23 2 [pkS L E (2)] true),(38,QN 83 L (XT L (pSt L k).a)),(6,.cells 31 3 [[.str (Qm [112]),.sl 75 0 ((pSt L k).cells.length+1),.nils]] false),(75,.cells 85 1 (((pSt L k).cells++[pB1 L (pSt L k)]).map cR) true)]) (Qa (Qb rfl rfl) (.keep (rfl) rfl (.keep (rfl) rfl (.keep (rfl) rfl (.keep (rfl) rfl (.keep (rfl) rfl (.nil)))))) fun i h=>by cases h) (Weak.trans (F1:=[(2,.ptr 2 0 0),(3,.ptr 3 0 0),(5,.ptr 38 0 0),(6,.ptr 6 0 0),(7,iv (JF L)),(8,.bool false),(9,iv ((pSt L k).x+pW L (pSt L k))),(10,iv (pH L)),(11,iv (((k+1):Nat):Int))]) (XJ (i:=75) (i':=905) (k:=6) rfl rfl (.cons rfl (.same _) (.cons rfl (.same _) (.cons rfl (.same _) (.cons rfl (.same _) (.cons rfl (.same _) (.cons rfl (.same _) (.cons rfl (.same _) (.cons rfl (.same _) (.cons rfl (.same _) (.nil)))))))))) (by decide) rfl (.cons (.same _) (.cons (.sl _ _) (RenL.refl _ _ _)))) (Qa (Qb rfl rfl) (.keep (rfl) rfl (.keep (rfl) rfl (.keep (rfl) rfl (.keep (rfl) rfl (.keep (rfl) rfl (.nil)))))) fun i h=>by cases h))⟩
    ·skip
     refine gI 9 rfl (Qg rfl rfl rfl (by omega) (gR 2 rfl (cN rfl rfl (vc47 ⟨(pSt L k).x,3,0⟩ ⟨(pSt L k).x+pW L (pSt L k),6,pH L⟩ ⟨by dsimp only; omega,by dsimp only; omega,by dsimp only; omega⟩) (gR 0 rfl (Qi (l:=(([pB2 L (pSt L k)]:List (List Pl))).flatMap cR) (els:=(([pB2 L (pSt L k)]:List (List Pl))).map cR) (fl:=true) rfl (by kernel_rfl) rfl rfl (by kernel_rfl) (by kernel_rfl) (gR 0 rfl (QB (f:=cR) (xs:=(pSt L k).cells++[pB1 L (pSt L k)]) (y:=pB2 L (pSt L k)) (fl':=true) rfl rfl rfl rfl (by simp) rfl rfl rfl (by decide) rfl (by omega) (by omega) rfl (gR 2 rfl (QJ (by kernel_rfl) (gP 3 rfl (Qg rfl rfl rfl (by omega) ?_)))))))))))
     refine gR 4 rfl (Qg rfl rfl rfl (by omega) (gR 2 rfl ?_))
     exact Q8 <| ⟨k+1,by omega,by omega,by rw [pst_t h77]; simp only [List.length_append,List.length_singleton]; exact show Weak _ _ _ _ [(2,.ptr 2 0 0),(3,.ptr 3 0 0),(5,.ptr 38 0 0),(6,.ptr 6 0 0),(7,iv (JF L)),(8,.bool true),(9,iv ((pSt L k).x+pW L (pSt L k))),(10,iv (pH L)),(11,iv (((k+1):Nat):Int))] [(2,.cells 31 3 [[.str (Qm []),.nils,.nils]] true),(3,.cells 23 2 [pkS L E (2)] true),(38,QN 83 L (XT L (pSt L k).a)),(6,.cells 31 3 [[.str (Qm [112]),.sl 905 0 ((pSt L k).cells.length+1+1),.nils]] false),(905,.cells 85 1 (((pSt L k).cells++[pB1 L (pSt L k)]++[pB2 L (pSt L k)]).map cR) true)] from Weak.trans (F1:=[(2,.ptr 2 0 0),(3,.ptr 3 0 0),(5,.ptr 38 0 0),(6,.ptr 6 0 0),(7,iv (JF L)),(8,.bool true),(9,iv ((pSt L k).x+pW L (pSt L k))),(10,iv (pH L)),(11,iv (((k+1):Nat):Int))]) (H1:=[(2,.cells 31 3 [[.str (Qm []),.nils,.nils]] true),(3,.cells 23 2 [pkS L E (2)] true),(38,QN 83 L (XT L (pSt L k).a)),(6,.cells 31 3 [[.str (Qm [112]),.sl 89 0 ((pSt L k).cells.length+1+1),.nils]] false),(89,.cells 85 1 (((pSt L k).cells++[pB1 L (pSt L k)]++[pB2 L (pSt L k)]).map cR) true)]) (Qa (Qb rfl rfl) (.keep (rfl) rfl (.keep (rfl) rfl (.keep (rfl) rfl (.keep (rfl) rfl (.keep (rfl) rfl (.nil)))))) fun i h=>by cases h) (Weak.trans (F1:=[(2,.ptr 2 0 0),(3,.ptr 3 0 0),(5,.ptr 38 0 0),(6,.ptr 6 0 0),(7,iv (JF L)),(8,.bool true),(9,iv ((pSt L k).x+pW L (pSt L k))),(10,iv (pH L)),(11,iv (((k+1):Nat):Int))]) (XJ (i:=89) (i':=905) (k:=6) rfl rfl (.cons rfl (.same _) (.cons rfl (.same _) (.cons rfl (.same _) (.cons rfl (.same _) (.cons rfl (.same _) (.cons rfl (.same _) (.cons rfl (.same _) (.cons rfl (.same _) (.cons rfl (.same _) (.nil)))))))))) (by decide) rfl (.cons (.same _) (.cons (.sl _ _) (RenL.refl _ _ _)))) (Qa (Qb rfl rfl) (.keep (rfl) rfl (.keep (rfl) rfl (.keep (rfl) rfl (.keep (rfl) rfl (.keep (rfl) rfl (.nil)))))) fun i h=>by cases h))⟩
   ·replace h58:=of_decide_eq_false h58
    refine gK 1 rfl (aw_cutw (F0:=[(2,.ptr 2 0 0),(3,.ptr 3 0 0),(6,.ptr 6 0 0)]) (H0:=[(2,.cells 31 3 [[.str (Qm []),.nils,.nils]] true),(3,.cells 23 2 [pkS L E (2)] true),(6,.cells 31 3 [[.str (Qm [112]),.sl 905 0 ((Xy L).length),.nils]] false),(905,.cells 85 1 ((Xy L).map cR) true)]) ?_ ?_)
    ·skip
     refine gA 1 rfl ?_
     obtain rfl:k=(JF L).toNat:=by omega
     refine gI 2 rfl (Q1 [(38,QN 83 L ((J7 L).a))] rfl rfl (fc35 38 83 L ((J7 L).a) 4 (by omega) hL) (.cons (Qd rfl) (.cons (Qd rfl) (.nil))) (.cons rfl (.nil)) rfl rfl rfl (gR 0 rfl (Q9 rfl rfl rfl rfl (fun h96=>?_) (fun h96=>?_))))
     ·skip
      refine gR 3 rfl (Xi rfl rfl (gR 0 rfl (Q9 rfl rfl rfl rfl (fun h101=>?_) (fun h101=>?_))))
      ·skip
       refine gR 8 rfl (Xi rfl rfl (gR 0 rfl (Q1 [(38,QN 83 L (pA5 L))] rfl rfl (fc35 38 83 L (pA5 L) ((J7 L).cells.length:Int) (by omega) hL) (.cons (Qd rfl) (.cons (Qd rfl) (.nil))) (.cons rfl (.nil)) rfl rfl rfl (gR 6 rfl (Q1 [(38,QN 83 L (pA6 L))] rfl rfl (fc35 38 83 L (pA6 L) 4 (by omega) hL) (.cons (Qd rfl) (.cons (Qd rfl) (.nil))) (.cons rfl (.nil)) rfl rfl rfl (gR 0 rfl (Qg rfl rfl rfl (by omega) (gR 6 rfl (Qi (l:=[]) (els:=[]) (fl:=true) rfl (by kernel_rfl) rfl rfl rfl rfl (gR 3 rfl (Xf rfl rfl rfl rfl hkk.1.1 hkk.1.2 ?_)))))))))))
       refine gR 0 rfl (rs_ld_g (f:=cR) (xs:=(J7 L).cells) (y:=pC L) rfl rfl rfl (pC_at L) rfl (gR 0 rfl (JZ (f:=cPl) (ys:=(pC L)) (n:=(pC L).length) (rd:=[]) rfl rfl rfl rfl rfl rfl rfl (by simp) (fun _=>rfl) rfl (by omega) (by omega) (fun _=>rfl) (gR 1 rfl (Qi (l:=(([pP L]:List Pl)).flatMap cPl) (els:=(([pP L]:List Pl)).map cPl) (fl:=true) rfl (by kernel_rfl) rfl rfl (by kernel_rfl) (by kernel_rfl) (gR 0 rfl (QB (f:=cPl) (xs:=pC L) (y:=pP L) (fl':=true) rfl rfl rfl rfl (rfl) rfl rfl rfl (by decide) rfl (by omega) (by omega) rfl (gR 1 rfl (QJ (by kernel_rfl) (gP 2 rfl (Qi (l:=[]) (els:=[]) (fl:=true) rfl (by kernel_rfl) rfl rfl rfl rfl ?_)))))))))))
       refine gR 3 rfl (Xf rfl rfl rfl rfl hkk.1.1 hkk.1.2 (gR 0 rfl (rs_ld_g (f:=cR) (xs:=(J7 L).cells) (y:=pC L) rfl rfl rfl (pC_at L) rfl (gR 0 rfl (JZ (f:=cPl) (ys:=(pC L)) (n:=(pC L).length) (rd:=[]) rfl rfl rfl rfl rfl rfl rfl (by simp) (fun _=>rfl) rfl (by omega) (by omega) (fun _=>rfl) (gR 1 rfl (cN rfl rfl (vc48 (pP L) (by omega)) (gR 0 rfl (Qi (l:=(([X1 (pP L)]:List Pl)).flatMap cPl) (els:=(([X1 (pP L)]:List Pl)).map cPl) (fl:=true) rfl (by kernel_rfl) rfl rfl (by kernel_rfl) (by kernel_rfl) (gR 0 rfl (QB (f:=cPl) (xs:=pC L) (y:=X1 (pP L)) (fl':=true) rfl rfl rfl rfl (rfl) rfl rfl rfl (by decide) rfl (by omega) (by omega) rfl ?_)))))))))))
       refine gR 1 rfl (QJ (by kernel_rfl) (gP 1 rfl (QE (F0:=[(2,.ptr 2 0 0),(3,.ptr 3 0 0),(6,.ptr 6 0 0),(13,iv (QM L (pA5 L) ((J7 L).cells.length:Int))),(15,.rs 4 ((pC L++[pP L]).map cPl)),(16,.rs 4 ((pC L++[X1 (pP L)]).map cPl))]) (H0:=[(2,.cells 31 3 [[.str (Qm []),.nils,.nils]] true),(3,.cells 23 2 [pkS L E (2)] true),(6,.cells 31 3 [[.str (Qm [112]),.sl 905 0 (((J7 L).cells).length),.nils]] false),(905,.cells 85 1 (((J7 L).cells).map cR) true)]) (Qa (.cs (.cs (.cs (.cs (.cons rfl (Xr rfl rfl (by simp) (fun _=>rfl)) (.cons rfl (Xr rfl rfl (by simp) (fun _=>rfl)) (.nil))))))) (.keep (rfl) rfl (.keep (rfl) rfl (.keep (rfl) rfl (.keep (rfl) rfl (.nil))))) (fun i h=>by cases h)) (gK 2 rfl (cN rfl rfl (vc49 (pC L++[pP L]) (by simp; omega)) ?_)))))
       cases h135:QX (pC L++[pP L])
       ·skip
        refine gR 7 rfl ?_
        exact Qk <| ⟨rfl,by rw [show Xy L=(J7 L).cells from if_neg (fun h=>absurd h.2 (by rw [show pDo L=false from by unfold pDo; rw [h135]; rfl]; decide))]; exact Qa (Qb rfl rfl) (.keep (rfl) rfl (.keep (rfl) rfl (.keep (rfl) rfl (.keep (rfl) rfl (.nil))))) (fun i h=>by cases h)⟩
       ·skip
        refine gR 2 rfl (cN rfl rfl (vc49 (pC L++[X1 (pP L)]) (by simp; omega)) ?_)
        cases h138:QX (pC L++[X1 (pP L)])
        ·skip
         refine gR 4 rfl ?_
         exact Qk <| ⟨rfl,by rw [show Xy L=(J7 L).cells from if_neg (fun h=>absurd h.2 (by rw [show pDo L=false from by unfold pDo; rw [h135,h138]; rfl]; decide))]; exact Qa (Qb rfl rfl) (.keep (rfl) rfl (.keep (rfl) rfl (.keep (rfl) rfl (.keep (rfl) rfl (.nil))))) (fun i h=>by cases h)⟩
        ·skip
         refine gR 9 rfl (Xf rfl rfl rfl rfl hkk.1.1 hkk.1.2 (gR 0 rfl (rs_st_m (f:=cR) (xs:=(J7 L).cells) (t:=pK L) (v:=(pC L++[pP L])) (fl':=true) rfl rfl rfl rfl hkk.2 rfl rfl (nL rfl) rfl rfl (gR 5 rfl (Qi (l:=(([(pC L++[X1 (pP L)])]:List (List Pl))).flatMap cR) (els:=(([(pC L++[X1 (pP L)])]:List (List Pl))).map cR) (fl:=true) rfl (by kernel_rfl) rfl rfl (by kernel_rfl) (by kernel_rfl) (gR 0 rfl (QB (f:=cR) (xs:=(J7 L).cells.set (pK L) (pC L++[pP L])) (y:=(pC L++[X1 (pP L)])) (fl':=true) rfl rfl rfl rfl (by simp) rfl rfl rfl (by decide) rfl (by omega) (by omega) rfl (gR 3 rfl ?_))))))))
         exact Qk <| ⟨rfl,by rw [show Xy L=(J7 L).cells.set (pK L) (pC L++[pP L])++[(pC L++[X1 (pP L)])] from if_pos ⟨by unfold pCan; rw [decide_eq_true h96,decide_eq_true (show ((J7 L).cells.length:Int)<6 from h101)]; rfl,by unfold pDo; rw [h135,h138]; rfl⟩]; simp only [List.length_append,List.length_singleton,List.length_set]; exact show Weak _ _ _ _ [(2,.ptr 2 0 0),(3,.ptr 3 0 0),(6,.ptr 6 0 0)] [(2,.cells 31 3 [[.str (Qm []),.nils,.nils]] true),(3,.cells 23 2 [pkS L E (2)] true),(6,.cells 31 3 [[.str (Qm [112]),.sl 905 0 ((J7 L).cells.length+1),.nils]] false),(905,.cells 85 1 (((J7 L).cells.set (pK L) (pC L++[pP L])++[(pC L++[X1 (pP L)])]).map cR) true)] from Weak.trans (F1:=[(2,.ptr 2 0 0),(3,.ptr 3 0 0),(6,.ptr 6 0 0)]) (H1:=[(2,.cells 31 3 [[.str (Qm []),.nils,.nils]] true),(3,.cells 23 2 [pkS L E (2)] true),(6,.cells 31 3 [[.str (Qm [112]),.sl 149 0 ((J7 L).cells.length+1),.nils]] false),(149,.cells 85 1 (((J7 L).cells.set (pK L) (pC L++[pP L])++[(pC L++[X1 (pP L)])]).map cR) true)]) (Qa (Qb rfl rfl) (.keep (rfl) rfl (.keep (rfl) rfl (.keep (rfl) rfl (.keep (rfl) rfl (.nil))))) fun i h=>by cases h) (Weak.trans (F1:=[(2,.ptr 2 0 0),(3,.ptr 3 0 0),(6,.ptr 6 0 0)]) (XJ (i:=149) (i':=905) (k:=6) rfl rfl (.cons rfl (.same _) (.cons rfl (.same _) (.cons rfl (.same _) (.nil)))) (by decide) rfl (.cons (.same _) (.cons (.sl _ _) (RenL.refl _ _ _)))) (Qa (Qb rfl rfl) (.keep (rfl) rfl (.keep (rfl) rfl (.keep (rfl) rfl (.keep (rfl) rfl (.nil))))) fun i h=>by cases h))⟩
      ·skip
       refine gR 4 rfl ?_
       exact Qk <| ⟨rfl,by rw [show Xy L=(J7 L).cells from if_neg (fun h=>absurd h.1 (by rw [show pCan L=false from by unfold pCan; rw [decide_eq_true h96,decide_eq_false (show ¬ ((J7 L).cells.length:Int)<6 from h101)]; rfl]; decide))]; exact Qa (Qb rfl rfl) (.keep (rfl) rfl (.keep (rfl) rfl (.keep (rfl) rfl (.keep (rfl) rfl (.nil))))) (fun i h=>by cases h)⟩
     ·skip
      refine gR 9 rfl ?_
      exact Qk <| ⟨rfl,by rw [show Xy L=(J7 L).cells from if_neg (fun h=>absurd h.1 (by rw [show pCan L=false from by unfold pCan; rw [decide_eq_false h96]; rfl]; decide))]; exact Qa (Qb rfl rfl) (.keep (rfl) rfl (.keep (rfl) rfl (.keep (rfl) rfl (.keep (rfl) rfl (.nil))))) (fun i h=>by cases h)⟩
    ·skip
     refine gK 2 rfl (Q0 rfl rfl rfl (by decide) (by decide) (gR 11 rfl (QE (F0:=[(2,.ptr 2 0 0),(6,.ptr 6 0 0),(17,.ptr 154 0 0),(18,iv (((0):Nat):Int))]) (H0:=[(2,.cells 31 3 [[.str (Qm []),.nils,.nils]] true),(6,.cells 31 3 [[.str (Qm [112]),.sl 905 0 ((Xy L).length),.sl 906 0 (0)]] false),(905,.cells 85 1 ((Xy L).map cR) true),(906,.cells 3 1 (((wSt E (0)).1).map civ) true),(154,QN 83 E ((wSt E (0)).2))]) (Weak.trans (F1:=[(2,.ptr 2 0 0),(6,.ptr 6 0 0),(17,.ptr 154 0 0),(18,iv (((0):Nat):Int))]) (H1:=[(2,.cells 31 3 [[.str (Qm []),.nils,.nils]] true),(6,.cells 31 3 [[.str (Qm [112]),.sl 905 0 ((Xy L).length),.nils]] false),(905,.cells 85 1 ((Xy L).map cR) true),(154,QN 83 E (0))]) (Qa (Qb rfl rfl) (.keep (rfl) rfl (.keep (rfl) rfl (.keep (rfl) rfl (.keep (rfl) rfl (.nil))))) fun i h=>by cases h) (Weak.trans (F1:=[(2,.ptr 2 0 0),(6,.ptr 6 0 0),(17,.ptr 154 0 0),(18,iv (((0):Nat):Int))]) (Jx (i:=906) (k:=6) (e2:=3) (z2:=1) (fl2:=true) rfl rfl (.next (.next .here))) (Qa (Qb rfl rfl) (.keep (rfl) rfl (.keep (rfl) rfl (.keep (rfl) rfl (.keep (rfl) rfl (.keep (rfl) rfl (.nil)))))) fun i h=>by cases h))) ?_)))
     refine Qr (α:=Nat) (fun k=>(Xy L).length-k) (fun k=>[(2,.ptr 2 0 0),(6,.ptr 6 0 0),(17,.ptr 154 0 0),(18,iv (((k):Nat):Int))]) (fun k=>[(2,.cells 31 3 [[.str (Qm []),.nils,.nils]] true),(6,.cells 31 3 [[.str (Qm [112]),.sl 905 0 ((Xy L).length),.sl 906 0 (k)]] false),(905,.cells 85 1 ((Xy L).map cR) true),(906,.cells 3 1 (((wSt E (k)).1).map civ) true),(154,QN 83 E ((wSt E (k)).2))]) (fun k=>k<=(Xy L).length) 0 (by omega)
      (Qa (Qb rfl rfl) (.keep (rfl) rfl (.keep (rfl) rfl (.keep (rfl) rfl (.keep (rfl) rfl (.keep (rfl) rfl (.nil)))))) (fun i h=>by cases h)) ?_
     intro k hk
     refine gT 6 rfl (Xi rfl rfl (gR 2 rfl (Qe rfl (fun h159=>?_) (fun h159=>?_))))
     ·replace h159:=of_decide_eq_true h159
      refine gK 4 rfl ?_
      have hwv:=Qu E (wSt E k).2 4 (by decide)
      refine gI 2 rfl (Qi (l:=(([2,1,3,2]:List Int)).flatMap civ) (els:=(([2,1,3,2]:List Int)).map civ) (fl:=true) rfl (by kernel_rfl) rfl rfl (by kernel_rfl) (by kernel_rfl) (gR 1 rfl (Q1 [(154,QN 83 E ((wSt E k).2))] rfl rfl (fc35 154 83 E ((wSt E k).2) 4 (by omega) hE) (.cons (Qd rfl) (.cons (Qd rfl) (.nil))) (.cons rfl (.nil)) rfl rfl rfl (gR 0 rfl (Xf rfl rfl rfl rfl hwv.1 hwv.2 (gR 0 rfl (rs_ld_g (f:=civ) (xs:=([2,1,3,2]:List Int)) (y:=pickW (QM E (wSt E k).2 4)) rfl rfl rfl (pickW_at _ hwv) rfl (gR 0 rfl (Qi (l:=(([pickW (QM E (wSt E k).2 4)]:List Int)).flatMap civ) (els:=(([pickW (QM E (wSt E k).2 4)]:List Int)).map civ) (fl:=true) rfl (by kernel_rfl) rfl rfl (by kernel_rfl) (by kernel_rfl) (gR 0 rfl (QB (f:=civ) (xs:=(wSt E k).1) (y:=pickW (QM E (wSt E k).2 4)) (fl':=true) rfl rfl rfl rfl (wSt_len E k) rfl rfl rfl (by decide) rfl (by omega) (by omega) rfl ?_)))))))))))
      refine gR 2 rfl (QJ (by kernel_rfl) (gP 2 rfl (Qg rfl rfl rfl (by omega) (gR 2 rfl ?_))))
      exact Q8 <| ⟨k+1,by omega,by omega,show Weak _ _ _ _ [(2,.ptr 2 0 0),(6,.ptr 6 0 0),(17,.ptr 154 0 0),(18,iv (((k+1):Nat):Int))] [(2,.cells 31 3 [[.str (Qm []),.nils,.nils]] true),(6,.cells 31 3 [[.str (Qm [112]),.sl 905 0 ((Xy L).length),.sl 906 0 (k+1)]] false),(905,.cells 85 1 ((Xy L).map cR) true),(906,.cells 3 1 (((wSt E (k+1)).1).map civ) true),(154,QN 83 E ((wSt E (k+1)).2))] from Weak.trans (F1:=[(2,.ptr 2 0 0),(6,.ptr 6 0 0),(17,.ptr 154 0 0),(18,iv (((k+1):Nat):Int))]) (H1:=[(2,.cells 31 3 [[.str (Qm []),.nils,.nils]] true),(6,.cells 31 3 [[.str (Qm [112]),.sl 905 0 ((Xy L).length),.sl 170 0 (k+1)]] false),(905,.cells 85 1 ((Xy L).map cR) true),(170,.cells 3 1 (((wSt E (k+1)).1).map civ) true),(154,QN 83 E ((wSt E (k+1)).2))]) (Qa (Qb rfl rfl) (.keep (rfl) rfl (.keep (rfl) rfl (.keep (rfl) rfl (.keep (rfl) rfl (.keep (rfl) rfl (.nil)))))) fun i h=>by cases h) (Weak.trans (F1:=[(2,.ptr 2 0 0),(6,.ptr 6 0 0),(17,.ptr 154 0 0),(18,iv (((k+1):Nat):Int))]) (XJ (i:=170) (i':=906) (k:=6) rfl rfl (.cons rfl (.same _) (.cons rfl (.same _) (.cons rfl (.same _) (.cons rfl (.same _) (.nil))))) (by decide) rfl (.cons (.same _) (.cons (.same _) (.cons (.sl _ _) (RenL.refl _ _ _))))) (Qa (Qb rfl rfl) (.keep (rfl) rfl (.keep (rfl) rfl (.keep (rfl) rfl (.keep (rfl) rfl (.keep (rfl) rfl (.nil)))))) fun i h=>by cases h))⟩
     ·replace h159:=of_decide_eq_false h159
      refine gK 2 rfl ?_
      obtain rfl:k=(Xy L).length:=by omega
      refine gI 5 rfl ?_
      exact Qk <| Qs rfl (rc_agg (.cons (Q3 rfl (.inr rfl)) (.cons (rc_frzA rfl rfl rfl) (.cons (rc_frzA rfl rfl (wSt_len E _)) .nil)))) .nil
end Go.Proofs.YthfhaoogcpfboaaGreat
namespace Go.Proofs.YthfhaoogcpfboaaGreat
open Go.RowKit
set_option maxRecDepth 100000
set_option linter.unusedVariables false
section
variable (p:Pa) (L:List Int)
def cA (k:Nat):Nat:=match k with
 | 0=>0
 | k+1=>XT L (cA k)
def cC:List Pl:=p.cells.getD (QM L (cA L 1) (p.cells.length:Int)).toNat []
def cNz:Int:=1-2*QM L (cA L 2) 2
def cPq:Pl:=⟨⟨0,0,cNz L⟩,W (cNz L*(1+QM L (cA L 3) 2))⟩
def cLo:V3:=⟨QM L (cA L 2) 14-7,QM L (cA L 3) 3-1,QM L (cA L 4) 2-1⟩
def cHi:V3:=⟨(cLo L).x+1+QM L (cA L 5) 6,(cLo L).y+2+QM L (cA L 6) 6,(cLo L).z+2+QM L (cA L 7) 6⟩
def J8:List Pl:=if QM L 0 4=1 then cC p L++[cPq L] else if QM L 0 4=2 then JC (cLo L) (cHi L) else cC p L
theorem cut_1 (h:QM L 0 4=1):J8 p L=cC p L++[cPq L]:=if_pos h
theorem cut_2 (h:QM L 0 4=2):J8 p L=JC (cLo L) (cHi L):=by unfold J8; rw [if_neg (by omega),if_pos h]
theorem cut_3 (h:¬ QM L 0 4=1) (h2:¬ QM L 0 4=2):J8 p L=cC p L:=by unfold J8; rw [if_neg h,if_neg h2]
theorem cC_at (h:1<=p.cells.length):p.cells[(QM L (cA L 1) (p.cells.length:Int)).toNat]?=some (cC p L):=by
 have:=Qu L (cA L 1) (p.cells.length:Int) (by omega)
 unfold cC; rw [List.getD_eq_getElem?_getD,List.getElem?_eq_getElem (by omega)]; rfl
structure CutOK (c:List Pl):Prop where
 len:1<=c.length/\c.length<=8
 val:∀ p∈c,Q5 p=true
theorem cut_ok (h:GoodP p):CutOK (J8 p L):=by
 have hn:=h.n
 have hc:=h.cells.ok _ (JQ (cC_at p L (by omega)))
 have l:=hc.len
 unfold J8
 split
 ·refine ⟨by rw [List.length_append,List.length_singleton]; omega,fun q hq=>?_⟩
  rcases List.mem_append.1 hq with hq | hq
  ·exact hc.val q hq
  ·rw [List.mem_singleton.1 hq]
   have v2:=Qu L (cA L 2) 2 (by decide)
   have v3:=Qu L (cA L 3) 2 (by decide)
   have hz:cNz L=1\/cNz L = -1:=by unfold cNz; omega
   unfold cPq
   rcases hz with hz | hz <;> rw [hz]
   ·rw [Xk (by omega)]; exact val_of (by decide +kernel) (by omega)
   ·rw [Xk (by omega)]; exact val_of (by decide +kernel) (by omega)
 ·split
  ·have v2:=Qu L (cA L 2) 14 (by decide)
   have v3:=Qu L (cA L 3) 3 (by decide)
   have v4:=Qu L (cA L 4) 2 (by decide)
   have v5:=Qu L (cA L 5) 6 (by decide)
   have v6:=Qu L (cA L 6) 6 (by decide)
   have v7:=Qu L (cA L 7) 6 (by decide)
   refine ⟨by show 1<=6/\6<=8; omega,box_valid ?_ ?_⟩
   ·unfold VB cLo; dsimp only; omega
   ·unfold VB cHi cLo; dsimp only; omega
  ·exact ⟨by omega,hc.val⟩
end
abbrev cLi (L:List Int):List AV:=[ints L]
def mcv12:MC:=(.seq (.reg [oN 3 (.box 31 3 (.t 1)) [],oN 4 (.mv (.c .nils)) []] false) (.seq (.reg [oN 5 (.mv (.c .nils)) []] false) (.seq (.seq (.reg [oN 6 (.mv (.c (.int .i64 0))) []] false) (.block 0 (.loop (.seq (.seq (.reg [oM 12 6 [],oM 13 0 [],oN 14 (.len (.t 13)) [1],oN 15 (.bin .lss (.t 12) (.t 14)) [0,2],oM 16 15 [3],pM 17 6 16 true [4],oG 18 (.bin .lss (.t 17) (.c (.int .i64 4))) 16 true [5,4],oN 19 (.pick (.t 16) (.t 18) (.c (.bool false))) [4,6]] false) (.cond (.t 19) .skip (.exit 0))) (.seq (.block 1 (.seq (.reg [oM 22 0 [],oM 23 6 [],oN 24 (.ixsl 1 (.t 22) (.t 23)) [0,1],oD 25 1 24 [2],oN 26 (.build [.nils,(.int .i64 0)] [(0,(1,(.t 25)))]) [3],oN 27 (.box 83 2 (.t 26)) [4],oM 7 27 [5,0,1,2,3,4,5]] false) (.seq (.reg [oM 28 7 [],oN 29 (.call 46 [(.t 28),(.c (.int .i64 4))]) [0],oM 8 29 [1,1,0,1]] false) (.seq (.reg [oN 30 (.bslice 90 4 [(.int .i64 0),(.int .i64 0),(.int .i64 0),(.int .i64 0)] 0 []) [],oA 31 1 3 [],oD 32 1 31 [1],oM 33 7 [],oA 34 1 3 [],oD 35 1 34 [4],oN 36 (.len (.t 35)) [5],oN 37 (.call 46 [(.t 33),(.t 36)]) [3,6],oN 38 (.ixsl 1 (.t 32) (.t 37)) [2,7],oD 39 1 38 [8],oN 40 (.app 90 4 32 [(.int .i64 0),(.int .i64 0),(.int .i64 0),(.int .i64 0)] (.t 30) (.t 39)) [0,9,7],oM 9 40 [10,10,0,1,2,3,4,5,6,7,8,9,10]] true) (.seq (.seq (.reg [oM 41 8 [],oN 42 (.bin .eql (.t 41) (.c (.int .i64 1))) [0]] false) (.cond (.t 42) (.seq (.reg [oM 43 7 [],oN 44 (.call 46 [(.t 43),(.c (.int .i64 2))]) [0],oN 45 (.bin .mul (.c (.int .i64 2)) (.t 44)) [1],oN 46 (.bin .sub (.c (.int .i64 1)) (.t 45)) [2],oN 47 (.build [(.int .i64 0),(.int .i64 0),(.int .i64 0)] [(2,(1,(.t 46)))]) [3],oN 10 (.alloc 88 3 [(.int .i64 0),(.int .i64 0),(.int .i64 0)]) [],⟨none,(.st 3 (.t 10) (.t 47)),none,[5,4,1,0,1,2,3,4,5]⟩] false) (.reg [oM 48 9 [],oN 49 (.ld true 3 (.t 10)) [],oA 50 2 10 [],oD 51 1 50 [2],oM 52 7 [],oN 53 (.call 46 [(.t 52),(.c (.int .i64 2))]) [4],oN 54 (.bin .add (.c (.int .i64 1)) (.t 53)) [5],oN 55 (.bin .mul (.t 51) (.t 54)) [3,6],oN 56 (.build [(.int .i64 0),(.int .i64 0),(.int .i64 0),(.int .i64 0)] [(0,(3,(.t 49))),(3,(1,(.t 55)))]) [1,7],oN 57 (.bslice 90 4 [(.int .i64 0),(.int .i64 0),(.int .i64 0),(.int .i64 0)] 1 [(0,(.t 56))]) [8],oN 58 (.app 90 4 32 [(.int .i64 0),(.int .i64 0),(.int .i64 0),(.int .i64 0)] (.t 48) (.t 57)) [0,9,5],oM 9 58 [10,10,0,1,2,3,4,5,6,7,8,9,10]] true)) .skip)) (.seq (.seq (.reg [oM 59 8 [],oN 60 (.bin .eql (.t 59) (.c (.int .i64 2))) [0]] false) (.cond (.t 60) (.seq (.reg [oM 61 7 [],oN 62 (.call 46 [(.t 61),(.c (.int .i64 14))]) [0],oN 63 (.bin .sub (.t 62) (.c (.int .i64 7))) [1],oM 64 7 [],oN 65 (.call 46 [(.t 64),(.c (.int .i64 3))]) [3,1],oN 66 (.bin .sub (.t 65) (.c (.int .i64 1))) [4],oM 67 7 [],oN 68 (.call 46 [(.t 67),(.c (.int .i64 2))]) [6,4],oN 69 (.bin .sub (.t 68) (.c (.int .i64 1))) [7],oN 70 (.build [(.int .i64 0),(.int .i64 0),(.int .i64 0)] [(0,(1,(.t 63))),(1,(1,(.t 66))),(2,(1,(.t 69)))]) [2,5,8],oN 11 (.alloc 88 3 [(.int .i64 0),(.int .i64 0),(.int .i64 0)]) [],⟨none,(.st 3 (.t 11) (.t 70)),none,[10,9,7,0,1,2,3,4,5,6,7,8,9,10]⟩] false) (.reg [oN 71 (.ld true 3 (.t 11)) [],oA 72 0 11 [],oD 73 1 72 [1],oN 74 (.bin .add (.t 73) (.c (.int .i64 1))) [2],oM 75 7 [],oN 76 (.call 46 [(.t 75),(.c (.int .i64 6))]) [4],oN 77 (.bin .add (.t 74) (.t 76)) [3,5],oA 78 1 11 [],oD 79 1 78 [7],oN 80 (.bin .add (.t 79) (.c (.int .i64 2))) [8],oM 81 7 [],oN 82 (.call 46 [(.t 81),(.c (.int .i64 6))]) [10,5],oN 83 (.bin .add (.t 80) (.t 82)) [9,11],oA 84 2 11 [],oD 85 1 84 [13],oN 86 (.bin .add (.t 85) (.c (.int .i64 2))) [14],oM 87 7 [],oN 88 (.call 46 [(.t 87),(.c (.int .i64 6))]) [16,11],oN 89 (.bin .add (.t 86) (.t 88)) [15,17],oN 90 (.build [(.int .i64 0),(.int .i64 0),(.int .i64 0)] [(0,(1,(.t 77))),(1,(1,(.t 83))),(2,(1,(.t 89)))]) [6,12,18],oN 91 (.call 47 [(.t 71),(.t 90)]) [0,19,17],oM 9 91 [20,20,0,1,2,3,4,5,6,7,8,9,10,11,12,13,14,15,16,17,18,19,20]] true)) .skip)) (.reg [oM 92 5 [],oM 93 9 [],oN 94 (.bslice 85 1 [.nils] 1 [(0,(.t 93))]) [1],oN 95 (.app 85 1 24 [.nils] (.t 92) (.t 94)) [0,2],oM 5 95 [3,3,0,1,2,3]] false))))))) (.reg [oM 20 6 [],oN 21 (.bin .add (.t 20) (.c (.int .i64 1))) [0],oM 6 21 [1,0,1]] false)))))) (.seq (.reg [oM 96 5 [],oM 4 96 [0,0]] false) .ret))))
theorem mcOkv12:okM Tryz.prog Tryz.f12 97=some mcv12:=by kernel_rfl
set_option maxHeartbeats 2000000 in
theorem vc12 (cs:List (List Int)) (hn:cs.length<=3) (hcs:∀ L∈cs,L.length<=4611686018427387904) (p:Pa) (hp:GoodP p):FC Tryz.prog 12 [.rs 1 (cs.map cLi),.agg (cPa p)] [] (.rs 1 ((cs.map (J8 p)).map cR)) [] true:=by
 have hpn:=hp.n
 refine Qj (nt:=97) Tryz.func12 rfl rfl mcOkv12 (nL rfl) ?_
 delta mcv12
 refine gA 15 rfl ?_
 refine Qr (α:=Nat) (fun k=>cs.length-k) (fun k=>[(0,.rs 1 (cs.map cLi)),(3,.ptr 3 0 0),(4,.nils),(5,.sl 901 0 (k)),(6,iv (((k):Nat):Int))]) (fun k=>[(3,.cells 31 3 [cPa p] true),(901,.cells 85 1 (((cs.take (k)).map (J8 p)).map cR) true)]) (fun k=>k<=cs.length) 0 (by omega)
  (Qa (.cs (.cs (.cs (.cons rfl (J4 rfl rfl) (.cs (.nil)))))) (.keep (rfl) rfl (.virt rfl (.nil))) (fun i h=>by cases h)) ?_
 intro k hk
 refine gT 5 rfl (Qh rfl rfl (gR 0 rfl (Q9 rfl rfl rfl rfl (fun h15=>?_) (fun h15=>?_))))
 ·skip
  refine gR 2 rfl (Js rfl rfl rfl rfl (by omega) (gR 10 rfl ?_))
  obtain ⟨L,hLk,hLm⟩:=Qo (L:=cs) (k:=k) (by omega)
  refine Qp (f:=cLi) (y:=L) rfl rfl rfl (by omega) hLk (gR 7 rfl ?_)
  have v0:=Qu L 0 4 (by decide)
  refine gI 1 rfl (Q1 [(27,QN 83 L (cA L 0))] rfl rfl (fc35 27 83 L (cA L 0) 4 (by omega) (hcs L hLm)) (.cons (Qd rfl) (.cons (Qd rfl) (.nil))) (.cons rfl (.nil)) rfl rfl rfl (gR 4 rfl ?_))
  have hv1:=Qu L (cA L 1) (p.cells.length:Int) (by omega)
  have hcl:=(hp.cells.ok _ (JQ (cC_at p L (by omega)))).len
  refine Qi (l:=[]) (els:=[]) (fl:=true) rfl (by kernel_rfl) rfl rfl rfl rfl (gR 5 rfl (Qh rfl rfl (gR 0 rfl (Q1 [(27,QN 83 L (cA L 1))] rfl rfl (fc35 27 83 L (cA L 1) (p.cells.length:Int) (by omega) (hcs L hLm)) (.cons (Qd rfl) (.cons (Qd rfl) (.nil))) (.cons rfl (.nil)) rfl rfl rfl (gR 0 rfl (Qp (f:=cR) (y:=cC p L) rfl rfl rfl hv1.1 (cC_at p L (by omega)) (gR 1 rfl (JZ (f:=cPl) (ys:=(cC p L)) (n:=(cC p L).length) (rd:=[]) rfl rfl rfl rfl rfl rfl rfl (by simp) (fun _=>rfl) rfl (by omega) (by omega) (fun _=>rfl) (gR 1 rfl (QJ (by kernel_rfl) (gP 4 rfl ?_)))))))))))
  refine rs_eql rfl rfl rfl (gR 1 rfl (Qe rfl (fun h42=>?_) (fun h42=>?_)))
  ·replace h42:=of_decide_eq_true h42
   refine gK 2 rfl ?_
   have v2:=Qu L (cA L 2) 2 (by decide)
   have v3:=Qu L (cA L 3) 2 (by decide)
   refine gI 1 rfl (Q1 [(27,QN 83 L (cA L 2))] rfl rfl (fc35 27 83 L (cA L 2) 2 (by omega) (hcs L hLm)) (.cons (Qd rfl) (.cons (Qd rfl) (.nil))) (.cons rfl (.nil)) rfl rfl rfl (gR 0 rfl (QA (c:=2*QM L (cA L 2) 2) rfl rfl rfl (Xk (by omega)) (gR 0 rfl (rs_sub rfl rfl rfl (by omega) (gR 10 rfl (Q1 [(27,QN 83 L (cA L 3))] rfl rfl (fc35 27 83 L (cA L 3) 2 (by omega) (hcs L hLm)) (.cons (Qd rfl) (.cons (Qd rfl) (.nil))) (.cons rfl (.nil)) rfl rfl rfl (gR 0 rfl (Qg rfl rfl rfl (by omega) (gR 0 rfl (QA rfl rfl rfl rfl ?_)))))))))))
   refine gR 1 rfl (Qi (l:=(([cPq L]:List Pl)).flatMap cPl) (els:=(([cPq L]:List Pl)).map cPl) (fl:=true) rfl (by kernel_rfl) rfl rfl (by kernel_rfl) (by kernel_rfl) (gR 0 rfl (QB (f:=cPl) (xs:=cC p L) (y:=cPq L) (fl':=true) rfl rfl rfl rfl (rfl) rfl rfl rfl (by decide) rfl (by omega) (by omega) rfl (gR 1 rfl (QJ (by kernel_rfl) (gP 4 rfl (rs_eql rfl rfl rfl (gR 1 rfl (Qe rfl (fun h60=>?_) (fun h60=>?_))))))))))
   ·replace h60:=of_decide_eq_true h60
    refine gK 1 rfl ?_
    exact absurd h60 (by omega)
   ·replace h60:=of_decide_eq_false h60
    refine gK 1 rfl (QE (F0:=[(0,.rs 1 (cs.map cLi)),(3,.ptr 3 0 0),(4,.nils),(5,.sl 901 0 (k)),(6,iv (((k):Nat):Int)),(9,.rs 4 ((J8 p L).map cPl))]) (H0:=[(3,.cells 31 3 [cPa p] true),(901,.cells 85 1 (((cs.take (k)).map (J8 p)).map cR) true)]) (Qa (.cs (.cs (.cs (.cs (.cs (.cons rfl ((by rw [cut_1 p L h42]; exact Xr rfl rfl (by simp) (fun _=>rfl))) (.nil))))))) (.keep (rfl) rfl (.keep (rfl) rfl (.nil))) (fun i h=>by cases h)) (gK 3 rfl (Qi (l:=(([J8 p L]:List (List Pl))).flatMap cR) (els:=(([J8 p L]:List (List Pl))).map cR) (fl:=true) rfl (by kernel_rfl) rfl rfl (by kernel_rfl) (by kernel_rfl) (gR 0 rfl (QB (f:=cR) (xs:=(cs.take k).map (J8 p)) (y:=J8 p L) (fl':=true) rfl rfl rfl rfl (by simp; omega) rfl rfl rfl (by decide) rfl (by omega) (by omega) rfl (gR 4 rfl (Qg rfl rfl rfl (by omega) (gR 2 rfl ?_))))))))
    exact Q8 <| ⟨k+1,by omega,by omega,Q6 (i:=95) (i':=901) (F1:=[(0,.rs 1 (cs.map cLi)),(3,.ptr 3 0 0),(4,.nils),(5,.sl 95 0 (k+1)),(6,iv (((k+1):Nat):Int))]) (H1:=[(3,.cells 31 3 [cPa p] true),(95,.cells 85 1 (((cs.take (k+1)).map (J8 p)).map cR) true)]) (Qb rfl rfl) (.keep (rfl) rfl (.keep (by simp only [Qv hLk,List.map_append]; rfl) rfl (.nil))) (fun i h=>by cases h) rfl rfl (.cons rfl (.same _) (.cons rfl (.same _) (.cons rfl (.same _) (.cons rfl (.sl _ _) (.cons rfl (.same _) (.nil)))))) (Qb rfl rfl) (.keep (rfl) rfl (.keep (rfl) rfl (.nil))) (fun i h=>by cases h)⟩
  ·replace h42:=of_decide_eq_false h42
   refine gK 5 rfl (rs_eql rfl rfl rfl (gR 1 rfl (Qe rfl (fun h60=>?_) (fun h60=>?_))))
   ·replace h60:=of_decide_eq_true h60
    refine gK 1 rfl ?_
    skip
    refine gI 1 rfl ?_
    have v2:=Qu L (cA L 2) 14 (by decide)
    have v3:=Qu L (cA L 3) 3 (by decide)
    have v4:=Qu L (cA L 4) 2 (by decide)
    have v5:=Qu L (cA L 5) 6 (by decide)
    have v6:=Qu L (cA L 6) 6 (by decide)
    have v7:=Qu L (cA L 7) 6 (by decide)
    refine gI 1 rfl (Q1 [(27,QN 83 L (cA L 2))] rfl rfl (fc35 27 83 L (cA L 2) 14 (by omega) (hcs L hLm)) (.cons (Qd rfl) (.cons (Qd rfl) (.nil))) (.cons rfl (.nil)) rfl rfl rfl (gR 0 rfl (rs_sub rfl rfl rfl (by omega) (gR 1 rfl (Q1 [(27,QN 83 L (cA L 3))] rfl rfl (fc35 27 83 L (cA L 3) 3 (by omega) (hcs L hLm)) (.cons (Qd rfl) (.cons (Qd rfl) (.nil))) (.cons rfl (.nil)) rfl rfl rfl (gR 0 rfl (rs_sub rfl rfl rfl (by omega) (gR 1 rfl (Q1 [(27,QN 83 L (cA L 4))] rfl rfl (fc35 27 83 L (cA L 4) 2 (by omega) (hcs L hLm)) (.cons (Qd rfl) (.cons (Qd rfl) (.nil))) (.cons rfl (.nil)) rfl rfl rfl (gR 0 rfl (rs_sub rfl rfl rfl (by omega) ?_)))))))))))
    refine gR 8 rfl (Qg rfl rfl rfl (by omega) (gR 1 rfl (Q1 [(27,QN 83 L (cA L 5))] rfl rfl (fc35 27 83 L (cA L 5) 6 (by omega) (hcs L hLm)) (.cons (Qd rfl) (.cons (Qd rfl) (.nil))) (.cons rfl (.nil)) rfl rfl rfl (gR 0 rfl (Qg rfl rfl rfl (by omega) (gR 2 rfl (Qg rfl rfl rfl (by omega) (gR 1 rfl (Q1 [(27,QN 83 L (cA L 6))] rfl rfl (fc35 27 83 L (cA L 6) 6 (by omega) (hcs L hLm)) (.cons (Qd rfl) (.cons (Qd rfl) (.nil))) (.cons rfl (.nil)) rfl rfl rfl (gR 0 rfl (Qg rfl rfl rfl (by omega) ?_)))))))))))
    refine gR 2 rfl (Qg rfl rfl rfl (by omega) (gR 1 rfl (Q1 [(27,QN 83 L (cA L 7))] rfl rfl (fc35 27 83 L (cA L 7) 6 (by omega) (hcs L hLm)) (.cons (Qd rfl) (.cons (Qd rfl) (.nil))) (.cons rfl (.nil)) rfl rfl rfl (gR 0 rfl (Qg rfl rfl rfl (by omega) (gR 1 rfl (cN rfl rfl (vc47 (cLo L) (cHi L) (by unfold cLo; dsimp only; omega)) (gR 1 rfl (QJ (by kernel_rfl) (gP 0 rfl (QE (F0:=[(0,.rs 1 (cs.map cLi)),(3,.ptr 3 0 0),(4,.nils),(5,.sl 901 0 (k)),(6,iv (((k):Nat):Int)),(9,.rs 4 ((J8 p L).map cPl))]) (H0:=[(3,.cells 31 3 [cPa p] true),(901,.cells 85 1 (((cs.take (k)).map (J8 p)).map cR) true)]) (Qa (.cs (.cs (.cs (.cs (.cs (.cons rfl ((by rw [cut_2 p L h60]; exact Q3 rfl (.inl rfl))) (.nil))))))) (.keep (rfl) rfl (.keep (rfl) rfl (.nil))) (fun i h=>by cases h)) ?_)))))))))))
    refine gK 3 rfl (Qi (l:=(([J8 p L]:List (List Pl))).flatMap cR) (els:=(([J8 p L]:List (List Pl))).map cR) (fl:=true) rfl (by kernel_rfl) rfl rfl (by kernel_rfl) (by kernel_rfl) (gR 0 rfl (QB (f:=cR) (xs:=(cs.take k).map (J8 p)) (y:=J8 p L) (fl':=true) rfl rfl rfl rfl (by simp; omega) rfl rfl rfl (by decide) rfl (by omega) (by omega) rfl (gR 4 rfl (Qg rfl rfl rfl (by omega) (gR 2 rfl ?_))))))
    exact Q8 <| ⟨k+1,by omega,by omega,Q6 (i:=95) (i':=901) (F1:=[(0,.rs 1 (cs.map cLi)),(3,.ptr 3 0 0),(4,.nils),(5,.sl 95 0 (k+1)),(6,iv (((k+1):Nat):Int))]) (H1:=[(3,.cells 31 3 [cPa p] true),(95,.cells 85 1 (((cs.take (k+1)).map (J8 p)).map cR) true)]) (Qb rfl rfl) (.keep (rfl) rfl (.keep (by simp only [Qv hLk,List.map_append]; rfl) rfl (.nil))) (fun i h=>by cases h) rfl rfl (.cons rfl (.same _) (.cons rfl (.same _) (.cons rfl (.same _) (.cons rfl (.sl _ _) (.cons rfl (.same _) (.nil)))))) (Qb rfl rfl) (.keep (rfl) rfl (.keep (rfl) rfl (.nil))) (fun i h=>by cases h)⟩
   ·replace h60:=of_decide_eq_false h60
    refine gK 1 rfl (QE (F0:=[(0,.rs 1 (cs.map cLi)),(3,.ptr 3 0 0),(4,.nils),(5,.sl 901 0 (k)),(6,iv (((k):Nat):Int)),(9,.rs 4 ((J8 p L).map cPl))]) (H0:=[(3,.cells 31 3 [cPa p] true),(901,.cells 85 1 (((cs.take (k)).map (J8 p)).map cR) true)]) (Qa (.cs (.cs (.cs (.cs (.cs (.cons rfl ((by rw [cut_3 p L h42 h60]; exact Xr rfl rfl rfl (fun _=>rfl))) (.nil))))))) (.keep (rfl) rfl (.keep (rfl) rfl (.nil))) (fun i h=>by cases h)) (gK 3 rfl (Qi (l:=(([J8 p L]:List (List Pl))).flatMap cR) (els:=(([J8 p L]:List (List Pl))).map cR) (fl:=true) rfl (by kernel_rfl) rfl rfl (by kernel_rfl) (by kernel_rfl) (gR 0 rfl (QB (f:=cR) (xs:=(cs.take k).map (J8 p)) (y:=J8 p L) (fl':=true) rfl rfl rfl rfl (by simp; omega) rfl rfl rfl (by decide) rfl (by omega) (by omega) rfl (gR 4 rfl (Qg rfl rfl rfl (by omega) (gR 2 rfl ?_))))))))
    exact Q8 <| ⟨k+1,by omega,by omega,Q6 (i:=95) (i':=901) (F1:=[(0,.rs 1 (cs.map cLi)),(3,.ptr 3 0 0),(4,.nils),(5,.sl 95 0 (k+1)),(6,iv (((k+1):Nat):Int))]) (H1:=[(3,.cells 31 3 [cPa p] true),(95,.cells 85 1 (((cs.take (k+1)).map (J8 p)).map cR) true)]) (Qb rfl rfl) (.keep (rfl) rfl (.keep (by simp only [Qv hLk,List.map_append]; rfl) rfl (.nil))) (fun i h=>by cases h) rfl rfl (.cons rfl (.same _) (.cons rfl (.same _) (.cons rfl (.same _) (.cons rfl (.sl _ _) (.cons rfl (.same _) (.nil)))))) (Qb rfl rfl) (.keep (rfl) rfl (.keep (rfl) rfl (.nil))) (fun i h=>by cases h)⟩
 ·skip
  refine gR 13 rfl ?_
  obtain rfl:k=cs.length:=by omega
  rw [show cs.map (J8 p)=(cs.take cs.length).map (J8 p) by rw [List.take_length]]
  exact Qk <| Qs rfl (rc_frzA rfl rfl (by simp)) .nil
end Go.Proofs.YthfhaoogcpfboaaGreat
namespace Go.Proofs.YthfhaoogcpfboaaGreat
open Go.RowKit
set_option maxRecDepth 100000
set_option linter.unusedVariables false
def onB (p:Pl) (x:Pt):Bool:=decide (JO p x=0)
def onN (l:List Pt) (p:Pl):Nat:=(l.filter (onB p)).length
def leanB (l:List Pt) (p:Pl):Bool:=decide ((onN l p:Int)<3)
def keepP (l:List Pt) (p:Pl):Bool := !leanB l p
def delS (l:List Pt) (xs:List Pl):List Pl:=xs.filter (keepP l)
theorem on_t {l:List Pt} {k:Nat} {x:Pt} {p:Pl} (h:l[k]?=some x) (hr:JO p x=0):((l.take (k+1)).filter (onB p)).length=((l.take k).filter (onB p)).length+1:=by
 rw [Qv h,List.filter_append,List.length_append]; simp [onB,hr]
theorem on_f {l:List Pt} {k:Nat} {x:Pt} {p:Pl} (h:l[k]?=some x) (hr:¬ JO p x=0):((l.take (k+1)).filter (onB p)).length=((l.take k).filter (onB p)).length:=by
 rw [Qv h,List.filter_append,List.length_append]; simp [onB,hr]
theorem on_le {l:List Pt} {k:Nat} {p:Pl}:((l.take k).filter (onB p)).length<=k:=Nat.le_trans (List.length_filter_le _ _) (by simp; omega)
theorem idx_none {α:Type} {p:α->Bool}:∀ {xs:List α} {k:Nat},Xs p xs k = -1->xs.filter (fun x => !p x)=xs
 | [],k,_=>rfl
 | x::xs,k,h=>by
  unfold Xs at h
  split at h
  ·omega
  ·rename_i hp
   rw [List.filter_cons_of_pos (by simp [hp]),idx_none h]
theorem idx_some {α:Type} {p:α->Bool}:∀ {xs:List α} {k:Nat},¬ Xs p xs k = -1->∃ i,Xs p xs k=((k+i:Nat):Int)/\i<xs.length/\(xs.take (i+1)).filter (fun x => !p x)=xs.take i
 | [],k,h=>absurd rfl h
 | x::xs,k,h=>by
  by_cases hp:p x=true
  ·exact ⟨0,by unfold Xs; rw [if_pos hp]; rfl,by simp,by simp [hp]⟩
  ·have e:Xs p (x::xs) k=Xs p xs (k+1):=by show (if p x=true then _ else _)=_; rw [if_neg hp]
   rw [e] at h ⊢
   obtain ⟨i,h1,h2,h3⟩:=idx_some h
   refine ⟨i+1,by rw [h1]; congr 1; omega,by simp; omega,?_⟩
   rw [List.take_succ_cons,List.filter_cons_of_pos (by simp [hp]),h3,List.take_succ_cons]
def KJ (l:List Pt) (xs:List Pl) (j:Nat):List Pl:=(xs.take j).filter (keepP l)
theorem KJ_t {l:List Pt} {xs:List Pl} {j:Nat} {x:Pl} (h:xs[j]?=some x) (hl:leanB l x=false):KJ l xs (j+1)=KJ l xs j++[x]:=by
 unfold KJ; rw [Qv h,List.filter_append]; simp [keepP,hl]
theorem KJ_f {l:List Pt} {xs:List Pl} {j:Nat} {x:Pl} (h:xs[j]?=some x) (hl:leanB l x=true):KJ l xs (j+1)=KJ l xs j:=by
 unfold KJ; rw [Qv h,List.filter_append]; simp [keepP,hl]
theorem row_f {α:Type} {K mid xs:List α} {j:Nat} {x:α} (h:xs[j]?=some x):K++mid++xs.drop j=K++(mid++[x])++xs.drop (j+1):=by
 rw [Jo h]; simp
theorem row_t {α:Type} {K mid xs:List α} {j:Nat} {x y:α} (h:xs[j]?=some x):(K++mid++xs.drop j).set K.length y=(K++[y])++(mid++[x]).tail++xs.drop (j+1):=by
 rw [Jo h]
 cases mid with
 | nil=>simp
 | cons m mid=>simp
theorem row_at {α:Type} {K mid xs:List α} {j q:Nat} {x:α} (hl:K.length+mid.length=j) (hq:j<=q) (h:xs[q]?=some x):(K++mid++xs.drop j)[q]?=some x:=by
 rw [List.getElem?_append_right (by simp; omega),List.getElem?_drop,List.length_append,← h]
 congr 1; omega
theorem row_len {α:Type} {K mid xs:List α} {j:Nat} (hl:K.length+mid.length=j) (hj:j<=xs.length):(K++mid++xs.drop j).length=xs.length:=by simp; omega
theorem row_take {α β:Type} {K mid R:List α} {f:α->β} {n:Nat} (h:n=K.length):((K++mid++R).map f).take n=K.map f:=by
 subst h; rw [← List.map_take,List.append_assoc,List.take_left']; rfl
def dfPl:Pl:=⟨⟨0,0,0⟩,0⟩
def ddN (xs:List Pl):Nat->List Pl
 | 0=>[]
 | q+1=>ddN xs q++(if 0<q/\xs.getD q dfPl=xs.getD (q-1) dfPl then [] else [xs.getD q dfPl])
def cmpS (xs:List Pl):List Pl:=ddN xs xs.length
theorem ddN_t {xs:List Pl} {q:Nat} {x p:Pl} (h0:0<q) (hx:xs[q]?=some x) (hp:xs[q-1]?=some p) (h:x=p):ddN xs (q+1)=ddN xs q:=by
 show ddN xs q++_=_
 rw [if_pos ⟨h0,by rw [Xg hx,Xg hp]; exact h⟩,List.append_nil]
theorem ddN_f {xs:List Pl} {q:Nat} {x p:Pl} (h0:0<q) (hx:xs[q]?=some x) (hp:xs[q-1]?=some p) (h:¬ x=p):ddN xs (q+1)=ddN xs q++[x]:=by
 show ddN xs q++_=_
 rw [if_neg (fun hc=>h (by have:=hc.2; rw [Xg hx,Xg hp] at this; exact this)),Xg hx]
theorem ddN_1 {xs:List Pl} {x:Pl} (hx:xs[0]?=some x):ddN xs 1=[x]:=by
 show []++_=_
 rw [if_neg (fun h=>absurd h.1 (by decide)),Xg hx]; rfl
theorem ddN_sub {xs:List Pl}:∀ {q:Nat},q<=xs.length->(ddN xs q).length<=q/\∀ y∈ddN xs q,y∈xs
 | 0,_=>⟨Nat.le_refl _,fun y h=>by cases h⟩
 | q+1,hq=>by
  obtain ⟨h1,h2⟩:=ddN_sub (q:=q) (xs:=xs) (by omega)
  show (ddN xs q++_).length<=_/\∀ y∈ddN xs q++_,_
  split
  ·exact ⟨by rw [List.append_nil]; omega,fun y hy=>h2 y (by simpa using hy)⟩
  ·refine ⟨by simp; omega,fun y hy=>?_⟩
   rcases List.mem_append.1 hy with hy | hy
   ·exact h2 y hy
   ·rw [List.mem_singleton.1 hy,List.getD_eq_getElem?_getD,List.getElem?_eq_getElem (by omega)]
    exact List.getElem_mem _
theorem cmpS_short {xs:List Pl} (h:xs.length<2):cmpS xs=xs:=by
 match xs,h with
 | [],_=>rfl
 | [x],_=>exact ddN_1 rfl
theorem plK_eq {x y:Pl}:decide ([y.n.x,y.n.y,y.n.z,y.b]=[x.n.x,x.n.y,x.n.z,x.b])=decide (y=x):=by
 obtain ⟨⟨a,b,c⟩,d⟩:=x; obtain ⟨⟨e,f,g⟩,h⟩:=y; simp [and_assoc]
theorem rs_aeq_l {P:Program} {N:Nat} {F:Fr} {H:Hp} {ml:List MOper} {K:List Fp->Fr->Hp->Prop} {d:Nat} {g:Option (Nat×Bool)} {pre:List Nat} {a b:Arg} {y z:Pl} (hg:gOK F g=true) (ha:Ql F a=some (.agg (cPl y))) (hb:Ql F b=some (.agg (cPl z)))
  (h:RS P N ml ((d,.bool (decide (y=z)))::F) H (fun fps=>K (([],[])::fps))):RS P N (⟨some d,.aeq false 4 a b,g,pre⟩::ml) F H K :=
 rs_aeq [y.n.x,y.n.y,y.n.z,y.b] [z.n.x,z.n.y,z.n.z,z.b] hg ha hb rfl rfl rfl rfl (by rw [plK_eq]; simp) h
theorem rs_ane_l {P:Program} {N:Nat} {F:Fr} {H:Hp} {ml:List MOper} {K:List Fp->Fr->Hp->Prop} {d:Nat} {g:Option (Nat×Bool)} {pre:List Nat} {a b:Arg} {y z:Pl} (hg:gOK F g=true) (ha:Ql F a=some (.agg (cPl y))) (hb:Ql F b=some (.agg (cPl z)))
  (h:RS P N ml ((d,.bool (!decide (y=z)))::F) H (fun fps=>K (([],[])::fps))):RS P N (⟨some d,.aeq true 4 a b,g,pre⟩::ml) F H K :=
 rs_aeq [y.n.x,y.n.y,y.n.z,y.b] [z.n.x,z.n.y,z.n.z,z.b] hg ha hb rfl rfl rfl rfl (by rw [plK_eq]; simp) h
def mcv193:MC:=(.seq (.reg [oN 2 (.box 90 4 (.t 0)) [],oN 3 (.mv (.c (.bool false))) []] false) (.seq (.reg [oN 4 (.mv (.c (.int .i64 0))) []] false) (.seq (.seq (.reg [oD 7 1 1 [],oN 8 (.len (.t 7)) [0],oN 9 (.mv (.c (.int .i64 0))) []] false) (.block 0 (.loop (.seq (.reg [oN 10 (.bin .lss (.t 9) (.t 8)) []] false) (.seq (.cond (.t 10) .skip (.exit 0)) (.seq (.block 1 (.seq (.reg [oN 11 (.ixsl 4 (.t 7) (.t 9)) [],oN 12 (.ld true 4 (.t 11)) [0],oN 6 (.alloc 174 4 [(.int .i64 0),(.int .i64 0),(.int .i64 0),(.int .i64 0)]) [],⟨none,(.st 4 (.t 6) (.t 12)),none,[2,1,0,1,2]⟩] false) (.seq (.reg [oN 13 (.ld true 4 (.t 2)) [],oN 14 (.ld true 4 (.t 6)) [],oN 15 (.call 166 [(.t 13),(.t 14)]) [0,1],oN 16 (.bin .eql (.t 15) (.c (.int .i64 0))) [2]] false) (.cond (.t 16) (.reg [oM 17 4 [],oN 18 (.bin .add (.t 17) (.c (.int .i64 1))) [0],oM 4 18 [1,0,1]] false) .skip)))) (.reg [oN 19 (.bin .add (.t 9) (.c (.int .i64 1))) [],oM 9 19 [0]] false))))))) (.seq (.reg [oM 20 4 [],oN 21 (.bin .lss (.t 20) (.c (.int .i64 3))) [0],oM 3 21 [1,0,1]] false) .ret))))
theorem mcOkv193:okM Tryz.prog Tryz.f193 22=some mcv193:=by kernel_rfl
theorem vc193 (l:List Pt) (p:Pl) (hl:l.length<=2000000):FC Tryz.prog 193 [.agg (cPl p),.rp [.rs 4 (l.map cPt)]] [] (.bool (leanB l p)) [] false:=by
 refine Qj (nt:=22) Tryz.func193 rfl rfl mcOkv193 (nL rfl) ?_
 delta mcv193
 refine gA 13 rfl (Qh rfl rfl (gR 3 rfl ?_))
 refine Qr (α:=Nat) (fun k=>l.length-k) (fun k=>[(2,.ptr 2 0 0),(3,.bool false),(4,iv ((((l.take (k)).filter (onB p)).length:Nat):Int)),(7,.rs 4 (l.map cPt)),(8,iv (l.length:Int)),(9,iv (((k):Nat):Int))]) (fun k=>[(2,.cells 90 4 [cPl p] true)]) (fun k=>k<=l.length) 0 (by omega)
  (Qa (Qb rfl rfl) (.keep rfl rfl .nil) nz) ?_
 intro k hk
 refine gT 5 rfl (Qe rfl (fun h10=>?_) (fun h10=>?_))
 ·replace h10:=of_decide_eq_true h10
  refine gK 5 rfl ?_
  obtain ⟨x,hxk,hxm⟩:=Qo (L:=l) (k:=k) (by omega)
  have hle:=on_le (l:=l) (k:=k) (p:=p)
  refine Qp (f:=cPt) (y:=x) rfl rfl rfl (by omega) hxk (gR 8 rfl (cN rfl rfl (vc166 p x) (gR 0 rfl (rs_eql rfl rfl rfl (gR 1 rfl (Qe rfl (fun h16=>?_) (fun h16=>?_)))))))
  ·replace h16:=of_decide_eq_true h16
   refine gK 2 rfl (Qg rfl rfl rfl (by omega) (gR 3 rfl (Qg rfl rfl rfl (by omega) (gR 2 rfl ?_))))
   exact Q8 <| ⟨k+1,by omega,by omega,Qa (.cs (.cs (.cons rfl (rc_int (by rw [on_t hxk h16]; rfl)) (.cs (.cs (.cs (.nil))))))) (.keep rfl rfl .nil) nz⟩
  ·replace h16:=of_decide_eq_false h16
   refine gK 2 rfl (Qg rfl rfl rfl (by omega) (gR 2 rfl ?_))
   exact Q8 <| ⟨k+1,by omega,by omega,Qa (.cs (.cs (.cons rfl (rc_int (by rw [on_f hxk h16])) (.cs (.cs (.cs (.nil))))))) (.keep rfl rfl .nil) nz⟩
 ·replace h10:=of_decide_eq_false h10
  refine gK 8 rfl ?_
  rw [show leanB l p=decide ((((l.take k).filter (onB p)).length:Int)<3) from by rw [take_all (by omega)]; rfl]
  exact Qk <| Qc rfl rfl rfl (.inr rfl)
theorem vcI_lean (l:List Pt) (hl:l.length<=2000000) (xs:List Pl) (hxn:xs.length<=4611686018427387904):FC Tryz.prog 181 [.rs 4 (xs.map cPl),(.fn (.func 193) [.rp [.rs 4 (l.map cPt)]])] [] (.int .i64 (Xs (leanB l) xs 0)) [] false:=by
 refine Qj (nt:=19) Tryz.func181 rfl rfl mcOkv181 (nL rfl) ?_
 delta mcv181
 refine gA 8 rfl (Qh rfl rfl (gR 3 rfl ?_))
 refine Qr (α:=Nat) (fun k=>xs.length-k) (fun k=>[(0,.rs 4 (xs.map cPl)),(1,(.fn (.func 193) [.rp [.rs 4 (l.map cPt)]])),(6,.rs 4 (xs.map cPl)),(7,iv (xs.length:Int)),(8,iv (((k):Nat):Int))]) (fun k=>[]) (fun k=>k<=xs.length/\Xs (leanB l) (xs.drop k) k=Xs (leanB l) xs 0) 0 (⟨by omega,rfl⟩)
  (Qa (Qb rfl rfl) (.nil) (fun i h=>by cases h)) ?_
 rintro k ⟨hk,hinv⟩
 refine gT 5 rfl (Qe rfl (fun h9=>?_) (fun h9=>?_))
 ·replace h9:=of_decide_eq_true h9
  refine gK 13 rfl ?_
  obtain ⟨x,hxk,hxm⟩:=Qo (L:=xs) (k:=k) (by omega)
  rw [JK hxk] at hinv
  refine Qp (f:=cPl) (y:=x) rfl rfl rfl (by omega) hxk (gR 0 rfl (QG (cs:=cPl x) rfl rfl (nL rfl) rfl (gR 0 rfl (Xb [] rfl rfl (by kernel_rfl) rfl (JI (vc193 l x hl)) (.cons (Qd rfl) (.cons (Qd rfl) (.nil))) .nil rfl rfl rfl ?_))))
  cases h16:(leanB l) x
  ·skip
   refine gR 4 rfl (Qg rfl rfl rfl (by omega) (gR 2 rfl ?_))
   rw [h16] at hinv
   exact Q8 <| ⟨k+1,⟨by omega,hinv⟩,by omega,Qa (Qb rfl rfl) (.nil) (fun i h=>by cases h)⟩
  ·skip
   refine gR 8 rfl ?_
   rw [h16] at hinv
   rw [← hinv]
   exact Qk <| Qc rfl rfl rfl (.inr rfl)
 ·replace h9:=of_decide_eq_false h9
  refine gK 6 rfl ?_
  rw [Ju (by omega)] at hinv
  rw [← hinv]
  exact Qk <| Qc rfl rfl rfl (.inr rfl)
def mcv192:MC:=(.seq (.reg [oN 4 (.mv (.c .nils)) []] false) (.seq (.reg [oM 8 0 [],oM 9 1 [],oN 10 (.call 181 [(.t 8),(.t 9)]) [0,1],oM 5 10 [2,2,0,1,2]] false) (.seq (.seq (.reg [oM 11 5 [],oN 12 (.bin .eql (.t 11) (.c (.int .i64 (-1)))) [0]] false) (.cond (.t 12) (.seq (.reg [oM 13 0 [],oM 4 13 [0,0]] false) .ret) .skip)) (.seq (.seq (.reg [oM 14 5 [],oN 15 (.bin .add (.t 14) (.c (.int .i64 1))) [0],oM 6 15 [1,0,1]] false) (.block 0 (.loop (.seq (.seq (.reg [oM 16 6 [],oM 17 0 [],oN 18 (.len (.t 17)) [1],oN 19 (.bin .lss (.t 16) (.t 18)) [0,2]] false) (.cond (.t 19) .skip (.exit 0))) (.seq (.block 1 (.seq (.reg [oM 22 0 [],oM 23 6 [],oN 24 (.ixsl 4 (.t 22) (.t 23)) [0,1],oN 25 (.ld true 4 (.t 24)) [2],oN 7 (.alloc 90 4 [(.int .i64 0),(.int .i64 0),(.int .i64 0),(.int .i64 0)]) [],⟨none,(.st 4 (.t 7) (.t 25)),none,[4,3,0,1,2,3,4]⟩] false) (.seq (.reg [oM 26 1 [],oN 27 (.ld true 4 (.t 7)) [],oN 28 (.callv (.t 26) [(.t 27)]) [0,1],oN 29 (.un .not (.t 28)) [2]] false) (.cond (.t 29) (.seq (.reg [oM 30 0 [],oM 31 5 [],oN 32 (.ld true 4 (.t 7)) [],oN 33 (.ixsl 4 (.t 30) (.t 31)) [0,1,0,1,2],⟨none,(.st 4 (.t 33) (.t 32)),none,[3,2,0,1,2]⟩] false) (.reg [oM 34 5 [],oN 35 (.bin .add (.t 34) (.c (.int .i64 1))) [0],oM 5 35 [1,0,1]] false)) .skip)))) (.reg [oM 20 6 [],oN 21 (.bin .add (.t 20) (.c (.int .i64 1))) [0],oM 6 21 [1,0,1]] false)))))) (.seq (.reg [oM 36 0 [],oM 37 5 [],oN 38 (.slc 4 (.t 36) (some (.t 37)) none) [0,1],⟨none,(.clr 4 (.t 38)),none,[2]⟩] false) (.seq (.reg [oM 39 0 [],oM 40 5 [],oN 41 (.slc 4 (.t 39) none (some (.t 40))) [0,1],oM 4 41 [2,0,1,2]] false) .ret))))))
theorem mcOkv192:okM Tryz.prog Tryz.f192 42=some mcv192:=by kernel_rfl
theorem vc192 (l:List Pt) (hl:l.length<=2000000) (xs:List Pl) (hxn:xs.length<=1000):FC Tryz.prog 192 [.sl 1005 0 xs.length,.fn (.func 193) [.rp [.rs 4 (l.map cPt)]]] [(1005,.cells 90 4 (xs.map cPl) true)] (.sl 1005 0 (delS l xs).length) [(1005,.cells 90 4 ((delS l xs).map cPl) true)] true:=by
 refine Qj (nt:=42) Tryz.func192 rfl rfl mcOkv192 (nL rfl) ?_
 delta mcv192
 refine gA 8 rfl (Qx [1005] rfl rfl (vcI_lean l hl xs (by omega)) (.cons (QL (f:=cPl) (xs:=xs) (by simp) rfl rfl) (.cons (Qd rfl) (.nil))) rfl (gR 6 rfl (rs_eql rfl rfl rfl (gR 1 rfl (Qe rfl (fun h12=>?_) (fun h12=>?_))))))
 ·replace h12:=of_decide_eq_true h12
  refine gK 6 rfl ?_
  rw [show delS l xs=xs from idx_none h12]
  exact Qk <| ret_own rfl sm (.keep (rfl) rfl .nil) (.cons rfl rfl rfl .nil)
 ·replace h12:=of_decide_eq_false h12
  refine gK 3 rfl ?_
  obtain ⟨i,hi,hil,hif⟩:=idx_some h12
  rw [Nat.zero_add] at hi
  refine gI 2 rfl (Qg (b:=1) rfl rfl rfl (by omega) (gR 3 rfl ?_))
  refine Qr (α:=Nat×List Pl) (fun s=>xs.length-s.1) (fun s=>[(0,.sl 1005 0 xs.length),(1,.fn (.func 193) [.rp [.rs 4 (l.map cPt)]]),(4,.nils),(5,iv ((KJ l xs (s.1)).length:Int)),(6,iv (((s.1):Nat):Int))]) (fun s=>[(1005,.cells 90 4 ((KJ l xs (s.1)++s.2++xs.drop (s.1)).map cPl) true)]) (fun s=>i+1<=s.1/\s.1<=xs.length/\(KJ l xs s.1).length+s.2.length=s.1/\1<=s.2.length) (i+1,[xs.getD i dfPl]) (⟨Nat.le_refl _,by dsimp only; omega,by dsimp only; rw [show KJ l xs (i+1)=xs.take i from hif]; simp; omega,by simp⟩)
   (Qa (.cs (.cs (.cs (.cons rfl (rc_int (by rw [hi,show KJ l xs (i+1)=xs.take i from hif]; simp; omega)) (.cons rfl (rc_int (by rw [hi]; rfl)) (.nil)))))) (.keep (by rw [show KJ l xs (i+1)=xs.take i from hif,show xs.take i++[xs.getD i dfPl]=xs.take (i+1) from by rw [List.getD_eq_getElem?_getD,List.getElem?_eq_getElem hil,Option.getD_some]; exact (List.take_append_getElem hil),List.take_append_drop]; rfl) rfl (.nil)) ((fun i hi=>by simp [Qf] at hi ⊢; omega))) ?_
  rintro ⟨j,mid⟩ ⟨hij,hj,hml,hm1⟩
  dsimp only at hij hj hml hm1 ⊢
  refine gT 5 rfl (Xi rfl rfl (gR 2 rfl (Qe rfl (fun h19=>?_) (fun h19=>?_))))
  ·replace h19:=of_decide_eq_true h19
   refine gK 7 rfl ?_
   obtain ⟨x,hxj,hxm⟩:=Qo (L:=xs) (k:=j) (by omega)
   refine Xf rfl rfl rfl rfl (by omega) (by omega) (gR 0 rfl (rs_ld_ga (f:=cPl) (xs:=KJ l xs (j)++mid++xs.drop (j)) (y:=x) rfl rfl rfl (row_at hml (Nat.le_refl _) hxj) (nL rfl) rfl (gR 7 rfl (Xb [] rfl rfl (by kernel_rfl) rfl (JI (vc193 l x hl)) (.cons (Qd rfl) (.cons (Qd rfl) (.nil))) .nil rfl rfl rfl ?_))))
   cases h28:leanB l x
   ·skip
    refine gR 8 rfl (Xf rfl rfl rfl rfl (by omega) (by omega) (gR 0 rfl (rs_st_m (f:=cPl) (xs:=KJ l xs (j)++mid++xs.drop (j)) (t:=(KJ l xs j).length) (v:=x) (fl':=true) rfl rfl rfl rfl (by rw [row_len hml (by omega)]; omega) rfl rfl (nL rfl) rfl rfl (gR 3 rfl (Qg rfl rfl rfl (by omega) (gR 4 rfl (Qg rfl rfl rfl (by omega) (gR 2 rfl ?_))))))))
    have ek:=KJ_t hxj h28
    exact Q8 <| ⟨(j+1,(mid++[x]).tail),⟨by dsimp only; omega,by dsimp only; omega,by dsimp only; rw [ek]; simp; omega,by simp; omega⟩,by dsimp only; omega,Qa (.cs (.cs (.cs (.cons rfl (rc_int (by rw [ek]; simp)) (.cs (.nil)))))) (.keep (by rw [ek,← row_t hxj]; rfl) rfl (.nil)) ((fun i hi=>by simp [Qf] at hi ⊢; omega))⟩
   ·skip
    refine gR 6 rfl (Qg rfl rfl rfl (by omega) (gR 2 rfl ?_))
    have ek:=KJ_f hxj h28
    exact Q8 <| ⟨(j+1,mid++[x]),⟨by dsimp only; omega,by dsimp only; omega,by dsimp only; rw [ek]; simp; omega,by simp⟩,by dsimp only; omega,Qa (.cs (.cs (.cs (.cons rfl (rc_int (by rw [ek])) (.cs (.nil)))))) (.keep (by rw [ek,← row_f hxj]; rfl) rfl (.nil)) ((fun i hi=>by simp [Qf] at hi ⊢; omega))⟩
  ·replace h19:=of_decide_eq_false h19
   refine gK 2 rfl ?_
   obtain rfl:j=xs.length:=by omega
   refine gI 3 rfl (rs_slc_s rfl rfl rfl rfl rfl (by omega) (.inr (by omega)) (by omega) (by omega) (gR 0 rfl (rs_clr rfl rfl rfl (by omega) (by simp) (gR 5 rfl (rs_slc_s rfl rfl rfl rfl rfl (by decide) (.inl rfl) (by omega) (by omega) (gR 3 rfl ?_))))))
   rw [show delS l xs=KJ l xs xs.length from by unfold KJ; rw [List.take_length]; rfl]
   exact Qk <| ret_own rfl sm (.keep (by simp only [get,if_true,Nat.zero_add,Int.toNat_natCast,row_take (K:=KJ l xs xs.length) (mid:=mid) (R:=xs.drop xs.length) (f:=cPl) rfl]) rfl .nil) (.cons rfl rfl rfl .nil)
def mcv196:MC:=(.seq (.reg [oN 2 (.mv (.c .nils)) []] false) (.seq (.seq (.reg [oM 6 0 [],oN 7 (.len (.t 6)) [0],oN 8 (.bin .lss (.t 7) (.c (.int .i64 2))) [1]] false) (.cond (.t 8) (.seq (.reg [oM 9 0 [],oM 2 9 [0,0]] false) .ret) .skip)) (.seq (.seq (.reg [oN 3 (.mv (.c (.int .i64 1))) []] false) (.block 0 (.loop (.seq (.seq (.reg [oM 10 3 [],oM 11 0 [],oN 12 (.len (.t 11)) [1],oN 13 (.bin .lss (.t 10) (.t 12)) [0,2]] false) (.cond (.t 13) .skip (.exit 0))) (.seq (.block 1 (.seq (.reg [oM 16 0 [],oM 17 3 [],oN 18 (.ixsl 4 (.t 16) (.t 17)) [0,1],oN 19 (.ld true 4 (.t 18)) [2],oM 20 0 [],oM 21 3 [],oN 22 (.bin .sub (.t 21) (.c (.int .i64 1))) [5],oN 23 (.ixsl 4 (.t 20) (.t 22)) [4,6],oN 24 (.ld true 4 (.t 23)) [7],oN 25 (.aeq false 4 (.t 19) (.t 24)) [3,8]] true) (.cond (.t 25) (.seq (.reg [oM 26 0 [],oM 27 3 [],oN 28 (.slc 4 (.t 26) (some (.t 27)) none) [0,1],oM 4 28 [2,0,1,2]] false) (.seq (.seq (.reg [oN 5 (.mv (.c (.int .i64 1))) []] false) (.block 2 (.loop (.seq (.seq (.reg [oM 29 5 [],oM 30 4 [],oN 31 (.len (.t 30)) [1],oN 32 (.bin .lss (.t 29) (.t 31)) [0,2]] false) (.cond (.t 32) .skip (.exit 2))) (.seq (.block 3 (.seq (.reg [oM 35 4 [],oM 36 5 [],oN 37 (.ixsl 4 (.t 35) (.t 36)) [0,1],oN 38 (.ld true 4 (.t 37)) [2],oM 39 4 [],oM 40 5 [],oN 41 (.bin .sub (.t 40) (.c (.int .i64 1))) [5],oN 42 (.ixsl 4 (.t 39) (.t 41)) [4,6],oN 43 (.ld true 4 (.t 42)) [7],oN 44 (.aeq true 4 (.t 38) (.t 43)) [3,8]] true) (.cond (.t 44) (.seq (.reg [oM 45 0 [],oM 46 3 [],oM 47 4 [],oM 48 5 [],oN 49 (.ixsl 4 (.t 47) (.t 48)) [2,3],oN 50 (.ld true 4 (.t 49)) [4],oN 51 (.ixsl 4 (.t 45) (.t 46)) [0,1,0,1,2,3,4,5],⟨none,(.st 4 (.t 51) (.t 50)),none,[6,5,0,1,2,3,4,5]⟩] false) (.reg [oM 52 3 [],oN 53 (.bin .add (.t 52) (.c (.int .i64 1))) [0],oM 3 53 [1,0,1]] false)) .skip))) (.reg [oM 33 5 [],oN 34 (.bin .add (.t 33) (.c (.int .i64 1))) [0],oM 5 34 [1,0,1]] false)))))) (.seq (.reg [oM 54 0 [],oM 55 3 [],oN 56 (.slc 4 (.t 54) (some (.t 55)) none) [0,1],⟨none,(.clr 4 (.t 56)),none,[2]⟩] false) (.seq (.reg [oM 57 0 [],oM 58 3 [],oN 59 (.slc 4 (.t 57) none (some (.t 58))) [0,1],oM 2 59 [2,0,1,2]] false) .ret)))) .skip))) (.reg [oM 14 3 [],oN 15 (.bin .add (.t 14) (.c (.int .i64 1))) [0],oM 3 15 [1,0,1]] false)))))) (.seq (.reg [oM 60 0 [],oM 2 60 [0,0]] false) .ret))))
theorem mcOkv196:okM Tryz.prog Tryz.f196 61=some mcv196:=by kernel_rfl
set_option maxHeartbeats 1000000 in
theorem vc196 (xs:List Pl) (hxn:xs.length<=1000):FC Tryz.prog 196 [.sl 1005 0 xs.length] [(1005,.cells 90 4 (xs.map cPl) true)] (.sl 1005 0 (cmpS xs).length) [(1005,.cells 90 4 ((cmpS xs).map cPl) true)] true:=by
 refine Qj (nt:=61) Tryz.func196 rfl rfl mcOkv196 (nL rfl) ?_
 delta mcv196
 refine gA 8 rfl (Xi rfl rfl (gR 2 rfl (Qe rfl (fun h8=>?_) (fun h8=>?_))))
 ·replace h8:=of_decide_eq_true h8
  refine gK 6 rfl ?_
  rw [cmpS_short (by omega)]
  exact Qk <| ret_own rfl sm (.keep (rfl) rfl .nil) (.cons rfl rfl rfl .nil)
 ·replace h8:=of_decide_eq_false h8
  refine gK 3 rfl ?_
  obtain ⟨x0,hx0,_⟩:=Qo (L:=xs) (k:=0) (by omega)
  refine gI 4 rfl ?_
  refine Qr (α:=Nat) (fun k=>xs.length-k) (fun k=>[(0,.sl 1005 0 xs.length),(2,.nils),(3,iv (((k):Nat):Int))]) (fun k=>[(1005,.cells 90 4 ((xs).map cPl) true)]) (fun k=>1<=k/\k<=xs.length/\ddN xs k=xs.take k) 1 (⟨by omega,by omega,by rw [ddN_1 hx0,Qv hx0]; rfl⟩)
   (Qa (Qb rfl rfl) (.keep (rfl) rfl (.nil)) ((fun i hi=>by simp [Qf] at hi ⊢; omega))) ?_
  rintro k ⟨hk1,hk,hinv⟩
  refine gT 5 rfl (Xi rfl rfl (gR 2 rfl (Qe rfl (fun h13=>?_) (fun h13=>?_))))
  ·replace h13:=of_decide_eq_true h13
   refine gK 5 rfl ?_
   obtain ⟨x,hxk,hxm⟩:=Qo (L:=xs) (k:=k) (by omega)
   obtain ⟨p,hpk,hpm⟩:=Qo (L:=xs) (k:=k-1) (by omega)
   refine gI 2 rfl (Xf rfl rfl rfl rfl (by omega) (by omega) (gR 0 rfl (rs_ld_ga (f:=cPl) (xs:=xs) (y:=x) rfl rfl rfl hxk (nL rfl) rfl (gR 2 rfl (rs_sub (b:=1) rfl rfl rfl (by omega) (gR 0 rfl (Xf rfl rfl rfl rfl (by omega) (by omega) (gR 0 rfl (rs_ld_ga (f:=cPl) (xs:=xs) (y:=p) rfl rfl rfl (by rw [show ((k:Int)-1).toNat=k-1 by omega]; exact hpk) (nL rfl) rfl (gR 0 rfl (rs_aeq_l (y:=x) (z:=p) rfl rfl rfl ?_)))))))))))
   cases h25:decide (x=p)
   ·skip
    refine gR 0 rfl (QJ (by kernel_rfl) (gP 4 rfl (Qg rfl rfl rfl (by omega) (gR 2 rfl ?_))))
    exact Q8 <| ⟨k+1,⟨by omega,by omega,by rw [ddN_f (by omega) hxk hpk (of_decide_eq_false h25),hinv,Qv hxk]⟩,by omega,Qa (Qb rfl rfl) (.keep (rfl) rfl (.nil)) ((fun i hi=>by simp [Qf] at hi ⊢; omega))⟩
   ·skip
    refine gR 0 rfl (QJ (by kernel_rfl) (gP 2 rfl ?_))
    have ek0:=ddN_t (q:=k) (by omega) hxk hpk (of_decide_eq_true h25)
    rw [hinv] at ek0
    refine gI 3 rfl (rs_slc_s rfl rfl rfl rfl rfl (by omega) (.inr (by omega)) (by omega) (by omega) (gR 8 rfl ?_))
    refine Qr (α:=Nat×List Pl) (fun s=>xs.length-(k+s.1)) (fun s=>[(0,.sl 1005 0 xs.length),(2,.nils),(3,iv ((ddN xs (k+(s.1))).length:Int)),(4,.sl 1005 (0+k) (xs.length-k)),(5,iv (((s.1):Nat):Int))]) (fun s=>[(1005,.cells 90 4 ((ddN xs (k+(s.1))++s.2++xs.drop (k+(s.1)-1)).map cPl) true)]) (fun s=>1<=s.1/\k+s.1<=xs.length/\(ddN xs (k+s.1)).length+s.2.length=k+s.1-1) (1,[]) (⟨Nat.le_refl _,by dsimp only; omega,by dsimp only; rw [ek0]; simp; omega⟩)
     (Qa (.cs (.cs (.cons rfl (rc_int (by rw [ek0]; simp; omega)) (.cs (.cs (.nil)))))) (.keep (by rw [ek0,Nat.add_sub_cancel,List.append_nil,List.take_append_drop]; rfl) rfl (.nil)) ((fun i hi=>by simp [Qf] at hi ⊢; omega))) ?_
    rintro ⟨j,mid⟩ ⟨hj1,hj,hml⟩
    dsimp only at hj1 hj hml ⊢
    refine gT 5 rfl (Xi rfl rfl (gR 2 rfl (Qe rfl (fun h32=>?_) (fun h32=>?_))))
    ·replace h32:=of_decide_eq_true h32
     refine gK 5 rfl ?_
     obtain ⟨x,hxj,hxm⟩:=Qo (L:=xs) (k:=k+j) (by omega)
     obtain ⟨p,hpj,hpm⟩:=Qo (L:=xs) (k:=k+j-1) (by omega)
     refine gI 2 rfl (XS rfl rfl rfl rfl (by omega) (by omega) (gR 0 rfl (rs_ld_ga (f:=cPl) (xs:=ddN xs (k+(j))++mid++xs.drop (k+(j)-1)) (y:=x) rfl rfl rfl (by rw [Nat.zero_add]; exact row_at hml (by omega) hxj) (nL rfl) rfl (gR 2 rfl (rs_sub (b:=1) rfl rfl rfl (by omega) (gR 0 rfl (XS rfl rfl rfl rfl (by omega) (by omega) (gR 0 rfl (rs_ld_ga (f:=cPl) (xs:=ddN xs (k+(j))++mid++xs.drop (k+(j)-1)) (y:=p) rfl rfl rfl (by rw [show 0+k+((j:Int)-1).toNat=k+j-1 by omega]; exact row_at hml (by omega) hpj) (nL rfl) rfl (gR 0 rfl (rs_ane_l (y:=x) (z:=p) rfl rfl rfl ?_)))))))))))
     cases h44:(!decide (x=p))
     ·skip
      refine gR 0 rfl (QJ (by kernel_rfl) (gP 4 rfl (Qg rfl rfl rfl (by omega) (gR 2 rfl ?_))))
      have ek:ddN xs (k+(j+1))=ddN xs (k+j):=ddN_t (q:=k+j) (by omega) hxj hpj (by simpa using h44)
      exact Q8 <| ⟨(j+1,mid++[p]),⟨by dsimp only; omega,by dsimp only; omega,by dsimp only; rw [ek]; simp; omega⟩,by dsimp only; omega,Qa (.cs (.cs (.cons rfl (rc_int (by rw [ek])) (.cs (.cs (.nil)))))) (.keep (by rw [ek,show k+(j+1)-1=k+j-1+1 by omega,← row_f hpj]; rfl) rfl (.nil)) ((fun i hi=>by simp [Qf] at hi ⊢; omega))⟩
     ·skip
      refine gR 0 rfl (QJ (by kernel_rfl) (gP 7 rfl (XS rfl rfl rfl rfl (by omega) (by omega) (gR 0 rfl (rs_ld_ga (f:=cPl) (xs:=ddN xs (k+(j))++mid++xs.drop (k+(j)-1)) (y:=x) rfl rfl rfl (by rw [Nat.zero_add]; exact row_at hml (by omega) hxj) (nL rfl) rfl (gR 0 rfl (Xf rfl rfl rfl rfl (by omega) (by omega) (gR 0 rfl (rs_st_m (f:=cPl) (xs:=ddN xs (k+(j))++mid++xs.drop (k+(j)-1)) (t:=(ddN xs (k+j)).length) (v:=x) (fl':=true) rfl rfl rfl rfl (by rw [row_len hml (by omega)]; omega) rfl rfl (nL rfl) rfl rfl (gR 3 rfl (Qg (b:=1) rfl rfl rfl (by omega) ?_)))))))))))
      refine gR 4 rfl (Qg rfl rfl rfl (by omega) (gR 2 rfl ?_))
      have ek:ddN xs (k+(j+1))=ddN xs (k+j)++[x]:=ddN_f (q:=k+j) (by omega) hxj hpj (by simpa using h44)
      exact Q8 <| ⟨(j+1,(mid++[p]).tail),⟨by dsimp only; omega,by dsimp only; omega,by dsimp only; rw [ek]; simp; omega⟩,by dsimp only; omega,Qa (.cs (.cs (.cons rfl (rc_int (by rw [ek]; simp)) (.cs (.cs (.nil)))))) (.keep (by rw [ek,show k+(j+1)-1=k+j-1+1 by omega,← row_t hpj]; rfl) rfl (.nil)) ((fun i hi=>by simp [Qf] at hi ⊢; omega))⟩
    ·replace h32:=of_decide_eq_false h32
     refine gK 5 rfl (rs_slc_s rfl rfl rfl rfl rfl (by omega) (.inr (by omega)) (by omega) (by omega) (gR 0 rfl (rs_clr rfl rfl rfl (by omega) (by simp) (gR 5 rfl (rs_slc_s rfl rfl rfl rfl rfl (by decide) (.inl rfl) (by omega) (by omega) (gR 3 rfl ?_))))))
     rw [show cmpS xs=ddN xs (k+j) from by unfold cmpS; congr 1; omega]
     exact Qk <| ret_own rfl sm (.keep (by simp only [get,if_true,Nat.zero_add,Int.toNat_natCast,row_take (K:=ddN xs (k+j)) (mid:=mid) (R:=xs.drop (k+j-1)) (f:=cPl) rfl]) rfl .nil) (.cons rfl rfl rfl .nil)
  ·replace h13:=of_decide_eq_false h13
   refine gK 7 rfl ?_
   rw [show cmpS xs=xs from by unfold cmpS; rw [show xs.length=k by omega,hinv,take_all (by omega)]]
   exact Qk <| ret_own rfl sm (.keep (rfl) rfl .nil) (.cons rfl rfl rfl .nil)
def mcv130:MC:=(.seq (.reg [oN 2 (.mv (.c .nils)) []] false) (.seq (.seq (.reg [oM 3 0 [],oN 4 (.isnil true false (.t 3)) [0]] false) (.cond (.t 4) (.seq (.reg [oN 2 (.mv (.c .nils)) []] false) .ret) .skip)) (.seq (.reg [oN 5 (.bslice 90 4 [(.int .i64 0),(.int .i64 0),(.int .i64 0),(.int .i64 0)] 0 []) [],oM 6 0 [],oN 7 (.app 90 4 32 [(.int .i64 0),(.int .i64 0),(.int .i64 0),(.int .i64 0)] (.t 5) (.t 6)) [0,1],oM 2 7 [2,2,0,1,2]] false) .ret)))
theorem mcOkv130:okM Tryz.prog Tryz.f130 8=some mcv130:=by kernel_rfl
theorem vc130 (c0:Pl) (cs:List Pl) (hc:cs.length<=1000):FC Tryz.prog 130 [.rs 4 ((c0::cs).map cPl)] [] (.sl 7 0 (c0::cs).length) [(7,.cells 90 4 ((c0::cs).map cPl) true)] false:=by
 refine Qj (nt:=8) Tryz.func130 rfl rfl mcOkv130 (nL rfl) ?_
 delta mcv130
 refine gA 8 rfl (rs_nil_f rfl rfl (.inl ⟨4,cPl c0,cs.map cPl,rfl⟩) (gR 5 rfl (Qi (l:=[]) (els:=[]) (fl:=true) rfl (by kernel_rfl) rfl rfl rfl rfl (gR 1 rfl (JZ (f:=cPl) (ys:=(c0::cs)) (n:=(c0::cs).length) (rd:=[]) rfl rfl rfl rfl rfl rfl rfl (by simp) (fun _=>rfl) rfl (by simp; omega) (by simp; omega) (fun _=>rfl) (gR 3 rfl ?_))))))
 exact Qk <| Qs rfl (Q3 rfl (.inr rfl)) (.keep rfl rfl (noROE_map (fun _=>rfl) _) .nil)
def mcv191:MC:=(.seq (.reg [oN 2 (.mv (.c .nils)) []] false) (.seq (.seq (.reg [oM 3 0 [],oN 4 (.bslice 85 1 [.nils] 1 [(0,(.t 3))]) [0],oN 5 (.call 133 [(.t 4)]) [1],oN 6 (.un .not (.t 5)) [2]] false) (.cond (.t 6) (.seq (.reg [oN 2 (.mv (.c .nils)) []] false) .ret) .skip)) (.seq (.reg [oM 7 0 [],oN 8 (.bslice 85 1 [.nils] 1 [(0,(.t 7))]) [0],oN 9 (.call 134 [(.t 8)]) [1],oN 10 (.call 161 [(.t 9)]) [2,2],oM 2 10 [3,3,0,1,2,3]] false) .ret)))
theorem mcOkv191:okM Tryz.prog Tryz.f191 11=some mcv191:=by kernel_rfl
theorem vc191 (c:List Pl) (h:OkC c):FC Tryz.prog 191 [.rs 4 (c.map cPl)] [] (.rs 4 ((if XQ [c]=true then Xo (ofS [c]) else []).map cPt)) [] true:=by
 refine Qj (nt:=11) Tryz.func191 rfl rfl mcOkv191 (nL rfl) ?_
 delta mcv191
 refine gA 8 rfl (Qi (l:=(([c]:List (List Pl))).flatMap cR) (els:=(([c]:List (List Pl))).map cR) (fl:=true) rfl (by kernel_rfl) rfl rfl (by kernel_rfl) (by kernel_rfl) (gR 0 rfl (Qx [4] rfl rfl (vc133 [c] (fun x hx=>by rw [List.mem_singleton.1 hx]; have:=h.n; omega) (by simp)) (.cons (QL (f:=cR) (xs:=[c]) (by simp) rfl rfl) (.nil)) rfl ?_)))
 cases h5:XQ [c]
 ·skip
  refine gR 8 rfl ?_
  rw [if_neg (by decide)]
  exact Qk <| Qs rfl QI .nil
 ·skip
  refine gR 7 rfl (Qi (l:=(([c]:List (List Pl))).flatMap cR) (els:=(([c]:List (List Pl))).map cR) (fl:=true) rfl (by kernel_rfl) rfl rfl (by kernel_rfl) (by kernel_rfl) (gR 0 rfl (Qx [8] rfl rfl (vc134 [c] h.fl (by simp)) (.cons (QL (f:=cR) (xs:=[c]) (by simp) rfl rfl) (.nil)) rfl (gR 0 rfl (cN rfl rfl (vc161 (ofS [c]) (OkC.of h5) (okTop_valid (ofS_valid h5))) (gR 3 rfl ?_))))))
  rw [if_pos rfl]
  exact Qk <| Qc rfl rfl rfl (.inl rfl)
end Go.Proofs.YthfhaoogcpfboaaGreat
