/-
  Parts of the proof: W4 VS VT VU W1 VV W2 VX VY VZ X8 X9 XL XB XA XC W5 XH XD XE XF XI XG.
-/
import Derived.Test.YthfhaoogcpfboaaGreatK4
import Derived.Shelf.SlSortCmp.WholeK
import Derived.Shelf.SlSortCmp.NoneTotal
import Derived.WalkKit
import Derived.WalkMore
import Derived.Deep.LoopGhost
set_option linter.unusedVariables false
set_option linter.unusedSimpArgs false
namespace Go.Proofs.YthfhaoogcpfboaaGreat
open Go.RowKit
set_option maxRecDepth 100000
set_option linter.unusedVariables false
section
variable (L E:List Int)
def JV:Int:=2+QQ L 0 3
def pA1:Nat:=XV L 0
def Uq:Bool:=decide (QQ L (pA1 L) 3=2)&&decide (JV L<4)
def pA2:Nat:=XV L (pA1 L)
def pX0:Int := -6+QQ L (pA2 L) 3
def pA3:Nat:=XV L (pA2 L)
def pH:Int:=2+QQ L (pA3 L) 3
def pA4:Nat:=XV L (pA3 L)
structure PSt where
 cells:List (List Pl)
 x:Int
 a:Nat
def pW (s:PSt):Int:=1+QQ L s.a 4
def pB1 (s:PSt):List Pl:=JL ⟨s.x,0,0⟩ ⟨s.x+pW L s,3,pH L⟩
def pB2 (s:PSt):List Pl:=JL ⟨s.x,3,0⟩ ⟨s.x+pW L s,6,pH L⟩
def pStep (s:PSt):PSt:=⟨if Uq L=true then s.cells++[pB1 L s]++[pB2 L s] else s.cells++[pB1 L s],s.x+pW L s,XV L s.a⟩
def pSt:Nat->PSt
 | 0=>⟨[],pX0 L,pA4 L⟩
 | k+1=>pStep L (pSt k)
def JJ:PSt:=pSt L (JV L).toNat
def pA5:Nat:=XV L (JJ L).a
def pCan:Bool:=decide (QQ L (JJ L).a 4=3)&&decide (((JJ L).cells.length:Int)<6)
def pK:Nat:=(QQ L (pA5 L) ((JJ L).cells.length:Int)).toNat
def pA6:Nat:=XV L (pA5 L)
def pP:Pl:=⟨⟨0,1,1⟩,2+QQ L (pA6 L) 4⟩
def pC:List Pl:=(JJ L).cells.getD (pK L) []
def pDo:Bool:=QO (pC L++[pP L])&&QO (pC L++[Jn (pP L)])
def XP:List (List Pl):=if pCan L=true/\pDo L=true then (JJ L).cells.set (pK L) (pC L++[pP L])++[pC L++[Jn (pP L)]] else (JJ L).cells
def pickW (v:Int):Int:=([2,1,3,2]:List Int).getD v.toNat 0
def wSt:Nat->List Int×Nat
 | 0=>([],0)
 | k+1=>((wSt k).1++[pickW (QQ E (wSt k).2 4)],XV E (wSt k).2)
def partS:Pa:=⟨[112],XP L,(wSt E (XP L).length).1⟩
theorem pMany_bd:2<=JV L/\JV L<=4:=by have:=Qv L 0 3 (by decide); unfold JV; omega
theorem pH_bd:2<=pH L/\pH L<=4:=by have:=Qv L (pA3 L) 3 (by decide); unfold pH; omega
theorem pX0_bd : -6<=pX0 L/\pX0 L ≤ -4:=by have:=Qv L (pA2 L) 3 (by decide); unfold pX0; omega
theorem pW_bd (s:PSt):1<=pW L s/\pW L s<=4:=by have:=Qv L s.a 4 (by decide); unfold pW; omega
structure PStI (k:Nat):Prop where
 x : -6<=(pSt L k).x/\(pSt L k).x ≤ -4+4*(k:Int)
 n:(pSt L k).cells.length=if Uq L=true then 2*k else k
 inv:PtI (pSt L k).cells (pSt L k).x
theorem pB1_ok {k:Nat} (hk:k<4) (h:PStI L k):BoxB ⟨(pSt L k).x,0,0⟩ ⟨(pSt L k).x+pW L (pSt L k),3,pH L⟩:=by
 have:=h.x; have:=pH_bd L; have:=pW_bd L (pSt L k)
 exact ⟨by dsimp only; omega,by dsimp only; omega,by dsimp only; omega⟩
theorem pB2_ok {k:Nat} (hk:k<4) (h:PStI L k):BoxB ⟨(pSt L k).x,3,0⟩ ⟨(pSt L k).x+pW L (pSt L k),6,pH L⟩:=by
 have:=h.x; have:=pH_bd L; have:=pW_bd L (pSt L k)
 exact ⟨by dsimp only; omega,by dsimp only; omega,by dsimp only; omega⟩
theorem pSt_ok:∀ k,k<=4->PStI L k
 | 0,_=>⟨by have:=pX0_bd L; exact ⟨this.1,by show pX0 L<=_; omega⟩,by show (0:Nat)=_; split <;> rfl,PtI.nil _⟩
 | k+1,hk=>by
  have h:=pSt_ok k (by omega)
  have hw:=pW_bd L (pSt L k)
  refine ⟨?_,?_,?_⟩
  ·show -6<=(pSt L k).x+pW L (pSt L k)/\(pSt L k).x+pW L (pSt L k)<=_
   have:=h.x; omega
  ·show (if Uq L=true then (pSt L k).cells++[pB1 L (pSt L k)]++[pB2 L (pSt L k)] else (pSt L k).cells++[pB1 L (pSt L k)]).length=_
   have:=h.n
   by_cases ht:Uq L=true
   ·rw [if_pos ht] at this ⊢; rw [if_pos ht]; simp; omega
   ·rw [if_neg ht] at this ⊢; rw [if_neg ht]; simp; omega
  ·show PtI (if Uq L=true then (pSt L k).cells++[pB1 L (pSt L k)]++[pB2 L (pSt L k)] else (pSt L k).cells++[pB1 L (pSt L k)]) ((pSt L k).x+pW L (pSt L k))
   split
   ·rw [List.append_assoc]
    exact h.inv.push2 (pB1_ok L (by omega) h) (pB2_ok L (by omega) h) rfl rfl rfl rfl (by show (3:Int)<=3; omega)
   ·exact h.inv.push (pB1_ok L (by omega) h) rfl rfl
theorem pEnd_ok:PStI L (JV L).toNat:=pSt_ok L _ (by have:=pMany_bd L; omega)
theorem pEnd_n:2<=(JJ L).cells.length/\(JJ L).cells.length<=6:=by
 have h:=(pEnd_ok L).n
 have hm:=pMany_bd L
 show 2<=(pSt L (JV L).toNat).cells.length/\(pSt L (JV L).toNat).cells.length<=6
 rw [h]
 split
 ·rename_i ht
  simp only [Uq,Bool.and_eq_true,decide_eq_true_eq] at ht
  omega
 ·omega
theorem pK_lt:(0<=QQ L (pA5 L) ((JJ L).cells.length:Int)/\QQ L (pA5 L) ((JJ L).cells.length:Int)<(JJ L).cells.length)/\pK L<(JJ L).cells.length:=by
 have h:=pEnd_n L
 have:=Qv L (pA5 L) ((JJ L).cells.length:Int) (by omega)
 unfold pK; omega
theorem pC_at:(JJ L).cells[pK L]?=some (pC L):=by
 have:=(pK_lt L).2
 unfold pC; rw [List.getD_eq_getElem?_getD,List.getElem?_eq_getElem this]; rfl
theorem pC_len:(pC L).length=6:=by
 obtain ⟨lo,hi,e,_⟩:=(pEnd_ok L).inv.box _ (Xr (pC_at L))
 rw [e]; rfl
theorem pP_b:2<=(pP L).b/\(pP L).b<=5:=by have:=Qv L (pA6 L) 4 (by decide); unfold pP; dsimp only; omega
theorem flip_p:Jn (pP L)=⟨⟨0,-1,-1⟩,-(pP L).b⟩:=by
 show (⟨subW ⟨0,0,0⟩ ⟨0,1,1⟩,-(pP L).b⟩:Pl)=_
 rw [show subW ⟨0,0,0⟩ ⟨0,1,1⟩=⟨0,-1,-1⟩ by decide +kernel]
theorem pP_v:Qw (pP L)=true/\Qw (Jn (pP L))=true:=by
 have:=pP_b L
 constructor
 ·exact val_of (n:=⟨0,1,1⟩) (by decide +kernel) (by show _<=(pP L).b/\(pP L).b<=_; omega)
 ·rw [flip_p]; exact val_of (by decide +kernel) (by omega)
theorem pCells_ok:PtC (XP L)/\2<=(XP L).length/\(XP L).length<=6:=by
 have hn:=pEnd_n L
 have hc:=(pEnd_ok L).inv.all
 unfold XP
 split
 ·rename_i h
  obtain ⟨h1,h2⟩:=h
  simp only [pDo,pCan,Bool.and_eq_true,decide_eq_true_eq] at h1 h2
  refine ⟨PtC.cut hc (pC_at L) (by rw [pC_len]; omega) (pP_v L).1 (pP_v L).2 ?_ ?_ h2.1 h2.2,?_⟩
  ·rw [flip_p]; exact ⟨rfl,rfl,rfl⟩
  ·rw [flip_p]; dsimp only; omega
  ·simp; omega
 ·exact ⟨hc,hn⟩
theorem wSt_len:∀ k,(wSt E k).1.length=k
 | 0=>rfl
 | k+1=>by show ((wSt E k).1++[_]).length=_; rw [List.length_append,wSt_len k]; rfl
theorem pickW_bd (a:Nat):1<=pickW (QQ E a 4)/\pickW (QQ E a 4)<=3:=by
 have:=Qv E a 4 (by decide)
 generalize QQ E a 4=v at this
 obtain rfl | rfl | rfl | rfl:v=0\/v=1\/v=2\/v=3:=by omega
 all_goals decide
theorem wSt_ok:∀ k,∀ w∈(wSt E k).1,1<=w/\w<=3
 | 0,w,h=>by cases h
 | k+1,w,h=>by
  rcases List.mem_append.1 h with h | h
  ·exact wSt_ok k w h
  ·rw [List.mem_singleton.1 h]; exact pickW_bd E _
theorem partS_ok:GoodP (partS L E):=⟨(pCells_ok L).2,(pCells_ok L).1,wSt_len E _,wSt_ok E _⟩
end
end Go.Proofs.YthfhaoogcpfboaaGreat
namespace Go.Proofs.YthfhaoogcpfboaaGreat
open Go.RowKit
set_option maxRecDepth 100000
set_option linter.unusedVariables false
theorem verd_1 {p:Pa} {x:Pc} (h:JK p x≠0):Uc p x=JK p x:=if_pos h
theorem verd_2 {p:Pa} {x:Pc} (h:¬ JK p x≠0) (h0:anyK p x 0=true):Uc p x=35:=by unfold Uc; rw [if_neg h,if_pos h0]
theorem verd_3 {p:Pa} {x:Pc} (h:¬ JK p x≠0) (h0:anyK p x 0=false) (h1:anyK p x 1=true):Uc p x=30:=by unfold Uc; rw [if_neg h,if_neg (by rw [h0]; decide),if_pos h1]
theorem verd_4 {p:Pa} {x:Pc} (h:¬ JK p x≠0) (h0:anyK p x 0=false) (h1:anyK p x 1=false) (h2:anyK p x 2=true):Uc p x=34:=by unfold Uc; rw [if_neg h,if_neg (by rw [h0]; decide),if_neg (by rw [h1]; decide),if_pos h2]
theorem verd_5 {p:Pa} {x:Pc} (h:¬ JK p x≠0) (h0:anyK p x 0=false) (h1:anyK p x 1=false) (h2:anyK p x 2=false):Uc p x=0:=by unfold Uc; rw [if_neg h,if_neg (by rw [h0]; decide),if_neg (by rw [h1]; decide),if_neg (by rw [h2]; decide)]
def mcv60:MC:=(sq [oN 2 (.box 31 3 0) [],oN 3 (.box 35 3 1) [],oN 4 (.mv (cI 0)) []] (.seq (sq [oL 10 3 2 [],oL 11 3 3 [],oC 12 81 [10,11] [0,1],oM 5 12 [2,2,0,1,2]] (sq [oM 13 5 [],oB 14 .neq 13 (cI 0) [0]] (.cond 14 (sq [oM 15 5 [],oM 4 15 [0,0]] .ret) .skip))) (sq [oL 16 3 2 [],oL 17 3 3 [],oN 18 (.build [(.str (strN [])),.nils,.nils,.nils,.nils,.nils] [(0,3,16),(3,3,17)]) [0,1],oN 6 (.alloc 144 6 [(.str (strN [])),.nils,.nils,.nils,.nils,.nils]) [],oS 6 6 18 (3::2::up 4)] (.seq (sq [oL 19 6 6 [],oN 20 (.mkbnd 107 19) [0],oN 21 (.build [.nilf,(iv 0)] [(0,1,20),(1,1,(cI 35))]) [1],oL 22 6 6 [],oN 23 (.mkbnd 108 22) [3],oN 24 (.build [.nilf,(iv 0)] [(0,1,23),(1,1,(cI 30))]) [4],oL 25 6 6 [],oN 26 (.mkbnd 109 25) [6],oN 27 (.build [.nilf,(iv 0)] [(0,1,26),(1,1,(cI 34))]) [7],oN 28 (.bslice 145 2 [.nilf,(iv 0)] 3 [(0,21),(1,24),(2,27)]) [2,5,8],oE 29 28 [9],oN 30 (.mv (cI 0)) []] (.block 0 (.loop (sq [oB 31 .lss 30 29 []] (.seq (.cond 31 .skip (.exit 0)) (.seq (.block 1 (sq [oX 32 2 28 30 [],oL 33 2 32 [0],oN 8 (.alloc 145 2 [.nilf,(iv 0)]) [],oS 2 8 33 [2,1,0,1,2]] (sq [oA 34 1 2 [],oD 35 1 34 [0],oE 36 35 [1],oN 37 (.mv (cI 0)) []] (.block 2 (.loop (sq [oB 38 .lss 37 36 []] (.seq (.cond 38 .skip (.exit 2)) (.seq (.block 3 (sq [oM 39 37 [],oM 9 39 [0,0]] (sq [oA 40 0 8 [],oD 41 1 40 [0],oM 42 9 [],oN 43 (.callv 41 [42]) [1,2]] (.cond 43 (sq [oA 44 1 8 [],oD 45 1 44 [0],oM 4 45 [1,0,1]] .ret) .skip)))) (rg [oB 46 .add 37 (cI 1) [],oM 37 46 [0]]))))))))) (rg [oB 47 .add 30 (cI 1) [],oM 30 47 [0]]))))))) (sq [oN 4 (.mv (cI 0)) []] .ret)))))
theorem mcOkv60:okM Tryz.prog Tryz.f60 48=some mcv60:=by kernel_rfl
set_option maxHeartbeats 2000000 in
theorem vc60 (p:Pa) (hp:PaOK p) (x:Pc) (hx:PcOK x):FC Tryz.prog 60 [.agg (cPa p),.agg (cPc x)] [] (iv (Uc p x)) [] false:=by
 have hpn:=hp.n
 have hxn:=hx.n
 refine Qg (nt:=48) Tryz.func60 rfl rfl mcOkv60 (nL rfl) ?_
 delta mcv60
 refine gA 11 rfl (cN rfl rfl (vc81 p hp x hx) (gR 5 rfl (Xv rfl rfl rfl (gR 1 rfl (Qc rfl (fun h14=>?_) (fun h14=>?_))))))
 ·replace h14:=of_decide_eq_true h14
  refine gK 6 rfl ?_
  rw [verd_1 h14]
  exact rQ
 ·replace h14:=of_decide_eq_false h14
  refine gK 2 rfl ?_
  have hfit:JK p x=0:=by omega
  obtain ⟨hl1,hl2,hl3,_,_⟩:=fit_len hfit
  refine gI 11 rfl (rs_mkbnd rfl rfl (gR 2 rfl (rs_mkbnd rfl rfl (gR 2 rfl (rs_mkbnd rfl rfl (gR 1 rfl (rs_bslice (l:=[.bnd (.func 107) (.agg (cJ p x)),iv 35,.bnd (.func 108) (.agg (cJ p x)),iv 30,.bnd (.func 109) (.agg (cJ p x)),iv 34]) (els:=[[.bnd (.func 107) (.agg (cJ p x)),iv 35],[.bnd (.func 108) (.agg (cJ p x)),iv 30],[.bnd (.func 109) (.agg (cJ p x)),iv 34]]) (fl:=false) rfl (by kernel_rfl) rfl rfl (by kernel_rfl) (by kernel_rfl) (gR 0 rfl (QC rfl rfl (gR 3 rfl ?_))))))))))
  refine Qo (α:=Nat) (fun i=>3-i) (fun i=>[(2,.ptr 2 0 0),(28,.sl 28 0 3),(29,iv 3),(30,iv (((i):Nat):Int))]) (fun i=>[(2,.cells 31 3 [cPa p] true),(28,.cells 145 2 [[.bnd (.func 107) (.agg (cJ p x)),iv 35],[.bnd (.func 108) (.agg (cJ p x)),iv 30],[.bnd (.func 109) (.agg (cJ p x)),iv 34]] false)]) (fun i=>i<=3/\(1<=i->anyK p x 0=false)/\(2<=i->anyK p x 1=false)/\(3<=i->anyK p x 2=false)) 0 (⟨by omega,fun h=>by omega,fun h=>by omega,fun h=>by omega⟩)
   (Qb (Qa rfl rfl) (kS rfl rfl) (fun i h=>by cases h)) ?_
  rintro i ⟨hi,hi0,hi1,hi2⟩
  refine gT 5 rfl (Qc rfl (fun h31=>?_) (fun h31=>?_))
  ·replace h31:=of_decide_eq_true h31
   refine gK 5 rfl ?_
   obtain rfl | rfl | rfl:i=0\/i=1\/i=2:=by omega
   ·skip
    refine JG rfl rfl rfl rfl (by decide) (by decide) (gR 8 rfl (Qe rfl rfl (gR 3 rfl ?_)))
    refine Qo (α:=Nat) (fun j=>p.cells.length-j) (fun j=>[(2,.ptr 2 0 0),(28,.sl 28 0 3),(29,iv 3),(30,iv (((0):Nat):Int)),(8,.ptr 8 0 0),(35,.rs 1 (p.cells.map cR)),(36,iv (p.cells.length:Int)),(37,iv (((j):Nat):Int))]) (fun j=>[(2,.cells 31 3 [cPa p] true),(28,.cells 145 2 [[.bnd (.func 107) (.agg (cJ p x)),iv 35],[.bnd (.func 108) (.agg (cJ p x)),iv 30],[.bnd (.func 109) (.agg (cJ p x)),iv 34]] false),(8,.cells 145 2 [[.bnd (.func 107) (.agg (cJ p x)),iv 35]] false)]) (fun j=>j<=p.cells.length/\∀ m,m<j->badK p x 0 m=false) 0 (⟨by omega,fun m hm=>by omega⟩)
     (Qb (Qa rfl rfl) (kS rfl rfl) (fun i h=>by cases h)) ?_
    rintro j ⟨hj,hinv⟩
    refine gT 5 rfl (Qc rfl (fun h38=>?_) (fun h38=>?_))
    ·replace h38:=of_decide_eq_true h38
     refine gK 11 rfl ?_
     obtain ⟨c,hck,hcm⟩:=Qk (L:=p.cells) (k:=j) (by omega)
     obtain ⟨w,hwk,hwm⟩:=Qk (L:=p.want) (k:=j) (by omega)
     refine gI 2 rfl (rs_callb [] rfl rfl (by kernel_rfl) rfl (fc_up (vc107 p x j w c hwk hck (fun q hq=>⟨hp.c c hcm,hx.c q hq⟩) hxn)) (.cons (Qd rfl) (.cons (Qd rfl) .nil)) .nil rfl rfl rfl ?_)
     cases h43:spoiltB p x j
     ·skip
      refine gR 4 rfl (Qf rfl rfl rfl (by omega) (gR 2 rfl ?_))
      exact Qz <| ⟨j+1,⟨by omega,fun m hm=>by rcases Nat.lt_succ_iff_lt_or_eq.1 hm with h | h; exact hinv m h; rw [h]; exact h43⟩,by omega,Qb (Qa rfl rfl) (kS rfl rfl) (fun i h=>by cases h)⟩
     ·skip
      refine gR 9 rfl ?_
      have hk3:anyK p x 0=true:=anyK_t (by omega) h43
      rw [verd_2 h14  hk3]
      exact rQ
    ·replace h38:=of_decide_eq_false h38
     refine gK 2 rfl (Qf rfl rfl rfl (by omega) (gR 2 rfl ?_))
     exact Qz <| ⟨0+1,⟨by decide,fun hm=>anyK_f fun m hm=>hinv m (by omega),fun hm=>absurd hm (by decide),fun hm=>absurd hm (by decide)⟩,by decide,Qb (Qa rfl rfl) (kS rfl rfl) (fun i h=>by cases h)⟩
   ·skip
    refine JG rfl rfl rfl rfl (by decide) (by decide) (gR 8 rfl (Qe rfl rfl (gR 3 rfl ?_)))
    refine Qo (α:=Nat) (fun j=>p.cells.length-j) (fun j=>[(2,.ptr 2 0 0),(28,.sl 28 0 3),(29,iv 3),(30,iv (((1):Nat):Int)),(8,.ptr 8 0 0),(35,.rs 1 (p.cells.map cR)),(36,iv (p.cells.length:Int)),(37,iv (((j):Nat):Int))]) (fun j=>[(2,.cells 31 3 [cPa p] true),(28,.cells 145 2 [[.bnd (.func 107) (.agg (cJ p x)),iv 35],[.bnd (.func 108) (.agg (cJ p x)),iv 30],[.bnd (.func 109) (.agg (cJ p x)),iv 34]] false),(8,.cells 145 2 [[.bnd (.func 108) (.agg (cJ p x)),iv 30]] false)]) (fun j=>j<=p.cells.length/\∀ m,m<j->badK p x 1 m=false) 0 (⟨by omega,fun m hm=>by omega⟩)
     (Qb (Qa rfl rfl) (kS rfl rfl) (fun i h=>by cases h)) ?_
    rintro j ⟨hj,hinv⟩
    refine gT 5 rfl (Qc rfl (fun h38=>?_) (fun h38=>?_))
    ·replace h38:=of_decide_eq_true h38
     refine gK 11 rfl ?_
     obtain ⟨b,hbk,hbm⟩:=Qk (L:=x.touched) (k:=j) (by omega)
     obtain ⟨w,hwk,hwm⟩:=Qk (L:=p.want) (k:=j) (by omega)
     refine gI 2 rfl (rs_callb [] rfl rfl (by kernel_rfl) rfl (fc_up (vc108 p x j w b hwk hbk)) (.cons (Qd rfl) (.cons (Qd rfl) .nil)) .nil rfl rfl rfl ?_)
     cases h43:gougedB p x j
     ·skip
      refine gR 4 rfl (Qf rfl rfl rfl (by omega) (gR 2 rfl ?_))
      exact Qz <| ⟨j+1,⟨by omega,fun m hm=>by rcases Nat.lt_succ_iff_lt_or_eq.1 hm with h | h; exact hinv m h; rw [h]; exact h43⟩,by omega,Qb (Qa rfl rfl) (kS rfl rfl) (fun i h=>by cases h)⟩
     ·skip
      refine gR 9 rfl ?_
      have hk3:anyK p x 1=true:=anyK_t (by omega) h43
      rw [verd_3 h14 (hi0 (by decide)) hk3]
      exact rQ
    ·replace h38:=of_decide_eq_false h38
     refine gK 2 rfl (Qf rfl rfl rfl (by omega) (gR 2 rfl ?_))
     exact Qz <| ⟨1+1,⟨by decide,fun hm=>hi0 (by omega),fun hm=>anyK_f fun m hm=>hinv m (by omega),fun hm=>absurd hm (by decide)⟩,by decide,Qb (Qa rfl rfl) (kS rfl rfl) (fun i h=>by cases h)⟩
   ·skip
    refine JG rfl rfl rfl rfl (by decide) (by decide) (gR 8 rfl (Qe rfl rfl (gR 3 rfl ?_)))
    refine Qo (α:=Nat) (fun j=>p.cells.length-j) (fun j=>[(2,.ptr 2 0 0),(28,.sl 28 0 3),(29,iv 3),(30,iv (((2):Nat):Int)),(8,.ptr 8 0 0),(35,.rs 1 (p.cells.map cR)),(36,iv (p.cells.length:Int)),(37,iv (((j):Nat):Int))]) (fun j=>[(2,.cells 31 3 [cPa p] true),(28,.cells 145 2 [[.bnd (.func 107) (.agg (cJ p x)),iv 35],[.bnd (.func 108) (.agg (cJ p x)),iv 30],[.bnd (.func 109) (.agg (cJ p x)),iv 34]] false),(8,.cells 145 2 [[.bnd (.func 109) (.agg (cJ p x)),iv 34]] false)]) (fun j=>j<=p.cells.length/\∀ m,m<j->badK p x 2 m=false) 0 (⟨by omega,fun m hm=>by omega⟩)
     (Qb (Qa rfl rfl) (kS rfl rfl) (fun i h=>by cases h)) ?_
    rintro j ⟨hj,hinv⟩
    refine gT 5 rfl (Qc rfl (fun h38=>?_) (fun h38=>?_))
    ·replace h38:=of_decide_eq_true h38
     refine gK 11 rfl ?_
     obtain ⟨b,hbk,hbm⟩:=Qk (L:=x.sure) (k:=j) (by omega)
     obtain ⟨w,hwk,hwm⟩:=Qk (L:=p.want) (k:=j) (by omega)
     refine gI 2 rfl (rs_callb [] rfl rfl (by kernel_rfl) rfl (fc_up (vc109 p x j w b hwk hbk)) (.cons (Qd rfl) (.cons (Qd rfl) .nil)) .nil rfl rfl rfl ?_)
     cases h43:leftB p x j
     ·skip
      refine gR 4 rfl (Qf rfl rfl rfl (by omega) (gR 2 rfl ?_))
      exact Qz <| ⟨j+1,⟨by omega,fun m hm=>by rcases Nat.lt_succ_iff_lt_or_eq.1 hm with h | h; exact hinv m h; rw [h]; exact h43⟩,by omega,Qb (Qa rfl rfl) (kS rfl rfl) (fun i h=>by cases h)⟩
     ·skip
      refine gR 9 rfl ?_
      have hk3:anyK p x 2=true:=anyK_t (by omega) h43
      rw [verd_4 h14 (hi0 (by decide)) (hi1 (by decide)) hk3]
      exact rQ
    ·replace h38:=of_decide_eq_false h38
     refine gK 2 rfl (Qf rfl rfl rfl (by omega) (gR 2 rfl ?_))
     exact Qz <| ⟨2+1,⟨by decide,fun hm=>hi0 (by omega),fun hm=>hi1 (by omega),fun hm=>anyK_f fun m hm=>hinv m (by omega)⟩,by decide,Qb (Qa rfl rfl) (kS rfl rfl) (fun i h=>by cases h)⟩
  ·replace h31:=of_decide_eq_false h31
   refine gK 6 rfl ?_
   obtain rfl:i=3:=by omega
   rw [verd_5 h14 (hi0 (by decide)) (hi1 (by decide)) (hi2 (by decide))]
   exact rQ
def mcv16:MC:=(sq [oN 3 (.box 31 3 0) [],oN 4 (.box 35 3 1) [],oN 6 (.mv (.c .nils)) []] (sq [oL 12 3 3 [],oL 13 3 4 [],oC 14 60 [12,13] [0,1],oM 7 14 [2,2,0,1,2]] (sq [oM 15 7 [],oB 16 .eql 15 (cI 0) [0],oM 17 16 [1],pM 18 7 17 false [2],oG 19 (.bin .eql 18 (cI 35)) 17 false [3,2],oN 20 (.pick 17 (.c (.bool true)) 19) [2,4],oM 21 20 [5,2],pM 22 7 21 false [6],oG 23 (.bin .eql 22 (cI 30)) 21 false [7,6],oN 24 (.pick 21 (.c (.bool true)) 23) [6,8],oM 25 24 [9,6],pM 26 7 25 false [10],oG 27 (.bin .eql 26 (cI 34)) 25 false [11,10],oN 28 (.pick 25 (.c (.bool true)) 27) [10,12],oM 8 28 (13::10::up 14)] (.seq (sq [oM 29 8 [],oN 30 (.un .not 29) [0],oM 31 30 [1],pM 32 2 31 false [2],oG 33 (.seq false 32 (.c (.str (strN [])))) 31 false [3,2],oN 34 (.pick 31 (.c (.bool true)) 33) [2,4]] (.cond 34 (sq [oN 6 (.mv (.c .nils)) []] .ret) .skip)) (sq [oN 9 (.mv (.c .nils)) []] (.seq (sq [oA 35 2 3 [],oD 36 1 35 [0],oE 37 36 [1],oN 38 (.mv (cI 0)) []] (.block 0 (.loop (sq [oB 39 .lss 38 37 []] (.seq (.cond 39 .skip (.exit 0)) (.seq (.block 1 (sq [oM 40 38 [],oX 41 1 36 38 [],oD 42 1 41 [1],oM 10 40 [0,0,1,2],oM 11 42 (2::3::up 4)] (dg [oM 43 9 [],oM 44 10 [],oM 45 11 [],oA 46 0 4 [],oD 47 1 46 [3],oM 48 10 [],oX 49 1 47 48 [4,5],oD 50 1 49 [6],oA 51 1 4 [],oD 52 1 51 [8],oM 53 10 [],oX 54 1 52 53 [9,10],oD 55 1 54 [11],oM 56 2 [],oM 57 10 [],oC 58 61 [57] [14],oC 59 40 [56,58] [13,15,15],oN 60 (.build [(iv 0),(iv 0),(.bool false),(.bool false),(.str (strN []))] [(0,1,44),(1,1,45),(2,1,50),(3,1,55),(4,1,59)]) [1,2,7,12,16],oN 61 (.bslice 51 5 [(iv 0),(iv 0),(.bool false),(.bool false),(.str (strN []))] 1 [(0,60)]) [17],oN 62 (.app 51 5 40 [(iv 0),(iv 0),(.bool false),(.bool false),(.str (strN []))] 43 61) [0,18,16],oM 9 62 (19::19::up 20)]))) (rg [oB 63 .add 38 (cI 1) [],oM 38 63 [0]]))))))) (sq [oM 64 9 [],oM 6 64 [0,0]] .ret)))))))
theorem mcOkv16:okM Tryz.prog Tryz.f16 65=some mcv16:=by kernel_rfl
set_option maxHeartbeats 2000000 in
theorem vc16 (p:Pa) (hp:PaOK p) (x:Pc) (hx:PcOK x) (s:List Int) (hs:B8 s/\s.length<=LIM):FC Tryz.prog 16 [.agg (cPa p),.agg (cPc x),.str (strN s)] [] (.rs 5 ((QV p x s).map cLf)) [] false:=by
 have hpn:=hp.n
 have hxn:=hx.n
 refine Qg (nt:=65) Tryz.func16 rfl rfl mcOkv16 (nL rfl) ?_
 delta mcv16
 refine gA 10 rfl (cN rfl rfl (vc60 p hp x hx) (gR 5 rfl (Qx rfl rfl rfl rfl (fun h16=>?_) (fun h16=>?_))))
 ·skip
  refine gR 21 rfl (rs_seq (r:=decide (s=[])) rfl rfl rfl hs.1 (fun x hx=>by cases hx) (by by_cases e:s=[] <;> simp [e]) ?_)
  cases h33:decide (s=[])
  ·skip
   refine gR 5 rfl ?_
   have hfine:fineB (Uc p x)=true:=by unfold fineB; rw [decide_eq_true h16]; rfl
   have hfit:=fine_fit hfine
   obtain ⟨hl1,hl2,hl3,_,_⟩:=fit_len hfit
   refine gI 8 rfl (Qe rfl rfl (gR 3 rfl ?_))
   refine Qo (α:=Nat) (fun k=>p.want.length-k) (fun k=>[(2,.str (strN s)),(4,.ptr 4 0 0),(36,.rs 1 (p.want.map civ)),(37,iv (p.want.length:Int)),(38,iv (((k):Nat):Int)),(9,.sl 901 0 (k))]) (fun k=>[(4,.cells 35 3 [cPc x] true),(901,.cells 51 5 (((List.range (k)).map (Jf p x s)).map cLf) true)]) (fun k=>k<=p.want.length) 0 (by omega)
    (Qb (.cs (.cs (.cs (.cs (.cs (.cons rfl (Xj rfl rfl) (.nil))))))) (.keep (rfl) rfl (.virt rfl (.nil))) (fun i h=>by cases h)) ?_
   intro k hk
   refine gT 5 rfl (Qc rfl (fun h39=>?_) (fun h39=>?_))
   ·replace h39:=of_decide_eq_true h39
    refine gK 6 rfl ?_
    obtain ⟨w,hwk,hwm⟩:=Qk (L:=p.want) (k:=k) (by omega)
    obtain ⟨a,hak,ham⟩:=Qk (L:=x.sure) (k:=k) (by omega)
    obtain ⟨b,hbk,hbm⟩:=Qk (L:=x.touched) (k:=k) (by omega)
    refine Qi (f:=civ) (y:=w) rfl rfl rfl (by omega) hwk (gR 11 rfl (Qi (f:=cB) (y:=a) rfl rfl rfl (by omega) hak (gR 4 rfl (Qi (f:=cB) (y:=b) rfl rfl rfl (by omega) hbk (gR 3 rfl (cN rfl rfl (vc61 (k:Int) ⟨by omega,by omega⟩) (gR 0 rfl (cN rfl rfl (vc40 s (Jd (k:Int)) hs ⟨vint_8 _,Nat.le_trans (Xl _) (by decide)⟩) (gR 1 rfl (bM cLf (([⟨(k:Int),w,a,b,Jl s (Jd (k:Int))⟩]:List Lf)) (by kernel_rfl) (gR 0 rfl ?_)))))))))))
    refine Qq (f:=cLf) (xs:=(List.range k).map (Jf p x s)) (y:=⟨(k:Int),w,a,b,Jl s (Jd (k:Int))⟩) (fl':=true) rfl rfl rfl rfl (by simp) rfl rfl rfl (by decide) rfl (by omega) (by omega) rfl (gR 1 rfl (Q9 (by kernel_rfl) (gP 1 rfl (Qf rfl rfl rfl (by omega) (gR 2 rfl ?_)))))
    exact Qz <| ⟨k+1,by omega,by omega,wR 62 901 (Qa rfl rfl) (.keep (rfl) rfl (.keep (by rw [leaf_snoc hwk hak hbk]; rfl) rfl (.nil))) rfl⟩
   ·replace h39:=of_decide_eq_false h39
    refine gK 7 rfl ?_
    obtain rfl:k=p.want.length:=by omega
    rw [show QV p x s=(List.range p.want.length).map (Jf p x s) from by unfold QV; rw [if_pos ⟨hfine,of_decide_eq_false h33⟩]]
    exact Qt <| Ql rfl (Q5 (f:=cLf) (xs:=(List.range p.want.length).map (Jf p x s)) rfl rfl (by simp) (fun _=>rfl)) .nil
  ·skip
   refine gR 8 rfl ?_
   rw [show QV p x s=[] from by unfold QV; rw [if_neg (fun h=>h.2 (of_decide_eq_true h33))]]
   exact Qt <| Ql rfl Qy .nil
 ·skip
  refine gR 2 rfl (Qx rfl rfl rfl rfl (fun h19=>?_) (fun h19=>?_))
  ·skip
   refine gR 18 rfl (rs_seq (r:=decide (s=[])) rfl rfl rfl hs.1 (fun x hx=>by cases hx) (by by_cases e:s=[] <;> simp [e]) ?_)
   cases h33:decide (s=[])
   ·skip
    refine gR 5 rfl ?_
    have hfine:fineB (Uc p x)=true:=by unfold fineB; rw [decide_eq_false h16,decide_eq_true h19]; rfl
    have hfit:=fine_fit hfine
    obtain ⟨hl1,hl2,hl3,_,_⟩:=fit_len hfit
    refine gI 8 rfl (Qe rfl rfl (gR 3 rfl ?_))
    refine Qo (α:=Nat) (fun k=>p.want.length-k) (fun k=>[(2,.str (strN s)),(4,.ptr 4 0 0),(36,.rs 1 (p.want.map civ)),(37,iv (p.want.length:Int)),(38,iv (((k):Nat):Int)),(9,.sl 901 0 (k))]) (fun k=>[(4,.cells 35 3 [cPc x] true),(901,.cells 51 5 (((List.range (k)).map (Jf p x s)).map cLf) true)]) (fun k=>k<=p.want.length) 0 (by omega)
     (Qb (.cs (.cs (.cs (.cs (.cs (.cons rfl (Xj rfl rfl) (.nil))))))) (.keep (rfl) rfl (.virt rfl (.nil))) (fun i h=>by cases h)) ?_
    intro k hk
    refine gT 5 rfl (Qc rfl (fun h39=>?_) (fun h39=>?_))
    ·replace h39:=of_decide_eq_true h39
     refine gK 6 rfl ?_
     obtain ⟨w,hwk,hwm⟩:=Qk (L:=p.want) (k:=k) (by omega)
     obtain ⟨a,hak,ham⟩:=Qk (L:=x.sure) (k:=k) (by omega)
     obtain ⟨b,hbk,hbm⟩:=Qk (L:=x.touched) (k:=k) (by omega)
     refine Qi (f:=civ) (y:=w) rfl rfl rfl (by omega) hwk (gR 11 rfl (Qi (f:=cB) (y:=a) rfl rfl rfl (by omega) hak (gR 4 rfl (Qi (f:=cB) (y:=b) rfl rfl rfl (by omega) hbk (gR 3 rfl (cN rfl rfl (vc61 (k:Int) ⟨by omega,by omega⟩) (gR 0 rfl (cN rfl rfl (vc40 s (Jd (k:Int)) hs ⟨vint_8 _,Nat.le_trans (Xl _) (by decide)⟩) (gR 1 rfl (bM cLf (([⟨(k:Int),w,a,b,Jl s (Jd (k:Int))⟩]:List Lf)) (by kernel_rfl) (gR 0 rfl ?_)))))))))))
     refine Qq (f:=cLf) (xs:=(List.range k).map (Jf p x s)) (y:=⟨(k:Int),w,a,b,Jl s (Jd (k:Int))⟩) (fl':=true) rfl rfl rfl rfl (by simp) rfl rfl rfl (by decide) rfl (by omega) (by omega) rfl (gR 1 rfl (Q9 (by kernel_rfl) (gP 1 rfl (Qf rfl rfl rfl (by omega) (gR 2 rfl ?_)))))
     exact Qz <| ⟨k+1,by omega,by omega,wR 62 901 (Qa rfl rfl) (.keep (rfl) rfl (.keep (by rw [leaf_snoc hwk hak hbk]; rfl) rfl (.nil))) rfl⟩
    ·replace h39:=of_decide_eq_false h39
     refine gK 7 rfl ?_
     obtain rfl:k=p.want.length:=by omega
     rw [show QV p x s=(List.range p.want.length).map (Jf p x s) from by unfold QV; rw [if_pos ⟨hfine,of_decide_eq_false h33⟩]]
     exact Qt <| Ql rfl (Q5 (f:=cLf) (xs:=(List.range p.want.length).map (Jf p x s)) rfl rfl (by simp) (fun _=>rfl)) .nil
   ·skip
    refine gR 8 rfl ?_
    rw [show QV p x s=[] from by unfold QV; rw [if_neg (fun h=>h.2 (of_decide_eq_true h33))]]
    exact Qt <| Ql rfl Qy .nil
  ·skip
   refine gR 3 rfl (Qx rfl rfl rfl rfl (fun h23=>?_) (fun h23=>?_))
   ·skip
    refine gR 14 rfl (rs_seq (r:=decide (s=[])) rfl rfl rfl hs.1 (fun x hx=>by cases hx) (by by_cases e:s=[] <;> simp [e]) ?_)
    cases h33:decide (s=[])
    ·skip
     refine gR 5 rfl ?_
     have hfine:fineB (Uc p x)=true:=by unfold fineB; rw [decide_eq_false h16,decide_eq_false h19,decide_eq_true h23]; rfl
     have hfit:=fine_fit hfine
     obtain ⟨hl1,hl2,hl3,_,_⟩:=fit_len hfit
     refine gI 8 rfl (Qe rfl rfl (gR 3 rfl ?_))
     refine Qo (α:=Nat) (fun k=>p.want.length-k) (fun k=>[(2,.str (strN s)),(4,.ptr 4 0 0),(36,.rs 1 (p.want.map civ)),(37,iv (p.want.length:Int)),(38,iv (((k):Nat):Int)),(9,.sl 901 0 (k))]) (fun k=>[(4,.cells 35 3 [cPc x] true),(901,.cells 51 5 (((List.range (k)).map (Jf p x s)).map cLf) true)]) (fun k=>k<=p.want.length) 0 (by omega)
      (Qb (.cs (.cs (.cs (.cs (.cs (.cons rfl (Xj rfl rfl) (.nil))))))) (.keep (rfl) rfl (.virt rfl (.nil))) (fun i h=>by cases h)) ?_
     intro k hk
     refine gT 5 rfl (Qc rfl (fun h39=>?_) (fun h39=>?_))
     ·replace h39:=of_decide_eq_true h39
      refine gK 6 rfl ?_
      obtain ⟨w,hwk,hwm⟩:=Qk (L:=p.want) (k:=k) (by omega)
      obtain ⟨a,hak,ham⟩:=Qk (L:=x.sure) (k:=k) (by omega)
      obtain ⟨b,hbk,hbm⟩:=Qk (L:=x.touched) (k:=k) (by omega)
      refine Qi (f:=civ) (y:=w) rfl rfl rfl (by omega) hwk (gR 11 rfl (Qi (f:=cB) (y:=a) rfl rfl rfl (by omega) hak (gR 4 rfl (Qi (f:=cB) (y:=b) rfl rfl rfl (by omega) hbk (gR 3 rfl (cN rfl rfl (vc61 (k:Int) ⟨by omega,by omega⟩) (gR 0 rfl (cN rfl rfl (vc40 s (Jd (k:Int)) hs ⟨vint_8 _,Nat.le_trans (Xl _) (by decide)⟩) (gR 1 rfl (bM cLf (([⟨(k:Int),w,a,b,Jl s (Jd (k:Int))⟩]:List Lf)) (by kernel_rfl) (gR 0 rfl ?_)))))))))))
      refine Qq (f:=cLf) (xs:=(List.range k).map (Jf p x s)) (y:=⟨(k:Int),w,a,b,Jl s (Jd (k:Int))⟩) (fl':=true) rfl rfl rfl rfl (by simp) rfl rfl rfl (by decide) rfl (by omega) (by omega) rfl (gR 1 rfl (Q9 (by kernel_rfl) (gP 1 rfl (Qf rfl rfl rfl (by omega) (gR 2 rfl ?_)))))
      exact Qz <| ⟨k+1,by omega,by omega,wR 62 901 (Qa rfl rfl) (.keep (rfl) rfl (.keep (by rw [leaf_snoc hwk hak hbk]; rfl) rfl (.nil))) rfl⟩
     ·replace h39:=of_decide_eq_false h39
      refine gK 7 rfl ?_
      obtain rfl:k=p.want.length:=by omega
      rw [show QV p x s=(List.range p.want.length).map (Jf p x s) from by unfold QV; rw [if_pos ⟨hfine,of_decide_eq_false h33⟩]]
      exact Qt <| Ql rfl (Q5 (f:=cLf) (xs:=(List.range p.want.length).map (Jf p x s)) rfl rfl (by simp) (fun _=>rfl)) .nil
    ·skip
     refine gR 8 rfl ?_
     rw [show QV p x s=[] from by unfold QV; rw [if_neg (fun h=>h.2 (of_decide_eq_true h33))]]
     exact Qt <| Ql rfl Qy .nil
   ·skip
    refine gR 3 rfl (Qx rfl rfl rfl rfl (fun h27=>?_) (fun h27=>?_))
    ·skip
     refine gR 10 rfl (rs_seq (r:=decide (s=[])) rfl rfl rfl hs.1 (fun x hx=>by cases hx) (by by_cases e:s=[] <;> simp [e]) ?_)
     cases h33:decide (s=[])
     ·skip
      refine gR 5 rfl ?_
      have hfine:fineB (Uc p x)=true:=by unfold fineB; rw [decide_eq_false h16,decide_eq_false h19,decide_eq_false h23,decide_eq_true h27]; rfl
      have hfit:=fine_fit hfine
      obtain ⟨hl1,hl2,hl3,_,_⟩:=fit_len hfit
      refine gI 8 rfl (Qe rfl rfl (gR 3 rfl ?_))
      refine Qo (α:=Nat) (fun k=>p.want.length-k) (fun k=>[(2,.str (strN s)),(4,.ptr 4 0 0),(36,.rs 1 (p.want.map civ)),(37,iv (p.want.length:Int)),(38,iv (((k):Nat):Int)),(9,.sl 901 0 (k))]) (fun k=>[(4,.cells 35 3 [cPc x] true),(901,.cells 51 5 (((List.range (k)).map (Jf p x s)).map cLf) true)]) (fun k=>k<=p.want.length) 0 (by omega)
       (Qb (.cs (.cs (.cs (.cs (.cs (.cons rfl (Xj rfl rfl) (.nil))))))) (.keep (rfl) rfl (.virt rfl (.nil))) (fun i h=>by cases h)) ?_
      intro k hk
      refine gT 5 rfl (Qc rfl (fun h39=>?_) (fun h39=>?_))
      ·replace h39:=of_decide_eq_true h39
       refine gK 6 rfl ?_
       obtain ⟨w,hwk,hwm⟩:=Qk (L:=p.want) (k:=k) (by omega)
       obtain ⟨a,hak,ham⟩:=Qk (L:=x.sure) (k:=k) (by omega)
       obtain ⟨b,hbk,hbm⟩:=Qk (L:=x.touched) (k:=k) (by omega)
       refine Qi (f:=civ) (y:=w) rfl rfl rfl (by omega) hwk (gR 11 rfl (Qi (f:=cB) (y:=a) rfl rfl rfl (by omega) hak (gR 4 rfl (Qi (f:=cB) (y:=b) rfl rfl rfl (by omega) hbk (gR 3 rfl (cN rfl rfl (vc61 (k:Int) ⟨by omega,by omega⟩) (gR 0 rfl (cN rfl rfl (vc40 s (Jd (k:Int)) hs ⟨vint_8 _,Nat.le_trans (Xl _) (by decide)⟩) (gR 1 rfl (bM cLf (([⟨(k:Int),w,a,b,Jl s (Jd (k:Int))⟩]:List Lf)) (by kernel_rfl) (gR 0 rfl ?_)))))))))))
       refine Qq (f:=cLf) (xs:=(List.range k).map (Jf p x s)) (y:=⟨(k:Int),w,a,b,Jl s (Jd (k:Int))⟩) (fl':=true) rfl rfl rfl rfl (by simp) rfl rfl rfl (by decide) rfl (by omega) (by omega) rfl (gR 1 rfl (Q9 (by kernel_rfl) (gP 1 rfl (Qf rfl rfl rfl (by omega) (gR 2 rfl ?_)))))
       exact Qz <| ⟨k+1,by omega,by omega,wR 62 901 (Qa rfl rfl) (.keep (rfl) rfl (.keep (by rw [leaf_snoc hwk hak hbk]; rfl) rfl (.nil))) rfl⟩
      ·replace h39:=of_decide_eq_false h39
       refine gK 7 rfl ?_
       obtain rfl:k=p.want.length:=by omega
       rw [show QV p x s=(List.range p.want.length).map (Jf p x s) from by unfold QV; rw [if_pos ⟨hfine,of_decide_eq_false h33⟩]]
       exact Qt <| Ql rfl (Q5 (f:=cLf) (xs:=(List.range p.want.length).map (Jf p x s)) rfl rfl (by simp) (fun _=>rfl)) .nil
     ·skip
      refine gR 8 rfl ?_
      rw [show QV p x s=[] from by unfold QV; rw [if_neg (fun h=>h.2 (of_decide_eq_true h33))]]
      exact Qt <| Ql rfl Qy .nil
    ·skip
     refine gR 19 rfl ?_
     rw [show QV p x s=[] from by unfold QV; rw [if_neg (fun h=>by have h1:=h.1; unfold fineB at h1; rw [decide_eq_false h16,decide_eq_false h19,decide_eq_false h23,decide_eq_false h27] at h1; cases h1)]]
     exact Qt <| Ql rfl Qy .nil
end Go.Proofs.YthfhaoogcpfboaaGreat
namespace Go.Proofs.YthfhaoogcpfboaaGreat
open Go.RowKit
set_option maxRecDepth 100000
set_option linter.unusedVariables false
def exBox (k:Nat):List Pl:=JL ⟨k,0,0⟩ ⟨k+1,1,1⟩
def exBs (k:Nat):List (List Pl):=(List.range k).map exBox
def exWs (k:Nat):List Int:=(List.range k).map fun (i:Nat)=>(i:Int)+1
theorem exBs_succ (k:Nat):exBs (k+1)=exBs k++[exBox k]:=by unfold exBs; rw [List.range_succ,List.map_append]; rfl
theorem exWs_succ (k:Nat):exWs (k+1)=exWs k++[(k:Int)+1]:=by unfold exWs; rw [List.range_succ,List.map_append]; rfl
theorem exBs_len (k:Nat):(exBs k).length=k:=by simp [exBs]
theorem exWs_len (k:Nat):(exWs k).length=k:=by simp [exWs]
def exA:Pa:=⟨[],exBs 3,exWs 3⟩
def exX:Pc:=⟨[false,true,false],[false,true,false],[]⟩
theorem exA_ok:PaOK exA:=⟨by decide,by decide,by decide⟩
theorem exX_ok:PcOK exX:=⟨by decide,by decide⟩
def exL:List Lf:=QV exA exX [115]
def ixF:Nat->List Lf->Bool
 | _,[]=>true
 | k,x::l=>decide (x.ix=(k:Int))&&ixF (k+1) l
theorem ixF_at {l:List Lf} {k:Nat} {x:Lf} (h:l[k]?=some x):ixF k (l.drop k)=(decide (x.ix=(k:Int))&&ixF (k+1) (l.drop (k+1))):=by rw [Jo h]; rfl
theorem ixF_ix:∀ {l:List Lf} {k:Nat},ixF k l=true->∀ (i:Nat) (x:Lf),l[i]?=some x->x.ix=((k+i:Nat):Int)
 | [],k,_,i,x,h=>by simp at h
 | y::l,k,hl,i,x,h=>by
  simp only [ixF,Bool.and_eq_true,decide_eq_true_eq] at hl
  cases i with
  | zero=>simp at h; subst h; exact hl.1
  | succ i=>rw [ixF_ix hl.2 i x (by simpa using h)]; omega
def Xx (ls:List Lf) (w:List Int):Int:=if ls.length=0\/ls.length>16 then 2 else if ixF 0 ls=false then 4 else if w.any (Um ls.length)=true then 5 else if incF (ls.length:Int) (-1) w=false then 7 else 0
def Je (ls:List Lf) (w:List Int):Shn:=if Xx ls w=0 then showS ls w else ⟨0,[],[]⟩
theorem shE_2 {ls:List Lf} {w:List Int} (h:ls.length=0\/ls.length>16):Xx ls w=2:=if_pos h
theorem shE_4 {ls:List Lf} {w:List Int} (h:¬ (ls.length=0\/ls.length>16)) (h2:ixF 0 ls=false):Xx ls w=4:=by unfold Xx; rw [if_neg h,if_pos h2]
theorem shE_5 {ls:List Lf} {w:List Int} (h:¬ (ls.length=0\/ls.length>16)) (h2:ixF 0 ls=true) (h3:w.any (Um ls.length)=true):Xx ls w=5:=by unfold Xx; rw [if_neg h,if_neg (by rw [h2]; decide),if_pos h3]
theorem shE_7 {ls:List Lf} {w:List Int} (h:¬ (ls.length=0\/ls.length>16)) (h2:ixF 0 ls=true) (h3:w.any (Um ls.length)=false) (h4:incF (ls.length:Int) (-1) w=false):Xx ls w=7:=by unfold Xx; rw [if_neg h,if_neg (by rw [h2]; decide),if_neg (by rw [h3]; decide),if_pos h4]
theorem shE_0 {ls:List Lf} {w:List Int} (h:¬ (ls.length=0\/ls.length>16)) (h2:ixF 0 ls=true) (h3:w.any (Um ls.length)=false) (h4:incF (ls.length:Int) (-1) w=true):Xx ls w=0:=by unfold Xx; rw [if_neg h,if_neg (by rw [h2]; decide),if_neg (by rw [h3]; decide),if_neg (by rw [h4]; decide)]
theorem shG_e {ls:List Lf} {w:List Int} {e:Int} (h:Xx ls w=e) (h0:e≠0):Je ls w=⟨0,[],[]⟩:=by unfold Je; rw [if_neg (by rw [h]; exact h0)]
theorem shG_0 {ls:List Lf} {w:List Int} (h:Xx ls w=0):Je ls w=showS ls w:=if_pos h
theorem out_bd {n:Nat} {w:List Int} (h:w.any (Um n)=false):∀ x∈w,0<=x/\x<(n:Int):=fun x hx=>by
 have:=List.any_eq_false.1 h x hx
 simp only [Um,Bool.or_eq_true,decide_eq_true_eq] at this
 omega
theorem showG_8 {ls:List Lf} {w:List Int}:∀ d∈(Je ls w).hid,B8 d/\d.length<=LIM:=fun d hd=>by
 unfold Je at hd
 split at hd
 ·obtain ⟨s,_,rfl⟩:=List.mem_map.1 hd
  exact (ofK_ok ls).tree _ _
 ·cases hd
def shB (ls:List Lf) (w:List Int) (want:List (List Int)):Bool:=decide (Xx ls w=0)&&(decide ((Je ls w).size=ls.length)&&(decide ((Je ls w).hid=want)&&decide (((Je ls w).leaves.length:Int)=w.length)))
def mcv39:MC:=(sq [oN 0 (.mv (.c .nils)) []] (sq [oN 1 (.alloc 31 3 [(.str (strN [])),.nils,.nils]) []] (.seq (sq [oN 2 (.mv (cI 0)) []] (.block 0 (.loop (.seq (sq [oM 3 2 [],oB 4 .lss 3 (cI 3) [0]] (.cond 4 .skip (.exit 0))) (.seq (.block 1 (dq [oA 7 1 1 [],oD 8 1 7 [0],oM 9 2 [],oN 10 (.build (iz 3) [(0,1,9)]) [2],oM 11 2 [],oB 12 .add 11 (cI 1) [4],oN 13 (.build (iz 3) [(0,1,12),(1,1,(cI 1)),(2,1,(cI 1))]) [5],oC 14 47 [10,13] [3,6],oN 15 (.bslice 85 1 [.nils] 1 [(0,14)]) [7],oN 16 (.app 85 1 24 [.nils] 8 15) [1,8,7],oA 17 1 1 (up 10),oS 1 17 16 (10::9::9::up 10)] (rg [oA 18 2 1 [],oD 19 1 18 [0],oM 20 2 [],oB 21 .add 20 (cI 1) [2],oN 22 (.bslice 3 1 [(iv 0)] 1 [(0,21)]) [3],oN 23 (.app 3 1 8 [(iv 0)] 19 22) [1,4],oA 24 2 1 (up 6),oS 1 24 23 (6::5::5::up 6)]))) (rg [oM 5 2 [],oB 6 .add 5 (cI 1) [0],oM 2 6 [1,0,1]])))))) (sq [oL 25 3 1 [],oN 26 (.bslice 4 1 [(.bool false)] 3 [(0,(.c (.bool false))),(1,(.c (.bool true))),(2,(.c (.bool false)))]) [],oN 27 (.bslice 4 1 [(.bool false)] 3 [(0,(.c (.bool false))),(1,(.c (.bool true))),(2,(.c (.bool false)))]) [],oN 28 (.build [.nils,.nils,.nils] [(0,1,26),(1,1,27)]) [1,2],oC 29 16 [25,28,(.c (.str (strN [115])))] [0,3],oM 0 29 (4::4::up 5)] .ret))))
theorem mcOkv39:okM Tryz.prog Tryz.f39 30=some mcv39:=by kernel_rfl
set_option maxHeartbeats 1000000 in
theorem vc39  : FC Tryz.prog 39 [] [] (.rs 5 (exL.map cLf)) [] true:=by
 refine Qg (nt:=30) Tryz.func39 rfl rfl mcOkv39 (nL rfl) ?_
 delta mcv39
 refine gA 14 rfl (QH (F0:=[(1,.ptr 1 0 0),(2,iv (((0):Nat):Int))]) (H0:=[(1,.cells 31 3 [[.str (strN []),.sl 905 0 (0),.sl 906 0 (0)]] false),(905,.cells 85 1 ((exBs (0)).map cR) true),(906,.cells 3 1 ((exWs (0)).map civ) true)]) (Weak.trans (F1:=[(1,.ptr 1 0 0),(2,iv (((0):Nat):Int))]) (H1:=[(1,.cells 31 3 [[.str (strN []),.nils,.nils]] true)]) (Qb (Qa rfl rfl) (kS rfl rfl) fun i h=>by cases h) (Weak.trans (F1:=[(1,.ptr 1 0 0),(2,iv (((0):Nat):Int))]) (H1:=[(1,.cells 31 3 [[.str (strN []),.sl 905 0 0,.nils]] false),(905,.cells 85 1 ((exBs (0)).map cR) true)]) (Weak.trans (F1:=[(1,.ptr 1 0 0),(2,iv (((0):Nat):Int))]) (Xy (i:=905) (k:=1) (e2:=85) (z2:=1) (fl2:=true) rfl rfl (.next .here)) (Qb (Qa rfl rfl) (kS rfl rfl) fun i h=>by cases h)) (Weak.trans (F1:=[(1,.ptr 1 0 0),(2,iv (((0):Nat):Int))]) (Xy (i:=906) (k:=1) (e2:=3) (z2:=1) (fl2:=true) rfl rfl (.next (.next .here))) (Qb (Qa rfl rfl) (kS rfl rfl) fun i h=>by cases h)))) ?_)
 refine Qo (α:=Nat) (fun k=>3-k) (fun k=>[(1,.ptr 1 0 0),(2,iv (((k):Nat):Int))]) (fun k=>[(1,.cells 31 3 [[.str (strN []),.sl 905 0 (k),.sl 906 0 (k)]] false),(905,.cells 85 1 ((exBs (k)).map cR) true),(906,.cells 3 1 ((exWs (k)).map civ) true)]) (fun k=>k<=3) 0 (by omega)
  (Qb (Qa rfl rfl) (kS rfl rfl) (fun i h=>by cases h)) ?_
 intro k hk
 refine gT 6 rfl (Qc rfl (fun h4=>?_) (fun h4=>?_))
 ·replace h4:=of_decide_eq_true h4
  refine gK 10 rfl (Qf rfl rfl rfl (by omega) (gR 1 rfl (cN rfl rfl (vc47 ⟨k,0,0⟩ ⟨k+1,1,1⟩ ⟨by dsimp only; omega,by dsimp only; omega,by dsimp only; omega⟩) (gR 0 rfl (bM cR (([exBox k]:List (List Pl))) (by kernel_rfl) (gR 0 rfl (Qq (f:=cR) (xs:=exBs k) (y:=exBox k) (fl':=true) rfl rfl rfl rfl (exBs_len k) rfl rfl rfl (by decide) rfl (by omega) (by omega) rfl (gR 2 rfl (Q9 (by kernel_rfl) (gP 4 rfl (Qf rfl rfl rfl (by omega) ?_)))))))))))
  refine gR 0 rfl (bM civ (([(k:Int)+1]:List Int)) (by kernel_rfl) (gR 0 rfl (Qq (f:=civ) (xs:=exWs k) (y:=(k:Int)+1) (fl':=true) rfl rfl rfl rfl (exWs_len k) rfl rfl rfl (by decide) rfl (by omega) (by omega) rfl (gR 5 rfl (Qf rfl rfl rfl (by omega) (gR 2 rfl ?_))))))
  exact Qz <| ⟨k+1,by omega,by omega,Weak.trans (F1:=[(1,.ptr 1 0 0),(2,iv (((k+1):Nat):Int))]) (H1:=[(1,.cells 31 3 [[.str (strN []),.sl 905 0 (k+1),.sl 23 0 (k+1)]] false),(905,.cells 85 1 ((exBs (k+1)).map cR) true),(23,.cells 3 1 ((exWs (k+1)).map civ) true)]) (show Weak _ _ _ _ [(1,.ptr 1 0 0),(2,iv (((k+1):Nat):Int))] [(1,.cells 31 3 [[.str (strN []),.sl 905 0 (k+1),.sl 23 0 (k+1)]] false),(905,.cells 85 1 ((exBs (k+1)).map cR) true),(23,.cells 3 1 ((exWs (k+1)).map civ) true)] from Weak.trans (F1:=[(1,.ptr 1 0 0),(2,iv (((k+1):Nat):Int))]) (H1:=[(1,.cells 31 3 [[.str (strN []),.sl 16 0 (k+1),.sl 23 0 (k+1)]] false),(16,.cells 85 1 ((exBs (k+1)).map cR) true),(23,.cells 3 1 ((exWs (k+1)).map civ) true)]) (Qb (Qa rfl rfl) (.keep (rfl) rfl (.keep (by rw [exBs_succ]; rfl) rfl (.keep (by rw [exWs_succ]; rfl) rfl (.nil)))) fun i h=>by cases h) (Weak.trans (F1:=[(1,.ptr 1 0 0),(2,iv (((k+1):Nat):Int))]) (QN (i:=16) (i':=905) (k:=1) rfl rfl (.cons rfl (.same _) (.cons rfl (.same _) (.nil))) (by decide) rfl (.cons (.same _) (.cons (.sl _ _) (RenL.refl _ _ _)))) (Qb (Qa rfl rfl) (kS rfl rfl) fun i h=>by cases h))) (show Weak _ _ _ _ [(1,.ptr 1 0 0),(2,iv (((k+1):Nat):Int))] [(1,.cells 31 3 [[.str (strN []),.sl 905 0 (k+1),.sl 906 0 (k+1)]] false),(905,.cells 85 1 ((exBs (k+1)).map cR) true),(906,.cells 3 1 ((exWs (k+1)).map civ) true)] from Weak.trans (F1:=[(1,.ptr 1 0 0),(2,iv (((k+1):Nat):Int))]) (H1:=[(1,.cells 31 3 [[.str (strN []),.sl 905 0 (k+1),.sl 23 0 (k+1)]] false),(905,.cells 85 1 ((exBs (k+1)).map cR) true),(23,.cells 3 1 ((exWs (k+1)).map civ) true)]) (Qb (Qa rfl rfl) (kS rfl rfl) fun i h=>by cases h) (Weak.trans (F1:=[(1,.ptr 1 0 0),(2,iv (((k+1):Nat):Int))]) (QN (i:=23) (i':=906) (k:=1) rfl rfl (.cons rfl (.same _) (.cons rfl (.same _) (.nil))) (by decide) rfl (.cons (.same _) (.cons (.same _) (.cons (.sl _ _) (RenL.refl _ _ _))))) (Qb (Qa rfl rfl) (kS rfl rfl) fun i h=>by cases h)))⟩
 ·replace h4:=of_decide_eq_false h4
  refine gK 2 rfl ?_
  obtain rfl:k=3:=by omega
  refine gI 2 rfl (bM cB (([false,true,false]:List Bool)) (by kernel_rfl) (gR 0 rfl (bM cB (([false,true,false]:List Bool)) (by kernel_rfl) (gR 1 rfl (QD [905,906,26,27] rfl rfl (vc16 exA exA_ok exX exX_ok [115] ⟨b8_c,by decide⟩) (.cons (hv_agg (.cons (Qd rfl) (.cons (QW (f:=cR) (xs:=exBs 3) (by simp) rfl rfl) (.cons (QW (f:=civ) (xs:=exWs 3) (by simp) rfl rfl) .nil)))) (.cons (hv_agg (.cons (QW (f:=cB) (xs:=([false,true,false]:List Bool)) (by simp) rfl rfl) (.cons (QW (f:=cB) (xs:=([false,true,false]:List Bool)) (by simp) rfl rfl) (.cons hv_nils .nil)))) (.cons (Qd rfl) (.nil)))) rfl (gR 3 rfl ?_))))))
  exact Qt <| Jk rfl rfl rfl (.inl rfl)
set_option maxHeartbeats 2000000 in
theorem vc22 (ls:List Lf) (hl:ls.length<=64) (hok:∀ x∈ls,x.OK) (w:List Int) (hwl:w.length<=64):FC Tryz.prog 22 [.rs 5 (ls.map cLf),.rs 1 (w.map civ)] [] (.tup [.agg (cSh (Je ls w)),iv (Xx ls w)]) [] false:=by
 refine Qg (nt:=90) Tryz.func22 rfl rfl mcOkv22 (nL rfl) ?_
 delta mcv22
 refine gA 8 rfl (Qe rfl rfl (gR 7 rfl (Qx rfl rfl rfl rfl (fun h17=>?_) (fun h17=>?_))))
 ·skip
  refine gR 13 rfl ?_
  have he:Xx ls w=2:=shE_2 (by omega)
  rw [shG_e he (by decide),he]
  exact Qt <| Ql rfl (QI (.cons (Xg (.cons (Qs rfl (.inr rfl)) (.cons Qy (.cons Qy .nil)))) (.cons (Qs rfl (.inr rfl)) .nil))) .nil
 ·skip
  refine gR 2 rfl (Qx rfl rfl rfl rfl (fun h20=>?_) (fun h20=>?_))
  ·skip
   refine gR 10 rfl ?_
   have he:Xx ls w=2:=shE_2 (by omega)
   rw [shG_e he (by decide),he]
   exact Qt <| Ql rfl (QI (.cons (Xg (.cons (Qs rfl (.inr rfl)) (.cons Qy (.cons Qy .nil)))) (.cons (Qs rfl (.inr rfl)) .nil))) .nil
  ·skip
   refine gR 8 rfl (Qe rfl rfl (gR 3 rfl ?_))
   refine Qo (α:=Nat) (fun k=>ls.length-k) (fun k=>[(0,.rs 5 (ls.map cLf)),(1,.rs 1 (w.map civ)),(4,.ptr 4 0 0),(6,.ptr 6 0 0),(23,.rs 5 (ls.map cLf)),(24,iv (ls.length:Int)),(25,iv (((k):Nat):Int))]) (fun k=>[(4,.cells 55 3 [[iv 0,.nils,.nils]] true),(6,.cells 3 1 [[iv (ls.length:Int)]] true)]) (fun k=>k<=ls.length/\ixF k (ls.drop k)=ixF 0 ls) 0 (⟨by omega,rfl⟩)
    (Qb (Qa rfl rfl) (kS rfl rfl) (fun i h=>by cases h)) ?_
   rintro k ⟨hk,hinv⟩
   refine gT 5 rfl (Qc rfl (fun h26=>?_) (fun h26=>?_))
   ·replace h26:=of_decide_eq_true h26
    refine gK 6 rfl ?_
    obtain ⟨x,hxk,hxm⟩:=Qk (L:=ls) (k:=k) (by omega)
    refine Qi (f:=cLf) (y:=x) rfl rfl rfl (by omega) hxk (gR 0 rfl (Q8 (cs:=cLf x) rfl rfl (nL rfl) rfl (gR 9 rfl (Xv rfl rfl rfl (gR 1 rfl (Qc rfl (fun h33=>?_) (fun h33=>?_)))))))
    ·replace h33:=of_decide_eq_true h33
     refine gK 7 rfl ?_
     have he:Xx ls w=4:=shE_4 (by omega) (by rw [← hinv,ixF_at hxk,decide_eq_false h33]; rfl)
     rw [shG_e he (by decide),he]
     exact Qt <| Ql rfl (QI (.cons (Xg (.cons (Qs rfl (.inr rfl)) (.cons Qy (.cons Qy .nil)))) (.cons (Qs rfl (.inr rfl)) .nil))) .nil
    ·replace h33:=of_decide_eq_false h33
     refine gK 2 rfl (Qf rfl rfl rfl (by omega) (gR 2 rfl ?_))
     rw [ixF_at hxk,decide_eq_true (Decidable.byContradiction h33),Bool.true_and] at hinv
     exact Qz <| ⟨k+1,⟨by omega,hinv⟩,by omega,Qb (Qa rfl rfl) (kS rfl rfl) (fun i h=>by cases h)⟩
   ·replace h26:=of_decide_eq_false h26
    refine gK 3 rfl ?_
    have hix:ixF 0 ls=true:=by rw [← hinv,List.drop_eq_nil_of_le (by omega)]; rfl
    refine QH (F0:=[(0,.rs 5 (ls.map cLf)),(1,.rs 1 (w.map civ)),(4,.ptr 4 0 0),(6,.rp [iv (ls.length:Int)])]) (H0:=[(4,.cells 55 3 [[iv 0,.nils,.nils]] true)]) (Qb (.cs (.cs (.cs (.cons rfl (Jc rfl rfl (.inl rfl)) (.nil))))) (kS rfl rfl) fun i h=>by cases h) (gK 3 rfl (cN rfl rfl (vcC_out ls.length w (by omega)) ?_))
    cases h38:w.any (Um ls.length)
    ·skip
     refine gR 12 rfl ?_
     have hbd:=out_bd h38
     refine QH (F0:=[(0,.rs 5 (ls.map cLf)),(1,.rs 1 (w.map civ)),(4,.ptr 4 0 0),(6,.rp [iv (ls.length:Int)]),(9,.ptr 9 0 0)]) (H0:=[(4,.cells 55 3 [[iv 0,.nils,.nils]] true),(9,.cells 55 3 [[iv (ls.length:Int),.sl 905 0 (0),.sl 906 0 (0)]] false),(905,.cells 51 5 (((w.take (0)).map (selF ls)).map cLf) true),(906,.cells 9 1 ((((JE ls.length w).take (0)).map (Jq ls)).map cS) true)]) (Weak.trans (F1:=[(0,.rs 5 (ls.map cLf)),(1,.rs 1 (w.map civ)),(4,.ptr 4 0 0),(6,.rp [iv (ls.length:Int)]),(9,.ptr 9 0 0)]) (H1:=[(4,.cells 55 3 [[iv 0,.nils,.nils]] true),(9,.cells 55 3 [[iv (ls.length:Int),.nils,.nils]] true)]) (Qb (Qa rfl rfl) (kS rfl rfl) fun i h=>by cases h) (Weak.trans (F1:=[(0,.rs 5 (ls.map cLf)),(1,.rs 1 (w.map civ)),(4,.ptr 4 0 0),(6,.rp [iv (ls.length:Int)]),(9,.ptr 9 0 0)]) (H1:=[(4,.cells 55 3 [[iv 0,.nils,.nils]] true),(9,.cells 55 3 [[iv (ls.length:Int),.sl 905 0 0,.nils]] false),(905,.cells 51 5 (((w.take (0)).map (selF ls)).map cLf) true)]) (Weak.trans (F1:=[(0,.rs 5 (ls.map cLf)),(1,.rs 1 (w.map civ)),(4,.ptr 4 0 0),(6,.rp [iv (ls.length:Int)]),(9,.ptr 9 0 0)]) (Xy (i:=905) (k:=9) (e2:=51) (z2:=5) (fl2:=true) rfl rfl (.next .here)) (Qb (Qa rfl rfl) (kS rfl rfl) fun i h=>by cases h)) (Weak.trans (F1:=[(0,.rs 5 (ls.map cLf)),(1,.rs 1 (w.map civ)),(4,.ptr 4 0 0),(6,.rp [iv (ls.length:Int)]),(9,.ptr 9 0 0)]) (Xy (i:=906) (k:=9) (e2:=9) (z2:=1) (fl2:=true) rfl rfl (.next (.next .here))) (Qb (Qa rfl rfl) (kS rfl rfl) fun i h=>by cases h)))) (gK 2 rfl (Qe rfl rfl (gR 3 rfl ?_)))
     refine Qo (α:=Nat×Int) (fun s=>w.length-s.1) (fun s=>[(0,.rs 5 (ls.map cLf)),(1,.rs 1 (w.map civ)),(4,.ptr 4 0 0),(6,.rp [iv (ls.length:Int)]),(9,.ptr 9 0 0),(42,.rs 1 (w.map civ)),(43,iv (w.length:Int)),(44,iv (((s.1):Nat):Int))]) (fun s=>[(4,.cells 55 3 [[iv 0,.nils,.nils]] true),(9,.cells 55 3 [[iv (ls.length:Int),.sl 905 0 (s.1),.sl 906 0 (0)]] false),(905,.cells 51 5 (((w.take (s.1)).map (selF ls)).map cLf) true),(906,.cells 9 1 ((((JE ls.length w).take (0)).map (Jq ls)).map cS) true)]) (fun s=>s.1<=w.length/\(s.1=0/\s.2 = -1\/1<=s.1/\w[s.1-1]?=some s.2)/\incF (ls.length:Int) s.2 (w.drop s.1)=incF (ls.length:Int) (-1) w) (0,-1) (⟨by show 0<=_; omega,.inl ⟨rfl,rfl⟩,rfl⟩)
      (Qb (Qa rfl rfl) (kS rfl rfl) (fun i h=>by cases h)) ?_
     rintro ⟨k,p⟩ ⟨hk,hp,hinv2⟩
     dsimp only at hk hp hinv2 ⊢
     refine gT 5 rfl (Qc rfl (fun h45=>?_) (fun h45=>?_))
     ·replace h45:=of_decide_eq_true h45
      refine gK 6 rfl ?_
      obtain ⟨b,hbk,hbm⟩:=Qk (L:=w) (k:=k) (by omega)
      obtain ⟨hb0,hb1⟩:=hbd b hbm
      obtain ⟨x,hx,hxm⟩:=Qk (L:=ls) (k:=b.toNat) (by omega)
      refine Qi (f:=civ) (y:=b) rfl rfl rfl (by omega) hbk (gR 8 rfl (Qx rfl rfl rfl rfl (fun h50=>?_) (fun h50=>?_)))
      ·skip
       refine gR 3 rfl (rs_sub rfl rfl rfl (by omega) ?_)
       obtain ⟨a,ha,ham⟩:=Qk (L:=w) (k:=k-1) (by omega)
       refine gR 0 rfl (Qi (f:=civ) (y:=a) rfl rfl rfl (by omega) (by rw [show ((k:Int)-1).toNat=k-1 by omega]; exact ha) (gR 2 rfl (Qx rfl rfl rfl rfl (fun h58=>?_) (fun h58=>?_))))
       ·skip
        refine gR 10 rfl ?_
        have he:Xx ls w=7:=shE_7 (by omega) hix h38 (by rw [← hinv2,incF_at hbk,decide_eq_false (show ¬ p<b by have hp2:=(hp.resolve_left (fun h=>by omega)).2; rw [hp2] at ha; injection ha with ha; omega),Bool.and_false]; rfl)
        rw [shG_e he (by decide),he]
        exact Qt <| Ql rfl (QI (.cons (Xg (.cons (Qs rfl (.inr rfl)) (.cons Qy (.cons Qy .nil)))) (.cons (Qs rfl (.inr rfl)) .nil))) .nil
       ·skip
        refine gR 9 rfl (Qi (f:=cLf) (y:=x) rfl rfl rfl hb0 hx (gR 0 rfl (Q8 (cs:=cLf x) rfl rfl (nL rfl) rfl (gR 0 rfl (bM cLf (([x]:List Lf)) (by kernel_rfl) (gR 0 rfl (Qq (f:=cLf) (xs:=(w.take k).map (selF ls)) (y:=x) (fl':=true) rfl rfl rfl rfl (by simp; omega) rfl rfl rfl (by decide) rfl (by omega) (by omega) rfl (gR 2 rfl (Q9 (by kernel_rfl) (gP 1 rfl (Qf rfl rfl rfl (by omega) ?_)))))))))))
        refine gR 2 rfl ?_
        rw [incF_at hbk,show (decide (0<=b)&&decide (b<(ls.length:Int))&&decide (p<b))=true from by simp only [Bool.and_eq_true,decide_eq_true_eq]; exact ⟨⟨hb0,hb1⟩,(by have hp2:=(hp.resolve_left (fun h=>by omega)).2; rw [hp2] at ha; injection ha with ha; omega)⟩,Bool.true_and] at hinv2
        exact Qz <| ⟨(k+1,b),⟨by show k+1<=_; omega,.inr ⟨by show 1<=k+1; omega,by show w[k+1-1]?=_; rw [show k+1-1=k by omega]; exact hbk⟩,hinv2⟩,by show _-(k+1)<_; omega,show Weak _ _ _ _ [(0,.rs 5 (ls.map cLf)),(1,.rs 1 (w.map civ)),(4,.ptr 4 0 0),(6,.rp [iv (ls.length:Int)]),(9,.ptr 9 0 0),(42,.rs 1 (w.map civ)),(43,iv (w.length:Int)),(44,iv (((k+1):Nat):Int))] [(4,.cells 55 3 [[iv 0,.nils,.nils]] true),(9,.cells 55 3 [[iv (ls.length:Int),.sl 905 0 (k+1),.sl 906 0 (0)]] false),(905,.cells 51 5 (((w.take (k+1)).map (selF ls)).map cLf) true),(906,.cells 9 1 ((((JE ls.length w).take (0)).map (Jq ls)).map cS) true)] from Weak.trans (F1:=[(0,.rs 5 (ls.map cLf)),(1,.rs 1 (w.map civ)),(4,.ptr 4 0 0),(6,.rp [iv (ls.length:Int)]),(9,.ptr 9 0 0),(42,.rs 1 (w.map civ)),(43,iv (w.length:Int)),(44,iv (((k+1):Nat):Int))]) (H1:=[(4,.cells 55 3 [[iv 0,.nils,.nils]] true),(9,.cells 55 3 [[iv (ls.length:Int),.sl 68 0 (k+1),.sl 906 0 (0)]] false),(68,.cells 51 5 (((w.take (k+1)).map (selF ls)).map cLf) true),(906,.cells 9 1 ((((JE ls.length w).take (0)).map (Jq ls)).map cS) true)]) (Qb (Qa rfl rfl) (.keep (rfl) rfl (.keep (rfl) rfl (.keep (by rw [sel_succ hbk hx]; rfl) rfl (kS rfl rfl)))) fun i h=>by cases h) (Weak.trans (F1:=[(0,.rs 5 (ls.map cLf)),(1,.rs 1 (w.map civ)),(4,.ptr 4 0 0),(6,.rp [iv (ls.length:Int)]),(9,.ptr 9 0 0),(42,.rs 1 (w.map civ)),(43,iv (w.length:Int)),(44,iv (((k+1):Nat):Int))]) (QN (i:=68) (i':=905) (k:=9) rfl rfl (.cons rfl (.same _) (.cons rfl (.same _) (.cons rfl (.same _) (.cons rfl (.same _) (.cons rfl (.same _) (.cons rfl (.same _) (.cons rfl (.same _) (.cons rfl (.same _) (.nil))))))))) (by decide) rfl (.cons (.same _) (.cons (.sl _ _) (RenL.refl _ _ _)))) (Qb (Qa rfl rfl) (kS rfl rfl) fun i h=>by cases h))⟩
      ·skip
       refine gR 17 rfl (Qi (f:=cLf) (y:=x) rfl rfl rfl hb0 hx (gR 0 rfl (Q8 (cs:=cLf x) rfl rfl (nL rfl) rfl (gR 0 rfl (bM cLf (([x]:List Lf)) (by kernel_rfl) (gR 0 rfl (Qq (f:=cLf) (xs:=(w.take k).map (selF ls)) (y:=x) (fl':=true) rfl rfl rfl rfl (by simp; omega) rfl rfl rfl (by decide) rfl (by omega) (by omega) rfl (gR 2 rfl (Q9 (by kernel_rfl) (gP 1 rfl (Qf rfl rfl rfl (by omega) ?_)))))))))))
       refine gR 2 rfl ?_
       rw [incF_at hbk,show (decide (0<=b)&&decide (b<(ls.length:Int))&&decide (p<b))=true from by simp only [Bool.and_eq_true,decide_eq_true_eq]; exact ⟨⟨hb0,hb1⟩,(hp.elim (fun h=>by omega) (fun h=>by omega))⟩,Bool.true_and] at hinv2
       exact Qz <| ⟨(k+1,b),⟨by show k+1<=_; omega,.inr ⟨by show 1<=k+1; omega,by show w[k+1-1]?=_; rw [show k+1-1=k by omega]; exact hbk⟩,hinv2⟩,by show _-(k+1)<_; omega,show Weak _ _ _ _ [(0,.rs 5 (ls.map cLf)),(1,.rs 1 (w.map civ)),(4,.ptr 4 0 0),(6,.rp [iv (ls.length:Int)]),(9,.ptr 9 0 0),(42,.rs 1 (w.map civ)),(43,iv (w.length:Int)),(44,iv (((k+1):Nat):Int))] [(4,.cells 55 3 [[iv 0,.nils,.nils]] true),(9,.cells 55 3 [[iv (ls.length:Int),.sl 905 0 (k+1),.sl 906 0 (0)]] false),(905,.cells 51 5 (((w.take (k+1)).map (selF ls)).map cLf) true),(906,.cells 9 1 ((((JE ls.length w).take (0)).map (Jq ls)).map cS) true)] from Weak.trans (F1:=[(0,.rs 5 (ls.map cLf)),(1,.rs 1 (w.map civ)),(4,.ptr 4 0 0),(6,.rp [iv (ls.length:Int)]),(9,.ptr 9 0 0),(42,.rs 1 (w.map civ)),(43,iv (w.length:Int)),(44,iv (((k+1):Nat):Int))]) (H1:=[(4,.cells 55 3 [[iv 0,.nils,.nils]] true),(9,.cells 55 3 [[iv (ls.length:Int),.sl 68 0 (k+1),.sl 906 0 (0)]] false),(68,.cells 51 5 (((w.take (k+1)).map (selF ls)).map cLf) true),(906,.cells 9 1 ((((JE ls.length w).take (0)).map (Jq ls)).map cS) true)]) (Qb (Qa rfl rfl) (.keep (rfl) rfl (.keep (rfl) rfl (.keep (by rw [sel_succ hbk hx]; rfl) rfl (kS rfl rfl)))) fun i h=>by cases h) (Weak.trans (F1:=[(0,.rs 5 (ls.map cLf)),(1,.rs 1 (w.map civ)),(4,.ptr 4 0 0),(6,.rp [iv (ls.length:Int)]),(9,.ptr 9 0 0),(42,.rs 1 (w.map civ)),(43,iv (w.length:Int)),(44,iv (((k+1):Nat):Int))]) (QN (i:=68) (i':=905) (k:=9) rfl rfl (.cons rfl (.same _) (.cons rfl (.same _) (.cons rfl (.same _) (.cons rfl (.same _) (.cons rfl (.same _) (.cons rfl (.same _) (.cons rfl (.same _) (.cons rfl (.same _) (.nil))))))))) (by decide) rfl (.cons (.same _) (.cons (.sl _ _) (RenL.refl _ _ _)))) (Qb (Qa rfl rfl) (kS rfl rfl) fun i h=>by cases h))⟩
     ·replace h45:=of_decide_eq_false h45
      refine gK 3 rfl ?_
      obtain rfl:k=w.length:=by omega
      have hinc:incF (ls.length:Int) (-1) w=true:=by rw [← hinv2,List.drop_eq_nil_of_le (Nat.le_refl _)]; rfl
      have hlv:LvsOK ls:=⟨by omega,fun i x h=>by rw [ixF_ix hix i x h]; omega,hok⟩
      have he:Xx ls w=0:=shE_0 (by omega) hix h38 hinc
      have hha:=hidA_len (w:=w) hlv.n.2
      refine gI 3 rfl (cN rfl rfl (vc67 ls.length hlv.n w (by omega)) (gR 0 rfl (Qe rfl rfl (gR 3 rfl ?_))))
      refine Qo (α:=Nat) (fun k=>(JE ls.length w).length-k) (fun k=>[(0,.rs 5 (ls.map cLf)),(1,.rs 1 (w.map civ)),(4,.ptr 4 0 0),(6,.rp [iv (ls.length:Int)]),(9,.ptr 9 0 0),(73,.rs 2 ((JE ls.length w).map cSp)),(74,iv ((JE ls.length w).length:Int)),(75,iv (((k):Nat):Int))]) (fun k=>[(4,.cells 55 3 [[iv 0,.nils,.nils]] true),(9,.cells 55 3 [[iv (ls.length:Int),.sl 905 0 (w.length),.sl 906 0 (k)]] false),(905,.cells 51 5 (((w.take (w.length)).map (selF ls)).map cLf) true),(906,.cells 9 1 ((((JE ls.length w).take (k)).map (Jq ls)).map cS) true)]) (fun k=>k<=(JE ls.length w).length) 0 (by omega)
       (Qb (Qa rfl rfl) (kS rfl rfl) (fun i h=>by cases h)) ?_
      intro k hk
      refine gT 5 rfl (Qc rfl (fun h76=>?_) (fun h76=>?_))
      ·replace h76:=of_decide_eq_true h76
       refine gK 5 rfl ?_
       obtain ⟨s,hsk,hsm⟩:=Qk (L:=JE ls.length w) (k:=k) (by omega)
       obtain ⟨c,e,rfl,he2,hce,hcn⟩:=hidA_mem hlv.n.2 hsm
       refine Qi (f:=cSp) (y:=(c,2^e)) rfl rfl rfl (by omega) hsk (gR 0 rfl (Q8 (cs:=cP c (2^e)) rfl rfl (nL rfl) rfl (gR 7 rfl (Qr [] rfl rfl (vc68 ls) (.cons (Qd rfl) .nil) .nil rfl rfl rfl (gR 1 rfl (cN rfl rfl (vc69_1 ls (ofK ls) (ofK_ok ls) (fun b m _=>vc119 ls hlv.ls b m) e c (by omega)) (gR 0 rfl (bM cS (([Qu (ofK ls) e c]:List (List Int))) (by kernel_rfl) (gR 0 rfl (Qq (f:=cS) (xs:=((JE ls.length w).take k).map (Jq ls)) (y:=Qu (ofK ls) e c) (fl':=true) rfl rfl rfl rfl (by simp; omega) rfl rfl rfl (by decide) rfl (by omega) (by omega) rfl (gR 2 rfl ?_)))))))))))
       refine Q9 (by kernel_rfl) (gP 1 rfl (Qf rfl rfl rfl (by omega) (gR 2 rfl ?_)))
       exact Qz <| ⟨k+1,by omega,by omega,show Weak _ _ _ _ [(0,.rs 5 (ls.map cLf)),(1,.rs 1 (w.map civ)),(4,.ptr 4 0 0),(6,.rp [iv (ls.length:Int)]),(9,.ptr 9 0 0),(73,.rs 2 ((JE ls.length w).map cSp)),(74,iv ((JE ls.length w).length:Int)),(75,iv (((k+1):Nat):Int))] [(4,.cells 55 3 [[iv 0,.nils,.nils]] true),(9,.cells 55 3 [[iv (ls.length:Int),.sl 905 0 (w.length),.sl 906 0 (k+1)]] false),(905,.cells 51 5 (((w.take (w.length)).map (selF ls)).map cLf) true),(906,.cells 9 1 ((((JE ls.length w).take (k+1)).map (Jq ls)).map cS) true)] from Weak.trans (F1:=[(0,.rs 5 (ls.map cLf)),(1,.rs 1 (w.map civ)),(4,.ptr 4 0 0),(6,.rp [iv (ls.length:Int)]),(9,.ptr 9 0 0),(73,.rs 2 ((JE ls.length w).map cSp)),(74,iv ((JE ls.length w).length:Int)),(75,iv (((k+1):Nat):Int))]) (H1:=[(4,.cells 55 3 [[iv 0,.nils,.nils]] true),(9,.cells 55 3 [[iv (ls.length:Int),.sl 905 0 (w.length),.sl 86 0 (k+1)]] false),(905,.cells 51 5 (((w.take (w.length)).map (selF ls)).map cLf) true),(86,.cells 9 1 ((((JE ls.length w).take (k+1)).map (Jq ls)).map cS) true)]) (Qb (Qa rfl rfl) (.keep (rfl) rfl (.keep (rfl) rfl (.keep (rfl) rfl (.keep (by rw [hidT_succ hsk he2]; rfl) rfl (.nil))))) fun i h=>by cases h) (Weak.trans (F1:=[(0,.rs 5 (ls.map cLf)),(1,.rs 1 (w.map civ)),(4,.ptr 4 0 0),(6,.rp [iv (ls.length:Int)]),(9,.ptr 9 0 0),(73,.rs 2 ((JE ls.length w).map cSp)),(74,iv ((JE ls.length w).length:Int)),(75,iv (((k+1):Nat):Int))]) (QN (i:=86) (i':=906) (k:=9) rfl rfl (.cons rfl (.same _) (.cons rfl (.same _) (.cons rfl (.same _) (.cons rfl (.same _) (.cons rfl (.same _) (.cons rfl (.same _) (.cons rfl (.same _) (.cons rfl (.same _) (.nil))))))))) (by decide) rfl (.cons (.same _) (.cons (.same _) (.cons (.sl _ _) (RenL.refl _ _ _))))) (Qb (Qa rfl rfl) (kS rfl rfl) fun i h=>by cases h))⟩
      ·replace h76:=of_decide_eq_false h76
       refine gK 8 rfl ?_
       obtain rfl:k=(JE ls.length w).length:=by omega
       rw [shG_0 he,he,show cSh (showS ls w)=[iv (ls.length:Int),.rs 5 (((w.take w.length).map (selF ls)).map cLf),.rs 1 ((((JE ls.length w).take (JE ls.length w).length).map (Jq ls)).map cS)] by rw [List.take_of_length_le (Nat.le_refl _),List.take_of_length_le (Nat.le_refl _)]; rfl]
       exact Qt <| Ql rfl (QI (.cons (Xg (.cons (Qs rfl (.inr rfl)) (.cons (Q5 rfl rfl (by simp) (fun _=>rfl)) (.cons (Q5 rfl rfl (by simp) (fun _=>rfl)) .nil)))) (.cons (Qs rfl (.inr rfl)) .nil))) .nil
    ·skip
     refine gR 9 rfl ?_
     have he:Xx ls w=5:=shE_5 (by omega) hix h38
     rw [shG_e he (by decide),he]
     exact Qt <| Ql rfl (QI (.cons (Xg (.cons (Qs rfl (.inr rfl)) (.cons Qy (.cons Qy .nil)))) (.cons (Qs rfl (.inr rfl)) .nil))) .nil
def mcv45:MC:=(sq [oN 6 (.mv (.c (.bool false))) []] (sq [oM 10 0 [],oM 11 1 [],oC 12 22 [10,11] [0,1],oM 9 12 [2],oN 13 (.ext 9 0) [3],oN 14 (.ext 9 1) [3],oN 7 (.alloc 55 3 [(iv 0),.nils,.nils]) [],oS 3 7 13 [6,4,2,0,1,2,3,4,6],oM 8 14 (5::7::up 8)] (sq [oM 15 8 [],oB 16 .eql 15 (cI 0) [0],oM 17 16 [1],pA 18 0 7 17 true [2],pD 19 1 18 17 true [3,2],pM 20 0 17 true [2],oG 21 (.len 20) 17 true [5,2],oG 22 (.bin .eql 19 21) 17 true [4,6,2],oN 23 (.pick 17 22 (.c (.bool false))) [2,7],oM 24 23 [8,2],pA 25 2 7 24 true [9],pD 26 1 25 24 true [10,9],pM 27 2 24 true [9],oG 28 (.call 34 [26,27]) 24 true [11,12,9,9],oN 29 (.pick 24 28 (.c (.bool false))) [9,13],oM 30 29 [14,13],pA 31 1 7 30 true [15],pD 32 1 31 30 true [16,15],oG 33 (.len 32) 30 true [17,15],pM 34 1 30 true [15],oG 35 (.len 34) 30 true [19,15],oG 36 (.bin .eql 33 35) 30 true [18,20,15],oN 37 (.pick 30 36 (.c (.bool false))) [15,21],oM 6 37 (22::15::up 23)] .ret)))
theorem mcOkv45:okM Tryz.prog Tryz.f45 38=some mcv45:=by kernel_rfl
theorem vc45 (ls:List Lf) (hl:ls.length<=64) (hok:∀ x∈ls,x.OK) (w:List Int) (hwl:w.length<=64) (want:List (List Int)) (hwa:∀ d∈want,B8 d):FC Tryz.prog 45 [.rs 5 (ls.map cLf),.rs 1 (w.map civ),.rs 1 (want.map cS)] [] (.bool (shB ls w want)) [] false:=by
 have h8:∀ d∈(Je ls w).hid,B8 d:=fun d hd=>(showG_8 d hd).1
 have hgl:(Je ls w).hid.length<=16:=by
  by_cases h0:Xx ls w=0
  ·rw [shG_0 h0]; show ((JE ls.length w).map (Jq ls)).length<=16; rw [List.length_map]; exact hidA_len (by unfold Xx at h0; split at h0; cases h0; omega)
  ·rw [shG_e rfl h0]; exact Nat.zero_le _
 refine Qg (nt:=38) Tryz.func45 rfl rfl mcOkv45 (nL rfl) ?_
 delta mcv45
 refine gA 8 rfl (cN rfl rfl (vc22 ls hl hok w hwl) (gR 10 rfl (Qx rfl rfl rfl rfl (fun h16=>?_) (fun h16=>?_))))
 ·skip
  refine gR 4 rfl (Qe rfl rfl (gR 0 rfl (Qx rfl rfl rfl rfl (fun h22=>?_) (fun h22=>?_))))
  ·skip
   refine gR 5 rfl (cN rfl rfl (vc34 (Je ls w).hid want h8 hwa (by omega)) ?_)
   cases h28:decide ((Je ls w).hid=want)
   ·skip
    refine gR 12 rfl ?_
    rw [show shB ls w want=false from by unfold shB; rw [decide_eq_true h16,decide_eq_true h22,h28]; rfl]
    exact rQ
   ·skip
    refine gR 4 rfl (Qe rfl rfl (gR 1 rfl (Qe rfl rfl (gR 0 rfl (Qx rfl rfl rfl rfl (fun h36=>?_) (fun h36=>?_))))))
    ·skip
     refine gR 4 rfl ?_
     rw [show shB ls w want=true from by unfold shB; rw [decide_eq_true h16,decide_eq_true h22,h28,decide_eq_true h36]; rfl]
     exact rQ
    ·skip
     refine gR 4 rfl ?_
     rw [show shB ls w want=false from by unfold shB; rw [decide_eq_true h16,decide_eq_true h22,h28,decide_eq_false h36]; rfl]
     exact rQ
  ·skip
   refine gR 18 rfl ?_
   rw [show shB ls w want=false from by unfold shB; rw [decide_eq_true h16,decide_eq_false h22]; rfl]
   exact rQ
 ·skip
  refine gR 24 rfl ?_
  rw [show shB ls w want=false from by unfold shB; rw [decide_eq_false h16]; rfl]
  exact rQ
end Go.Proofs.YthfhaoogcpfboaaGreat
namespace Go.Proofs.YthfhaoogcpfboaaGreat
open Go.RowKit
set_option maxRecDepth 100000
set_option linter.unusedVariables false
def eL (k:Nat):Lf:=match k with
 | 0=>⟨0,1,false,false,Jl [115] [0]⟩
 | 1=>⟨1,2,true,true,Jl [115] [2]⟩
 | _=>⟨2,3,false,false,Jl [115] [4]⟩
abbrev eLs:List Lf:=[eL 0,eL 1,eL 2]
def eN:Lf:=⟨1,2,false,true,Jl [115] [2]⟩
theorem exF:fineB (Uc exA exX)=true:=by decide +kernel
theorem exL_eq:exL=eLs:=by
 unfold exL QV
 rw [if_pos ⟨exF,by decide⟩]
 rfl
def eD (k:Nat):List Int:=J2 (Xn (eL k))
def eLow:List Int:=JD (eD 0) (eD 1)
def JQ:List Int:=JD (eD 2) missS
def eRoot:List Int:=JD eLow JQ
theorem mark_ok (k m:List Int):B8 (Jl k m)/\(Jl k m).length<=LIM:=⟨(JA _).1,by rw [show (Jl k m).length=8 from (JA _).2]; decide⟩
theorem Us (k m:List Int):B8 (JD k m)/\(JD k m).length<=LIM:=⟨(JA _).1,by rw [show (JD k m).length=8 from (JA _).2]; decide⟩
theorem leafD_ok (k:List Int):B8 (J2 k)/\(J2 k).length<=LIM:=⟨(JA _).1,by rw [show (J2 k).length=8 from (JA _).2]; decide⟩
theorem eL_ok (k:Nat):(eL k).OK:=by
 have h8:∀ m,(Jl [115] m).length<=1000000000:=fun m=>by rw [show (Jl [115] m).length=8 from (JA _).2]; decide
 unfold eL
 split <;> exact ⟨by decide,by decide,(mark_ok _ _).1,h8 _⟩
theorem eN_ok:eN.OK:=⟨by decide,by decide,(mark_ok _ _).1,by rw [show eN.salt.length=8 from (JA _).2]; decide⟩
theorem eLs_ok:∀ x∈eLs,x.OK:=fun x hx=>by
 simp only [eLs,List.mem_cons,List.not_mem_nil,or_false] at hx
 rcases hx with rfl | rfl | rfl <;> exact eL_ok _
theorem text_ok (k:Nat):B8 (Xn (eL k))/\(Xn (eL k)).length<=LIM:=⟨textS_8 (eL_ok k).b,Nat.le_trans (textS_len (eL_ok k).n) (by decide)⟩
theorem eText:Xn (eL 1)=[8,2,4,2,2,16]++Jl [115] [2]:=by decide +kernel
theorem eRootF:rootF eLs=eRoot:=by decide +kernel
theorem eS1:shB eLs [1] [eD 0,JQ]=true:=by decide +kernel
theorem eS2:shB eLs [2] [eLow]=true:=by decide +kernel
theorem eS3:shB eLs [] [eRoot]=true:=by decide +kernel
theorem eS4:shB eLs [0,1,2] []=true:=by decide +kernel
theorem eE3:Xx eLs [3]=5:=by decide +kernel
theorem eE11:Xx eLs [1,1]=7:=by decide +kernel
theorem eE0:Xx [] []=2:=by decide +kernel
theorem eE1:Xx eLs [1]=0:=by decide +kernel
abbrev eSh:Shn:=⟨3,[eL 1],[eD 0,JQ]⟩
theorem eG1:Je eLs [1]=eSh:=by decide +kernel
theorem eR1:rootOfS 3 [eL 1] [eD 0,JQ]=some eRoot:=by decide +kernel
theorem eC1:JZ 3 [eL 1] [eD 0,JQ] 3 [eN] [eD 0,JQ]=7:=by decide +kernel
theorem eC2:JZ 3 [eN] [eD 0,JQ] 3 [eL 1] [eD 0,JQ]=0:=by decide +kernel
theorem eSh_ok:ShOK [eL 1] [eD 0,JQ]:=⟨by decide,by decide,fun x hx=>by rw [List.mem_singleton.1 hx]; exact eL_ok 1,fun d hd=>by
 simp only [List.mem_cons,List.not_mem_nil,or_false] at hd
 rcases hd with rfl | rfl
 ·exact leafD_ok _
 ·exact Us _ _⟩
theorem eShN_ok:ShOK [eN] [eD 0,JQ]:=⟨by decide,by decide,fun x hx=>by rw [List.mem_singleton.1 hx]; exact eN_ok,eSh_ok.b⟩
def eAr (k:Nat):List AV:=match k with
 | 0=>[.str (strN []),.str (strN []),.str (strN [])]
 | 1=>[.str (strN (eD 0)),.str (strN []),.str (strN [])]
 | 2=>[.str (strN (eD 0)),.str (strN (eD 1)),.str (strN [])]
 | _=>[.str (strN (eD 0)),.str (strN (eD 1)),.str (strN (eD 2))]
def mcv8:MC:=(sq [oN 0 (.mv (.c (.bool false))) []] (sq [oC 19 39 [] [],oM 1 19 [0,0,0]] (.seq (dq [oM 20 1 [],oE 21 20 [0],oB 22 .neq 21 (cI 3) [1],oM 23 22 [2],pM 24 1 23 false [3],oG 25 (.ixsl 5 24 (cI 1)) 23 false [4,3],oG 26 (.ld true 5 25) 23 false [5,3],oG 27 (.call 40 [(.c (.str (strN [115]))),(.c (.str (strN [2])))]) 23 false [3,3],oG 28 (.build [(iv 0),(iv 0),(.bool false),(.bool false),(.str (strN []))] [(0,1,(cI 1)),(1,1,(cI 2)),(2,1,(.c (.bool true))),(3,1,(.c (.bool true))),(4,1,27)]) 23 false [7,3],oG 29 (.aeqx true [0,0,1,1,2] 26 28) 23 false [6,8,3],oN 30 (.pick 23 (.c (.bool true)) 29) [3,9]] (.cond 30 (sq [oN 0 (.mv (.c (.bool false))) []] .ret) .skip)) (sq [oN 2 (.alloc 76 3 [(.str (strN [])),(.str (strN [])),(.str (strN []))]) []] (.seq (sq [oN 31 (.mv (cI 0)) []] (.block 0 (.loop (sq [oB 32 .lss 31 (cI 3) []] (.seq (.cond 32 .skip (.exit 0)) (.seq (.block 1 (sq [oM 33 31 [],oM 3 33 [0,0]] (rg [oM 34 3 [],oM 35 1 [],oM 36 3 [],oX 37 5 35 36 [1,2],oL 38 5 37 [3],oC 39 42 [38] [4],oC 40 41 [39] [5,5],oN 41 (.ixarr 3 1 2 34) (0::up 7),oS 1 41 40 (7::6::6::up 7)]))) (rg [oB 42 .add 31 (cI 1) [],oM 31 42 [0]]))))))) (dq [oN 43 (.ixarr 3 1 2 (cI 0)) [],oD 44 1 43 [0],oN 45 (.ixarr 3 1 2 (cI 1)) [],oD 46 1 45 [2],oC 47 43 [44,46] [1,3],oN 48 (.ixarr 3 1 2 (cI 2)) [],oD 49 1 48 [5],oC 50 44 [] [4],oC 51 43 [49,50] [6,7,7],oM 4 47 (4::8::up 5),oM 5 51 (8::9::up 10)] (sq [oM 52 4 [],oM 53 5 [],oC 54 43 [52,53] [0,1],oM 6 54 [2,2,0,1,2]] (sq [oM 55 1 [],oX 56 5 55 (cI 1) [0],oL 57 5 56 [1],oC 58 42 [57] [2],oC 59 40 [(.c (.str (strN [115]))),(.c (.str (strN [2])))] [3],oN 60 (.scat (.c (.str (strN [8,2,4,2,2,16]))) 59) [4],oN 61 (.seq false 58 60) [3,5],oM 62 61 [6,4],pM 63 1 62 true [7],oG 64 (.call 19 [63]) 62 true [8,7,7],pM 65 6 62 true [7],oG 66 (.seq false 64 65) 62 true [9,10,7],oN 67 (.pick 62 66 (.c (.bool false))) [7,11],oM 68 67 [12,9],pM 69 1 68 true [13],oG 70 (.bslice 3 1 [(iv 0)] 1 [(0,(cI 1))]) 68 true [13],oG 71 (.ixarr 3 1 2 (cI 0)) 68 true [13],pD 72 1 71 68 true [16,13],pM 73 5 68 true [13],oG 74 (.bslice 9 1 [(.str (strN []))] 2 [(0,72),(1,73)]) 68 true [17,18,13],oG 75 (.call 45 [69,70,74]) 68 true [14,15,19,13,13],oN 76 (.pick 68 75 (.c (.bool false))) [13,20],oM 77 76 [21,20],pM 78 1 77 true [22],oG 79 (.bslice 3 1 [(iv 0)] 1 [(0,(cI 2))]) 77 true [22],pM 80 4 77 true [22],oG 81 (.bslice 9 1 [(.str (strN []))] 1 [(0,80)]) 77 true [25,22],oG 82 (.call 45 [78,79,81]) 77 true [23,24,26,22,22],oN 83 (.pick 77 82 (.c (.bool false))) [22,27],oM 84 83 [28,27],pM 85 1 84 true [29],pM 86 6 84 true [29],oG 87 (.bslice 9 1 [(.str (strN []))] 1 [(0,86)]) 84 true [31,29],oG 88 (.call 45 [85,(.c .nils),87]) 84 true [30,32,29,29],oN 89 (.pick 84 88 (.c (.bool false))) [29,33],oM 90 89 [34,33],pM 91 1 90 true [35],oG 92 (.bslice 3 1 [(iv 0)] 3 [(0,(cI 0)),(1,(cI 1)),(2,(cI 2))]) 90 true [35],oG 93 (.call 45 [91,92,(.c .nils)]) 90 true [36,37,35,35],oN 94 (.pick 90 93 (.c (.bool false))) [35,38],oM 7 94 (39::38::up 40)] (sq [oM 96 1 [],oN 97 (.bslice 3 1 [(iv 0)] 1 [(0,(cI 3))]) [],oC 98 22 [96,97] [0,1],oM 95 98 [2],oN 99 (.ext 95 0) [3],oN 100 (.ext 95 1) [3],oN 8 (.alloc 55 3 [(iv 0),.nils,.nils]) [],oS 3 8 99 [6,4,2,0,1,2,3,4,6],oM 9 100 (5::7::up 8)] (sq [oM 102 1 [],oN 103 (.bslice 3 1 [(iv 0)] 2 [(0,(cI 1)),(1,(cI 1))]) [],oC 104 22 [102,103] [0,1],oM 101 104 [2],oN 105 (.ext 101 0) [3],oN 106 (.ext 101 1) [3],oN 10 (.alloc 55 3 [(iv 0),.nils,.nils]) [],oS 3 10 105 [6,4,2,0,1,2,3,4,6],oM 11 106 (5::7::up 8)] (sq [oC 108 22 [(.c .nils),(.c .nils)] [],oM 107 108 [0],oN 109 (.ext 107 0) [1],oN 110 (.ext 107 1) [1],oN 12 (.alloc 55 3 [(iv 0),.nils,.nils]) [],oS 3 12 109 [4,2,0,0,1,2,4],oM 13 110 (3::5::up 6)] (sq [oM 112 1 [],oN 113 (.bslice 3 1 [(iv 0)] 1 [(0,(cI 1))]) [],oC 114 22 [112,113] [0,1],oM 111 114 [2],oN 115 (.ext 111 0) [3],oN 116 (.ext 111 1) [3],oN 14 (.alloc 55 3 [(iv 0),.nils,.nils]) [],oS 3 14 115 [6,4,2,0,1,2,3,4,6],oM 15 116 (5::7::up 8)] (sq [oL 118 3 14 [],oC 119 27 [118] [0],oM 117 119 [1],oN 120 (.ext 117 0) [2],oN 121 (.ext 117 1) [2],oM 16 120 (3::1::up 4),oM 17 121 (4::5::up 6)] (sq [oL 122 3 14 [],oC 123 31 [122] [0],oN 18 (.alloc 55 3 [(iv 0),.nils,.nils]) [],oS 3 18 123 [2,1,1,0,1,2]] (.seq (sq [oA 124 1 18 [],oD 125 1 124 [0],oE 126 125 [1],oB 127 .neq 126 (cI 1) [2]] (.cond 127 (sq [oN 0 (.mv (.c (.bool false))) []] .ret) .skip)) (sq [oA 128 1 18 [],oD 129 1 128 [0],oX 130 5 129 (cI 0) [1,0,1],oA 131 2 130 [2,0,1],oS 1 131 (.c (.bool false)) [3,0,1]] (sq [oM 132 7 [],oM 133 132 [0],pM 134 9 133 true [1],oG 135 (.bin .eql 134 (cI 5)) 133 true [2,1],oN 136 (.pick 133 135 (.c (.bool false))) [1,3],oM 137 136 [4,1],pM 138 11 137 true [5],oG 139 (.bin .eql 138 (cI 7)) 137 true [6,5],oN 140 (.pick 137 139 (.c (.bool false))) [5,7],oM 141 140 [8,5],pM 142 13 141 true [9],oG 143 (.bin .eql 142 (cI 2)) 141 true [10,9],oN 144 (.pick 141 143 (.c (.bool false))) [9,11],oM 145 144 [12,9],pM 146 17 145 true [13],oN 147 (.pick 145 146 (.c (.bool false))) [13,14],oM 148 147 [15,13],pM 149 16 148 true [16],pM 150 6 148 true [16],oG 151 (.seq false 149 150) 148 true [17,18,16],oN 152 (.pick 148 151 (.c (.bool false))) [16,19],oM 153 152 [20,16],oG 154 (.ld true 3 14) 153 true [21],oG 155 (.ld true 3 18) 153 true [21],oG 156 (.call 29 [154,155]) 153 true [22,23,21,21],oG 157 (.bin .eql 156 (cI 7)) 153 true [24,21],oN 158 (.pick 153 157 (.c (.bool false))) [21,25],oM 159 158 [26,24],oG 160 (.ld true 3 18) 159 true [27],oG 161 (.ld true 3 14) 159 true [27],oG 162 (.call 29 [160,161]) 159 true [28,29,27,27],oG 163 (.bin .eql 162 (cI 0)) 159 true [30,27],oN 164 (.pick 159 163 (.c (.bool false))) [27,31],oM 0 164 (32::30::up 33)] .ret)))))))))))))))))
theorem mcOkv8:okM Tryz.prog Tryz.f8 165=some mcv8:=by kernel_rfl
set_option maxHeartbeats 4000000 in
theorem vc8  : FC Tryz.prog 8 [] [] (.bool true) [] false:=by
 refine Qg (nt:=165) Tryz.func8 rfl rfl mcOkv8 (nL rfl) ?_
 delta mcv8
 refine gA 6 rfl (Qr [] rfl rfl vc39 .nil .nil rfl rfl rfl ?_)
 rw [exL_eq]
 refine gR 6 rfl (Qe rfl rfl (gR 0 rfl (Qp rfl rfl rfl rfl (by decide) (gR 2 rfl (Qi (f:=cLf) (xs:=eLs) (y:=eL 1) rfl rfl rfl (by decide) rfl (gR 0 rfl (Q8 (cs:=cLf (eL 1)) rfl rfl (nL rfl) rfl (gR 0 rfl (cN rfl rfl (vc40 [115] [2] ⟨b8_c,by decide⟩ ⟨b8_c,by decide⟩) (gR 1 rfl (rs_aeqx (r:=false) (scs (eL 1)) (scs (eL 1)) rfl rfl rfl rfl rfl rfl rfl (by simp) ?_)))))))))))
 refine gR 1 rfl (Q9 (by kernel_rfl) (gP 12 rfl ?_))
 refine Qo (α:=Nat) (fun k=>3-k) (fun k=>[(1,.rs 5 (eLs.map cLf)),(2,.ptr 2 0 0),(31,iv (((k):Nat):Int))]) (fun k=>[(2,.cells 76 3 [eAr (k)] true)]) (fun k=>k<=3) 0 (by omega)
  (Qb (Qa rfl rfl) (.keep rfl rfl .nil) nz) ?_
 intro k hk
 refine gT 5 rfl (Qc rfl (fun h32=>?_) (fun h32=>?_))
 ·replace h32:=of_decide_eq_true h32
  refine gK 5 rfl ?_
  obtain rfl | rfl | rfl:k=0\/k=1\/k=2:=by omega
  ·skip
   refine gI 7 rfl (Qi (f:=cLf) (xs:=eLs) (y:=eL 0) rfl rfl rfl (by decide) rfl (gR 0 rfl (Q8 (cs:=cLf (eL 0)) rfl rfl (nL rfl) rfl (gR 0 rfl (cN rfl rfl (vc42 (eL 0) (eL_ok 0)) (gR 0 rfl (cN rfl rfl (vc41 (Xn (eL 0)) (text_ok 0)) (gR 0 rfl (Qm rfl rfl rfl (by decide) (by decide) (gR 3 rfl (Qf rfl rfl rfl (by omega) ?_)))))))))))
   refine gR 2 rfl ?_
   exact Qz <| ⟨0+1,by omega,by omega,Qb (Qa rfl rfl) (.keep rfl rfl .nil) nz⟩
  ·skip
   refine gI 7 rfl (Qi (f:=cLf) (xs:=eLs) (y:=eL 1) rfl rfl rfl (by decide) rfl (gR 0 rfl (Q8 (cs:=cLf (eL 1)) rfl rfl (nL rfl) rfl (gR 0 rfl (cN rfl rfl (vc42 (eL 1) (eL_ok 1)) (gR 0 rfl (cN rfl rfl (vc41 (Xn (eL 1)) (text_ok 1)) (gR 0 rfl (Qm rfl rfl rfl (by decide) (by decide) (gR 3 rfl (Qf rfl rfl rfl (by omega) ?_)))))))))))
   refine gR 2 rfl ?_
   exact Qz <| ⟨1+1,by omega,by omega,Qb (Qa rfl rfl) (.keep rfl rfl .nil) nz⟩
  ·skip
   refine gI 7 rfl (Qi (f:=cLf) (xs:=eLs) (y:=eL 2) rfl rfl rfl (by decide) rfl (gR 0 rfl (Q8 (cs:=cLf (eL 2)) rfl rfl (nL rfl) rfl (gR 0 rfl (cN rfl rfl (vc42 (eL 2) (eL_ok 2)) (gR 0 rfl (cN rfl rfl (vc41 (Xn (eL 2)) (text_ok 2)) (gR 0 rfl (Qm rfl rfl rfl (by decide) (by decide) (gR 3 rfl (Qf rfl rfl rfl (by omega) ?_)))))))))))
   refine gR 2 rfl ?_
   exact Qz <| ⟨2+1,by omega,by omega,Qb (Qa rfl rfl) (.keep rfl rfl .nil) nz⟩
 ·replace h32:=of_decide_eq_false h32
  refine gK 2 rfl ?_
  obtain rfl:k=3:=by omega
  refine gI 1 rfl (Qm rfl rfl rfl (by decide) (by decide) (gR 1 rfl (Qm rfl rfl rfl (by decide) (by decide) (gR 1 rfl (cN rfl rfl (vc43 (eD 0) (eD 1) (leafD_ok _) (leafD_ok _)) (gR 0 rfl (Qm rfl rfl rfl (by decide) (by decide) (gR 1 rfl (cN rfl rfl (vc44) (gR 0 rfl (cN rfl rfl (vc43 (eD 2) missS (leafD_ok _) ⟨(JA _).1,by rw [show missS.length=8 from (JA _).2]; decide⟩) ?_)))))))))))
  refine gR 2 rfl (Q9 (by kernel_rfl) (gP 4 rfl (cN rfl rfl (vc43 eLow JQ (Us _ _) (Us _ _)) (gR 5 rfl (Qi (f:=cLf) (xs:=eLs) (y:=eL 1) rfl rfl rfl (by decide) rfl (gR 0 rfl (Q8 (cs:=cLf (eL 1)) rfl rfl (nL rfl) rfl (gR 0 rfl (cN rfl rfl (vc42 (eL 1) (eL_ok 1)) (gR 0 rfl (cN rfl rfl (vc40 [115] [2] ⟨b8_c,by decide⟩ ⟨b8_c,by decide⟩) ?_)))))))))))
  refine gR 0 rfl (Jj (c:=[8,2,4,2,2,16]++Jl [115] [2]) rfl rfl rfl (by rw [show (Jl [115] [2]).length=8 from (JA _).2]; decide) rfl (gR 0 rfl (rs_seq (r:=true) rfl rfl rfl (text_ok 1).1 (b8_app (fun x hx=>by simp only [List.mem_cons,List.not_mem_nil,or_false] at hx; rcases hx with rfl | rfl | rfl | rfl | rfl | rfl <;> decide) (mark_ok _ _).1) (by rw [decide_eq_true eText]; rfl) (gR 2 rfl (cN rfl rfl (vc19 eLs ⟨by decide,eLs_ok⟩) ?_)))))
  rw [eRootF]
  refine gR 1 rfl (rs_seq (r:=true) rfl rfl rfl (Us _ _).1 (Us _ _).1 (by rw [decide_eq_true (show eRoot=JD eLow JQ from rfl)]; rfl) (gR 3 rfl (bM civ (([1]:List Int)) (by kernel_rfl) (gR 0 rfl (Qm rfl rfl rfl (by decide) (by decide) (gR 2 rfl (bM cS (([eD 0,JQ]:List (List Int))) (by kernel_rfl) (gR 0 rfl (QD [70,74] rfl rfl (vc45 eLs (by decide) eLs_ok [1] (by decide) [eD 0,JQ] (fun d hd=>(eSh_ok.b d hd).1)) (.cons (Qd rfl) (.cons (QW (f:=civ) (xs:=[1]) (by simp) rfl rfl) (.cons (QW (f:=cS) (xs:=[eD 0,JQ]) (by simp) rfl rfl) (.nil)))) rfl ?_)))))))))
  rw [eS1]
  refine gR 3 rfl (bM civ (([2]:List Int)) (by kernel_rfl) (gR 1 rfl (bM cS (([eLow]:List (List Int))) (by kernel_rfl) (gR 0 rfl (QD [79,81] rfl rfl (vc45 eLs (by decide) eLs_ok [2] (by decide) [eLow] (fun d hd=>by rw [List.mem_singleton.1 hd]; exact (Us _ _).1)) (.cons (Qd rfl) (.cons (QW (f:=civ) (xs:=[2]) (by simp) rfl rfl) (.cons (QW (f:=cS) (xs:=[eLow]) (by simp) rfl rfl) (.nil)))) rfl ?_)))))
  rw [eS2]
  refine gR 4 rfl (bM cS (([eRoot]:List (List Int))) (by kernel_rfl) (gR 0 rfl (QD [87] rfl rfl (vc45 eLs (by decide) eLs_ok [] (by decide) [eRoot] (fun d hd=>by rw [List.mem_singleton.1 hd]; exact (Us _ _).1)) (.cons (Qd rfl) (.cons (hv_nils) (.cons (QW (f:=cS) (xs:=[eRoot]) (by simp) rfl rfl) (.nil)))) rfl ?_)))
  rw [eS3]
  refine gR 3 rfl (bM civ (([0,1,2]:List Int)) (by kernel_rfl) (gR 0 rfl (QD [92] rfl rfl (vc45 eLs (by decide) eLs_ok [0,1,2] (by decide) [] (fun d hd=>by cases hd)) (.cons (Qd rfl) (.cons (QW (f:=civ) (xs:=[0,1,2]) (by simp) rfl rfl) (.cons (hv_nils) (.nil)))) rfl ?_)))
  rw [eS4]
  refine gR 6 rfl (bM civ (([3]:List Int)) (by kernel_rfl) (gR 0 rfl (QD [97] rfl rfl (vc22 eLs (by decide) eLs_ok [3] (by decide)) (.cons (Qd rfl) (.cons (QW (f:=civ) (xs:=[3]) (by simp) rfl rfl) (.nil))) rfl ?_)))
  rw [eE3]
  refine gR 10 rfl (bM civ (([1,1]:List Int)) (by kernel_rfl) (gR 0 rfl (QD [103] rfl rfl (vc22 eLs (by decide) eLs_ok [1,1] (by decide)) (.cons (Qd rfl) (.cons (QW (f:=civ) (xs:=[1,1]) (by simp) rfl rfl) (.nil))) rfl ?_)))
  rw [eE11]
  refine gR 9 rfl (QD [] rfl rfl (vc22 [] (by decide) (fun x hx=>by cases hx) [] (by decide)) (.cons (hv_nils) (.cons (hv_nils) (.nil))) rfl ?_)
  rw [eE0]
  refine gR 10 rfl (bM civ (([1]:List Int)) (by kernel_rfl) (gR 0 rfl (QD [113] rfl rfl (vc22 eLs (by decide) eLs_ok [1] (by decide)) (.cons (Qd rfl) (.cons (QW (f:=civ) (xs:=[1]) (by simp) rfl rfl) (.nil))) rfl ?_)))
  rw [eE1,eG1]
  refine gR 10 rfl (cN rfl rfl (vc27 3 [eL 1] [eD 0,JQ] eSh_ok) ?_)
  rw [eR1]
  refine gR 7 rfl (QH (F0:=[(1,.rs 5 (eLs.map cLf)),(6,.str (strN eRoot)),(7,.bool true),(9,iv 5),(11,iv 7),(13,iv 2),(14,.ptr 14 0 0),(16,.str (strN eRoot)),(17,.bool true)]) (H0:=[(14,.cells 55 3 [cSh eSh] true)]) (Qb (Qa rfl rfl) (.keep rfl rfl .nil) nz) (gK 2 rfl (cN rfl rfl (vc31 3 [eL 1] [eD 0,JQ] (by decide) (by decide)) (gR 8 rfl (QC rfl rfl (gR 0 rfl (Qp rfl rfl rfl rfl (by decide) (gR 7 rfl (JG rfl rfl rfl rfl (by decide) (by decide) (gR 8 rfl (QA rfl rfl rfl rfl rfl ?_)))))))))))
  refine gR 3 rfl (QA rfl rfl rfl rfl rfl (gR 3 rfl (QA rfl rfl rfl rfl rfl (gR 7 rfl (rs_seq (r:=true) rfl rfl rfl (Us _ _).1 (Us _ _).1 (by simp) (gR 4 rfl (QD [8,12] rfl rfl (vc29 3 [eL 1] [eD 0,JQ] eSh_ok 3 [eN] [eD 0,JQ] eShN_ok) (.cons (Qd rfl) (.cons (hv_agg (.cons (Qd rfl) (.cons (QW (f:=cLf) (xs:=[eN]) (by simp) rfl rfl) (.cons (QW (f:=cS) (xs:=[eD 0,JQ]) (by simp) rfl rfl) .nil)))) (.nil))) rfl ?_)))))))
  rw [eC1]
  refine gR 0 rfl (QA rfl rfl rfl rfl rfl (gR 4 rfl (QD [8,12] rfl rfl (vc29 3 [eN] [eD 0,JQ] eShN_ok 3 [eL 1] [eD 0,JQ] eSh_ok) (.cons (hv_agg (.cons (Qd rfl) (.cons (QW (f:=cLf) (xs:=[eN]) (by simp) rfl rfl) (.cons (QW (f:=cS) (xs:=[eD 0,JQ]) (by simp) rfl rfl) .nil)))) (.cons (Qd rfl) (.nil))) rfl ?_)))
  rw [eC2]
  refine gR 0 rfl (QA rfl rfl rfl rfl rfl (gR 4 rfl ?_))
  exact rQ
end Go.Proofs.YthfhaoogcpfboaaGreat
namespace Go.Proofs.YthfhaoogcpfboaaGreat
open Go.RowKit
set_option linter.unusedVariables false
section
variable {ls:List Lf} {w:List Int} {b0 b1 b2:Int}
theorem w_at {k:Nat} (h:k<w.length):w[k]?=some (w.getD k 0):=by
 rw [List.getD_eq_getElem?_getD,List.getElem?_eq_getElem h]; rfl
theorem IxOK.at_ {n:Nat} (h:IxOK n w) {k:Nat} (hk:k<w.length):0<=w.getD k 0/\w.getD k 0<(n:Int):=h.bd _ (Xr (w_at hk))
theorem IxOK.lt {n:Nat} (h:IxOK n w) {i:Nat}:∀ {j:Nat},i<j->j<w.length->w.getD i 0<w.getD j 0
 | 0,hij,_=>by omega
 | j+1,hij,hj=>by
  have h1:=h.inc j _ _ (w_at (by omega)) (w_at hj)
  by_cases e:i=j
  ·rw [e]; exact h1
  ·have:=h.lt (i:=i) (j:=j) (by omega) (by omega); omega
theorem sel_mem {i:Int} (h0:0<=i) (h1:i<(ls.length:Int)):selF ls i∈ls:=Xr (sel_some h0 h1)
theorem LvsOK.set {i:Nat} {y:Lf} (h:LvsOK ls) (hy:y.ix=(i:Int)) (ho:y.OK):LvsOK (ls.set i y) where
 n:=by rw [List.length_set]; exact h.n
 ix k x hx:=by
  rw [List.getElem?_set] at hx
  split at hx
  ·rename_i e
   split at hx
   ·injection hx with hx; rw [← hx,← e]; exact hy
   ·cases hx
  ·exact h.ix k x hx
 ok x hx:=by
  rcases List.mem_or_eq_of_mem_set hx with hx | hx
  ·exact h.ok x hx
  ·rw [hx]; exact ho
end
end Go.Proofs.YthfhaoogcpfboaaGreat
namespace Go.Proofs.YthfhaoogcpfboaaGreat
open Go.RowKit
set_option maxRecDepth 100000
set_option linter.unusedVariables false
theorem aw_cutw {P:Program} {N:Nat} {Z:List Nat} {rn:Option Nat} {Q:Post} {F F0:Fr} {H H0:Hp} {x y:MC} (h1:AW P N Z rn x (fun e F' H'=>e = .normal/\Weak N Z F' H' F0 H0) F H) (h2:AW P N Z rn y Q F0 H0):AW P N Z rn (.seq x y) Q F H :=
 aw_seq (aw_mono h1 fun e F' H' ⟨he,hw⟩=>by subst he; exact QH hw h2)
end Go.Proofs.YthfhaoogcpfboaaGreat
namespace Go.Proofs.YthfhaoogcpfboaaGreat
open Go.RowKit
set_option linter.unusedVariables false
section
variable {z:Int} {lv:List Lf} {hd:List (List Int)}
end
end Go.Proofs.YthfhaoogcpfboaaGreat
namespace Go.Proofs.YthfhaoogcpfboaaGreat
open Go.RowKit
set_option maxRecDepth 100000
set_option linter.unusedVariables false
theorem src_full {H:Hp} {i e z n:Nat} {els:List (List AV)} {fl:Bool} (hg:get H i=some (.cells e z els fl)) (hn:els.length=n):JT H z (.sl i 0 n)=some ([i],els):=by
 simp only [JT,hg]
 rw [if_pos ⟨trivial,by omega⟩,List.drop_zero,List.take_of_length_le (by omega)]
theorem w_step {n j:Nat} (hn:n<=16) (hj:j<=5) (h:((2^j:Nat):Int)<(n:Int)):j+1<=lg n:=by
 have:∀ n:Fin 17,∀ j:Fin 6,2^j.val<n.val->j.val+1<=lg n.val:=by decide
 exact this ⟨n,by omega⟩ ⟨j,by omega⟩ (by simpa using (by exact_mod_cast h:2^j<n))
theorem w_end {n j:Nat} (hn:n<=16) (hj:j<=lg n) (h:¬ ((2^j:Nat):Int)<(n:Int)):2^j=wS n:=by
 have h5:lg n<=5:=(by decide:∀ n:Fin 17,lg n.val<=5) ⟨n,by omega⟩
 have:∀ n:Fin 17,∀ j:Fin 6,j.val<=lg n.val->n.val<=2^j.val->2^j.val=wS n.val:=by decide
 exact this ⟨n,by omega⟩ ⟨j,by omega⟩ hj (by have:¬ 2^j<n:=fun q=>h (by exact_mod_cast q); show n<=2^j; omega)
theorem w_dbl {j:Nat} (h:j<=5):W (2*((2^j:Nat):Int))=((2^(j+1):Nat):Int):=by
 have:∀ j:Fin 6,W (2*((2^j.val:Nat):Int))=((2^(j.val+1):Nat):Int):=by decide +kernel
 exact this ⟨j,by omega⟩
theorem lg_5 {n:Nat} (hn:n<=16):lg n<=4:=by
 have:∀ n:Fin 17,lg n.val<=4:=by decide
 exact this ⟨n,by omega⟩
theorem any_at {α:Type} {p:α->Bool} {l:List α} {k:Nat} {x:α} (h:l[k]?=some x):(l.drop k).any p=(p x||(l.drop (k+1)).any p):=by rw [Jo h]; rfl
theorem inSp_t {b m:Nat} {x:Int} (h1:x ≥ (b:Int)) (h2:x<((b+m:Nat):Int)):inSp (b,m) x=true:=by
 simp only [inSp,Bool.and_eq_true,decide_eq_true_eq]; exact ⟨h1,h2⟩
theorem inSp_f {b m:Nat} {x:Int} (h:¬ (x ≥ (b:Int)/\x<((b+m:Nat):Int))):inSp (b,m) x=false:=by
 simp only [inSp,Bool.and_eq_false_iff,decide_eq_false_iff_not]; omega
theorem hidT_pow (ls:List Lf) {d b:Nat} (hd:d<=6):Jq ls (b,2^d)=Qu (ofK ls) d b:=by
 show Qu (ofK ls) (lg (2^d)) b=_
 rw [lg_pow hd]
def mcv71:MC:=(sq [oN 2 (.mv (cI 0)) []] (sq [oN 3 (.mv (cI 1)) []] (.seq (.block 0 (.loop (.seq (sq [oM 4 3 [],oM 5 0 [],oB 6 .lss 4 5 [0,1]] (.cond 6 .skip (.exit 0))) (.block 1 (rg [oM 7 3 [],oB 8 .mul (cI 2) 7 [0],oM 3 8 [1,0,1]]))))) (sq [oM 9 3 [],oM 2 9 [0,0]] .ret))))
theorem mcOkv71:okM Tryz.prog Tryz.f71 10=some mcv71:=by kernel_rfl
theorem vc71 (n:Nat) (hn:n<=16):FC Tryz.prog 71 [iv (n:Int)] [] (iv ((wS n:Nat):Int)) [] false:=by
 have h4:=lg_5 hn
 refine Qg (nt:=10) Tryz.func71 rfl rfl mcOkv71 (nL rfl) ?_
 delta mcv71
 refine gA 10 rfl ?_
 refine Qo (α:=Nat) (fun j=>10-j) (fun j=>[(0,iv (n:Int)),(3,iv ((2^(j):Nat):Int))]) (fun j=>[]) (fun j=>j<=lg n) 0 (Nat.zero_le _)
  (Qb (Qa rfl rfl) (.nil) (fun i h=>by cases h)) ?_
 intro j hj
 refine gT 7 rfl (Qc rfl (fun h6=>?_) (fun h6=>?_))
 ·replace h6:=of_decide_eq_true h6
  refine gK 4 rfl (Q4 (c:=((2^(j+1):Nat):Int)) rfl rfl rfl (w_dbl (by omega)) (gR 2 rfl ?_))
  have hj1:=w_step hn (by omega) h6
  exact Qz <| ⟨j+1,hj1,by omega,Qb (Qa rfl rfl) (.nil) (fun i h=>by cases h)⟩
 ·replace h6:=of_decide_eq_false h6
  refine gK 7 rfl ?_
  rw [← w_end hn hj h6]
  exact rQ
def mcv120:MC:=(sq [oN 6 (.mv (.c (.bool false))) []] (.seq (sq [oN 7 (.mv (cI 0)) []] (.block 0 (.loop (.seq (sq [oM 8 7 [],oM 9 0 [],oE 10 9 [1],oB 11 .lss 8 10 [0,2]] (.cond 11 .skip (.exit 0))) (.seq (.block 1 (sq [oM 14 0 [],oM 15 7 [],oX 16 1 14 15 [0,1],oD 17 1 16 [2],oM 18 1 [],oB 19 .geq 17 18 [3,4],oM 20 19 [5],pM 21 0 20 true [6],pM 22 7 20 true [6],oG 23 (.ixsl 1 21 22) 20 true [7,8,6],pD 24 1 23 20 true [9,6],pM 25 1 20 true [6],pM 26 2 20 true [6],oG 27 (.bin .add 25 26) 20 true [11,12,6],oG 28 (.bin .lss 24 27) 20 true [10,13,6],oN 29 (.pick 20 28 (.c (.bool false))) [6,14]] (.cond 29 (sq [oN 6 (.mv (.c (.bool true))) []] .ret) .skip))) (rg [oM 12 7 [],oB 13 .add 12 (cI 1) [0],oM 7 13 [1,0,1]])))))) (sq [oN 6 (.mv (.c (.bool false))) []] .ret)))
theorem mcOkv120:okM Tryz.prog Tryz.f120 30=some mcv120:=by kernel_rfl
theorem vc120 (w:List Int) (hw:w.length<=1000000) (b m:Nat) (hb:b+m<=1000000):FC Tryz.prog 120 [.rs 1 (w.map civ),iv (b:Int),iv (m:Int)] [] (.bool (w.any (inSp (b,m)))) [] false:=by
 refine Qg (nt:=30) Tryz.func120 rfl rfl mcOkv120 (nL rfl) ?_
 delta mcv120
 refine gA 10 rfl ?_
 refine Qo (α:=Nat) (fun k=>w.length-k) (fun k=>[(0,.rs 1 (w.map civ)),(1,iv (b:Int)),(2,iv (m:Int)),(7,iv (((k):Nat):Int))]) (fun k=>[]) (fun k=>k<=w.length/\(w.drop k).any (inSp (b,m))=w.any (inSp (b,m))) 0 (⟨by omega,rfl⟩)
  (Qb (Qa rfl rfl) (.nil) (fun i h=>by cases h)) ?_
 rintro k ⟨hk,hinv⟩
 refine gT 5 rfl (Qe rfl rfl (gR 2 rfl (Qc rfl (fun h11=>?_) (fun h11=>?_))))
 ·replace h11:=of_decide_eq_true h11
  refine gK 7 rfl ?_
  obtain ⟨x,hxk,hxm⟩:=Qk (L:=w) (k:=k) (by omega)
  refine Qi (f:=civ) (y:=x) rfl rfl rfl (by omega) hxk (gR 2 rfl (Qx rfl rfl rfl rfl (fun h19=>?_) (fun h19=>?_)))
  ·skip
   refine gR 3 rfl (Qi (f:=civ) (y:=x) rfl rfl rfl (by omega) hxk (gR 3 rfl (QS (c:=((b+m:Nat):Int)) rfl rfl rfl (addNW2 hb) (gR 0 rfl (Qx rfl rfl rfl rfl (fun h28=>?_) (fun h28=>?_))))))
   ·skip
    refine gR 8 rfl ?_
    rw [← hinv,any_at hxk,inSp_t h19 h28]
    exact rQ
   ·skip
    refine gR 6 rfl (Qf rfl rfl rfl (by omega) (gR 2 rfl ?_))
    rw [any_at hxk,inSp_f (by exact fun h=>h28 h.2),Bool.false_or] at hinv
    exact Qz <| ⟨k+1,⟨by omega,hinv⟩,by omega,Qb (Qa rfl rfl) (.nil) (fun i h=>by cases h)⟩
  ·skip
   refine gR 15 rfl (Qf rfl rfl rfl (by omega) (gR 2 rfl ?_))
   rw [any_at hxk,inSp_f (by exact fun h=>h19 h.1),Bool.false_or] at hinv
   exact Qz <| ⟨k+1,⟨by omega,hinv⟩,by omega,Qb (Qa rfl rfl) (.nil) (fun i h=>by cases h)⟩
 ·replace h11:=of_decide_eq_false h11
  refine gK 6 rfl ?_
  rw [← hinv,List.drop_eq_nil_of_le (by omega)]
  exact rQ
def mcv121:MC:=(sq [oN 6 (.mv (.c (.str (strN [])))) []] (.seq (sq [oM 7 2 [],oB 8 .gtr 7 (cI 1) [0]] (.cond 8 (sq [oM 9 0 [],oM 10 1 [],oM 11 2 [],oB 12 .quo 11 (cI 2) [2],oC 13 121 [9,10,12] [0,1,3],oM 14 0 [],oM 15 1 [],oM 16 2 [],oB 17 .quo 16 (cI 2) [7],oB 18 .add 15 17 [6,8],oM 19 2 [],oB 20 .quo 19 (cI 2) [10],oC 21 121 [14,18,20] [5,9,11,4],oC 22 126 [13,21] [4,12,12],oM 6 22 (13::13::up 14)] .ret) .skip)) (.seq (sq [oM 23 1 [],oM 24 0 [],oE 25 24 [1],oB 26 .geq 23 25 [0,2]] (.cond 26 (sq [oC 27 148 [] [],oM 6 27 [0,0,0]] .ret) .skip)) (sq [oM 28 0 [],oM 29 1 [],oX 30 5 28 29 [0,1],oL 31 5 30 [2],oC 32 42 [31] [3],oC 33 125 [32] [4,4],oM 6 33 (5::5::up 6)] .ret))))
theorem mcOkv121:okM Tryz.prog Tryz.f121 34=some mcv121:=by kernel_rfl
theorem vc121_0 (ls:List Lf) (hl:LsOK ls) (b:Nat) (hb:b+2^0<=64):FC Tryz.prog 121 [.rs 5 (ls.map cLf),iv ((b:Nat):Int),iv ((2^(0):Nat):Int)] [] (.str (strN (Qu (ofK ls) (0) (b)))) [] false:=by
 have hln:=hl.n
 refine Qg (nt:=34) Tryz.func121 rfl rfl mcOkv121 (nL rfl) ?_
 delta mcv121
 refine gA 8 rfl (Qp rfl rfl rfl rfl (by decide) (gR 8 rfl (Qe rfl rfl (gR 0 rfl (XZ rfl rfl rfl (gR 1 rfl (Qc rfl (fun h26=>?_) (fun h26=>?_))))))))
 ·replace h26:=of_decide_eq_true h26
  refine gK 2 rfl (cN rfl rfl (vc148) (gR 3 rfl ?_))
  rw [show Qu (ofK ls) 0 b=missS from by show (ofK ls b 1).getD []=_; rw [ofK_2 (by decide) (by omega)]; rfl]
  exact rQ
 ·replace h26:=of_decide_eq_false h26
  refine gK 2 rfl ?_
  obtain ⟨x,hx,hxm⟩:=Qk (L:=ls) (k:=b) (by omega)
  refine gI 3 rfl (Qi (f:=cLf) (y:=x) rfl rfl rfl (by omega) hx (gR 0 rfl (Q8 (cs:=cLf x) rfl rfl (nL rfl) rfl (gR 0 rfl (cN rfl rfl (vc42 x (hl.ok x hxm)) (gR 0 rfl (cN rfl rfl (vc125 (Xn x) ⟨textS_8 (hl.ok x hxm).b,Nat.le_trans (textS_len (hl.ok x hxm).n) (by decide)⟩) (gR 3 rfl ?_))))))))
  rw [show Qu (ofK ls) 0 b=J2 (Xn x) from by show (ofK ls b 1).getD []=_; rw [ofK_3 (by decide) hx]; rfl]
  exact rQ
theorem vc121_s (ls:List Lf) (hl:LsOK ls) (d b:Nat) (hb:b+2^(d+1)<=64) (ih:∀ c,c+2^d<=64->FC Tryz.prog 121 [.rs 5 (ls.map cLf),iv ((c:Nat):Int),iv ((2^(d):Nat):Int)] [] (.str (strN (Qu (ofK ls) (d) (c)))) [] false):FC Tryz.prog 121 [.rs 5 (ls.map cLf),iv ((b:Nat):Int),iv ((2^(d+1):Nat):Int)] [] (.str (strN (Qu (ofK ls) (d+1) (b)))) [] false:=by
 have hpw:=pow2 d
 refine Qg (nt:=34) Tryz.func121 rfl rfl mcOkv121 (nL rfl) ?_
 delta mcv121
 refine gA 8 rfl (QA rfl rfl rfl rfl (by have:=Nat.two_pow_pos d; rw [Nat.pow_succ]; omega) (gR 7 rfl (QR rfl rfl rfl (by decide) (quo2W hpw (by omega)) (gR 0 rfl (cN rfl rfl (ih b (by omega)) (gR 3 rfl (QR rfl rfl rfl (by decide) (quo2W hpw (by omega)) (gR 0 rfl (QS (c:=((b+2^d:Nat):Int)) rfl rfl rfl (addNW (by omega)) (gR 1 rfl (QR rfl rfl rfl (by decide) (quo2W hpw (by omega)) ?_)))))))))))
 refine gR 0 rfl (cN rfl rfl (ih (b+2^d) (by omega)) (gR 0 rfl (cN rfl rfl (vc126 (Qu (ofK ls) d b) (Qu (ofK ls) d (b+2^d)) ((ofK_ok ls).tree _ _) ((ofK_ok ls).tree _ _)) (gR 3 rfl ?_))))
 rw [treeD_f (by rw [ofK_one]; rfl)]
 exact rQ
theorem vc121 (ls:List Lf) (hl:LsOK ls):∀ (d b:Nat),b+2^d<=64->FC Tryz.prog 121 [.rs 5 (ls.map cLf),iv ((b:Nat):Int),iv ((2^(d):Nat):Int)] [] (.str (strN (Qu (ofK ls) (d) (b)))) [] false
 | 0,b,hb=>vc121_0 ls hl b hb
 | d+1,b,hb=>vc121_s ls hl d b hb fun c hc=>vc121 ls hl d c hc
def mcv70:MC:=(sq [oN 8 (.mv (.c .nils)) []] (.seq (sq [oM 9 2 [],oM 10 0 [],oE 11 10 [1],oB 12 .geq 9 11 [0,2]] (.cond 12 (sq [oN 8 (.mv (.c .nils)) []] .ret) .skip)) (.seq (sq [oM 13 1 [],oM 14 2 [],oM 15 3 [],oC 16 120 [13,14,15] [0,1,2],oN 17 (.un .not 16) [3]] (.cond 17 (sq [oM 18 0 [],oM 19 2 [],oM 20 3 [],oC 21 121 [18,19,20] [0,1,2],oN 22 (.bslice 9 1 [(.str (strN []))] 1 [(0,21)]) [3],oM 8 22 (4::3::up 5)] .ret) .skip)) (.seq (sq [oM 23 3 [],oB 24 .eql 23 (cI 1) [0]] (.cond 24 (sq [oN 8 (.mv (.c .nils)) []] .ret) .skip)) (sq [oM 25 0 [],oM 26 1 [],oM 27 2 [],oM 28 3 [],oB 29 .quo 28 (cI 2) [3],oC 30 70 [25,26,27,29] [0,1,2,4],oM 31 0 [],oM 32 1 [],oM 33 2 [],oM 34 3 [],oB 35 .quo 34 (cI 2) [9],oB 36 .add 33 35 [8,10],oM 37 3 [],oB 38 .quo 37 (cI 2) [12],oC 39 70 [31,32,36,38] [6,7,11,13,5],oN 40 (.app 9 1 16 [(.str (strN []))] 30 39) [5,14,14],oM 8 40 (15::15::up 16)] .ret)))))
theorem mcOkv70:okM Tryz.prog Tryz.f70 41=some mcv70:=by kernel_rfl
theorem vc70_0 (ls:List Lf) (hl:LsOK ls) (w:List Int) (hw:w.length<=1000) (b:Nat) (hb:b+2^0<=64):FC Tryz.prog 70 [.rs 5 (ls.map cLf),.rs 1 (w.map civ),iv ((b:Nat):Int),iv ((2^(0):Nat):Int)] [] (.sl 905 0 (QG ls.length w (0) (b)).length) [(905,.cells 9 1 (((QG ls.length w (0) (b)).map (Jq ls)).map cS) true)] false:=by
 have hln:=hl.n
 refine Qg (nt:=41) Tryz.func70 rfl rfl mcOkv70 (nL rfl) ?_
 delta mcv70
 refine aw_post (gA 9 rfl (Qe rfl rfl (gR 0 rfl (XZ rfl rfl rfl (gR 1 rfl (Qc rfl (fun h12=>?_) (fun h12=>?_)))))))
 ·replace h12:=of_decide_eq_true h12
  refine gK 5 rfl ?_
  rw [hid_0 (show ls.length<=b by omega)]
  exact Qt <| ⟨[(8,.sl 905 0 (([]:List (Nat×Nat))).length)],[(905,.cells 9 1 (((([]:List (Nat×Nat))).map (Jq ls)).map cS) true)],Qb (.cons rfl (Xj rfl rfl) (.nil)) (.virt rfl (.nil)) (fun i h=>by cases h),Ql rfl (Qs rfl (.inr rfl)) (.keep rfl rfl (Jg (fun _=>rfl) _) .nil)⟩
 ·replace h12:=of_decide_eq_false h12
  refine gK 7 rfl (cN rfl rfl (vc120 w (by omega) b (2^(0)) (by omega)) ?_)
  cases h16:w.any (inSp (b,2^(0)))
  ·skip
   refine gR 8 rfl (cN rfl rfl (vc121 ls hl (0) b (by omega)) (gR 0 rfl (bM cS (([Qu (ofK ls) (0) b]:List (List Int))) (by kernel_rfl) (gR 3 rfl ?_))))
   rw [hid_1 (by omega) h16]
   exact Qt <| ⟨[(8,.sl 905 0 ([(b,2^(0))]).length)],[(905,.cells 9 1 ((([(b,2^(0))]).map (Jq ls)).map cS) true)],QB (i:=22) (i':=905) (F1:=[(8,.sl 22 0 ([(b,2^(0))]).length)]) (H1:=[(22,.cells 9 1 ((([(b,2^(0))]).map (Jq ls)).map cS) true)]) (.cons rfl (JU (by simp) rfl) (.nil)) (.keep (by rw [show [(b,2^(0))].map (Jq ls)=[Qu (ofK ls) (0) b] from by rw [List.map_cons,hidT_pow ls (by omega)]; rfl]; rfl) rfl (.nil)) (fun i h=>by cases h) rfl rfl (.cons rfl (.sl _ _) (.nil)) (Qa rfl rfl) (.keep rfl rfl .nil) nz,Ql rfl (Qs rfl (.inr rfl)) (.keep rfl rfl (Jg (fun _=>rfl) _) .nil)⟩
  ·skip
   refine gR 8 rfl (QA rfl rfl rfl rfl rfl (gR 7 rfl ?_))
   rw [hid_2 (by omega) h16]
   exact Qt <| ⟨[(8,.sl 905 0 (([]:List (Nat×Nat))).length)],[(905,.cells 9 1 (((([]:List (Nat×Nat))).map (Jq ls)).map cS) true)],Qb (.cons rfl (Xj rfl rfl) (.nil)) (.virt rfl (.nil)) (fun i h=>by cases h),Ql rfl (Qs rfl (.inr rfl)) (.keep rfl rfl (Jg (fun _=>rfl) _) .nil)⟩
theorem vc70_s (ls:List Lf) (hl:LsOK ls) (w:List Int) (hw:w.length<=1000) (d b:Nat) (hb:b+2^(d+1)<=64) (ih:∀ c i,c+2^d<=64->FC Tryz.prog 70 [.rs 5 (ls.map cLf),.rs 1 (w.map civ),iv ((c:Nat):Int),iv ((2^(d):Nat):Int)] [] (.sl i 0 (QG ls.length w (d) (c)).length) [(i,.cells 9 1 (((QG ls.length w (d) (c)).map (Jq ls)).map cS) true)] false):FC Tryz.prog 70 [.rs 5 (ls.map cLf),.rs 1 (w.map civ),iv ((b:Nat):Int),iv ((2^(d+1):Nat):Int)] [] (.sl 905 0 (QG ls.length w (d+1) (b)).length) [(905,.cells 9 1 (((QG ls.length w (d+1) (b)).map (Jq ls)).map cS) true)] false:=by
 have hln:=hl.n
 have hpw:=pow2 d
 have h1l:=hidS_len ls.length w d b
 have h2l:=hidS_len ls.length w d (b+2^d)
 have h6:d+1<=6:=by
  refine Decidable.byContradiction fun h=>?_
  have:=Nat.pow_le_pow_right (show 0<2 by decide) (show 7<=d+1 by omega)
  omega
 refine Qg (nt:=41) Tryz.func70 rfl rfl mcOkv70 (nL rfl) ?_
 delta mcv70
 refine aw_post (gA 9 rfl (Qe rfl rfl (gR 0 rfl (XZ rfl rfl rfl (gR 1 rfl (Qc rfl (fun h12=>?_) (fun h12=>?_)))))))
 ·replace h12:=of_decide_eq_true h12
  refine gK 5 rfl ?_
  rw [hid_0 (show ls.length<=b by omega)]
  exact Qt <| ⟨[(8,.sl 905 0 (([]:List (Nat×Nat))).length)],[(905,.cells 9 1 (((([]:List (Nat×Nat))).map (Jq ls)).map cS) true)],Qb (.cons rfl (Xj rfl rfl) (.nil)) (.virt rfl (.nil)) (fun i h=>by cases h),Ql rfl (Qs rfl (.inr rfl)) (.keep rfl rfl (Jg (fun _=>rfl) _) .nil)⟩
 ·replace h12:=of_decide_eq_false h12
  refine gK 7 rfl (cN rfl rfl (vc120 w (by omega) b (2^(d+1)) (by omega)) ?_)
  cases h16:w.any (inSp (b,2^(d+1)))
  ·skip
   refine gR 8 rfl (cN rfl rfl (vc121 ls hl (d+1) b (by omega)) (gR 0 rfl (bM cS (([Qu (ofK ls) (d+1) b]:List (List Int))) (by kernel_rfl) (gR 3 rfl ?_))))
   rw [hid_1 (by omega) h16]
   exact Qt <| ⟨[(8,.sl 905 0 ([(b,2^(d+1))]).length)],[(905,.cells 9 1 ((([(b,2^(d+1))]).map (Jq ls)).map cS) true)],QB (i:=22) (i':=905) (F1:=[(8,.sl 22 0 ([(b,2^(d+1))]).length)]) (H1:=[(22,.cells 9 1 ((([(b,2^(d+1))]).map (Jq ls)).map cS) true)]) (.cons rfl (JU (by simp) rfl) (.nil)) (.keep (by rw [show [(b,2^(d+1))].map (Jq ls)=[Qu (ofK ls) (d+1) b] from by rw [List.map_cons,hidT_pow ls (by omega)]; rfl]; rfl) rfl (.nil)) (fun i h=>by cases h) rfl rfl (.cons rfl (.sl _ _) (.nil)) (Qa rfl rfl) (.keep rfl rfl .nil) nz,Ql rfl (Qs rfl (.inr rfl)) (.keep rfl rfl (Jg (fun _=>rfl) _) .nil)⟩
  ·skip
   refine gR 8 rfl (Qp rfl rfl rfl rfl (by have:=Nat.two_pow_pos d; rw [Nat.pow_succ]; omega) (gR 9 rfl (QR rfl rfl rfl (by decide) (quo2W hpw (by omega)) (gR 0 rfl (cN rfl rfl (ih b 901 (by omega)) (gR 4 rfl (QR rfl rfl rfl (by decide) (quo2W hpw (by omega)) (gR 0 rfl (QS (c:=((b+2^d:Nat):Int)) rfl rfl rfl (addNW (by omega)) (gR 1 rfl (QR rfl rfl rfl (by decide) (quo2W hpw (by omega)) ?_)))))))))))
   refine gR 0 rfl (cN rfl rfl (ih (b+2^d) 902 (by omega)) (gR 0 rfl (Ju (f:=cS) (xs:=(QG ls.length w d b).map (Jq ls)) (ys:=(QG ls.length w d (b+2^d)).map (Jq ls)) (m:=(QG ls.length w d (b+2^d)).length) (rd:=[902]) rfl rfl rfl rfl (src_full rfl (by simp)) rfl rfl (by decide) (fun _=>rfl) (by simp) (by simp) (by omega) (by omega) (fun _=>rfl) (gR 3 rfl ?_))))
   rw [hid_3 (by omega) h16]
   exact Qt <| ⟨[(8,.sl 905 0 (QG ls.length w d b++QG ls.length w d (b+2^d)).length)],[(905,.cells 9 1 (((QG ls.length w d b++QG ls.length w d (b+2^d)).map (Jq ls)).map cS) true)],QB (i:=40) (i':=905) (F1:=[(8,.sl 40 0 (QG ls.length w d b++QG ls.length w d (b+2^d)).length)]) (H1:=[(40,.cells 9 1 (((QG ls.length w d b++QG ls.length w d (b+2^d)).map (Jq ls)).map cS) true)]) (.cons rfl (JU (by simp) rfl) (.nil)) (.keep (by rw [List.map_append (f:=Jq ls)]; rfl) rfl (.nil)) (fun i h=>by cases h) rfl rfl (.cons rfl (.sl _ _) (.nil)) (Qa rfl rfl) (.keep rfl rfl .nil) nz,Ql rfl (Qs rfl (.inr rfl)) (.keep rfl rfl (Jg (fun _=>rfl) _) .nil)⟩
theorem vc70i {ls:List Lf} {w:List Int} {d b:Nat} (i:Nat) (h:FC Tryz.prog 70 [.rs 5 (ls.map cLf),.rs 1 (w.map civ),iv ((b:Nat):Int),iv ((2^(d):Nat):Int)] [] (.sl 905 0 (QG ls.length w (d) (b)).length) [(905,.cells 9 1 (((QG ls.length w (d) (b)).map (Jq ls)).map cS) true)] false):FC Tryz.prog 70 [.rs 5 (ls.map cLf),.rs 1 (w.map civ),iv ((b:Nat):Int),iv ((2^(d):Nat):Int)] [] (.sl i 0 (QG ls.length w (d) (b)).length) [(i,.cells 9 1 (((QG ls.length w (d) (b)).map (Jq ls)).map cS) true)] false :=
 fc_ren (swp 905 i) (swp_swp _ _) h (.cons (.closed rfl) (.cons (.closed rfl) (.cons (.closed rfl) (.cons (.closed rfl) .nil)))) .nil (.sl (by simp [swp])) (.cons (by simp [swp]) .flat .nil)
theorem vc70 (ls:List Lf) (hl:LsOK ls) (w:List Int) (hw:w.length<=1000):∀ (d b i:Nat),b+2^d<=64->FC Tryz.prog 70 [.rs 5 (ls.map cLf),.rs 1 (w.map civ),iv ((b:Nat):Int),iv ((2^(d):Nat):Int)] [] (.sl i 0 (QG ls.length w (d) (b)).length) [(i,.cells 9 1 (((QG ls.length w (d) (b)).map (Jq ls)).map cS) true)] false
 | 0,b,i,hb=>vc70i i (vc70_0 ls hl w hw b hb)
 | d+1,b,i,hb=>vc70i i (vc70_s ls hl w hw d b hb fun c j hc=>vc70 ls hl w hw d c j hc)
end Go.Proofs.YthfhaoogcpfboaaGreat
namespace Go.Proofs.YthfhaoogcpfboaaGreat
open Go.RowKit
set_option maxRecDepth 100000
set_option linter.unusedVariables false
end Go.Proofs.YthfhaoogcpfboaaGreat
namespace Go.Proofs.YthfhaoogcpfboaaGreat
open Go.RowKit
set_option maxRecDepth 100000
set_option linter.unusedVariables false
theorem rc_frzT {α:Type} {f:α->List AV} {xs:List α} {H H0:Hp} {al:Bool} {i e z n:Nat} (h:get H i=some (.cells e z (xs.map f) true)) (h0:get H0 i=none) (hn:n<=xs.length) (hf:∀ x,noROL (f x)=true):RC H H0 al (.sl i 0 n) (.rs z ((xs.take n).map f)):=by
 have:=rc_freeze (H0:=H0) (al:=al) (j:=0) (n:=n) h h0 (by simpa using hn) (.inr fun el he v hv=>noROE_mem (Jg hf xs) el he v hv)
 rw [List.drop_zero,← List.map_take] at this
 exact this
theorem src_sub {H:Hp} {i e z j n:Nat} {els els':List (List AV)} {fl:Bool} (hg:get H i=some (.cells e z els fl)) (h:j+n<=els.length) (he:(els.drop j).take n=els'):JT H z (.sl i j n)=some ([i],els'):=by
 subst he
 simp only [JT,hg]
 rw [if_pos ⟨trivial,h⟩]
def oddZ (kd N M:Nat):Prop:=(kd<6/\N=0)\/(6<kd/\kd<9/\M=0)
instance (kd N M:Nat):Decidable (oddZ kd N M):=by unfold oddZ; exact inferInstance
structure ShB (n:Nat) (lv:List Lf) (hd:List (List Int)):Prop where
 nl:lv.length<=n
 nh:hd.length<=n
 ok:∀ x∈lv,I64 x.ix/\I64 x.want/\B8 x.salt/\x.salt.length<=n
 b:∀ d∈hd,B8 d/\d.length<=n
theorem ShB.sh {n:Nat} {lv:List Lf} {hd:List (List Int)} (h:ShB n lv hd) (hn:n<=64):ShOK lv hd where
 nl:=Nat.le_trans h.nl hn
 nh:=Nat.le_trans h.nh hn
 ok x hx:=by have:=h.ok x hx; exact ⟨this.1,this.2.1,this.2.2.1,by omega⟩
 b d hd:=by have:=h.b d hd; exact ⟨this.1,by show d.length<=140737488355328; omega⟩
end Go.Proofs.YthfhaoogcpfboaaGreat
namespace Go.Proofs.YthfhaoogcpfboaaGreat
open Go.RowKit
set_option maxRecDepth 100000
set_option linter.unusedVariables false
def pkS (L E:List Int):Nat->List AV
 | 0=>[.nils,.nils]
 | 1=>[ints L,.nils]
 | _=>[ints L,ints E]
theorem Xu {α:Type} {f:α->List AV} {xs:List α} {H H0:Hp} {i e z n:Nat} (h:get H i=some (.cells e z (xs.map f) true)) (h0:get H0 i=none) (hn:xs.length=n):RC H H0 true (.sl i 0 n) (.rs z (xs.map f)):=by
 have:=rc_freeze (H0:=H0) (al:=true) (j:=0) (n:=n) h h0 (by simp; omega) (.inl rfl)
 rw [List.drop_zero,List.take_of_length_le (by simp; omega)] at this
 exact this
theorem pst_t {L:List Int} {k:Nat} (h:Uq L=true):pSt L (k+1)=⟨(pSt L k).cells++[pB1 L (pSt L k)]++[pB2 L (pSt L k)],(pSt L k).x+pW L (pSt L k),XV L (pSt L k).a⟩:=by
 show pStep L (pSt L k)=_; unfold pStep; rw [if_pos h]
theorem pst_f {L:List Int} {k:Nat} (h:Uq L=false):pSt L (k+1)=⟨(pSt L k).cells++[pB1 L (pSt L k)],(pSt L k).x+pW L (pSt L k),XV L (pSt L k).a⟩:=by
 show pStep L (pSt L k)=_; unfold pStep; rw [if_neg (by rw [h]; decide)]
theorem pst_len {L:List Int} {k:Nat} (h:PStI L k) (hk:k<=4):(pSt L k).cells.length<=8:=by have:=h.n; split at this <;> omega
theorem pickW_at (v:Int) (h:0<=v/\v<4):([2,1,3,2]:List Int)[v.toNat]?=some (pickW v):=by
 obtain rfl | rfl | rfl | rfl:v=0\/v=1\/v=2\/v=3:=by omega
 all_goals rfl
def mcv9:MC:=(sq [oN 2 (.alloc 31 3 [(.str (strN [])),.nils,.nils]) []] (sq [oN 3 (.alloc 23 2 [.nils,.nils]) []] (.seq (sq [oN 4 (.mv (cI 0)) []] (.block 0 (.loop (.seq (sq [oM 19 4 [],oM 20 0 [],oE 21 20 [1],oB 22 .lss 19 21 [0,2],oM 23 22 [3],pM 24 4 23 true [4],oG 25 (.bin .lss 24 (cI 2)) 23 true [5,4],oN 26 (.pick 23 25 (.c (.bool false))) [4,6]] (.cond 26 .skip (.exit 0))) (.seq (.block 1 (rg [oM 29 4 [],oM 30 0 [],oM 31 4 [],oX 32 1 30 31 [1,2],oD 33 1 32 [3],oN 34 (.ixarr 2 1 3 29) (0::up 5),oS 1 34 33 (5::4::up 5)])) (rg [oM 27 4 [],oB 28 .add 27 (cI 1) [0],oM 4 28 [1,0,1]])))))) (sq [oN 35 (.ixarr 2 1 3 (cI 0)) [],oD 36 1 35 [0],oN 37 (.build [.nils,(iv 0)] [(0,1,36)]) [1],oN 38 (.box 83 2 37) [2],oM 5 38 (3::up 4)] (sq [oN 39 (.build [(.str (strN [])),.nils,.nils] [(0,1,(.c (.str (strN [112]))))]) [],oN 6 (.alloc 31 3 [(.str (strN [])),.nils,.nils]) [],oS 3 6 39 [1,0,0,1]] (sq [oM 40 5 [],oC 41 46 [40,(cI 3)] [0],oB 42 .add (cI 2) 41 [1],oM 7 42 [2,1,0,1,2]] (sq [oM 43 5 [],oC 44 46 [43,(cI 3)] [0],oB 45 .eql 44 (cI 2) [1],oM 46 45 [2,1],pM 47 7 46 true [3],oG 48 (.bin .lss 47 (cI 4)) 46 true [4,3],oN 49 (.pick 46 48 (.c (.bool false))) [3,5],oM 8 49 (6::3::up 7)] (sq [oM 50 5 [],oC 51 46 [50,(cI 3)] [0],oB 52 .add (cI (-6)) 51 [1],oM 9 52 [2,1,0,1,2]] (sq [oM 53 5 [],oC 54 46 [53,(cI 3)] [0],oB 55 .add (cI 2) 54 [1],oM 10 55 [2,1,0,1,2]] (.seq (sq [oN 11 (.mv (cI 0)) []] (.block 2 (.loop (.seq (sq [oM 56 11 [],oM 57 7 [],oB 58 .lss 56 57 [0,1]] (.cond 58 .skip (.exit 2))) (.seq (.block 3 (sq [oM 61 5 [],oC 62 46 [61,(cI 4)] [0],oB 63 .add (cI 1) 62 [1],oM 12 63 [2,1,0,1,2]] (dq [oA 64 1 6 [],oD 65 1 64 [0],oM 66 9 [],oN 67 (.build (iz 3) [(0,1,66)]) [2],oM 68 9 [],oM 69 12 [],oB 70 .add 68 69 [4,5],oM 71 10 [],oN 72 (.build (iz 3) [(0,1,70),(1,1,(cI 3)),(2,1,71)]) [6,7],oC 73 47 [67,72] [3,8],oN 74 (.bslice 85 1 [.nils] 1 [(0,73)]) [9],oN 75 (.app 85 1 24 [.nils] 65 74) [1,10,9],oA 76 1 6 (up 12),oS 1 76 75 (12::11::11::up 12)] (.seq (sq [oM 77 8 []] (.cond 77 (dg [oA 78 1 6 [],oD 79 1 78 [0],oM 80 9 [],oN 81 (.build (iz 3) [(0,1,80),(1,1,(cI 3))]) [2],oM 82 9 [],oM 83 12 [],oB 84 .add 82 83 [4,5],oM 85 10 [],oN 86 (.build (iz 3) [(0,1,84),(1,1,(cI 6)),(2,1,85)]) [6,7],oC 87 47 [81,86] [3,8],oN 88 (.bslice 85 1 [.nils] 1 [(0,87)]) [9],oN 89 (.app 85 1 24 [.nils] 79 88) [1,10,9],oA 90 1 6 (up 12),oS 1 90 89 (12::11::11::up 12)]) .skip)) (rg [oM 91 9 [],oM 92 12 [],oB 93 .add 91 92 [0,1],oM 9 93 [2,0,1,2]]))))) (rg [oM 59 11 [],oB 60 .add 59 (cI 1) [0],oM 11 60 [1,0,1]])))))) (.seq (sq [oM 94 5 [],oC 95 46 [94,(cI 4)] [0],oB 96 .eql 95 (cI 3) [1],oM 97 96 [2,1],pA 98 1 6 97 true [3],pD 99 1 98 97 true [4,3],oG 100 (.len 99) 97 true [5,3],oG 101 (.bin .lss 100 (cI 6)) 97 true [6,3],oN 102 (.pick 97 101 (.c (.bool false))) [3,7]] (.cond 102 (sq [oM 103 5 [],oA 104 1 6 [],oD 105 1 104 [1],oE 106 105 [2],oC 107 46 [103,106] [0,3],oM 13 107 (4::4::up 5)] (sq [oN 108 (.build (iz 3) [(1,1,(cI 1)),(2,1,(cI 1))]) [],oM 109 5 [],oC 110 46 [109,(cI 4)] [1],oB 111 .add (cI 2) 110 [2],oN 112 (.build (iz 4) [(0,3,108),(3,1,111)]) [0,3],oN 14 (.alloc 90 4 (iz 4)) [],oS 4 14 112 (5::4::2::up 6)] (dq [oN 113 (.bslice 90 4 (iz 4) 0 []) [],oA 114 1 6 [],oD 115 1 114 [1],oM 116 13 [],oX 117 1 115 116 [2,3],oD 118 1 117 [4],oN 119 (.app 90 4 32 (iz 4) 113 118) [0,5],oL 120 4 14 [],oN 121 (.bslice 90 4 (iz 4) 1 [(0,120)]) [7],oN 122 (.app 90 4 32 (iz 4) 119 121) [6,8,6],oM 15 122 (9::9::up 10)] (dq [oN 123 (.bslice 90 4 (iz 4) 0 []) [],oA 124 1 6 [],oD 125 1 124 [1],oM 126 13 [],oX 127 1 125 126 [2,3],oD 128 1 127 [4],oN 129 (.app 90 4 32 (iz 4) 123 128) [0,5],oL 130 4 14 [],oC 131 48 [130] [7,6],oN 132 (.bslice 90 4 (iz 4) 1 [(0,131)]) [8],oN 133 (.app 90 4 32 (iz 4) 129 132) [6,9,8],oM 16 133 (10::10::up 11)] (sq [oM 134 15 [],oC 135 49 [134] [0],oM 136 135 [1,1],pM 137 16 136 true [2],oG 138 (.call 49 [137]) 136 true [3,2,2],oN 139 (.pick 136 138 (.c (.bool false))) [2,4]] (.cond 139 (sq [oA 140 1 6 [],oD 141 1 140 [0],oM 142 13 [],oM 143 15 [],oX 144 1 141 142 (1::2::up 4),oS 1 144 143 (4::3::up 4)] (rg [oA 145 1 6 [],oD 146 1 145 [0],oM 147 16 [],oN 148 (.bslice 85 1 [.nils] 1 [(0,147)]) [2],oN 149 (.app 85 1 24 [.nils] 146 148) [1,3],oA 150 1 6 (up 5),oS 1 150 149 (5::4::4::up 5)])) .skip)))))) .skip)) (sq [oN 151 (.ixarr 2 1 3 (cI 1)) [],oD 152 1 151 [0],oN 153 (.build [.nils,(iv 0)] [(0,1,152)]) [1],oN 154 (.box 83 2 153) [2],oM 17 154 (3::up 4)] (.seq (sq [oN 18 (.mv (cI 0)) []] (.block 4 (.loop (.seq (sq [oM 155 18 [],oA 156 1 6 [],oD 157 1 156 [1],oE 158 157 [2],oB 159 .lss 155 158 [0,3]] (.cond 159 .skip (.exit 4))) (.seq (.block 5 (dg [oA 162 2 6 [],oD 163 1 162 [0],oN 164 (.bslice 3 1 [(iv 0)] 4 [(0,(cI 2)),(1,(cI 1)),(2,(cI 3)),(3,(cI 2))]) [],oM 165 17 [],oC 166 46 [165,(cI 4)] [3],oX 167 1 164 166 [2,4],oD 168 1 167 [5],oN 169 (.bslice 3 1 [(iv 0)] 1 [(0,168)]) [6],oN 170 (.app 3 1 8 [(iv 0)] 163 169) [1,7,4],oA 171 2 6 (up 9),oS 1 171 170 (9::8::8::up 9)])) (rg [oM 160 18 [],oB 161 .add 160 (cI 1) [0],oM 18 161 [1,0,1]])))))) (sq [oL 172 3 6 [],oS 3 2 172 [0,0]] .ret))))))))))))))
theorem mcOkv9:okM Tryz.prog Tryz.f9 173=some mcv9:=by kernel_rfl
set_option maxHeartbeats 4000000 in
theorem vc9 (L E:List Int) (hL:L.length<=4611686018427387904) (hE:E.length<=4611686018427387904):FC Tryz.prog 9 [.rs 1 [[ints L],[ints E]]] [] (.agg (cPa (partS L E))) [] true:=by
 have v0:=Qv L 0 3 (by decide)
 have v2:=Qv L (pA2 L) 3 (by decide)
 have v3:=Qv L (pA3 L) 3 (by decide)
 have v6:=Qv L (pA6 L) 4 (by decide)
 have hmb:=pMany_bd L
 have hhb:=pH_bd L
 have hcl:=pC_len L
 have hen:=pEnd_n L
 have hkk:=pK_lt L
 have hpb:=pP_b L
 have hcc:=(pCells_ok L).2
 refine Qg (nt:=173) Tryz.func9 rfl rfl mcOkv9 (nL rfl) ?_
 delta mcv9
 refine gA 14 rfl ?_
 refine Qo (α:=Nat) (fun k=>2-k) (fun k=>[(0,.rs 1 [[ints L],[ints E]]),(2,.ptr 2 0 0),(3,.ptr 3 0 0),(4,iv (((k):Nat):Int))]) (fun k=>[(2,.cells 31 3 [[.str (strN []),.nils,.nils]] true),(3,.cells 23 2 [pkS L E (k)] true)]) (fun k=>k<=2) 0 (by omega)
  (Qb (Qa rfl rfl) (kS rfl rfl) (fun i h=>by cases h)) ?_
 intro k hk
 refine gT 5 rfl (rs_len_r (n:=2) rfl rfl rfl (gR 0 rfl (Qx rfl rfl rfl rfl (fun h22=>?_) (fun h22=>?_))))
 ·skip
  refine gR 2 rfl (QA rfl rfl rfl rfl (by omega) (gR 7 rfl ?_))
  obtain rfl | rfl:k=0\/k=1:=by omega
  ·skip
   refine gI 3 rfl (rs_ix_r rfl rfl rfl (by decide) (by show _<((2:Nat):Int); decide) rfl (gR 1 rfl (Qm rfl rfl rfl (by decide) (by decide) (gR 4 rfl (Qf rfl rfl rfl (by omega) (gR 2 rfl ?_))))))
   exact Qz <| ⟨0+1,by omega,by omega,Qb (Qa rfl rfl) (kS rfl rfl) (fun i h=>by cases h)⟩
  ·skip
   refine gI 3 rfl (rs_ix_r rfl rfl rfl (by decide) (by show _<((2:Nat):Int); decide) rfl (gR 1 rfl (Qm rfl rfl rfl (by decide) (by decide) (gR 4 rfl (Qf rfl rfl rfl (by omega) (gR 2 rfl ?_))))))
   exact Qz <| ⟨1+1,by omega,by omega,Qb (Qa rfl rfl) (kS rfl rfl) (fun i h=>by cases h)⟩
 ·skip
  refine gR 8 rfl ?_
  obtain rfl:k=2:=by omega
  refine gI 1 rfl (Qm rfl rfl rfl (by decide) (by decide) (gR 14 rfl (Qr [(38,QL 83 L (0))] rfl rfl (fc35 38 83 L (0) 3 (by omega) hL) (.cons (Qd rfl) (.cons (Qd rfl) (.nil))) (.cons rfl (.nil)) rfl rfl rfl (gR 0 rfl (Qf rfl rfl rfl (by omega) (gR 2 rfl (aw_cutw (F0:=[(2,.ptr 2 0 0),(3,.ptr 3 0 0),(5,.ptr 38 0 0),(6,.ptr 6 0 0),(7,iv (JV L)),(8,.bool (Uq L))]) (H0:=[(2,.cells 31 3 [[.str (strN []),.nils,.nils]] true),(3,.cells 23 2 [pkS L E (2)] true),(38,QL 83 L (pA2 L)),(6,.cells 31 3 [[.str (strN [112]),.nils,.nils]] true)]) ?_ ?_)))))))
  ·skip
   refine gA 2 rfl (Qr [(38,QL 83 L (pA1 L))] rfl rfl (fc35 38 83 L (pA1 L) 3 (by omega) hL) (.cons (Qd rfl) (.cons (Qd rfl) (.nil))) (.cons rfl (.nil)) rfl rfl rfl (gR 0 rfl (Qx rfl rfl rfl rfl (fun h45=>?_) (fun h45=>?_))))
   ·skip
    refine gR 2 rfl (Qx rfl rfl rfl rfl (fun h48=>?_) (fun h48=>?_))
    ·skip
     refine gR 3 rfl ?_
     exact Qt <| ⟨rfl,Qb (.cs (.cs (.cs (.cs (.cs (.cons rfl (JU (congrArg AV.bool (by show _=(decide (QQ L (pA1 L) 3=2)&&decide (2+QQ L 0 3<4)); rw [decide_eq_true h45,decide_eq_true h48]; rfl)) rfl) (.nil))))))) (kS rfl rfl) (fun i h=>by cases h)⟩
    ·skip
     refine gR 3 rfl ?_
     exact Qt <| ⟨rfl,Qb (.cs (.cs (.cs (.cs (.cs (.cons rfl (JU (congrArg AV.bool (by show _=(decide (QQ L (pA1 L) 3=2)&&decide (2+QQ L 0 3<4)); rw [decide_eq_true h45,decide_eq_false h48]; rfl)) rfl) (.nil))))))) (kS rfl rfl) (fun i h=>by cases h)⟩
   ·skip
    refine gR 6 rfl ?_
    exact Qt <| ⟨rfl,Qb (.cs (.cs (.cs (.cs (.cs (.cons rfl (JU (congrArg AV.bool (by show _=(decide (QQ L (pA1 L) 3=2)&&decide (2+QQ L 0 3<4)); rw [decide_eq_false h45]; rfl)) rfl) (.nil))))))) (kS rfl rfl) (fun i h=>by cases h)⟩
  ·skip
   refine gK 3 rfl (Qr [(38,QL 83 L (pA2 L))] rfl rfl (fc35 38 83 L (pA2 L) 3 (by omega) hL) (.cons (Qd rfl) (.cons (Qd rfl) (.nil))) (.cons rfl (.nil)) rfl rfl rfl (gR 0 rfl (Qf rfl rfl rfl (by omega) (gR 5 rfl (Qr [(38,QL 83 L (pA3 L))] rfl rfl (fc35 38 83 L (pA3 L) 3 (by omega) hL) (.cons (Qd rfl) (.cons (Qd rfl) (.nil))) (.cons rfl (.nil)) rfl rfl rfl (gR 0 rfl (Qf rfl rfl rfl (by omega) (gR 8 rfl (QH (F0:=[(2,.ptr 2 0 0),(3,.ptr 3 0 0),(5,.ptr 38 0 0),(6,.ptr 6 0 0),(7,iv (JV L)),(8,.bool (Uq L)),(9,iv (pSt L (0)).x),(10,iv (pH L)),(11,iv (((0):Nat):Int))]) (H0:=[(2,.cells 31 3 [[.str (strN []),.nils,.nils]] true),(3,.cells 23 2 [pkS L E (2)] true),(38,QL 83 L ((pSt L (0)).a)),(6,.cells 31 3 [[.str (strN [112]),.sl 905 0 ((pSt L (0)).cells.length),.nils]] false),(905,.cells 85 1 (((pSt L (0)).cells).map cR) true)]) (Weak.trans (F1:=[(2,.ptr 2 0 0),(3,.ptr 3 0 0),(5,.ptr 38 0 0),(6,.ptr 6 0 0),(7,iv (JV L)),(8,.bool (Uq L)),(9,iv (pSt L (0)).x),(10,iv (pH L)),(11,iv (((0):Nat):Int))]) (H1:=[(2,.cells 31 3 [[.str (strN []),.nils,.nils]] true),(3,.cells 23 2 [pkS L E (2)] true),(38,QL 83 L (pA4 L)),(6,.cells 31 3 [[.str (strN [112]),.nils,.nils]] true)]) (Qb (Qa rfl rfl) (kS rfl rfl) fun i h=>by cases h) (Weak.trans (F1:=[(2,.ptr 2 0 0),(3,.ptr 3 0 0),(5,.ptr 38 0 0),(6,.ptr 6 0 0),(7,iv (JV L)),(8,.bool (Uq L)),(9,iv (pSt L (0)).x),(10,iv (pH L)),(11,iv (((0):Nat):Int))]) (Xy (i:=905) (k:=6) (e2:=85) (z2:=1) (fl2:=true) rfl rfl (.next .here)) (Qb (Qa rfl rfl) (kS rfl rfl) fun i h=>by cases h))) ?_)))))))))
   refine Qo (α:=Nat) (fun k=>(JV L).toNat-k) (fun k=>[(2,.ptr 2 0 0),(3,.ptr 3 0 0),(5,.ptr 38 0 0),(6,.ptr 6 0 0),(7,iv (JV L)),(8,.bool (Uq L)),(9,iv (pSt L (k)).x),(10,iv (pH L)),(11,iv (((k):Nat):Int))]) (fun k=>[(2,.cells 31 3 [[.str (strN []),.nils,.nils]] true),(3,.cells 23 2 [pkS L E (2)] true),(38,QL 83 L ((pSt L (k)).a)),(6,.cells 31 3 [[.str (strN [112]),.sl 905 0 ((pSt L (k)).cells.length),.nils]] false),(905,.cells 85 1 (((pSt L (k)).cells).map cR) true)]) (fun k=>k<=(JV L).toNat) 0 (by omega)
    (Qb (Qa rfl rfl) (kS rfl rfl) (fun i h=>by cases h)) ?_
   intro k hk
   refine gT 7 rfl (Qc rfl (fun h58=>?_) (fun h58=>?_))
   ·replace h58:=of_decide_eq_true h58
    refine gK 5 rfl ?_
    have hI:=pSt_ok L k (by omega)
    have hIx:=hI.x
    have hIl:=pst_len hI (by omega)
    have hw:=Qv L (pSt L k).a 4 (by decide)
    have hwp:pW L (pSt L k)=1+QQ L (pSt L k).a 4:=rfl
    refine gI 1 rfl (Qr [(38,QL 83 L ((pSt L k).a))] rfl rfl (fc35 38 83 L ((pSt L k).a) 4 (by omega) hL) (.cons (Qd rfl) (.cons (Qd rfl) (.nil))) (.cons rfl (.nil)) rfl rfl rfl (gR 0 rfl (Qf rfl rfl rfl (by omega) (gR 10 rfl (Qf rfl rfl rfl (by omega) (gR 2 rfl (cN rfl rfl (vc47 ⟨(pSt L k).x,0,0⟩ ⟨(pSt L k).x+pW L (pSt L k),3,pH L⟩ ⟨by dsimp only; omega,by dsimp only; omega,by dsimp only; omega⟩) (gR 0 rfl (bM cR (([pB1 L (pSt L k)]:List (List Pl))) (by kernel_rfl) (gR 0 rfl (Qq (f:=cR) (xs:=(pSt L k).cells) (y:=pB1 L (pSt L k)) (fl':=true) rfl rfl rfl rfl (rfl) rfl rfl rfl (by decide) rfl (by omega) (by omega) rfl ?_)))))))))))
    refine gR 2 rfl (Q9 (by kernel_rfl) (gP 4 rfl ?_))
    cases h77:Uq L
    ·skip
     refine gI 6 rfl (Qf rfl rfl rfl (by omega) (gR 4 rfl (Qf rfl rfl rfl (by omega) (gR 2 rfl ?_))))
     exact Qz <| ⟨k+1,by omega,by omega,by rw [pst_f h77]; simp only [List.length_append,List.length_singleton]; exact show Weak _ _ _ _ [(2,.ptr 2 0 0),(3,.ptr 3 0 0),(5,.ptr 38 0 0),(6,.ptr 6 0 0),(7,iv (JV L)),(8,.bool false),(9,iv ((pSt L k).x+pW L (pSt L k))),(10,iv (pH L)),(11,iv (((k+1):Nat):Int))] [(2,.cells 31 3 [[.str (strN []),.nils,.nils]] true),(3,.cells 23 2 [pkS L E (2)] true),(38,QL 83 L (XV L (pSt L k).a)),(6,.cells 31 3 [[.str (strN [112]),.sl 905 0 ((pSt L k).cells.length+1),.nils]] false),(905,.cells 85 1 (((pSt L k).cells++[pB1 L (pSt L k)]).map cR) true)] from Weak.trans (F1:=[(2,.ptr 2 0 0),(3,.ptr 3 0 0),(5,.ptr 38 0 0),(6,.ptr 6 0 0),(7,iv (JV L)),(8,.bool false),(9,iv ((pSt L k).x+pW L (pSt L k))),(10,iv (pH L)),(11,iv (((k+1):Nat):Int))]) (H1:=[(2,.cells 31 3 [[.str (strN []),.nils,.nils]] true),(3,.cells 23 2 [pkS L E (2)] true),(38,QL 83 L (XV L (pSt L k).a)),(6,.cells 31 3 [[.str (strN [112]),.sl 75 0 ((pSt L k).cells.length+1),.nils]] false),(75,.cells 85 1 (((pSt L k).cells++[pB1 L (pSt L k)]).map cR) true)]) (Qb (Qa rfl rfl) (kS rfl rfl) fun i h=>by cases h) (Weak.trans (F1:=[(2,.ptr 2 0 0),(3,.ptr 3 0 0),(5,.ptr 38 0 0),(6,.ptr 6 0 0),(7,iv (JV L)),(8,.bool false),(9,iv ((pSt L k).x+pW L (pSt L k))),(10,iv (pH L)),(11,iv (((k+1):Nat):Int))]) (QN (i:=75) (i':=905) (k:=6) rfl rfl (.cons rfl (.same _) (.cons rfl (.same _) (.cons rfl (.same _) (.cons rfl (.same _) (.cons rfl (.same _) (.cons rfl (.same _) (.cons rfl (.same _) (.cons rfl (.same _) (.cons rfl (.same _) (.nil)))))))))) (by decide) rfl (.cons (.same _) (.cons (.sl _ _) (RenL.refl _ _ _)))) (Qb (Qa rfl rfl) (kS rfl rfl) fun i h=>by cases h))⟩
    ·skip
     refine gI 9 rfl (Qf rfl rfl rfl (by omega) (gR 2 rfl (cN rfl rfl (vc47 ⟨(pSt L k).x,3,0⟩ ⟨(pSt L k).x+pW L (pSt L k),6,pH L⟩ ⟨by dsimp only; omega,by dsimp only; omega,by dsimp only; omega⟩) (gR 0 rfl (bM cR (([pB2 L (pSt L k)]:List (List Pl))) (by kernel_rfl) (gR 0 rfl (Qq (f:=cR) (xs:=(pSt L k).cells++[pB1 L (pSt L k)]) (y:=pB2 L (pSt L k)) (fl':=true) rfl rfl rfl rfl (by simp) rfl rfl rfl (by decide) rfl (by omega) (by omega) rfl (gR 2 rfl (Q9 (by kernel_rfl) (gP 3 rfl (Qf rfl rfl rfl (by omega) ?_)))))))))))
     refine gR 4 rfl (Qf rfl rfl rfl (by omega) (gR 2 rfl ?_))
     exact Qz <| ⟨k+1,by omega,by omega,by rw [pst_t h77]; simp only [List.length_append,List.length_singleton]; exact show Weak _ _ _ _ [(2,.ptr 2 0 0),(3,.ptr 3 0 0),(5,.ptr 38 0 0),(6,.ptr 6 0 0),(7,iv (JV L)),(8,.bool true),(9,iv ((pSt L k).x+pW L (pSt L k))),(10,iv (pH L)),(11,iv (((k+1):Nat):Int))] [(2,.cells 31 3 [[.str (strN []),.nils,.nils]] true),(3,.cells 23 2 [pkS L E (2)] true),(38,QL 83 L (XV L (pSt L k).a)),(6,.cells 31 3 [[.str (strN [112]),.sl 905 0 ((pSt L k).cells.length+1+1),.nils]] false),(905,.cells 85 1 (((pSt L k).cells++[pB1 L (pSt L k)]++[pB2 L (pSt L k)]).map cR) true)] from Weak.trans (F1:=[(2,.ptr 2 0 0),(3,.ptr 3 0 0),(5,.ptr 38 0 0),(6,.ptr 6 0 0),(7,iv (JV L)),(8,.bool true),(9,iv ((pSt L k).x+pW L (pSt L k))),(10,iv (pH L)),(11,iv (((k+1):Nat):Int))]) (H1:=[(2,.cells 31 3 [[.str (strN []),.nils,.nils]] true),(3,.cells 23 2 [pkS L E (2)] true),(38,QL 83 L (XV L (pSt L k).a)),(6,.cells 31 3 [[.str (strN [112]),.sl 89 0 ((pSt L k).cells.length+1+1),.nils]] false),(89,.cells 85 1 (((pSt L k).cells++[pB1 L (pSt L k)]++[pB2 L (pSt L k)]).map cR) true)]) (Qb (Qa rfl rfl) (kS rfl rfl) fun i h=>by cases h) (Weak.trans (F1:=[(2,.ptr 2 0 0),(3,.ptr 3 0 0),(5,.ptr 38 0 0),(6,.ptr 6 0 0),(7,iv (JV L)),(8,.bool true),(9,iv ((pSt L k).x+pW L (pSt L k))),(10,iv (pH L)),(11,iv (((k+1):Nat):Int))]) (QN (i:=89) (i':=905) (k:=6) rfl rfl (.cons rfl (.same _) (.cons rfl (.same _) (.cons rfl (.same _) (.cons rfl (.same _) (.cons rfl (.same _) (.cons rfl (.same _) (.cons rfl (.same _) (.cons rfl (.same _) (.cons rfl (.same _) (.nil)))))))))) (by decide) rfl (.cons (.same _) (.cons (.sl _ _) (RenL.refl _ _ _)))) (Qb (Qa rfl rfl) (kS rfl rfl) fun i h=>by cases h))⟩
   ·replace h58:=of_decide_eq_false h58
    refine gK 1 rfl (aw_cutw (F0:=[(2,.ptr 2 0 0),(3,.ptr 3 0 0),(6,.ptr 6 0 0)]) (H0:=[(2,.cells 31 3 [[.str (strN []),.nils,.nils]] true),(3,.cells 23 2 [pkS L E (2)] true),(6,.cells 31 3 [[.str (strN [112]),.sl 905 0 ((XP L).length),.nils]] false),(905,.cells 85 1 ((XP L).map cR) true)]) ?_ ?_)
    ·skip
     refine gA 1 rfl ?_
     obtain rfl:k=(JV L).toNat:=by omega
     refine gI 2 rfl (Qr [(38,QL 83 L ((JJ L).a))] rfl rfl (fc35 38 83 L ((JJ L).a) 4 (by omega) hL) (.cons (Qd rfl) (.cons (Qd rfl) (.nil))) (.cons rfl (.nil)) rfl rfl rfl (gR 0 rfl (Qx rfl rfl rfl rfl (fun h96=>?_) (fun h96=>?_))))
     ·skip
      refine gR 3 rfl (QC rfl rfl (gR 0 rfl (Qx rfl rfl rfl rfl (fun h101=>?_) (fun h101=>?_))))
      ·skip
       refine gR 8 rfl (QC rfl rfl (gR 0 rfl (Qr [(38,QL 83 L (pA5 L))] rfl rfl (fc35 38 83 L (pA5 L) ((JJ L).cells.length:Int) (by omega) hL) (.cons (Qd rfl) (.cons (Qd rfl) (.nil))) (.cons rfl (.nil)) rfl rfl rfl (gR 6 rfl (Qr [(38,QL 83 L (pA6 L))] rfl rfl (fc35 38 83 L (pA6 L) 4 (by omega) hL) (.cons (Qd rfl) (.cons (Qd rfl) (.nil))) (.cons rfl (.nil)) rfl rfl rfl (gR 0 rfl (Qf rfl rfl rfl (by omega) (gR 6 rfl (bT (l:=[]) (els:=[]) (by kernel_rfl) (gR 3 rfl (QF rfl rfl rfl rfl hkk.1.1 hkk.1.2 ?_)))))))))))
       refine gR 0 rfl (JS (f:=cR) (xs:=(JJ L).cells) (y:=pC L) rfl rfl rfl (pC_at L) rfl (gR 0 rfl (XO (f:=cPl) (ys:=(pC L)) (n:=(pC L).length) (rd:=[]) rfl rfl rfl rfl rfl rfl rfl (by simp) (fun _=>rfl) rfl (by omega) (by omega) (fun _=>rfl) (gR 1 rfl (bM cPl (([pP L]:List Pl)) (by kernel_rfl) (gR 0 rfl (Qq (f:=cPl) (xs:=pC L) (y:=pP L) (fl':=true) rfl rfl rfl rfl (rfl) rfl rfl rfl (by decide) rfl (by omega) (by omega) rfl (gR 1 rfl (Q9 (by kernel_rfl) (gP 2 rfl (bT (l:=[]) (els:=[]) (by kernel_rfl) ?_)))))))))))
       refine gR 3 rfl (QF rfl rfl rfl rfl hkk.1.1 hkk.1.2 (gR 0 rfl (JS (f:=cR) (xs:=(JJ L).cells) (y:=pC L) rfl rfl rfl (pC_at L) rfl (gR 0 rfl (XO (f:=cPl) (ys:=(pC L)) (n:=(pC L).length) (rd:=[]) rfl rfl rfl rfl rfl rfl rfl (by simp) (fun _=>rfl) rfl (by omega) (by omega) (fun _=>rfl) (gR 1 rfl (cN rfl rfl (vc48 (pP L) (by omega)) (gR 0 rfl (bM cPl (([Jn (pP L)]:List Pl)) (by kernel_rfl) (gR 0 rfl (Qq (f:=cPl) (xs:=pC L) (y:=Jn (pP L)) (fl':=true) rfl rfl rfl rfl (rfl) rfl rfl rfl (by decide) rfl (by omega) (by omega) rfl ?_)))))))))))
       refine gR 1 rfl (Q9 (by kernel_rfl) (gP 1 rfl (QH (F0:=[(2,.ptr 2 0 0),(3,.ptr 3 0 0),(6,.ptr 6 0 0),(13,iv (QQ L (pA5 L) ((JJ L).cells.length:Int))),(15,.rs 4 ((pC L++[pP L]).map cPl)),(16,.rs 4 ((pC L++[Jn (pP L)]).map cPl))]) (H0:=[(2,.cells 31 3 [[.str (strN []),.nils,.nils]] true),(3,.cells 23 2 [pkS L E (2)] true),(6,.cells 31 3 [[.str (strN [112]),.sl 905 0 (((JJ L).cells).length),.nils]] false),(905,.cells 85 1 (((JJ L).cells).map cR) true)]) (Qb (.cs (.cs (.cs (.cs (.cons rfl (Q5 rfl rfl (by simp) (fun _=>rfl)) (.cons rfl (Q5 rfl rfl (by simp) (fun _=>rfl)) (.nil))))))) (kS rfl rfl) (fun i h=>by cases h)) (gK 2 rfl (cN rfl rfl (vc49 (pC L++[pP L]) (by simp; omega)) ?_)))))
       cases h135:QO (pC L++[pP L])
       ·skip
        refine gR 7 rfl ?_
        exact Qt <| ⟨rfl,by rw [show XP L=(JJ L).cells from if_neg (fun h=>absurd h.2 (by rw [show pDo L=false from by unfold pDo; rw [h135]; rfl]; decide))]; exact Qb (Qa rfl rfl) (kS rfl rfl) (fun i h=>by cases h)⟩
       ·skip
        refine gR 2 rfl (cN rfl rfl (vc49 (pC L++[Jn (pP L)]) (by simp; omega)) ?_)
        cases h138:QO (pC L++[Jn (pP L)])
        ·skip
         refine gR 4 rfl ?_
         exact Qt <| ⟨rfl,by rw [show XP L=(JJ L).cells from if_neg (fun h=>absurd h.2 (by rw [show pDo L=false from by unfold pDo; rw [h135,h138]; rfl]; decide))]; exact Qb (Qa rfl rfl) (kS rfl rfl) (fun i h=>by cases h)⟩
        ·skip
         refine gR 9 rfl (QF rfl rfl rfl rfl hkk.1.1 hkk.1.2 (gR 0 rfl (rs_st_m (f:=cR) (xs:=(JJ L).cells) (t:=pK L) (v:=(pC L++[pP L])) (fl':=true) rfl rfl rfl rfl hkk.2 rfl rfl (nL rfl) rfl rfl (gR 5 rfl (bM cR (([(pC L++[Jn (pP L)])]:List (List Pl))) (by kernel_rfl) (gR 0 rfl (Qq (f:=cR) (xs:=(JJ L).cells.set (pK L) (pC L++[pP L])) (y:=(pC L++[Jn (pP L)])) (fl':=true) rfl rfl rfl rfl (by simp) rfl rfl rfl (by decide) rfl (by omega) (by omega) rfl (gR 3 rfl ?_))))))))
         exact Qt <| ⟨rfl,by rw [show XP L=(JJ L).cells.set (pK L) (pC L++[pP L])++[(pC L++[Jn (pP L)])] from if_pos ⟨by unfold pCan; rw [decide_eq_true h96,decide_eq_true (show ((JJ L).cells.length:Int)<6 from h101)]; rfl,by unfold pDo; rw [h135,h138]; rfl⟩]; simp only [List.length_append,List.length_singleton,List.length_set]; exact show Weak _ _ _ _ [(2,.ptr 2 0 0),(3,.ptr 3 0 0),(6,.ptr 6 0 0)] [(2,.cells 31 3 [[.str (strN []),.nils,.nils]] true),(3,.cells 23 2 [pkS L E (2)] true),(6,.cells 31 3 [[.str (strN [112]),.sl 905 0 ((JJ L).cells.length+1),.nils]] false),(905,.cells 85 1 (((JJ L).cells.set (pK L) (pC L++[pP L])++[(pC L++[Jn (pP L)])]).map cR) true)] from Weak.trans (F1:=[(2,.ptr 2 0 0),(3,.ptr 3 0 0),(6,.ptr 6 0 0)]) (H1:=[(2,.cells 31 3 [[.str (strN []),.nils,.nils]] true),(3,.cells 23 2 [pkS L E (2)] true),(6,.cells 31 3 [[.str (strN [112]),.sl 149 0 ((JJ L).cells.length+1),.nils]] false),(149,.cells 85 1 (((JJ L).cells.set (pK L) (pC L++[pP L])++[(pC L++[Jn (pP L)])]).map cR) true)]) (Qb (Qa rfl rfl) (kS rfl rfl) fun i h=>by cases h) (Weak.trans (F1:=[(2,.ptr 2 0 0),(3,.ptr 3 0 0),(6,.ptr 6 0 0)]) (QN (i:=149) (i':=905) (k:=6) rfl rfl (.cons rfl (.same _) (.cons rfl (.same _) (.cons rfl (.same _) (.nil)))) (by decide) rfl (.cons (.same _) (.cons (.sl _ _) (RenL.refl _ _ _)))) (Qb (Qa rfl rfl) (kS rfl rfl) fun i h=>by cases h))⟩
      ·skip
       refine gR 4 rfl ?_
       exact Qt <| ⟨rfl,by rw [show XP L=(JJ L).cells from if_neg (fun h=>absurd h.1 (by rw [show pCan L=false from by unfold pCan; rw [decide_eq_true h96,decide_eq_false (show ¬ ((JJ L).cells.length:Int)<6 from h101)]; rfl]; decide))]; exact Qb (Qa rfl rfl) (kS rfl rfl) (fun i h=>by cases h)⟩
     ·skip
      refine gR 9 rfl ?_
      exact Qt <| ⟨rfl,by rw [show XP L=(JJ L).cells from if_neg (fun h=>absurd h.1 (by rw [show pCan L=false from by unfold pCan; rw [decide_eq_false h96]; rfl]; decide))]; exact Qb (Qa rfl rfl) (kS rfl rfl) (fun i h=>by cases h)⟩
    ·skip
     refine gK 2 rfl (Qm rfl rfl rfl (by decide) (by decide) (gR 11 rfl (QH (F0:=[(2,.ptr 2 0 0),(6,.ptr 6 0 0),(17,.ptr 154 0 0),(18,iv (((0):Nat):Int))]) (H0:=[(2,.cells 31 3 [[.str (strN []),.nils,.nils]] true),(6,.cells 31 3 [[.str (strN [112]),.sl 905 0 ((XP L).length),.sl 906 0 (0)]] false),(905,.cells 85 1 ((XP L).map cR) true),(906,.cells 3 1 (((wSt E (0)).1).map civ) true),(154,QL 83 E ((wSt E (0)).2))]) (Weak.trans (F1:=[(2,.ptr 2 0 0),(6,.ptr 6 0 0),(17,.ptr 154 0 0),(18,iv (((0):Nat):Int))]) (H1:=[(2,.cells 31 3 [[.str (strN []),.nils,.nils]] true),(6,.cells 31 3 [[.str (strN [112]),.sl 905 0 ((XP L).length),.nils]] false),(905,.cells 85 1 ((XP L).map cR) true),(154,QL 83 E (0))]) (Qb (Qa rfl rfl) (kS rfl rfl) fun i h=>by cases h) (Weak.trans (F1:=[(2,.ptr 2 0 0),(6,.ptr 6 0 0),(17,.ptr 154 0 0),(18,iv (((0):Nat):Int))]) (Xy (i:=906) (k:=6) (e2:=3) (z2:=1) (fl2:=true) rfl rfl (.next (.next .here))) (Qb (Qa rfl rfl) (kS rfl rfl) fun i h=>by cases h))) ?_)))
     refine Qo (α:=Nat) (fun k=>(XP L).length-k) (fun k=>[(2,.ptr 2 0 0),(6,.ptr 6 0 0),(17,.ptr 154 0 0),(18,iv (((k):Nat):Int))]) (fun k=>[(2,.cells 31 3 [[.str (strN []),.nils,.nils]] true),(6,.cells 31 3 [[.str (strN [112]),.sl 905 0 ((XP L).length),.sl 906 0 (k)]] false),(905,.cells 85 1 ((XP L).map cR) true),(906,.cells 3 1 (((wSt E (k)).1).map civ) true),(154,QL 83 E ((wSt E (k)).2))]) (fun k=>k<=(XP L).length) 0 (by omega)
      (Qb (Qa rfl rfl) (kS rfl rfl) (fun i h=>by cases h)) ?_
     intro k hk
     refine gT 6 rfl (QC rfl rfl (gR 2 rfl (Qc rfl (fun h159=>?_) (fun h159=>?_))))
     ·replace h159:=of_decide_eq_true h159
      refine gK 4 rfl ?_
      have hwv:=Qv E (wSt E k).2 4 (by decide)
      refine gI 2 rfl (bM civ (([2,1,3,2]:List Int)) (by kernel_rfl) (gR 1 rfl (Qr [(154,QL 83 E ((wSt E k).2))] rfl rfl (fc35 154 83 E ((wSt E k).2) 4 (by omega) hE) (.cons (Qd rfl) (.cons (Qd rfl) (.nil))) (.cons rfl (.nil)) rfl rfl rfl (gR 0 rfl (QF rfl rfl rfl rfl hwv.1 hwv.2 (gR 0 rfl (JS (f:=civ) (xs:=([2,1,3,2]:List Int)) (y:=pickW (QQ E (wSt E k).2 4)) rfl rfl rfl (pickW_at _ hwv) rfl (gR 0 rfl (bM civ (([pickW (QQ E (wSt E k).2 4)]:List Int)) (by kernel_rfl) (gR 0 rfl (Qq (f:=civ) (xs:=(wSt E k).1) (y:=pickW (QQ E (wSt E k).2 4)) (fl':=true) rfl rfl rfl rfl (wSt_len E k) rfl rfl rfl (by decide) rfl (by omega) (by omega) rfl ?_)))))))))))
      refine gR 2 rfl (Q9 (by kernel_rfl) (gP 2 rfl (Qf rfl rfl rfl (by omega) (gR 2 rfl ?_))))
      exact Qz <| ⟨k+1,by omega,by omega,show Weak _ _ _ _ [(2,.ptr 2 0 0),(6,.ptr 6 0 0),(17,.ptr 154 0 0),(18,iv (((k+1):Nat):Int))] [(2,.cells 31 3 [[.str (strN []),.nils,.nils]] true),(6,.cells 31 3 [[.str (strN [112]),.sl 905 0 ((XP L).length),.sl 906 0 (k+1)]] false),(905,.cells 85 1 ((XP L).map cR) true),(906,.cells 3 1 (((wSt E (k+1)).1).map civ) true),(154,QL 83 E ((wSt E (k+1)).2))] from Weak.trans (F1:=[(2,.ptr 2 0 0),(6,.ptr 6 0 0),(17,.ptr 154 0 0),(18,iv (((k+1):Nat):Int))]) (H1:=[(2,.cells 31 3 [[.str (strN []),.nils,.nils]] true),(6,.cells 31 3 [[.str (strN [112]),.sl 905 0 ((XP L).length),.sl 170 0 (k+1)]] false),(905,.cells 85 1 ((XP L).map cR) true),(170,.cells 3 1 (((wSt E (k+1)).1).map civ) true),(154,QL 83 E ((wSt E (k+1)).2))]) (Qb (Qa rfl rfl) (kS rfl rfl) fun i h=>by cases h) (Weak.trans (F1:=[(2,.ptr 2 0 0),(6,.ptr 6 0 0),(17,.ptr 154 0 0),(18,iv (((k+1):Nat):Int))]) (QN (i:=170) (i':=906) (k:=6) rfl rfl (.cons rfl (.same _) (.cons rfl (.same _) (.cons rfl (.same _) (.cons rfl (.same _) (.nil))))) (by decide) rfl (.cons (.same _) (.cons (.same _) (.cons (.sl _ _) (RenL.refl _ _ _))))) (Qb (Qa rfl rfl) (kS rfl rfl) fun i h=>by cases h))⟩
     ·replace h159:=of_decide_eq_false h159
      refine gK 2 rfl ?_
      obtain rfl:k=(XP L).length:=by omega
      refine gI 5 rfl ?_
      exact Qt <| Ql rfl (Xg (.cons (Qs rfl (.inr rfl)) (.cons (Xu rfl rfl rfl) (.cons (Xu rfl rfl (wSt_len E _)) .nil)))) .nil
end Go.Proofs.YthfhaoogcpfboaaGreat
namespace Go.Proofs.YthfhaoogcpfboaaGreat
open Go.RowKit
set_option maxRecDepth 100000
set_option linter.unusedVariables false
section
variable (p:Pa) (L:List Int)
def cA (k:Nat):Nat:=match k with
 | 0=>0
 | k+1=>XV L (cA k)
def cC:List Pl:=p.cells.getD (QQ L (cA L 1) (p.cells.length:Int)).toNat []
def cNz:Int:=1-2*QQ L (cA L 2) 2
def cPq:Pl:=⟨⟨0,0,cNz L⟩,W (cNz L*(1+QQ L (cA L 3) 2))⟩
def cLo:V3:=⟨QQ L (cA L 2) 14-7,QQ L (cA L 3) 3-1,QQ L (cA L 4) 2-1⟩
def cHi:V3:=⟨(cLo L).x+1+QQ L (cA L 5) 6,(cLo L).y+2+QQ L (cA L 6) 6,(cLo L).z+2+QQ L (cA L 7) 6⟩
def Uw:List Pl:=if QQ L 0 4=1 then cC p L++[cPq L] else if QQ L 0 4=2 then JL (cLo L) (cHi L) else cC p L
theorem cut_1 (h:QQ L 0 4=1):Uw p L=cC p L++[cPq L]:=if_pos h
theorem cut_2 (h:QQ L 0 4=2):Uw p L=JL (cLo L) (cHi L):=by unfold Uw; rw [if_neg (by omega),if_pos h]
theorem cut_3 (h:¬ QQ L 0 4=1) (h2:¬ QQ L 0 4=2):Uw p L=cC p L:=by unfold Uw; rw [if_neg h,if_neg h2]
theorem cC_at (h:1<=p.cells.length):p.cells[(QQ L (cA L 1) (p.cells.length:Int)).toNat]?=some (cC p L):=by
 have:=Qv L (cA L 1) (p.cells.length:Int) (by omega)
 unfold cC; rw [List.getD_eq_getElem?_getD,List.getElem?_eq_getElem (by omega)]; rfl
structure CutOK (c:List Pl):Prop where
 len:1<=c.length/\c.length<=8
 val:∀ p∈c,Qw p=true
theorem cut_ok (h:GoodP p):CutOK (Uw p L):=by
 have hn:=h.n
 have hc:=h.cells.ok _ (Xr (cC_at p L (by omega)))
 have l:=hc.len
 unfold Uw
 split
 ·refine ⟨by rw [List.length_append,List.length_singleton]; omega,fun q hq=>?_⟩
  rcases List.mem_append.1 hq with hq | hq
  ·exact hc.val q hq
  ·rw [List.mem_singleton.1 hq]
   have v2:=Qv L (cA L 2) 2 (by decide)
   have v3:=Qv L (cA L 3) 2 (by decide)
   have hz:cNz L=1\/cNz L = -1:=by unfold cNz; omega
   unfold cPq
   rcases hz with hz | hz <;> rw [hz]
   ·rw [QU (by omega)]; exact val_of (by decide +kernel) (by omega)
   ·rw [QU (by omega)]; exact val_of (by decide +kernel) (by omega)
 ·split
  ·have v2:=Qv L (cA L 2) 14 (by decide)
   have v3:=Qv L (cA L 3) 3 (by decide)
   have v4:=Qv L (cA L 4) 2 (by decide)
   have v5:=Qv L (cA L 5) 6 (by decide)
   have v6:=Qv L (cA L 6) 6 (by decide)
   have v7:=Qv L (cA L 7) 6 (by decide)
   refine ⟨by show 1<=6/\6<=8; omega,box_valid ?_ ?_⟩
   ·unfold VB cLo; dsimp only; omega
   ·unfold VB cHi cLo; dsimp only; omega
  ·exact ⟨by omega,hc.val⟩
end
abbrev cLi (L:List Int):List AV:=[ints L]
def mcv12:MC:=(sq [oN 3 (.box 31 3 1) [],oN 4 (.mv (.c .nils)) []] (sq [oN 5 (.mv (.c .nils)) []] (.seq (sq [oN 6 (.mv (cI 0)) []] (.block 0 (.loop (.seq (sq [oM 12 6 [],oM 13 0 [],oE 14 13 [1],oB 15 .lss 12 14 [0,2],oM 16 15 [3],pM 17 6 16 true [4],oG 18 (.bin .lss 17 (cI 4)) 16 true [5,4],oN 19 (.pick 16 18 (.c (.bool false))) [4,6]] (.cond 19 .skip (.exit 0))) (.seq (.block 1 (sq [oM 22 0 [],oM 23 6 [],oX 24 1 22 23 [0,1],oD 25 1 24 [2],oN 26 (.build [.nils,(iv 0)] [(0,1,25)]) [3],oN 27 (.box 83 2 26) [4],oM 7 27 (5::up 6)] (sq [oM 28 7 [],oC 29 46 [28,(cI 4)] [0],oM 8 29 [1,1,0,1]] (dq [oN 30 (.bslice 90 4 (iz 4) 0 []) [],oA 31 1 3 [],oD 32 1 31 [1],oM 33 7 [],oA 34 1 3 [],oD 35 1 34 [4],oE 36 35 [5],oC 37 46 [33,36] [3,6],oX 38 1 32 37 [2,7],oD 39 1 38 [8],oN 40 (.app 90 4 32 (iz 4) 30 39) [0,9,7],oM 9 40 (10::10::up 11)] (.seq (sq [oM 41 8 [],oB 42 .eql 41 (cI 1) [0]] (.cond 42 (sq [oM 43 7 [],oC 44 46 [43,(cI 2)] [0],oB 45 .mul (cI 2) 44 [1],oB 46 .sub (cI 1) 45 [2],oN 47 (.build (iz 3) [(2,1,46)]) [3],oN 10 (.alloc 88 3 (iz 3)) [],oS 3 10 47 (5::4::1::up 6)] (dg [oM 48 9 [],oL 49 3 10 [],oA 50 2 10 [],oD 51 1 50 [2],oM 52 7 [],oC 53 46 [52,(cI 2)] [4],oB 54 .add (cI 1) 53 [5],oB 55 .mul 51 54 [3,6],oN 56 (.build (iz 4) [(0,3,49),(3,1,55)]) [1,7],oN 57 (.bslice 90 4 (iz 4) 1 [(0,56)]) [8],oN 58 (.app 90 4 32 (iz 4) 48 57) [0,9,5],oM 9 58 (10::10::up 11)])) .skip)) (.seq (sq [oM 59 8 [],oB 60 .eql 59 (cI 2) [0]] (.cond 60 (sq [oM 61 7 [],oC 62 46 [61,(cI 14)] [0],oB 63 .sub 62 (cI 7) [1],oM 64 7 [],oC 65 46 [64,(cI 3)] [3,1],oB 66 .sub 65 (cI 1) [4],oM 67 7 [],oC 68 46 [67,(cI 2)] [6,4],oB 69 .sub 68 (cI 1) [7],oN 70 (.build (iz 3) [(0,1,63),(1,1,66),(2,1,69)]) [2,5,8],oN 11 (.alloc 88 3 (iz 3)) [],oS 3 11 70 (10::9::7::up 11)] (dg [oL 71 3 11 [],oA 72 0 11 [],oD 73 1 72 [1],oB 74 .add 73 (cI 1) [2],oM 75 7 [],oC 76 46 [75,(cI 6)] [4],oB 77 .add 74 76 [3,5],oA 78 1 11 [],oD 79 1 78 [7],oB 80 .add 79 (cI 2) [8],oM 81 7 [],oC 82 46 [81,(cI 6)] [10,5],oB 83 .add 80 82 [9,11],oA 84 2 11 [],oD 85 1 84 [13],oB 86 .add 85 (cI 2) [14],oM 87 7 [],oC 88 46 [87,(cI 6)] [16,11],oB 89 .add 86 88 [15,17],oN 90 (.build (iz 3) [(0,1,77),(1,1,83),(2,1,89)]) [6,12,18],oC 91 47 [71,90] [0,19,17],oM 9 91 (20::20::up 21)])) .skip)) (rg [oM 92 5 [],oM 93 9 [],oN 94 (.bslice 85 1 [.nils] 1 [(0,93)]) [1],oN 95 (.app 85 1 24 [.nils] 92 94) [0,2],oM 5 95 (3::3::up 4)]))))))) (rg [oM 20 6 [],oB 21 .add 20 (cI 1) [0],oM 6 21 [1,0,1]])))))) (sq [oM 96 5 [],oM 4 96 [0,0]] .ret))))
theorem mcOkv12:okM Tryz.prog Tryz.f12 97=some mcv12:=by kernel_rfl
set_option maxHeartbeats 2000000 in
theorem vc12 (cs:List (List Int)) (hn:cs.length<=3) (hcs:∀ L∈cs,L.length<=4611686018427387904) (p:Pa) (hp:GoodP p):FC Tryz.prog 12 [.rs 1 (cs.map cLi),.agg (cPa p)] [] (.rs 1 ((cs.map (Uw p)).map cR)) [] true:=by
 have hpn:=hp.n
 refine Qg (nt:=97) Tryz.func12 rfl rfl mcOkv12 (nL rfl) ?_
 delta mcv12
 refine gA 15 rfl ?_
 refine Qo (α:=Nat) (fun k=>cs.length-k) (fun k=>[(0,.rs 1 (cs.map cLi)),(3,.ptr 3 0 0),(4,.nils),(5,.sl 901 0 (k)),(6,iv (((k):Nat):Int))]) (fun k=>[(3,.cells 31 3 [cPa p] true),(901,.cells 85 1 (((cs.take (k)).map (Uw p)).map cR) true)]) (fun k=>k<=cs.length) 0 (by omega)
  (Qb (.cs (.cs (.cs (.cons rfl (Xj rfl rfl) (.cs (.nil)))))) (.keep (rfl) rfl (.virt rfl (.nil))) (fun i h=>by cases h)) ?_
 intro k hk
 refine gT 5 rfl (Qe rfl rfl (gR 0 rfl (Qx rfl rfl rfl rfl (fun h15=>?_) (fun h15=>?_))))
 ·skip
  refine gR 2 rfl (QA rfl rfl rfl rfl (by omega) (gR 10 rfl ?_))
  obtain ⟨L,hLk,hLm⟩:=Qk (L:=cs) (k:=k) (by omega)
  refine Qi (f:=cLi) (y:=L) rfl rfl rfl (by omega) hLk (gR 7 rfl ?_)
  have v0:=Qv L 0 4 (by decide)
  refine gI 1 rfl (Qr [(27,QL 83 L (cA L 0))] rfl rfl (fc35 27 83 L (cA L 0) 4 (by omega) (hcs L hLm)) (.cons (Qd rfl) (.cons (Qd rfl) (.nil))) (.cons rfl (.nil)) rfl rfl rfl (gR 4 rfl ?_))
  have hv1:=Qv L (cA L 1) (p.cells.length:Int) (by omega)
  have hcl:=(hp.cells.ok _ (Xr (cC_at p L (by omega)))).len
  refine bT (l:=[]) (els:=[]) (by kernel_rfl) (gR 5 rfl (Qe rfl rfl (gR 0 rfl (Qr [(27,QL 83 L (cA L 1))] rfl rfl (fc35 27 83 L (cA L 1) (p.cells.length:Int) (by omega) (hcs L hLm)) (.cons (Qd rfl) (.cons (Qd rfl) (.nil))) (.cons rfl (.nil)) rfl rfl rfl (gR 0 rfl (Qi (f:=cR) (y:=cC p L) rfl rfl rfl hv1.1 (cC_at p L (by omega)) (gR 1 rfl (XO (f:=cPl) (ys:=(cC p L)) (n:=(cC p L).length) (rd:=[]) rfl rfl rfl rfl rfl rfl rfl (by simp) (fun _=>rfl) rfl (by omega) (by omega) (fun _=>rfl) (gR 1 rfl (Q9 (by kernel_rfl) (gP 4 rfl ?_)))))))))))
  refine Ub rfl rfl rfl (gR 1 rfl (Qc rfl (fun h42=>?_) (fun h42=>?_)))
  ·replace h42:=of_decide_eq_true h42
   refine gK 2 rfl ?_
   have v2:=Qv L (cA L 2) 2 (by decide)
   have v3:=Qv L (cA L 3) 2 (by decide)
   refine gI 1 rfl (Qr [(27,QL 83 L (cA L 2))] rfl rfl (fc35 27 83 L (cA L 2) 2 (by omega) (hcs L hLm)) (.cons (Qd rfl) (.cons (Qd rfl) (.nil))) (.cons rfl (.nil)) rfl rfl rfl (gR 0 rfl (Q4 (c:=2*QQ L (cA L 2) 2) rfl rfl rfl (QU (by omega)) (gR 0 rfl (rs_sub rfl rfl rfl (by omega) (gR 10 rfl (Qr [(27,QL 83 L (cA L 3))] rfl rfl (fc35 27 83 L (cA L 3) 2 (by omega) (hcs L hLm)) (.cons (Qd rfl) (.cons (Qd rfl) (.nil))) (.cons rfl (.nil)) rfl rfl rfl (gR 0 rfl (Qf rfl rfl rfl (by omega) (gR 0 rfl (Q4 rfl rfl rfl rfl ?_)))))))))))
   refine gR 1 rfl (bM cPl (([cPq L]:List Pl)) (by kernel_rfl) (gR 0 rfl (Qq (f:=cPl) (xs:=cC p L) (y:=cPq L) (fl':=true) rfl rfl rfl rfl (rfl) rfl rfl rfl (by decide) rfl (by omega) (by omega) rfl (gR 1 rfl (Q9 (by kernel_rfl) (gP 4 rfl (Ub rfl rfl rfl (gR 1 rfl (Qc rfl (fun h60=>?_) (fun h60=>?_))))))))))
   ·replace h60:=of_decide_eq_true h60
    refine gK 1 rfl ?_
    exact absurd h60 (by omega)
   ·replace h60:=of_decide_eq_false h60
    refine gK 1 rfl (QH (F0:=[(0,.rs 1 (cs.map cLi)),(3,.ptr 3 0 0),(4,.nils),(5,.sl 901 0 (k)),(6,iv (((k):Nat):Int)),(9,.rs 4 ((Uw p L).map cPl))]) (H0:=[(3,.cells 31 3 [cPa p] true),(901,.cells 85 1 (((cs.take (k)).map (Uw p)).map cR) true)]) (Qb (.cs (.cs (.cs (.cs (.cs (.cons rfl ((by rw [cut_1 p L h42]; exact Q5 rfl rfl (by simp) (fun _=>rfl))) (.nil))))))) (kS rfl rfl) (fun i h=>by cases h)) (gK 3 rfl (bM cR (([Uw p L]:List (List Pl))) (by kernel_rfl) (gR 0 rfl (Qq (f:=cR) (xs:=(cs.take k).map (Uw p)) (y:=Uw p L) (fl':=true) rfl rfl rfl rfl (by simp; omega) rfl rfl rfl (by decide) rfl (by omega) (by omega) rfl (gR 4 rfl (Qf rfl rfl rfl (by omega) (gR 2 rfl ?_))))))))
    exact Qz <| ⟨k+1,by omega,by omega,wR 95 901 (Qa rfl rfl) (.keep (rfl) rfl (.keep (by simp only [Q3 hLk,List.map_append]; rfl) rfl (.nil))) rfl⟩
  ·replace h42:=of_decide_eq_false h42
   refine gK 5 rfl (Ub rfl rfl rfl (gR 1 rfl (Qc rfl (fun h60=>?_) (fun h60=>?_))))
   ·replace h60:=of_decide_eq_true h60
    refine gK 1 rfl ?_
    skip
    refine gI 1 rfl ?_
    have v2:=Qv L (cA L 2) 14 (by decide)
    have v3:=Qv L (cA L 3) 3 (by decide)
    have v4:=Qv L (cA L 4) 2 (by decide)
    have v5:=Qv L (cA L 5) 6 (by decide)
    have v6:=Qv L (cA L 6) 6 (by decide)
    have v7:=Qv L (cA L 7) 6 (by decide)
    refine gI 1 rfl (Qr [(27,QL 83 L (cA L 2))] rfl rfl (fc35 27 83 L (cA L 2) 14 (by omega) (hcs L hLm)) (.cons (Qd rfl) (.cons (Qd rfl) (.nil))) (.cons rfl (.nil)) rfl rfl rfl (gR 0 rfl (rs_sub rfl rfl rfl (by omega) (gR 1 rfl (Qr [(27,QL 83 L (cA L 3))] rfl rfl (fc35 27 83 L (cA L 3) 3 (by omega) (hcs L hLm)) (.cons (Qd rfl) (.cons (Qd rfl) (.nil))) (.cons rfl (.nil)) rfl rfl rfl (gR 0 rfl (rs_sub rfl rfl rfl (by omega) (gR 1 rfl (Qr [(27,QL 83 L (cA L 4))] rfl rfl (fc35 27 83 L (cA L 4) 2 (by omega) (hcs L hLm)) (.cons (Qd rfl) (.cons (Qd rfl) (.nil))) (.cons rfl (.nil)) rfl rfl rfl (gR 0 rfl (rs_sub rfl rfl rfl (by omega) ?_)))))))))))
    refine gR 8 rfl (Qf rfl rfl rfl (by omega) (gR 1 rfl (Qr [(27,QL 83 L (cA L 5))] rfl rfl (fc35 27 83 L (cA L 5) 6 (by omega) (hcs L hLm)) (.cons (Qd rfl) (.cons (Qd rfl) (.nil))) (.cons rfl (.nil)) rfl rfl rfl (gR 0 rfl (Qf rfl rfl rfl (by omega) (gR 2 rfl (Qf rfl rfl rfl (by omega) (gR 1 rfl (Qr [(27,QL 83 L (cA L 6))] rfl rfl (fc35 27 83 L (cA L 6) 6 (by omega) (hcs L hLm)) (.cons (Qd rfl) (.cons (Qd rfl) (.nil))) (.cons rfl (.nil)) rfl rfl rfl (gR 0 rfl (Qf rfl rfl rfl (by omega) ?_)))))))))))
    refine gR 2 rfl (Qf rfl rfl rfl (by omega) (gR 1 rfl (Qr [(27,QL 83 L (cA L 7))] rfl rfl (fc35 27 83 L (cA L 7) 6 (by omega) (hcs L hLm)) (.cons (Qd rfl) (.cons (Qd rfl) (.nil))) (.cons rfl (.nil)) rfl rfl rfl (gR 0 rfl (Qf rfl rfl rfl (by omega) (gR 1 rfl (cN rfl rfl (vc47 (cLo L) (cHi L) (by unfold cLo; dsimp only; omega)) (gR 1 rfl (Q9 (by kernel_rfl) (gP 0 rfl (QH (F0:=[(0,.rs 1 (cs.map cLi)),(3,.ptr 3 0 0),(4,.nils),(5,.sl 901 0 (k)),(6,iv (((k):Nat):Int)),(9,.rs 4 ((Uw p L).map cPl))]) (H0:=[(3,.cells 31 3 [cPa p] true),(901,.cells 85 1 (((cs.take (k)).map (Uw p)).map cR) true)]) (Qb (.cs (.cs (.cs (.cs (.cs (.cons rfl ((by rw [cut_2 p L h60]; exact Qs rfl (.inl rfl))) (.nil))))))) (kS rfl rfl) (fun i h=>by cases h)) ?_)))))))))))
    refine gK 3 rfl (bM cR (([Uw p L]:List (List Pl))) (by kernel_rfl) (gR 0 rfl (Qq (f:=cR) (xs:=(cs.take k).map (Uw p)) (y:=Uw p L) (fl':=true) rfl rfl rfl rfl (by simp; omega) rfl rfl rfl (by decide) rfl (by omega) (by omega) rfl (gR 4 rfl (Qf rfl rfl rfl (by omega) (gR 2 rfl ?_))))))
    exact Qz <| ⟨k+1,by omega,by omega,wR 95 901 (Qa rfl rfl) (.keep (rfl) rfl (.keep (by simp only [Q3 hLk,List.map_append]; rfl) rfl (.nil))) rfl⟩
   ·replace h60:=of_decide_eq_false h60
    refine gK 1 rfl (QH (F0:=[(0,.rs 1 (cs.map cLi)),(3,.ptr 3 0 0),(4,.nils),(5,.sl 901 0 (k)),(6,iv (((k):Nat):Int)),(9,.rs 4 ((Uw p L).map cPl))]) (H0:=[(3,.cells 31 3 [cPa p] true),(901,.cells 85 1 (((cs.take (k)).map (Uw p)).map cR) true)]) (Qb (.cs (.cs (.cs (.cs (.cs (.cons rfl ((by rw [cut_3 p L h42 h60]; exact Q5 rfl rfl rfl (fun _=>rfl))) (.nil))))))) (kS rfl rfl) (fun i h=>by cases h)) (gK 3 rfl (bM cR (([Uw p L]:List (List Pl))) (by kernel_rfl) (gR 0 rfl (Qq (f:=cR) (xs:=(cs.take k).map (Uw p)) (y:=Uw p L) (fl':=true) rfl rfl rfl rfl (by simp; omega) rfl rfl rfl (by decide) rfl (by omega) (by omega) rfl (gR 4 rfl (Qf rfl rfl rfl (by omega) (gR 2 rfl ?_))))))))
    exact Qz <| ⟨k+1,by omega,by omega,wR 95 901 (Qa rfl rfl) (.keep (rfl) rfl (.keep (by simp only [Q3 hLk,List.map_append]; rfl) rfl (.nil))) rfl⟩
 ·skip
  refine gR 13 rfl ?_
  obtain rfl:k=cs.length:=by omega
  rw [show cs.map (Uw p)=(cs.take cs.length).map (Uw p) by rw [List.take_length]]
  exact Qt <| Ql rfl (Xu rfl rfl (by simp)) .nil
end Go.Proofs.YthfhaoogcpfboaaGreat
namespace Go.Proofs.YthfhaoogcpfboaaGreat
open Go.RowKit
set_option maxRecDepth 100000
set_option linter.unusedVariables false
abbrev L9 (p:Pl) (a:Int):List Int:=[a,0,4608,4609,-4609,W (2*p.n.x),2097152,2097153,-2097152]
def pick9 (p:Pl) (a q:Int):Int:=(L9 p a).getD (Ja q 9).toNat 0
theorem pick9_at (p:Pl) (a q:Int):(L9 p a)[(Ja q 9).toNat]?=some (pick9 p a q):=by
 have:=QJ q 9 (by decide)
 exact w_at (by simp; omega)
def oddP (kd:Nat) (p:Pl) (n:Int):Pl :=
 match kd with
 | 0=>⟨⟨n,p.n.y,p.n.z⟩,p.b⟩
 | 1=>⟨⟨p.n.x,n,p.n.z⟩,p.b⟩
 | 2=>⟨⟨p.n.x,p.n.y,n⟩,p.b⟩
 | 3=>⟨p.n,n⟩
 | _=>⟨⟨W (2*p.n.x),W (2*p.n.y),W (2*p.n.z)⟩,p.b⟩
def oddPl (p:Pl) (q0 q1 q2:Int):Pl:=oddP (Ja q0 5).toNat p (pick9 p q1 q2)
def plK (c:List Pl) (k:Nat):Pl:=c.getD k ⟨⟨0,0,0⟩,0⟩
theorem plK_at {c:List Pl} {k:Nat} (h:k<c.length):c[k]?=some (plK c k):=by
 unfold plK; rw [List.getD_eq_getElem?_getD,List.getElem?_eq_getElem h]; rfl
def oddK (kd k:Nat) (c:List Pl) (q0 q1 q2:Int):List Pl :=
 match kd with
 | 0=>c.set k (oddPl (plK c k) q2 q1 q0)
 | 1=>c.take k++c.drop (k+1)
 | 2=>c.set k (Jn (plK c k))
 | 3=>c++[plK c k]
 | 4=>c.set k ⟨(plK c k).n,W (W ((plK c k).b+Ja q2 9)-4)⟩
 | _=>c++List.replicate (49-c.length) (plK c k)
def oddC (c:List Pl) (q0 q1 q2:Int):List Pl:=oddK (Ja q0 6).toNat (Ja q1 (c.length:Int)).toNat c q0 q1 q2
theorem oddC_len {c:List Pl} (q0 q1 q2:Int) (h:2<=c.length/\c.length<=48):1<=(oddC c q0 q1 q2).length/\(oddC c q0 q1 q2).length<=49:=by
 unfold oddC oddK
 split <;> simp only [List.length_set,List.length_append,List.length_take,List.length_drop,List.length_replicate,List.length_cons,List.length_nil] <;> omega
theorem rep_snoc {α:Type} {l:List α} {m:Nat} {x:α}:(l++List.replicate m x)++[x]=l++List.replicate (m+1) x:=by rw [List.append_assoc,← List.replicate_succ']
theorem rep_k {α:Type} {l:List α} {m k:Nat} {x y:α} (h:l[k]?=some y):(l++List.replicate m x)[k]?=some y:=by
 rw [List.getElem?_append_left (List.getElem?_eq_some_iff.1 h).1,h]
def mcv104:MC:=(sq [oN 2 (.box 90 4 0) [],oN 3 (.box 25 3 1) [],oN 4 (.alloc 90 4 (iz 4)) []] (dq [oN 6 (.ixarr 3 1 3 (cI 1)) [],oD 7 1 6 [0],oA 8 0 2 [],oA 9 0 8 [2],oD 10 1 9 [3],oB 11 .mul (cI 2) 10 [4],oN 12 (.bslice 3 1 [(iv 0)] 9 [(0,7),(1,(cI 0)),(2,(cI 4608)),(3,(cI 4609)),(4,(cI (-4609))),(5,11),(6,(cI 2097152)),(7,(cI 2097153)),(8,(cI (-2097152)))]) [1,5],oN 13 (.ixarr 3 1 3 (cI 2)) [],oD 14 1 13 [7],oC 15 57 [14,(cI 9)] [8],oX 16 1 12 15 [6,9],oD 17 1 16 [10],oM 5 17 (11::9::up 12)] (.seq (sq [oN 18 (.ixarr 3 1 3 (cI 0)) [],oD 19 1 18 [0],oC 20 57 [19,(cI 5)] [1]] (.block 0 (sq [oB 22 .eql 20 (cI 0) [],oM 21 22 [0]] (.cond 21 (rg [oM 23 5 [],oA 24 0 2 [0],oA 25 0 24 [1,0],oS 1 25 23 [2,0,0]]) (sq [oB 27 .eql 20 (cI 1) [],oM 26 27 [0]] (.cond 26 (rg [oM 28 5 [],oA 29 0 2 [0],oA 30 1 29 [1,0],oS 1 30 28 [2,0,0]]) (sq [oB 32 .eql 20 (cI 2) [],oM 31 32 [0]] (.cond 31 (rg [oM 33 5 [],oA 34 0 2 [0],oA 35 2 34 [1,0],oS 1 35 33 [2,0,0]]) (sq [oB 37 .eql 20 (cI 3) [],oM 36 37 [0]] (.cond 36 (rg [oM 38 5 [],oA 39 3 2 [0],oS 1 39 38 [1,0,0]]) (sq [oB 41 .eql 20 (cI 4) [],oM 40 41 [0]] (.cond 40 (rg [oA 42 0 2 [],oA 43 0 42 [0],oD 44 1 43 [1],oB 45 .mul (cI 2) 44 [2],oA 46 0 2 [],oA 47 1 46 [4],oD 48 1 47 [5],oB 49 .mul (cI 2) 48 [6],oA 50 0 2 [],oA 51 2 50 [8],oD 52 1 51 [9],oB 53 .mul (cI 2) 52 [10],oN 54 (.build (iz 3) [(0,1,45),(1,1,49),(2,1,53)]) [3,7,11],oA 55 0 2 (up 13),oS 3 55 54 (13::12::up 13)]) .skip)))))))))))) (sq [oL 56 4 2 [],oS 4 4 56 [0,0]] .ret))))
theorem mcOkv104:okM Tryz.prog Tryz.f104 57=some mcv104:=by kernel_rfl
theorem vc104 (p:Pl) (q0 q1 q2:Int):FC Tryz.prog 104 [.agg (cPl p),.agg [iv q0,iv q1,iv q2]] [] (.agg (cPl (oddPl p q0 q1 q2))) [] false:=by
 unfold oddPl
 have h9:=QJ q2 9 (by decide)
 have hdd:=(Int.toNat_of_nonneg (QJ q0 5 (by decide)).1).symm
 have hd1:=QJ q0 5 (by decide)
 generalize (Ja q0 5).toNat=kd at hdd ⊢
 refine Qg (nt:=57) Tryz.func104 rfl rfl mcOkv104 (nL rfl) ?_
 delta mcv104
 refine gA 8 rfl (Qm rfl rfl rfl (by decide) (by decide) (gR 4 rfl (Q4 rfl rfl rfl rfl (gR 0 rfl (bM civ (L9 p q1) (by kernel_rfl) (gR 0 rfl (Qm rfl rfl rfl (by decide) (by decide) (gR 1 rfl (cN rfl rfl (JP q2 9 (by decide)) (gR 0 rfl (QF rfl rfl rfl rfl h9.1 h9.2 ?_)))))))))))
 refine gR 0 rfl (JS (f:=civ) (xs:=L9 p q1) (y:=pick9 p q1 q2) rfl rfl rfl (pick9_at _ _ _) rfl (gR 1 rfl (Q9 (by kernel_rfl) (gP 3 rfl (Qm rfl rfl rfl (by decide) (by decide) (gR 1 rfl ?_))))))
 obtain rfl | rfl | rfl | rfl | rfl:kd=0\/kd=1\/kd=2\/kd=3\/kd=4:=by omega
 ·skip
  refine cN rfl rfl (JP q0 5 (by decide)) ?_
  rw [hdd]
  refine gR 4 rfl (QA rfl rfl rfl rfl (by decide) (gR 15 rfl ?_))
  exact rQ
 ·skip
  refine cN rfl rfl (JP q0 5 (by decide)) ?_
  rw [hdd]
  refine gR 4 rfl (Qp rfl rfl rfl rfl (by decide) (gR 5 rfl (QA rfl rfl rfl rfl (by decide) (gR 15 rfl ?_))))
  exact rQ
 ·skip
  refine cN rfl rfl (JP q0 5 (by decide)) ?_
  rw [hdd]
  refine gR 4 rfl (Qp rfl rfl rfl rfl (by decide) (gR 5 rfl (Qp rfl rfl rfl rfl (by decide) (gR 5 rfl (QA rfl rfl rfl rfl (by decide) (gR 15 rfl ?_))))))
  exact rQ
 ·skip
  refine cN rfl rfl (JP q0 5 (by decide)) ?_
  rw [hdd]
  refine gR 4 rfl (Qp rfl rfl rfl rfl (by decide) (gR 5 rfl (Qp rfl rfl rfl rfl (by decide) (gR 5 rfl (Qp rfl rfl rfl rfl (by decide) (gR 5 rfl (QA rfl rfl rfl rfl (by decide) (gR 14 rfl ?_))))))))
  exact rQ
 ·skip
  refine cN rfl rfl (JP q0 5 (by decide)) ?_
  rw [hdd]
  refine gR 4 rfl (Qp rfl rfl rfl rfl (by decide) (gR 5 rfl (Qp rfl rfl rfl rfl (by decide) (gR 5 rfl (Qp rfl rfl rfl rfl (by decide) (gR 5 rfl (Qp rfl rfl rfl rfl (by decide) (gR 5 rfl (QA rfl rfl rfl rfl (by decide) (gR 7 rfl (Q4 rfl rfl rfl rfl ?_)))))))))))
  refine gR 3 rfl (Q4 rfl rfl rfl rfl (gR 3 rfl (Q4 rfl rfl rfl rfl (gR 10 rfl ?_))))
  exact rQ
def mcv58:MC:=(sq [oN 3 (.box 25 3 1) [],oN 4 (.mv (.c .nils)) []] (sq [oN 7 (.bslice 90 4 (iz 4) 0 []) [],oM 8 0 [],oN 9 (.app 90 4 32 (iz 4) 7 8) [0,1],oM 5 9 [2,2,0,1,2]] (.seq (sq [oM 10 5 [],oE 11 10 [0],oB 12 .eql 11 (cI 0) [1]] (.cond 12 (sq [oN 13 (.build (iz 4) []) [],oN 14 (.bslice 90 4 (iz 4) 1 [(0,13)]) [0],oM 4 14 [1,0,1]] .ret) .skip)) (sq [oN 15 (.ixarr 3 1 3 (cI 1)) [],oD 16 1 15 [0],oM 17 5 [],oE 18 17 [2],oC 19 57 [16,18] [1,3],oM 6 19 (4::4::up 5)] (.seq (sq [oN 20 (.ixarr 3 1 3 (cI 0)) [],oD 21 1 20 [0],oC 22 57 [21,(cI 6)] [1]] (.block 0 (sq [oB 24 .eql 22 (cI 0) [],oM 23 24 [0]] (.cond 23 (dg [oM 25 5 [],oM 26 6 [],oM 27 5 [],oM 28 6 [],oX 29 4 27 28 [2,3],oL 30 4 29 [4],oN 31 (.ixarr 3 1 3 (cI 2)) [],oD 32 1 31 [6],oN 33 (.ixarr 3 1 3 (cI 1)) [],oD 34 1 33 [8],oN 35 (.ixarr 3 1 3 (cI 0)) [],oD 36 1 35 [10],oN 37 (.build (iz 3) [(0,1,32),(1,1,34),(2,1,36)]) [7,9,11],oC 38 104 [30,37] [5,12],oX 39 4 25 26 (0::1::up 14),oS 4 39 38 (14::13::13::up 14)]) (sq [oB 41 .eql 22 (cI 1) [],oM 40 41 [0]] (.cond 40 (dq [oM 42 5 [],oM 43 6 [],oN 44 (.slc 4 42 none (some 43)) [0,1],oM 45 5 [],oM 46 6 [],oB 47 .add 46 (cI 1) [4],oN 48 (.slc 4 45 (some 47) none) [3,5],oN 49 (.app 90 4 32 (iz 4) 44 48) [2,6],oM 4 49 (7::7::up 8)] .ret) (sq [oB 51 .eql 22 (cI 2) [],oM 50 51 [0]] (.cond 50 (rg [oM 52 5 [],oM 53 6 [],oM 54 5 [],oM 55 6 [],oX 56 4 54 55 [2,3],oL 57 4 56 [4],oC 58 48 [57] [5],oX 59 4 52 53 (0::1::up 7),oS 4 59 58 (7::6::6::up 7)]) (sq [oB 61 .eql 22 (cI 3) [],oM 60 61 [0]] (.cond 60 (rg [oM 62 5 [],oM 63 5 [],oM 64 6 [],oX 65 4 63 64 [1,2],oL 66 4 65 [3],oN 67 (.bslice 90 4 (iz 4) 1 [(0,66)]) [4],oN 68 (.app 90 4 32 (iz 4) 62 67) [0,5],oM 5 68 (6::6::up 7)]) (sq [oB 70 .eql 22 (cI 4) [],oM 69 70 [0]] (.cond 69 (dg [oM 71 5 [],oM 72 6 [],oM 73 5 [],oM 74 6 [],oX 75 4 73 74 [2,3],oA 76 3 75 [4],oD 77 1 76 [5],oN 78 (.ixarr 3 1 3 (cI 2)) [],oD 79 1 78 [7],oC 80 57 [79,(cI 9)] [8],oB 81 .add 77 80 [6,9],oB 82 .sub 81 (cI 4) [10],oX 83 4 71 72 (0::1::up 12),oA 84 3 83 (12::up 12),oS 1 84 82 (13::11::9::up 12)]) (sq [oB 86 .eql 22 (cI 5) [],oM 85 86 [0]] (.cond 85 (.block 1 (.loop (.seq (sq [oM 87 5 [],oE 88 87 [0],oB 89 .leq 88 (cI 48) [1]] (.cond 89 .skip (.exit 1))) (.block 2 (rg [oM 90 5 [],oM 91 5 [],oM 92 6 [],oX 93 4 91 92 [1,2],oL 94 4 93 [3],oN 95 (.bslice 90 4 (iz 4) 1 [(0,94)]) [4],oN 96 (.app 90 4 32 (iz 4) 90 95) [0,5],oM 5 96 (6::6::up 7)]))))) .skip)))))))))))))) (sq [oM 97 5 [],oM 4 97 [0,0]] .ret))))))
theorem mcOkv58:okM Tryz.prog Tryz.f58 98=some mcv58:=by kernel_rfl
set_option maxHeartbeats 2000000 in
theorem vc58 (c:List Pl) (hc:1<=c.length/\c.length<=48) (hb:∀ p∈c,-9223372036854775807<=p.b/\p.b<=9223372036854775807) (q0 q1 q2:Int):FC Tryz.prog 58 [.rs 4 (c.map cPl),.agg [iv q0,iv q1,iv q2]] [] (.rs 4 ((oddC c q0 q1 q2).map cPl)) [] false:=by
 unfold oddC
 have hk0:=QJ q1 (c.length:Int) (by omega)
 have hkk:=(Int.toNat_of_nonneg hk0.1).symm
 generalize (Ja q1 (c.length:Int)).toNat=k at hkk ⊢
 have hdd:=(Int.toNat_of_nonneg (QJ q0 6 (by decide)).1).symm
 have hd1:=QJ q0 6 (by decide)
 generalize (Ja q0 6).toNat=kd at hdd ⊢
 refine Qg (nt:=98) Tryz.func58 rfl rfl mcOkv58 (nL rfl) ?_
 delta mcv58
 refine gA 7 rfl (bT (l:=[]) (els:=[]) (by kernel_rfl) (gR 1 rfl (XO (f:=cPl) (ys:=c) (n:=c.length) (rd:=[]) rfl rfl rfl rfl rfl rfl rfl (by simp) (fun _=>rfl) rfl (by omega) (by omega) (fun _=>rfl) (gR 6 rfl (QC rfl rfl (gR 0 rfl (Qp rfl rfl rfl rfl (by omega) (gR 5 rfl (Qm rfl rfl rfl (by decide) (by decide) (gR 2 rfl (QC rfl rfl ?_)))))))))))
 refine gR 0 rfl (cN rfl rfl (JP q1 (c.length:Int) (by omega)) ?_)
 rw [hkk]
 refine gR 5 rfl (Qm rfl rfl rfl (by decide) (by decide) (gR 1 rfl ?_))
 obtain rfl | rfl | rfl | rfl | rfl | rfl:kd=0\/kd=1\/kd=2\/kd=3\/kd=4\/kd=5:=by omega
 ·skip
  refine cN rfl rfl (JP q0 6 (by decide)) ?_
  rw [hdd]
  refine gR 4 rfl (QA rfl rfl rfl rfl (by decide) (gR 8 rfl ?_))
  have hkl:k<c.length:=by omega
  have hxk:=plK_at hkl
  have hxg:c[k]=plK c k:=(List.getElem?_eq_some_iff.1 hxk).2
  refine QF rfl rfl rfl rfl (by omega) (by omega) (gR 0 rfl (rs_ld_ga (f:=cPl) (xs:=c) (y:=(plK c k)) rfl rfl rfl hxk (nL rfl) rfl (gR 0 rfl (Qm rfl rfl rfl (by decide) (by decide) (gR 1 rfl (Qm rfl rfl rfl (by decide) (by decide) (gR 1 rfl (Qm rfl rfl rfl (by decide) (by decide) (gR 2 rfl (cN rfl rfl (vc104 (plK c k) q2 q1 q0) (gR 0 rfl ?_)))))))))))
  refine QF rfl rfl rfl rfl (by omega) (by omega) (gR 0 rfl (rs_st_m (f:=cPl) (xs:=c) (t:=k) (v:=oddPl (plK c k) q2 q1 q0) (fl':=true) rfl rfl rfl rfl hkl rfl rfl (nL rfl) (by rw [hxg]; rfl) rfl (gR 0 rfl (Q9 (by kernel_rfl) (gP 6 rfl ?_)))))
  exact Qt <| Ql rfl (Q5 (f:=cPl) (xs:=oddK 0 k c q0 q1 q2) rfl rfl (by simp [oddK]) (fun _=>rfl)) .nil
 ·skip
  refine cN rfl rfl (JP q0 6 (by decide)) ?_
  rw [hdd]
  refine gR 4 rfl (Qp rfl rfl rfl rfl (by decide) (gR 5 rfl (QA rfl rfl rfl rfl (by decide) (gR 7 rfl ?_))))
  have hkl:k<c.length:=by omega
  have hxk:=plK_at hkl
  have hxg:c[k]=plK c k:=(List.getElem?_eq_some_iff.1 hxk).2
  refine rs_slc_s (l:=0) (q:=(k:Int)) rfl rfl rfl rfl rfl (by decide) (.inl rfl) (by omega) (by omega) (gR 2 rfl (Qf rfl rfl rfl (by omega) ?_))
  by_cases hlast:k+1<c.length
  ·skip
   refine gR 0 rfl (rs_slc_s (l:=(k:Int)+1) (q:=((c.length:Nat):Int)) rfl rfl rfl rfl rfl (by omega) (.inr (by omega)) (by omega) (by omega) ?_)
   have hdr:∀ q r:Nat,q=k+1->r=c.length-(k+1)->((c.map cPl).drop q).take r=(c.drop (k+1)).map cPl:=fun q r e e2=>by rw [e,e2,← List.map_drop,List.take_of_length_le (by simp)]
   refine gR 0 rfl (rs_app_o (n:=k) (els:=c.map cPl) (news:=(c.drop (k+1)).map cPl) (m:=c.length-(k+1)) (fl':=true) rfl rfl rfl rfl (src_sub rfl (by simp; omega) (hdr _ _ (by omega) (by omega))) rfl rfl (by simp; omega) (by simp) (fun el hel=>by obtain ⟨y,_,rfl⟩:=List.mem_map.1 hel; rfl) (by simp) (by omega) (by omega) (by rw [flat_map (f:=cPl) (fun _=>rfl)]; rfl) (gR 1 rfl (Q9 (by kernel_rfl) (gP 1 rfl ?_))))
   exact Qt <| Ql rfl (Q5 (f:=cPl) (xs:=c.take k++c.drop (k+1)) (by show _=some (Ob.cells 90 4 ((c.take k++c.drop (k+1)).map cPl) true); rw [List.map_append,List.map_take]; rfl) rfl (by simp; omega) (fun _=>rfl)) .nil
  ·skip
   refine gR 0 rfl (rs_slc_e (l:=(k:Int)+1) rfl rfl rfl (by show some ((c.length:Nat):Int)=some ((k:Int)+1); congr 1; omega) rfl (by omega) (by omega) (gR 0 rfl (rs_app_o (n:=k) (els:=c.map cPl) (news:=[]) (m:=0) (fl':=true) rfl rfl rfl rfl rfl rfl rfl (by simp; omega) (by simp) (by simp) rfl (by omega) (by omega) rfl (gR 1 rfl (Q9 (by kernel_rfl) (gP 1 rfl ?_))))))
   exact Qt <| Ql rfl (Q5 (f:=cPl) (xs:=c.take k++c.drop (k+1)) (by show some (Ob.cells 90 4 ((c.map cPl).take k++[]) true)=some (Ob.cells 90 4 ((c.take k++c.drop (k+1)).map cPl) true); rw [List.append_nil,List.drop_eq_nil_of_le (show c.length<=k+1 by omega),List.append_nil,List.map_take]) rfl (by simp; omega) (fun _=>rfl)) .nil
 ·skip
  refine cN rfl rfl (JP q0 6 (by decide)) ?_
  rw [hdd]
  refine gR 4 rfl (Qp rfl rfl rfl rfl (by decide) (gR 5 rfl (Qp rfl rfl rfl rfl (by decide) (gR 5 rfl (QA rfl rfl rfl rfl (by decide) (gR 8 rfl ?_))))))
  have hkl:k<c.length:=by omega
  have hxk:=plK_at hkl
  have hxg:c[k]=plK c k:=(List.getElem?_eq_some_iff.1 hxk).2
  refine QF rfl rfl rfl rfl (by omega) (by omega) (gR 0 rfl (rs_ld_ga (f:=cPl) (xs:=c) (y:=(plK c k)) rfl rfl rfl hxk (nL rfl) rfl (gR 0 rfl (cN rfl rfl (vc48 (plK c k) (hb _ (Xr hxk))) (gR 0 rfl (QF rfl rfl rfl rfl (by omega) (by omega) (gR 0 rfl (rs_st_m (f:=cPl) (xs:=c) (t:=k) (v:=Jn (plK c k)) (fl':=true) rfl rfl rfl rfl hkl rfl rfl (nL rfl) (by rw [hxg]; rfl) rfl (gR 7 rfl ?_)))))))))
  exact Qt <| Ql rfl (Q5 (f:=cPl) (xs:=oddK 2 k c q0 q1 q2) rfl rfl (by simp [oddK]) (fun _=>rfl)) .nil
 ·skip
  refine cN rfl rfl (JP q0 6 (by decide)) ?_
  rw [hdd]
  refine gR 4 rfl (Qp rfl rfl rfl rfl (by decide) (gR 5 rfl (Qp rfl rfl rfl rfl (by decide) (gR 5 rfl (Qp rfl rfl rfl rfl (by decide) (gR 5 rfl (QA rfl rfl rfl rfl (by decide) (gR 7 rfl ?_))))))))
  have hkl:k<c.length:=by omega
  have hxk:=plK_at hkl
  have hxg:c[k]=plK c k:=(List.getElem?_eq_some_iff.1 hxk).2
  refine QF rfl rfl rfl rfl (by omega) (by omega) (gR 0 rfl (rs_ld_ga (f:=cPl) (xs:=c) (y:=(plK c k)) rfl rfl rfl hxk (nL rfl) rfl (gR 0 rfl (bM cPl (([(plK c k)]:List Pl)) (by kernel_rfl) (gR 0 rfl (Qq (f:=cPl) (xs:=c) (y:=(plK c k)) (fl':=true) rfl rfl rfl rfl (rfl) rfl rfl rfl (by decide) rfl (by omega) (by omega) rfl (gR 8 rfl ?_)))))))
  exact Qt <| Ql rfl (Q5 (f:=cPl) (xs:=oddK 3 k c q0 q1 q2) rfl rfl (by simp [oddK]) (fun _=>rfl)) .nil
 ·skip
  refine cN rfl rfl (JP q0 6 (by decide)) ?_
  rw [hdd]
  refine gR 4 rfl (Qp rfl rfl rfl rfl (by decide) (gR 5 rfl (Qp rfl rfl rfl rfl (by decide) (gR 5 rfl (Qp rfl rfl rfl rfl (by decide) (gR 5 rfl (Qp rfl rfl rfl rfl (by decide) (gR 5 rfl (QA rfl rfl rfl rfl (by decide) (gR 8 rfl ?_))))))))))
  have hkl:k<c.length:=by omega
  have hxk:=plK_at hkl
  have hxg:c[k]=plK c k:=(List.getElem?_eq_some_iff.1 hxk).2
  refine QF rfl rfl rfl rfl (by omega) (by omega) (gR 1 rfl (JS (f:=cPl) (xs:=c) (y:=(plK c k)) rfl rfl rfl hxk rfl (gR 0 rfl (Qm rfl rfl rfl (by decide) (by decide) (gR 1 rfl (cN rfl rfl (JP q2 9 (by decide)) (gR 0 rfl (QS rfl rfl rfl rfl (gR 0 rfl (Xt rfl rfl rfl rfl (gR 0 rfl ?_)))))))))))
  refine QF rfl rfl rfl rfl (by omega) (by omega) (gR 1 rfl (rs_st_m (f:=cPl) (xs:=c) (t:=k) (v:=⟨(plK c k).n,W (W ((plK c k).b+Ja q2 9)-4)⟩) (fl':=true) rfl rfl rfl rfl hkl rfl rfl (nL rfl) (by rw [hxg]; rfl) rfl (gR 0 rfl (Q9 (by kernel_rfl) (gP 6 rfl ?_)))))
  exact Qt <| Ql rfl (Q5 (f:=cPl) (xs:=oddK 4 k c q0 q1 q2) rfl rfl (by simp [oddK]) (fun _=>rfl)) .nil
 ·skip
  refine cN rfl rfl (JP q0 6 (by decide)) ?_
  rw [hdd]
  refine gR 4 rfl (Qp rfl rfl rfl rfl (by decide) (gR 5 rfl (Qp rfl rfl rfl rfl (by decide) (gR 5 rfl (Qp rfl rfl rfl rfl (by decide) (gR 5 rfl (Qp rfl rfl rfl rfl (by decide) (gR 5 rfl (Qp rfl rfl rfl rfl (by decide) (gR 5 rfl (QA rfl rfl rfl rfl (by decide) ?_)))))))))))
  refine gR 4 rfl ?_
  refine Qo (α:=Nat) (fun m=>49-(c.length+m)) (fun m=>[(5,.sl 901 0 (c.length+(m))),(6,iv (k:Int))]) (fun m=>[(901,.cells 90 4 ((c++List.replicate (m) (plK c k)).map cPl) true)]) (fun m=>c.length+m<=49) 0 (by omega)
   (wR 9 901 (Qa rfl rfl) (.keep (by rw [List.replicate_zero,List.append_nil]; rfl) rfl (.nil)) rfl) ?_
  intro m hm
  refine gT 4 rfl (QC rfl rfl (gR 0 rfl (rs_leq rfl rfl rfl (gR 1 rfl (Qc rfl (fun h89=>?_) (fun h89=>?_))))))
  ·replace h89:=of_decide_eq_true h89
   refine gK 6 rfl ?_
   have hkl:k<c.length:=by omega
   have hxk:=plK_at hkl
   have hxg:c[k]=plK c k:=(List.getElem?_eq_some_iff.1 hxk).2
   refine QF rfl rfl rfl rfl (by omega) (by omega) (gR 0 rfl (rs_ld_ga (f:=cPl) (xs:=(c++List.replicate (m) (plK c k))) (y:=(plK c k)) rfl rfl rfl (rep_k hxk) (nL rfl) rfl (gR 0 rfl (bM cPl (([(plK c k)]:List Pl)) (by kernel_rfl) (gR 0 rfl (Qq (f:=cPl) (xs:=(c++List.replicate (m) (plK c k))) (y:=(plK c k)) (fl':=true) rfl rfl rfl rfl (by simp) rfl rfl rfl (by decide) rfl (by omega) (by omega) rfl (gR 2 rfl ?_)))))))
   exact Qz <| ⟨m+1,by omega,by omega,QB (i:=96) (i':=901) (F1:=[(5,.sl 96 0 (c.length+(m+1))),(6,iv (k:Int))]) (H1:=[(96,.cells 90 4 ((c++List.replicate (m+1) (plK c k)).map cPl) true)]) (Qa rfl rfl) (.keep (by rw [rep_snoc]; rfl) rfl (.nil)) (fun i h=>by cases h) rfl rfl (.cons rfl (.sl _ _) (.cons rfl (.same _) (.nil))) (Qa rfl rfl) (.keep rfl rfl .nil) nz⟩
  ·replace h89:=of_decide_eq_false h89
   refine gK 7 rfl ?_
   obtain rfl:m=49-c.length:=by omega
   exact Qt <| Ql rfl (Q5 (f:=cPl) (xs:=(c++List.replicate (49-c.length) (plK c k))) rfl rfl (by simp) (fun _=>rfl)) .nil
end Go.Proofs.YthfhaoogcpfboaaGreat
namespace Go.Proofs.YthfhaoogcpfboaaGreat
open Go.RowKit
set_option maxRecDepth 100000
set_option linter.unusedVariables false
def onB (p:Pl) (x:Pt):Bool:=decide (Ud p x=0)
def onN (l:List Pt) (p:Pl):Nat:=(l.filter (onB p)).length
theorem on_t {l:List Pt} {k:Nat} {x:Pt} {p:Pl} (h:l[k]?=some x) (hr:Ud p x=0):((l.take (k+1)).filter (onB p)).length=((l.take k).filter (onB p)).length+1:=by
 rw [Q3 h,List.filter_append,List.length_append]; simp [onB,hr]
theorem on_f {l:List Pt} {k:Nat} {x:Pt} {p:Pl} (h:l[k]?=some x) (hr:¬ Ud p x=0):((l.take (k+1)).filter (onB p)).length=((l.take k).filter (onB p)).length:=by
 rw [Q3 h,List.filter_append,List.length_append]; simp [onB,hr]
theorem on_le {l:List Pt} {k:Nat} {p:Pl}:((l.take k).filter (onB p)).length<=k:=Nat.le_trans (List.length_filter_le _ _) (by simp; omega)
def dfPl:Pl:=⟨⟨0,0,0⟩,0⟩
theorem plK_eq {x y:Pl}:decide ([y.n.x,y.n.y,y.n.z,y.b]=[x.n.x,x.n.y,x.n.z,x.b])=decide (y=x):=by
 obtain ⟨⟨a,b,c⟩,d⟩:=x; obtain ⟨⟨e,f,g⟩,h⟩:=y; simp [and_assoc]
theorem rs_aeq_l {P:Program} {N:Nat} {F:Fr} {H:Hp} {ml:List MOper} {K:List Fp->Fr->Hp->Prop} {d:Nat} {g:Option (Nat×Bool)} {pre:List Nat} {a b:Arg} {y z:Pl} (hg:gOK F g=true) (ha:Qj F a=some (.agg (cPl y))) (hb:Qj F b=some (.agg (cPl z)))
  (h:RS P N ml ((d,.bool (decide (y=z)))::F) H (fun fps=>K (([],[])::fps))):RS P N (⟨some d,.aeq false 4 a b,g,pre⟩::ml) F H K :=
 rs_aeq [y.n.x,y.n.y,y.n.z,y.b] [z.n.x,z.n.y,z.n.z,z.b] hg ha hb rfl rfl rfl rfl (by rw [plK_eq]; simp) h
end Go.Proofs.YthfhaoogcpfboaaGreat
namespace Go.Proofs.YthfhaoogcpfboaaGreat
open Go.RowKit Go.Shelf Go.Lib Go.Sort
set_option maxRecDepth 100000
def ordI (a b:Int):Int:=if a<b then -1 else if b<a then 1 else 0
def rw8 (p q:Pl):List Int:=[p.n.x,q.n.x,p.n.y,q.n.y,p.n.z,q.n.z,p.b,q.b]
def vo (p q:Pl) (k:Nat):Int:=ordI ((rw8 p q).getD (2*k) 0) ((rw8 p q).getD (2*k+1) 0)
def EqTo (p q:Pl) (k:Nat):Prop:=∀ j,j<k->vo p q j=0
structure GW (p q:Pl) (W wr:World):Prop where
 g:∃ n os,wr=grow (W.drewN n) os
 s:W.heap.size+3<=wr.heap.size
 c:∀ (k:Nat) (v:Int),(rw8 p q)[k]?=some v->wr.cell? ⟨W.heap.size+2,k,none⟩=some (.int .i64 v)
theorem sz_alloc (w:World) (o:Obj):(w.alloc o).heap.size=w.heap.size+1:=by show (w.heap.push o).size=_; exact Array.size_push ..
theorem GW.alloc {p q:Pl} {W wr:World} (h:GW p q W wr) (o:Obj):GW p q W (wr.alloc o):=by
 obtain ⟨⟨n,os,rfl⟩,s,c⟩:=h
 exact ⟨⟨n,_,by rw [alloc_eq_grow,grow_grow]⟩,by rw [sz_alloc]; omega,fun k v hv=>cell?_alloc_some o (c k v hv)⟩
theorem EqTo.succ {p q:Pl} {k:Nat} (h:EqTo p q k) (h2:vo p q k=0):EqTo p q (k+1):=fun j hj=>by
 rcases Nat.lt_or_ge j k with h3 | h3
 ·exact h j h3
 ·obtain rfl:j=k:=by omega
  exact h2
theorem GW.start (p q:Pl) (W:World):GW p q W (((W.alloc (.cells #[.int .i64 p.n.x,.int .i64 p.n.y,.int .i64 p.n.z,.int .i64 p.b] 90)).alloc (.cells #[.int .i64 q.n.x,.int .i64 q.n.y,.int .i64 q.n.z,.int .i64 q.b] 90)).alloc
  (.cells #[.int .i64 p.n.x,.int .i64 q.n.x,.int .i64 p.n.y,.int .i64 q.n.y,.int .i64 p.n.z,.int .i64 q.n.z,.int .i64 p.b,.int .i64 q.b] 230)):=by
 refine ⟨⟨0,_,by rw [alloc_eq_grow,alloc_eq_grow,alloc_eq_grow,grow_grow,grow_grow]; rfl⟩,by rw [sz_alloc,sz_alloc,sz_alloc]; omega,fun k v hv=>?_⟩
 have hb:=heap_alloc_new ((W.alloc (.cells #[.int .i64 p.n.x,.int .i64 p.n.y,.int .i64 p.n.z,.int .i64 p.b] 90)).alloc (.cells #[.int .i64 q.n.x,.int .i64 q.n.y,.int .i64 q.n.z,.int .i64 q.b] 90)) (.cells #[.int .i64 p.n.x,.int .i64 q.n.x,.int .i64 p.n.y,.int .i64 q.n.y,.int .i64 p.n.z,.int .i64 q.n.z,.int .i64 p.b,.int .i64 q.b] 230)
 rw [show ((W.alloc (.cells #[.int .i64 p.n.x,.int .i64 p.n.y,.int .i64 p.n.z,.int .i64 p.b] 90)).alloc (.cells #[.int .i64 q.n.x,.int .i64 q.n.y,.int .i64 q.n.z,.int .i64 q.b] 90)).heap.size=W.heap.size+2 by rw [sz_alloc,sz_alloc]] at hb
 have hk:k<8:=(List.getElem?_eq_some_iff.1 hv).1
 unfold World.cell?
 rw [hb]
 obtain rfl | rfl | rfl | rfl | rfl | rfl | rfl | rfl:k=0\/k=1\/k=2\/k=3\/k=4\/k=5\/k=6\/k=7:=by omega
 all_goals (cases hv; rfl)
instance:Inhabited Pl:=⟨dfPl⟩
end Go.Proofs.YthfhaoogcpfboaaGreat
namespace Go.Proofs.YthfhaoogcpfboaaGreat
open Go.RowKit
set_option maxRecDepth 100000
set_option linter.unusedVariables false
def ptsS (c:List Pl):List Pt:=if Xm [c]=true then Xf (ofS [c]) else []
theorem pts_len (c:List Pl):(ptsS c).length<=2000000:=by
 unfold ptsS
 split
 ·rename_i h; have:=corn_len (OkC.of h); omega
 ·exact Nat.zero_le _
end Go.Proofs.YthfhaoogcpfboaaGreat
namespace Go.Proofs.YthfhaoogcpfboaaGreat
open Go.RowKit
set_option maxRecDepth 100000
set_option linter.unusedVariables false
def tims (v:V3) (n:Int):V3:=⟨v.x*n,v.y*n,v.z*n⟩
theorem cross_e {a b:V3} (ha:VB 4608 a) (hb:VB 4608 b):Q6 a b=cross a b:=by
 obtain ⟨ax,ay,az⟩:=ha
 obtain ⟨bx,by_,bz⟩:=hb
 have e1:=XT ay bz; have e2:=XT az by_; have e3:=XT az bx; have e4:=XT ax bz; have e5:=XT ax by_; have e6:=XT ay bx
 simp only [Q6,cross]
 rw [QU (n:=a.y*b.z) (by omega),QU (n:=a.z*b.y) (by omega),QU (n:=a.z*b.x) (by omega),QU (n:=a.x*b.z) (by omega),QU (n:=a.x*b.y) (by omega),QU (n:=a.y*b.x) (by omega),QU (n:=a.y*b.z-a.z*b.y) (by omega),QU (n:=a.z*b.x-a.x*b.z) (by omega),QU (n:=a.x*b.y-a.y*b.x) (by omega)]
theorem times_e {v:V3} {n:Int} (hv:VB 42467328 v) (hn : -2097152<=n/\n<=2097152):QK v n=tims v n:=by
 obtain ⟨ax,ay,az⟩:=hv
 have e1:=XT ax hn; have e2:=XT ay hn; have e3:=XT az hn
 simp only [QK,tims]
 rw [QU (n:=v.x*n) (by omega),QU (n:=v.y*n) (by omega),QU (n:=v.z*n) (by omega)]
theorem add_e {a b:V3} {A B:Int} (ha:VB A a) (hb:VB B b) (h:A+B<=1000000000000000:=by decide):Un a b=add a b:=by
 obtain ⟨ax,ay,az⟩:=ha
 obtain ⟨bx,by_,bz⟩:=hb
 simp only [Un,add]
 rw [QU (n:=a.x+b.x) (by omega),QU (n:=a.y+b.y) (by omega),QU (n:=a.z+b.z) (by omega)]
def sumE (p q r:Pl):V3:=add (add (add ⟨0,0,0⟩ (tims (cross q.n r.n) p.b)) (tims (cross r.n p.n) q.b)) (tims (cross p.n q.n) r.b)
def wdE (p q r:Pl):Int:=dot r.n (cross p.n q.n)
section
variable {p q r:Pl}
theorem sum_e (hp:Qw p=true) (hq:Qw q=true) (hr:Qw r=true):Xk p q r=sumE p q r/\wd3 p q r=wdE p q r:=by
 obtain ⟨p1,p2⟩:=JR hp
 obtain ⟨q1,q2⟩:=JR hq
 obtain ⟨r1,r2⟩:=JR hr
 have z:VB 0 (⟨0,0,0⟩:V3):=⟨by decide,by decide,by decide⟩
 have t1:=timesW_b (Jy q1 r1) p2
 have t2:=timesW_b (Jy r1 p1) q2
 have t3:=timesW_b (Jy p1 q1) r2
 have s1:VB 89060441849856 (Un ⟨0,0,0⟩ (QK (Q6 q.n r.n) p.b)):=addW_b z t1
 have s2:VB 178120883699712 (Un (Un ⟨0,0,0⟩ (QK (Q6 q.n r.n) p.b)) (QK (Q6 r.n p.n) q.b)):=addW_b s1 t2
 refine ⟨?_,?_⟩
 ·show Un (Un (Un ⟨0,0,0⟩ (QK (Q6 q.n r.n) p.b)) (QK (Q6 r.n p.n) q.b)) (QK (Q6 p.n q.n) r.b)=_
  rw [add_e s2 t3,add_e s1 t2,add_e z t1,times_e (Jy q1 r1) p2,times_e (Jy r1 p1) q2,times_e (Jy p1 q1) r2,cross_e q1 r1,cross_e r1 p1,cross_e p1 q1]; rfl
 ·show dotW r.n (Q6 p.n q.n)=_
  have c:=Jy p1 q1
  rw [dotE r1 ⟨⟨by have:=c.1; omega,by have:=c.1; omega⟩,⟨by have:=c.2.1; omega,by have:=c.2.1; omega⟩,⟨by have:=c.2.2; omega,by have:=c.2.2; omega⟩⟩,cross_e p1 q1]; rfl
def negV (v:V3):V3:=⟨-v.x,-v.y,-v.z⟩
theorem sw1:sumE q p r=negV (sumE p q r)/\wdE q p r = -wdE p q r:=by
 obtain ⟨⟨a1,a2,a3⟩,a⟩:=p
 obtain ⟨⟨b1,b2,b3⟩,b⟩:=q
 obtain ⟨⟨c1,c2,c3⟩,c⟩:=r
 simp only [sumE,wdE,add,tims,cross,dot,negV,V3.mk.injEq]
 refine ⟨⟨?_,?_,?_⟩,?_⟩ <;> grind
theorem sw2:sumE p r q=negV (sumE p q r)/\wdE p r q = -wdE p q r:=by
 obtain ⟨⟨a1,a2,a3⟩,a⟩:=p
 obtain ⟨⟨b1,b2,b3⟩,b⟩:=q
 obtain ⟨⟨c1,c2,c3⟩,c⟩:=r
 simp only [sumE,wdE,add,tims,cross,dot,negV,V3.mk.injEq]
 refine ⟨⟨?_,?_,?_⟩,?_⟩ <;> grind
theorem mt_neg {p' q' r':Pl} (h1:Xk p' q' r'=negV (Xk p q r)) (h2:wd3 p' q' r' = -wd3 p q r) (h0:wd3 p q r≠0):mtP p' q' r'=mtP p q r:=by
 have hg:g3 p' q' r' = -g3 p q r:=by
  unfold g3
  rw [h1,h2]
  have e:gL [(negV (Xk p q r)).x,(negV (Xk p q r)).y,(negV (Xk p q r)).z,-wd3 p q r]=gL [(Xk p q r).x,(Xk p q r).y,(Xk p q r).z,wd3 p q r]:=by simp [gL,negV]
  rw [e]
  by_cases h:wd3 p q r<0
  ·rw [if_neg (by omega),if_pos h]; omega
  ·rw [if_pos (by omega),if_neg h]
 unfold mtP
 rw [h1,h2,hg]
 simp only [negV,Int.neg_tdiv,Int.tdiv_neg,Int.neg_neg]
theorem mt_1 (hp:Qw p=true) (hq:Qw q=true) (hr:Qw r=true) (h0:wd3 p q r≠0):wd3 q p r≠0/\mtP q p r=mtP p q r:=by
 obtain ⟨e1,e2⟩:=sum_e hp hq hr
 obtain ⟨e3,e4⟩:=sum_e hq hp hr
 obtain ⟨s1,s2⟩:=sw1 (p:=p) (q:=q) (r:=r)
 exact ⟨by omega,mt_neg (by rw [e3,s1,e1]) (by omega) h0⟩
theorem mt_2 (hp:Qw p=true) (hq:Qw q=true) (hr:Qw r=true) (h0:wd3 p q r≠0):wd3 p r q≠0/\mtP p r q=mtP p q r:=by
 obtain ⟨e1,e2⟩:=sum_e hp hq hr
 obtain ⟨e3,e4⟩:=sum_e hp hr hq
 obtain ⟨s1,s2⟩:=sw2 (p:=p) (q:=q) (r:=r)
 exact ⟨by omega,mt_neg (by rw [e3,s1,e1]) (by omega) h0⟩
theorem wd_ne (hp:Qw p=true) (hq:Qw q=true) (hr:Qw r=true) (h0:wd3 p q r≠0):p≠q/\q≠r/\p≠r:=by
 obtain ⟨_,e⟩:=sum_e hp hq hr
 refine ⟨fun h=>?_,fun h=>?_,fun h=>?_⟩
 ·subst h; have:=(sw1 (p:=p) (q:=p) (r:=r)).2; omega
 ·subst h; have:=(sw2 (p:=p) (q:=q) (r:=q)).2; omega
 ·subst h
  have h1:=(sw1 (p:=p) (q:=q) (r:=p)).2
  have h2:=(sw2 (p:=q) (q:=p) (r:=p)).2
  omega
end
theorem two_in {α:Type} {a b:α}:∀ {t:List α},a≠b->a∈t->b∈t->[a,b].Sublist t\/[b,a].Sublist t
 | [],_,h,_=>by cases h
 | x::t,hne,ha,hb=>by
  rcases List.mem_cons.1 ha with rfl | ha
  ·rcases List.mem_cons.1 hb with rfl | hb
   ·exact absurd rfl hne
   ·exact .inl ((List.singleton_sublist.2 hb).cons_cons _)
  ·rcases List.mem_cons.1 hb with e | hb
   ·rw [e]; exact .inr ((List.singleton_sublist.2 ha).cons_cons _)
   ·rcases two_in hne ha hb with h | h
    ·exact .inl (h.cons _)
    ·exact .inr (h.cons _)
theorem three_in {p q s:Pl} {r:List Pl} (hv:∀ x∈r,Qw x=true) (h0:wd3 p q s≠0) (hw:XU r (mtP p q s)=true):∀ {t:List Pl} {l:List Pt},(∀ x∈t,x∈r)->p∈t->q∈t->s∈t->mtP p q s∈topS r l t
 | [],l,_,h,_,_=>by cases h
 | x::t,l,hs,hp,hq,hq2=>by
  have vp:=hv p (hs p hp); have vq:=hv q (hs q hq); have vs:=hv s (hs s hq2)
  obtain ⟨n1,n2,n3⟩:=wd_ne vp vq vs h0
  obtain ⟨w1,m1⟩:=mt_1 vp vq vs h0
  obtain ⟨w2,m2⟩:=mt_2 vp vq vs h0
  have fin:∀ a b c:Pl,wd3 a b c≠0->mtP a b c=mtP p q s->[b,c].Sublist t->mtP p q s∈topS r l (a::t):=fun a b c h1 h2 h3=>by
   rw [← h2]; exact top_has h1 (by rw [h2]; exact hw) (h3.cons_cons _)
  rcases List.mem_cons.1 hp with rfl | hp'
  ·have hq':q∈t:=(List.mem_cons.1 hq).resolve_left n1.symm
   have hs':s∈t:=(List.mem_cons.1 hq2).resolve_left n3.symm
   rcases two_in n2 hq' hs' with h | h
   ·exact fin _ _ _ h0 rfl h
   ·exact fin _ _ _ w2 m2 h
  ·rcases List.mem_cons.1 hq with rfl | hq'
   ·have hs':s∈t:=(List.mem_cons.1 hq2).resolve_left n2.symm
    obtain ⟨w3,m3⟩:=mt_2 vq vp vs w1
    rcases two_in n3 hp' hs' with h | h
    ·exact fin _ _ _ w1 m1 h
    ·exact fin _ _ _ w3 (m3.trans m1) h
   ·rcases List.mem_cons.1 hq2 with rfl | hs'
    ·obtain ⟨w3,m3⟩:=mt_1 vp vs vq w2
     obtain ⟨w4,m4⟩:=mt_2 vs vp vq w3
     rcases two_in n1 hp' hq' with h | h
     ·exact fin _ _ _ w3 (m3.trans m2) h
     ·exact fin _ _ _ w4 (m4.trans (m3.trans m2)) h
    ·exact mid_sub' (three_in hv h0 hw (t:=t) (fun y hy=>hs y (List.mem_cons_of_mem _ hy)) hp' hq' hs')
where mid_sub' {x:Pl} {t:List Pl} {l:List Pt} {v:Pt} (h:∀ {l:List Pt},v∈topS r l t):v∈topS r l (x::t):=h
theorem corn_iff {r:List Pl} (hv:∀ x∈r,Qw x=true) (v:Pt):v∈Xf r ↔ ∃ p q s,p∈r/\q∈r/\s∈r/\wd3 p q s≠0/\XU r v=true/\v=mtP p q s:=by
 constructor
 ·intro h
  have:=top_P (r:=r) (Q:=fun v=>∃ p q s,p∈r/\q∈r/\s∈r/\wd3 p q s≠0/\XU r v=true/\v=mtP p q s) (t:=r) (l:=[]) (fun x hx=>by cases hx) (fun p hp q hq s hs h0 hw=>⟨p,q,s,hp,hq,hs,h0,hw,rfl⟩) v h
  exact this
 ·rintro ⟨p,q,s,hp,hq,hs,h0,hw,rfl⟩
  exact three_in hv h0 hw (fun x hx=>hx) hp hq hs
theorem any_set {α:Type} {l m:List α} (h:∀ x,x∈l ↔ x∈m) (f:α->Bool):l.any f=m.any f:=by
 rw [Bool.eq_iff_iff,List.any_eq_true,List.any_eq_true]
 exact ⟨fun ⟨x,hx,hf⟩=>⟨x,(h x).1 hx,hf⟩,fun ⟨x,hx,hf⟩=>⟨x,(h x).2 hx,hf⟩⟩
theorem full_set {r r':List Pl} (hv:∀ x∈r,Qw x=true) (h:∀ x,x∈r ↔ x∈r'):Ui r=Ui r':=by
 have hv':∀ x∈r',Qw x=true:=fun x hx=>hv x ((h x).2 hx)
 have hw:∀ v,XU r v=XU r' v:=fun v=>by unfold XU; rw [any_set h]
 have hc:∀ v,v∈Xf r ↔ v∈Xf r':=fun v=>by
  rw [corn_iff hv,corn_iff hv',hw]
  exact ⟨fun ⟨p,q,s,h1,h2,h3,h4⟩=>⟨p,q,s,(h p).1 h1,(h q).1 h2,(h s).1 h3,h4⟩,fun ⟨p,q,s,h1,h2,h3,h4⟩=>⟨p,q,s,(h p).2 h1,(h q).2 h2,(h s).2 h3,h4⟩⟩
 unfold Ui
 have hn:nonS (Xf r)=nonS (Xf r'):=by funext p; unfold nonS; rw [any_set hc]
 rw [hn,any_set h]
theorem apart_comm (a b:List Pl):Xw a b=Xw b a:=by
 have e:Xm [a,b]=Xm [b,a]:=by unfold Xm; rw [any_set (l:=[a,b]) (m:=[b,a]) (fun x=>by simp [or_comm])]
 unfold Xw
 rw [← e]
 cases hv:Xm [a,b] with
 | false=>rfl
 | true=>rw [full_set (r':=ofS [b,a]) (Ue hv) (fun x=>by simp only [ofS,List.flatten_cons,List.flatten_nil,List.append_nil,List.mem_append]; rw [or_comm (a:=x∈a)])]
end Go.Proofs.YthfhaoogcpfboaaGreat
namespace Go.Proofs.YthfhaoogcpfboaaGreat
open Go.RowKit
set_option maxRecDepth 100000
set_option linter.unusedVariables false
def pk (p:Pl) (k:Nat):Int:=[p.n.x,p.n.y,p.n.z,p.b].getD k 0
theorem c4at {p:Pl} {k:Nat} (h:k<4):(cPl p)[0+((k:Int)).toNat*1]?=some (iv (pk p k)):=by
 obtain rfl | rfl | rfl | rfl:k=0\/k=1\/k=2\/k=3:=by omega
 all_goals rfl
def cmpR (p q:Pl):List Nat->Int
 | []=>0
 | k::t=>if pk p k<pk q k then -1 else if pk p k>pk q k then 1 else cmpR p q t
theorem cmpR_at {p q:Pl} {k:Nat} (h:k<4):cmpR p q ([0,1,2,3].drop k)=if pk p k<pk q k then -1 else if pk p k>pk q k then 1 else cmpR p q ([0,1,2,3].drop (k+1)):=by
 obtain rfl | rfl | rfl | rfl:k=0\/k=1\/k=2\/k=3:=by omega
 all_goals rfl
abbrev cmp4 (p q:Pl):Int:=cmpR p q [0,1,2,3]
def atS (p:Pl):List Pl->Nat
 | []=>0
 | a::t=>if cmp4 a p<0 then atS p t+1 else 0
theorem atS_at {p a:Pl} {l:List Pl} {k:Nat} (h:l[k]?=some a):atS p (l.drop k)=if cmp4 a p<0 then atS p (l.drop (k+1))+1 else 0:=by rw [Jo h]; rfl
def putS (l:List Pl) (p:Pl):List Pl:=if l[atS p l]?=some p then l else l.take (atS p l)++[p]++l.drop (atS p l)
theorem put_sub (l:List Pl) (p:Pl):(putS l p).length<=l.length+1/\∀ y∈putS l p,y∈l\/y=p:=by
 unfold putS
 split
 ·exact ⟨Nat.le_succ _,fun y h=>.inl h⟩
 ·refine ⟨by simp; omega,fun y h=>?_⟩
  rcases List.mem_append.1 h with h | h
  ·rcases List.mem_append.1 h with h | h
   ·exact .inl (List.mem_of_mem_take h)
   ·exact .inr (List.mem_singleton.1 h)
  ·exact .inl (List.mem_of_mem_drop h)
def leaR (l:List Pt):List Pl->List Pl->List Pl
 | acc,[]=>acc
 | acc,p::t=>leaR l (if 3<=onN l p then putS acc p else acc) t
theorem leaR_at {l:List Pt} {acc c:List Pl} {k:Nat} {p:Pl} (h:c[k]?=some p):leaR l acc (c.drop k)=leaR l (if 3<=onN l p then putS acc p else acc) (c.drop (k+1)):=by rw [Jo h]; rfl
theorem leaR_sub (l:List Pt):∀ (c acc:List Pl),(leaR l acc c).length<=acc.length+c.length/\∀ y∈leaR l acc c,y∈acc\/y∈c
 | [],acc=>⟨Nat.le_refl _,fun y h=>.inl h⟩
 | p::t,acc=>by
  obtain ⟨h1,h2⟩:=leaR_sub l t (if 3<=onN l p then putS acc p else acc)
  obtain ⟨h3,h4⟩:=put_sub acc p
  show (leaR l _ t).length<=_/\∀ y∈leaR l _ t,_
  refine ⟨?_,fun y hy=>?_⟩
  ·have h5:(if 3<=onN l p then putS acc p else acc).length<=acc.length+1:=by split <;> omega
   rw [List.length_cons]; omega
  ·rcases h2 y hy with h | h
   ·split at h
    ·rcases h4 y h with h | h
     ·exact .inl h
     ·rw [h]; exact .inr List.mem_cons_self
    ·exact .inl h
   ·exact .inr (List.mem_cons_of_mem _ h)
def QM (c:List Pl):List Pl:=if QO c=true then leaR (ptsS c) [] c else []
theorem leanR_sub (c:List Pl):(QM c).length<=c.length/\∀ y∈QM c,y∈c:=by
 unfold QM
 split
 ·obtain ⟨h1,h2⟩:=leaR_sub (ptsS c) c []
  exact ⟨by simpa using h1,fun y h=>(h2 y h).resolve_left (by simp)⟩
 ·exact ⟨Nat.zero_le _,fun y h=>by cases h⟩
theorem apart_1 {a b:List Pl} (h:¬ ckS a=0\/¬ ckS b=0):Xw a b=true:=by
 unfold Xw
 rw [show Xm [a,b]=false from by unfold Xm badC; rcases h with h | h <;> simp [h]]; rfl
theorem apart_2 {a b:List Pl} (h:ckS a=0) (h2:ckS b=0):Xm [a,b]=true/\Xw a b = !Ui (ofS [a++b]):=by
 have hv:Xm [a,b]=true:=val2 (by unfold badC; simp [h]) (by unfold badC; simp [h2])
 refine ⟨hv,?_⟩
 unfold Xw
 rw [hv,show ofS [a++b]=ofS [a,b] from by unfold ofS; simp]; rfl
theorem ck_len {c:List Pl} (h:ckS c=0):c.length<=48:=by
 unfold ckS at h
 split at h
 ·cases h
 ·omega
theorem slc_tk (l:List Pl) (k:Nat):(((l.map cPl).drop (0:Int).toNat).take (((k:Int)).toNat-(0:Int).toNat))=(l.take k).map cPl:=by
 rw [Int.toNat_zero,List.drop_zero,Nat.sub_zero,Int.toNat_natCast,List.map_take]
def mcv204:MC:=(sq [oN 2 (.box 90 4 0) [],oN 3 (.box 90 4 1) [],oN 4 (.mv (cI 0)) []] (sq [oA 8 0 2 [],oA 9 0 8 [0],oD 10 1 9 [1],oA 11 0 2 [],oA 12 1 11 [3],oD 13 1 12 [4],oA 14 0 2 [],oA 15 2 14 [6],oD 16 1 15 [7],oA 17 3 2 [],oD 18 1 17 [9],oN 19 (.build (iz 4) [(0,1,10),(1,1,13),(2,1,16),(3,1,18)]) [2,5,8,10],oN 5 (.alloc 232 4 (iz 4)) [],oS 4 5 19 (12::11::up 13)] (sq [oA 20 0 3 [],oA 21 0 20 [0],oD 22 1 21 [1],oA 23 0 3 [],oA 24 1 23 [3],oD 25 1 24 [4],oA 26 0 3 [],oA 27 2 26 [6],oD 28 1 27 [7],oA 29 3 3 [],oD 30 1 29 [9],oN 31 (.build (iz 4) [(0,1,22),(1,1,25),(2,1,28),(3,1,30)]) [2,5,8,10],oN 6 (.alloc 232 4 (iz 4)) [],oS 4 6 31 (12::11::up 13)] (.seq (sq [oN 7 (.mv (cI 0)) []] (.block 0 (.loop (.seq (sq [oM 32 7 [],oB 33 .lss 32 (cI 4) [0]] (.cond 33 .skip (.exit 0))) (.seq (.block 1 (.seq (dq [oM 36 7 [],oN 37 (.ixarr 4 1 5 36) [0],oD 38 1 37 [1],oM 39 7 [],oN 40 (.ixarr 4 1 6 39) [3],oD 41 1 40 [4],oB 42 .lss 38 41 [2,5]] (.cond 42 (sq [oN 4 (.mv (cI (-1))) []] .ret) .skip)) (dq [oM 43 7 [],oN 44 (.ixarr 4 1 5 43) [0],oD 45 1 44 [1],oM 46 7 [],oN 47 (.ixarr 4 1 6 46) [3],oD 48 1 47 [4],oB 49 .gtr 45 48 [2,5]] (.cond 49 (sq [oN 4 (.mv (cI 1)) []] .ret) .skip)))) (rg [oM 34 7 [],oB 35 .add 34 (cI 1) [0],oM 7 35 [1,0,1]])))))) (sq [oN 4 (.mv (cI 0)) []] .ret)))))
theorem mcOkv204:okM Tryz.prog Tryz.f204 50=some mcv204:=by kernel_rfl
theorem vc204 (p q:Pl):FC Tryz.prog 204 [.agg (cPl p),.agg (cPl q)] [] (iv (cmp4 p q)) [] false:=by
 refine Qg (nt:=50) Tryz.func204 rfl rfl mcOkv204 (nL rfl) ?_
 delta mcv204
 refine gA 46 rfl ?_
 refine Qo (α:=Nat) (fun k=>4-k) (fun k=>[(5,.ptr 5 0 0),(6,.ptr 6 0 0),(7,iv (((k):Nat):Int))]) (fun k=>[(5,.cells 232 4 [cPl p] true),(6,.cells 232 4 [cPl q] true)]) (fun k=>k<=4/\cmpR p q ([0,1,2,3].drop k)=cmp4 p q) 0 (⟨by omega,rfl⟩)
  (Qb (Qa rfl rfl) (kS rfl rfl) (fun i h=>by cases h)) ?_
 rintro k ⟨hk,hinv⟩
 refine gT 6 rfl (Qc rfl (fun h33=>?_) (fun h33=>?_))
 ·replace h33:=of_decide_eq_true h33
  refine gK 6 rfl ?_
  rw [cmpR_at (by omega)] at hinv
  refine gI 1 rfl (Qm rfl rfl rfl (by omega) (by omega) (gR 0 rfl (rs_ld_p rfl rfl rfl rfl (c4at (by omega)) (gR 1 rfl (Qm rfl rfl rfl (by omega) (by omega) (gR 0 rfl (rs_ld_p rfl rfl rfl rfl (c4at (by omega)) (gR 1 rfl (Q9 (by kernel_rfl) (gP 0 rfl (Qc rfl (fun h42=>?_) (fun h42=>?_))))))))))))
  ·replace h42:=of_decide_eq_true h42
   refine gK 5 rfl ?_
   rw [if_pos h42] at hinv
   rw [← hinv]
   exact rQ
  ·replace h42:=of_decide_eq_false h42
   refine gK 4 rfl (Qm rfl rfl rfl (by omega) (by omega) (gR 0 rfl (rs_ld_p rfl rfl rfl rfl (c4at (by omega)) (gR 1 rfl (Qm rfl rfl rfl (by omega) (by omega) (gR 0 rfl (rs_ld_p rfl rfl rfl rfl (c4at (by omega)) (gR 0 rfl (Ua rfl rfl rfl (gR 0 rfl (Q9 (by kernel_rfl) ?_)))))))))))
   refine gP 0 rfl (Qc rfl (fun h49=>?_) (fun h49=>?_))
   ·replace h49:=of_decide_eq_true h49
    refine gK 5 rfl ?_
    rw [if_neg h42,if_pos h49] at hinv
    rw [← hinv]
    exact rQ
   ·replace h49:=of_decide_eq_false h49
    refine gK 3 rfl (Qf rfl rfl rfl (by omega) (gR 2 rfl ?_))
    rw [if_neg h42,if_neg h49] at hinv
    exact Qz <| ⟨k+1,⟨by omega,hinv⟩,by omega,Qb (Qa rfl rfl) (kS rfl rfl) (fun i h=>by cases h)⟩
 ·replace h33:=of_decide_eq_false h33
  refine gK 6 rfl ?_
  obtain rfl:k=4:=by omega
  rw [← hinv]
  exact rQ
def mcv177:MC:=(sq [oN 3 (.box 90 4 1) [],oN 4 (.mv (.c .nils)) []] (sq [oN 5 (.mv (cI 0)) []] (.seq (.block 0 (.loop (.seq (dq [oM 7 5 [],oM 8 0 [],oE 9 8 [1],oB 10 .lss 7 9 [0,2],oM 11 10 [3],pM 12 0 11 true [4],pM 13 5 11 true [4],oG 14 (.ixsl 4 12 13) 11 true [5,6,4],oG 15 (.ld true 4 14) 11 true [7,4],oG 16 (.ld true 4 3) 11 true [4],oG 17 (.call 204 [15,16]) 11 true [8,9,4,4],oG 18 (.bin .lss 17 (cI 0)) 11 true [10,4],oN 19 (.pick 11 18 (.c (.bool false))) [4,11]] (.cond 19 .skip (.exit 0))) (.block 1 (rg [oM 20 5 [],oB 21 .add 20 (cI 1) [0],oM 5 21 [1,0,1]]))))) (.seq (dq [oM 22 5 [],oM 23 0 [],oE 24 23 [1],oB 25 .lss 22 24 [0,2],oM 26 25 [3],pM 27 0 26 true [4],pM 28 5 26 true [4],oG 29 (.ixsl 4 27 28) 26 true [5,6,4],oG 30 (.ld true 4 29) 26 true [7,4],oG 31 (.ld true 4 3) 26 true [4],oG 32 (.aeq false 4 30 31) 26 true [8,9,4],oN 33 (.pick 26 32 (.c (.bool false))) [4,10]] (.cond 33 (sq [oM 34 0 [],oM 4 34 [0,0]] .ret) .skip)) (sq [oN 35 (.bslice 90 4 (iz 4) 0 []) [],oM 36 0 [],oM 37 5 [],oN 38 (.slc 4 36 none (some 37)) [1,2],oN 39 (.app 90 4 32 (iz 4) 35 38) [0,3],oM 6 39 (4::4::up 5)] (sq [oM 40 6 [],oL 41 4 3 [],oN 42 (.bslice 90 4 (iz 4) 1 [(0,41)]) [1],oN 43 (.app 90 4 32 (iz 4) 40 42) [0,2],oM 6 43 (3::3::up 4)] (sq [oM 44 6 [],oM 45 0 [],oM 46 5 [],oN 47 (.slc 4 45 (some 46) none) [1,2],oN 48 (.app 90 4 32 (iz 4) 44 47) [0,3],oM 4 48 (4::4::up 5)] .ret)))))))
theorem mcOkv177:okM Tryz.prog Tryz.f177 49=some mcv177:=by kernel_rfl
theorem vc177 (l:List Pl) (p:Pl) (hl:l.length<=1000):FC Tryz.prog 177 [.rs 4 (l.map cPl),.agg (cPl p)] [] (.rs 4 ((putS l p).map cPl)) [] true:=by
 refine Qg (nt:=49) Tryz.func177 rfl rfl mcOkv177 (nL rfl) ?_
 delta mcv177
 refine gA 11 rfl ?_
 refine Qo (α:=Nat) (fun k=>l.length-k) (fun k=>[(0,.rs 4 (l.map cPl)),(3,.ptr 3 0 0),(5,iv (((k):Nat):Int))]) (fun k=>[(3,.cells 90 4 [cPl p] true)]) (fun k=>k<=l.length/\k+atS p (l.drop k)=atS p l) 0 (⟨by omega,by simp⟩)
  (Qb (Qa rfl rfl) (.keep rfl rfl .nil) nz) ?_
 rintro k ⟨hk,hinv⟩
 refine gT 5 rfl (Qe rfl rfl (gR 0 rfl (Qx rfl rfl rfl rfl (fun h10=>?_) (fun h10=>?_))))
 ·skip
  refine gR 3 rfl ?_
  obtain ⟨x,hxk,hxm⟩:=Qk (L:=l) (k:=k) (by omega)
  rw [atS_at hxk] at hinv
  refine Qi (f:=cPl) (y:=x) rfl rfl rfl (by omega) hxk (gR 0 rfl (Q8 (cs:=cPl x) rfl rfl (nL rfl) rfl (gR 1 rfl (cN rfl rfl (vc204 x p) (gR 0 rfl (Qx rfl rfl rfl rfl (fun h18=>?_) (fun h18=>?_)))))))
  ·skip
   refine gR 1 rfl (Q9 (by kernel_rfl) (gP 5 rfl (Qf rfl rfl rfl (by omega) (gR 2 rfl ?_))))
   rw [if_pos h18] at hinv
   exact Qz <| ⟨k+1,⟨by omega,by omega⟩,by omega,Qb (Qa rfl rfl) (.keep rfl rfl .nil) nz⟩
  ·skip
   refine gR 1 rfl (Q9 (by kernel_rfl) (gP 4 rfl ?_))
   rw [if_neg h18] at hinv
   have hat:atS p l=k:=by omega
   refine gI 3 rfl (Qe rfl rfl (gR 0 rfl (Qx rfl rfl rfl rfl (fun h25=>?_) (fun h25=>?_))))
   ·skip
    refine gR 3 rfl ?_
    obtain ⟨y,hyk,hym⟩:=Qk (L:=l) (k:=k) (by omega)
    refine Qi (f:=cPl) (y:=y) rfl rfl rfl (by omega) hyk (gR 0 rfl (Q8 (cs:=cPl y) rfl rfl (nL rfl) rfl (gR 1 rfl (rs_aeq_l (y:=y) (z:=p) rfl rfl rfl ?_))))
    cases h32:decide (y=p)
    ·skip
     refine gR 1 rfl (Q9 (by kernel_rfl) (gP 4 rfl (bT (l:=[]) (els:=[]) (by kernel_rfl) (gR 2 rfl (Ji (l:=0) (q:=(k:Int)) (els':=(l.take k).map cPl) rfl rfl rfl rfl rfl (by decide) (by omega) (by simp; omega) (slc_tk l k) (gR 0 rfl (XO (f:=cPl) (ys:=l.take k) (n:=k) (rd:=[]) rfl rfl rfl rfl rfl rfl rfl (by simp) (fun _=>rfl) (by simp; omega) (by omega) (by omega) (fun _=>rfl) (gR 6 rfl (bM cPl (([p]:List Pl)) (by kernel_rfl) (gR 0 rfl (Qq (f:=cPl) (xs:=l.take k) (y:=p) (fl':=true) rfl rfl rfl rfl (by simp; omega) rfl rfl rfl (by decide) rfl (by omega) (by omega) rfl ?_)))))))))))
     refine gR 7 rfl (Ji (l:=(k:Int)) (q:=((l.map cPl).length:Nat)) (els':=(l.drop k).map cPl) rfl rfl rfl rfl rfl (by omega) (by simp; omega) (Int.le_refl _) (slc_drop l k rfl) (gR 0 rfl (Ju (f:=cPl) (xs:=l.take k++[p]) (ys:=l.drop k) (m:=l.length-k) (rd:=[]) rfl rfl rfl rfl rfl rfl rfl (by simp) (fun _=>rfl) (by simp; omega) (by simp) (by omega) (by omega) (fun _=>rfl) (gR 3 rfl ?_))))
     rw [show putS l p=l.take k++[p]++l.drop k from by unfold putS; rw [hat]; exact if_neg (by rw [hyk]; intro e; injection e with e; rw [decide_eq_true e] at h32; cases h32)]
     exact Qt <| Ql rfl (Q5 (f:=cPl) (xs:=l.take k++[p]++l.drop k) rfl rfl (by simp; omega) (fun _=>rfl)) .nil
    ·skip
     refine gR 1 rfl (Q9 (by kernel_rfl) (gP 7 rfl ?_))
     rw [show putS l p=l from by unfold putS; rw [hat]; exact if_pos (by rw [hyk]; exact congrArg some (of_decide_eq_true h32))]
     exact Qt <| Ql rfl sm .nil
   ·skip
    refine gR 8 rfl (Q9 (by kernel_rfl) (gP 4 rfl (bT (l:=[]) (els:=[]) (by kernel_rfl) (gR 2 rfl (Ji (l:=0) (q:=(k:Int)) (els':=(l.take k).map cPl) rfl rfl rfl rfl rfl (by decide) (by omega) (by simp; omega) (slc_tk l k) (gR 0 rfl (XO (f:=cPl) (ys:=l.take k) (n:=k) (rd:=[]) rfl rfl rfl rfl rfl rfl rfl (by simp) (fun _=>rfl) (by simp; omega) (by omega) (by omega) (fun _=>rfl) (gR 6 rfl (bM cPl (([p]:List Pl)) (by kernel_rfl) (gR 0 rfl (Qq (f:=cPl) (xs:=l.take k) (y:=p) (fl':=true) rfl rfl rfl rfl (by simp; omega) rfl rfl rfl (by decide) rfl (by omega) (by omega) rfl ?_)))))))))))
    refine gR 7 rfl (Ji (l:=(k:Int)) (q:=((l.map cPl).length:Nat)) (els':=(l.drop k).map cPl) rfl rfl rfl rfl rfl (by omega) (by simp; omega) (Int.le_refl _) (slc_drop l k rfl) (gR 0 rfl (Ju (f:=cPl) (xs:=l.take k++[p]) (ys:=l.drop k) (m:=l.length-k) (rd:=[]) rfl rfl rfl rfl rfl rfl rfl (by simp) (fun _=>rfl) (by simp; omega) (by simp) (by omega) (by omega) (fun _=>rfl) (gR 3 rfl ?_))))
    rw [show putS l p=l.take k++[p]++l.drop k from by unfold putS; rw [hat]; exact if_neg (by rw [List.getElem?_eq_none (by omega)]; intro e; cases e)]
    exact Qt <| Ql rfl (Q5 (f:=cPl) (xs:=l.take k++[p]++l.drop k) rfl rfl (by simp; omega) (fun _=>rfl)) .nil
 ·skip
  refine gR 9 rfl (Q9 (by kernel_rfl) (gP 4 rfl ?_))
  have hkl:k=l.length:=by omega
  have hat:atS p l=k:=by rw [List.drop_eq_nil_of_le (by omega)] at hinv; exact hinv.symm
  refine gI 3 rfl (Qe rfl rfl (gR 0 rfl (Qx rfl rfl rfl rfl (fun h25=>?_) (fun h25=>?_))))
  ·skip
   refine gR 3 rfl ?_
   obtain ⟨y,hyk,hym⟩:=Qk (L:=l) (k:=k) (by omega)
   refine Qi (f:=cPl) (y:=y) rfl rfl rfl (by omega) hyk (gR 0 rfl (Q8 (cs:=cPl y) rfl rfl (nL rfl) rfl (gR 1 rfl (rs_aeq_l (y:=y) (z:=p) rfl rfl rfl ?_))))
   cases h32:decide (y=p)
   ·skip
    refine gR 1 rfl (Q9 (by kernel_rfl) (gP 4 rfl (bT (l:=[]) (els:=[]) (by kernel_rfl) (gR 2 rfl (Ji (l:=0) (q:=(k:Int)) (els':=(l.take k).map cPl) rfl rfl rfl rfl rfl (by decide) (by omega) (by simp; omega) (slc_tk l k) (gR 0 rfl (XO (f:=cPl) (ys:=l.take k) (n:=k) (rd:=[]) rfl rfl rfl rfl rfl rfl rfl (by simp) (fun _=>rfl) (by simp; omega) (by omega) (by omega) (fun _=>rfl) (gR 6 rfl (bM cPl (([p]:List Pl)) (by kernel_rfl) (gR 0 rfl (Qq (f:=cPl) (xs:=l.take k) (y:=p) (fl':=true) rfl rfl rfl rfl (by simp; omega) rfl rfl rfl (by decide) rfl (by omega) (by omega) rfl ?_)))))))))))
    refine gR 7 rfl (Ji (l:=(k:Int)) (q:=((l.map cPl).length:Nat)) (els':=(l.drop k).map cPl) rfl rfl rfl rfl rfl (by omega) (by simp; omega) (Int.le_refl _) (slc_drop l k rfl) (gR 0 rfl (Ju (f:=cPl) (xs:=l.take k++[p]) (ys:=l.drop k) (m:=l.length-k) (rd:=[]) rfl rfl rfl rfl rfl rfl rfl (by simp) (fun _=>rfl) (by simp; omega) (by simp) (by omega) (by omega) (fun _=>rfl) (gR 3 rfl ?_))))
    rw [show putS l p=l.take k++[p]++l.drop k from by unfold putS; rw [hat]; exact if_neg (by rw [hyk]; intro e; injection e with e; rw [decide_eq_true e] at h32; cases h32)]
    exact Qt <| Ql rfl (Q5 (f:=cPl) (xs:=l.take k++[p]++l.drop k) rfl rfl (by simp; omega) (fun _=>rfl)) .nil
   ·skip
    refine gR 1 rfl (Q9 (by kernel_rfl) (gP 7 rfl ?_))
    rw [show putS l p=l from by unfold putS; rw [hat]; exact if_pos (by rw [hyk]; exact congrArg some (of_decide_eq_true h32))]
    exact Qt <| Ql rfl sm .nil
  ·skip
   refine gR 8 rfl (Q9 (by kernel_rfl) (gP 4 rfl (bT (l:=[]) (els:=[]) (by kernel_rfl) (gR 2 rfl (Ji (l:=0) (q:=(k:Int)) (els':=(l.take k).map cPl) rfl rfl rfl rfl rfl (by decide) (by omega) (by simp; omega) (slc_tk l k) (gR 0 rfl (XO (f:=cPl) (ys:=l.take k) (n:=k) (rd:=[]) rfl rfl rfl rfl rfl rfl rfl (by simp) (fun _=>rfl) (by simp; omega) (by omega) (by omega) (fun _=>rfl) (gR 6 rfl (bM cPl (([p]:List Pl)) (by kernel_rfl) (gR 0 rfl (Qq (f:=cPl) (xs:=l.take k) (y:=p) (fl':=true) rfl rfl rfl rfl (by simp; omega) rfl rfl rfl (by decide) rfl (by omega) (by omega) rfl ?_)))))))))))
   refine gR 7 rfl (Ji (l:=(k:Int)) (q:=((l.map cPl).length:Nat)) (els':=(l.drop k).map cPl) rfl rfl rfl rfl rfl (by omega) (by simp; omega) (Int.le_refl _) (slc_drop l k rfl) (gR 0 rfl (Ju (f:=cPl) (xs:=l.take k++[p]) (ys:=l.drop k) (m:=l.length-k) (rd:=[]) rfl rfl rfl rfl rfl rfl rfl (by simp) (fun _=>rfl) (by simp; omega) (by simp) (by omega) (by omega) (fun _=>rfl) (gR 3 rfl ?_))))
   rw [show putS l p=l.take k++[p]++l.drop k from by unfold putS; rw [hat]; exact if_neg (by rw [List.getElem?_eq_none (by omega)]; intro e; cases e)]
   exact Qt <| Ql rfl (Q5 (f:=cPl) (xs:=l.take k++[p]++l.drop k) rfl rfl (by simp; omega) (fun _=>rfl)) .nil
def mcv176:MC:=(sq [oN 2 (.mv (.c .nils)) []] (.seq (sq [oM 3 0 [],oC 4 99 [3] [0],oB 5 .neq 4 (cI 0) [1]] (.cond 5 (sq [oN 2 (.mv (.c .nils)) []] .ret) .skip)) (sq [oM 6 0 [],oC 7 101 [6] [0],oC 8 140 [7] [1,1],oM 2 8 [2,2,0,1,2]] .ret)))
theorem mcOkv176:okM Tryz.prog Tryz.f176 9=some mcv176:=by kernel_rfl
theorem vc176 (c:List Pl) (h:OkC c):FC Tryz.prog 176 [.rs 4 (c.map cPl)] [] (.rs 4 ((ptsS c).map cPt)) [] true:=by
 have hcn:=h.n
 refine Qg (nt:=9) Tryz.func176 rfl rfl mcOkv176 (nL rfl) ?_
 delta mcv176
 refine gA 8 rfl (cN rfl rfl (vc99 c (by omega)) (gR 0 rfl (Xv rfl rfl rfl (gR 1 rfl (Qc rfl (fun h5=>?_) (fun h5=>?_))))))
 ·replace h5:=of_decide_eq_true h5
  refine gK 5 rfl ?_
  rw [show ptsS c=[] from by unfold ptsS; rw [ck1 (show ¬ ckS c=0 by omega)]; rfl]
  exact Qt <| Ql rfl Qy .nil
 ·replace h5:=of_decide_eq_false h5
  refine gK 4 rfl (cN rfl rfl (vc101 c (by omega)) (gR 0 rfl (cN rfl rfl (vc140 (ofS [c]) (OkC.of (ck0 (show ckS c=0 by omega))) (Ue (ck0 (show ckS c=0 by omega)))) (gR 3 rfl ?_))))
  rw [show ptsS c=Xf (ofS [c]) from by unfold ptsS; rw [ck0 (show ckS c=0 by omega)]; rfl]
  exact Qt <| Jk rfl rfl rfl (.inl rfl)
def mcv143:MC:=(sq [oN 2 (.mv (.c .nils)) []] (.seq (sq [oM 8 0 [],oC 9 49 [8] [0],oN 10 (.un .not 9) [1]] (.cond 10 (sq [oN 2 (.mv (.c .nils)) []] .ret) .skip)) (sq [oM 11 0 [],oC 12 176 [11] [0],oM 3 12 [1,1,0,1]] (sq [oN 4 (.mv (.c .nils)) []] (.seq (sq [oN 5 (.mv (cI 0)) []] (.block 0 (.loop (.seq (sq [oM 13 5 [],oM 14 0 [],oE 15 14 [1],oB 16 .lss 13 15 [0,2]] (.cond 16 .skip (.exit 0))) (.seq (.block 1 (sq [oN 6 (.mv (cI 0)) []] (.seq (sq [oN 7 (.mv (cI 0)) []] (.block 2 (.loop (.seq (sq [oM 19 7 [],oM 20 3 [],oE 21 20 [1],oB 22 .lss 19 21 [0,2]] (.cond 22 .skip (.exit 2))) (.seq (.block 3 (dq [oM 25 0 [],oM 26 5 [],oX 27 4 25 26 [0,1],oL 28 4 27 [2],oM 29 3 [],oM 30 7 [],oX 31 4 29 30 [4,5],oL 32 4 31 [6],oC 33 141 [28,32] [3,7],oB 34 .eql 33 (cI 0) [8]] (.cond 34 (rg [oM 35 6 [],oB 36 .add 35 (cI 1) [0],oM 6 36 [1,0,1]]) .skip))) (rg [oM 23 7 [],oB 24 .add 23 (cI 1) [0],oM 7 24 [1,0,1]])))))) (sq [oM 37 6 [],oB 38 .geq 37 (cI 3) [0]] (.cond 38 (rg [oM 39 4 [],oM 40 0 [],oM 41 5 [],oX 42 4 40 41 [1,2],oL 43 4 42 [3],oC 44 177 [39,43] [0,4],oM 4 44 (5::5::up 6)]) .skip))))) (rg [oM 17 5 [],oB 18 .add 17 (cI 1) [0],oM 5 18 [1,0,1]])))))) (sq [oM 45 4 [],oM 2 45 [0,0]] .ret))))))
theorem mcOkv143:okM Tryz.prog Tryz.f143 46=some mcv143:=by kernel_rfl
theorem vc143 (c:List Pl) (h:OkC c):FC Tryz.prog 143 [.rs 4 (c.map cPl)] [] (.rs 4 ((QM c).map cPl)) [] true:=by
 have hcn:=h.n
 have hpl:=pts_len c
 refine Qg (nt:=46) Tryz.func143 rfl rfl mcOkv143 (nL rfl) ?_
 delta mcv143
 refine gA 8 rfl (cN rfl rfl (vc49 c (by omega)) ?_)
 cases h9:QO c
 ·skip
  refine gR 8 rfl ?_
  rw [show QM c=[] from by unfold QM; rw [h9]; rfl]
  exact Qt <| Ql rfl Qy .nil
 ·skip
  refine gR 7 rfl (Qr [] rfl rfl (vc176 c h) (.cons (Qd rfl) (.nil)) (.nil) rfl rfl rfl (gR 12 rfl ?_))
  refine Qo (α:=Nat×List Pl) (fun u=>c.length-u.1) (fun u=>[(0,.rs 4 (c.map cPl)),(3,.rs 4 ((ptsS c).map cPt)),(4,.rs 4 ((u.2).map cPl)),(5,iv (((u.1):Nat):Int))]) (fun u=>[]) (fun u=>u.1<=c.length/\leaR (ptsS c) u.2 (c.drop u.1)=leaR (ptsS c) [] c/\u.2.length<=u.1) (0,[]) (⟨by omega,rfl,Nat.le_refl _⟩)
   (Qb (.cs (.cs (.cons rfl (Qy) (.cs (.nil))))) (.nil) (fun i h=>by cases h)) ?_
  rintro ⟨k,acc⟩ ⟨hk,hinv,hal⟩
  dsimp only at hk hinv hal ⊢
  refine gT 5 rfl (Qe rfl rfl (gR 2 rfl (Qc rfl (fun h16=>?_) (fun h16=>?_))))
  ·replace h16:=of_decide_eq_true h16
   refine gK 4 rfl ?_
   obtain ⟨p,hpk,hpm⟩:=Qk (L:=c) (k:=k) (by omega)
   rw [leaR_at hpk] at hinv
   refine gI 9 rfl ?_
   refine Qo (α:=Nat) (fun j=>(ptsS c).length-j) (fun j=>[(0,.rs 4 (c.map cPl)),(3,.rs 4 ((ptsS c).map cPt)),(4,.rs 4 ((acc).map cPl)),(5,iv (((k):Nat):Int)),(6,iv ((((((ptsS c).take (j)).filter (onB p)).length):Nat):Int)),(7,iv (((j):Nat):Int))]) (fun j=>[]) (fun j=>j<=(ptsS c).length) 0 (by omega)
    (Qb (Qa rfl rfl) (.nil) (fun i h=>by cases h)) ?_
   intro j hj
   refine gT 5 rfl (Qe rfl rfl (gR 2 rfl (Qc rfl (fun h22=>?_) (fun h22=>?_))))
   ·replace h22:=of_decide_eq_true h22
    refine gK 7 rfl ?_
    obtain ⟨x,hxj,hxm⟩:=Qk (L:=ptsS c) (k:=j) (by omega)
    have hole:=on_le (l:=ptsS c) (k:=j) (p:=p)
    refine Qi (f:=cPl) (y:=p) rfl rfl rfl (by omega) hpk (gR 0 rfl (Q8 (cs:=cPl p) rfl rfl (nL rfl) rfl (gR 2 rfl (Qi (f:=cPt) (y:=x) rfl rfl rfl (by omega) hxj (gR 1 rfl (cN rfl rfl (vc141 p x) (gR 0 rfl (Ub rfl rfl rfl (gR 0 rfl (Q9 (by kernel_rfl) (gP 0 rfl ?_)))))))))))
    refine Qc rfl (fun h34=>?_) (fun h34=>?_)
    ·replace h34:=of_decide_eq_true h34
     refine gK 2 rfl (Qf rfl rfl rfl (by omega) (gR 4 rfl (Qf rfl rfl rfl (by omega) (gR 2 rfl ?_))))
     exact Qz <| ⟨j+1,by omega,by omega,Qb (.cs (.cs (.cs (.cs (.cons rfl (rc_int (by rw [on_t hxj h34]; rfl)) (.cs (.nil))))))) (.nil) (fun i h=>by cases h)⟩
    ·replace h34:=of_decide_eq_false h34
     refine gK 3 rfl (Qf rfl rfl rfl (by omega) (gR 2 rfl ?_))
     exact Qz <| ⟨j+1,by omega,by omega,Qb (.cs (.cs (.cs (.cs (.cons rfl (rc_int (by rw [on_f hxj h34])) (.cs (.nil))))))) (.nil) (fun i h=>by cases h)⟩
   ·replace h22:=of_decide_eq_false h22
    refine gK 2 rfl ?_
    obtain rfl:j=(ptsS c).length:=by omega
    rw [List.take_length]
    refine gI 2 rfl (XZ rfl rfl rfl (gR 1 rfl (Qc rfl (fun h38=>?_) (fun h38=>?_))))
    ·replace h38:=of_decide_eq_true h38
     refine gK 4 rfl (Qi (f:=cPl) (y:=p) rfl rfl rfl (by omega) hpk (gR 0 rfl (Q8 (cs:=cPl p) rfl rfl (nL rfl) rfl (gR 0 rfl (Qr [] rfl rfl (vc177 acc p (by omega)) (.cons (Qd rfl) (.cons (Qd rfl) (.nil))) (.nil) rfl rfl rfl (gR 4 rfl (Qf rfl rfl rfl (by omega) (gR 2 rfl ?_))))))))
     rw [if_pos (by unfold onN; omega)] at hinv
     exact Qz <| ⟨(k+1,putS acc p),⟨by dsimp only; omega,hinv,by have:=(put_sub acc p).1; dsimp only; omega⟩,by dsimp only; omega,Qb (Qa rfl rfl) (.nil) (fun i h=>by cases h)⟩
    ·replace h38:=of_decide_eq_false h38
     refine gK 3 rfl (Qf rfl rfl rfl (by omega) (gR 2 rfl ?_))
     rw [if_neg (by unfold onN; omega)] at hinv
     exact Qz <| ⟨(k+1,acc),⟨by dsimp only; omega,hinv,by dsimp only; omega⟩,by dsimp only; omega,Qb (Qa rfl rfl) (.nil) (fun i h=>by cases h)⟩
  ·replace h16:=of_decide_eq_false h16
   refine gK 7 rfl ?_
   rw [show QM c=acc from by unfold QM; rw [if_pos h9,← hinv,List.drop_eq_nil_of_le (by omega)]; rfl]
   exact Qt <| Ql rfl sm .nil
def mcv102:MC:=(sq [oN 4 (.mv (.c (.bool false))) []] (.seq (sq [oM 5 0 [],oC 6 99 [5] [0],oB 7 .neq 6 (cI 0) [1],oM 8 7 [2,1],pM 9 1 8 false [3],oG 10 (.call 99 [9]) 8 false [4,3,3],oG 11 (.bin .neq 10 (cI 0)) 8 false [5,3],oN 12 (.pick 8 (.c (.bool true)) 11) [3,6]] (.cond 12 (sq [oN 4 (.mv (.c (.bool true))) []] .ret) .skip)) (sq [oN 13 (.bslice 90 4 (iz 4) 0 []) [],oM 14 0 [],oN 15 (.app 90 4 32 (iz 4) 13 14) [0,1],oM 16 1 [],oN 17 (.app 90 4 32 (iz 4) 15 16) [2,3,2],oC 18 101 [17] [4,4],oC 19 100 [18] [5,5],oN 20 (.un .not 19) [6],oM 4 20 (7::6::up 8)] .ret)))
theorem mcOkv102:okM Tryz.prog Tryz.f102 21=some mcv102:=by kernel_rfl
theorem vc102 (a b:List Pl) (ha:a.length<=1000) (hb:b.length<=1000):FC Tryz.prog 102 [.rs 4 (a.map cPl),.rs 4 (b.map cPl)] [] (.bool (Xw a b)) [] false:=by
 refine Qg (nt:=21) Tryz.func102 rfl rfl mcOkv102 (nL rfl) ?_
 delta mcv102
 refine gA 8 rfl (cN rfl rfl (vc99 a ha) (gR 0 rfl (Qx rfl rfl rfl rfl (fun h7=>?_) (fun h7=>?_))))
 ·skip
  refine gR 12 rfl ?_
  rw [apart_1 (.inl h7)]
  exact rQ
 ·skip
  refine gR 2 rfl (cN rfl rfl (vc99 b hb) (gR 0 rfl (Qx rfl rfl rfl rfl (fun h11=>?_) (fun h11=>?_))))
  ·skip
   refine gR 8 rfl ?_
   rw [apart_1 (.inr h11)]
   exact rQ
  ·skip
   refine gR 5 rfl ?_
   have hka:=ck_len (c:=a) (by omega)
   have hkb:=ck_len (c:=b) (by omega)
   obtain ⟨hv2,_⟩:=apart_2 (a:=a) (b:=b) (by omega) (by omega)
   refine gI 1 rfl (bT (l:=[]) (els:=[]) (by kernel_rfl) (gR 1 rfl (XO (f:=cPl) (ys:=a) (n:=a.length) (rd:=[]) rfl rfl rfl rfl rfl rfl rfl (by simp) (fun _=>rfl) rfl (by omega) (by omega) (fun _=>rfl) (gR 1 rfl (Ju (f:=cPl) (xs:=a) (ys:=b) (m:=b.length) (rd:=[]) rfl rfl rfl rfl rfl rfl rfl (by simp) (fun _=>rfl) rfl rfl (by omega) (by omega) (fun _=>rfl) (gR 0 rfl (QD [17] rfl rfl (vc101 (a++b) (by rw [List.length_append]; omega)) (.cons (QW (f:=cPl) (xs:=a++b) (by simp) rfl (by simp)) (.nil)) rfl (gR 0 rfl (cN rfl rfl (vc100 (ofS [a++b]) (by rw [show ofS [a++b]=ofS [a,b] from by unfold ofS; simp]; exact OkA.of hv2) (by rw [show ofS [a++b]=ofS [a,b] from by unfold ofS; simp]; exact Ue hv2)) (gR 4 rfl ?_))))))))))
   rw [(apart_2 (a:=a) (b:=b) (by omega) (by omega)).2]
   exact rQ
def mcv205:MC:=(sq [oN 3 (.box 90 4 1) [],oN 4 (.mv (.c .nils)) []] (dq [oN 5 (.bslice 90 4 (iz 4) 0 []) [],oM 6 0 [],oN 7 (.app 90 4 32 (iz 4) 5 6) [0,1],oL 8 4 3 [],oN 9 (.bslice 90 4 (iz 4) 1 [(0,8)]) [3],oN 10 (.app 90 4 32 (iz 4) 7 9) [2,4,2],oM 4 10 (5::5::up 6)] .ret))
theorem mcOkv205:okM Tryz.prog Tryz.f205 11=some mcv205:=by kernel_rfl
theorem vc205 (c:List Pl) (p:Pl) (hc:c.length<=1000):FC Tryz.prog 205 [.rs 4 (c.map cPl),.agg (cPl p)] [] (.rs 4 ((c++[p]).map cPl)) [] false:=by
 refine Qg (nt:=11) Tryz.func205 rfl rfl mcOkv205 (nL rfl) ?_
 delta mcv205
 refine gA 7 rfl (bT (l:=[]) (els:=[]) (by kernel_rfl) (gR 1 rfl (XO (f:=cPl) (ys:=c) (n:=c.length) (rd:=[]) rfl rfl rfl rfl rfl rfl rfl (by simp) (fun _=>rfl) rfl (by omega) (by omega) (fun _=>rfl) (gR 1 rfl (bM cPl (([p]:List Pl)) (by kernel_rfl) (gR 0 rfl (Qq (f:=cPl) (xs:=c) (y:=p) (fl':=true) rfl rfl rfl rfl (rfl) rfl rfl rfl (by decide) rfl (by omega) (by omega) rfl (gR 1 rfl (Q9 (by kernel_rfl) (gP 1 rfl ?_))))))))))
 exact Qt <| Ql rfl (Q5 (f:=cPl) (xs:=c++[p]) rfl rfl (by simp) (fun _=>rfl)) .nil
end Go.Proofs.YthfhaoogcpfboaaGreat
namespace Go.Proofs.YthfhaoogcpfboaaGreat
open Go.RowKit
set_option maxRecDepth 100000
set_option linter.unusedVariables false
section
variable {H:Hp}
inductive LendR (H:Hp) (rd:List Nat):List (List AV)->List (List AV)->Prop where
 | nil:LendR H rd [] []
 | rs {z:Nat} {els:List (List AV)} {l l':List (List AV)} (r:LendR H rd l l'):LendR H rd ([.rs z els]::l) ([.rs z els]::l')
 | sl {i e z n:Nat} {els:List (List AV)} {l l':List (List AV)} (hi:i∈rd) (hg:get H i=some (.cells e z els true)) (hn:els.length=n) (r:LendR H rd l l'):LendR H rd ([.sl i 0 n]::l) ([.rs z els]::l')
theorem LendR.at_ {Hs:Hp} {rd:List Nat} {el el':List (List AV)} (h:LendR H rd el el'):el.length=el'.length/\∀ (o:Nat) (x:List AV),el'[o]?=some x->∃ v v',el[o]?=some [v]/\x=[v'] ∧
  ∀ (w:World) (S:Nat->Prop) (ρ:Rho) (c:Value),HRi (fun i=>i∈rd\/get Hs i≠none) w S ρ H->VR w S ρ v c->CR w (fun b=>S b\/(false=false/\JI ρ H (fun i=>i∈rd) b)) v' c:=by
 induction h with
 | nil=>exact ⟨rfl,fun o v' ho=>by simp at ho⟩
 | @rs z els l l' _ ih =>
  refine ⟨by simp [ih.1],fun o x ho=>?_⟩
  cases o with
  | zero=>simp at ho; subst ho; exact ⟨_,_,rfl,rfl,fun w S ρ c _ hv=>hv.rs_cr.mono (fun b hb=>.inl hb) (fun _ _ _ h=>h)⟩
  | succ o=>simpa using ih.2 o x (by simpa using ho)
 | @sl i e z n els l l' hi hg hn _ ih =>
  refine ⟨by simp [ih.1],fun o x ho=>?_⟩
  cases o with
  | zero =>
   simp at ho; subst ho
   refine ⟨_,_,rfl,rfl,fun w S ρ c hh hv=>?_⟩
   have:=hv_sl (Hs:=Hs) hi hg (j:=0) (n:=n) (by omega) (els':=els) (by rw [List.drop_zero,List.take_of_length_le (by omega)])
   exact (this w S ρ c hh hv).rs_cr
  | succ o=>simpa using ih.2 o x (by simpa using ho)
end
structure OkB (a b:List Pl):Prop where
 n:1<=b.length/\b.length<=100
 m:a.length<=100
structure OkPs (xs:List (List Pl)):Prop where
 n:xs.length<=200
 m:∀ x∈xs,x.length<=48
def sckS (s:List (List Pl)):Int:=if s.length>16 then 2 else JX s
end Go.Proofs.YthfhaoogcpfboaaGreat
namespace Go.Proofs.YthfhaoogcpfboaaGreat
open Go.RowKit
set_option maxRecDepth 100000
set_option linter.unusedVariables false
open Go.Shelf Go.Lib
theorem fl_t {α:Type} {p:α->Bool} {xs:List α} {k:Nat} {x:α} (h:xs[k]?=some x) (hp:p x=true):(xs.take (k+1)).filter p=(xs.take k).filter p++[x]:=by rw [Q3 h,List.filter_append]; simp [hp]
theorem fl_f {α:Type} {p:α->Bool} {xs:List α} {k:Nat} {x:α} (h:xs[k]?=some x) (hp:p x=false):(xs.take (k+1)).filter p=(xs.take k).filter p:=by rw [Q3 h,List.filter_append]; simp [hp]
def nearB (c x:List Pl):Bool := !Xw x c
def newS (n:Nat):Pc:=⟨List.replicate n false,List.replicate n false,[]⟩
def touS (cs:List (List Pl)) (c:List Pl):Bool := !Xz c cs
theorem ck_cut {c:List Pl} (h:CutOK c):ckS c=0:=by
 unfold ckS
 rw [if_neg (by have:=h.len; omega),if_neg]
 intro hc
 obtain ⟨p,hp,hb⟩:=List.any_eq_true.1 hc
 unfold badP at hb
 rw [h.val p hp] at hb; cases hb
theorem ckAll_cut:∀ {cs:List (List Pl)},(∀ c∈cs,CutOK c)->JX cs=0
 | [],_=>rfl
 | c::l,h=>by
  unfold JX
  rw [if_neg (fun q=>q (ck_cut (h c List.mem_cons_self)))]
  exact ckAll_cut fun x hx=>h x (List.mem_cons_of_mem _ hx)
theorem GoodP.ok {p:Pa} (h:GoodP p):PaOK p:=⟨by have:=h.n; omega,by have:=h.n; have:=h.want; omega,fun c hc=>by have:=(h.cells.ok c hc).len; omega⟩
end Go.Proofs.YthfhaoogcpfboaaGreat
namespace Go.Proofs.YthfhaoogcpfboaaGreat
open Go.RowKit
set_option maxRecDepth 100000
set_option linter.unusedVariables false
end Go.Proofs.YthfhaoogcpfboaaGreat
namespace Go.Proofs.YthfhaoogcpfboaaGreat
open Go.RowKit
set_option maxRecDepth 100000
set_option linter.unusedVariables false
def cutR (rest:List Pl) (p:Pl):List (List Pl):=if 0<(QM (rest++[Jn p])).length then [QM (rest++[Jn p])] else []
def prtR:List Pl->List Pl->List (List Pl)->List (List Pl)×Int
 | _,[],o=>(o,0)
 | rest,p::t,o=>if 48<=rest.length then ([],9) else prtR (QM (rest++[p])) t (o++cutR rest p)
theorem prtR_at {rest fs:List Pl} {o:List (List Pl)} {k:Nat} {p:Pl} (h:fs[k]?=some p):prtR rest (fs.drop k) o=if 48<=rest.length then ([],9) else prtR (QM (rest++[p])) (fs.drop (k+1)) (o++cutR rest p):=by rw [Jo h]; rfl
theorem cutR_1 {rest:List Pl} {p:Pl} (h:0<(QM (rest++[Jn p])).length):cutR rest p=[QM (rest++[Jn p])]:=if_pos h
theorem cutR_0 {rest:List Pl} {p:Pl} (h:¬ 0<(QM (rest++[Jn p])).length):cutR rest p=[]:=if_neg h
theorem leaR_snoc (rest:List Pl) (p:Pl):(QM (rest++[p])).length<=rest.length+1:=by
 have:=(leanR_sub (rest++[p])).1; rwa [Xo] at this
theorem prtR_ok:∀ (fs rest:List Pl) (o:List (List Pl)),(∀ y∈o,y.length<=48)->(prtR rest fs o).1.length<=o.length+fs.length/\∀ y∈(prtR rest fs o).1,y.length<=48
 | [],rest,o,h=>⟨Nat.le_refl _,h⟩
 | p::t,rest,o,h=>by
  unfold prtR
  split
  ·exact ⟨Nat.zero_le _,fun y hy=>by cases hy⟩
  ·rename_i h48
   have hc:(cutR rest p).length<=1/\∀ y∈cutR rest p,y.length<=48:=by
    unfold cutR
    split
    ·exact ⟨Nat.le_refl _,fun y hy=>by rw [List.mem_singleton.1 hy]; have:=leaR_snoc rest (Jn p); omega⟩
    ·exact ⟨Nat.zero_le _,fun y hy=>by cases hy⟩
   obtain ⟨h1,h2⟩:=prtR_ok t (QM (rest++[p])) (o++cutR rest p) (fun y hy=>(List.mem_append.1 hy).elim (h y) (hc.2 y))
   exact ⟨by rw [List.length_append] at h1; rw [List.length_cons]; have:=hc.1; omega,h2⟩
def wtR (q fs:List Pl):List (List Pl)->List (List Pl)->List (List Pl)×Int
 | o,[]=>if 200<o.length then ([],9) else (o,0)
 | o,x::t=>if Xw x q=true then wtR q fs (o++[x]) t else if (prtR x fs []).2≠0 then ([],(prtR x fs []).2) else wtR q fs (o++(prtR x fs []).1) t
theorem wtR_at {q fs:List Pl} {o xs:List (List Pl)} {k:Nat} {x:List Pl} (h:xs[k]?=some x):wtR q fs o (xs.drop k)=if Xw x q=true then wtR q fs (o++[x]) (xs.drop (k+1)) else if (prtR x fs []).2≠0 then ([],(prtR x fs []).2) else wtR q fs (o++(prtR x fs []).1) (xs.drop (k+1)):=by rw [Jo h]; rfl
def Uo (xs:List (List Pl)) (q:List Pl):List (List Pl)×Int:=if QO q=true then wtR q (QM q) [] xs else (xs,0)
theorem wtR_ok {q fs:List Pl}:∀ {xs o:List (List Pl)},(∀ y∈o,y.length<=48)->(∀ y∈xs,y.length<=48)->OkPs (wtR q fs o xs).1
 | [],o,ho,_=>by
  unfold wtR
  split
  ·exact ⟨Nat.zero_le _,fun y hy=>by cases hy⟩
  ·exact ⟨by show o.length<=200; omega,ho⟩
 | x::t,o,ho,hx=>by
  have ht:∀ y∈t,y.length<=48:=fun y hy=>hx y (List.mem_cons_of_mem _ hy)
  unfold wtR
  split
  ·exact wtR_ok (fun y hy=>by rcases List.mem_append.1 hy with hy | hy; exact ho y hy; rw [List.mem_singleton.1 hy]; exact hx x List.mem_cons_self) ht
  ·split
   ·exact ⟨Nat.zero_le _,fun y hy=>by cases hy⟩
   ·exact wtR_ok (fun y hy=>by rcases List.mem_append.1 hy with hy | hy; exact ho y hy; exact (prtR_ok fs x [] (fun y hy=>by cases hy)).2 y hy) ht
theorem withR_ok {xs:List (List Pl)} {q:List Pl} (h:OkPs xs):OkPs (Uo xs q).1:=by
 unfold Uo
 split
 ·exact wtR_ok (fun y hy=>by cases hy) h.m
 ·exact h
def mnR:List (List Pl)->List (List Pl)->List (List Pl)×Int
 | ps,[]=>(ps,0)
 | ps,q::t=>if (Uo ps q).2≠0 then ([],(Uo ps q).2) else mnR (Uo ps q).1 t
theorem mnR_at {ps s:List (List Pl)} {k:Nat} {q:List Pl} (h:s[k]?=some q):mnR ps (s.drop k)=if (Uo ps q).2≠0 then ([],(Uo ps q).2) else mnR (Uo ps q).1 (s.drop (k+1)):=by rw [Jo h]; rfl
def errR (c:List Pl) (s:List (List Pl)):Int:=if ckS c=0 then sckS s else ckS c
def minR (c:List Pl) (s:List (List Pl)):List (List Pl)×Int:=if errR c s≠0 then ([],errR c s) else mnR (if QO c=true then [QM c] else []) s
def covR (s:List (List Pl)) (c:List Pl):Bool×Int:=(decide ((minR c s).2=0)&&decide ((minR c s).1.length=0),(minR c s).2)
def mcv178:MC:=(sq [oN 4 (.mv (.c .nils)) [],oN 5 (.mv (cI 0)) [0]] (sq [oN 6 (.mv (.c .nils)) []] (sq [oM 10 0 [],oM 7 10 [0,0]] (.seq (sq [oN 8 (.mv (cI 0)) []] (.block 0 (.loop (.seq (sq [oM 11 8 [],oM 12 1 [],oE 13 12 [1],oB 14 .lss 11 13 [0,2]] (.cond 14 .skip (.exit 0))) (.seq (.block 1 (.seq (sq [oM 17 7 [],oE 18 17 [0],oB 19 .geq 18 (cI 48) [1]] (.cond 19 (sq [oN 4 (.mv (.c .nils)) [],oN 5 (.mv (cI 9)) [0,0]] .ret) .skip)) (sq [oM 20 7 [],oM 21 1 [],oM 22 8 [],oX 23 4 21 22 [1,2],oL 24 4 23 [3],oC 25 48 [24] [4],oC 26 205 [20,25] [0,5,5],oC 27 143 [26] [6,6],oM 9 27 (7::7::up 8)] (.seq (sq [oM 28 9 [],oE 29 28 [0],oB 30 .gtr 29 (cI 0) [1]] (.cond 30 (rg [oM 31 6 [],oM 32 9 [],oN 33 (.bslice 85 1 [.nils] 1 [(0,32)]) [1],oN 34 (.app 85 1 24 [.nils] 31 33) [0,2],oM 6 34 (3::3::up 4)]) .skip)) (rg [oM 35 7 [],oM 36 1 [],oM 37 8 [],oX 38 4 36 37 [1,2],oL 39 4 38 [3],oC 40 205 [35,39] [0,4],oC 41 143 [40] [5,5],oM 7 41 (6::6::up 7)]))))) (rg [oM 15 8 [],oB 16 .add 15 (cI 1) [0],oM 8 16 [1,0,1]])))))) (sq [oM 42 6 [],oM 4 42 [0,0],oN 5 (.mv (cI 0)) [1,0,1]] .ret)))))
theorem mcOkv178:okM Tryz.prog Tryz.f178 43=some mcv178:=by kernel_rfl
theorem vc178 (x fs:List Pl) (hx:x.length<=48) (hf:fs.length<=100) (hfs:∀ p∈fs,-9223372036854775807<=p.b/\p.b<=9223372036854775807):FC Tryz.prog 178 [.rs 4 (x.map cPl),.rs 4 (fs.map cPl)] [] (.tup [.rs 1 ((prtR x fs []).1.map cR),iv (prtR x fs []).2]) [] true:=by
 refine Qg (nt:=43) Tryz.func178 rfl rfl mcOkv178 (nL rfl) ?_
 delta mcv178
 refine gA 20 rfl ?_
 refine Qo (α:=Nat×List Pl×List (List Pl)) (fun u=>fs.length-u.1) (fun u=>[(1,.rs 4 (fs.map cPl)),(6,.sl 901 0 (u.2.2).length),(7,.rs 4 ((u.2.1).map cPl)),(8,iv (((u.1):Nat):Int))]) (fun u=>[(901,.cells 85 1 ((u.2.2).map cR) true)]) (fun u=>u.1<=fs.length/\prtR u.2.1 (fs.drop u.1) u.2.2=prtR x fs []/\u.2.1.length<=48/\u.2.2.length<=u.1) (0,x,[]) (⟨by omega,rfl,hx,Nat.le_refl _⟩)
  (Qb (.cs (.cons rfl (Xj rfl rfl) (.cs (.cs (.nil))))) (.virt rfl (.nil)) (fun i h=>by cases h)) ?_
 rintro ⟨k,rest,o⟩ ⟨hk,hinv,hrl,hol⟩
 dsimp only at hk hinv hrl hol ⊢
 refine gT 5 rfl (Qe rfl rfl (gR 2 rfl (Qc rfl (fun h14=>?_) (fun h14=>?_))))
 ·replace h14:=of_decide_eq_true h14
  refine gK 5 rfl ?_
  obtain ⟨p,hpk,hpm⟩:=Qk (L:=fs) (k:=k) (by omega)
  rw [prtR_at hpk] at hinv
  refine gI 2 rfl (Qe rfl rfl (gR 0 rfl (XZ rfl rfl rfl (gR 1 rfl (Qc rfl (fun h19=>?_) (fun h19=>?_))))))
  ·replace h19:=of_decide_eq_true h19
   refine gK 6 rfl ?_
   rw [if_pos (by omega)] at hinv
   rw [← hinv]
   exact Qt <| Ql rfl (QI (.cons Qy (.cons sm .nil))) .nil
  ·replace h19:=of_decide_eq_false h19
   refine gK 6 rfl (Qi (f:=cPl) (y:=p) rfl rfl rfl (by omega) hpk (gR 0 rfl (Q8 (cs:=cPl p) rfl rfl (nL rfl) rfl (gR 0 rfl (cN rfl rfl (vc48 p (hfs p hpm)) (gR 0 rfl (cN rfl rfl (vc205 rest (Jn p) (by omega)) (gR 0 rfl (Qr [] rfl rfl (vc143 (rest++[Jn p]) ⟨by rw [Xo]; omega⟩) (.cons (Qd rfl) (.nil)) (.nil) rfl rfl rfl (gR 6 rfl (Qe rfl rfl ?_)))))))))))
   refine gR 0 rfl (Ua rfl rfl rfl (gR 1 rfl (Qc rfl (fun h30=>?_) (fun h30=>?_))))
   ·replace h30:=of_decide_eq_true h30
    refine gK 3 rfl (bM cR (([QM (rest++[Jn p])]:List (List Pl))) (by kernel_rfl) (gR 0 rfl (Qq (f:=cR) (xs:=o) (y:=QM (rest++[Jn p])) (fl':=true) rfl rfl rfl rfl (rfl) rfl rfl rfl (by decide) rfl (by omega) (by omega) rfl (gR 6 rfl (Qi (f:=cPl) (y:=p) rfl rfl rfl (by omega) hpk (gR 0 rfl (Q8 (cs:=cPl p) rfl rfl (nL rfl) rfl (gR 0 rfl (cN rfl rfl (vc205 rest p (by omega)) (gR 0 rfl (Qr [] rfl rfl (vc143 (rest++[p]) ⟨by rw [Xo]; omega⟩) (.cons (Qd rfl) (.nil)) (.nil) rfl rfl rfl ?_)))))))))))
    refine gR 4 rfl (Qf rfl rfl rfl (by omega) (gR 2 rfl ?_))
    rw [if_neg (by omega)] at hinv
    rw [cutR_1 (by omega)] at hinv
    exact Qz <| ⟨(k+1,QM (rest++[p]),o++[QM (rest++[Jn p])]),⟨by dsimp only; omega,hinv,by have:=leaR_snoc rest p; dsimp only; omega,by dsimp only; rw [Xo]; omega⟩,by dsimp only; omega,by rw [Xo]; exact QB (i:=34) (i':=901) (F1:=[(1,.rs 4 (fs.map cPl)),(6,.sl 34 0 (o.length+1)),(7,.rs 4 ((QM (rest++[p])).map cPl)),(8,iv (((k+1):Nat):Int))]) (H1:=[(34,.cells 85 1 ((o++[QM (rest++[Jn p])]).map cR) true)]) (Qa rfl rfl) (.keep rfl rfl .nil) nz rfl rfl (.cons rfl (.same _) (.cons rfl (.sl _ _) (.cons rfl (.same _) (.cons rfl (.same _) (.nil))))) (Qa rfl rfl) (.keep rfl rfl .nil) nz⟩
   ·replace h30:=of_decide_eq_false h30
    refine gK 5 rfl (Qi (f:=cPl) (y:=p) rfl rfl rfl (by omega) hpk (gR 0 rfl (Q8 (cs:=cPl p) rfl rfl (nL rfl) rfl (gR 0 rfl (cN rfl rfl (vc205 rest p (by omega)) (gR 0 rfl (Qr [] rfl rfl (vc143 (rest++[p]) ⟨by rw [Xo]; omega⟩) (.cons (Qd rfl) (.nil)) (.nil) rfl rfl rfl (gR 4 rfl (Qf rfl rfl rfl (by omega) (gR 2 rfl ?_))))))))))
    rw [if_neg (by omega)] at hinv
    rw [cutR_0 (by omega),List.append_nil] at hinv
    exact Qz <| ⟨(k+1,QM (rest++[p]),o),⟨by dsimp only; omega,hinv,by have:=leaR_snoc rest p; dsimp only; omega,by dsimp only; omega⟩,by dsimp only; omega,Qb (Qa rfl rfl) (.keep rfl rfl .nil) nz⟩
 ·replace h14:=of_decide_eq_false h14
  refine gK 8 rfl ?_
  rw [show prtR x fs []=(o,0) from by rw [← hinv,List.drop_eq_nil_of_le (by omega)]; rfl]
  exact Qt <| Ql rfl (QI (.cons (Xu (f:=cR) (xs:=o) rfl rfl rfl) (.cons sm .nil))) .nil
def mcv144:MC:=(sq [oN 4 (.mv (.c .nils)) [],oN 5 (.mv (cI 0)) [0]] (.seq (sq [oM 10 1 [],oC 11 49 [10] [0],oN 12 (.un .not 11) [1]] (.cond 12 (sq [oM 13 0 [],oM 4 13 [0,0],oN 5 (.mv (cI 0)) [1,0,1]] .ret) .skip)) (sq [oN 6 (.mv (.c .nils)) []] (.seq (sq [oN 7 (.mv (cI 0)) []] (.block 0 (.loop (.seq (sq [oM 14 7 [],oM 15 0 [],oE 16 15 [1],oB 17 .lss 14 16 [0,2]] (.cond 17 .skip (.exit 0))) (.seq (.block 1 (.seq (sq [oM 20 0 [],oM 21 7 [],oX 22 1 20 21 [0,1],oD 23 1 22 [2],oM 24 1 [],oC 25 102 [23,24] [3,4]] (.cond 25 (sq [oM 26 6 [],oM 27 0 [],oM 28 7 [],oX 29 1 27 28 [1,2],oD 30 1 29 [3],oN 31 (.bslice 85 1 [.nils] 1 [(0,30)]) [4],oN 32 (.app 85 1 24 [.nils] 26 31) [0,5],oM 6 32 (6::6::up 7)] (.exit 1)) .skip)) (dq [oM 34 0 [],oM 35 7 [],oX 36 1 34 35 [0,1],oD 37 1 36 [2],oM 38 1 [],oC 39 143 [38] [4],oC 40 178 [37,39] [3,5,5],oM 33 40 [6],oN 41 (.ext 33 0) [7],oN 42 (.ext 33 1) [7],oM 8 41 (8::6::up 9),oM 9 42 (9::10::up 11)] (.seq (sq [oM 43 9 [],oB 44 .neq 43 (cI 0) [0]] (.cond 44 (sq [oM 45 9 [],oN 4 (.mv (.c .nils)) [],oM 5 45 [0,1,0,1]] .ret) .skip)) (rg [oM 46 6 [],oM 47 8 [],oN 48 (.app 85 1 24 [.nils] 46 47) [0,1],oM 6 48 [2,2,0,1,2]]))))) (rg [oM 18 7 [],oB 19 .add 18 (cI 1) [0],oM 7 19 [1,0,1]])))))) (.seq (sq [oM 49 6 [],oE 50 49 [0],oB 51 .gtr 50 (cI 200) [1]] (.cond 51 (sq [oN 4 (.mv (.c .nils)) [],oN 5 (.mv (cI 9)) [0,0]] .ret) .skip)) (sq [oM 52 6 [],oM 4 52 [0,0],oN 5 (.mv (cI 0)) [1,0,1]] .ret))))))
theorem mcOkv144:okM Tryz.prog Tryz.f144 53=some mcv144:=by kernel_rfl
theorem vc144 (xs:List (List Pl)) (hx:OkPs xs) (q:List Pl) (hq:OkC q):FC Tryz.prog 144 [.rs 1 (xs.map cR),.rs 4 (q.map cPl)] [] (.tup [.rs 1 ((Uo xs q).1.map cR),iv (Uo xs q).2]) [] true:=by
 have hxn:=hx.n
 have hqn:=hq.n
 have hln:=(leanR_sub q).1
 refine Qg (nt:=53) Tryz.func144 rfl rfl mcOkv144 (nL rfl) ?_
 delta mcv144
 refine gA 9 rfl (cN rfl rfl (vc49 q (by omega)) ?_)
 cases h11:QO q
 ·skip
  refine gR 10 rfl ?_
  rw [show Uo xs q=(xs,0) from by unfold Uo; rw [h11]; rfl]
  exact Qt <| Ql rfl (QI (.cons sm (.cons sm .nil))) .nil
 ·skip
  refine gR 5 rfl ?_
  have hfs:∀ p∈QM q,-9223372036854775807<=p.b/\p.b<=9223372036854775807:=fun p hp=>by
   have hv:Xm [q]=true:=by unfold QO at h11; exact (Bool.and_eq_true _ _ ▸ h11).1
   have:=(JR ((valid_all hv q (by simp)).2 p ((leanR_sub q).2 p hp))).2
   omega
  refine gI 9 rfl ?_
  refine Qo (α:=Nat×List (List Pl)) (fun u=>xs.length-u.1) (fun u=>[(0,.rs 1 (xs.map cR)),(1,.rs 4 (q.map cPl)),(6,.sl 901 0 (u.2).length),(7,iv (((u.1):Nat):Int))]) (fun u=>[(901,.cells 85 1 ((u.2).map cR) true)]) (fun u=>u.1<=xs.length/\wtR q (QM q) u.2 (xs.drop u.1)=wtR q (QM q) [] xs/\u.2.length<=u.1*101) (0,[]) (⟨by omega,rfl,by simp⟩)
   (Qb (.cs (.cs (.cons rfl (Xj rfl rfl) (.cs (.nil))))) (.virt rfl (.nil)) (fun i h=>by cases h)) ?_
  rintro ⟨k,o⟩ ⟨hk,hinv,hol⟩
  dsimp only at hk hinv hol ⊢
  refine gT 5 rfl (Qe rfl rfl (gR 2 rfl (Qc rfl (fun h17=>?_) (fun h17=>?_))))
  ·replace h17:=of_decide_eq_true h17
   refine gK 5 rfl ?_
   obtain ⟨x,hxk,hxm⟩:=Qk (L:=xs) (k:=k) (by omega)
   rw [wtR_at hxk] at hinv
   have hpl:=(prtR_ok (QM q) x [] (fun y hy=>by cases hy)).1
   rw [List.length_nil] at hpl
   refine gI 3 rfl (Qi (f:=cR) (y:=x) rfl rfl rfl (by omega) hxk (gR 2 rfl (cN rfl rfl (vc102 x q (by have:=hx.m x hxm; omega) (by omega)) ?_)))
   cases h25:Xw x q
   ·skip
    refine gR 7 rfl (Qi (f:=cR) (y:=x) rfl rfl rfl (by omega) hxk (gR 2 rfl (Qr [] rfl rfl (vc143 q hq) (.cons (Qd rfl) (.nil)) (.nil) rfl rfl rfl (gR 0 rfl (Qr [] rfl rfl (vc178 x (QM q) (hx.m x hxm) (by omega) hfs) (.cons (Qd rfl) (.cons (Qd rfl) (.nil))) (.nil) rfl rfl rfl (gR 5 rfl (Q9 (by kernel_rfl) (gP 4 rfl (Xv rfl rfl rfl (gR 1 rfl (Qc rfl (fun h44=>?_) (fun h44=>?_))))))))))))
    ·replace h44:=of_decide_eq_true h44
     refine gK 7 rfl ?_
     rw [if_neg (by rw [h25]; decide),if_pos h44] at hinv
     rw [show Uo xs q=wtR q (QM q) [] xs from if_pos h11,← hinv]
     exact Qt <| Ql rfl (QI (.cons Qy (.cons sm .nil))) .nil
    ·replace h44:=of_decide_eq_false h44
     refine gK 4 rfl (Ju (f:=cR) (xs:=o) (ys:=(prtR x (QM q) []).1) (m:=(prtR x (QM q) []).1.length) (rd:=[]) rfl rfl rfl rfl rfl rfl rfl (by simp) (fun _=>rfl) rfl rfl (by omega) (by omega) (fun _=>rfl) (gR 4 rfl (Qf rfl rfl rfl (by omega) (gR 2 rfl ?_))))
     rw [if_neg (by rw [h25]; decide),if_neg (fun h=>h44 h)] at hinv
     exact Qz <| ⟨(k+1,o++(prtR x (QM q) []).1),⟨by dsimp only; omega,hinv,by dsimp only; rw [List.length_append]; omega⟩,by dsimp only; omega,by rw [List.length_append]; exact QB (i:=48) (i':=901) (F1:=[(0,.rs 1 (xs.map cR)),(1,.rs 4 (q.map cPl)),(6,.sl 48 0 (o.length+(prtR x (QM q) []).1.length)),(7,iv (((k+1):Nat):Int))]) (H1:=[(48,.cells 85 1 ((o++(prtR x (QM q) []).1).map cR) true)]) (Qa rfl rfl) (.keep rfl rfl .nil) nz rfl rfl (.cons rfl (.same _) (.cons rfl (.same _) (.cons rfl (.sl _ _) (.cons rfl (.same _) (.nil))))) (Qa rfl rfl) (.keep rfl rfl .nil) nz⟩
   ·skip
    refine gR 7 rfl (Qi (f:=cR) (y:=x) rfl rfl rfl (by omega) hxk (gR 1 rfl (bM cR (([x]:List (List Pl))) (by kernel_rfl) (gR 0 rfl (Qq (f:=cR) (xs:=o) (y:=x) (fl':=true) rfl rfl rfl rfl (rfl) rfl rfl rfl (by decide) rfl (by omega) (by omega) rfl (gR 5 rfl (Qf rfl rfl rfl (by omega) (gR 2 rfl ?_))))))))
    rw [if_pos h25] at hinv
    exact Qz <| ⟨(k+1,o++[x]),⟨by dsimp only; omega,hinv,by dsimp only; rw [Xo]; omega⟩,by dsimp only; omega,by rw [Xo]; exact QB (i:=32) (i':=901) (F1:=[(0,.rs 1 (xs.map cR)),(1,.rs 4 (q.map cPl)),(6,.sl 32 0 (o.length+1)),(7,iv (((k+1):Nat):Int))]) (H1:=[(32,.cells 85 1 ((o++[x]).map cR) true)]) (Qa rfl rfl) (.keep rfl rfl .nil) nz rfl rfl (.cons rfl (.same _) (.cons rfl (.same _) (.cons rfl (.sl _ _) (.cons rfl (.same _) (.nil))))) (Qa rfl rfl) (.keep rfl rfl .nil) nz⟩
  ·replace h17:=of_decide_eq_false h17
   refine gK 5 rfl (QC rfl rfl (gR 0 rfl (Ua rfl rfl rfl (gR 1 rfl (Qc rfl (fun h51=>?_) (fun h51=>?_))))))
   ·replace h51:=of_decide_eq_true h51
    refine gK 6 rfl ?_
    rw [List.drop_eq_nil_of_le (by omega)] at hinv
    rw [show Uo xs q=wtR q (QM q) [] xs from if_pos h11,← hinv,show wtR q (QM q) o []=([],9) from if_pos (by omega)]
    exact Qt <| Ql rfl (QI (.cons Qy (.cons sm .nil))) .nil
   ·replace h51:=of_decide_eq_false h51
    refine gK 8 rfl ?_
    rw [List.drop_eq_nil_of_le (by omega)] at hinv
    rw [show Uo xs q=wtR q (QM q) [] xs from if_pos h11,← hinv,show wtR q (QM q) o []=(o,0) from if_neg (by omega)]
    exact Qt <| Ql rfl (QI (.cons (Xu (f:=cR) (xs:=o) rfl rfl rfl) (.cons sm .nil))) .nil
def mcv142:MC:=(sq [oN 2 (.mv (cI 0)) []] (.seq (sq [oM 5 0 [],oE 6 5 [0],oB 7 .gtr 6 (cI 16) [1]] (.cond 7 (sq [oN 2 (.mv (cI 2)) []] .ret) .skip)) (.seq (sq [oN 3 (.mv (cI 0)) []] (.block 0 (.loop (.seq (sq [oM 8 3 [],oM 9 0 [],oE 10 9 [1],oB 11 .lss 8 10 [0,2]] (.cond 11 .skip (.exit 0))) (.seq (.block 1 (sq [oM 14 0 [],oM 15 3 [],oX 16 1 14 15 [0,1],oD 17 1 16 [2],oC 18 99 [17] [3],oM 4 18 (4::4::up 5)] (sq [oM 19 4 [],oB 20 .neq 19 (cI 0) [0]] (.cond 20 (sq [oM 21 4 [],oM 2 21 [0,0]] .ret) .skip)))) (rg [oM 12 3 [],oB 13 .add 12 (cI 1) [0],oM 3 13 [1,0,1]])))))) (sq [oN 2 (.mv (cI 0)) []] .ret))))
theorem mcOkv142:okM Tryz.prog Tryz.f142 22=some mcv142:=by kernel_rfl
theorem vc142 (l:List (List Pl)) (hc:∀ c∈l,c.length<=1000):FC Tryz.prog 142 [.rs 1 (l.map cR)] [] (iv (sckS l)) [] false:=by
 refine Qg (nt:=22) Tryz.func142 rfl rfl mcOkv142 (nL rfl) ?_
 delta mcv142
 refine gA 8 rfl (Qe rfl rfl (gR 0 rfl (Ua rfl rfl rfl (gR 1 rfl (Qc rfl (fun h7=>?_) (fun h7=>?_))))))
 ·replace h7:=of_decide_eq_true h7
  refine gK 5 rfl ?_
  rw [show sckS l=2 from if_pos (by omega)]
  exact rQ
 ·replace h7:=of_decide_eq_false h7
  refine gK 7 rfl ?_
  refine Qo (α:=Nat) (fun k=>l.length-k) (fun k=>[(0,.rs 1 (l.map cR)),(3,iv (((k):Nat):Int))]) (fun k=>[]) (fun k=>k<=l.length/\JX (l.drop k)=JX l) 0 (⟨by omega,rfl⟩)
   (Qb (Qa rfl rfl) (.nil) (fun i h=>by cases h)) ?_
  rintro k ⟨hk,hinv⟩
  refine gT 5 rfl (Qe rfl rfl (gR 2 rfl (Qc rfl (fun h11=>?_) (fun h11=>?_))))
  ·replace h11:=of_decide_eq_true h11
   refine gK 7 rfl ?_
   obtain ⟨c,hck,hcm⟩:=Qk (L:=l) (k:=k) (by omega)
   rw [ckAll_at hck] at hinv
   refine Qi (f:=cR) (y:=c) rfl rfl rfl (by omega) hck (gR 1 rfl (cN rfl rfl (vc99 c (hc c hcm)) (gR 5 rfl (Xv rfl rfl rfl (gR 1 rfl (Qc rfl (fun h20=>?_) (fun h20=>?_)))))))
   ·replace h20:=of_decide_eq_true h20
    refine gK 6 rfl ?_
    rw [if_pos h20] at hinv
    rw [show sckS l=JX l from if_neg (by omega),← hinv]
    exact rQ
   ·replace h20:=of_decide_eq_false h20
    refine gK 3 rfl (Qf rfl rfl rfl (by omega) (gR 2 rfl ?_))
    rw [if_neg h20] at hinv
    exact Qz <| ⟨k+1,⟨by omega,hinv⟩,by omega,Qb (Qa rfl rfl) (.nil) (fun i h=>by cases h)⟩
  ·replace h11:=of_decide_eq_false h11
   refine gK 6 rfl ?_
   rw [show sckS l=JX l from if_neg (by omega),show JX l=0 from by rw [← hinv,List.drop_eq_nil_of_le (by omega)]; rfl]
   exact rQ
def mcv52:MC:=(sq [oN 2 (.mv (cI 0)) []] (.seq (sq [oN 3 (.mv (cI 0)) []] (.block 0 (.loop (.seq (sq [oM 5 3 [],oM 6 0 [],oE 7 6 [1],oB 8 .lss 5 7 [0,2]] (.cond 8 .skip (.exit 0))) (.seq (.block 1 (sq [oM 11 0 [],oM 12 3 [],oX 13 1 11 12 [0,1],oD 14 1 13 [2],oC 15 99 [14] [3],oM 4 15 (4::4::up 5)] (sq [oM 16 4 [],oB 17 .neq 16 (cI 0) [0]] (.cond 17 (sq [oM 18 4 [],oM 2 18 [0,0]] .ret) .skip)))) (rg [oM 9 3 [],oB 10 .add 9 (cI 1) [0],oM 3 10 [1,0,1]])))))) (sq [oN 2 (.mv (cI 0)) []] .ret)))
theorem mcOkv52:okM Tryz.prog Tryz.f52 19=some mcv52:=by kernel_rfl
theorem vc52 (l:List (List Pl)) (hl:l.length<=1000000) (hc:∀ c∈l,c.length<=1000):FC Tryz.prog 52 [.rs 1 (l.map cR)] [] (iv (JX l)) [] false:=by
 refine Qg (nt:=19) Tryz.func52 rfl rfl mcOkv52 (nL rfl) ?_
 delta mcv52
 refine gA 10 rfl ?_
 refine Qo (α:=Nat) (fun k=>l.length-k) (fun k=>[(0,.rs 1 (l.map cR)),(3,iv (((k):Nat):Int))]) (fun k=>[]) (fun k=>k<=l.length/\JX (l.drop k)=JX l) 0 (⟨by omega,rfl⟩)
  (Qb (Qa rfl rfl) (.nil) (fun i h=>by cases h)) ?_
 rintro k ⟨hk,hinv⟩
 refine gT 5 rfl (Qe rfl rfl (gR 2 rfl (Qc rfl (fun h8=>?_) (fun h8=>?_))))
 ·replace h8:=of_decide_eq_true h8
  refine gK 7 rfl ?_
  obtain ⟨c,hck,hcm⟩:=Qk (L:=l) (k:=k) (by omega)
  rw [ckAll_at hck] at hinv
  refine Qi (f:=cR) (y:=c) rfl rfl rfl (by omega) hck (gR 1 rfl (cN rfl rfl (vc99 c (hc c hcm)) (gR 5 rfl (Xv rfl rfl rfl (gR 1 rfl (Qc rfl (fun h17=>?_) (fun h17=>?_)))))))
  ·replace h17:=of_decide_eq_true h17
   refine gK 6 rfl ?_
   rw [if_pos h17] at hinv
   rw [← hinv]
   exact rQ
  ·replace h17:=of_decide_eq_false h17
   refine gK 3 rfl (Qf rfl rfl rfl (by omega) (gR 2 rfl ?_))
   rw [if_neg h17] at hinv
   exact Qz <| ⟨k+1,⟨by omega,hinv⟩,by omega,Qb (Qa rfl rfl) (.nil) (fun i h=>by cases h)⟩
 ·replace h8:=of_decide_eq_false h8
  refine gK 6 rfl ?_
  rw [show JX l=0 from by rw [← hinv,List.drop_eq_nil_of_le (by omega)]; rfl]
  exact rQ
def mcv103:MC:=(sq [oN 4 (.mv (.c .nils)) [],oN 5 (.mv (cI 0)) [0]] (sq [oM 11 0 [],oC 12 99 [11] [0],oM 6 12 [1,1,0,1]] (.seq (sq [oM 13 6 [],oB 14 .eql 13 (cI 0) [0]] (.cond 14 (rg [oM 15 1 [],oC 16 142 [15] [0],oM 6 16 [1,1,0,1]]) .skip)) (.seq (sq [oM 17 6 [],oB 18 .neq 17 (cI 0) [0]] (.cond 18 (sq [oM 19 6 [],oN 4 (.mv (.c .nils)) [],oM 5 19 [0,1,0,1]] .ret) .skip)) (sq [oN 7 (.mv (.c .nils)) []] (.seq (sq [oM 20 0 [],oC 21 49 [20] [0]] (.cond 21 (rg [oM 22 7 [],oM 23 0 [],oC 24 143 [23] [1],oN 25 (.bslice 85 1 [.nils] 1 [(0,24)]) [2],oN 26 (.app 85 1 24 [.nils] 22 25) [0,3,2],oM 7 26 (4::4::up 5)]) .skip)) (.seq (sq [oN 8 (.mv (cI 0)) []] (.block 0 (.loop (.seq (sq [oM 27 8 [],oM 28 1 [],oE 29 28 [1],oB 30 .lss 27 29 [0,2]] (.cond 30 .skip (.exit 0))) (.seq (.block 1 (sq [oM 34 7 [],oM 35 1 [],oM 36 8 [],oX 37 1 35 36 [1,2],oD 38 1 37 [3],oC 39 144 [34,38] [0,4],oM 33 39 [5],oN 40 (.ext 33 0) [6],oN 41 (.ext 33 1) [6],oM 9 40 (7::5::up 8),oM 10 41 (8::9::up 10)] (.seq (sq [oM 42 10 [],oB 43 .neq 42 (cI 0) [0]] (.cond 43 (sq [oM 44 10 [],oN 4 (.mv (.c .nils)) [],oM 5 44 [0,1,0,1]] .ret) .skip)) (rg [oM 45 9 [],oM 7 45 [0,0]])))) (rg [oM 31 8 [],oB 32 .add 31 (cI 1) [0],oM 8 32 [1,0,1]])))))) (sq [oM 46 7 [],oM 4 46 [0,0],oN 5 (.mv (cI 0)) [1,0,1]] .ret))))))))
theorem mcOkv103:okM Tryz.prog Tryz.f103 47=some mcv103:=by kernel_rfl
theorem vc103 (c:List Pl) (hc:OkC c) (s:List (List Pl)) (hs:∀ q∈s,OkC q) (hsl:s.length<=1000):FC Tryz.prog 103 [.rs 4 (c.map cPl),.rs 1 (s.map cR)] [] (.tup [.rs 1 ((minR c s).1.map cR),iv (minR c s).2]) [] true:=by
 have hcn:=hc.n
 refine Qg (nt:=47) Tryz.func103 rfl rfl mcOkv103 (nL rfl) ?_
 delta mcv103
 refine gA 8 rfl (cN rfl rfl (vc99 c (by omega)) (gR 6 rfl (Ub rfl rfl rfl (gR 1 rfl (Qc rfl (fun h14=>?_) (fun h14=>?_))))))
 ·replace h14:=of_decide_eq_true h14
  refine gK 2 rfl (cN rfl rfl (vc142 s (fun q hq=>Nat.le_trans (hs q hq).n.2 (by decide))) (gR 6 rfl (Xv rfl rfl rfl (gR 1 rfl (Qc rfl (fun h18=>?_) (fun h18=>?_))))))
  ·replace h18:=of_decide_eq_true h18
   refine gK 7 rfl ?_
   rw [show minR c s=([],errR c s) from if_pos (by rw [show errR c s=sckS s from if_pos (by omega)]; omega),show errR c s=sckS s from if_pos (by omega)]
   exact Qt <| Ql rfl (QI (.cons Qy (.cons sm .nil))) .nil
  ·replace h18:=of_decide_eq_false h18
   refine gK 9 rfl (cN rfl rfl (vc49 c (by omega)) ?_)
   cases h21:QO c
   ·skip
    refine gR 5 rfl ?_
    have hp0:OkPs []:=⟨Nat.zero_le _,fun x hx=>by cases hx⟩
    refine gI 4 rfl ?_
    refine Qo (α:=Nat×List (List Pl)) (fun u=>s.length-u.1) (fun u=>[(1,.rs 1 (s.map cR)),(7,.rs 1 ((u.2).map cR)),(8,iv (((u.1):Nat):Int))]) (fun u=>[]) (fun u=>u.1<=s.length/\mnR u.2 (s.drop u.1)=mnR ([]:List (List Pl)) s/\OkPs u.2) (0,([]:List (List Pl))) (⟨by omega,rfl,hp0⟩)
     (Qb (.cs (.cons rfl (Qy) (.cs (.nil)))) (.nil) (fun i h=>by cases h)) ?_
    rintro ⟨k,ps⟩ ⟨hk,hinv,hps⟩
    dsimp only at hk hinv hps ⊢
    refine gT 5 rfl (Qe rfl rfl (gR 2 rfl (Qc rfl (fun h30=>?_) (fun h30=>?_))))
    ·replace h30:=of_decide_eq_true h30
     refine gK 4 rfl ?_
     obtain ⟨q,hqk,hqm⟩:=Qk (L:=s) (k:=k) (by omega)
     rw [mnR_at hqk] at hinv
     refine gI 4 rfl (Qi (f:=cR) (y:=q) rfl rfl rfl (by omega) hqk (gR 1 rfl (Qr [] rfl rfl (vc144 ps hps q (hs q hqm)) (.cons (Qd rfl) (.cons (Qd rfl) (.nil))) (.nil) rfl rfl rfl (gR 10 rfl (Xv rfl rfl rfl (gR 1 rfl (Qc rfl (fun h43=>?_) (fun h43=>?_))))))))
     ·replace h43:=of_decide_eq_true h43
      refine gK 7 rfl ?_
      rw [show minR c s=mnR (if QO c=true then [QM c] else []) s from if_neg (by rw [show errR c s=sckS s from if_pos (by omega)]; omega)]
      rw [if_neg (by rw [h21]; decide)]
      rw [if_pos h43] at hinv
      rw [← hinv]
      exact Qt <| Ql rfl (QI (.cons Qy (.cons sm .nil))) .nil
     ·replace h43:=of_decide_eq_false h43
      refine gK 7 rfl (Qf rfl rfl rfl (by omega) (gR 2 rfl ?_))
      rw [if_neg h43] at hinv
      exact Qz <| ⟨(k+1,(Uo ps q).1),⟨by dsimp only; omega,hinv,withR_ok hps⟩,by dsimp only; omega,Qb (Qa rfl rfl) (.nil) (fun i h=>by cases h)⟩
    ·replace h30:=of_decide_eq_false h30
     refine gK 8 rfl ?_
     rw [show minR c s=mnR (if QO c=true then [QM c] else []) s from if_neg (by rw [show errR c s=sckS s from if_pos (by omega)]; omega)]
     rw [if_neg (by rw [h21]; decide)]
     rw [← hinv,List.drop_eq_nil_of_le (by omega)]
     exact Qt <| Ql rfl (QI (.cons sm (.cons sm .nil))) .nil
   ·skip
    refine gR 5 rfl (Qr [] rfl rfl (vc143 c hc) (.cons (Qd rfl) (.nil)) (.nil) rfl rfl rfl (gR 0 rfl (bM cR (([QM c]:List (List Pl))) (by kernel_rfl) (gR 0 rfl (rs_app_nm (f:=cR) (xs:=([QM c]:List (List Pl))) (n:=1) (rd:=[25]) rfl rfl rfl rfl rfl rfl (fun _=>rfl) rfl (by decide) (by decide) (fun _=>rfl) (gR 4 rfl ?_))))))
    have hp0:OkPs [QM c]:=⟨nL rfl,fun x hx=>by rw [List.mem_singleton.1 hx]; have:=(leanR_sub c).1; have:=ck_len (c:=c) (by omega); omega⟩
    refine gI 4 rfl ?_
    refine Qo (α:=Nat×List (List Pl)) (fun u=>s.length-u.1) (fun u=>[(1,.rs 1 (s.map cR)),(7,.rs 1 ((u.2).map cR)),(8,iv (((u.1):Nat):Int))]) (fun u=>[]) (fun u=>u.1<=s.length/\mnR u.2 (s.drop u.1)=mnR ([QM c]:List (List Pl)) s/\OkPs u.2) (0,([QM c]:List (List Pl))) (⟨by omega,rfl,hp0⟩)
     (Qb (.cs (.cons rfl (Xu (f:=cR) (xs:=([QM c]:List (List Pl))) rfl rfl rfl) (.cs (.nil)))) (.nil) (fun i h=>by cases h)) ?_
    rintro ⟨k,ps⟩ ⟨hk,hinv,hps⟩
    dsimp only at hk hinv hps ⊢
    refine gT 5 rfl (Qe rfl rfl (gR 2 rfl (Qc rfl (fun h30=>?_) (fun h30=>?_))))
    ·replace h30:=of_decide_eq_true h30
     refine gK 4 rfl ?_
     obtain ⟨q,hqk,hqm⟩:=Qk (L:=s) (k:=k) (by omega)
     rw [mnR_at hqk] at hinv
     refine gI 4 rfl (Qi (f:=cR) (y:=q) rfl rfl rfl (by omega) hqk (gR 1 rfl (Qr [] rfl rfl (vc144 ps hps q (hs q hqm)) (.cons (Qd rfl) (.cons (Qd rfl) (.nil))) (.nil) rfl rfl rfl (gR 10 rfl (Xv rfl rfl rfl (gR 1 rfl (Qc rfl (fun h43=>?_) (fun h43=>?_))))))))
     ·replace h43:=of_decide_eq_true h43
      refine gK 7 rfl ?_
      rw [show minR c s=mnR (if QO c=true then [QM c] else []) s from if_neg (by rw [show errR c s=sckS s from if_pos (by omega)]; omega)]
      rw [if_pos h21]
      rw [if_pos h43] at hinv
      rw [← hinv]
      exact Qt <| Ql rfl (QI (.cons Qy (.cons sm .nil))) .nil
     ·replace h43:=of_decide_eq_false h43
      refine gK 7 rfl (Qf rfl rfl rfl (by omega) (gR 2 rfl ?_))
      rw [if_neg h43] at hinv
      exact Qz <| ⟨(k+1,(Uo ps q).1),⟨by dsimp only; omega,hinv,withR_ok hps⟩,by dsimp only; omega,Qb (Qa rfl rfl) (.nil) (fun i h=>by cases h)⟩
    ·replace h30:=of_decide_eq_false h30
     refine gK 8 rfl ?_
     rw [show minR c s=mnR (if QO c=true then [QM c] else []) s from if_neg (by rw [show errR c s=sckS s from if_pos (by omega)]; omega)]
     rw [if_pos h21]
     rw [← hinv,List.drop_eq_nil_of_le (by omega)]
     exact Qt <| Ql rfl (QI (.cons sm (.cons sm .nil))) .nil
 ·replace h14:=of_decide_eq_false h14
  refine gK 5 rfl (Xv rfl rfl rfl (gR 1 rfl (Qc rfl (fun h18=>?_) (fun h18=>?_))))
  ·replace h18:=of_decide_eq_true h18
   refine gK 7 rfl ?_
   rw [show minR c s=([],errR c s) from if_pos (by rw [show errR c s=ckS c from if_neg (by omega)]; omega),show errR c s=ckS c from if_neg (by omega)]
   exact Qt <| Ql rfl (QI (.cons Qy (.cons sm .nil))) .nil
  ·replace h18:=of_decide_eq_false h18
   refine gK 9 rfl (cN rfl rfl (vc49 c (by omega)) ?_)
   cases h21:QO c
   ·skip
    refine gR 5 rfl ?_
    have hp0:OkPs []:=⟨Nat.zero_le _,fun x hx=>by cases hx⟩
    refine gI 4 rfl ?_
    refine Qo (α:=Nat×List (List Pl)) (fun u=>s.length-u.1) (fun u=>[(1,.rs 1 (s.map cR)),(7,.rs 1 ((u.2).map cR)),(8,iv (((u.1):Nat):Int))]) (fun u=>[]) (fun u=>u.1<=s.length/\mnR u.2 (s.drop u.1)=mnR ([]:List (List Pl)) s/\OkPs u.2) (0,([]:List (List Pl))) (⟨by omega,rfl,hp0⟩)
     (Qb (.cs (.cons rfl (Qy) (.cs (.nil)))) (.nil) (fun i h=>by cases h)) ?_
    rintro ⟨k,ps⟩ ⟨hk,hinv,hps⟩
    dsimp only at hk hinv hps ⊢
    refine gT 5 rfl (Qe rfl rfl (gR 2 rfl (Qc rfl (fun h30=>?_) (fun h30=>?_))))
    ·replace h30:=of_decide_eq_true h30
     refine gK 4 rfl ?_
     obtain ⟨q,hqk,hqm⟩:=Qk (L:=s) (k:=k) (by omega)
     rw [mnR_at hqk] at hinv
     refine gI 4 rfl (Qi (f:=cR) (y:=q) rfl rfl rfl (by omega) hqk (gR 1 rfl (Qr [] rfl rfl (vc144 ps hps q (hs q hqm)) (.cons (Qd rfl) (.cons (Qd rfl) (.nil))) (.nil) rfl rfl rfl (gR 10 rfl (Xv rfl rfl rfl (gR 1 rfl (Qc rfl (fun h43=>?_) (fun h43=>?_))))))))
     ·replace h43:=of_decide_eq_true h43
      refine gK 7 rfl ?_
      rw [show minR c s=mnR (if QO c=true then [QM c] else []) s from if_neg (by rw [show errR c s=ckS c from if_neg (by omega)]; omega)]
      rw [if_neg (by rw [h21]; decide)]
      rw [if_pos h43] at hinv
      rw [← hinv]
      exact Qt <| Ql rfl (QI (.cons Qy (.cons sm .nil))) .nil
     ·replace h43:=of_decide_eq_false h43
      refine gK 7 rfl (Qf rfl rfl rfl (by omega) (gR 2 rfl ?_))
      rw [if_neg h43] at hinv
      exact Qz <| ⟨(k+1,(Uo ps q).1),⟨by dsimp only; omega,hinv,withR_ok hps⟩,by dsimp only; omega,Qb (Qa rfl rfl) (.nil) (fun i h=>by cases h)⟩
    ·replace h30:=of_decide_eq_false h30
     refine gK 8 rfl ?_
     rw [show minR c s=mnR (if QO c=true then [QM c] else []) s from if_neg (by rw [show errR c s=ckS c from if_neg (by omega)]; omega)]
     rw [if_neg (by rw [h21]; decide)]
     rw [← hinv,List.drop_eq_nil_of_le (by omega)]
     exact Qt <| Ql rfl (QI (.cons sm (.cons sm .nil))) .nil
   ·skip
    refine gR 5 rfl (Qr [] rfl rfl (vc143 c hc) (.cons (Qd rfl) (.nil)) (.nil) rfl rfl rfl (gR 0 rfl (bM cR (([QM c]:List (List Pl))) (by kernel_rfl) (gR 0 rfl (rs_app_nm (f:=cR) (xs:=([QM c]:List (List Pl))) (n:=1) (rd:=[25]) rfl rfl rfl rfl rfl rfl (fun _=>rfl) rfl (by decide) (by decide) (fun _=>rfl) (gR 4 rfl ?_))))))
    have hp0:OkPs [QM c]:=⟨nL rfl,fun x hx=>by rw [List.mem_singleton.1 hx]; have:=(leanR_sub c).1; have:=ck_len (c:=c) (by omega); omega⟩
    refine gI 4 rfl ?_
    refine Qo (α:=Nat×List (List Pl)) (fun u=>s.length-u.1) (fun u=>[(1,.rs 1 (s.map cR)),(7,.rs 1 ((u.2).map cR)),(8,iv (((u.1):Nat):Int))]) (fun u=>[]) (fun u=>u.1<=s.length/\mnR u.2 (s.drop u.1)=mnR ([QM c]:List (List Pl)) s/\OkPs u.2) (0,([QM c]:List (List Pl))) (⟨by omega,rfl,hp0⟩)
     (Qb (.cs (.cons rfl (Xu (f:=cR) (xs:=([QM c]:List (List Pl))) rfl rfl rfl) (.cs (.nil)))) (.nil) (fun i h=>by cases h)) ?_
    rintro ⟨k,ps⟩ ⟨hk,hinv,hps⟩
    dsimp only at hk hinv hps ⊢
    refine gT 5 rfl (Qe rfl rfl (gR 2 rfl (Qc rfl (fun h30=>?_) (fun h30=>?_))))
    ·replace h30:=of_decide_eq_true h30
     refine gK 4 rfl ?_
     obtain ⟨q,hqk,hqm⟩:=Qk (L:=s) (k:=k) (by omega)
     rw [mnR_at hqk] at hinv
     refine gI 4 rfl (Qi (f:=cR) (y:=q) rfl rfl rfl (by omega) hqk (gR 1 rfl (Qr [] rfl rfl (vc144 ps hps q (hs q hqm)) (.cons (Qd rfl) (.cons (Qd rfl) (.nil))) (.nil) rfl rfl rfl (gR 10 rfl (Xv rfl rfl rfl (gR 1 rfl (Qc rfl (fun h43=>?_) (fun h43=>?_))))))))
     ·replace h43:=of_decide_eq_true h43
      refine gK 7 rfl ?_
      rw [show minR c s=mnR (if QO c=true then [QM c] else []) s from if_neg (by rw [show errR c s=ckS c from if_neg (by omega)]; omega)]
      rw [if_pos h21]
      rw [if_pos h43] at hinv
      rw [← hinv]
      exact Qt <| Ql rfl (QI (.cons Qy (.cons sm .nil))) .nil
     ·replace h43:=of_decide_eq_false h43
      refine gK 7 rfl (Qf rfl rfl rfl (by omega) (gR 2 rfl ?_))
      rw [if_neg h43] at hinv
      exact Qz <| ⟨(k+1,(Uo ps q).1),⟨by dsimp only; omega,hinv,withR_ok hps⟩,by dsimp only; omega,Qb (Qa rfl rfl) (.nil) (fun i h=>by cases h)⟩
    ·replace h30:=of_decide_eq_false h30
     refine gK 8 rfl ?_
     rw [show minR c s=mnR (if QO c=true then [QM c] else []) s from if_neg (by rw [show errR c s=ckS c from if_neg (by omega)]; omega)]
     rw [if_pos h21]
     rw [← hinv,List.drop_eq_nil_of_le (by omega)]
     exact Qt <| Ql rfl (QI (.cons sm (.cons sm .nil))) .nil
def mcv55:MC:=(sq [oN 4 (.mv (.c (.bool false))) [],oN 5 (.mv (cI 0)) [0]] (sq [oM 9 1 [],oM 10 0 [],oC 11 103 [9,10] [0,1],oM 8 11 [2],oN 12 (.ext 8 0) [3],oN 13 (.ext 8 1) [3],oM 6 12 (4::2::up 5),oM 7 13 (5::6::up 7)] (sq [oM 14 7 [],oB 15 .eql 14 (cI 0) [0],oM 16 15 [1],pM 17 6 16 true [2],oG 18 (.len 17) 16 true [3,2],oG 19 (.bin .eql 18 (cI 0)) 16 true [4,2],oN 20 (.pick 16 19 (.c (.bool false))) [2,5],oM 21 7 [],oM 4 20 (6::2::up 7),oM 5 21 (7::8::up 9)] .ret)))
theorem mcOkv55:okM Tryz.prog Tryz.f55 22=some mcv55:=by kernel_rfl
theorem vc55 (s:List (List Pl)) (c:List Pl) (hc:OkC c) (hs:∀ q∈s,OkC q) (hsl:s.length<=1000):FC Tryz.prog 55 [.rs 1 (s.map cR),.rs 4 (c.map cPl)] [] (.tup [.bool (covR s c).1,iv (covR s c).2]) [] false:=by
 refine Qg (nt:=22) Tryz.func55 rfl rfl mcOkv55 (nL rfl) ?_
 delta mcv55
 refine gA 9 rfl (Qr [] rfl rfl (vc103 c hc s hs hsl) (.cons (Qd rfl) (.cons (Qd rfl) (.nil))) (.nil) rfl rfl rfl (gR 9 rfl (Qx rfl rfl rfl rfl (fun h15=>?_) (fun h15=>?_))))
 ·skip
  refine gR 2 rfl (Qe rfl rfl (gR 0 rfl (Qx rfl rfl rfl rfl (fun h19=>?_) (fun h19=>?_))))
  ·skip
   refine gR 6 rfl ?_
   rw [show (covR s c).2=(minR c s).2 from rfl,show (covR s c).1=true from by unfold covR; rw [decide_eq_true (show (minR c s).2=0 by omega)]; exact decide_eq_true (by omega)]
   exact rQ
  ·skip
   refine gR 6 rfl ?_
   rw [show (covR s c).2=(minR c s).2 from rfl,show (covR s c).1=false from by unfold covR; rw [decide_eq_true (show (minR c s).2=0 by omega)]; exact decide_eq_false (by omega)]
   exact rQ
 ·skip
  refine gR 10 rfl ?_
  rw [show (covR s c).2=(minR c s).2 from rfl,show (covR s c).1=false from by unfold covR; rw [decide_eq_false (show ¬ (minR c s).2=0 by omega)]; rfl]
  exact rQ
def mcv56:MC:=(sq [oN 4 (.mv (.c .nils)) []] (sq [oN 5 (.mv (.c .nils)) []] (.seq (sq [oN 6 (.mv (cI 0)) []] (.block 0 (.loop (.seq (sq [oM 7 6 [],oM 8 0 [],oE 9 8 [1],oB 10 .lss 7 9 [0,2]] (.cond 10 .skip (.exit 0))) (.seq (.block 1 (sq [oM 13 0 [],oM 14 6 [],oX 15 1 13 14 [0,1],oD 16 1 15 [2],oM 17 1 [],oC 18 102 [16,17] [3,4],oN 19 (.un .not 18) [5]] (.cond 19 (rg [oM 20 5 [],oM 21 0 [],oM 22 6 [],oX 23 1 21 22 [1,2],oD 24 1 23 [3],oN 25 (.bslice 85 1 [.nils] 1 [(0,24)]) [4],oN 26 (.app 85 1 24 [.nils] 20 25) [0,5],oM 5 26 (6::6::up 7)]) .skip))) (rg [oM 11 6 [],oB 12 .add 11 (cI 1) [0],oM 6 12 [1,0,1]])))))) (sq [oM 27 5 [],oM 4 27 [0,0]] .ret))))
theorem mcOkv56:okM Tryz.prog Tryz.f56 28=some mcv56:=by kernel_rfl
theorem vc56 (s:List (List Pl)) (c:List Pl) (hx:∀ x∈s,x.length<=1000) (hc:c.length<=1000) (hs:s.length<=1000):FC Tryz.prog 56 [.sl 1001 0 s.length,.rs 4 (c.map cPl)] [(1001,.cells 85 1 (s.map cR) true)] (.rs 1 ((s.filter (nearB c)).map cR)) [(1001,.cells 85 1 (s.map cR) true)] true:=by
 refine Qg (nt:=28) Tryz.func56 rfl rfl mcOkv56 (nL rfl) ?_
 delta mcv56
 refine gA 14 rfl ?_
 refine Qo (α:=Nat) (fun k=>s.length-k) (fun k=>[(0,.sl 1001 0 s.length),(1,.rs 4 (c.map cPl)),(5,.sl 901 0 (((s.take (k)).filter (nearB c)).length)),(6,iv (((k):Nat):Int))]) (fun k=>[(1001,.cells 85 1 (s.map cR) true),(901,.cells 85 1 ((((s.take (k)).filter (nearB c))).map cR) true)]) (fun k=>k<=s.length) 0 (by omega)
  (Qb (.cs (.cs (.cons rfl (Xj rfl rfl) (.cs (.nil))))) (.keep (rfl) rfl (.virt rfl (.nil))) ((fun i hi=>by simp [Qh] at hi ⊢; omega))) ?_
 intro k hk
 refine gT 5 rfl (QC rfl rfl (gR 2 rfl (Qc rfl (fun h10=>?_) (fun h10=>?_))))
 ·replace h10:=of_decide_eq_true h10
  refine gK 7 rfl ?_
  obtain ⟨x,hxk,hxm⟩:=Qk (L:=s) (k:=k) (by omega)
  have hfl:=List.length_filter_le (nearB c) (s.take k)
  rw [List.length_take] at hfl
  refine QF rfl rfl rfl rfl (by omega) (by omega) (gR 0 rfl (JS (f:=cR) (xs:=s) (y:=x) rfl rfl rfl hxk rfl (gR 1 rfl (cN rfl rfl (vc102 x c (hx x hxm) hc) ?_))))
  cases h18:Xw x c
  ·skip
   refine gR 7 rfl (QF rfl rfl rfl rfl (by omega) (by omega) (gR 0 rfl (JS (f:=cR) (xs:=s) (y:=x) rfl rfl rfl hxk rfl (gR 0 rfl (bM cR (([x]:List (List Pl))) (by kernel_rfl) (gR 0 rfl (Qq (f:=cR) (xs:=((s.take (k)).filter (nearB c))) (y:=x) (fl':=true) rfl rfl rfl rfl (rfl) rfl rfl rfl (by decide) rfl (by omega) (by omega) rfl (gR 4 rfl (Qf rfl rfl rfl (by omega) (gR 2 rfl ?_))))))))))
   exact Qz <| ⟨k+1,by omega,by omega,by rw [fl_t hxk (show nearB c x=true by unfold nearB; rw [h18]; rfl),Xo]; exact QB (i:=26) (i':=901) (F1:=[(0,.sl 1001 0 s.length),(1,.rs 4 (c.map cPl)),(5,.sl 26 0 (((s.take (k)).filter (nearB c)).length+1)),(6,iv (((k+1):Nat):Int))]) (H1:=[(1001,.cells 85 1 (s.map cR) true),(26,.cells 85 1 ((((s.take (k)).filter (nearB c))++[x]).map cR) true)]) (Qa rfl rfl) (kS rfl rfl) ((fun i hi=>by simp [Qh] at hi ⊢; omega)) rfl rfl (.cons rfl (.same _) (.cons rfl (.same _) (.cons rfl (.sl _ _) (.cons rfl (.same _) (.nil))))) (Qa rfl rfl) (kS rfl rfl) ((fun i hi=>by simp [Qh] at hi ⊢; omega))⟩
  ·skip
   refine gR 6 rfl (Qf rfl rfl rfl (by omega) (gR 2 rfl ?_))
   exact Qz <| ⟨k+1,by omega,by omega,by rw [fl_f hxk (show nearB c x=false by unfold nearB; rw [h18]; rfl)]; exact Qb (Qa rfl rfl) (kS rfl rfl) ((fun i hi=>by simp [Qh] at hi ⊢; omega))⟩
 ·replace h10:=of_decide_eq_false h10
  refine gK 7 rfl ?_
  obtain rfl:k=s.length:=by omega
  rw [List.take_length]
  exact Qt <| ret_own rfl (Xu rfl rfl rfl) (.keep rfl rfl .nil) (.cons rfl rfl rfl .nil)
theorem vc56_ (i:Nat) (hi:i≠1001) (s:List (List Pl)) (c:List Pl) (hx:∀ x∈s,x.length<=1000) (hc:c.length<=1000) (hs:s.length<=1000):FC Tryz.prog 56 [.sl i 0 s.length,.rs 4 (c.map cPl)] [(i,.cells 85 1 (s.map cR) true)] (.rs 1 ((s.filter (nearB c)).map cR)) [(i,.cells 85 1 (s.map cR) true)] true :=
 fc_ren (swp 1001 i) (swp_swp 1001 i) (vc56 s c hx hc hs) (.cons (.sl (by simp [swp])) (.cons (.closed rfl) .nil)) (.cons (by simp [swp]) .flat .nil) (.closed rfl) (.cons (by simp [swp]) .flat .nil)
def mcv53:MC:=(sq [oN 2 (.mv (.c .nils)) []] (sq [oN 3 (.mv (.c .nils)) []] (.seq (sq [oN 4 (.mv (cI 0)) []] (.block 0 (.loop (.seq (sq [oM 5 4 [],oM 6 0 [],oE 7 6 [1],oB 8 .lss 5 7 [0,2]] (.cond 8 .skip (.exit 0))) (.seq (.block 1 (rg [oM 11 3 [],oN 12 (.bslice 90 4 (iz 4) 0 []) [],oM 13 0 [],oM 14 4 [],oX 15 1 13 14 [2,3],oD 16 1 15 [4],oN 17 (.app 90 4 32 (iz 4) 12 16) [1,5],oN 18 (.bslice 85 1 [.nils] 1 [(0,17)]) [6],oN 19 (.app 85 1 24 [.nils] 11 18) [0,7,6],oM 3 19 (8::8::up 9)])) (rg [oM 9 4 [],oB 10 .add 9 (cI 1) [0],oM 4 10 [1,0,1]])))))) (sq [oM 20 3 [],oM 2 20 [0,0]] .ret))))
theorem mcOkv53:okM Tryz.prog Tryz.f53 21=some mcv53:=by kernel_rfl
theorem vc53 (cs:List (List Pl)) (hc:∀ c∈cs,c.length<=1000) (hn:cs.length<=1000):FC Tryz.prog 53 [.rs 1 (cs.map cR)] [] (.sl 901 0 cs.length) [(901,.cells 85 1 (cs.map cR) true)] true:=by
 refine Qg (nt:=21) Tryz.func53 rfl rfl mcOkv53 (nL rfl) ?_
 delta mcv53
 refine gA 14 rfl ?_
 refine Qo (α:=Nat) (fun k=>cs.length-k) (fun k=>[(0,.rs 1 (cs.map cR)),(3,.sl 901 0 (k)),(4,iv (((k):Nat):Int))]) (fun k=>[(901,.cells 85 1 ((cs.take (k)).map cR) true)]) (fun k=>k<=cs.length) 0 (by omega)
  (Qb (.cs (.cons rfl (Xj rfl rfl) (.cs (.nil)))) (.virt rfl (.nil)) (fun i h=>by cases h)) ?_
 intro k hk
 refine gT 5 rfl (Qe rfl rfl (gR 2 rfl (Qc rfl (fun h8=>?_) (fun h8=>?_))))
 ·replace h8:=of_decide_eq_true h8
  refine gK 5 rfl (bT (l:=[]) (els:=[]) (by kernel_rfl) (gR 2 rfl ?_))
  obtain ⟨c,hck,hcm⟩:=Qk (L:=cs) (k:=k) (by omega)
  have hcl:=hc c hcm
  refine Qi (f:=cR) (y:=c) rfl rfl rfl (by omega) hck (gR 1 rfl (rs_appf (f:=cPl) (ys:=c) (n:=c.length) (rd:=[]) rfl rfl rfl rfl rfl rfl rfl (by simp) (fun _=>rfl) rfl (by omega) (by omega) (fun _=>rfl) (gR 0 rfl (bM cR (([c]:List (List Pl))) (by kernel_rfl) (gR 0 rfl (Qq (f:=cR) (xs:=cs.take k) (y:=c) (fl':=true) rfl rfl rfl rfl (by simp; omega) rfl rfl rfl (by decide) rfl (by omega) (by omega) rfl (gR 4 rfl (Qf rfl rfl rfl (by omega) (gR 2 rfl ?_)))))))))
  exact Qz <| ⟨k+1,by omega,by omega,QB (i:=19) (i':=901) (F1:=[(0,.rs 1 (cs.map cR)),(3,.sl 19 0 (k+1)),(4,iv (((k+1):Nat):Int))]) (H1:=[(19,.cells 85 1 ((cs.take (k+1)).map cR) true)]) (Qa rfl rfl) (.keep (by rw [Q3 hck]; rfl) rfl (.nil)) (fun i h=>by cases h) rfl rfl (.cons rfl (.same _) (.cons rfl (.sl _ _) (.cons rfl (.same _) (.nil)))) (Qa rfl rfl) (.keep rfl rfl .nil) nz⟩
 ·replace h8:=of_decide_eq_false h8
  refine gK 7 rfl ?_
  obtain rfl:k=cs.length:=by omega
  exact Qt <| ret_own rfl sm (.keep (by rw [List.take_length]; rfl) rfl .nil) .nil
def mcv54:MC:=(sq [oN 4 (.mv (.c (.bool false))) []] (.seq (sq [oN 5 (.mv (cI 0)) []] (.block 0 (.loop (.seq (sq [oM 6 5 [],oM 7 1 [],oE 8 7 [1],oB 9 .lss 6 8 [0,2]] (.cond 9 .skip (.exit 0))) (.seq (.block 1 (sq [oM 12 0 [],oM 13 1 [],oM 14 5 [],oX 15 1 13 14 [1,2],oD 16 1 15 [3],oC 17 102 [12,16] [0,4],oN 18 (.un .not 17) [5]] (.cond 18 (sq [oN 4 (.mv (.c (.bool false))) []] .ret) .skip))) (rg [oM 10 5 [],oB 11 .add 10 (cI 1) [0],oM 5 11 [1,0,1]])))))) (sq [oN 4 (.mv (.c (.bool true))) []] .ret)))
theorem mcOkv54:okM Tryz.prog Tryz.f54 19=some mcv54:=by kernel_rfl
theorem vc54 (c:List Pl) (s:List (List Pl)) (hc:c.length<=1000) (hx:∀ x∈s,x.length<=1000) (hs:s.length<=1000):FC Tryz.prog 54 [.rs 4 (c.map cPl),.rs 1 (s.map cR)] [] (.bool (Xz c s)) [] false:=by
 refine Qg (nt:=19) Tryz.func54 rfl rfl mcOkv54 (nL rfl) ?_
 delta mcv54
 refine gA 10 rfl ?_
 refine Qo (α:=Nat) (fun k=>s.length-k) (fun k=>[(0,.rs 4 (c.map cPl)),(1,.rs 1 (s.map cR)),(5,iv (((k):Nat):Int))]) (fun k=>[]) (fun k=>k<=s.length/\(s.drop k).any (Ug c)=s.any (Ug c)) 0 (⟨by omega,rfl⟩)
  (Qb (Qa rfl rfl) (.nil) (fun i h=>by cases h)) ?_
 rintro k ⟨hk,hinv⟩
 refine gT 5 rfl (Qe rfl rfl (gR 2 rfl (Qc rfl (fun h9=>?_) (fun h9=>?_))))
 ·replace h9:=of_decide_eq_true h9
  refine gK 8 rfl ?_
  obtain ⟨x,hxk,hxm⟩:=Qk (L:=s) (k:=k) (by omega)
  rw [Jo hxk,List.any_cons] at hinv
  refine Qi (f:=cR) (y:=x) rfl rfl rfl (by omega) hxk (gR 1 rfl (cN rfl rfl (vc102 c x hc (hx x hxm)) ?_))
  cases h17:Xw c x
  ·skip
   refine gR 8 rfl ?_
   rw [show Xz c s=false from by unfold Xz; rw [show s.any (Ug c)=true from List.any_eq_true.2 ⟨x,hxm,by unfold Ug; rw [h17]; rfl⟩]; rfl]
   exact rQ
  ·skip
   refine gR 6 rfl (Qf rfl rfl rfl (by omega) (gR 2 rfl ?_))
   rw [show Ug c x=false from by unfold Ug; rw [h17]; rfl,Bool.false_or] at hinv
   exact Qz <| ⟨k+1,⟨by omega,hinv⟩,by omega,Qb (Qa rfl rfl) (.nil) (fun i h=>by cases h)⟩
 ·replace h9:=of_decide_eq_false h9
  refine gK 6 rfl ?_
  rw [show Xz c s=true from by unfold Xz; rw [show s.any (Ug c)=false from by rw [← hinv,List.drop_eq_nil_of_le (by omega)]; rfl]; rfl]
  exact rQ
theorem vc53b (cs:List (List Pl)) (hc:∀ c∈cs,c.length<=1000) (hn:cs.length<=1000):FC Tryz.prog 53 [.rs 1 (cs.map cR)] [] (.sl 902 0 cs.length) [(902,.cells 85 1 (cs.map cR) true)] true :=
 fc_ren (swp 901 902) (swp_swp 901 902) (vc53 cs hc hn) (.cons (.closed rfl) .nil) .nil (.sl rfl) (.cons rfl .flat .nil)
theorem vc54n (c:List Pl) (hc:c.length<=1000):FC Tryz.prog 54 [.rs 4 (c.map cPl),.rs 1 []] [] (.bool true) [] false:=vc54 c [] hc (fun x hx=>by cases hx) (Nat.zero_le _)
end Go.Proofs.YthfhaoogcpfboaaGreat
namespace Go.Proofs.YthfhaoogcpfboaaGreat
open Go.RowKit
set_option maxRecDepth 100000
set_option linter.unusedVariables false
section
variable {s:Int} {ls bs:List Lf}
end
theorem fine_of {p:Pa} {x:Pc} (h:JK p x=0):fineB (Uc p x)=true:=by
 unfold Uc
 rw [if_neg (fun q=>q h)]
 split
 ·rfl
 ·split
  ·rfl
  ·split <;> rfl
theorem leaves_of {p:Pa} {x:Pc} {s:List Int} (h:JK p x=0) (hs:s≠[]):QV p x s=(List.range p.want.length).map (Jf p x s):=if_pos ⟨fine_of h,hs⟩
theorem b_at {l:List Bool} {k:Nat} (h:k<l.length):l[k]?=some (l.getD k false):=by
 rw [List.getD_eq_getElem?_getD,List.getElem?_eq_getElem h]; rfl
theorem sl_3 (cs:List (List Int)):((cs.map cLi).drop (0:Int).toNat).take ((min (cs.length:Int) 3).toNat-(0:Int).toNat)=(cs.take (min cs.length 3)).map cLi:=by
 rw [Int.toNat_zero,List.drop_zero,← List.map_take,Nat.sub_zero]
 congr 2
 omega
end Go.Proofs.YthfhaoogcpfboaaGreat
