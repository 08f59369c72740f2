/-
  Proved: colletlaw38.RevealForms returns true for every input, and its arguments read as before. No condition.
-/
import Derived.Test.YthfhaoogcpfboaaGreatK5
import Derived.Test.YthfhaoogcpfboaaGreatRows
set_option linter.unusedVariables false
set_option linter.unusedSimpArgs false
namespace Go.Proofs.YthfhaoogcpfboaaGreat
open Go.RowKit
set_option maxRecDepth 100000
set_option linter.unusedVariables false
def fitsB (p:Pa) (x:Pc):Bool:=decide (x.sure.length=p.cells.length)&&decide (x.touched.length=p.cells.length)&&decide (x.cuts.length<=24)&&decide (JX x.cuts=0)
theorem fits_t {p:Pa} {x:Pc} (h1:x.sure.length=p.cells.length) (h2:x.touched.length=p.cells.length) (h3:x.cuts.length<=24) (h4:JX x.cuts=0):fitsB p x=true:=by simp [fitsB,h1,h2,h3,h4]
theorem fits_f {p:Pa} {x:Pc} (h:¬ (x.sure.length=p.cells.length/\x.touched.length=p.cells.length/\x.cuts.length<=24/\JX x.cuts=0)):fitsB p x=false:=by
 cases hf:fitsB p x
 ·rfl
 ·simp only [fitsB,Bool.and_eq_true,decide_eq_true_eq] at hf
  exact absurd ⟨hf.1.1.1,hf.1.1.2,hf.1.2,hf.2⟩ h
theorem fits_iff {p:Pa} {x:Pc} (h:ckP p=0):JK p x=0 ↔ fitsB p x=true:=by
 unfold JK
 rw [if_neg (fun q=>q h)]
 constructor
 ·intro h2
  split at h2
  ·cases h2
  ·rename_i h3
   exact fits_t (Decidable.byContradiction fun q=>h3 (.inl q)) (Decidable.byContradiction fun q=>h3 (.inr (.inl q))) (by omega) (Decidable.byContradiction fun q=>h3 (.inr (.inr (.inr q))))
 ·intro h2
  simp only [fitsB,Bool.and_eq_true,decide_eq_true_eq] at h2
  exact if_neg (by rintro (q | q | q | q) <;> omega)
theorem lea_nil {p:Pa} {x:Pc} {s:List Int} (h:¬ (ckP p=0/\fitsB p x=true/\s≠[])):QV p x s=[]:=by
 refine if_neg fun q=>h ?_
 have hf:=fine_fit q.1
 have hc:ckP p=0:=Decidable.byContradiction fun r=>by unfold JK at hf; rw [if_pos r] at hf; exact r hf
 exact ⟨hc,(fits_iff hc).1 hf,q.2⟩
theorem lea_all {p:Pa} {x:Pc} {s:List Int} (h1:ckP p=0) (h2:fitsB p x=true) (h3:s≠[]):p.want.length=p.cells.length/\x.sure.length=p.cells.length/\x.touched.length=p.cells.length/\p.cells.length<=16/\QV p x s=(List.range p.cells.length).map (Jf p x s):=by
 have hf:=(fits_iff h1).2 h2
 obtain ⟨e1,e2,e3,_,e5⟩:=fit_len hf
 exact ⟨e1,e2,e3,e5,by rw [leaves_of hf h3,e1]⟩
theorem any_set' {c:List Pl} {l:List (List Pl)}:l.any (fun q => !Xw q c)=l.any (Ug c):=by
 congr 1; funext q; unfold Ug; rw [apart_comm]
theorem tk_at {α:Type} {l:List α} {i k:Nat} {x:α} (h:l[i]?=some x) (hi:i<k):(l.take k)[i]?=some x:=by rw [List.getElem?_take,if_pos hi]; exact h
theorem tk_su {α β:Type} {f:α->β} {l:List α} {k:Nat} {c:α} (h:l[k]?=some c):(l.take (k+1)).map f=(l.take k).map f++[f c]:=by rw [Q3 h,List.map_append]; rfl
theorem rep_at {n k:Nat} (h:k<n):(List.replicate n false)[k]?=some false:=by rw [List.getElem?_replicate,if_pos h]
def sureR (cs:List (List Pl)) (c:List Pl):Bool×Int:=covR (cs.filter (nearB c)) c
def suR (cs:List (List Pl)) (c:List Pl):Bool:=(sureR cs c).1
def apER (cs:List (List Pl)):List (List Pl)->Int
 | []=>0
 | c::t=>if (sureR cs c).2≠0 then (sureR cs c).2 else apER cs t
theorem apER_at {cs l:List (List Pl)} {k:Nat} {c:List Pl} (h:l[k]?=some c):apER cs (l.drop k)=if (sureR cs c).2≠0 then (sureR cs c).2 else apER cs (l.drop (k+1)):=by rw [Jo h]; rfl
def appR (p:Pa) (cs:List (List Pl)):Pc×Int:=if apER cs p.cells≠0 then (⟨[],[],[]⟩,apER cs p.cells) else (⟨p.cells.map (suR cs),p.cells.map (touS cs),cs⟩,0)
theorem appR_1 {p:Pa} {cs:List (List Pl)} (h:apER cs p.cells≠0):appR p cs=(⟨[],[],[]⟩,apER cs p.cells):=if_pos h
theorem appR_0 {p:Pa} {cs:List (List Pl)} (h:apER cs p.cells=0):appR p cs=(⟨p.cells.map (suR cs),p.cells.map (touS cs),cs⟩,0):=if_neg (fun q=>q h)
def mcv51:MC:=(sq [oN 2 (.box 31 3 0) [],oN 3 (.box 35 3 1) [],oN 4 (.mv (.c (.bool false))) []] (sq [oA 5 0 3 [],oD 6 1 5 [0],oE 7 6 [1],oA 8 1 2 [],oD 9 1 8 [3],oE 10 9 [4],oB 11 .eql 7 10 [2,5],oM 12 11 [6],pA 13 1 3 12 true [7],pD 14 1 13 12 true [8,7],oG 15 (.len 14) 12 true [9,7],pA 16 1 2 12 true [7],pD 17 1 16 12 true [11,7],oG 18 (.len 17) 12 true [12,7],oG 19 (.bin .eql 15 18) 12 true [10,13,7],oN 20 (.pick 12 19 (.c (.bool false))) [7,14],oM 21 20 [15,7],pA 22 2 3 21 true [16],pD 23 1 22 21 true [17,16],oG 24 (.len 23) 21 true [18,16],oG 25 (.bin .leq 24 (cI 24)) 21 true [19,16],oN 26 (.pick 21 25 (.c (.bool false))) [16,20],oM 27 26 [21,16],pA 28 2 3 27 true [22],pD 29 1 28 27 true [23,22],oG 30 (.call 52 [29]) 27 true [24,22,22],oG 31 (.bin .eql 30 (cI 0)) 27 true [25,22],oN 32 (.pick 27 31 (.c (.bool false))) [22,26],oM 4 32 (27::25::up 28)] .ret))
theorem mcOkv51:okM Tryz.prog Tryz.f51 33=some mcv51:=by kernel_rfl
theorem vc51 (p:Pa) (x:Pc) (hx:PcOK x):FC Tryz.prog 51 [.agg (cPa p),.agg (cPc x)] [] (.bool (fitsB p x)) [] false:=by
 have hxn:=hx.n
 refine Qg (nt:=33) Tryz.func51 rfl rfl mcOkv51 (nL rfl) ?_
 delta mcv51
 refine gA 10 rfl (Qe rfl rfl (gR 2 rfl (Qe rfl rfl (gR 0 rfl (Qx rfl rfl rfl rfl (fun h11=>?_) (fun h11=>?_))))))
 ·skip
  refine gR 3 rfl (Qe rfl rfl (gR 2 rfl (Qe rfl rfl (gR 0 rfl (Qx rfl rfl rfl rfl (fun h19=>?_) (fun h19=>?_))))))
  ·skip
   refine gR 4 rfl (Qe rfl rfl (gR 0 rfl (Qx rfl rfl rfl rfl (fun h25=>?_) (fun h25=>?_))))
   ·skip
    refine gR 4 rfl (cN rfl rfl (vc52 x.cuts (by omega) (fun c hc=>Nat.le_trans (hx.c c hc) (by decide))) (gR 0 rfl (Qx rfl rfl rfl rfl (fun h31=>?_) (fun h31=>?_))))
    ·skip
     refine gR 4 rfl ?_
     rw [fits_t (p:=p) (x:=x) (by omega) (by omega) (by omega) h31]
     exact rQ
    ·skip
     refine gR 4 rfl ?_
     rw [fits_f (p:=p) (x:=x) (fun q=>by obtain ⟨q1,q2,q3,q4⟩:=q; omega)]
     exact rQ
   ·skip
    refine gR 10 rfl ?_
    rw [fits_f (p:=p) (x:=x) (fun q=>by obtain ⟨q1,q2,q3,q4⟩:=q; omega)]
    exact rQ
  ·skip
   refine gR 16 rfl ?_
   rw [fits_f (p:=p) (x:=x) (fun q=>by obtain ⟨q1,q2,q3,q4⟩:=q; omega)]
   exact rQ
 ·skip
  refine gR 24 rfl ?_
  rw [fits_f (p:=p) (x:=x) (fun q=>by obtain ⟨q1,q2,q3,q4⟩:=q; omega)]
  exact rQ
def mcv50:MC:=(sq [oN 1 (.box 31 3 0) [],oN 2 (.mv (cI 0)) []] (.seq (sq [oA 6 1 1 [],oD 7 1 6 [0],oE 8 7 [1],oB 9 .lss 8 (cI 1) [2],oM 10 9 [3],pA 11 1 1 10 false [4],pD 12 1 11 10 false [5,4],oG 13 (.len 12) 10 false [6,4],oG 14 (.bin .gtr 13 (cI 16)) 10 false [7,4],oN 15 (.pick 10 (.c (.bool true)) 14) [4,8]] (.cond 15 (sq [oN 2 (.mv (cI 2)) []] .ret) .skip)) (.seq (sq [oA 16 2 1 [],oD 17 1 16 [0],oE 18 17 [1],oA 19 1 1 [],oD 20 1 19 [3],oE 21 20 [4],oB 22 .neq 18 21 [2,5]] (.cond 22 (sq [oN 2 (.mv (cI 1)) []] .ret) .skip)) (.seq (sq [oN 3 (.mv (cI 0)) []] (.block 0 (.loop (.seq (sq [oM 23 3 [],oA 24 2 1 [],oD 25 1 24 [1],oE 26 25 [2],oB 27 .lss 23 26 [0,3]] (.cond 27 .skip (.exit 0))) (.seq (.block 1 (sq [oA 30 2 1 [],oD 31 1 30 [0],oM 32 3 [],oX 33 1 31 32 [1,2],oD 34 1 33 [3],oB 35 .lss 34 (cI 1) [4],oM 36 35 [5],pA 37 2 1 36 false [6],pD 38 1 37 36 false [7,6],pM 39 3 36 false [6],oG 40 (.ixsl 1 38 39) 36 false [8,9,6],pD 41 1 40 36 false [10,6],oG 42 (.bin .gtr 41 (cI 3)) 36 false [11,6],oN 43 (.pick 36 (.c (.bool true)) 42) [6,12]] (.cond 43 (sq [oN 2 (.mv (cI 1)) []] .ret) .skip))) (rg [oM 28 3 [],oB 29 .add 28 (cI 1) [0],oM 3 29 [1,0,1]])))))) (.seq (sq [oN 4 (.mv (cI 0)) []] (.block 2 (.loop (.seq (sq [oM 44 4 [],oA 45 1 1 [],oD 46 1 45 [1],oE 47 46 [2],oB 48 .lss 44 47 [0,3]] (.cond 48 .skip (.exit 2))) (.seq (.block 3 (.seq (sq [oA 51 1 1 [],oD 52 1 51 [0],oM 53 4 [],oX 54 1 52 53 [1,2],oD 55 1 54 [3],oC 56 49 [55] [4],oN 57 (.un .not 56) [5]] (.cond 57 (sq [oN 2 (.mv (cI 13)) []] .ret) .skip)) (sq [oN 5 (.mv (cI 0)) []] (.block 4 (.loop (.seq (sq [oM 58 5 [],oM 59 4 [],oB 60 .lss 58 59 [0,1]] (.cond 60 .skip (.exit 4))) (.seq (.block 5 (dq [oA 63 1 1 [],oD 64 1 63 [0],oM 65 5 [],oX 66 1 64 65 [1,2],oD 67 1 66 [3],oA 68 1 1 [],oD 69 1 68 [5],oM 70 4 [],oX 71 1 69 70 [6,7],oD 72 1 71 [8],oC 73 102 [67,72] [4,9],oN 74 (.un .not 73) [10]] (.cond 74 (sq [oN 2 (.mv (cI 13)) []] .ret) .skip))) (rg [oM 61 5 [],oB 62 .add 61 (cI 1) [0],oM 5 62 [1,0,1]])))))))) (rg [oM 49 4 [],oB 50 .add 49 (cI 1) [0],oM 4 50 [1,0,1]])))))) (sq [oN 2 (.mv (cI 0)) []] .ret))))))
theorem mcOkv50:okM Tryz.prog Tryz.f50 75=some mcv50:=by kernel_rfl
theorem vc50 (p:Pa) (hp:PaOK p):FC Tryz.prog 50 [.agg (cPa p)] [] (iv (ckP p)) [] false:=by
 have hpn:=hp.n
 have hpw:=hp.w
 refine Qg (nt:=75) Tryz.func50 rfl rfl mcOkv50 (nL rfl) ?_
 delta mcv50
 refine gA 10 rfl (Qe rfl rfl (gR 0 rfl (Qx rfl rfl rfl rfl (fun h9=>?_) (fun h9=>?_))))
 ·skip
  refine gR 13 rfl ?_
  rw [show ckP p=2 from if_pos (by omega)]
  exact rQ
 ·skip
  refine gR 3 rfl (Qe rfl rfl (gR 0 rfl (Qx rfl rfl rfl rfl (fun h14=>?_) (fun h14=>?_))))
  ·skip
   refine gR 8 rfl ?_
   rw [show ckP p=2 from if_pos (by omega)]
   exact rQ
  ·skip
   refine gR 9 rfl (Qe rfl rfl (gR 2 rfl (Qe rfl rfl (gR 0 rfl (Xv rfl rfl rfl (gR 1 rfl (Qc rfl (fun h22=>?_) (fun h22=>?_))))))))
   ·replace h22:=of_decide_eq_true h22
    refine gK 5 rfl ?_
    rw [show ckP p=1 from by unfold ckP; rw [if_neg (by omega),if_pos (.inl (by omega))]]
    exact rQ
   ·replace h22:=of_decide_eq_false h22
    refine gK 7 rfl ?_
    refine Qo (α:=Nat) (fun j=>p.want.length-j) (fun j=>[(1,.ptr 1 0 0),(3,iv (((j):Nat):Int))]) (fun j=>[(1,.cells 31 3 [cPa p] true)]) (fun j=>j<=p.want.length/\(p.want.drop j).any QP=p.want.any QP) 0 (⟨by omega,rfl⟩)
     (Qb (Qa rfl rfl) (.keep rfl rfl .nil) nz) ?_
    rintro j ⟨hj,hinv⟩
    refine gT 6 rfl (Qe rfl rfl (gR 2 rfl (Qc rfl (fun h27=>?_) (fun h27=>?_))))
    ·replace h27:=of_decide_eq_true h27
     refine gK 8 rfl ?_
     obtain ⟨w,hwj,hwm⟩:=Qk (L:=p.want) (k:=j) (by omega)
     rw [Jo hwj,List.any_cons] at hinv
     refine Qi (f:=civ) (xs:=p.want) (y:=w) rfl rfl rfl (by omega) hwj (gR 1 rfl (Qx rfl rfl rfl rfl (fun h35=>?_) (fun h35=>?_)))
     ·skip
      refine gR 15 rfl ?_
      have hst:QP w=true:=by unfold QP; simp only [Bool.or_eq_true,decide_eq_true_eq]; omega
      rw [show ckP p=1 from by unfold ckP; rw [if_neg (by omega),if_pos (.inr (List.any_eq_true.2 ⟨w,hwm,hst⟩))]]
      exact rQ
     ·skip
      refine gR 4 rfl (Qi (f:=civ) (xs:=p.want) (y:=w) rfl rfl rfl (by omega) hwj (gR 1 rfl (Qx rfl rfl rfl rfl (fun h42=>?_) (fun h42=>?_))))
      ·skip
       refine gR 8 rfl ?_
       have hst:QP w=true:=by unfold QP; simp only [Bool.or_eq_true,decide_eq_true_eq]; omega
       rw [show ckP p=1 from by unfold ckP; rw [if_neg (by omega),if_pos (.inr (List.any_eq_true.2 ⟨w,hwm,hst⟩))]]
       exact rQ
      ·skip
       refine gR 6 rfl (Qf rfl rfl rfl (by omega) (gR 2 rfl ?_))
       rw [show QP w=false from by unfold QP; simp only [Bool.or_eq_false_iff,decide_eq_false_iff_not]; omega,Bool.false_or] at hinv
       exact Qz <| ⟨j+1,⟨by omega,hinv⟩,by omega,Qb (Qa rfl rfl) (.keep rfl rfl .nil) nz⟩
    ·replace h27:=of_decide_eq_false h27
     refine gK 3 rfl ?_
     have hws:p.want.any QP=false:=by rw [← hinv,List.drop_eq_nil_of_le (by omega)]; rfl
     refine gI 4 rfl ?_
     refine Qo (α:=Nat) (fun k=>p.cells.length-k) (fun k=>[(1,.ptr 1 0 0),(4,iv (((k):Nat):Int))]) (fun k=>[(1,.cells 31 3 [cPa p] true)]) (fun k=>k<=p.cells.length/\ckC (p.cells.take k) (p.cells.drop k)=ckC [] p.cells) 0 (⟨by omega,rfl⟩)
      (Qb (Qa rfl rfl) (.keep rfl rfl .nil) nz) ?_
     rintro k ⟨hk,hinv⟩
     refine gT 6 rfl (Qe rfl rfl (gR 2 rfl (Qc rfl (fun h48=>?_) (fun h48=>?_))))
     ·replace h48:=of_decide_eq_true h48
      refine gK 9 rfl ?_
      obtain ⟨c,hck,hcm⟩:=Qk (L:=p.cells) (k:=k) (by omega)
      have hcl:=hp.c c hcm
      rw [ckC_at hck] at hinv
      refine Qi (f:=cR) (y:=c) rfl rfl rfl (by omega) hck (gR 1 rfl (cN rfl rfl (vc49 c (by omega)) ?_))
      cases h56:QO c
      ·skip
       refine gR 8 rfl ?_
       rw [ckP_3 (p:=p) (by omega) (by omega) (by omega) hws]
       rw [show (QO c&&Xz c (p.cells.take k))=false from by rw [h56]; rfl,if_neg (by decide)] at hinv
       rw [← hinv]
       exact rQ
      ·skip
       refine gR 9 rfl ?_
       refine Qo (α:=Nat) (fun i=>k-i) (fun i=>[(1,.ptr 1 0 0),(4,iv (((k):Nat):Int)),(5,iv (((i):Nat):Int))]) (fun i=>[(1,.cells 31 3 [cPa p] true)]) (fun i=>i<=k/\((p.cells.take k).drop i).any (fun q => !Xw q c)=(p.cells.take k).any (fun q => !Xw q c)) 0 (⟨by omega,rfl⟩)
        (Qb (Qa rfl rfl) (.keep rfl rfl .nil) nz) ?_
       rintro i ⟨hi,hany⟩
       refine gT 7 rfl (Qc rfl (fun h60=>?_) (fun h60=>?_))
       ·replace h60:=of_decide_eq_true h60
        refine gK 8 rfl ?_
        obtain ⟨q,hqi,hqm⟩:=Qk (L:=p.cells) (k:=i) (by omega)
        refine Qi (f:=cR) (y:=q) rfl rfl rfl (by omega) hqi (gR 4 rfl (Qi (f:=cR) (y:=c) rfl rfl rfl (by omega) hck (gR 1 rfl (cN rfl rfl (vc102 q c (by have:=(hp.c q hqm).2; omega) (by omega)) ?_))))
        cases h73:Xw q c
        ·skip
         refine gR 1 rfl (Q9 (by kernel_rfl) (gP 6 rfl ?_))
         rw [ckP_3 (p:=p) (by omega) (by omega) (by omega) hws]
         rw [show (QO c&&Xz c (p.cells.take k))=false from by rw [show Xz c (p.cells.take k)=false from by unfold Xz; rw [show (p.cells.take k).any (Ug c)=true from List.any_eq_true.2 ⟨q,Xr (tk_at hqi (by omega)),by unfold Ug; rw [apart_comm,h73]; rfl⟩]; rfl,Bool.and_false],if_neg (by decide)] at hinv
         rw [← hinv]
         exact rQ
        ·skip
         refine gR 1 rfl (Q9 (by kernel_rfl) (gP 4 rfl (Qf rfl rfl rfl (by omega) (gR 2 rfl ?_))))
         rw [Jo (tk_at hqi (by omega)),List.any_cons,h73,show (!true)=false from rfl,Bool.false_or] at hany
         exact Qz <| ⟨i+1,⟨by omega,hany⟩,by omega,Qb (Qa rfl rfl) (.keep rfl rfl .nil) nz⟩
       ·replace h60:=of_decide_eq_false h60
        refine gK 3 rfl (Qf rfl rfl rfl (by omega) (gR 2 rfl ?_))
        rw [show Xz c (p.cells.take k)=true from by unfold Xz; rw [← any_set',← hany,List.drop_eq_nil_of_le (by rw [List.length_take]; omega)]; rfl,h56,if_pos (show (true&&true)=true from rfl)] at hinv
        exact Qz <| ⟨k+1,⟨by omega,hinv⟩,by omega,Qb (Qa rfl rfl) (.keep rfl rfl .nil) nz⟩
     ·replace h48:=of_decide_eq_false h48
      refine gK 6 rfl ?_
      rw [ckP_3 (p:=p) (by omega) (by omega) (by omega) hws]
      rw [List.drop_eq_nil_of_le (by omega)] at hinv
      rw [← hinv]
      exact rQ
def mcv11:MC:=(sq [oN 1 (.box 31 3 0) [],oN 2 (.alloc 35 3 [.nils,.nils,.nils]) []] (dq [oA 3 1 1 [],oD 4 1 3 [0],oE 5 4 [1],oN 6 (.mksl 4 1 1 [(.bool false)] 5 5) [2,2],oA 7 1 1 [],oD 8 1 7 [4],oE 9 8 [5],oN 10 (.mksl 4 1 1 [(.bool false)] 9 9) [6,6],oN 11 (.build [.nils,.nils,.nils] [(0,1,6),(1,1,10)]) [3,7],oS 3 2 11 (8::up 9)] .ret))
theorem mcOkv11:okM Tryz.prog Tryz.f11 12=some mcv11:=by kernel_rfl
theorem vc11 (p:Pa) (hn:p.cells.length<=1000):FC Tryz.prog 11 [.agg (cPa p)] [] (.agg (cPc (newS p.cells.length))) [] false:=by
 refine Qg (nt:=12) Tryz.func11 rfl rfl mcOkv11 (nL rfl) ?_
 delta mcv11
 refine gA 9 rfl (Qe rfl rfl (gR 0 rfl (rs_mksl (n:=(p.cells.length:Int)) rfl rfl rfl rfl rfl (by omega) (by omega) (by omega) (gR 2 rfl (Qe rfl rfl (gR 0 rfl (rs_mksl (n:=(p.cells.length:Int)) rfl rfl rfl rfl rfl (by omega) (by omega) (by omega) (gR 2 rfl (Q9 (by kernel_rfl) (gP 1 rfl ?_))))))))))
 exact Qt <| Ql rfl (Xg (.cons (Q5 (f:=cB) (xs:=List.replicate p.cells.length false) (by rw [Int.toNat_natCast,List.map_replicate]; rfl) rfl (by simp) (fun _=>rfl)) (.cons (Q5 (f:=cB) (xs:=List.replicate p.cells.length false) (by rw [Int.toNat_natCast,List.map_replicate]; rfl) rfl (by simp) (fun _=>rfl)) (.cons Qy .nil)))) .nil
def mcv10:MC:=(sq [oN 4 (.box 31 3 0) [],oN 5 (.box 35 3 1) [],oN 8 (.alloc 35 3 [.nils,.nils,.nils]) [],oN 9 (.mv (cI 0)) []] (sq [oL 15 3 4 [],oC 16 50 [15] [0],oM 10 16 [1,1,0,1]] (.seq (sq [oM 17 10 [],oB 18 .neq 17 (cI 0) [0]] (.cond 18 (sq [oN 19 (.build [.nils,.nils,.nils] []) [],oM 20 10 [],oS 3 8 19 [0,0],oM 9 20 [1,2,0,1,2]] .ret) .skip)) (.seq (sq [oL 21 3 4 [],oL 22 3 5 [],oC 23 51 [21,22] [0,1],oN 24 (.un .not 23) [2]] (.cond 24 (sq [oN 25 (.build [.nils,.nils,.nils] []) [],oS 3 8 25 [0,0],oN 9 (.mv (cI 4)) [1,0,1]] .ret) .skip)) (sq [oM 26 2 [],oC 27 52 [26] [0],oM 10 27 [1,1,0,1]] (.seq (sq [oM 28 10 [],oB 29 .eql 28 (cI 0) [0]] (.cond 29 (rg [oM 30 3 [],oC 31 52 [30] [0],oM 10 31 [1,1,0,1]]) .skip)) (.seq (sq [oM 32 10 [],oB 33 .neq 32 (cI 0) [0]] (.cond 33 (sq [oN 34 (.build [.nils,.nils,.nils] []) [],oM 35 10 [],oS 3 8 34 [0,0],oM 9 35 [1,2,0,1,2]] .ret) .skip)) (.seq (sq [oA 36 2 5 [],oD 37 1 36 [0],oE 38 37 [1],oM 39 2 [],oE 40 39 [3],oB 41 .add 38 40 [2,4],oB 42 .gtr 41 (cI 24) [5]] (.cond 42 (sq [oN 43 (.build [.nils,.nils,.nils] []) [],oS 3 8 43 [0,0],oN 9 (.mv (cI 2)) [1,0,1]] .ret) .skip)) (sq [oA 44 2 5 [],oD 45 1 44 [0],oC 46 53 [45] [1],oM 47 2 [],oC 48 53 [47] [3,2],oN 49 (.app 85 1 24 [.nils] 46 48) [2,4,4],oN 50 (.build [.nils,.nils,.nils] [(2,1,49)]) [5],oN 11 (.alloc 35 3 [.nils,.nils,.nils]) [],oS 3 11 50 (7::6::5::up 8)] (.seq (sq [oN 12 (.mv (cI 0)) []] (.block 0 (.loop (.seq (sq [oM 51 12 [],oA 52 1 4 [],oD 53 1 52 [1],oE 54 53 [2],oB 55 .lss 51 54 [0,3]] (.cond 55 .skip (.exit 0))) (.seq (.block 1 (sq [oA 58 1 4 [],oD 59 1 58 [0],oM 60 12 [],oX 61 1 59 60 [1,2],oD 62 1 61 [3],oM 13 62 (4::up 5)] (dq [oA 63 1 11 [],oD 64 1 63 [0],oA 65 1 5 [],oD 66 1 65 [2],oM 67 12 [],oX 68 1 66 67 [3,4],oD 69 1 68 [5],oM 70 69 [6],pM 71 13 70 false [7],pM 72 2 70 false [7],oG 73 (.call 54 [71,72]) 70 false [8,9,7,7],oG 74 (.un .not 73) 70 false [10,7],oN 75 (.pick 70 (.c (.bool true)) 74) [7,11],oM 76 75 [12,10],pM 77 13 76 false [13],pM 78 3 76 false [13],oG 79 (.call 54 [77,78]) 76 false [14,15,13,13],oG 80 (.un .not 79) 76 false [16,13],oN 81 (.pick 76 (.c (.bool true)) 80) [13,17],oN 82 (.bslice 4 1 [(.bool false)] 1 [(0,81)]) [18],oN 83 (.app 4 1 1 [(.bool false)] 64 82) [1,19,16],oA 84 1 11 (up 21),oS 1 84 83 (21::20::20::up 21)] (sq [oA 85 0 5 [],oD 86 1 85 [0],oM 87 12 [],oX 88 1 86 87 [1,2],oD 89 1 88 [3],oM 14 89 (4::up 5)] (.seq (sq [oM 90 14 [],oN 91 (.un .not 90) [0]] (.cond 91 (sq [oA 93 2 11 [],oD 94 1 93 [0],oM 95 13 [],oC 96 56 [94,95] [1,2],oM 97 13 [],oC 98 55 [96,97] [3,4,3],oM 92 98 [5],oN 99 (.ext 92 0) [6],oN 100 (.ext 92 1) [6],oM 14 99 (7::5::up 8),oM 10 100 (8::9::up 10)] (sq [oM 101 10 [],oB 102 .neq 101 (cI 0) [0]] (.cond 102 (sq [oN 103 (.build [.nils,.nils,.nils] []) [],oM 104 10 [],oS 3 8 103 [0,0],oM 9 104 [1,2,0,1,2]] .ret) .skip))) .skip)) (rg [oA 105 0 11 [],oD 106 1 105 [0],oM 107 14 [],oN 108 (.bslice 4 1 [(.bool false)] 1 [(0,107)]) [2],oN 109 (.app 4 1 1 [(.bool false)] 106 108) [1,3],oA 110 0 11 (up 5),oS 1 110 109 (5::4::4::up 5)])))))) (rg [oM 56 12 [],oB 57 .add 56 (cI 1) [0],oM 12 57 [1,0,1]])))))) (sq [oL 111 3 11 [],oS 3 8 111 [0,0],oN 9 (.mv (cI 0)) [1,0,1]] .ret)))))))))))
theorem mcOkv10:okM Tryz.prog Tryz.f10 112=some mcv10:=by kernel_rfl
set_option maxHeartbeats 2000000 in
theorem vc10 (p:Pa) (hp:GoodP p) (cs:List (List Pl)) (hc:∀ c∈cs,CutOK c) (hcn:cs.length<=3):FC Tryz.prog 10 [.agg (cPa p),.agg (cPc (newS p.cells.length)),.rs 1 (cs.map cR),.rs 1 []] [] (.tup [.agg (cPc (appR p cs).1),iv (appR p cs).2]) [] true:=by
 have hpn:=hp.n
 have hcl:∀ c∈cs,1<=c.length/\c.length<=8:=fun c h=>(hc c h).len
 have hc0:=ckAll_cut hc
 refine Qg (nt:=112) Tryz.func10 rfl rfl mcOkv10 (nL rfl) ?_
 delta mcv10
 refine gA 10 rfl (cN rfl rfl (vc50 p hp.ok) ?_)
 rw [hp.check]
 refine gR 6 rfl (Qp rfl rfl rfl rfl (fun h=>h rfl) (gR 8 rfl (cN rfl rfl (vc51 p (newS p.cells.length) ⟨Nat.zero_le _,fun c h=>by cases h⟩) ?_)))
 rw [fits_t (p:=p) (x:=newS p.cells.length) (by simp [newS]) (by simp [newS]) (Nat.zero_le _) rfl]
 refine gR 7 rfl (cN rfl rfl (vc52 cs (by omega) (fun c h=>by have:=hcl c h; omega)) ?_)
 rw [hc0]
 refine gR 6 rfl (QA rfl rfl rfl rfl rfl (gR 4 rfl (cN rfl rfl (vc52 [] (by decide) (fun c h=>by cases h)) (gR 6 rfl (Qp rfl rfl rfl rfl (fun h=>h rfl) (gR 8 rfl (rs_len_r (n:=0) rfl rfl rfl (gR 1 rfl (Qe rfl rfl (gR 0 rfl (Qf rfl rfl rfl (by omega) ?_)))))))))))
 refine gR 0 rfl (Qp rfl rfl rfl rfl (by omega) (gR 7 rfl (Qr [] rfl rfl (vc53 [] (fun c h=>by cases h) (by decide)) (.cons (Qd rfl) (.nil)) (.nil) rfl rfl rfl (gR 1 rfl (Qr [] rfl rfl (vc53b cs (fun c h=>by have:=hcl c h; omega) (by omega)) (.cons (Qd rfl) (.nil)) (.nil) rfl rfl rfl (gR 0 rfl (XO (f:=cR) (ys:=cs) (n:=cs.length) (rd:=[902]) rfl rfl rfl rfl (src_full rfl (by simp)) rfl rfl (by simp) (fun _=>rfl) rfl (by omega) (by omega) (fun _=>rfl) (gR 6 rfl (QH (F0:=[(2,.rs 1 (cs.map cR)),(3,.rs 1 []),(4,.ptr 4 0 0),(5,.ptr 5 0 0),(8,.ptr 8 0 0),(11,.ptr 11 0 0)]) (H0:=[(4,.cells 31 3 [cPa p] true),(5,.cells 35 3 [cPc (newS p.cells.length)] true),(8,.cells 35 3 [[.nils,.nils,.nils]] true),(49,.cells 85 1 (cs.map cR) true),(11,.cells 35 3 [[.sl 905 0 (0),.sl 906 0 (0),.sl 49 0 cs.length]] false),(905,.cells 4 1 (((p.cells.take (0)).map (suR cs)).map cB) true),(906,.cells 4 1 (((p.cells.take (0)).map (touS cs)).map cB) true)]) (Weak.trans (F1:=[(2,.rs 1 (cs.map cR)),(3,.rs 1 []),(4,.ptr 4 0 0),(5,.ptr 5 0 0),(8,.ptr 8 0 0),(11,.ptr 11 0 0)]) (H1:=[(4,.cells 31 3 [cPa p] true),(5,.cells 35 3 [cPc (newS p.cells.length)] true),(8,.cells 35 3 [[.nils,.nils,.nils]] true),(49,.cells 85 1 (cs.map cR) true),(11,.cells 35 3 [[.nils,.nils,.sl 49 0 cs.length]] false)]) (Qb (Qa rfl rfl) (kS rfl rfl) (fun i h=>by cases h)) (Weak.trans (F1:=[(2,.rs 1 (cs.map cR)),(3,.rs 1 []),(4,.ptr 4 0 0),(5,.ptr 5 0 0),(8,.ptr 8 0 0),(11,.ptr 11 0 0)]) (H1:=[(11,.cells 35 3 [[.sl 905 0 0,.nils,.sl 49 0 cs.length]] false),(905,.cells 4 1 [] true),(4,.cells 31 3 [cPa p] true),(5,.cells 35 3 [cPc (newS p.cells.length)] true),(8,.cells 35 3 [[.nils,.nils,.nils]] true),(49,.cells 85 1 (cs.map cR) true)]) (Weak.trans (F1:=[(2,.rs 1 (cs.map cR)),(3,.rs 1 []),(4,.ptr 4 0 0),(5,.ptr 5 0 0),(8,.ptr 8 0 0),(11,.ptr 11 0 0)]) (Xy (i:=905) (k:=11) (e2:=4) (z2:=1) (fl2:=true) rfl rfl .here) (Qb (Qa rfl rfl) (kS rfl rfl) (fun i h=>by cases h))) (Weak.trans (F1:=[(2,.rs 1 (cs.map cR)),(3,.rs 1 []),(4,.ptr 4 0 0),(5,.ptr 5 0 0),(8,.ptr 8 0 0),(11,.ptr 11 0 0)]) (Xy (i:=906) (k:=11) (e2:=4) (z2:=1) (fl2:=true) rfl rfl (.next .here)) (Qb (Qa rfl rfl) (kS rfl rfl) (fun i h=>by cases h))))) (gK 4 rfl ?_))))))))))
 refine Qo (α:=Nat) (fun k=>p.cells.length-k) (fun k=>[(2,.rs 1 (cs.map cR)),(3,.rs 1 []),(4,.ptr 4 0 0),(5,.ptr 5 0 0),(8,.ptr 8 0 0),(11,.ptr 11 0 0),(12,iv (((k):Nat):Int))]) (fun k=>[(4,.cells 31 3 [cPa p] true),(5,.cells 35 3 [cPc (newS p.cells.length)] true),(8,.cells 35 3 [[.nils,.nils,.nils]] true),(49,.cells 85 1 (cs.map cR) true),(11,.cells 35 3 [[.sl 905 0 (k),.sl 906 0 (k),.sl 49 0 cs.length]] false),(905,.cells 4 1 (((p.cells.take (k)).map (suR cs)).map cB) true),(906,.cells 4 1 (((p.cells.take (k)).map (touS cs)).map cB) true)]) (fun k=>k<=p.cells.length/\apER cs (p.cells.drop k)=apER cs p.cells) 0 (⟨by omega,rfl⟩)
  (Qb (Qa rfl rfl) (kS rfl rfl) (fun i h=>by cases h)) ?_
 rintro k ⟨hk,hinv⟩
 refine gT 6 rfl (Qe rfl rfl (gR 2 rfl (Qc rfl (fun h55=>?_) (fun h55=>?_))))
 ·replace h55:=of_decide_eq_true h55
  refine gK 4 rfl ?_
  obtain ⟨c,hck,hcm⟩:=Qk (L:=p.cells) (k:=k) (by omega)
  have hccl:=(hp.cells.ok c hcm).len
  rw [apER_at hck] at hinv
  refine gI 4 rfl (Qi (f:=cR) (y:=c) rfl rfl rfl (by omega) hck (gR 10 rfl (Qi (f:=cB) (xs:=List.replicate p.cells.length false) (y:=false) rfl rfl rfl (by omega) (rep_at (by omega)) (gR 4 rfl (cN rfl rfl (vc54 c cs (by omega) (fun x hx=>by have:=hcl x hx; omega) (by omega)) ?_)))))
  cases h73:Xz c cs
  ·skip
   refine gR 8 rfl (bM cB (([true]:List Bool)) (by kernel_rfl) (gR 0 rfl (Qq (f:=cB) (xs:=(p.cells.take k).map (touS cs)) (y:=true) (fl':=true) rfl rfl rfl rfl (by simp; omega) rfl rfl rfl (by decide) rfl (by omega) (by omega) rfl (gR 2 rfl (Q9 (by kernel_rfl) (gP 5 rfl (Qi (f:=cB) (xs:=List.replicate p.cells.length false) (y:=false) rfl rfl rfl (by omega) (rep_at (by omega)) (gR 15 rfl (Qr [(49,.cells 85 1 (cs.map cR) true)] rfl rfl (vc56_ 49 (by decide) cs c (fun x hx=>by have:=hcl x hx; omega) (by omega) (by omega)) (.cons (Qd rfl) (.cons (Qd rfl) (.nil))) (.cons rfl (.nil)) rfl rfl rfl (gR 1 rfl (cN rfl rfl ((show FC Tryz.prog 55 _ [] (.tup [.bool (suR cs c),iv (sureR cs c).2]) [] false from vc55 (cs.filter (nearB c)) c ⟨by omega⟩ (fun q hq=>⟨by have:=hcl q (List.mem_filter.1 hq).1; omega⟩) (by have:=List.length_filter_le (nearB c) cs; omega))) ?_)))))))))))
   refine gR 9 rfl (Xv rfl rfl rfl (gR 1 rfl (Qc rfl (fun h102=>?_) (fun h102=>?_))))
   ·replace h102:=of_decide_eq_true h102
    refine gK 8 rfl ?_
    rw [if_pos h102] at hinv
    rw [appR_1 (by rw [← hinv]; exact h102),← hinv]
    exact Qt <| Ql rfl (QI (.cons (Xg (.cons Qy (.cons Qy (.cons Qy .nil)))) (.cons sm .nil))) .nil
   ·replace h102:=of_decide_eq_false h102
    refine gK 5 rfl (bM cB (([suR cs c]:List Bool)) (by kernel_rfl) (gR 0 rfl (Qq (f:=cB) (xs:=(p.cells.take k).map (suR cs)) (y:=suR cs c) (fl':=true) rfl rfl rfl rfl (by simp; omega) rfl rfl rfl (by decide) rfl (by omega) (by omega) rfl (gR 5 rfl (Qf rfl rfl rfl (by omega) (gR 2 rfl ?_))))))
    rw [if_neg h102] at hinv
    exact Qz <| ⟨k+1,⟨by omega,hinv⟩,by omega,Weak.trans (F1:=[(2,.rs 1 (cs.map cR)),(3,.rs 1 []),(4,.ptr 4 0 0),(5,.ptr 5 0 0),(8,.ptr 8 0 0),(11,.ptr 11 0 0),(12,iv (((k+1):Nat):Int))]) (H1:=[(4,.cells 31 3 [cPa p] true),(5,.cells 35 3 [cPc (newS p.cells.length)] true),(8,.cells 35 3 [[.nils,.nils,.nils]] true),(49,.cells 85 1 (cs.map cR) true),(11,.cells 35 3 [[.sl 109 0 (k+1),.sl 906 0 (k+1),.sl 49 0 cs.length]] false),(109,.cells 4 1 (((p.cells.take (k+1)).map (suR cs)).map cB) true),(906,.cells 4 1 (((p.cells.take (k+1)).map (touS cs)).map cB) true)]) (show Weak _ _ _ _ [(2,.rs 1 (cs.map cR)),(3,.rs 1 []),(4,.ptr 4 0 0),(5,.ptr 5 0 0),(8,.ptr 8 0 0),(11,.ptr 11 0 0),(12,iv (((k+1):Nat):Int))] [(4,.cells 31 3 [cPa p] true),(5,.cells 35 3 [cPc (newS p.cells.length)] true),(8,.cells 35 3 [[.nils,.nils,.nils]] true),(49,.cells 85 1 (cs.map cR) true),(11,.cells 35 3 [[.sl 109 0 (k+1),.sl 906 0 (k+1),.sl 49 0 cs.length]] false),(109,.cells 4 1 (((p.cells.take (k+1)).map (suR cs)).map cB) true),(906,.cells 4 1 (((p.cells.take (k+1)).map (touS cs)).map cB) true)] from Weak.trans (F1:=[(2,.rs 1 (cs.map cR)),(3,.rs 1 []),(4,.ptr 4 0 0),(5,.ptr 5 0 0),(8,.ptr 8 0 0),(11,.ptr 11 0 0),(12,iv (((k+1):Nat):Int))]) (H1:=[(4,.cells 31 3 [cPa p] true),(5,.cells 35 3 [cPc (newS p.cells.length)] true),(8,.cells 35 3 [[.nils,.nils,.nils]] true),(49,.cells 85 1 (cs.map cR) true),(11,.cells 35 3 [[.sl 109 0 (k+1),.sl 83 0 (k+1),.sl 49 0 cs.length]] false),(109,.cells 4 1 (((p.cells.take (k+1)).map (suR cs)).map cB) true),(83,.cells 4 1 (((p.cells.take (k+1)).map (touS cs)).map cB) true)]) (Qb (Qa rfl rfl) (.keep (rfl) rfl (.keep (rfl) rfl (.keep (rfl) rfl (.keep (rfl) rfl (.keep (rfl) rfl (.keep (by rw [tk_su hck]; rfl) rfl (.keep (by rw [tk_su hck,show touS cs c=true from by unfold touS; rw [h73]; rfl]; rfl) rfl (.nil)))))))) fun i h=>by cases h) (Weak.trans (F1:=[(2,.rs 1 (cs.map cR)),(3,.rs 1 []),(4,.ptr 4 0 0),(5,.ptr 5 0 0),(8,.ptr 8 0 0),(11,.ptr 11 0 0),(12,iv (((k+1):Nat):Int))]) (QN (i:=83) (i':=906) (k:=11) rfl rfl (.cons rfl (.same _) (.cons rfl (.same _) (.cons rfl (.same _) (.cons rfl (.same _) (.cons rfl (.same _) (.cons rfl (.same _) (.cons rfl (.same _) (.nil)))))))) (by decide) rfl (.cons (.same _) (.cons (.sl _ _) (RenL.refl _ _ _)))) (Qb (Qa rfl rfl) (kS rfl rfl) fun i h=>by cases h))) (show Weak _ _ _ _ [(2,.rs 1 (cs.map cR)),(3,.rs 1 []),(4,.ptr 4 0 0),(5,.ptr 5 0 0),(8,.ptr 8 0 0),(11,.ptr 11 0 0),(12,iv (((k+1):Nat):Int))] [(4,.cells 31 3 [cPa p] true),(5,.cells 35 3 [cPc (newS p.cells.length)] true),(8,.cells 35 3 [[.nils,.nils,.nils]] true),(49,.cells 85 1 (cs.map cR) true),(11,.cells 35 3 [[.sl 905 0 (k+1),.sl 906 0 (k+1),.sl 49 0 cs.length]] false),(905,.cells 4 1 (((p.cells.take (k+1)).map (suR cs)).map cB) true),(906,.cells 4 1 (((p.cells.take (k+1)).map (touS cs)).map cB) true)] from Weak.trans (F1:=[(2,.rs 1 (cs.map cR)),(3,.rs 1 []),(4,.ptr 4 0 0),(5,.ptr 5 0 0),(8,.ptr 8 0 0),(11,.ptr 11 0 0),(12,iv (((k+1):Nat):Int))]) (H1:=[(4,.cells 31 3 [cPa p] true),(5,.cells 35 3 [cPc (newS p.cells.length)] true),(8,.cells 35 3 [[.nils,.nils,.nils]] true),(49,.cells 85 1 (cs.map cR) true),(11,.cells 35 3 [[.sl 109 0 (k+1),.sl 906 0 (k+1),.sl 49 0 cs.length]] false),(109,.cells 4 1 (((p.cells.take (k+1)).map (suR cs)).map cB) true),(906,.cells 4 1 (((p.cells.take (k+1)).map (touS cs)).map cB) true)]) (Qb (Qa rfl rfl) (kS rfl rfl) fun i h=>by cases h) (Weak.trans (F1:=[(2,.rs 1 (cs.map cR)),(3,.rs 1 []),(4,.ptr 4 0 0),(5,.ptr 5 0 0),(8,.ptr 8 0 0),(11,.ptr 11 0 0),(12,iv (((k+1):Nat):Int))]) (QN (i:=109) (i':=905) (k:=11) rfl rfl (.cons rfl (.same _) (.cons rfl (.same _) (.cons rfl (.same _) (.cons rfl (.same _) (.cons rfl (.same _) (.cons rfl (.same _) (.cons rfl (.same _) (.nil)))))))) (by decide) rfl (.cons (.sl _ _) (RenL.refl _ _ _))) (Qb (Qa rfl rfl) (kS rfl rfl) fun i h=>by cases h)))⟩
  ·skip
   refine gR 5 rfl (cN rfl rfl (vc54n c (by omega)) (gR 2 rfl (bM cB (([false]:List Bool)) (by kernel_rfl) (gR 0 rfl (Qq (f:=cB) (xs:=(p.cells.take k).map (touS cs)) (y:=false) (fl':=true) rfl rfl rfl rfl (by simp; omega) rfl rfl rfl (by decide) rfl (by omega) (by omega) rfl (gR 2 rfl (Q9 (by kernel_rfl) (gP 5 rfl (Qi (f:=cB) (xs:=List.replicate p.cells.length false) (y:=false) rfl rfl rfl (by omega) (rep_at (by omega)) (gR 15 rfl (Qr [(49,.cells 85 1 (cs.map cR) true)] rfl rfl (vc56_ 49 (by decide) cs c (fun x hx=>by have:=hcl x hx; omega) (by omega) (by omega)) (.cons (Qd rfl) (.cons (Qd rfl) (.nil))) (.cons rfl (.nil)) rfl rfl rfl ?_)))))))))))
   refine gR 1 rfl (cN rfl rfl ((show FC Tryz.prog 55 _ [] (.tup [.bool (suR cs c),iv (sureR cs c).2]) [] false from vc55 (cs.filter (nearB c)) c ⟨by omega⟩ (fun q hq=>⟨by have:=hcl q (List.mem_filter.1 hq).1; omega⟩) (by have:=List.length_filter_le (nearB c) cs; omega))) (gR 9 rfl (Xv rfl rfl rfl (gR 1 rfl (Qc rfl (fun h102=>?_) (fun h102=>?_))))))
   ·replace h102:=of_decide_eq_true h102
    refine gK 8 rfl ?_
    rw [if_pos h102] at hinv
    rw [appR_1 (by rw [← hinv]; exact h102),← hinv]
    exact Qt <| Ql rfl (QI (.cons (Xg (.cons Qy (.cons Qy (.cons Qy .nil)))) (.cons sm .nil))) .nil
   ·replace h102:=of_decide_eq_false h102
    refine gK 5 rfl (bM cB (([suR cs c]:List Bool)) (by kernel_rfl) (gR 0 rfl (Qq (f:=cB) (xs:=(p.cells.take k).map (suR cs)) (y:=suR cs c) (fl':=true) rfl rfl rfl rfl (by simp; omega) rfl rfl rfl (by decide) rfl (by omega) (by omega) rfl (gR 5 rfl (Qf rfl rfl rfl (by omega) (gR 2 rfl ?_))))))
    rw [if_neg h102] at hinv
    exact Qz <| ⟨k+1,⟨by omega,hinv⟩,by omega,Weak.trans (F1:=[(2,.rs 1 (cs.map cR)),(3,.rs 1 []),(4,.ptr 4 0 0),(5,.ptr 5 0 0),(8,.ptr 8 0 0),(11,.ptr 11 0 0),(12,iv (((k+1):Nat):Int))]) (H1:=[(4,.cells 31 3 [cPa p] true),(5,.cells 35 3 [cPc (newS p.cells.length)] true),(8,.cells 35 3 [[.nils,.nils,.nils]] true),(49,.cells 85 1 (cs.map cR) true),(11,.cells 35 3 [[.sl 109 0 (k+1),.sl 906 0 (k+1),.sl 49 0 cs.length]] false),(109,.cells 4 1 (((p.cells.take (k+1)).map (suR cs)).map cB) true),(906,.cells 4 1 (((p.cells.take (k+1)).map (touS cs)).map cB) true)]) (show Weak _ _ _ _ [(2,.rs 1 (cs.map cR)),(3,.rs 1 []),(4,.ptr 4 0 0),(5,.ptr 5 0 0),(8,.ptr 8 0 0),(11,.ptr 11 0 0),(12,iv (((k+1):Nat):Int))] [(4,.cells 31 3 [cPa p] true),(5,.cells 35 3 [cPc (newS p.cells.length)] true),(8,.cells 35 3 [[.nils,.nils,.nils]] true),(49,.cells 85 1 (cs.map cR) true),(11,.cells 35 3 [[.sl 109 0 (k+1),.sl 906 0 (k+1),.sl 49 0 cs.length]] false),(109,.cells 4 1 (((p.cells.take (k+1)).map (suR cs)).map cB) true),(906,.cells 4 1 (((p.cells.take (k+1)).map (touS cs)).map cB) true)] from Weak.trans (F1:=[(2,.rs 1 (cs.map cR)),(3,.rs 1 []),(4,.ptr 4 0 0),(5,.ptr 5 0 0),(8,.ptr 8 0 0),(11,.ptr 11 0 0),(12,iv (((k+1):Nat):Int))]) (H1:=[(4,.cells 31 3 [cPa p] true),(5,.cells 35 3 [cPc (newS p.cells.length)] true),(8,.cells 35 3 [[.nils,.nils,.nils]] true),(49,.cells 85 1 (cs.map cR) true),(11,.cells 35 3 [[.sl 109 0 (k+1),.sl 83 0 (k+1),.sl 49 0 cs.length]] false),(109,.cells 4 1 (((p.cells.take (k+1)).map (suR cs)).map cB) true),(83,.cells 4 1 (((p.cells.take (k+1)).map (touS cs)).map cB) true)]) (Qb (Qa rfl rfl) (.keep (rfl) rfl (.keep (rfl) rfl (.keep (rfl) rfl (.keep (rfl) rfl (.keep (rfl) rfl (.keep (by rw [tk_su hck]; rfl) rfl (.keep (by rw [tk_su hck,show touS cs c=false from by unfold touS; rw [h73]; rfl]; rfl) rfl (.nil)))))))) fun i h=>by cases h) (Weak.trans (F1:=[(2,.rs 1 (cs.map cR)),(3,.rs 1 []),(4,.ptr 4 0 0),(5,.ptr 5 0 0),(8,.ptr 8 0 0),(11,.ptr 11 0 0),(12,iv (((k+1):Nat):Int))]) (QN (i:=83) (i':=906) (k:=11) rfl rfl (.cons rfl (.same _) (.cons rfl (.same _) (.cons rfl (.same _) (.cons rfl (.same _) (.cons rfl (.same _) (.cons rfl (.same _) (.cons rfl (.same _) (.nil)))))))) (by decide) rfl (.cons (.same _) (.cons (.sl _ _) (RenL.refl _ _ _)))) (Qb (Qa rfl rfl) (kS rfl rfl) fun i h=>by cases h))) (show Weak _ _ _ _ [(2,.rs 1 (cs.map cR)),(3,.rs 1 []),(4,.ptr 4 0 0),(5,.ptr 5 0 0),(8,.ptr 8 0 0),(11,.ptr 11 0 0),(12,iv (((k+1):Nat):Int))] [(4,.cells 31 3 [cPa p] true),(5,.cells 35 3 [cPc (newS p.cells.length)] true),(8,.cells 35 3 [[.nils,.nils,.nils]] true),(49,.cells 85 1 (cs.map cR) true),(11,.cells 35 3 [[.sl 905 0 (k+1),.sl 906 0 (k+1),.sl 49 0 cs.length]] false),(905,.cells 4 1 (((p.cells.take (k+1)).map (suR cs)).map cB) true),(906,.cells 4 1 (((p.cells.take (k+1)).map (touS cs)).map cB) true)] from Weak.trans (F1:=[(2,.rs 1 (cs.map cR)),(3,.rs 1 []),(4,.ptr 4 0 0),(5,.ptr 5 0 0),(8,.ptr 8 0 0),(11,.ptr 11 0 0),(12,iv (((k+1):Nat):Int))]) (H1:=[(4,.cells 31 3 [cPa p] true),(5,.cells 35 3 [cPc (newS p.cells.length)] true),(8,.cells 35 3 [[.nils,.nils,.nils]] true),(49,.cells 85 1 (cs.map cR) true),(11,.cells 35 3 [[.sl 109 0 (k+1),.sl 906 0 (k+1),.sl 49 0 cs.length]] false),(109,.cells 4 1 (((p.cells.take (k+1)).map (suR cs)).map cB) true),(906,.cells 4 1 (((p.cells.take (k+1)).map (touS cs)).map cB) true)]) (Qb (Qa rfl rfl) (kS rfl rfl) fun i h=>by cases h) (Weak.trans (F1:=[(2,.rs 1 (cs.map cR)),(3,.rs 1 []),(4,.ptr 4 0 0),(5,.ptr 5 0 0),(8,.ptr 8 0 0),(11,.ptr 11 0 0),(12,iv (((k+1):Nat):Int))]) (QN (i:=109) (i':=905) (k:=11) rfl rfl (.cons rfl (.same _) (.cons rfl (.same _) (.cons rfl (.same _) (.cons rfl (.same _) (.cons rfl (.same _) (.cons rfl (.same _) (.cons rfl (.same _) (.nil)))))))) (by decide) rfl (.cons (.sl _ _) (RenL.refl _ _ _))) (Qb (Qa rfl rfl) (kS rfl rfl) fun i h=>by cases h)))⟩
 ·replace h55:=of_decide_eq_false h55
  refine gK 8 rfl ?_
  obtain rfl:k=p.cells.length:=by omega
  rw [appR_0 (by rw [← hinv,List.drop_eq_nil_of_le (Nat.le_refl _)]; rfl),show (⟨p.cells.map (suR cs),p.cells.map (touS cs),cs⟩,0)=((⟨(p.cells.take p.cells.length).map (suR cs),(p.cells.take p.cells.length).map (touS cs),cs⟩:Pc),(0:Int)) from by rw [List.take_length]]
  exact Qt <| Ql rfl (QI (.cons (Xg (.cons (Q5 (f:=cB) (xs:=(p.cells.take p.cells.length).map (suR cs)) rfl rfl (by simp) (fun _=>rfl)) (.cons (Q5 (f:=cB) (xs:=(p.cells.take p.cells.length).map (touS cs)) rfl rfl (by simp) (fun _=>rfl)) (.cons (Xu (f:=cR) (xs:=cs) rfl rfl rfl) .nil)))) (.cons sm .nil))) .nil
def mcv17:MC:=(sq [oN 3 (.box 31 3 0) [],oN 4 (.box 35 3 1) [],oN 6 (.mv (.c .nils)) []] (.seq (sq [oL 9 3 3 [],oC 10 50 [9] [0],oB 11 .neq 10 (cI 0) [1],oM 12 11 [2,1],oG 13 (.ld true 3 3) 12 false [3],oG 14 (.ld true 3 4) 12 false [3],oG 15 (.call 51 [13,14]) 12 false [4,5,3,3],oG 16 (.un .not 15) 12 false [6,3],oN 17 (.pick 12 (.c (.bool true)) 16) [3,7],oM 18 17 [8,6],pM 19 2 18 false [9],oG 20 (.seq false 19 (.c (.str (strN [])))) 18 false [10,9],oN 21 (.pick 18 (.c (.bool true)) 20) [9,11]] (.cond 21 (sq [oN 6 (.mv (.c .nils)) []] .ret) .skip)) (sq [oN 7 (.mv (.c .nils)) []] (.seq (sq [oN 8 (.mv (cI 0)) []] (.block 0 (.loop (.seq (sq [oM 22 8 [],oA 23 1 3 [],oD 24 1 23 [1],oE 25 24 [2],oB 26 .lss 22 25 [0,3]] (.cond 26 .skip (.exit 0))) (.seq (.block 1 (dg [oM 29 7 [],oM 30 8 [],oA 31 2 3 [],oD 32 1 31 [2],oM 33 8 [],oX 34 1 32 33 [3,4],oD 35 1 34 [5],oA 36 0 4 [],oD 37 1 36 [7],oM 38 8 [],oX 39 1 37 38 [8,9],oD 40 1 39 [10],oA 41 1 4 [],oD 42 1 41 [12],oM 43 8 [],oX 44 1 42 43 [13,14],oD 45 1 44 [15],oM 46 2 [],oM 47 8 [],oC 48 38 [47] [18],oC 49 59 [46,48] [17,19,19],oN 50 (.build [(iv 0),(iv 0),(.bool false),(.bool false),(.str (strN []))] [(0,1,30),(1,1,35),(2,1,40),(3,1,45),(4,1,49)]) [1,6,11,16,20],oN 51 (.bslice 51 5 [(iv 0),(iv 0),(.bool false),(.bool false),(.str (strN []))] 1 [(0,50)]) [21],oN 52 (.app 51 5 40 [(iv 0),(iv 0),(.bool false),(.bool false),(.str (strN []))] 29 51) [0,22,20],oM 7 52 (23::23::up 24)])) (rg [oM 27 8 [],oB 28 .add 27 (cI 1) [0],oM 8 28 [1,0,1]])))))) (sq [oM 53 7 [],oM 6 53 [0,0]] .ret)))))
theorem mcOkv17:okM Tryz.prog Tryz.f17 54=some mcv17:=by kernel_rfl
theorem vc17 (p:Pa) (hp:PaOK p) (x:Pc) (hx:PcOK x) (s:List Int) (hs:B8 s/\s.length<=LIM):FC Tryz.prog 17 [.agg (cPa p),.agg (cPc x),.str (strN s)] [] (.rs 5 ((QV p x s).map cLf)) [] false:=by
 refine Qg (nt:=54) Tryz.func17 rfl rfl mcOkv17 (nL rfl) ?_
 delta mcv17
 refine gA 10 rfl (cN rfl rfl (vc50 p hp) (gR 0 rfl (Qx rfl rfl rfl rfl (fun h11=>?_) (fun h11=>?_))))
 ·skip
  refine gR 17 rfl ?_
  rw [lea_nil (p:=p) (x:=x) (s:=s) (fun q=>by exact h11 q.1)]
  exact Qt <| Ql rfl Qy .nil
 ·skip
  refine gR 3 rfl (cN rfl rfl (vc51 p x hx) ?_)
  cases h15:fitsB p x
  ·skip
   refine gR 13 rfl ?_
   rw [lea_nil (p:=p) (x:=x) (s:=s) (fun q=>by rw [h15] at q; exact absurd q.2.1 (by decide))]
   exact Qt <| Ql rfl Qy .nil
  ·skip
   refine gR 4 rfl (rs_seq (r:=decide (s=[])) rfl rfl rfl hs.1 (fun x hx=>by cases hx) (by by_cases e:s=[] <;> simp [e]) ?_)
   cases h20:decide (s=[])
   ·skip
    refine gR 5 rfl ?_
    obtain ⟨he1,he2,he3,he4,he5⟩:=lea_all (p:=p) (x:=x) (s:=s) (by omega) h15 (of_decide_eq_false h20)
    refine gI 9 rfl ?_
    refine Qo (α:=Nat) (fun k=>p.cells.length-k) (fun k=>[(2,.str (strN s)),(3,.ptr 3 0 0),(4,.ptr 4 0 0),(7,.sl 901 0 (k)),(8,iv (((k):Nat):Int))]) (fun k=>[(3,.cells 31 3 [cPa p] true),(4,.cells 35 3 [cPc x] true),(901,.cells 51 5 (((List.range (k)).map (Jf p x s)).map cLf) true)]) (fun k=>k<=p.cells.length) 0 (by omega)
     (Qb (.cs (.cs (.cs (.cons rfl (Xj rfl rfl) (.cs (.nil)))))) (.keep (rfl) rfl (.keep (rfl) rfl (.virt rfl (.nil)))) (fun i h=>by cases h)) ?_
    intro k hk
    refine gT 6 rfl (Qe rfl rfl (gR 2 rfl (Qc rfl (fun h26=>?_) (fun h26=>?_))))
    ·replace h26:=of_decide_eq_true h26
     refine gK 9 rfl (Qi (f:=civ) (xs:=p.want) (y:=p.want.getD k 0) rfl rfl rfl (by omega) (w_at (by omega)) (gR 4 rfl (Qi (f:=cB) (xs:=x.sure) (y:=x.sure.getD k false) rfl rfl rfl (by omega) (b_at (by omega)) (gR 4 rfl (Qi (f:=cB) (xs:=x.touched) (y:=x.touched.getD k false) rfl rfl rfl (by omega) (b_at (by omega)) (gR 3 rfl (cN rfl rfl (vc38 (k:Int) (show I64 (k:Int) from ⟨by omega,by omega⟩)) (gR 0 rfl (cN rfl rfl (vc59 s (Jd k) hs ⟨vint_8 k,Nat.le_trans (Xl k) (by decide)⟩) (gR 1 rfl (bM cLf (([Jf p x s k]:List Lf)) (by kernel_rfl) ?_)))))))))))
     refine gR 0 rfl (Qq (f:=cLf) (xs:=(List.range k).map (Jf p x s)) (y:=Jf p x s k) (fl':=true) rfl rfl rfl rfl (by simp) rfl rfl rfl (by decide) rfl (by omega) (by omega) rfl (gR 1 rfl (Q9 (by kernel_rfl) (gP 2 rfl (Qf rfl rfl rfl (by omega) (gR 2 rfl ?_))))))
     exact Qz <| ⟨k+1,by omega,by omega,wR 52 901 (Qa rfl rfl) (.keep (rfl) rfl (.keep (rfl) rfl (.keep (by rw [List.range_succ,show (List.range k++[k]).map (Jf p x s)=(List.range k).map (Jf p x s)++[Jf p x s k] from List.map_append]; rfl) rfl (.nil)))) rfl⟩
    ·replace h26:=of_decide_eq_false h26
     refine gK 7 rfl ?_
     obtain rfl:k=p.cells.length:=by omega
     rw [he5]
     exact Qt <| Ql rfl (Q5 (f:=cLf) (xs:=(List.range p.cells.length).map (Jf p x s)) rfl rfl (by simp) (fun _=>rfl)) .nil
   ·skip
    refine gR 8 rfl ?_
    rw [lea_nil (p:=p) (x:=x) (s:=s) (fun q=>by exact q.2.2 (of_decide_eq_true h20))]
    exact Qt <| Ql rfl Qy .nil
end Go.Proofs.YthfhaoogcpfboaaGreat
namespace Go.Proofs.YthfhaoogcpfboaaGreat
open Go.RowKit
set_option maxRecDepth 100000
set_option linter.unusedVariables false
theorem rc_frzTA {α:Type} {f:α->List AV} {xs:List α} {H H0:Hp} {i e z n:Nat} (h:get H i=some (.cells e z (xs.map f) true)) (h0:get H0 i=none) (hn:n<=xs.length):RC H H0 true (.sl i 0 n) (.rs z ((xs.take n).map f)):=by
 have:=rc_freeze (H0:=H0) (al:=true) (j:=0) (n:=n) h h0 (by simpa using hn) (.inl rfl)
 rw [List.drop_zero,← List.map_take] at this
 exact this
abbrev bx20:List Pl:=JL ⟨20,20,0⟩ ⟨21,21,1⟩
def oddPcK (kd:Nat) (x:Pc) (q1 q2:Int):Pc :=
 match kd with
 | 0=>⟨x.sure.set (Ja q1 (x.sure.length:Int)).toNat (decide (q2.tmod 2=0)),x.touched,x.cuts⟩
 | 1=>⟨x.sure,x.touched.set (Ja q1 (x.touched.length:Int)).toNat (decide (q2.tmod 2=0)),x.cuts⟩
 | 2=>⟨x.sure++[true],x.touched,x.cuts⟩
 | 3=>⟨x.sure,x.touched.take (x.touched.length / 2),x.cuts⟩
 | 4=>⟨x.sure,x.touched,x.cuts++List.replicate (23+Ja q1 3-(x.cuts.length:Int)).toNat bx20⟩
 | _=>⟨x.sure,x.touched,x.cuts++[[⟨⟨q1,1,0⟩,q2⟩]]⟩
def oddPc (x:Pc) (q0 q1 q2:Int):Pc:=oddPcK (Ja q0 6).toNat x q1 q2
theorem set_nil {α:Type} {l:List α} {k:Nat} {v:α} (h:¬ 0<(l.length:Int)):l.set k v=l:=by
 rw [List.length_eq_zero_iff.1 (show l.length=0 by omega)]; rfl
theorem oddPc_ok {x:Pc} (q0 q1 q2:Int) (h:PcOK x) (hn:x.cuts.length<=24):PcOK (oddPc x q0 q1 q2):=by
 have h3:=QJ q1 3 (by decide)
 unfold oddPc oddPcK
 split
 ·exact ⟨h.n,h.c⟩
 ·exact ⟨h.n,h.c⟩
 ·exact ⟨h.n,h.c⟩
 ·exact ⟨h.n,h.c⟩
 ·refine ⟨by rw [List.length_append,List.length_replicate]; omega,fun c hc=>?_⟩
  rcases List.mem_append.1 hc with hc | hc
  ·exact h.c c hc
  ·rw [(List.mem_replicate.1 hc).2]; decide
 ·refine ⟨by rw [List.length_append]; simp only [List.length_cons,List.length_nil]; omega,fun c hc=>?_⟩
  rcases List.mem_append.1 hc with hc | hc
  ·exact h.c c hc
  ·rw [List.mem_singleton.1 hc]; exact nL rfl
def mcv15:MC:=(sq [oN 2 (.box 35 3 0) [],oN 3 (.box 25 3 1) [],oN 4 (.alloc 35 3 [.nils,.nils,.nils]) []] (dq [oN 6 (.bslice 4 1 [(.bool false)] 0 []) [],oA 7 0 2 [],oD 8 1 7 [1],oN 9 (.app 4 1 1 [(.bool false)] 6 8) [0,2],oN 10 (.bslice 4 1 [(.bool false)] 0 []) [],oA 11 1 2 [],oD 12 1 11 [5],oN 13 (.app 4 1 1 [(.bool false)] 10 12) [4,6,3],oA 14 2 2 [],oD 15 1 14 [8],oC 16 53 [15] [9,7],oN 17 (.build [.nils,.nils,.nils] [(0,1,9),(1,1,13),(2,1,16)]) [3,7,10],oN 5 (.alloc 35 3 [.nils,.nils,.nils]) [],oS 3 5 17 (12::11::10::up 13)] (.seq (sq [oN 18 (.ixarr 3 1 3 (cI 0)) [],oD 19 1 18 [0],oC 20 57 [19,(cI 6)] [1]] (.block 0 (sq [oB 22 .eql 20 (cI 0) [],oM 21 22 [0]] (.cond 21 (sq [oA 23 0 5 [],oD 24 1 23 [0],oE 25 24 [1],oB 26 .gtr 25 (cI 0) [2]] (.cond 26 (dg [oA 27 0 5 [],oD 28 1 27 [0],oN 29 (.ixarr 3 1 3 (cI 1)) [],oD 30 1 29 [2],oA 31 0 5 [],oD 32 1 31 [4],oE 33 32 [5],oC 34 57 [30,33] [3,6],oN 35 (.ixarr 3 1 3 (cI 2)) [],oD 36 1 35 [8],oB 37 .rem 36 (cI 2) [9],oB 38 .eql 37 (cI 0) [10],oX 39 1 28 34 (1::7::up 12),oS 1 39 38 (12::11::7::up 12)]) .skip)) (sq [oB 41 .eql 20 (cI 1) [],oM 40 41 [0]] (.cond 40 (sq [oA 42 1 5 [],oD 43 1 42 [0],oE 44 43 [1],oB 45 .gtr 44 (cI 0) [2]] (.cond 45 (dg [oA 46 1 5 [],oD 47 1 46 [0],oN 48 (.ixarr 3 1 3 (cI 1)) [],oD 49 1 48 [2],oA 50 1 5 [],oD 51 1 50 [4],oE 52 51 [5],oC 53 57 [49,52] [3,6],oN 54 (.ixarr 3 1 3 (cI 2)) [],oD 55 1 54 [8],oB 56 .rem 55 (cI 2) [9],oB 57 .eql 56 (cI 0) [10],oX 58 1 47 53 (1::7::up 12),oS 1 58 57 (12::11::7::up 12)]) .skip)) (sq [oB 60 .eql 20 (cI 2) [],oM 59 60 [0]] (.cond 59 (rg [oA 61 0 5 [],oD 62 1 61 [0],oN 63 (.bslice 4 1 [(.bool false)] 1 [(0,(.c (.bool true)))]) [],oN 64 (.app 4 1 1 [(.bool false)] 62 63) [1,2],oA 65 0 5 (up 4),oS 1 65 64 [4,3,3,0,1,2,3]]) (sq [oB 67 .eql 20 (cI 3) [],oM 66 67 [0]] (.cond 66 (rg [oA 68 1 5 [],oD 69 1 68 [0],oA 70 1 5 [],oD 71 1 70 [2],oE 72 71 [3],oB 73 .quo 72 (cI 2) [4],oN 74 (.slc 1 69 none (some 73)) [1,5],oA 75 1 5 (up 7),oS 1 75 74 (7::6::up 7)]) (sq [oB 77 .eql 20 (cI 4) [],oM 76 77 [0]] (.cond 76 (.block 1 (.loop (.seq (dq [oA 78 2 5 [],oD 79 1 78 [0],oE 80 79 [1],oN 81 (.ixarr 3 1 3 (cI 1)) [],oD 82 1 81 [3],oC 83 57 [82,(cI 3)] [4],oB 84 .add (cI 23) 83 [5],oB 85 .lss 80 84 [2,6]] (.cond 85 .skip (.exit 1))) (.block 2 (dg [oA 86 2 5 [],oD 87 1 86 [0],oN 88 (.build (iz 3) [(0,1,(cI 20)),(1,1,(cI 20))]) [],oN 89 (.build (iz 3) [(0,1,(cI 21)),(1,1,(cI 21)),(2,1,(cI 1))]) [],oC 90 47 [88,89] [2,3],oN 91 (.bslice 85 1 [.nils] 1 [(0,90)]) [4],oN 92 (.app 85 1 24 [.nils] 87 91) [1,5,4],oA 93 2 5 (up 7),oS 1 93 92 (7::6::6::up 7)]))))) (sq [oB 95 .eql 20 (cI 5) [],oM 94 95 [0]] (.cond 94 (rg [oA 96 2 5 [],oD 97 1 96 [0],oN 98 (.ixarr 3 1 3 (cI 1)) [],oD 99 1 98 [2],oN 100 (.build (iz 3) [(0,1,99),(1,1,(cI 1))]) [3],oN 101 (.ixarr 3 1 3 (cI 2)) [],oD 102 1 101 [5],oN 103 (.build (iz 4) [(0,3,100),(3,1,102)]) [4,6],oN 104 (.bslice 90 4 (iz 4) 1 [(0,103)]) [7],oN 105 (.bslice 85 1 [.nils] 1 [(0,104)]) [8],oN 106 (.app 85 1 24 [.nils] 97 105) [1,9],oA 107 2 5 (up 11),oS 1 107 106 (11::10::10::up 11)]) .skip)))))))))))))) (sq [oL 108 3 5 [],oS 3 4 108 [0,0]] .ret))))
theorem mcOkv15:okM Tryz.prog Tryz.f15 109=some mcv15:=by kernel_rfl
set_option maxHeartbeats 2000000 in
theorem vc15 (x:Pc) (hx:PcOK x) (hs:x.sure.length<=1000) (ht:x.touched.length<=1000) (q0 q1 q2:Int):FC Tryz.prog 15 [.agg (cPc x),.agg [iv q0,iv q1,iv q2]] [] (.agg (cPc (oddPc x q0 q1 q2))) [] true:=by
 unfold oddPc
 have hxn:=hx.n
 have h3:=QJ q1 3 (by decide)
 have hdd:=(Int.toNat_of_nonneg (QJ q0 6 (by decide)).1).symm
 have hd1:=QJ q0 6 (by decide)
 generalize (Ja q0 6).toNat=kd at hdd ⊢
 refine Qg (nt:=109) Tryz.func15 rfl rfl mcOkv15 (nL rfl) ?_
 delta mcv15
 refine gA 8 rfl (bT (l:=[]) (els:=[]) (by kernel_rfl) (gR 2 rfl (XO (f:=cB) (ys:=x.sure) (n:=x.sure.length) (rd:=[]) rfl rfl rfl rfl rfl rfl rfl (by simp) (fun _=>rfl) rfl (by omega) (by omega) (fun _=>rfl) (gR 0 rfl (bT (l:=[]) (els:=[]) (by kernel_rfl) (gR 2 rfl (XO (f:=cB) (ys:=x.touched) (n:=x.touched.length) (rd:=[]) rfl rfl rfl rfl rfl rfl rfl (by simp) (fun _=>rfl) rfl (by omega) (by omega) (fun _=>rfl) (gR 2 rfl (Qr [] rfl rfl (vc53 x.cuts (fun c hc=>Nat.le_trans (hx.c c hc) (by decide)) (by omega)) (.cons (Qd rfl) (.nil)) (.nil) rfl rfl rfl (gR 3 rfl (Q9 (by kernel_rfl) ?_)))))))))))
 refine gP 3 rfl (Qm rfl rfl rfl (by decide) (by decide) (gR 1 rfl ?_))
 obtain rfl | rfl | rfl | rfl | rfl | rfl:kd=0\/kd=1\/kd=2\/kd=3\/kd=4\/kd=5:=by omega
 ·skip
  refine cN rfl rfl (JP q0 6 (by decide)) ?_
  rw [hdd]
  refine gR 4 rfl (QA rfl rfl rfl rfl (by decide) (gR 7 rfl (QC rfl rfl (gR 0 rfl (Ua rfl rfl rfl (gR 1 rfl (Qc rfl (fun h26=>?_) (fun h26=>?_))))))))
  ·replace h26:=of_decide_eq_true h26
   refine gK 2 rfl ?_
   have hm:=QJ q1 (x.sure.length:Int) (by omega)
   refine gI 1 rfl (Qm rfl rfl rfl (by decide) (by decide) (gR 3 rfl (QC rfl rfl (gR 0 rfl (cN rfl rfl (JP q1 (x.sure.length:Int) (by omega)) (gR 0 rfl (Qm rfl rfl rfl (by decide) (by decide) (gR 1 rfl (XA rfl rfl rfl (by decide) rfl (gR 0 rfl (Ub rfl rfl rfl ?_)))))))))))
   refine gR 0 rfl (QF rfl rfl rfl rfl hm.1 hm.2 (gR 0 rfl (rs_st_m (f:=cB) (xs:=x.sure) (t:=(Ja q1 (x.sure.length:Int)).toNat) (v:=decide (q2.tmod 2=0)) (fl':=true) rfl rfl rfl rfl (by omega) rfl rfl (nL rfl) rfl rfl (gR 0 rfl (Q9 (by kernel_rfl) (gP 6 rfl ?_))))))
   exact Qt <| Ql rfl (Xg (.cons (Q5 (f:=cB) (xs:=x.sure.set (Ja q1 (x.sure.length:Int)).toNat (decide (q2.tmod 2=0))) rfl rfl (by rw [List.length_set]) (fun _=>rfl)) (.cons (Q5 (f:=cB) (xs:=x.touched) rfl rfl (rfl) (fun _=>rfl)) (.cons (Xu (f:=cR) (xs:=x.cuts) (rfl) rfl (rfl)) .nil)))) .nil
  ·replace h26:=of_decide_eq_false h26
   refine gK 7 rfl ?_
   rw [show oddPcK 0 x q1 q2=x from by show (⟨x.sure.set _ _,x.touched,x.cuts⟩:Pc)=x; rw [set_nil h26]]
   exact Qt <| Ql rfl (Xg (.cons (Q5 (f:=cB) (xs:=x.sure) rfl rfl (rfl) (fun _=>rfl)) (.cons (Q5 (f:=cB) (xs:=x.touched) rfl rfl (rfl) (fun _=>rfl)) (.cons (Xu (f:=cR) (xs:=x.cuts) (rfl) rfl (rfl)) .nil)))) .nil
 ·skip
  refine cN rfl rfl (JP q0 6 (by decide)) ?_
  rw [hdd]
  refine gR 4 rfl (Qp rfl rfl rfl rfl (by decide) (gR 5 rfl (QA rfl rfl rfl rfl (by decide) (gR 7 rfl (QC rfl rfl (gR 0 rfl (Ua rfl rfl rfl (gR 1 rfl (Qc rfl (fun h45=>?_) (fun h45=>?_))))))))))
  ·replace h45:=of_decide_eq_true h45
   refine gK 2 rfl ?_
   have hm:=QJ q1 (x.touched.length:Int) (by omega)
   refine gI 1 rfl (Qm rfl rfl rfl (by decide) (by decide) (gR 3 rfl (QC rfl rfl (gR 0 rfl (cN rfl rfl (JP q1 (x.touched.length:Int) (by omega)) (gR 0 rfl (Qm rfl rfl rfl (by decide) (by decide) (gR 1 rfl (XA rfl rfl rfl (by decide) rfl (gR 0 rfl (Ub rfl rfl rfl ?_)))))))))))
   refine gR 0 rfl (QF rfl rfl rfl rfl hm.1 hm.2 (gR 0 rfl (rs_st_m (f:=cB) (xs:=x.touched) (t:=(Ja q1 (x.touched.length:Int)).toNat) (v:=decide (q2.tmod 2=0)) (fl':=true) rfl rfl rfl rfl (by omega) rfl rfl (nL rfl) rfl rfl (gR 0 rfl (Q9 (by kernel_rfl) (gP 6 rfl ?_))))))
   exact Qt <| Ql rfl (Xg (.cons (Q5 (f:=cB) (xs:=x.sure) rfl rfl (rfl) (fun _=>rfl)) (.cons (Q5 (f:=cB) (xs:=x.touched.set (Ja q1 (x.touched.length:Int)).toNat (decide (q2.tmod 2=0))) rfl rfl (by rw [List.length_set]) (fun _=>rfl)) (.cons (Xu (f:=cR) (xs:=x.cuts) (rfl) rfl (rfl)) .nil)))) .nil
  ·replace h45:=of_decide_eq_false h45
   refine gK 7 rfl ?_
   rw [show oddPcK 1 x q1 q2=x from by show (⟨x.sure,x.touched.set _ _,x.cuts⟩:Pc)=x; rw [set_nil h45]]
   exact Qt <| Ql rfl (Xg (.cons (Q5 (f:=cB) (xs:=x.sure) rfl rfl (rfl) (fun _=>rfl)) (.cons (Q5 (f:=cB) (xs:=x.touched) rfl rfl (rfl) (fun _=>rfl)) (.cons (Xu (f:=cR) (xs:=x.cuts) (rfl) rfl (rfl)) .nil)))) .nil
 ·skip
  refine cN rfl rfl (JP q0 6 (by decide)) ?_
  rw [hdd]
  refine gR 4 rfl (Qp rfl rfl rfl rfl (by decide) (gR 5 rfl (Qp rfl rfl rfl rfl (by decide) (gR 5 rfl (QA rfl rfl rfl rfl (by decide) (gR 6 rfl (bM cB (([true]:List Bool)) (by kernel_rfl) (gR 0 rfl (Qq (f:=cB) (xs:=x.sure) (y:=true) (fl':=true) rfl rfl rfl rfl (rfl) rfl rfl rfl (by decide) rfl (by omega) (by omega) rfl (gR 9 rfl ?_))))))))))
  exact Qt <| Ql rfl (Xg (.cons (Q5 (f:=cB) (xs:=x.sure++[true]) rfl rfl (by simp) (fun _=>rfl)) (.cons (Q5 (f:=cB) (xs:=x.touched) rfl rfl (rfl) (fun _=>rfl)) (.cons (Xu (f:=cR) (xs:=x.cuts) (rfl) rfl (rfl)) .nil)))) .nil
 ·skip
  refine cN rfl rfl (JP q0 6 (by decide)) ?_
  rw [hdd]
  refine gR 4 rfl (Qp rfl rfl rfl rfl (by decide) (gR 5 rfl (Qp rfl rfl rfl rfl (by decide) (gR 5 rfl (Qp rfl rfl rfl rfl (by decide) (gR 5 rfl (QA rfl rfl rfl rfl (by decide) (gR 8 rfl (QC rfl rfl (gR 0 rfl (QR (c:=((x.touched.length / 2:Nat):Int)) rfl rfl rfl (by decide) (by rw [Int.tdiv_eq_ediv_of_nonneg (by omega),show IntKind.i64.wrap ((x.touched.length:Int) / 2)=(x.touched.length:Int) / 2 from QU (by omega)]; omega) ?_)))))))))))
  refine gR 0 rfl (rs_slc_s (l:=0) (q:=((x.touched.length / 2:Nat):Int)) rfl rfl rfl rfl rfl (by decide) (.inl rfl) (by omega) (by omega) (gR 9 rfl ?_))
  exact Qt <| Ql rfl (Xg (.cons (Q5 (f:=cB) (xs:=x.sure) rfl rfl (rfl) (fun _=>rfl)) (.cons (rc_frzT (f:=cB) (xs:=x.touched) (n:=x.touched.length / 2) rfl rfl (by omega) (fun _=>rfl)) (.cons (Xu (f:=cR) (xs:=x.cuts) (rfl) rfl (rfl)) .nil)))) .nil
 ·skip
  refine cN rfl rfl (JP q0 6 (by decide)) ?_
  rw [hdd]
  refine gR 4 rfl (Qp rfl rfl rfl rfl (by decide) (gR 5 rfl (Qp rfl rfl rfl rfl (by decide) (gR 5 rfl (Qp rfl rfl rfl rfl (by decide) (gR 5 rfl (Qp rfl rfl rfl rfl (by decide) (gR 5 rfl (QA rfl rfl rfl rfl (by decide) (gR 4 rfl ?_))))))))))
  refine Qo (α:=Nat) (fun m=>30-(x.cuts.length+m)) (fun m=>[(3,.ptr 3 0 0),(4,.ptr 4 0 0),(5,.ptr 5 0 0)]) (fun m=>[(3,.cells 25 3 [[iv q0,iv q1,iv q2]] true),(4,.cells 35 3 [[.nils,.nils,.nils]] true),(5,.cells 35 3 [[.sl 9 0 x.sure.length,.sl 13 0 x.touched.length,.sl 901 0 (x.cuts.length+(m))]] false),(9,.cells 4 1 (x.sure.map cB) true),(13,.cells 4 1 (x.touched.map cB) true),(901,.cells 85 1 ((x.cuts++List.replicate (m) bx20).map cR) true)]) (fun m=>(m:Int)<=max 0 (23+Ja q1 3-(x.cuts.length:Int))) 0 (by omega)
   (Qb (Qa rfl rfl) (.keep (rfl) rfl (.keep (rfl) rfl (.keep (rfl) rfl (.keep (rfl) rfl (.keep (rfl) rfl (.keep (by rw [List.replicate_zero,List.append_nil]; rfl) rfl (.nil))))))) (fun i h=>by cases h)) ?_
  intro m hm
  refine gT 5 rfl (QC rfl rfl (gR 0 rfl (Qm rfl rfl rfl (by decide) (by decide) (gR 1 rfl (cN rfl rfl (JP q1 3 (by decide)) (gR 0 rfl (Qf rfl rfl rfl (by omega) (gR 1 rfl (Q9 (by kernel_rfl) (gP 0 rfl (Qc rfl (fun h85=>?_) (fun h85=>?_))))))))))))
  ·replace h85:=of_decide_eq_true h85
   refine gK 7 rfl (cN rfl rfl (vc47 ⟨20,20,0⟩ ⟨21,21,1⟩ (by decide)) (gR 0 rfl (bM cR (([bx20]:List (List Pl))) (by kernel_rfl) (gR 0 rfl (Qq (f:=cR) (xs:=(x.cuts++List.replicate (m) bx20)) (y:=bx20) (fl':=true) rfl rfl rfl rfl (by simp) rfl rfl rfl (by decide) rfl (by omega) (by omega) rfl (gR 2 rfl (Q9 (by kernel_rfl) (gP 0 rfl ?_))))))))
   exact Qz <| ⟨m+1,by omega,by omega,show Weak _ _ _ _ [(3,.ptr 3 0 0),(4,.ptr 4 0 0),(5,.ptr 5 0 0)] [(3,.cells 25 3 [[iv q0,iv q1,iv q2]] true),(4,.cells 35 3 [[.nils,.nils,.nils]] true),(5,.cells 35 3 [[.sl 9 0 x.sure.length,.sl 13 0 x.touched.length,.sl 901 0 (x.cuts.length+(m+1))]] false),(9,.cells 4 1 (x.sure.map cB) true),(13,.cells 4 1 (x.touched.map cB) true),(901,.cells 85 1 ((x.cuts++List.replicate (m+1) bx20).map cR) true)] from Weak.trans (F1:=[(3,.ptr 3 0 0),(4,.ptr 4 0 0),(5,.ptr 5 0 0)]) (H1:=[(3,.cells 25 3 [[iv q0,iv q1,iv q2]] true),(4,.cells 35 3 [[.nils,.nils,.nils]] true),(5,.cells 35 3 [[.sl 9 0 x.sure.length,.sl 13 0 x.touched.length,.sl 92 0 (x.cuts.length+(m+1))]] false),(9,.cells 4 1 (x.sure.map cB) true),(13,.cells 4 1 (x.touched.map cB) true),(92,.cells 85 1 ((x.cuts++List.replicate (m+1) bx20).map cR) true)]) (Qb (Qa rfl rfl) (.keep (rfl) rfl (.keep (rfl) rfl (.keep (rfl) rfl (.keep (rfl) rfl (.keep (rfl) rfl (.keep (by rw [rep_snoc]; rfl) rfl (.nil))))))) fun i h=>by cases h) (Weak.trans (F1:=[(3,.ptr 3 0 0),(4,.ptr 4 0 0),(5,.ptr 5 0 0)]) (QN (i:=92) (i':=901) (k:=5) rfl rfl (.cons rfl (.same _) (.cons rfl (.same _) (.cons rfl (.same _) (.nil)))) (by decide) rfl (.cons (.same _) (.cons (.same _) (.cons (.sl _ _) (RenL.refl _ _ _))))) (Qb (Qa rfl rfl) (kS rfl rfl) fun i h=>by cases h))⟩
  ·replace h85:=of_decide_eq_false h85
   refine gK 7 rfl ?_
   obtain rfl:m=(23+Ja q1 3-(x.cuts.length:Int)).toNat:=by omega
   exact Qt <| Ql rfl (Xg (.cons (Q5 (f:=cB) (xs:=x.sure) rfl rfl (rfl) (fun _=>rfl)) (.cons (Q5 (f:=cB) (xs:=x.touched) rfl rfl (rfl) (fun _=>rfl)) (.cons (Xu (f:=cR) (xs:=(x.cuts++List.replicate ((23+Ja q1 3-(x.cuts.length:Int)).toNat) bx20)) (rfl) rfl (by simp)) .nil)))) .nil
 ·skip
  refine cN rfl rfl (JP q0 6 (by decide)) ?_
  rw [hdd]
  refine gR 4 rfl (Qp rfl rfl rfl rfl (by decide) (gR 5 rfl (Qp rfl rfl rfl rfl (by decide) (gR 5 rfl (Qp rfl rfl rfl rfl (by decide) (gR 5 rfl (Qp rfl rfl rfl rfl (by decide) (gR 5 rfl (Qp rfl rfl rfl rfl (by decide) (gR 5 rfl (QA rfl rfl rfl rfl (by decide) ?_)))))))))))
  refine gR 6 rfl (Qm rfl rfl rfl (by decide) (by decide) (gR 2 rfl (Qm rfl rfl rfl (by decide) (by decide) (gR 2 rfl (rs_bslf (l:=cPl (⟨⟨q1,1,0⟩,q2⟩:Pl)) (els:=[cPl (⟨⟨q1,1,0⟩,q2⟩:Pl)]) rfl (by kernel_rfl) rfl rfl (by kernel_rfl) rfl (by kernel_rfl) (gR 0 rfl (bM cR (([[(⟨⟨q1,1,0⟩,q2⟩:Pl)]]:List (List Pl))) (by kernel_rfl) (gR 0 rfl (Qq (f:=cR) (xs:=x.cuts) (y:=[(⟨⟨q1,1,0⟩,q2⟩:Pl)]) (fl':=true) rfl rfl rfl rfl (rfl) rfl rfl rfl (by decide) rfl (by omega) (by omega) rfl (gR 9 rfl ?_))))))))))
  exact Qt <| Ql rfl (Xg (.cons (Q5 (f:=cB) (xs:=x.sure) rfl rfl (rfl) (fun _=>rfl)) (.cons (Q5 (f:=cB) (xs:=x.touched) rfl rfl (rfl) (fun _=>rfl)) (.cons (Xu (f:=cR) (xs:=x.cuts++[[⟨⟨q1,1,0⟩,q2⟩]]) (rfl) rfl (by simp)) .nil)))) .nil
def pick5 (q:Int):Int:=([q,0,4,1,3]:List Int).getD (Ja q 5).toNat 0
theorem pick5_at (q:Int):([q,0,4,1,3]:List Int)[(Ja q 5).toNat]?=some (pick5 q):=by
 have:=QJ q 5 (by decide)
 exact w_at (by simp; omega)
def celK (l:List (List Pl)) (k:Nat):List Pl:=l.getD k []
theorem celK_at {c:List (List Pl)} {k:Nat} (h:k<c.length):c[k]?=some (celK c k):=by
 unfold celK; rw [List.getD_eq_getElem?_getD,List.getElem?_eq_getElem h]; rfl
def bxO (n i:Nat):List Pl:=JL ⟨((n+i:Nat):Int),10,0⟩ ⟨((n+i:Nat):Int)+1,11,1⟩
def wtO (n i:Nat):Int:=W (1+((n+i:Nat):Int).tmod 3)
def oddPaK (kd k:Nat) (p:Pa) (q0 q1 q2:Int):Pa :=
 match kd with
 | 0=>⟨p.name,p.cells,p.want.set (Ja q1 (p.want.length:Int)).toNat (pick5 q2)⟩
 | 1=>⟨p.name,p.cells,p.want++[1]⟩
 | 2=>⟨p.name,p.cells.set k (oddC (celK p.cells k) q2 q1 q0),p.want⟩
 | 3=>⟨p.name,p.cells++[celK p.cells k],p.want++[1]⟩
 | 4=>⟨p.name,p.cells++(List.range (16+Ja q2 2-(p.cells.length:Int)).toNat).map (bxO p.cells.length),p.want++(List.range (16+Ja q2 2-(p.cells.length:Int)).toNat).map (wtO p.cells.length)⟩
 | 5=>⟨p.name,p.cells.take (p.cells.length / 2),p.want.take (p.want.length / 2)⟩
 | _=>⟨p.name,[],[]⟩
def oddPa (p:Pa) (q0 q1 q2:Int):Pa:=oddPaK (Ja q0 7).toNat (Ja q1 (p.cells.length:Int)).toNat p q0 q1 q2
theorem oddPa_ok {p:Pa} (q0 q1 q2:Int) (h:GoodP p):PaOK (oddPa p q0 q1 q2):=by
 have hn:=h.n
 have hw:=h.want
 have hk:=QJ q1 (p.cells.length:Int) (by omega)
 have h2:=QJ q2 2 (by decide)
 have hc:∀ c∈p.cells,1<=c.length/\c.length<=100:=fun c hc=>by have:=(h.cells.ok c hc).len; omega
 have hck:celK p.cells (Ja q1 (p.cells.length:Int)).toNat∈p.cells:=Xr (celK_at (by omega))
 unfold oddPa oddPaK
 split
 ·exact ⟨by dsimp only; omega,by dsimp only; rw [List.length_set]; omega,hc⟩
 ·exact ⟨by dsimp only; omega,by dsimp only; rw [List.length_append]; simp only [List.length_cons,List.length_nil]; omega,hc⟩
 ·refine ⟨by dsimp only; rw [List.length_set]; omega,by dsimp only; omega,fun c hm=>?_⟩
  rcases List.mem_or_eq_of_mem_set hm with hm | hm
  ·exact hc c hm
  ·have:=(h.cells.ok _ hck).len
   have:=oddC_len (c:=celK p.cells (Ja q1 (p.cells.length:Int)).toNat) q2 q1 q0 (by omega)
   rw [hm]; omega
 ·refine ⟨by dsimp only; rw [List.length_append]; simp only [List.length_cons,List.length_nil]; omega,by dsimp only; rw [List.length_append]; simp only [List.length_cons,List.length_nil]; omega,fun c hm=>?_⟩
  rcases List.mem_append.1 hm with hm | hm
  ·exact hc c hm
  ·rw [List.mem_singleton.1 hm]; exact hc _ hck
 ·refine ⟨by dsimp only; rw [List.length_append,List.length_map,List.length_range]; omega,by dsimp only; rw [List.length_append,List.length_map,List.length_range]; omega,fun c hm=>?_⟩
  rcases List.mem_append.1 hm with hm | hm
  ·exact hc c hm
  ·obtain ⟨i,_,rfl⟩:=List.mem_map.1 hm
   exact ⟨nL rfl,nL rfl⟩
 ·refine ⟨by dsimp only; rw [List.length_take]; omega,by dsimp only; rw [List.length_take]; omega,fun c hm=>hc c (List.mem_of_mem_take hm)⟩
 ·exact ⟨Nat.zero_le _,Nat.zero_le _,fun c hm=>by cases hm⟩
theorem rng_snoc {α:Type} {l:List α} {f:Nat->α} {m:Nat}:(l++(List.range m).map f)++[f m]=l++(List.range (m+1)).map f:=by rw [List.append_assoc,List.range_succ,List.map_append]; rfl
def mcv13:MC:=(sq [oN 2 (.box 31 3 0) [],oN 3 (.box 25 3 1) [],oN 4 (.alloc 31 3 [(.str (strN [])),.nils,.nils]) []] (dq [oA 8 0 2 [],oD 9 1 8 [0],oA 10 1 2 [],oD 11 1 10 [2],oC 12 53 [11] [3],oN 13 (.bslice 3 1 [(iv 0)] 0 []) [],oA 14 2 2 [],oD 15 1 14 [6],oN 16 (.app 3 1 8 [(iv 0)] 13 15) [5,7,4],oN 17 (.build [(.str (strN [])),.nils,.nils] [(0,1,9),(1,1,12),(2,1,16)]) [1,4,8],oN 5 (.alloc 31 3 [(.str (strN [])),.nils,.nils]) [],oS 3 5 17 (10::9::8::up 11)] (sq [oN 18 (.ixarr 3 1 3 (cI 1)) [],oD 19 1 18 [0],oA 20 1 5 [],oD 21 1 20 [2],oE 22 21 [3],oN 23 (.mx (cI 1) 22) [4],oC 24 57 [19,23] [1,5],oM 6 24 (6::6::up 7)] (.seq (sq [oN 25 (.ixarr 3 1 3 (cI 0)) [],oD 26 1 25 [0],oC 27 57 [26,(cI 7)] [1]] (.block 0 (sq [oB 29 .eql 27 (cI 0) [],oM 28 29 [0]] (.cond 28 (sq [oA 30 2 5 [],oD 31 1 30 [0],oE 32 31 [1],oB 33 .gtr 32 (cI 0) [2]] (.cond 33 (dg [oA 34 2 5 [],oD 35 1 34 [0],oN 36 (.ixarr 3 1 3 (cI 1)) [],oD 37 1 36 [2],oA 38 2 5 [],oD 39 1 38 [4],oE 40 39 [5],oC 41 57 [37,40] [3,6],oN 42 (.ixarr 3 1 3 (cI 2)) [],oD 43 1 42 [8],oN 44 (.bslice 3 1 [(iv 0)] 5 [(0,43),(1,(cI 0)),(2,(cI 4)),(3,(cI 1)),(4,(cI 3))]) [9],oN 45 (.ixarr 3 1 3 (cI 2)) [],oD 46 1 45 [11],oC 47 57 [46,(cI 5)] [12,7],oX 48 1 44 47 [10,13],oD 49 1 48 [14],oX 50 1 35 41 (1::7::up 16),oS 1 50 49 (16::15::13::up 16)]) .skip)) (sq [oB 52 .eql 27 (cI 1) [],oM 51 52 [0]] (.cond 51 (rg [oA 53 2 5 [],oD 54 1 53 [0],oN 55 (.bslice 3 1 [(iv 0)] 1 [(0,(cI 1))]) [],oN 56 (.app 3 1 8 [(iv 0)] 54 55) [1,2],oA 57 2 5 (up 4),oS 1 57 56 [4,3,3,0,1,2,3]]) (sq [oB 59 .eql 27 (cI 2) [],oM 58 59 [0]] (.cond 58 (sq [oA 60 1 5 [],oD 61 1 60 [0],oE 62 61 [1],oB 63 .gtr 62 (cI 0) [2]] (.cond 63 (dg [oA 64 1 5 [],oD 65 1 64 [0],oM 66 6 [],oA 67 1 5 [],oD 68 1 67 [3],oM 69 6 [],oX 70 1 68 69 [4,5],oD 71 1 70 [6],oN 72 (.ixarr 3 1 3 (cI 2)) [],oD 73 1 72 [8],oN 74 (.ixarr 3 1 3 (cI 1)) [],oD 75 1 74 [10],oN 76 (.ixarr 3 1 3 (cI 0)) [],oD 77 1 76 [12],oN 78 (.build (iz 3) [(0,1,73),(1,1,75),(2,1,77)]) [9,11,13],oC 79 58 [71,78] [7,14],oX 80 1 65 66 (1::2::up 16),oS 1 80 79 (16::15::15::up 16)]) .skip)) (sq [oB 82 .eql 27 (cI 3) [],oM 81 82 [0]] (.cond 81 (sq [oA 83 1 5 [],oD 84 1 83 [0],oE 85 84 [1],oB 86 .gtr 85 (cI 0) [2]] (.cond 86 (dq [oA 87 1 5 [],oD 88 1 87 [0],oN 89 (.bslice 90 4 (iz 4) 0 []) [],oA 90 1 5 [],oD 91 1 90 [3],oM 92 6 [],oX 93 1 91 92 [4,5],oD 94 1 93 [6],oN 95 (.app 90 4 32 (iz 4) 89 94) [2,7],oN 96 (.bslice 85 1 [.nils] 1 [(0,95)]) [8],oN 97 (.app 85 1 24 [.nils] 88 96) [1,9,8],oA 98 1 5 (up 11),oS 1 98 97 (11::10::10::up 11)] (rg [oA 99 2 5 [],oD 100 1 99 [0],oN 101 (.bslice 3 1 [(iv 0)] 1 [(0,(cI 1))]) [],oN 102 (.app 3 1 8 [(iv 0)] 100 101) [1,2],oA 103 2 5 (up 4),oS 1 103 102 [4,3,3,0,1,2,3]])) .skip)) (sq [oB 105 .eql 27 (cI 4) [],oM 104 105 [0]] (.cond 104 (sq [oA 106 1 5 [],oD 107 1 106 [0],oE 108 107 [1],oM 7 108 [2,0,1,2]] (.block 1 (.loop (.seq (sq [oM 109 7 [],oN 110 (.ixarr 3 1 3 (cI 2)) [],oD 111 1 110 [1],oC 112 57 [111,(cI 2)] [2],oB 113 .add (cI 16) 112 [3],oB 114 .lss 109 113 [0,4]] (.cond 114 .skip (.exit 1))) (.seq (.block 2 (dq [oA 117 1 5 [],oD 118 1 117 [0],oM 119 7 [],oN 120 (.build (iz 3) [(0,1,119),(1,1,(cI 10))]) [2],oM 121 7 [],oB 122 .add 121 (cI 1) [4],oN 123 (.build (iz 3) [(0,1,122),(1,1,(cI 11)),(2,1,(cI 1))]) [5],oC 124 47 [120,123] [3,6],oN 125 (.bslice 85 1 [.nils] 1 [(0,124)]) [7],oN 126 (.app 85 1 24 [.nils] 118 125) [1,8,7],oA 127 1 5 (up 10),oS 1 127 126 (10::9::9::up 10)] (rg [oA 128 2 5 [],oD 129 1 128 [0],oM 130 7 [],oB 131 .rem 130 (cI 3) [2],oB 132 .add (cI 1) 131 [3],oN 133 (.bslice 3 1 [(iv 0)] 1 [(0,132)]) [4],oN 134 (.app 3 1 8 [(iv 0)] 129 133) [1,5],oA 135 2 5 (up 7),oS 1 135 134 (7::6::6::up 7)]))) (rg [oM 115 7 [],oB 116 .add 115 (cI 1) [0],oM 7 116 [1,0,1]])))))) (sq [oB 137 .eql 27 (cI 5) [],oM 136 137 [0]] (.cond 136 (sq [oA 138 1 5 [],oD 139 1 138 [0],oA 140 1 5 [],oD 141 1 140 [2],oE 142 141 [3],oB 143 .quo 142 (cI 2) [4],oN 144 (.slc 1 139 none (some 143)) [1,5],oA 145 1 5 (up 7),oS 1 145 144 (7::6::up 7)] (rg [oA 146 2 5 [],oD 147 1 146 [0],oA 148 2 5 [],oD 149 1 148 [2],oE 150 149 [3],oB 151 .quo 150 (cI 2) [4],oN 152 (.slc 1 147 none (some 151)) [1,5],oA 153 2 5 (up 7),oS 1 153 152 (7::6::up 7)])) (sq [oB 155 .eql 27 (cI 6) [],oM 154 155 [0]] (.cond 154 (sq [oA 156 1 5 [],oS 1 156 (.c .nils) [0]] (rg [oA 157 2 5 [],oS 1 157 (.c .nils) [0]])) .skip)))))))))))))))) (sq [oL 158 3 5 [],oS 3 4 158 [0,0]] .ret)))))
theorem mcOkv13:okM Tryz.prog Tryz.f13 159=some mcv13:=by kernel_rfl
set_option maxHeartbeats 2000000 in
theorem vc13 (p:Pa) (hp:GoodP p) (q0 q1 q2:Int):FC Tryz.prog 13 [.agg (cPa p),.agg [iv q0,iv q1,iv q2]] [] (.agg (cPa (oddPa p q0 q1 q2))) [] true:=by
 unfold oddPa
 have hpn:=hp.n
 have hpw:=hp.want
 have hcl:∀ c∈p.cells,1<=c.length/\c.length<=8:=fun c h=>by have:=(hp.cells.ok c h).len; omega
 have h2:=QJ q2 2 (by decide)
 have h5:=QJ q2 5 (by decide)
 have hk0:=QJ q1 (p.cells.length:Int) (by omega)
 have hkk:=(Int.toNat_of_nonneg hk0.1).symm
 generalize (Ja q1 (p.cells.length:Int)).toNat=k at hkk ⊢
 have hck:=celK_at (c:=p.cells) (k:=k) (by omega)
 have hckl:=hcl _ (Xr hck)
 have hdd:=(Int.toNat_of_nonneg (QJ q0 7 (by decide)).1).symm
 have hd1:=QJ q0 7 (by decide)
 generalize (Ja q0 7).toNat=kd at hdd ⊢
 refine Qg (nt:=159) Tryz.func13 rfl rfl mcOkv13 (nL rfl) ?_
 delta mcv13
 refine gA 12 rfl (Qr [] rfl rfl (vc53 p.cells (fun c hc=>by have:=hcl c hc; omega) (by omega)) (.cons (Qd rfl) (.nil)) (.nil) rfl rfl rfl (gR 0 rfl (bT (l:=[]) (els:=[]) (by kernel_rfl) (gR 2 rfl (XO (f:=civ) (ys:=p.want) (n:=p.want.length) (rd:=[]) rfl rfl rfl rfl rfl rfl rfl (by simp) (fun _=>rfl) rfl (by omega) (by omega) (fun _=>rfl) (gR 3 rfl (Q9 (by kernel_rfl) (gP 2 rfl (Qm rfl rfl rfl (by decide) (by decide) (gR 3 rfl (QC rfl rfl ?_)))))))))))
 refine gR 0 rfl (rs_mx (c:=(p.cells.length:Int)) rfl rfl rfl (by omega) (gR 0 rfl (cN rfl rfl (JP q1 (p.cells.length:Int) (by omega)) ?_)))
 rw [hkk]
 refine gR 5 rfl (Qm rfl rfl rfl (by decide) (by decide) (gR 1 rfl ?_))
 obtain rfl | rfl | rfl | rfl | rfl | rfl | rfl:kd=0\/kd=1\/kd=2\/kd=3\/kd=4\/kd=5\/kd=6:=by omega
 ·skip
  refine cN rfl rfl (JP q0 7 (by decide)) ?_
  rw [hdd]
  refine gR 4 rfl (QA rfl rfl rfl rfl (by decide) (gR 7 rfl (QC rfl rfl (gR 0 rfl (QA rfl rfl rfl rfl (by omega) (gR 3 rfl ?_))))))
  have hm:=QJ q1 (p.want.length:Int) (by omega)
  refine gI 2 rfl (Qm rfl rfl rfl (by decide) (by decide) (gR 3 rfl (QC rfl rfl (gR 0 rfl (cN rfl rfl (JP q1 (p.want.length:Int) (by omega)) (gR 0 rfl (Qm rfl rfl rfl (by decide) (by decide) (gR 1 rfl (bM civ (([q2,0,4,1,3]:List Int)) (by kernel_rfl) (gR 0 rfl (Qm rfl rfl rfl (by decide) (by decide) ?_)))))))))))
  refine gR 1 rfl (cN rfl rfl (JP q2 5 (by decide)) (gR 0 rfl (QF rfl rfl rfl rfl h5.1 h5.2 (gR 0 rfl (JS (f:=civ) (xs:=([q2,0,4,1,3]:List Int)) (y:=pick5 q2) rfl rfl rfl (pick5_at _) rfl (gR 0 rfl (QF rfl rfl rfl rfl hm.1 hm.2 (gR 0 rfl (rs_st_m (f:=civ) (xs:=p.want) (t:=(Ja q1 (p.want.length:Int)).toNat) (v:=pick5 q2) (fl':=true) rfl rfl rfl rfl (by omega) rfl rfl (nL rfl) rfl rfl (gR 0 rfl (Q9 (by kernel_rfl) ?_)))))))))))
  refine gP 6 rfl ?_
  exact Qt <| Ql rfl (Xg (.cons (Qs rfl (.inr rfl)) (.cons (Xu (f:=cR) (xs:=p.cells) (rfl) rfl (rfl)) (.cons (Q5 (f:=civ) (xs:=p.want.set (Ja q1 (p.want.length:Int)).toNat (pick5 q2)) rfl rfl (by rw [List.length_set]) (fun _=>rfl)) .nil)))) .nil
 ·skip
  refine cN rfl rfl (JP q0 7 (by decide)) ?_
  rw [hdd]
  refine gR 4 rfl (Qp rfl rfl rfl rfl (by decide) (gR 5 rfl (QA rfl rfl rfl rfl (by decide) (gR 6 rfl (bM civ (([1]:List Int)) (by kernel_rfl) (gR 0 rfl (Qq (f:=civ) (xs:=p.want) (y:=1) (fl':=true) rfl rfl rfl rfl (rfl) rfl rfl rfl (by decide) rfl (by omega) (by omega) rfl (gR 9 rfl ?_))))))))
  exact Qt <| Ql rfl (Xg (.cons (Qs rfl (.inr rfl)) (.cons (Xu (f:=cR) (xs:=p.cells) (rfl) rfl (rfl)) (.cons (Q5 (f:=civ) (xs:=p.want++[1]) rfl rfl (by simp) (fun _=>rfl)) .nil)))) .nil
 ·skip
  refine cN rfl rfl (JP q0 7 (by decide)) ?_
  rw [hdd]
  refine gR 4 rfl (Qp rfl rfl rfl rfl (by decide) (gR 5 rfl (Qp rfl rfl rfl rfl (by decide) (gR 5 rfl (QA rfl rfl rfl rfl (by decide) (gR 7 rfl (QC rfl rfl (gR 0 rfl (QA rfl rfl rfl rfl (by omega) (gR 3 rfl ?_))))))))))
  have hbb:∀ y∈celK p.cells k,-9223372036854775807<=y.b/\y.b<=9223372036854775807:=fun y hy=>by
   have:=(JR ((hp.cells.ok _ (Xr hck)).val y hy)).2
   omega
  refine gI 6 rfl (QF rfl rfl rfl rfl (by omega) (by omega) (gR 0 rfl (JS (f:=cR) (xs:=p.cells) (y:=(celK p.cells k)) rfl rfl rfl hck rfl (gR 0 rfl (Qm rfl rfl rfl (by decide) (by decide) (gR 1 rfl (Qm rfl rfl rfl (by decide) (by decide) (gR 1 rfl (Qm rfl rfl rfl (by decide) (by decide) (gR 2 rfl (cN rfl rfl (vc58 (celK p.cells k) (by omega) hbb q2 q1 q0) ?_)))))))))))
  refine gR 0 rfl (QF rfl rfl rfl rfl (by omega) (by omega) (gR 0 rfl (rs_st_m (f:=cR) (xs:=p.cells) (t:=k) (v:=oddC (celK p.cells k) q2 q1 q0) (fl':=true) rfl rfl rfl rfl (by omega) rfl rfl (nL rfl) rfl rfl (gR 0 rfl (Q9 (by kernel_rfl) (gP 6 rfl ?_))))))
  exact Qt <| Ql rfl (Xg (.cons (Qs rfl (.inr rfl)) (.cons (Xu (f:=cR) (xs:=p.cells.set k (oddC (celK p.cells k) q2 q1 q0)) (rfl) rfl (by rw [List.length_set])) (.cons (Q5 (f:=civ) (xs:=p.want) rfl rfl (rfl) (fun _=>rfl)) .nil)))) .nil
 ·skip
  refine cN rfl rfl (JP q0 7 (by decide)) ?_
  rw [hdd]
  refine gR 4 rfl (Qp rfl rfl rfl rfl (by decide) (gR 5 rfl (Qp rfl rfl rfl rfl (by decide) (gR 5 rfl (Qp rfl rfl rfl rfl (by decide) (gR 5 rfl (QA rfl rfl rfl rfl (by decide) (gR 7 rfl (QC rfl rfl (gR 0 rfl (QA rfl rfl rfl rfl (by omega) ?_)))))))))))
  refine gR 6 rfl (bT (l:=[]) (els:=[]) (by kernel_rfl) (gR 3 rfl (QF rfl rfl rfl rfl (by omega) (by omega) (gR 0 rfl (JS (f:=cR) (xs:=p.cells) (y:=(celK p.cells k)) rfl rfl rfl hck rfl (gR 0 rfl (rs_appf (f:=cPl) (ys:=(celK p.cells k)) (n:=(celK p.cells k).length) (rd:=[]) rfl rfl rfl rfl rfl rfl rfl (by simp) (fun _=>rfl) rfl (by omega) (by omega) (fun _=>rfl) (gR 0 rfl (bM cR (([(celK p.cells k)]:List (List Pl))) (by kernel_rfl) (gR 0 rfl (Qq (f:=cR) (xs:=p.cells) (y:=(celK p.cells k)) (fl':=true) rfl rfl rfl rfl (rfl) rfl rfl rfl (by decide) rfl (by omega) (by omega) rfl ?_)))))))))))
  refine gR 2 rfl (Q9 (by kernel_rfl) (gP 3 rfl (bM civ (([1]:List Int)) (by kernel_rfl) (gR 0 rfl (Qq (f:=civ) (xs:=p.want) (y:=1) (fl':=true) rfl rfl rfl rfl (rfl) rfl rfl rfl (by decide) rfl (by omega) (by omega) rfl (gR 9 rfl ?_))))))
  exact Qt <| Ql rfl (Xg (.cons (Qs rfl (.inr rfl)) (.cons (Xu (f:=cR) (xs:=p.cells++[(celK p.cells k)]) (rfl) rfl (by simp)) (.cons (Q5 (f:=civ) (xs:=p.want++[1]) rfl rfl (by simp) (fun _=>rfl)) .nil)))) .nil
 ·skip
  refine cN rfl rfl (JP q0 7 (by decide)) ?_
  rw [hdd]
  refine gR 4 rfl (Qp rfl rfl rfl rfl (by decide) (gR 5 rfl (Qp rfl rfl rfl rfl (by decide) (gR 5 rfl (Qp rfl rfl rfl rfl (by decide) (gR 5 rfl (Qp rfl rfl rfl rfl (by decide) (gR 5 rfl (QA rfl rfl rfl rfl (by decide) (gR 7 rfl (QC rfl rfl ?_)))))))))))
  refine gR 3 rfl ?_
  refine Qo (α:=Nat) (fun m=>30-(p.cells.length+m)) (fun m=>[(3,.ptr 3 0 0),(4,.ptr 4 0 0),(5,.ptr 5 0 0),(7,iv ((p.cells.length+(m):Nat):Int))]) (fun m=>[(3,.cells 25 3 [[iv q0,iv q1,iv q2]] true),(4,.cells 31 3 [[.str (strN []),.nils,.nils]] true),(5,.cells 31 3 [[.str (strN p.name),.sl 901 0 (p.cells.length+(m)),.sl 16 0 (p.want.length+(m))]] false),(901,.cells 85 1 ((p.cells++(List.range (m)).map (bxO p.cells.length)).map cR) true),(16,.cells 3 1 ((p.want++(List.range (m)).map (wtO p.cells.length)).map civ) true)]) (fun m=>(m:Int)<=max 0 (16+Ja q2 2-(p.cells.length:Int))) 0 (by omega)
   (Qb (.cs (.cs (.cs (.cons rfl (rc_int (by omega)) (.nil))))) (.keep (rfl) rfl (.keep (rfl) rfl (.keep (rfl) rfl (.keep (by rw [List.range_zero,List.map_nil,List.append_nil]; rfl) rfl (.keep (by rw [List.range_zero,List.map_nil,List.append_nil]; rfl) rfl (.nil)))))) (fun i h=>by cases h)) ?_
  intro m hm
  refine gT 4 rfl (Qm rfl rfl rfl (by decide) (by decide) (gR 1 rfl (cN rfl rfl (JP q2 2 (by decide)) (gR 0 rfl (Qf rfl rfl rfl (by omega) (gR 2 rfl (Qc rfl (fun h114=>?_) (fun h114=>?_))))))))
  ·replace h114:=of_decide_eq_true h114
   refine gK 10 rfl (Qf rfl rfl rfl (by omega) (gR 1 rfl (cN rfl rfl (vc47 ⟨((p.cells.length+m:Nat):Int),10,0⟩ ⟨((p.cells.length+m:Nat):Int)+1,11,1⟩ (by dsimp only; omega)) (gR 0 rfl (bM cR (([bxO p.cells.length m]:List (List Pl))) (by kernel_rfl) (gR 0 rfl (Qq (f:=cR) (xs:=(p.cells++(List.range (m)).map (bxO p.cells.length))) (y:=bxO p.cells.length m) (fl':=true) rfl rfl rfl rfl (by simp) rfl rfl rfl (by decide) rfl (by omega) (by omega) rfl (gR 2 rfl (Q9 (by kernel_rfl) (gP 4 rfl (XA rfl rfl rfl (by decide) rfl ?_)))))))))))
   refine gR 0 rfl (QS rfl rfl rfl rfl (gR 0 rfl (bM civ (([wtO p.cells.length m]:List Int)) (by kernel_rfl) (gR 0 rfl (Qq (f:=civ) (xs:=(p.want++(List.range (m)).map (wtO p.cells.length))) (y:=wtO p.cells.length m) (fl':=true) rfl rfl rfl rfl (by simp) rfl rfl rfl (by decide) rfl (by omega) (by omega) rfl (gR 5 rfl (Qf rfl rfl rfl (by omega) (gR 2 rfl ?_))))))))
   exact Qz <| ⟨m+1,by omega,by omega,Weak.trans (F1:=[(3,.ptr 3 0 0),(4,.ptr 4 0 0),(5,.ptr 5 0 0),(7,iv ((p.cells.length+(m+1):Nat):Int))]) (H1:=[(3,.cells 25 3 [[iv q0,iv q1,iv q2]] true),(4,.cells 31 3 [[.str (strN []),.nils,.nils]] true),(5,.cells 31 3 [[.str (strN p.name),.sl 126 0 (p.cells.length+(m+1)),.sl 16 0 (p.want.length+(m+1))]] false),(126,.cells 85 1 ((p.cells++(List.range (m+1)).map (bxO p.cells.length)).map cR) true),(16,.cells 3 1 ((p.want++(List.range (m+1)).map (wtO p.cells.length)).map civ) true)]) (show Weak _ _ _ _ [(3,.ptr 3 0 0),(4,.ptr 4 0 0),(5,.ptr 5 0 0),(7,iv ((p.cells.length+(m+1):Nat):Int))] [(3,.cells 25 3 [[iv q0,iv q1,iv q2]] true),(4,.cells 31 3 [[.str (strN []),.nils,.nils]] true),(5,.cells 31 3 [[.str (strN p.name),.sl 126 0 (p.cells.length+(m+1)),.sl 16 0 (p.want.length+(m+1))]] false),(126,.cells 85 1 ((p.cells++(List.range (m+1)).map (bxO p.cells.length)).map cR) true),(16,.cells 3 1 ((p.want++(List.range (m+1)).map (wtO p.cells.length)).map civ) true)] from Weak.trans (F1:=[(3,.ptr 3 0 0),(4,.ptr 4 0 0),(5,.ptr 5 0 0),(7,iv ((p.cells.length+(m+1):Nat):Int))]) (H1:=[(3,.cells 25 3 [[iv q0,iv q1,iv q2]] true),(4,.cells 31 3 [[.str (strN []),.nils,.nils]] true),(5,.cells 31 3 [[.str (strN p.name),.sl 126 0 (p.cells.length+(m+1)),.sl 134 0 (p.want.length+(m+1))]] false),(126,.cells 85 1 ((p.cells++(List.range (m+1)).map (bxO p.cells.length)).map cR) true),(134,.cells 3 1 ((p.want++(List.range (m+1)).map (wtO p.cells.length)).map civ) true)]) (Qb (.cs (.cs (.cs (.cons rfl (rc_int (by omega)) (.nil))))) (.keep (rfl) rfl (.keep (rfl) rfl (.keep (rfl) rfl (.keep (by rw [rng_snoc (f:=bxO p.cells.length)]; rfl) rfl (.keep (by rw [rng_snoc (f:=wtO p.cells.length)]; rfl) rfl (.nil)))))) fun i h=>by cases h) (Weak.trans (F1:=[(3,.ptr 3 0 0),(4,.ptr 4 0 0),(5,.ptr 5 0 0),(7,iv ((p.cells.length+(m+1):Nat):Int))]) (QN (i:=134) (i':=16) (k:=5) rfl rfl (.cons rfl (.same _) (.cons rfl (.same _) (.cons rfl (.same _) (.cons rfl (.same _) (.nil))))) (by decide) rfl (.cons (.same _) (.cons (.same _) (.cons (.sl _ _) (RenL.refl _ _ _))))) (Qb (Qa rfl rfl) (kS rfl rfl) fun i h=>by cases h))) (show Weak _ _ _ _ [(3,.ptr 3 0 0),(4,.ptr 4 0 0),(5,.ptr 5 0 0),(7,iv ((p.cells.length+(m+1):Nat):Int))] [(3,.cells 25 3 [[iv q0,iv q1,iv q2]] true),(4,.cells 31 3 [[.str (strN []),.nils,.nils]] true),(5,.cells 31 3 [[.str (strN p.name),.sl 901 0 (p.cells.length+(m+1)),.sl 16 0 (p.want.length+(m+1))]] false),(901,.cells 85 1 ((p.cells++(List.range (m+1)).map (bxO p.cells.length)).map cR) true),(16,.cells 3 1 ((p.want++(List.range (m+1)).map (wtO p.cells.length)).map civ) true)] from Weak.trans (F1:=[(3,.ptr 3 0 0),(4,.ptr 4 0 0),(5,.ptr 5 0 0),(7,iv ((p.cells.length+(m+1):Nat):Int))]) (H1:=[(3,.cells 25 3 [[iv q0,iv q1,iv q2]] true),(4,.cells 31 3 [[.str (strN []),.nils,.nils]] true),(5,.cells 31 3 [[.str (strN p.name),.sl 126 0 (p.cells.length+(m+1)),.sl 16 0 (p.want.length+(m+1))]] false),(126,.cells 85 1 ((p.cells++(List.range (m+1)).map (bxO p.cells.length)).map cR) true),(16,.cells 3 1 ((p.want++(List.range (m+1)).map (wtO p.cells.length)).map civ) true)]) (Qb (Qa rfl rfl) (kS rfl rfl) fun i h=>by cases h) (Weak.trans (F1:=[(3,.ptr 3 0 0),(4,.ptr 4 0 0),(5,.ptr 5 0 0),(7,iv ((p.cells.length+(m+1):Nat):Int))]) (QN (i:=126) (i':=901) (k:=5) rfl rfl (.cons rfl (.same _) (.cons rfl (.same _) (.cons rfl (.same _) (.cons rfl (.same _) (.nil))))) (by decide) rfl (.cons (.same _) (.cons (.sl _ _) (RenL.refl _ _ _)))) (Qb (Qa rfl rfl) (kS rfl rfl) fun i h=>by cases h)))⟩
  ·replace h114:=of_decide_eq_false h114
   refine gK 7 rfl ?_
   obtain rfl:m=(16+Ja q2 2-(p.cells.length:Int)).toNat:=by omega
   exact Qt <| Ql rfl (Xg (.cons (Qs rfl (.inr rfl)) (.cons (Xu (f:=cR) (xs:=(p.cells++(List.range ((16+Ja q2 2-(p.cells.length:Int)).toNat)).map (bxO p.cells.length))) (rfl) rfl (by simp)) (.cons (Q5 (f:=civ) (xs:=(p.want++(List.range ((16+Ja q2 2-(p.cells.length:Int)).toNat)).map (wtO p.cells.length))) rfl rfl (by simp) (fun _=>rfl)) .nil)))) .nil
 ·skip
  refine cN rfl rfl (JP q0 7 (by decide)) ?_
  rw [hdd]
  refine gR 4 rfl (Qp rfl rfl rfl rfl (by decide) (gR 5 rfl (Qp rfl rfl rfl rfl (by decide) (gR 5 rfl (Qp rfl rfl rfl rfl (by decide) (gR 5 rfl (Qp rfl rfl rfl rfl (by decide) (gR 5 rfl (Qp rfl rfl rfl rfl (by decide) (gR 5 rfl (QA rfl rfl rfl rfl (by decide) ?_)))))))))))
  refine gR 9 rfl (QC rfl rfl (gR 0 rfl (QR (c:=((p.cells.length / 2:Nat):Int)) rfl rfl rfl (by decide) (by rw [Int.tdiv_eq_ediv_of_nonneg (by omega),show IntKind.i64.wrap ((p.cells.length:Int) / 2)=(p.cells.length:Int) / 2 from QU (by omega)]; omega) (gR 0 rfl (rs_slc_s (l:=0) (q:=((p.cells.length / 2:Nat):Int)) rfl rfl rfl rfl rfl (by decide) (.inl rfl) (by omega) (by omega) (gR 8 rfl (QC rfl rfl (gR 0 rfl (QR (c:=((p.want.length / 2:Nat):Int)) rfl rfl rfl (by decide) (by rw [Int.tdiv_eq_ediv_of_nonneg (by omega),show IntKind.i64.wrap ((p.want.length:Int) / 2)=(p.want.length:Int) / 2 from QU (by omega)]; omega) (gR 0 rfl (rs_slc_s (l:=0) (q:=((p.want.length / 2:Nat):Int)) rfl rfl rfl rfl rfl (by decide) (.inl rfl) (by omega) (by omega) ?_)))))))))))
  refine gR 9 rfl ?_
  exact Qt <| Ql rfl (Xg (.cons (Qs rfl (.inr rfl)) (.cons (rc_frzTA (f:=cR) (xs:=p.cells) (n:=p.cells.length / 2) rfl rfl (by omega)) (.cons (rc_frzT (f:=civ) (xs:=p.want) (n:=p.want.length / 2) rfl rfl (by omega) (fun _=>rfl)) .nil)))) .nil
 ·skip
  refine cN rfl rfl (JP q0 7 (by decide)) ?_
  rw [hdd]
  refine gR 4 rfl (Qp rfl rfl rfl rfl (by decide) (gR 5 rfl (Qp rfl rfl rfl rfl (by decide) (gR 5 rfl (Qp rfl rfl rfl rfl (by decide) (gR 5 rfl (Qp rfl rfl rfl rfl (by decide) (gR 5 rfl (Qp rfl rfl rfl rfl (by decide) (gR 5 rfl (Qp rfl rfl rfl rfl (by decide) ?_)))))))))))
  refine gR 5 rfl (QA rfl rfl rfl rfl (by decide) (gR 18 rfl ?_))
  exact Qt <| Ql rfl (Xg (.cons (Qs rfl (.inr rfl)) (.cons (Qy) (.cons (Qy) .nil)))) .nil
end Go.Proofs.YthfhaoogcpfboaaGreat
namespace Go.Proofs.YthfhaoogcpfboaaGreat
open Go.RowKit
set_option maxRecDepth 100000
set_option linter.unusedVariables false
theorem lg_step {n j:Nat} (hn:n<=64) (hj:j<=6) (h:((2^j:Nat):Int)<(n:Int)):j+1<=lg n:=by
 have:∀ n:Fin 65,∀ j:Fin 7,2^j.val<n.val->j.val+1<=lg n.val:=by decide +kernel
 exact this ⟨n,by omega⟩ ⟨j,by omega⟩ (by exact_mod_cast h)
theorem lg_end {n j:Nat} (hn:n<=64) (hj:j<=lg n) (h:¬ ((2^j:Nat):Int)<(n:Int)):j=lg n:=by
 have h6:=lg_6 n
 have:∀ n:Fin 65,∀ j:Fin 7,j.val<=lg n.val->n.val<=2^j.val->j.val=lg n.val:=by decide +kernel
 exact this ⟨n,by omega⟩ ⟨j,by omega⟩ hj (by have:¬ 2^j<n:=fun q=>h (by exact_mod_cast q); show n<=2^j; omega)
theorem upT {lv:List (List Int)} {i:Nat}:(List.range (i+1)).map (pr lv)=(List.range i).map (pr lv)++[pr lv i]:=by rw [List.range_succ,List.map_append]; rfl
theorem gD_at {lv:List (List Int)} {i:Nat} (h:i<lv.length):lv[i]?=some (lv.getD i []):=by rw [List.getD_eq_getElem?_getD,List.getElem?_eq_getElem h]; rfl
def mcv113:MC:=(sq [oN 2 (.mv (.c .nils)) []] (sq [oN 3 (.mv (.c .nils)) []] (.seq (sq [oN 4 (.mv (cI 0)) []] (.block 0 (.loop (.seq (sq [oM 6 4 [],oM 7 0 [],oE 8 7 [1],oB 9 .lss 6 8 [0,2]] (.cond 9 .skip (.exit 0))) (.seq (.block 1 (rg [oM 12 3 [],oM 13 0 [],oM 14 4 [],oX 15 1 13 14 [1,2],oD 16 1 15 [3],oC 17 125 [16] [4],oN 18 (.bslice 9 1 [(.str (strN []))] 1 [(0,17)]) [5],oN 19 (.app 9 1 16 [(.str (strN []))] 12 18) [0,6,5],oM 3 19 (7::7::up 8)])) (rg [oM 10 4 [],oB 11 .add 10 (cI 1) [0],oM 4 11 [1,0,1]])))))) (sq [oN 5 (.mv (cI 1)) []] (.seq (.block 2 (.loop (.seq (sq [oM 20 5 [],oM 21 0 [],oE 22 21 [1],oB 23 .lss 20 22 [0,2]] (.cond 23 .skip (.exit 2))) (.block 3 (rg [oM 24 5 [],oB 25 .mul (cI 2) 24 [0],oM 5 25 [1,0,1]]))))) (.seq (.block 4 (.loop (.seq (sq [oM 26 3 [],oE 27 26 [0],oM 28 5 [],oB 29 .lss 27 28 [1,2]] (.cond 29 .skip (.exit 4))) (.block 5 (rg [oM 30 3 [],oC 31 148 [] [],oN 32 (.bslice 9 1 [(.str (strN []))] 1 [(0,31)]) [1],oN 33 (.app 9 1 16 [(.str (strN []))] 30 32) [0,2,1],oM 3 33 (3::3::up 4)]))))) (sq [oM 34 3 [],oM 2 34 [0,0]] .ret)))))))
theorem mcOkv113:okM Tryz.prog Tryz.f113 35=some mcv113:=by kernel_rfl
theorem vc113 (ps:List (List Int)) (hp:∀ p∈ps,B8 p/\p.length<=LIM) (hn:ps.length<=64):FC Tryz.prog 113 [.rs 1 (ps.map cS)] [] (.rs 1 ((padS ps (2^lg ps.length-ps.length)).map cS)) [] false:=by
 have h6:=lg_6 ps.length
 have hf:=lg_fit ps.length hn
 refine Qg (nt:=35) Tryz.func113 rfl rfl mcOkv113 (nL rfl) ?_
 delta mcv113
 refine gA 14 rfl ?_
 refine Qo (α:=Nat) (fun k=>ps.length-k) (fun k=>[(0,.rs 1 (ps.map cS)),(3,.sl 901 0 (k)),(4,iv (((k):Nat):Int))]) (fun k=>[(901,.cells 9 1 (((ps.take (k)).map J2).map cS) true)]) (fun k=>k<=ps.length) 0 (by omega)
  (Qb (.cs (.cons rfl (Xj rfl rfl) (.cs (.nil)))) (.virt rfl (.nil)) (fun i h=>by cases h)) ?_
 intro k hk
 refine gT 5 rfl (Qe rfl rfl (gR 2 rfl (Qc rfl (fun h9=>?_) (fun h9=>?_))))
 ·replace h9:=of_decide_eq_true h9
  refine gK 7 rfl ?_
  obtain ⟨q,hqk,hqm⟩:=Qk (L:=ps) (k:=k) (by omega)
  refine Qi (f:=cS) (y:=q) rfl rfl rfl (by omega) hqk (gR 1 rfl (cN rfl rfl (vc125 q (hp q hqm)) (gR 0 rfl (bM cS (([J2 q]:List (List Int))) (by kernel_rfl) (gR 0 rfl (Qq (f:=cS) (xs:=(ps.take k).map J2) (y:=J2 q) (fl':=true) rfl rfl rfl rfl (by simp; omega) rfl rfl rfl (by decide) rfl (by omega) (by omega) rfl (gR 4 rfl (Qf rfl rfl rfl (by omega) (gR 2 rfl ?_)))))))))
  exact Qz <| ⟨k+1,by omega,by omega,QB (i:=19) (i':=901) (F1:=[(0,.rs 1 (ps.map cS)),(3,.sl 19 0 (k+1)),(4,iv (((k+1):Nat):Int))]) (H1:=[(19,.cells 9 1 (((ps.take (k+1)).map J2).map cS) true)]) (Qa rfl rfl) (.keep (by rw [leaf_succ hqk]; rfl) rfl (.nil)) (fun i h=>by cases h) rfl rfl (.cons rfl (.same _) (.cons rfl (.sl _ _) (.cons rfl (.same _) (.nil)))) (Qa rfl rfl) (.keep rfl rfl .nil) nz⟩
 ·replace h9:=of_decide_eq_false h9
  refine gK 7 rfl ?_
  refine Qo (α:=Nat) (fun j=>10-j) (fun j=>[(0,.rs 1 (ps.map cS)),(3,.sl 901 0 ps.length),(5,iv ((2^(j):Nat):Int))]) (fun j=>[(901,.cells 9 1 ((padS ps 0).map cS) true)]) (fun j=>j<=lg ps.length) 0 (Nat.zero_le _)
   (by
    obtain rfl:k=ps.length:=by omega
    exact Qb (Qa rfl rfl) (.keep (by rw [padS_0]; rfl) rfl (.nil)) (fun i h=>by cases h)) ?_
  intro j hj
  refine gT 5 rfl (Qe rfl rfl (gR 2 rfl (Qc rfl (fun h23=>?_) (fun h23=>?_))))
  ·replace h23:=of_decide_eq_true h23
   refine gK 4 rfl (Q4 (c:=((2^(j+1):Nat):Int)) rfl rfl rfl (w_dbl (by have:=lg_step hn (by omega) h23; omega)) (gR 2 rfl ?_))
   have hj1:=lg_step hn (by omega) h23
   exact Qz <| ⟨j+1,hj1,by omega,Qb (Qa rfl rfl) (.keep rfl rfl .nil) nz⟩
  ·replace h23:=of_decide_eq_false h23
   refine gK 3 rfl ?_
   refine Qo (α:=Nat) (fun i=>2^lg ps.length-(ps.length+i)) (fun i=>[(3,.sl 901 0 (ps.length+(i))),(5,iv ((2^lg ps.length:Nat):Int))]) (fun i=>[(901,.cells 9 1 ((padS ps (i)).map cS) true)]) (fun i=>ps.length+i<=2^lg ps.length) 0 (hf.1)
    (by
     obtain rfl:=lg_end hn hj h23
     exact Qb (Qa rfl rfl) (.keep rfl rfl .nil) nz) ?_
   intro i hi
   refine gT 4 rfl (QC rfl rfl (gR 3 rfl (Qc rfl (fun h29=>?_) (fun h29=>?_))))
   ·replace h29:=of_decide_eq_true h29
    refine gK 4 rfl (cN rfl rfl (vc148) (gR 0 rfl (bM cS (([missS]:List (List Int))) (by kernel_rfl) (gR 0 rfl (Qq (f:=cS) (xs:=padS ps i) (y:=missS) (fl':=true) rfl rfl rfl rfl (padS_len _ _) rfl rfl rfl (by decide) rfl (by omega) (by omega) rfl (gR 2 rfl ?_))))))
    exact Qz <| ⟨i+1,by omega,by omega,QB (i:=33) (i':=901) (F1:=[(3,.sl 33 0 (ps.length+(i+1))),(5,iv ((2^lg ps.length:Nat):Int))]) (H1:=[(33,.cells 9 1 ((padS ps (i+1)).map cS) true)]) (Qa rfl rfl) (.keep (by rw [padS_succ]; rfl) rfl (.nil)) (fun i h=>by cases h) rfl rfl (.cons rfl (.sl _ _) (.cons rfl (.same _) (.nil))) (Qa rfl rfl) (.keep rfl rfl .nil) nz⟩
   ·replace h29:=of_decide_eq_false h29
    refine gK 7 rfl ?_
    obtain rfl:i=2^lg ps.length-ps.length:=by omega
    exact Qt <| Ql rfl (Q5 (f:=cS) (xs:=padS ps (2^lg ps.length-ps.length)) rfl rfl (padS_len _ _) (fun _=>rfl)) .nil
def mcv114:MC:=(sq [oN 2 (.mv (.c .nils)) []] (sq [oN 3 (.mv (.c .nils)) []] (.seq (sq [oN 4 (.mv (cI 0)) []] (.block 0 (.loop (.seq (sq [oM 5 4 [],oB 6 .add 5 (cI 1) [0],oM 7 0 [],oE 8 7 [2],oB 9 .lss 6 8 [1,3]] (.cond 9 .skip (.exit 0))) (.seq (.block 1 (dg [oM 12 3 [],oM 13 0 [],oM 14 4 [],oX 15 1 13 14 [1,2],oD 16 1 15 [3],oM 17 0 [],oM 18 4 [],oB 19 .add 18 (cI 1) [6],oX 20 1 17 19 [5,7],oD 21 1 20 [8],oC 22 126 [16,21] [4,9],oN 23 (.bslice 9 1 [(.str (strN []))] 1 [(0,22)]) [10],oN 24 (.app 9 1 16 [(.str (strN []))] 12 23) [0,11,10],oM 3 24 (12::12::up 13)])) (rg [oM 10 4 [],oB 11 .add 10 (cI 2) [0],oM 4 11 [1,0,1]])))))) (sq [oM 25 3 [],oM 2 25 [0,0]] .ret))))
theorem mcOkv114:okM Tryz.prog Tryz.f114 26=some mcv114:=by kernel_rfl
theorem vc114 (lv:List (List Int)) (m:Nat) (hm:lv.length=2*m) (hm2:m<=64) (ho:∀ d∈lv,B8 d/\d.length=8):FC Tryz.prog 114 [.rs 1 (lv.map cS)] [] (.rs 1 ((upS lv).map cS)) [] false:=by
 refine Qg (nt:=26) Tryz.func114 rfl rfl mcOkv114 (nL rfl) ?_
 delta mcv114
 refine gA 14 rfl ?_
 refine Qo (α:=Nat) (fun i=>m-i) (fun i=>[(0,.rs 1 (lv.map cS)),(3,.sl 901 0 (i)),(4,iv ((2*(i):Nat):Int))]) (fun i=>[(901,.cells 9 1 (((List.range (i)).map (pr lv)).map cS) true)]) (fun i=>i<=m) 0 (Nat.zero_le _)
  (Qb (.cs (.cons rfl (Xj rfl rfl) (.cs (.nil)))) (.virt rfl (.nil)) (fun i h=>by cases h)) ?_
 intro i hi
 refine gT 4 rfl (Qf rfl rfl rfl (by omega) (gR 1 rfl (Qe rfl rfl (gR 2 rfl (Qc rfl (fun h9=>?_) (fun h9=>?_))))))
 ·replace h9:=of_decide_eq_true h9
  refine gK 7 rfl ?_
  have h1:=gD_at (lv:=lv) (i:=2*i) (by omega)
  have h2:=gD_at (lv:=lv) (i:=2*i+1) (by omega)
  have o1:=ho _ (Xr h1)
  have o2:=ho _ (Xr h2)
  refine Qi (f:=cS) (y:=lv.getD (2*i) []) rfl rfl rfl (by omega) h1 (gR 3 rfl (Qf rfl rfl rfl (by omega) (gR 0 rfl (Qi (f:=cS) (y:=lv.getD (2*i+1) []) rfl rfl rfl (by omega) (by rw [show (((2*i:Nat):Int)+1).toNat=2*i+1 by omega]; exact h2) (gR 1 rfl (cN rfl rfl (vc126 (lv.getD (2*i) []) (lv.getD (2*i+1) []) ⟨o1.1,by rw [o1.2]; decide⟩ ⟨o2.1,by rw [o2.2]; decide⟩) (gR 0 rfl (bM cS (([pr lv i]:List (List Int))) (by kernel_rfl) (gR 0 rfl (Qq (f:=cS) (xs:=(List.range i).map (pr lv)) (y:=pr lv i) (fl':=true) rfl rfl rfl rfl (by simp) rfl rfl rfl (by decide) rfl (by omega) (by omega) rfl (gR 1 rfl ?_)))))))))))
  refine Q9 (by kernel_rfl) (gP 2 rfl (Qf rfl rfl rfl (by omega) (gR 2 rfl ?_)))
  exact Qz <| ⟨i+1,by omega,by omega,QB (i:=24) (i':=901) (F1:=[(0,.rs 1 (lv.map cS)),(3,.sl 24 0 (i+1)),(4,iv ((2*(i+1):Nat):Int))]) (H1:=[(24,.cells 9 1 (((List.range (i+1)).map (pr lv)).map cS) true)]) (.cs (.cs (.cons rfl (rc_int (by omega)) (.nil)))) (.keep (by rw [upT]; rfl) rfl (.nil)) (fun i h=>by cases h) rfl rfl (.cons rfl (.same _) (.cons rfl (.sl _ _) (.cons rfl (.same _) (.nil)))) (Qa rfl rfl) (.keep rfl rfl .nil) nz⟩
 ·replace h9:=of_decide_eq_false h9
  refine gK 7 rfl ?_
  obtain rfl:i=m:=by omega
  rw [show upS lv=(List.range i).map (pr lv) from by unfold upS; rw [show lv.length / 2=i by omega]]
  exact Qt <| Ql rfl (Q5 (f:=cS) (xs:=(List.range i).map (pr lv)) rfl rfl (by simp) (fun _=>rfl)) .nil
def mcv64:MC:=(sq [oN 2 (.mv (.c (.str (strN [])))) []] (sq [oM 4 0 [],oC 5 113 [4] [0],oM 3 5 [1,1,0,1]] (.seq (.block 0 (.loop (.seq (sq [oM 6 3 [],oE 7 6 [0],oB 8 .gtr 7 (cI 1) [1]] (.cond 8 .skip (.exit 0))) (.block 1 (rg [oM 9 3 [],oC 10 114 [9] [0],oM 3 10 [1,1,0,1]]))))) (sq [oM 11 3 [],oX 12 1 11 (cI 0) [0],oD 13 1 12 [1],oM 2 13 [2,0,1,2]] .ret))))
theorem mcOkv64:okM Tryz.prog Tryz.f64 14=some mcv64:=by kernel_rfl
theorem vc64 (ps:List (List Int)) (hp:∀ p∈ps,B8 p/\p.length<=LIM) (hn:ps.length<=64):FC Tryz.prog 64 [.rs 1 (ps.map cS)] [] (.str (strN (rootS ps))) [] false:=by
 have h6:=lg_6 ps.length
 refine Qg (nt:=14) Tryz.func64 rfl rfl mcOkv64 (nL rfl) ?_
 delta mcv64
 refine gA 7 rfl (cN rfl rfl (vc113 ps hp hn) (gR 4 rfl ?_))
 refine Qo (α:=Nat×List (List Int)) (fun s=>s.1) (fun s=>[(3,.rs 1 ((s.2).map cS))]) (fun s=>[]) (fun s=>LvOK s.1 s.2/\rootL s.1 s.2=rootS ps/\s.1<=6) (lg ps.length,padS ps (2^lg ps.length-ps.length)) (⟨padS_ok ps hn,rfl,h6⟩)
  (Qb (Qa rfl rfl) (.nil) (fun i h=>by cases h)) ?_
 rintro ⟨j,lv⟩ ⟨hlv,hrt,hj6⟩
 dsimp only at hlv hrt hj6 ⊢
 refine gT 4 rfl (Qe rfl rfl (gR 0 rfl (Ua rfl rfl rfl (gR 1 rfl (Qc rfl (fun h8=>?_) (fun h8=>?_))))))
 ·replace h8:=of_decide_eq_true h8
  refine gK 2 rfl ?_
  obtain ⟨i,rfl⟩:∃ i,j=i+1:=by
   rcases j with _ | i
   ·exfalso; have:=hlv.len; simp at this; omega
   ·exact ⟨i,rfl⟩
  have hi6:2^i<=64:=Nat.le_trans (Nat.pow_le_pow_right (by decide) (show i<=6 by omega)) (by decide)
  refine gI 2 rfl (cN rfl rfl (vc114 lv (2^i) (by rw [hlv.len,Nat.pow_succ]; omega) hi6 hlv.ok) (gR 2 rfl ?_))
  exact Qz <| ⟨(i,upS lv),⟨hlv.up,hrt,by dsimp only; omega⟩,by dsimp only; omega,Qb (Qa rfl rfl) (.nil) (fun i h=>by cases h)⟩
 ·replace h8:=of_decide_eq_false h8
  refine gK 2 rfl ?_
  have hj0:j=0:=by
   rcases j with _ | i
   ·rfl
   ·exfalso; have:=hlv.len; rw [Nat.pow_succ] at this; have:=Nat.two_pow_pos i; omega
  subst hj0
  obtain ⟨x,hx,_⟩:=Qk (L:=lv) (k:=0) (by rw [hlv.len]; decide)
  have hxr:x=rootS ps:=by rw [← hrt]; exact (getD_at hx).symm
  refine gI 2 rfl (Qi (f:=cS) (y:=x) rfl rfl rfl (by decide) hx (gR 4 rfl ?_))
  rw [← hxr]
  exact rQ
def mcv20:MC:=(sq [oN 2 (.mv (.c (.str (strN [])))) []] (sq [oN 3 (.mv (.c .nils)) []] (.seq (sq [oN 4 (.mv (cI 0)) []] (.block 0 (.loop (.seq (sq [oM 5 4 [],oM 6 0 [],oE 7 6 [1],oB 8 .lss 5 7 [0,2]] (.cond 8 .skip (.exit 0))) (.seq (.block 1 (rg [oM 11 3 [],oM 12 0 [],oM 13 4 [],oX 14 5 12 13 [1,2],oL 15 5 14 [3],oC 16 42 [15] [4],oN 17 (.bslice 9 1 [(.str (strN []))] 1 [(0,16)]) [5],oN 18 (.app 9 1 16 [(.str (strN []))] 11 17) [0,6,5],oM 3 18 (7::7::up 8)])) (rg [oM 9 4 [],oB 10 .add 9 (cI 1) [0],oM 4 10 [1,0,1]])))))) (sq [oM 19 3 [],oC 20 64 [19] [0],oM 2 20 [1,1,0,1]] .ret))))
theorem mcOkv20:okM Tryz.prog Tryz.f20 21=some mcv20:=by kernel_rfl
theorem vc20 (ls:List Lf) (hl:LsOK ls):FC Tryz.prog 20 [.rs 5 (ls.map cLf)] [] (.str (strN (rootF ls))) [] false:=by
 have hln:=hl.n
 refine Qg (nt:=21) Tryz.func20 rfl rfl mcOkv20 (nL rfl) ?_
 delta mcv20
 refine gA 14 rfl ?_
 refine Qo (α:=Nat) (fun k=>ls.length-k) (fun k=>[(0,.rs 5 (ls.map cLf)),(3,.sl 901 0 (k)),(4,iv (((k):Nat):Int))]) (fun k=>[(901,.cells 9 1 (((ls.take (k)).map Xn).map cS) true)]) (fun k=>k<=ls.length) 0 (by omega)
  (Qb (.cs (.cons rfl (Xj rfl rfl) (.cs (.nil)))) (.virt rfl (.nil)) (fun i h=>by cases h)) ?_
 intro k hk
 refine gT 5 rfl (Qe rfl rfl (gR 2 rfl (Qc rfl (fun h8=>?_) (fun h8=>?_))))
 ·replace h8:=of_decide_eq_true h8
  refine gK 7 rfl ?_
  obtain ⟨x,hxk,hxm⟩:=Qk (L:=ls) (k:=k) (by omega)
  refine Qi (f:=cLf) (y:=x) rfl rfl rfl (by omega) hxk (gR 0 rfl (Q8 (cs:=cLf x) rfl rfl (nL rfl) rfl (gR 0 rfl (cN rfl rfl (vc42 x (hl.ok x hxm)) (gR 0 rfl (bM cS (([Xn x]:List (List Int))) (by kernel_rfl) (gR 0 rfl (Qq (f:=cS) (xs:=(ls.take k).map Xn) (y:=Xn x) (fl':=true) rfl rfl rfl rfl (by simp; omega) rfl rfl rfl (by decide) rfl (by omega) (by omega) rfl (gR 4 rfl (Qf rfl rfl rfl (by omega) (gR 2 rfl ?_)))))))))))
  exact Qz <| ⟨k+1,by omega,by omega,QB (i:=18) (i':=901) (F1:=[(0,.rs 5 (ls.map cLf)),(3,.sl 18 0 (k+1)),(4,iv (((k+1):Nat):Int))]) (H1:=[(18,.cells 9 1 (((ls.take (k+1)).map Xn).map cS) true)]) (Qa rfl rfl) (.keep (by rw [tk_su hxk]; rfl) rfl (.nil)) (fun i h=>by cases h) rfl rfl (.cons rfl (.same _) (.cons rfl (.sl _ _) (.cons rfl (.same _) (.nil)))) (Qa rfl rfl) (.keep rfl rfl .nil) nz⟩
 ·replace h8:=of_decide_eq_false h8
  refine gK 2 rfl ?_
  obtain rfl:k=ls.length:=by omega
  refine gI 2 rfl (QD [901] rfl rfl (vc64 (ls.map Xn) hl.texts (by rw [List.length_map]; exact hln)) (.cons (QW (f:=cS) (xs:=ls.map Xn) (by simp) (by rw [List.take_length]; rfl) (by simp)) (.nil)) rfl (gR 3 rfl ?_))
  exact rQ
end Go.Proofs.YthfhaoogcpfboaaGreat
namespace Go.Proofs.YthfhaoogcpfboaaGreat
open Go.RowKit
set_option maxRecDepth 100000
set_option linter.unusedVariables false
end Go.Proofs.YthfhaoogcpfboaaGreat
namespace Go.Proofs.YthfhaoogcpfboaaGreat
open Go.RowKit
set_option maxRecDepth 100000
set_option linter.unusedVariables false
def cutF (x:Lf):Lf:=⟨x.ix,x.want,x.sure,x.touched,x.salt.take 10⟩
theorem take_min10 (l:List Int):l.take (min (l.length:Int) 10).toNat=l.take 10:=by
 by_cases h:l.length<=10
 ·rw [show (min (l.length:Int) 10).toNat=l.length by omega,List.take_of_length_le (Nat.le_refl _),List.take_of_length_le h]
 ·rw [show (min (l.length:Int) 10).toNat=10 by omega]
theorem map_snoc_at {α β:Type} {f:α->β} {l:List α} {k:Nat} {x:α} (h:l[k]?=some x):(l.take (k+1)).map f=(l.take k).map f++[f x]:=by rw [Q3 h,List.map_append]; rfl
theorem incF_out {n:Nat} {w:List Int} {a:Int} {l:List Int} (hw:w=a::l) (hb:∀ x∈w,0<=x/\x<(n:Int)):incF (n:Int) (-1) w=incF (n:Int) a l:=by
 subst hw
 have:=hb a (List.mem_cons_self ..)
 show (decide (0<=a)&&decide (a<(n:Int))&&decide (-1<a)&&incF (n:Int) a l)=_
 rw [decide_eq_true this.1,decide_eq_true this.2,decide_eq_true (show -1<a by omega)]; rfl
end Go.Proofs.YthfhaoogcpfboaaGreat
namespace Go.Proofs.YthfhaoogcpfboaaGreat
open Go.RowKit
set_option maxRecDepth 100000
set_option linter.unusedVariables false
theorem any_out {n:Nat} {x:Int} (h:x<0\/x ≥ (n:Int)):Um n x=true:=by simp only [Um,Bool.or_eq_true,decide_eq_true_eq]; omega
theorem any_in {n:Nat} {x:Int} (h1:¬ x<0) (h2:¬ x ≥ (n:Int)):Um n x=false:=by simp only [Um,Bool.or_eq_false_iff,decide_eq_false_iff_not]; omega
def mcv23:MC:=(sq [oN 4 (.alloc 55 3 [(iv 0),.nils,.nils]) [],oN 5 (.mv (cI 0)) []] (.seq (sq [oM 11 0 [],oE 12 11 [0],oB 13 .lss 12 (cI 1) [1],oM 14 13 [2],pM 15 0 14 false [3],oG 16 (.len 15) 14 false [4,3],oG 17 (.bin .gtr 16 (cI 16)) 14 false [5,3],oN 18 (.pick 14 (.c (.bool true)) 17) [3,6]] (.cond 18 (sq [oN 19 (.build [(iv 0),.nils,.nils] []) [],oS 3 4 19 [0,0],oN 5 (.mv (cI 2)) [1,0,1]] .ret) .skip)) (.seq (sq [oN 6 (.mv (cI 0)) []] (.block 0 (.loop (.seq (sq [oM 20 6 [],oM 21 0 [],oE 22 21 [1],oB 23 .lss 20 22 [0,2]] (.cond 23 .skip (.exit 0))) (.seq (.block 1 (sq [oM 26 0 [],oM 27 6 [],oX 28 5 26 27 [0,1],oA 29 0 28 [2],oD 30 1 29 [3],oM 31 6 [],oB 32 .neq 30 31 [4,5]] (.cond 32 (sq [oN 33 (.build [(iv 0),.nils,.nils] []) [],oS 3 4 33 [0,0],oN 5 (.mv (cI 4)) [1,0,1]] .ret) .skip))) (rg [oM 24 6 [],oB 25 .add 24 (cI 1) [0],oM 6 25 [1,0,1]])))))) (.seq (sq [oN 7 (.mv (cI 0)) []] (.block 2 (.loop (.seq (sq [oM 34 7 [],oM 35 1 [],oE 36 35 [1],oB 37 .lss 34 36 [0,2]] (.cond 37 .skip (.exit 2))) (.seq (.block 3 (sq [oM 40 1 [],oM 41 7 [],oX 42 1 40 41 [0,1],oD 43 1 42 [2],oB 44 .lss 43 (cI 0) [3],oM 45 44 [4],pM 46 1 45 false [5],pM 47 7 45 false [5],oG 48 (.ixsl 1 46 47) 45 false [6,7,5],pD 49 1 48 45 false [8,5],pM 50 0 45 false [5],oG 51 (.len 50) 45 false [10,5],oG 52 (.bin .geq 49 51) 45 false [9,11,5],oN 53 (.pick 45 (.c (.bool true)) 52) [5,12]] (.cond 53 (sq [oN 54 (.build [(iv 0),.nils,.nils] []) [],oS 3 4 54 [0,0],oN 5 (.mv (cI 5)) [1,0,1]] .ret) .skip))) (rg [oM 38 7 [],oB 39 .add 38 (cI 1) [0],oM 7 39 [1,0,1]])))))) (.seq (sq [oN 8 (.mv (cI 1)) []] (.block 4 (.loop (.seq (sq [oM 55 8 [],oM 56 1 [],oE 57 56 [1],oB 58 .lss 55 57 [0,2]] (.cond 58 .skip (.exit 4))) (.seq (.block 5 (dq [oM 61 1 [],oM 62 8 [],oX 63 1 61 62 [0,1],oD 64 1 63 [2],oM 65 1 [],oM 66 8 [],oB 67 .sub 66 (cI 1) [5],oX 68 1 65 67 [4,6],oD 69 1 68 [7],oB 70 .leq 64 69 [3,8]] (.cond 70 (sq [oN 71 (.build [(iv 0),.nils,.nils] []) [],oS 3 4 71 [0,0],oN 5 (.mv (cI 7)) [1,0,1]] .ret) .skip))) (rg [oM 59 8 [],oB 60 .add 59 (cI 1) [0],oM 8 60 [1,0,1]])))))) (sq [oM 72 0 [],oE 73 72 [0],oM 74 0 [],oM 75 1 [],oM 76 0 [],oE 77 76 [4],oC 78 71 [77] [5],oC 79 70 [74,75,(cI 0),78] [2,3,6,6],oN 80 (.build [(iv 0),.nils,.nils] [(0,1,73),(2,1,79)]) [1,7],oN 9 (.alloc 55 3 [(iv 0),.nils,.nils]) [],oS 3 9 80 (9::8::7::up 10)] (.seq (sq [oN 10 (.mv (cI 0)) []] (.block 6 (.loop (.seq (sq [oM 81 10 [],oM 82 1 [],oE 83 82 [1],oB 84 .lss 81 83 [0,2]] (.cond 84 .skip (.exit 6))) (.seq (.block 7 (dg [oA 87 1 9 [],oD 88 1 87 [0],oM 89 0 [],oM 90 1 [],oM 91 10 [],oX 92 1 90 91 [3,4],oD 93 1 92 [5],oX 94 5 89 93 [2,6],oL 95 5 94 [7],oN 96 (.bslice 51 5 [(iv 0),(iv 0),(.bool false),(.bool false),(.str (strN []))] 1 [(0,95)]) [8],oN 97 (.app 51 5 40 [(iv 0),(iv 0),(.bool false),(.bool false),(.str (strN []))] 88 96) [1,9],oA 98 1 9 (up 11),oS 1 98 97 (11::10::10::up 11)])) (rg [oM 85 10 [],oB 86 .add 85 (cI 1) [0],oM 10 86 [1,0,1]])))))) (sq [oL 99 3 9 [],oS 3 4 99 [0,0],oN 5 (.mv (cI 0)) [1,0,1]] .ret))))))))
theorem mcOkv23:okM Tryz.prog Tryz.f23 100=some mcv23:=by kernel_rfl
set_option maxHeartbeats 2000000 in
theorem vc23 (ls:List Lf) (hl:ls.length<=64) (hok:∀ x∈ls,x.OK) (w:List Int) (hwl:w.length<=64):FC Tryz.prog 23 [.rs 5 (ls.map cLf),.rs 1 (w.map civ)] [] (.tup [.agg (cSh (Je ls w)),iv (Xx ls w)]) [] false:=by
 refine Qg (nt:=100) Tryz.func23 rfl rfl mcOkv23 (nL rfl) ?_
 delta mcv23
 refine gA 9 rfl (Qe rfl rfl (gR 0 rfl (Qx rfl rfl rfl rfl (fun h13=>?_) (fun h13=>?_))))
 ·skip
  refine gR 14 rfl ?_
  have he:Xx ls w=2:=shE_2 (by omega)
  rw [shG_e he (by decide),he]
  exact Qt <| Ql rfl (QI (.cons (Xg (.cons (Qs rfl (.inr rfl)) (.cons Qy (.cons Qy .nil)))) (.cons (Qs rfl (.inr rfl)) .nil))) .nil
 ·skip
  refine gR 2 rfl (Qe rfl rfl (gR 0 rfl (Qx rfl rfl rfl rfl (fun h17=>?_) (fun h17=>?_))))
  ·skip
   refine gR 10 rfl ?_
   have he:Xx ls w=2:=shE_2 (by omega)
   rw [shG_e he (by decide),he]
   exact Qt <| Ql rfl (QI (.cons (Xg (.cons (Qs rfl (.inr rfl)) (.cons Qy (.cons Qy .nil)))) (.cons (Qs rfl (.inr rfl)) .nil))) .nil
  ·skip
   refine gR 10 rfl ?_
   refine Qo (α:=Nat) (fun k=>ls.length-k) (fun k=>[(0,.rs 5 (ls.map cLf)),(1,.rs 1 (w.map civ)),(4,.ptr 4 0 0),(6,iv (((k):Nat):Int))]) (fun k=>[(4,.cells 55 3 [[iv 0,.nils,.nils]] true)]) (fun k=>k<=ls.length/\ixF k (ls.drop k)=ixF 0 ls) 0 (⟨by omega,rfl⟩)
    (Qb (Qa rfl rfl) (.keep rfl rfl .nil) nz) ?_
   rintro k ⟨hk,hinv⟩
   refine gT 5 rfl (Qe rfl rfl (gR 2 rfl (Qc rfl (fun h23=>?_) (fun h23=>?_))))
   ·replace h23:=of_decide_eq_true h23
    refine gK 7 rfl ?_
    obtain ⟨x,hxk,hxm⟩:=Qk (L:=ls) (k:=k) (by omega)
    refine Qi (f:=cLf) (y:=x) rfl rfl rfl (by omega) hxk (gR 3 rfl (Xv rfl rfl rfl (gR 1 rfl (Qc rfl (fun h32=>?_) (fun h32=>?_)))))
    ·replace h32:=of_decide_eq_true h32
     refine gK 7 rfl ?_
     have he:Xx ls w=4:=shE_4 (by omega) (by rw [← hinv,ixF_at hxk,decide_eq_false h32]; rfl)
     rw [shG_e he (by decide),he]
     exact Qt <| Ql rfl (QI (.cons (Xg (.cons (Qs rfl (.inr rfl)) (.cons Qy (.cons Qy .nil)))) (.cons (Qs rfl (.inr rfl)) .nil))) .nil
    ·replace h32:=of_decide_eq_false h32
     refine gK 3 rfl (Qf rfl rfl rfl (by omega) (gR 2 rfl ?_))
     rw [ixF_at hxk,decide_eq_true (Decidable.byContradiction h32),Bool.true_and] at hinv
     exact Qz <| ⟨k+1,⟨by omega,hinv⟩,by omega,Qb (Qa rfl rfl) (.keep rfl rfl .nil) nz⟩
   ·replace h23:=of_decide_eq_false h23
    refine gK 3 rfl ?_
    have hix:ixF 0 ls=true:=by rw [← hinv,List.drop_eq_nil_of_le (by omega)]; rfl
    clear hinv
    refine gI 4 rfl ?_
    refine Qo (α:=Nat) (fun k=>w.length-k) (fun k=>[(0,.rs 5 (ls.map cLf)),(1,.rs 1 (w.map civ)),(4,.ptr 4 0 0),(7,iv (((k):Nat):Int))]) (fun k=>[(4,.cells 55 3 [[iv 0,.nils,.nils]] true)]) (fun k=>k<=w.length/\(w.drop k).any (Um ls.length)=w.any (Um ls.length)) 0 (⟨by omega,rfl⟩)
     (Qb (Qa rfl rfl) (.keep rfl rfl .nil) nz) ?_
    rintro k ⟨hk,hinv⟩
    refine gT 5 rfl (Qe rfl rfl (gR 2 rfl (Qc rfl (fun h37=>?_) (fun h37=>?_))))
    ·replace h37:=of_decide_eq_true h37
     refine gK 7 rfl ?_
     obtain ⟨b,hbk,hbm⟩:=Qk (L:=w) (k:=k) (by omega)
     refine Qi (f:=civ) (y:=b) rfl rfl rfl (by omega) hbk (gR 1 rfl (Qx rfl rfl rfl rfl (fun h44=>?_) (fun h44=>?_)))
     ·skip
      refine gR 18 rfl ?_
      have he:Xx ls w=5:=shE_5 (by omega) hix (by rw [← hinv,any_at hbk,any_out (by omega)]; rfl)
      rw [shG_e he (by decide),he]
      exact Qt <| Ql rfl (QI (.cons (Xg (.cons (Qs rfl (.inr rfl)) (.cons Qy (.cons Qy .nil)))) (.cons (Qs rfl (.inr rfl)) .nil))) .nil
     ·skip
      refine gR 3 rfl (Qi (f:=civ) (y:=b) rfl rfl rfl (by omega) hbk (gR 2 rfl (Qe rfl rfl (gR 0 rfl (Qx rfl rfl rfl rfl (fun h52=>?_) (fun h52=>?_))))))
      ·skip
       refine gR 10 rfl ?_
       have he:Xx ls w=5:=shE_5 (by omega) hix (by rw [← hinv,any_at hbk,any_out (by omega)]; rfl)
       rw [shG_e he (by decide),he]
       exact Qt <| Ql rfl (QI (.cons (Xg (.cons (Qs rfl (.inr rfl)) (.cons Qy (.cons Qy .nil)))) (.cons (Qs rfl (.inr rfl)) .nil))) .nil
      ·skip
       refine gR 6 rfl (Qf rfl rfl rfl (by omega) (gR 2 rfl ?_))
       rw [any_at hbk,any_in h44 h52,Bool.false_or] at hinv
       exact Qz <| ⟨k+1,⟨by omega,hinv⟩,by omega,Qb (Qa rfl rfl) (.keep rfl rfl .nil) nz⟩
    ·replace h37:=of_decide_eq_false h37
     refine gK 3 rfl ?_
     have hout:w.any (Um ls.length)=false:=by rw [← hinv,List.drop_eq_nil_of_le (by omega)]; rfl
     clear hinv
     have hbd:=out_bd hout
     refine gI 4 rfl ?_
     refine Qo (α:=Nat) (fun k=>w.length-k) (fun k=>[(0,.rs 5 (ls.map cLf)),(1,.rs 1 (w.map civ)),(4,.ptr 4 0 0),(8,iv (((k):Nat):Int))]) (fun k=>[(4,.cells 55 3 [[iv 0,.nils,.nils]] true)]) (fun k=>1<=k/\(k<=w.length\/w=[])/\(w=[]\/∃ p,w[k-1]?=some p/\incF (ls.length:Int) p (w.drop k)=incF (ls.length:Int) (-1) w)) 1 (⟨Nat.le_refl _,by cases w with | nil=>exact .inr rfl | cons a l=>exact .inl (by simp),by cases hw:w with | nil=>exact .inl rfl | cons a l=>exact .inr ⟨a,rfl,by rw [← hw,incF_out hw hbd,hw]; rfl⟩⟩)
      (Qb (Qa rfl rfl) (.keep rfl rfl .nil) nz) ?_
     rintro k ⟨hk1,hk,hpp⟩
     refine gT 5 rfl (Qe rfl rfl (gR 2 rfl (Qc rfl (fun h58=>?_) (fun h58=>?_))))
     ·replace h58:=of_decide_eq_true h58
      refine gK 7 rfl ?_
      obtain ⟨b,hbk,hbm⟩:=Qk (L:=w) (k:=k) (by omega)
      obtain ⟨hb0,hb1⟩:=hbd b hbm
      obtain ⟨a,ha,hinv2⟩:=hpp.resolve_left (fun e=>by rw [e] at hbk; simp at hbk)
      refine Qi (f:=civ) (y:=b) rfl rfl rfl (by omega) hbk (gR 3 rfl (rs_sub rfl rfl rfl (by omega) (gR 0 rfl (Qi (f:=civ) (y:=a) rfl rfl rfl (by omega) (by rw [show ((k:Int)-1).toNat=k-1 by omega]; exact ha) (gR 1 rfl (rs_leq rfl rfl rfl (gR 0 rfl (Q9 (by kernel_rfl) (gP 0 rfl (Qc rfl (fun h70=>?_) (fun h70=>?_)))))))))))
      ·replace h70:=of_decide_eq_true h70
       refine gK 7 rfl ?_
       have he:Xx ls w=7:=shE_7 (by omega) hix hout (by rw [← hinv2,incF_at hbk,decide_eq_false (show ¬ a<b by omega),Bool.and_false]; rfl)
       rw [shG_e he (by decide),he]
       exact Qt <| Ql rfl (QI (.cons (Xg (.cons (Qs rfl (.inr rfl)) (.cons Qy (.cons Qy .nil)))) (.cons (Qs rfl (.inr rfl)) .nil))) .nil
      ·replace h70:=of_decide_eq_false h70
       refine gK 3 rfl (Qf rfl rfl rfl (by omega) (gR 2 rfl ?_))
       rw [incF_at hbk,show (decide (0<=b)&&decide (b<(ls.length:Int))&&decide (a<b))=true from by simp only [Bool.and_eq_true,decide_eq_true_eq]; exact ⟨⟨hb0,hb1⟩,by omega⟩,Bool.true_and] at hinv2
       exact Qz <| ⟨k+1,⟨by omega,by omega,.inr ⟨b,by rw [show k+1-1=k by omega]; exact hbk,hinv2⟩⟩,by omega,Qb (Qa rfl rfl) (.keep rfl rfl .nil) nz⟩
     ·replace h58:=of_decide_eq_false h58
      refine gK 2 rfl ?_
      have hinc:incF (ls.length:Int) (-1) w=true:=by
       rcases hpp with e | ⟨p,hp1,hp2⟩
       ·rw [e]; rfl
       ·rw [← hp2,List.drop_eq_nil_of_le (by omega)]; rfl
      have hlv:LvsOK ls:=⟨by omega,fun i x h=>by rw [ixF_ix hix i x h]; omega,hok⟩
      have he:Xx ls w=0:=shE_0 (by omega) hix hout hinc
      have hha:=hidA_len (w:=w) hlv.n.2
      have hlg:=lg16 hlv.n.2
      refine gI 2 rfl (Qe rfl rfl (gR 3 rfl (Qe rfl rfl (gR 0 rfl (cN rfl rfl (vc71 ls.length hlv.n.2) (gR 0 rfl (cN rfl rfl (vc70 ls hlv.ls w (by omega) (lg ls.length) 0 901 (by omega)) (gR 10 rfl (QH (F0:=[(0,.rs 5 (ls.map cLf)),(1,.rs 1 (w.map civ)),(4,.ptr 4 0 0),(9,.ptr 9 0 0),(10,iv (((0):Nat):Int))]) (H0:=[(4,.cells 55 3 [[iv 0,.nils,.nils]] true),(9,.cells 55 3 [[iv (ls.length:Int),.sl 905 0 (0),.sl 901 0 (QG ls.length w (lg ls.length) 0).length]] false),(905,.cells 51 5 (((w.take (0)).map (selF ls)).map cLf) true),(901,.cells 9 1 (((QG ls.length w (lg ls.length) 0).map (Jq ls)).map cS) true)]) (Weak.trans (F1:=[(0,.rs 5 (ls.map cLf)),(1,.rs 1 (w.map civ)),(4,.ptr 4 0 0),(9,.ptr 9 0 0),(10,iv (((0):Nat):Int))]) (H1:=[(4,.cells 55 3 [[iv 0,.nils,.nils]] true),(9,.cells 55 3 [[iv (ls.length:Int),.nils,.sl 901 0 (QG ls.length w (lg ls.length) 0).length]] false),(901,.cells 9 1 (((QG ls.length w (lg ls.length) 0).map (Jq ls)).map cS) true)]) (Qb (Qa rfl rfl) (kS rfl rfl) fun i h=>by cases h) (Weak.trans (F1:=[(0,.rs 5 (ls.map cLf)),(1,.rs 1 (w.map civ)),(4,.ptr 4 0 0),(9,.ptr 9 0 0),(10,iv (((0):Nat):Int))]) (Xy (i:=905) (k:=9) (e2:=51) (z2:=5) (fl2:=true) rfl rfl (.next .here)) (Qb (Qa rfl rfl) (kS rfl rfl) fun i h=>by cases h))) ?_)))))))))
      refine Qo (α:=Nat) (fun k=>w.length-k) (fun k=>[(0,.rs 5 (ls.map cLf)),(1,.rs 1 (w.map civ)),(4,.ptr 4 0 0),(9,.ptr 9 0 0),(10,iv (((k):Nat):Int))]) (fun k=>[(4,.cells 55 3 [[iv 0,.nils,.nils]] true),(9,.cells 55 3 [[iv (ls.length:Int),.sl 905 0 (k),.sl 901 0 (QG ls.length w (lg ls.length) 0).length]] false),(905,.cells 51 5 (((w.take (k)).map (selF ls)).map cLf) true),(901,.cells 9 1 (((QG ls.length w (lg ls.length) 0).map (Jq ls)).map cS) true)]) (fun k=>k<=w.length) 0 (by omega)
       (Qb (Qa rfl rfl) (kS rfl rfl) (fun i h=>by cases h)) ?_
      intro k hk
      refine gT 5 rfl (Qe rfl rfl (gR 2 rfl (Qc rfl (fun h84=>?_) (fun h84=>?_))))
      ·replace h84:=of_decide_eq_true h84
       refine gK 9 rfl ?_
       obtain ⟨b,hbk,hbm⟩:=Qk (L:=w) (k:=k) (by omega)
       obtain ⟨hb0,hb1⟩:=hbd b hbm
       obtain ⟨x,hx,hxm⟩:=Qk (L:=ls) (k:=b.toNat) (by omega)
       refine Qi (f:=civ) (y:=b) rfl rfl rfl (by omega) hbk (gR 1 rfl (Qi (f:=cLf) (y:=x) rfl rfl rfl hb0 hx (gR 0 rfl (Q8 (cs:=cLf x) rfl rfl (nL rfl) rfl (gR 0 rfl (bM cLf (([x]:List Lf)) (by kernel_rfl) (gR 0 rfl (Qq (f:=cLf) (xs:=(w.take k).map (selF ls)) (y:=x) (fl':=true) rfl rfl rfl rfl (by simp; omega) rfl rfl rfl (by decide) rfl (by omega) (by omega) rfl (gR 2 rfl (Q9 (by kernel_rfl) (gP 2 rfl ?_)))))))))))
       refine Qf rfl rfl rfl (by omega) (gR 2 rfl ?_)
       exact Qz <| ⟨k+1,by omega,by omega,show Weak _ _ _ _ [(0,.rs 5 (ls.map cLf)),(1,.rs 1 (w.map civ)),(4,.ptr 4 0 0),(9,.ptr 9 0 0),(10,iv (((k+1):Nat):Int))] [(4,.cells 55 3 [[iv 0,.nils,.nils]] true),(9,.cells 55 3 [[iv (ls.length:Int),.sl 905 0 (k+1),.sl 901 0 (QG ls.length w (lg ls.length) 0).length]] false),(905,.cells 51 5 (((w.take (k+1)).map (selF ls)).map cLf) true),(901,.cells 9 1 (((QG ls.length w (lg ls.length) 0).map (Jq ls)).map cS) true)] from Weak.trans (F1:=[(0,.rs 5 (ls.map cLf)),(1,.rs 1 (w.map civ)),(4,.ptr 4 0 0),(9,.ptr 9 0 0),(10,iv (((k+1):Nat):Int))]) (H1:=[(4,.cells 55 3 [[iv 0,.nils,.nils]] true),(9,.cells 55 3 [[iv (ls.length:Int),.sl 97 0 (k+1),.sl 901 0 (QG ls.length w (lg ls.length) 0).length]] false),(97,.cells 51 5 (((w.take (k+1)).map (selF ls)).map cLf) true),(901,.cells 9 1 (((QG ls.length w (lg ls.length) 0).map (Jq ls)).map cS) true)]) (Qb (Qa rfl rfl) (.keep (rfl) rfl (.keep (rfl) rfl (.keep (by rw [sel_succ hbk hx]; rfl) rfl (kS rfl rfl)))) fun i h=>by cases h) (Weak.trans (F1:=[(0,.rs 5 (ls.map cLf)),(1,.rs 1 (w.map civ)),(4,.ptr 4 0 0),(9,.ptr 9 0 0),(10,iv (((k+1):Nat):Int))]) (QN (i:=97) (i':=905) (k:=9) rfl rfl (.cons rfl (.same _) (.cons rfl (.same _) (.cons rfl (.same _) (.cons rfl (.same _) (.cons rfl (.same _) (.nil)))))) (by decide) rfl (.cons (.same _) (.cons (.sl _ _) (RenL.refl _ _ _)))) (Qb (Qa rfl rfl) (kS rfl rfl) fun i h=>by cases h))⟩
      ·replace h84:=of_decide_eq_false h84
       refine gK 8 rfl ?_
       obtain rfl:k=w.length:=by omega
       rw [shG_0 he,he,show cSh (showS ls w)=[iv (ls.length:Int),.rs 5 (((w.take w.length).map (selF ls)).map cLf),.rs 1 (((QG ls.length w (lg ls.length) 0).map (Jq ls)).map cS)] by rw [List.take_of_length_le (Nat.le_refl _)]; rfl]
       exact Qt <| Ql rfl (QI (.cons (Xg (.cons (Qs rfl (.inr rfl)) (.cons (Q5 rfl rfl (by simp) (fun _=>rfl)) (.cons (Q5 rfl rfl (by simp) (fun _=>rfl)) .nil)))) (.cons (Qs rfl (.inr rfl)) .nil))) .nil
end Go.Proofs.YthfhaoogcpfboaaGreat
namespace Go.Proofs.YthfhaoogcpfboaaGreat
open Go.RowKit
set_option maxRecDepth 100000
set_option linter.unusedVariables false
theorem rs_appfm {P:Program} {N:Nat} {F:Fr} {H:Hp} {ml:List MOper} {K:List Fp->Fr->Hp->Prop} {d:Nat} {g:Option (Nat×Bool)} {pre:List Nat} {α:Type} {f:α->List AV} {xs ys:List α} {e z by_ i n m:Nat} {zero:List AV} {s x:Arg} {v:AV} {rd:List Nat} (hg:gOK F g=true) (hs:Qj F s=some (.sl i 0 n)) (hx:Qj F x=some v) (hi:get H i=some (.cells e z (xs.map f) true)) (hsrc:JT H z v=some (rd,ys.map f))
  (hz:zero.length=z) (hd:get H d=none) (hird:i ∉ rd) (hl:∀ y,(f y).length=z) (hn:xs.length=n) (hm:ys.length=m) (hb:(n+m)*by_<=140737488355328) (h63:n+m<=9223372036854775807) (hfl:∀ y,Q7 (f y)=true)
  (h:RS P N ml ((d,.rs z ((xs++ys).map f))::F) ((d,.dead)::(i,.dead)::H) (fun fps=>K ((rd,[i,d])::fps))):RS P N (⟨some d,.app e z by_ zero s x,g,pre⟩::ml) F H K :=
 rs_opf (d:=d) (e:=e) (z:=z) (els:=(xs++ys).map f) hg (by
  subst hn hm
  simp only [mev,hs,hx,hi,hsrc]
  exact ⟨hz,hd,trivial,trivial,fun el hel=>by obtain ⟨y,_,rfl⟩:=List.mem_map.1 hel; exact hl y,by rw [List.length_map]; exact hb,by rw [List.length_map]; exact h63,
   .inl ⟨by rw [List.length_map],hird,(i,.dead)::H,by rw [List.length_map,List.length_map,List.length_append]; rfl,by rw [flat_map hfl,List.map_append]; rfl,by simp,h⟩⟩)
abbrev cLv (l:List Lf):List AV:=[.rs 5 (l.map cLf)]
theorem lea_ok (p:Pa) (x:Pc) (s:List Int):LsOK (QV p x s):=by
 by_cases h:ckP p=0/\fitsB p x=true/\s≠[]
 ·obtain ⟨e1,e2,e3,e4,e5⟩:=lea_all h.1 h.2.1 h.2.2
  rw [e5]
  refine ⟨by rw [List.length_map,List.length_range]; omega,fun y hy=>?_⟩
  obtain ⟨k,hk,rfl⟩:=List.mem_map.1 hy
  have hk:=List.mem_range.1 hk
  have hst:p.want.any QP=false:=by
   have hc:=h.1
   unfold ckP at hc
   split at hc
   ·cases hc
   ·split at hc
    ·cases hc
    ·rename_i hq
     cases e:p.want.any QP
     ·rfl
     ·exact absurd (.inr e) hq
  have hw:=List.any_eq_false.1 hst _ (Xr (w_at (w:=p.want) (k:=k) (by omega)))
  simp only [QP,Bool.or_eq_true,decide_eq_true_eq] at hw
  exact ⟨show I64 (k:Int) from ⟨by omega,by omega⟩,show I64 (p.want.getD k 0) from ⟨by omega,by omega⟩,(JA _).1,by rw [show (Jf p x s k).salt.length=8 from (JA _).2]; decide⟩
 ·rw [lea_nil h]; exact ⟨Nat.zero_le _,fun y hy=>by cases hy⟩
theorem shG_ok {ls:List Lf} (h:LsOK ls) {w:List Int} (hw:w.length<=64):ShOK (Je ls w).leaves (Je ls w).hid:=by
 refine ⟨?_,?_,?_,showG_8⟩
 all_goals unfold Je
 all_goals split
 all_goals rename_i h0
 ·show (w.map (selF ls)).length<=64; rw [List.length_map]; exact hw
 ·exact Nat.zero_le _
 ·have h16:ls.length<=16:=by
   unfold Xx at h0
   split at h0
   ·cases h0
   ·omega
  show ((JE ls.length w).map (Jq ls)).length<=64; rw [List.length_map]; have:=hidA_len (w:=w) h16; omega
 ·exact Nat.zero_le _
 ·have ho:w.any (Um ls.length)=false:=by
   unfold Xx at h0
   split at h0
   ·cases h0
   ·split at h0
    ·cases h0
    ·split at h0
     ·cases h0
     ·rename_i q; cases e:w.any (Um ls.length)
      ·rfl
      ·exact absurd e q
  intro x hx
  obtain ⟨i,hi,rfl⟩:=List.mem_map.1 hx
  exact h.ok _ (sel_mem (out_bd ho i hi).1 (out_bd ho i hi).2)
 ·intro x hx; cases hx
theorem small_ok {rw_:List Lf} (h:∀ x∈rw_,I64 x.ix/\I64 x.want/\B8 x.salt):LsOK ((rw_.take 17).map cutF):=by
 refine ⟨by rw [List.length_map,List.length_take]; omega,fun y hy=>?_⟩
 obtain ⟨x,hx,rfl⟩:=List.mem_map.1 hy
 obtain ⟨h1,h2,h3⟩:=h x (List.mem_of_mem_take hx)
 exact ⟨h1,h2,fun b hb=>h3 b (List.mem_of_mem_take hb),by show (x.salt.take 10).length<=_; rw [List.length_take]; omega⟩
theorem takeN {α:Type} {l:List α} {k n:Nat} (h:k<=l.length) (hn:k<=n) (h2:l.length<=k\/n<=k):l.take k=l.take n:=by
 by_cases e:k=n
 ·rw [e]
 ·rw [List.take_of_length_le (by omega),List.take_of_length_le (by omega)]
theorem app_ls {a b:List Lf} (ha:a.length<=16) (hb:b.length<=17) (h1:LsOK a) (h2:LsOK b):LsOK (a++b):=⟨by rw [List.length_append]; omega,fun x hx=>(List.mem_append.1 hx).elim (h1.ok x) (h2.ok x)⟩
def pik3 (v s:List Int) (i:Nat):List Int:=match i with | 0=>v | 1=>s | _=>[]
theorem pik3_len {v s:List Int} {i:Nat} (h1:v.length<=64) (h2:s.length<=64):(pik3 v s i).length<=64:=by
 unfold pik3; split
 ·exact h1
 ·exact h2
 ·exact Nat.zero_le _
theorem rootF_88 {ls:List Lf} (h:LsOK ls):B8 (rootF ls):=(rootS_8 (by rw [List.length_map]; exact h.n)).1
theorem appR_ok {p:Pa} (hp:GoodP p) {cs:List (List Pl)} (hc:∀ c∈cs,CutOK c) (hn:cs.length<=3):PcOK (appR p cs).1/\(appR p cs).1.cuts.length<=24/\(appR p cs).1.sure.length<=1000/\(appR p cs).1.touched.length<=1000:=by
 have hpn:=hp.n
 by_cases h:apER cs p.cells=0
 ·rw [appR_0 h]
  exact ⟨⟨show cs.length<=1000 by omega,fun c h=>by have:=(hc c h).len; omega⟩,show cs.length<=24 by omega,by show (p.cells.map _).length<=_; rw [List.length_map]; omega,by show (p.cells.map _).length<=_; rw [List.length_map]; omega⟩
 ·rw [appR_1 h]
  exact ⟨⟨Nat.zero_le _,fun c h=>by cases h⟩,Nat.zero_le _,Nat.zero_le _,Nat.zero_le _⟩
theorem newS_ok (n:Nat):PcOK (newS n):=⟨Nat.zero_le _,fun c h=>by cases h⟩
theorem ls_snoc {LS:List (List Lf)} (h:∀ l∈LS,LsOK l) {y:List Lf} (hy:LsOK y):∀ l∈LS++[y],LsOK l:=fun l hl=>(List.mem_append.1 hl).elim (h l) fun q=>by rw [List.mem_singleton.1 q]; exact hy
theorem sl_6 (w:List Int):((w.map civ).drop (0:Int).toNat).take ((min (w.length:Int) 6).toNat-(0:Int).toNat)=(w.take (min w.length 6)).map civ:=by
 rw [Int.toNat_zero,List.drop_zero,← List.map_take,Nat.sub_zero]
 congr 2
 omega
theorem vc14o (L:List Int) (hL:L.length<=4611686018427387904):FC Tryz.prog 14 [ints L] [] (.sl 1005 0 (nS L)) [(1005,.cells 51 5 ((JW L).map cLf) true)] true:=by
 have hnb:=nS_bd L
 refine Qg (nt:=37) Tryz.func14 rfl rfl mcOkv14 (nL rfl) ?_
 delta mcv14
 refine gA 14 rfl (Qr [(10,QL 83 L (0))] rfl rfl (fc35 10 83 L (0) 16 (by decide) hL) (.cons (Qd rfl) (.cons (Qd rfl) (.nil))) (.cons rfl (.nil)) rfl rfl rfl (gR 0 rfl (QS rfl rfl rfl (nS_W L) (gR 12 rfl ?_))))
 refine Qo (α:=Nat) (fun k=>nS L-k) (fun k=>[(3,.ptr 10 0 0),(4,iv ((nS L:Nat):Int)),(5,.sl 1005 0 (k)),(6,iv (((k):Nat):Int))]) (fun k=>[(10,QL 83 L (mkS L (k)).2),(1005,.cells 51 5 (((mkS L (k)).1).map cLf) true)]) (fun k=>k<=nS L) 0 (by omega)
  (show Weak _ _ _ _ [(3,.ptr 10 0 0),(4,iv ((nS L:Nat):Int)),(5,.sl 1005 0 (0)),(6,iv (((0):Nat):Int))] [(10,QL 83 L (XV L 0)),(1005,.cells 51 5 [] true)] from Qb (.cs (.cs (.cons rfl (Xj rfl rfl) (.cs (.nil))))) (.keep (rfl) rfl (.virt rfl (.nil))) (fun i h=>by cases h)) ?_
 intro k hk
 refine gT 7 rfl (Qc rfl (fun h16=>?_) (fun h16=>?_))
 ·replace h16:=of_decide_eq_true h16
  refine gK 6 rfl ?_
  have hv3:=Qv L (XV L (mkS L k).2) 3 (by decide)
  refine Qr [(10,QL 83 L ((mkS L k).2))] rfl rfl (fc35 10 83 L ((mkS L k).2) 3 (by decide) hL) (.cons (Qd rfl) (.cons (Qd rfl) (.nil))) (.cons rfl (.nil)) rfl rfl rfl (gR 6 rfl (Qr [(10,QL 83 L (XV L (mkS L k).2))] rfl rfl (fc35 10 83 L (XV L (mkS L k).2) 3 (by decide) hL) (.cons (Qd rfl) (.cons (Qd rfl) (.nil))) (.cons rfl (.nil)) rfl rfl rfl (gR 0 rfl (Qf rfl rfl rfl (by omega) (gR 1 rfl (Ub rfl rfl rfl (gR 1 rfl (Ua rfl rfl rfl (gR 1 rfl (cN rfl rfl (vc38 (k:Int) ⟨by omega,by omega⟩) (gR 0 rfl ?_)))))))))))
  refine cN rfl rfl (vc59 [120] (Jd (k:Int)) ⟨b8_c,by decide⟩ ⟨vint_8 _,Nat.le_trans (Xl _) (by decide)⟩) (gR 1 rfl (bM cLf (([leafM L k (mkS L k).2]:List Lf)) (by kernel_rfl) (gR 0 rfl (Qq (f:=cLf) (xs:=(mkS L k).1) (y:=leafM L k (mkS L k).2) (fl':=true) rfl rfl rfl rfl (mkS_len L k) rfl rfl rfl (by decide) rfl (by omega) (by omega) rfl (gR 4 rfl (Qf rfl rfl rfl (by omega) (gR 2 rfl ?_)))))))
  exact Qz <| ⟨k+1,by omega,by omega,wR 35 1005 (Qa rfl rfl) (kS rfl rfl) rfl⟩
 ·replace h16:=of_decide_eq_false h16
  refine gK 7 rfl ?_
  obtain rfl:k=nS L:=by omega
  exact Qt <| ret_own rfl sm (.keep rfl rfl .nil) .nil
def mcv3:MC:=(sq [oN 7 (.box 23 2 0) [],oN 9 (.box 26 6 2) [],oN 14 (.mv (.c (.bool false))) []] (sq [oC 40 8 [] [],oM 15 40 [0,0,0]] (sq [oN 41 (.slarr 2 7 none none) [],oC 42 9 [41] [0],oN 16 (.alloc 31 3 [(.str (strN [])),.nils,.nils]) [],oS 3 16 42 [2,1,1,0,1,2]] (dq [oL 44 3 16 [],oL 45 3 16 [],oC 46 11 [45] [1],oM 47 1 [],oM 48 1 [],oE 49 48 [4],oN 50 (.mn 49 (cI 3)) [5],oN 51 (.slc 1 47 none (some 50)) [3,6],oL 52 3 16 [],oC 53 12 [51,52] [7,8,2],oC 54 10 [44,46,53,(.c .nils)] [0,2,9,9],oM 43 54 [10],oN 55 (.ext 43 0) [11],oN 56 (.ext 43 1) [11],oN 17 (.alloc 35 3 [.nils,.nils,.nils]) [],oS 3 17 55 [14,12,10,0,1,2,3,4,5,6,7,8,9,10,11,12,14],oM 18 56 (13::15::up 16)] (sq [oM 57 5 [],oM 58 5 [],oN 59 (.slen 58) [1],oN 60 (.mn 59 (cI 10)) [2],oN 61 (.stake 57 60) [0,3],oM 5 61 (4::up 5)] (sq [oL 62 3 16 [],oN 63 (.ixarr 2 3 9 (cI 0)) [],oL 64 3 63 [1],oC 65 13 [62,64] [0,2],oN 19 (.alloc 31 3 [(.str (strN [])),.nils,.nils]) [],oS 3 19 65 (4::3::3::up 5)] (sq [oM 66 3 [],oC 67 14 [66] [0],oN 68 (.bslice 27 1 [.nils] 1 [(0,67)]) [1],oM 20 68 [2,1,0,1,2]] (.seq (sq [oL 69 3 16 [],oL 70 3 19 [],oN 71 (.bslice 31 3 [(.str (strN [])),.nils,.nils] 2 [(0,69),(1,70)]) [0,1],oE 72 71 [2],oN 73 (.mv (cI 0)) []] (.block 0 (.loop (sq [oB 74 .lss 73 72 []] (.seq (.cond 74 .skip (.exit 0)) (.seq (.block 1 (sq [oX 75 3 71 73 [],oL 76 3 75 [0],oN 22 (.alloc 31 3 [(.str (strN [])),.nils,.nils]) [],oS 3 22 76 [2,1,0,1,2]] (dq [oL 77 3 17 [],oL 78 3 17 [],oN 79 (.ixarr 2 3 9 (cI 1)) [],oL 80 3 79 [2],oC 81 15 [78,80] [1,3],oL 82 3 22 [],oC 83 11 [82] [5,4],oN 84 (.bslice 35 3 [.nils,.nils,.nils] 3 [(0,77),(1,81),(2,83)]) [0,4,6],oE 85 84 [7],oN 86 (.mv (cI 0)) []] (.block 2 (.loop (sq [oB 87 .lss 86 85 []] (.seq (.cond 87 .skip (.exit 2)) (.seq (.block 3 (sq [oX 88 3 84 86 [],oL 89 3 88 [0],oN 24 (.alloc 35 3 [.nils,.nils,.nils]) [],oS 3 24 89 [2,1,0,1,2]] (sq [oM 90 5 [],oN 91 (.bslice 9 1 [(.str (strN []))] 2 [(0,90),(1,(.c (.str (strN [115]))))]) [0],oE 92 91 [1],oN 93 (.mv (cI 0)) []] (.block 4 (.loop (sq [oB 94 .lss 93 92 []] (.seq (.cond 94 .skip (.exit 4)) (.seq (.block 5 (sq [oX 95 1 91 93 [],oD 96 1 95 [0],oM 26 96 [1,0,1]] (dq [oL 97 3 22 [],oL 98 3 24 [],oM 99 26 [],oC 100 16 [97,98,99] [0,1,2],oL 101 3 22 [],oL 102 3 24 [],oM 103 26 [],oC 104 17 [101,102,103] [4,5,6,3],oM 27 100 (3::7::up 4),oM 28 104 (7::8::up 9)] (.seq (sq [oM 105 27 [],oM 106 28 [],oC 107 18 [105,106] [0,1],oN 108 (.un .not 107) [2]] (.cond 108 (sq [oN 14 (.mv (.c (.bool false))) []] .ret) .skip)) (rg [oM 109 20 [],oM 110 28 [],oN 111 (.bslice 27 1 [.nils] 1 [(0,110)]) [1],oN 112 (.app 27 1 24 [.nils] 109 111) [0,2],oM 20 112 (3::3::up 4)]))))) (rg [oB 113 .add 93 (cI 1) [],oM 93 113 [0]]))))))))) (rg [oB 114 .add 86 (cI 1) [],oM 86 114 [0]]))))))))) (rg [oB 115 .add 73 (cI 1) [],oM 73 115 [0]]))))))) (sq [oN 29 (.mv (.c .nils)) []] (.seq (sq [oN 30 (.mv (cI 0)) []] (.block 6 (.loop (.seq (sq [oM 116 30 [],oM 117 4 [],oE 118 117 [1],oB 119 .lss 116 118 [0,2],oM 120 119 [3],pM 121 30 120 true [4],oG 122 (.bin .lss 121 (cI 17)) 120 true [5,4],oN 123 (.pick 120 122 (.c (.bool false))) [4,6]] (.cond 123 .skip (.exit 6))) (.seq (.block 7 (sq [oM 126 4 [],oM 127 30 [],oX 128 5 126 127 [0,1],oL 129 5 128 [2],oN 31 (.alloc 51 5 [(iv 0),(iv 0),(.bool false),(.bool false),(.str (strN []))]) [],oS 5 31 129 (4::3::up 5)] (sq [oA 130 4 31 [],oD 131 1 130 [0],oA 132 4 31 [],oD 133 1 132 [2],oN 134 (.slen 133) [3],oN 135 (.mn 134 (cI 10)) [4],oN 136 (.stake 131 135) [1,5],oA 137 4 31 (up 7),oS 1 137 136 (7::6::up 7)] (rg [oM 138 29 [],oL 139 5 31 [],oN 140 (.bslice 51 5 [(iv 0),(iv 0),(.bool false),(.bool false),(.str (strN []))] 1 [(0,139)]) [1],oN 141 (.app 51 5 40 [(iv 0),(iv 0),(.bool false),(.bool false),(.str (strN []))] 138 140) [0,2],oM 29 141 (3::3::up 4)])))) (rg [oM 124 30 [],oB 125 .add 124 (cI 1) [0],oM 30 125 [1,0,1]])))))) (sq [oM 142 6 [],oM 143 6 [],oE 144 143 [1],oN 145 (.mn 144 (cI 6)) [2],oN 146 (.slc 1 142 none (some 145)) [0,3],oM 6 146 (4::up 5)] (.seq (sq [oM 147 20 [],oM 148 29 [],oM 149 3 [],oC 150 14 [149] [2],oM 151 29 [],oN 152 (.app 51 5 40 [(iv 0),(iv 0),(.bool false),(.bool false),(.str (strN []))] 150 151) [3,4,3],oN 153 (.bslice 27 1 [.nils] 2 [(0,148),(1,152)]) [1,5],oN 154 (.app 27 1 24 [.nils] 147 153) [0,6,5],oE 155 154 [7],oN 156 (.mv (cI 0)) []] (.block 8 (.loop (sq [oB 157 .lss 156 155 []] (.seq (.cond 157 .skip (.exit 8)) (.seq (.block 9 (sq [oX 158 1 154 156 [],oD 159 1 158 [0],oM 33 159 [1,0,1]] (.seq (sq [oM 160 33 [],oC 161 19 [160] [0],oM 162 33 [],oC 163 20 [162] [2,1],oN 164 (.seq true 161 163) [1,3]] (.cond 164 (sq [oN 14 (.mv (.c (.bool false))) []] .ret) .skip)) (sq [oM 165 6 [],oN 166 (.ixarr 2 3 9 (cI 0)) [],oN 167 (.ixarr 3 1 166 (cI 2)) [1],oD 168 1 167 [2],oM 169 33 [],oE 170 169 [4],oC 171 21 [168,170] [3,5],oN 172 (.bslice 22 1 [.nils] 3 [(0,165),(1,171),(2,(.c .nils))]) [0,6],oE 173 172 [7],oN 174 (.mv (cI 0)) []] (.block 10 (.loop (sq [oB 175 .lss 174 173 []] (.seq (.cond 175 .skip (.exit 10)) (.seq (.block 11 (sq [oX 176 1 172 174 [],oD 177 1 176 [0],oM 35 177 [1,0,1]] (sq [oM 179 33 [],oM 180 35 [],oC 181 22 [179,180] [0,1],oM 178 181 [2],oN 182 (.ext 178 0) [3],oN 183 (.ext 178 1) [3],oN 36 (.alloc 55 3 [(iv 0),.nils,.nils]) [],oS 3 36 182 [6,4,2,0,1,2,3,4,6],oM 37 183 (5::7::up 8)] (sq [oM 185 33 [],oM 186 35 [],oC 187 23 [185,186] [0,1],oM 184 187 [2],oN 188 (.ext 184 0) [3],oN 189 (.ext 184 1) [3],oN 38 (.alloc 55 3 [(iv 0),.nils,.nils]) [],oS 3 38 188 [6,4,2,0,1,2,3,4,6],oM 39 189 (5::7::up 8)] (sq [oM 190 37 [],oM 191 39 [],oB 192 .neq 190 191 [0,1],oM 193 192 [2],oG 194 (.ld true 3 36) 193 false [3],oG 195 (.ld true 3 38) 193 false [3],oG 196 (.call 24 [194,195]) 193 false [4,5,3,3],oG 197 (.un .not 196) 193 false [6,3],oN 198 (.pick 193 (.c (.bool true)) 197) [3,7]] (.cond 198 (sq [oN 14 (.mv (.c (.bool false))) []] .ret) .skip)))))) (rg [oB 199 .add 174 (cI 1) [],oM 174 199 [0]])))))))))) (rg [oB 200 .add 156 (cI 1) [],oM 156 200 [0]]))))))) (sq [oM 201 15 [],oM 14 201 [0,0]] .ret)))))))))))))
theorem mcOkv3:okM Tryz.prog Tryz.f3 202=some mcv3:=by kernel_rfl
set_option maxHeartbeats 4000000 in
theorem vc3 (l0 l1:List Int) (hl0:l0.length<=4611686018427387904) (hl1:l1.length<=4611686018427387904) (cs:List (List Int)) (hcn:cs.length<=4611686018427387904) (hcs:∀ L∈cs,L.length<=4611686018427387904) (q00 q01 q02 q10 q11 q12:Int) (n:List Int) (hn:n.length<=4611686018427387904) (raw:List Lf) (hraw:raw.length<=4611686018427387904) (hro:∀ x∈raw,I64 x.ix/\I64 x.want/\B8 x.salt) (sec:List Int) (hsec:B8 sec) (w:List Int) (hw:w.length<=4611686018427387904):FC Tryz.prog 3 [.agg [ints l0,ints l1],.rs 1 (cs.map cLi),.agg [iv q00,iv q01,iv q02,iv q10,iv q11,iv q12],ints n,.rs 5 (raw.map cLf),.str (strN sec),.rs 1 (w.map civ)] [] (.bool true) [] false:=by
 have hn14:=nS_bd n
 refine Qg (nt:=202) Tryz.func3 rfl rfl mcOkv3 (nL rfl) ?_
 delta mcv3
 refine gA 8 rfl (cN rfl rfl (vc8) (gR 3 rfl (QH (F0:=[(1,.rs 1 (cs.map cLi)),(3,ints n),(4,.rs 5 (raw.map cLf)),(6,.rs 1 (w.map civ)),(9,.ptr 9 0 0),(15,.bool true),(5,.str (strN sec)),(7,.rp [ints l0,ints l1])]) (H0:=[(9,.cells 26 6 [[iv q00,iv q01,iv q02,iv q10,iv q11,iv q12]] true)]) (Qb (.cs (.cs (.cs (.cs (.cs (.cs (.cs (.cons rfl (Jc rfl rfl (.inl rfl)) (.nil))))))))) (.keep rfl rfl .nil) nz) (gK 1 rfl (rs_slarr_r (els:=[[ints l0],[ints l1]]) rfl rfl rfl rfl (Nat.le_refl _) (by simp) rfl (gR 0 rfl (Qr [] rfl rfl (vc9 l0 l1 hl0 hl1) (.cons (Qd rfl) (.nil)) (.nil) rfl rfl rfl (gR 4 rfl ?_))))))))
 have hg:=partS_ok l0 l1
 generalize partS l0 l1=p at hg ⊢
 have hgn:=hg.n
 have hC:∀ c∈(cs.take (min cs.length 3)).map (Uw p),CutOK c:=fun c hc=>by
  obtain ⟨L,_,rfl⟩:=List.mem_map.1 hc
  exact cut_ok p L hg
 have hCn:((cs.take (min cs.length 3)).map (Uw p)).length<=3:=by rw [List.length_map,List.length_take]; omega
 refine gI 3 rfl (cN rfl rfl (vc11 p (by omega)) (gR 2 rfl (Qe rfl rfl (gR 0 rfl (rs_mn rfl rfl rfl rfl (gR 0 rfl (Ji rfl rfl rfl rfl rfl (by decide) (by omega) (by simp; omega) (sl_3 cs) (gR 1 rfl (Qr [] rfl rfl (vc12 (cs.take (min cs.length 3)) (by rw [List.length_take]; omega) (fun L hL=>hcs L (List.mem_of_mem_take hL)) p hg) (.cons (Qd rfl) (.cons (Qd rfl) (.nil))) (.nil) rfl rfl rfl ?_)))))))))
 generalize hCe:(cs.take (min cs.length 3)).map (Uw p)=C at hC hCn ⊢
 refine gR 0 rfl (Qr [] rfl rfl (vc10 p hg C hC hCn) (.cons (Qd rfl) (.cons (Qd rfl) (.cons (Qd rfl) (.cons (hv_nils) (.nil))))) (.nil) rfl rfl rfl (gR 6 rfl (Q9 (by kernel_rfl) (gP 1 rfl ?_))))
 obtain ⟨hx,hxc,hxs,hxt⟩:=appR_ok hg hC hCn
 generalize (appR p C).1=x at hx hxc hxs hxt ⊢
 refine gI 3 rfl (rs_slen rfl rfl (gR 0 rfl (rs_mn rfl rfl rfl rfl (gR 0 rfl (rs_stake (c:=sec.take 10) rfl rfl rfl (by omega) (by omega) (take_min10 _) (gR 3 rfl ?_))))))
 have hsc:B8 (sec.take 10)/\(sec.take 10).length<=LIM:=⟨fun b hb=>hsec b (List.mem_of_mem_take hb),by rw [List.length_take]; show _<=140737488355328; omega⟩
 generalize sec.take 10=sc at hsc ⊢
 refine gI 2 rfl (Qm rfl rfl rfl (by decide) (by decide) (gR 1 rfl (Qr [] rfl rfl (vc13 p hg q00 q01 q02) (.cons (Qd rfl) (.cons (Qd rfl) (.nil))) (.nil) rfl rfl rfl (gR 4 rfl ?_))))
 have hpo:=oddPa_ok q00 q01 q02 hg
 generalize oddPa p q00 q01 q02=po at hpo ⊢
 refine gI 2 rfl (cN rfl rfl (vc14 n hn) (gR 0 rfl (bM cLv (([JW n]:List (List Lf))) (by kernel_rfl) (gR 7 rfl (bM cPa (([p,po]:List Pa)) (by kernel_rfl) (gR 0 rfl (QC rfl rfl (gR 3 rfl ?_))))))))
 refine Qo (α:=Nat×List (List Lf)) (fun t=>2-t.1) (fun t=>[(3,ints n),(4,.rs 5 (raw.map cLf)),(6,.rs 1 (w.map civ)),(9,.ptr 9 0 0),(15,.bool true),(5,.str (strN sc)),(17,.ptr 17 0 0),(20,.sl 901 0 (t.2.length)),(71,.sl 71 0 2),(72,iv ((2:Nat):Int)),(73,iv (((t.1):Nat):Int))]) (fun t=>[(9,.cells 26 6 [[iv q00,iv q01,iv q02,iv q10,iv q11,iv q12]] true),(17,.cells 35 3 [cPc x] true),(901,.cells 27 1 ((t.2).map cLv) true),(71,.cells 31 3 (([p,po]:List Pa).map cPa) true)]) (fun t=>t.1<=2/\(∀ l∈t.2,LsOK l)/\t.2.length=1+6*t.1) (0,[JW n]) (⟨by omega,fun l hl=>by rw [List.mem_singleton.1 hl]; exact (made_ok n).ls,rfl⟩)
  (wR 68 901 (Qa rfl rfl) (kS rfl rfl) rfl) ?_
 rintro ⟨k,LS⟩ ⟨hk,hLS,hLn⟩
 dsimp only at hk hLS hLn ⊢
 refine gT 5 rfl (Qc rfl (fun h74=>?_) (fun h74=>?_))
 ·replace h74:=of_decide_eq_true h74
  refine gK 4 rfl ?_
  obtain ⟨y,hyk,hym⟩:=Qk (L:=([p,po]:List Pa)) (k:=k) (show k<2 by omega)
  have hy:PaOK y:=by
   rcases List.mem_cons.1 hym with rfl | hym
   ·exact hg.ok
   ·rw [List.mem_singleton.1 hym]; exact hpo
  refine gI 1 rfl (QF rfl rfl rfl rfl (by omega) (by omega) (gR 0 rfl (rs_ld_ga (f:=cPa) (xs:=([p,po]:List Pa)) (y:=y) rfl rfl rfl hyk (nL rfl) rfl (gR 7 rfl (Qm rfl rfl rfl (by decide) (by decide) (gR 1 rfl (Qr [] rfl rfl (vc15 x hx hxs hxt q10 q11 q12) (.cons (Qd rfl) (.cons (Qd rfl) (.nil))) (.nil) rfl rfl rfl (gR 1 rfl (cN rfl rfl (vc11 y hy.n) (gR 0 rfl (bM cPc (([x,oddPc x q10 q11 q12,newS y.cells.length]:List Pc)) (by kernel_rfl) ?_)))))))))))
  refine gR 0 rfl (QC rfl rfl (gR 1 rfl (Q9 (by kernel_rfl) (gP 1 rfl ?_))))
  refine Qo (α:=Nat×List (List Lf)) (fun t=>3-t.1) (fun t=>[(3,ints n),(4,.rs 5 (raw.map cLf)),(6,.rs 1 (w.map civ)),(9,.ptr 9 0 0),(15,.bool true),(5,.str (strN sc)),(17,.ptr 17 0 0),(20,.sl 901 0 (t.2.length)),(71,.sl 71 0 2),(72,iv ((2:Nat):Int)),(73,iv (((k):Nat):Int)),(22,.ptr 22 0 0),(84,.sl 84 0 3),(85,iv ((3:Nat):Int)),(86,iv (((t.1):Nat):Int))]) (fun t=>[(9,.cells 26 6 [[iv q00,iv q01,iv q02,iv q10,iv q11,iv q12]] true),(17,.cells 35 3 [cPc x] true),(901,.cells 27 1 ((t.2).map cLv) true),(71,.cells 31 3 (([p,po]:List Pa).map cPa) true),(22,.cells 31 3 [cPa y] true),(84,.cells 35 3 (([x,oddPc x q10 q11 q12,newS y.cells.length]:List Pc).map cPc) true)]) (fun t=>t.1<=3/\(∀ l∈t.2,LsOK l)/\t.2.length=1+6*k+2*t.1) (0,LS) (⟨by omega,hLS,by dsimp only; omega⟩)
   (Qb (Qa rfl rfl) (kS rfl rfl) (fun i h=>by cases h)) ?_
  rintro ⟨i,LS⟩ ⟨hi,hLS,hLn⟩
  dsimp only at hi hLS hLn ⊢
  refine gT 5 rfl (Qc rfl (fun h87=>?_) (fun h87=>?_))
  ·replace h87:=of_decide_eq_true h87
   refine gK 4 rfl ?_
   obtain ⟨z,hzk,hzm⟩:=Qk (L:=([x,oddPc x q10 q11 q12,newS y.cells.length]:List Pc)) (k:=i) (show i<3 by omega)
   have hz:PcOK z:=by
    rcases List.mem_cons.1 hzm with rfl | hzm
    ·exact hx
    rcases List.mem_cons.1 hzm with rfl | hzm
    ·exact oddPc_ok q10 q11 q12 hx hxc
    ·rw [List.mem_singleton.1 hzm]; exact newS_ok _
   refine gI 1 rfl (QF rfl rfl rfl rfl (by omega) (by omega) (gR 0 rfl (rs_ld_ga (f:=cPc) (xs:=([x,oddPc x q10 q11 q12,newS y.cells.length]:List Pc)) (y:=z) rfl rfl rfl hzk (nL rfl) rfl (gR 6 rfl (bM cS (([sc,[115]]:List (List Int))) (by kernel_rfl) (gR 0 rfl (QC rfl rfl (gR 3 rfl ?_))))))))
   refine Qo (α:=Nat×List (List Lf)) (fun t=>2-t.1) (fun t=>[(3,ints n),(4,.rs 5 (raw.map cLf)),(6,.rs 1 (w.map civ)),(9,.ptr 9 0 0),(15,.bool true),(5,.str (strN sc)),(17,.ptr 17 0 0),(20,.sl 901 0 (t.2.length)),(71,.sl 71 0 2),(72,iv ((2:Nat):Int)),(73,iv (((k):Nat):Int)),(22,.ptr 22 0 0),(84,.sl 84 0 3),(85,iv ((3:Nat):Int)),(86,iv (((i):Nat):Int)),(24,.ptr 24 0 0),(91,.sl 91 0 2),(92,iv ((2:Nat):Int)),(93,iv (((t.1):Nat):Int))]) (fun t=>[(9,.cells 26 6 [[iv q00,iv q01,iv q02,iv q10,iv q11,iv q12]] true),(17,.cells 35 3 [cPc x] true),(901,.cells 27 1 ((t.2).map cLv) true),(71,.cells 31 3 (([p,po]:List Pa).map cPa) true),(22,.cells 31 3 [cPa y] true),(84,.cells 35 3 (([x,oddPc x q10 q11 q12,newS y.cells.length]:List Pc).map cPc) true),(24,.cells 35 3 [cPc z] true),(91,.cells 9 1 (([sc,[115]]:List (List Int)).map cS) true)]) (fun t=>t.1<=2/\(∀ l∈t.2,LsOK l)/\t.2.length=1+6*k+2*i+t.1) (0,LS) (⟨by omega,hLS,by dsimp only; omega⟩)
    (Qb (Qa rfl rfl) (kS rfl rfl) (fun i h=>by cases h)) ?_
   rintro ⟨j,LS⟩ ⟨hj,hLS,hLn⟩
   dsimp only at hj hLS hLn ⊢
   refine gT 5 rfl (Qc rfl (fun h94=>?_) (fun h94=>?_))
   ·replace h94:=of_decide_eq_true h94
    refine gK 4 rfl ?_
    obtain ⟨s,hsk,hsm⟩:=Qk (L:=([sc,[115]]:List (List Int))) (k:=j) (show j<2 by omega)
    have hs:B8 s/\s.length<=LIM:=by
     rcases List.mem_cons.1 hsm with rfl | hsm
     ·exact hsc
     ·rw [List.mem_singleton.1 hsm]; exact ⟨b8_c,by decide⟩
    have hle:=lea_ok y z s
    refine gI 1 rfl (QF rfl rfl rfl rfl (by omega) (by omega) (gR 0 rfl (JS (f:=cS) (xs:=([sc,[115]]:List (List Int))) (y:=s) rfl rfl rfl hsk rfl (gR 7 rfl (cN rfl rfl (vc16 y hy z hz s hs) (gR 3 rfl (cN rfl rfl (vc17 y hy z hz s hs) (gR 2 rfl (Q9 (by kernel_rfl) (gP 5 rfl (cN rfl rfl (vc18 (QV y z s) (QV y z s) (fun x hx=>(hle.ok x hx).b) (fun x hx=>(hle.ok x hx).b) (by have:=hle.n; omega)) ?_)))))))))))
    rw [decide_eq_true rfl]
    refine gR 7 rfl (bM cLv (([QV y z s]:List (List Lf))) (by kernel_rfl) (gR 0 rfl (Qq (f:=cLv) (xs:=LS) (y:=QV y z s) (fl':=true) rfl rfl rfl rfl (rfl) rfl rfl rfl (by decide) rfl (by omega) (by omega) rfl (gR 3 rfl (Qf rfl rfl rfl (by omega) (gR 2 rfl ?_))))))
    exact Qz <| ⟨(j+1,LS++[QV y z s]),⟨by dsimp only; omega,ls_snoc hLS hle,by dsimp only; rw [Xo]; omega⟩,by dsimp only; omega,by rw [Xo]; exact wR 112 901 (Qa rfl rfl) (kS rfl rfl) rfl⟩
   ·replace h94:=of_decide_eq_false h94
    refine gK 2 rfl (Qf rfl rfl rfl (by omega) (gR 2 rfl ?_))
    exact Qz <| ⟨(i+1,LS),⟨by dsimp only; omega,hLS,by dsimp only; omega⟩,by dsimp only; omega,Qb (Qa rfl rfl) (kS rfl rfl) (fun i h=>by cases h)⟩
  ·replace h87:=of_decide_eq_false h87
   refine gK 2 rfl (Qf rfl rfl rfl (by omega) (gR 2 rfl ?_))
   exact Qz <| ⟨(k+1,LS),⟨by dsimp only; omega,hLS,by dsimp only; omega⟩,by dsimp only; omega,Qb (Qa rfl rfl) (kS rfl rfl) (fun i h=>by cases h)⟩
 ·replace h74:=of_decide_eq_false h74
  refine gK 11 rfl ?_
  refine Qo (α:=Nat) (fun k=>raw.length-k) (fun k=>[(3,ints n),(4,.rs 5 (raw.map cLf)),(6,.rs 1 (w.map civ)),(9,.ptr 9 0 0),(15,.bool true),(20,.sl 901 0 LS.length),(29,.sl 902 0 (k)),(30,iv (((k):Nat):Int))]) (fun k=>[(9,.cells 26 6 [[iv q00,iv q01,iv q02,iv q10,iv q11,iv q12]] true),(901,.cells 27 1 ((LS).map cLv) true),(902,.cells 51 5 (((raw.take (k)).map cutF).map cLf) true)]) (fun k=>k<=raw.length/\k<=17) 0 (⟨by omega,by omega⟩)
   (Qb (.cs (.cs (.cs (.cs (.cs (.cs (.cons rfl (Xj rfl rfl) (.cs (.nil))))))))) (.keep (rfl) rfl (.keep (rfl) rfl (.virt rfl (.nil)))) (fun i h=>by cases h)) ?_
  rintro k ⟨hk,hk17⟩
  refine gT 5 rfl (Qe rfl rfl (gR 0 rfl (Qx rfl rfl rfl rfl (fun h119=>?_) (fun h119=>?_))))
  ·skip
   refine gR 2 rfl (Qx rfl rfl rfl rfl (fun h122=>?_) (fun h122=>?_))
   ·skip
    refine gR 7 rfl ?_
    obtain ⟨r,hrk,hrm⟩:=Qk (L:=raw) (k:=k) (by omega)
    refine gI 3 rfl (Qi (f:=cLf) (y:=r) rfl rfl rfl (by omega) hrk (gR 0 rfl (Q8 (cs:=cLf r) rfl rfl (nL rfl) rfl (gR 9 rfl (rs_slen rfl rfl (gR 0 rfl (rs_mn rfl rfl rfl rfl (gR 0 rfl (rs_stake (c:=r.salt.take 10) rfl rfl rfl (by omega) (by omega) (take_min10 _) (gR 6 rfl (bM cLf (([cutF r]:List Lf)) (by kernel_rfl) ?_)))))))))))
    refine gR 0 rfl (Qq (f:=cLf) (xs:=(raw.take k).map cutF) (y:=cutF r) (fl':=true) rfl rfl rfl rfl (by simp; omega) rfl rfl rfl (by decide) rfl (by omega) (by omega) rfl (gR 4 rfl (Qf rfl rfl rfl (by omega) (gR 2 rfl ?_))))
    exact Qz <| ⟨k+1,⟨by omega,by omega⟩,by omega,wR 141 902 (Qa rfl rfl) (.keep (rfl) rfl (.keep (rfl) rfl (.keep (by rw [map_snoc_at hrk]; rfl) rfl (.nil)))) rfl⟩
   ·skip
    refine gR 5 rfl ?_
    have hsm:=small_ok hro
    rw [← takeN (n:=17) hk hk17 (by omega)] at hsm
    refine QH (F0:=[(3,ints n),(6,.rs 1 (w.map civ)),(9,.ptr 9 0 0),(15,.bool true),(20,.sl 901 0 LS.length),(29,.rs 5 (((raw.take k).map cutF).map cLf))]) (H0:=[(9,.cells 26 6 [[iv q00,iv q01,iv q02,iv q10,iv q11,iv q12]] true),(901,.cells 27 1 ((LS).map cLv) true)]) (Qb (.cs (.cs (.cs (.cs (.cs (.cons rfl (Q5 (f:=cLf) (xs:=(raw.take k).map cutF) rfl rfl (by simp; omega) (fun _=>rfl)) (.nil))))))) (kS rfl rfl) (fun i h=>by cases h)) ?_
    have hsmn:((raw.take k).map cutF).length<=17:=by rw [List.length_map,List.length_take]; omega
    generalize (raw.take k).map cutF=sm at hsm hsmn ⊢
    refine gK 3 rfl (Qe rfl rfl (gR 0 rfl (rs_mn rfl rfl rfl rfl (gR 0 rfl (Ji rfl rfl rfl rfl rfl (by decide) (by omega) (by simp; omega) (sl_6 w) (gR 4 rfl ?_))))))
    have hv:(w.take (min w.length 6)).length<=64:=by rw [List.length_take]; omega
    generalize w.take (min w.length 6)=v at hv ⊢
    refine gI 4 rfl (Qr [] rfl rfl (vc14o n hn) (.cons (Qd rfl) (.nil)) (.nil) rfl rfl rfl (gR 1 rfl (rs_appfm (f:=cLf) (xs:=JW n) (ys:=sm) (m:=sm.length) (rd:=[]) rfl rfl rfl rfl rfl rfl rfl (by simp) (fun _=>rfl) (mkS_len _ _) rfl (by omega) (by omega) (fun _=>rfl) (gR 0 rfl (bM cLv (([sm,JW n++sm]:List (List Lf))) (by kernel_rfl) (gR 0 rfl (Ju (f:=cLv) (xs:=LS) (ys:=[sm,JW n++sm]) (m:=2) (rd:=[153]) rfl rfl rfl rfl rfl rfl rfl (by decide) (fun _=>rfl) rfl rfl (by omega) (by omega) (fun _=>rfl) (gR 0 rfl (QC rfl rfl (gR 3 rfl ?_))))))))))
    have hLL:=ls_snoc (ls_snoc hLS hsm) (app_ls (made_ok n).n.2 hsmn (made_ok n).ls hsm)
    have hLLn:((LS++[sm])++[JW n++sm]).length=LS.length+2:=by simp
    rw [show (LS++[sm])++[JW n++sm]=LS++[sm,JW n++sm] by simp] at hLL hLLn
    generalize hLd:LS++[sm,JW n++sm]=LL at hLL hLLn ⊢
    rw [← hLLn]
    refine Qo (α:=Nat) (fun k=>LL.length-k) (fun k=>[(6,.rs 1 (v.map civ)),(9,.ptr 9 0 0),(15,.bool true),(154,.sl 154 0 LL.length),(155,iv (LL.length:Int)),(156,iv (((k):Nat):Int))]) (fun k=>[(9,.cells 26 6 [[iv q00,iv q01,iv q02,iv q10,iv q11,iv q12]] true),(154,.cells 27 1 (LL.map cLv) true)]) (fun k=>k<=LL.length) 0 (by omega)
     (Qb (Qa rfl rfl) (kS rfl rfl) (fun i h=>by cases h)) ?_
    intro k hk
    refine gT 5 rfl (Qc rfl (fun h157=>?_) (fun h157=>?_))
    ·replace h157:=of_decide_eq_true h157
     refine gK 4 rfl ?_
     obtain ⟨ls,hlk,hlm⟩:=Qk (L:=LL) (k:=k) (by omega)
     have hls:=hLL ls hlm
     refine gI 1 rfl (QF rfl rfl rfl rfl (by omega) (by omega) (gR 0 rfl (JS (f:=cLv) (xs:=LL) (y:=ls) rfl rfl rfl hlk rfl (gR 6 rfl (cN rfl rfl (vc19 ls hls) (gR 1 rfl (cN rfl rfl (vc20 ls hls) (gR 0 rfl (rs_seq (r:=false) rfl rfl rfl (rootF_88 hls) (rootF_88 hls) (by simp) (gR 6 rfl (Qm rfl rfl rfl (by decide) (by decide) ?_)))))))))))
     refine gR 0 rfl (Qm rfl rfl rfl (by decide) (by decide) (gR 2 rfl (Qe rfl rfl (gR 0 rfl (cN rfl rfl (vc21 q02 ls.length hls.n) (gR 0 rfl (bT (l:=[.rs 1 (v.map civ),.rs 1 ((Jr q02 ls.length).map civ),.nils]) (els:=[[.rs 1 (v.map civ)],[.rs 1 ((Jr q02 ls.length).map civ)],[.nils]]) (by kernel_rfl) (gR 0 rfl (QC rfl rfl (gR 3 rfl ?_))))))))))
     refine Qo (α:=Nat) (fun i=>3-i) (fun i=>[(6,.rs 1 (v.map civ)),(9,.ptr 9 0 0),(15,.bool true),(154,.sl 154 0 LL.length),(155,iv (LL.length:Int)),(156,iv (((k):Nat):Int)),(33,.rs 5 (ls.map cLf)),(172,.sl 172 0 3),(173,iv ((3:Nat):Int)),(174,iv (((i):Nat):Int))]) (fun i=>[(9,.cells 26 6 [[iv q00,iv q01,iv q02,iv q10,iv q11,iv q12]] true),(154,.cells 27 1 (LL.map cLv) true),(172,.cells 22 1 [[.rs 1 (v.map civ)],[.rs 1 ((Jr q02 ls.length).map civ)],[.nils]] true)]) (fun i=>i<=3) 0 (by omega)
      (Qb (Qa rfl rfl) (kS rfl rfl) (fun i h=>by cases h)) ?_
     intro i hi
     refine gT 5 rfl (Qc rfl (fun h175=>?_) (fun h175=>?_))
     ·replace h175:=of_decide_eq_true h175
      refine gK 3 rfl (aw_cutw (F0:=[(6,.rs 1 (v.map civ)),(9,.ptr 9 0 0),(15,.bool true),(154,.sl 154 0 LL.length),(155,iv (LL.length:Int)),(156,iv (((k):Nat):Int)),(33,.rs 5 (ls.map cLf)),(172,.sl 172 0 3),(173,iv ((3:Nat):Int)),(174,iv (((i):Nat):Int)),(35,.rs 1 ((pik3 v (Jr q02 ls.length) i).map civ))]) (H0:=[(9,.cells 26 6 [[iv q00,iv q01,iv q02,iv q10,iv q11,iv q12]] true),(154,.cells 27 1 (LL.map cLv) true),(172,.cells 22 1 [[.rs 1 (v.map civ)],[.rs 1 ((Jr q02 ls.length).map civ)],[.nils]] true)]) ?_ ?_)
      ·skip
       refine gA 1 rfl ?_
       obtain rfl | rfl | rfl:i=0\/i=1\/i=2:=by omega
       ·skip
        refine QF rfl rfl rfl rfl (by omega) (by omega) (gR 3 rfl ?_)
        exact Qt <| ⟨rfl,Qb (Qa rfl rfl) (kS rfl rfl) (fun i h=>by cases h)⟩
       ·skip
        refine QF rfl rfl rfl rfl (by omega) (by omega) (gR 3 rfl ?_)
        exact Qt <| ⟨rfl,Qb (Qa rfl rfl) (kS rfl rfl) (fun i h=>by cases h)⟩
       ·skip
        refine QF rfl rfl rfl rfl (by omega) (by omega) (gR 3 rfl ?_)
        exact Qt <| ⟨rfl,Qb (.cs (.cs (.cs (.cs (.cs (.cs (.cs (.cs (.cs (.cs (.cons rfl (Qy) (.nil)))))))))))) (kS rfl rfl) (fun i h=>by cases h)⟩
      ·skip
       refine gK 1 rfl ?_
       have hu:=pik3_len (i:=i) hv (Nat.le_trans (some_len q02 ls.length) hls.n)
       generalize pik3 v (Jr q02 ls.length) i=u at hu ⊢
       refine gI 3 rfl (cN rfl rfl (vc22 ls hls.n hls.ok u hu) (gR 11 rfl (cN rfl rfl (vc23 ls hls.n hls.ok u hu) (gR 11 rfl (Qp rfl rfl rfl rfl (fun h=>h rfl) (gR 3 rfl (cN rfl rfl (vc24 (Je ls u).size (Je ls u).leaves (Je ls u).hid (shG_ok hls hu) (Je ls u).size (Je ls u).leaves (Je ls u).hid (shG_ok hls hu)) ?_)))))))
       rw [decide_eq_true rfl]
       refine gR 6 rfl (Qf rfl rfl rfl (by omega) (gR 2 rfl ?_))
       exact Qz <| ⟨i+1,by omega,by omega,Qb (Qa rfl rfl) (kS rfl rfl) (fun i h=>by cases h)⟩
     ·replace h175:=of_decide_eq_false h175
      refine gK 2 rfl (Qf rfl rfl rfl (by omega) (gR 2 rfl ?_))
      exact Qz <| ⟨k+1,by omega,by omega,Qb (Qa rfl rfl) (kS rfl rfl) (fun i h=>by cases h)⟩
    ·replace h157:=of_decide_eq_false h157
     refine gK 7 rfl ?_
     exact rQ
  ·skip
   refine gR 8 rfl ?_
   have hsm:=small_ok hro
   rw [← takeN (n:=17) hk hk17 (by omega)] at hsm
   refine QH (F0:=[(3,ints n),(6,.rs 1 (w.map civ)),(9,.ptr 9 0 0),(15,.bool true),(20,.sl 901 0 LS.length),(29,.rs 5 (((raw.take k).map cutF).map cLf))]) (H0:=[(9,.cells 26 6 [[iv q00,iv q01,iv q02,iv q10,iv q11,iv q12]] true),(901,.cells 27 1 ((LS).map cLv) true)]) (Qb (.cs (.cs (.cs (.cs (.cs (.cons rfl (Q5 (f:=cLf) (xs:=(raw.take k).map cutF) rfl rfl (by simp; omega) (fun _=>rfl)) (.nil))))))) (kS rfl rfl) (fun i h=>by cases h)) ?_
   have hsmn:((raw.take k).map cutF).length<=17:=by rw [List.length_map,List.length_take]; omega
   generalize (raw.take k).map cutF=sm at hsm hsmn ⊢
   refine gK 3 rfl (Qe rfl rfl (gR 0 rfl (rs_mn rfl rfl rfl rfl (gR 0 rfl (Ji rfl rfl rfl rfl rfl (by decide) (by omega) (by simp; omega) (sl_6 w) (gR 4 rfl ?_))))))
   have hv:(w.take (min w.length 6)).length<=64:=by rw [List.length_take]; omega
   generalize w.take (min w.length 6)=v at hv ⊢
   refine gI 4 rfl (Qr [] rfl rfl (vc14o n hn) (.cons (Qd rfl) (.nil)) (.nil) rfl rfl rfl (gR 1 rfl (rs_appfm (f:=cLf) (xs:=JW n) (ys:=sm) (m:=sm.length) (rd:=[]) rfl rfl rfl rfl rfl rfl rfl (by simp) (fun _=>rfl) (mkS_len _ _) rfl (by omega) (by omega) (fun _=>rfl) (gR 0 rfl (bM cLv (([sm,JW n++sm]:List (List Lf))) (by kernel_rfl) (gR 0 rfl (Ju (f:=cLv) (xs:=LS) (ys:=[sm,JW n++sm]) (m:=2) (rd:=[153]) rfl rfl rfl rfl rfl rfl rfl (by decide) (fun _=>rfl) rfl rfl (by omega) (by omega) (fun _=>rfl) (gR 0 rfl (QC rfl rfl (gR 3 rfl ?_))))))))))
   have hLL:=ls_snoc (ls_snoc hLS hsm) (app_ls (made_ok n).n.2 hsmn (made_ok n).ls hsm)
   have hLLn:((LS++[sm])++[JW n++sm]).length=LS.length+2:=by simp
   rw [show (LS++[sm])++[JW n++sm]=LS++[sm,JW n++sm] by simp] at hLL hLLn
   generalize hLd:LS++[sm,JW n++sm]=LL at hLL hLLn ⊢
   rw [← hLLn]
   refine Qo (α:=Nat) (fun k=>LL.length-k) (fun k=>[(6,.rs 1 (v.map civ)),(9,.ptr 9 0 0),(15,.bool true),(154,.sl 154 0 LL.length),(155,iv (LL.length:Int)),(156,iv (((k):Nat):Int))]) (fun k=>[(9,.cells 26 6 [[iv q00,iv q01,iv q02,iv q10,iv q11,iv q12]] true),(154,.cells 27 1 (LL.map cLv) true)]) (fun k=>k<=LL.length) 0 (by omega)
    (Qb (Qa rfl rfl) (kS rfl rfl) (fun i h=>by cases h)) ?_
   intro k hk
   refine gT 5 rfl (Qc rfl (fun h157=>?_) (fun h157=>?_))
   ·replace h157:=of_decide_eq_true h157
    refine gK 4 rfl ?_
    obtain ⟨ls,hlk,hlm⟩:=Qk (L:=LL) (k:=k) (by omega)
    have hls:=hLL ls hlm
    refine gI 1 rfl (QF rfl rfl rfl rfl (by omega) (by omega) (gR 0 rfl (JS (f:=cLv) (xs:=LL) (y:=ls) rfl rfl rfl hlk rfl (gR 6 rfl (cN rfl rfl (vc19 ls hls) (gR 1 rfl (cN rfl rfl (vc20 ls hls) (gR 0 rfl (rs_seq (r:=false) rfl rfl rfl (rootF_88 hls) (rootF_88 hls) (by simp) (gR 6 rfl (Qm rfl rfl rfl (by decide) (by decide) ?_)))))))))))
    refine gR 0 rfl (Qm rfl rfl rfl (by decide) (by decide) (gR 2 rfl (Qe rfl rfl (gR 0 rfl (cN rfl rfl (vc21 q02 ls.length hls.n) (gR 0 rfl (bT (l:=[.rs 1 (v.map civ),.rs 1 ((Jr q02 ls.length).map civ),.nils]) (els:=[[.rs 1 (v.map civ)],[.rs 1 ((Jr q02 ls.length).map civ)],[.nils]]) (by kernel_rfl) (gR 0 rfl (QC rfl rfl (gR 3 rfl ?_))))))))))
    refine Qo (α:=Nat) (fun i=>3-i) (fun i=>[(6,.rs 1 (v.map civ)),(9,.ptr 9 0 0),(15,.bool true),(154,.sl 154 0 LL.length),(155,iv (LL.length:Int)),(156,iv (((k):Nat):Int)),(33,.rs 5 (ls.map cLf)),(172,.sl 172 0 3),(173,iv ((3:Nat):Int)),(174,iv (((i):Nat):Int))]) (fun i=>[(9,.cells 26 6 [[iv q00,iv q01,iv q02,iv q10,iv q11,iv q12]] true),(154,.cells 27 1 (LL.map cLv) true),(172,.cells 22 1 [[.rs 1 (v.map civ)],[.rs 1 ((Jr q02 ls.length).map civ)],[.nils]] true)]) (fun i=>i<=3) 0 (by omega)
     (Qb (Qa rfl rfl) (kS rfl rfl) (fun i h=>by cases h)) ?_
    intro i hi
    refine gT 5 rfl (Qc rfl (fun h175=>?_) (fun h175=>?_))
    ·replace h175:=of_decide_eq_true h175
     refine gK 3 rfl (aw_cutw (F0:=[(6,.rs 1 (v.map civ)),(9,.ptr 9 0 0),(15,.bool true),(154,.sl 154 0 LL.length),(155,iv (LL.length:Int)),(156,iv (((k):Nat):Int)),(33,.rs 5 (ls.map cLf)),(172,.sl 172 0 3),(173,iv ((3:Nat):Int)),(174,iv (((i):Nat):Int)),(35,.rs 1 ((pik3 v (Jr q02 ls.length) i).map civ))]) (H0:=[(9,.cells 26 6 [[iv q00,iv q01,iv q02,iv q10,iv q11,iv q12]] true),(154,.cells 27 1 (LL.map cLv) true),(172,.cells 22 1 [[.rs 1 (v.map civ)],[.rs 1 ((Jr q02 ls.length).map civ)],[.nils]] true)]) ?_ ?_)
     ·skip
      refine gA 1 rfl ?_
      obtain rfl | rfl | rfl:i=0\/i=1\/i=2:=by omega
      ·skip
       refine QF rfl rfl rfl rfl (by omega) (by omega) (gR 3 rfl ?_)
       exact Qt <| ⟨rfl,Qb (Qa rfl rfl) (kS rfl rfl) (fun i h=>by cases h)⟩
      ·skip
       refine QF rfl rfl rfl rfl (by omega) (by omega) (gR 3 rfl ?_)
       exact Qt <| ⟨rfl,Qb (Qa rfl rfl) (kS rfl rfl) (fun i h=>by cases h)⟩
      ·skip
       refine QF rfl rfl rfl rfl (by omega) (by omega) (gR 3 rfl ?_)
       exact Qt <| ⟨rfl,Qb (.cs (.cs (.cs (.cs (.cs (.cs (.cs (.cs (.cs (.cs (.cons rfl (Qy) (.nil)))))))))))) (kS rfl rfl) (fun i h=>by cases h)⟩
     ·skip
      refine gK 1 rfl ?_
      have hu:=pik3_len (i:=i) hv (Nat.le_trans (some_len q02 ls.length) hls.n)
      generalize pik3 v (Jr q02 ls.length) i=u at hu ⊢
      refine gI 3 rfl (cN rfl rfl (vc22 ls hls.n hls.ok u hu) (gR 11 rfl (cN rfl rfl (vc23 ls hls.n hls.ok u hu) (gR 11 rfl (Qp rfl rfl rfl rfl (fun h=>h rfl) (gR 3 rfl (cN rfl rfl (vc24 (Je ls u).size (Je ls u).leaves (Je ls u).hid (shG_ok hls hu) (Je ls u).size (Je ls u).leaves (Je ls u).hid (shG_ok hls hu)) ?_)))))))
      rw [decide_eq_true rfl]
      refine gR 6 rfl (Qf rfl rfl rfl (by omega) (gR 2 rfl ?_))
      exact Qz <| ⟨i+1,by omega,by omega,Qb (Qa rfl rfl) (kS rfl rfl) (fun i h=>by cases h)⟩
    ·replace h175:=of_decide_eq_false h175
     refine gK 2 rfl (Qf rfl rfl rfl (by omega) (gR 2 rfl ?_))
     exact Qz <| ⟨k+1,by omega,by omega,Qb (Qa rfl rfl) (kS rfl rfl) (fun i h=>by cases h)⟩
   ·replace h157:=of_decide_eq_false h157
    refine gK 7 rfl ?_
    exact rQ
end Go.Proofs.YthfhaoogcpfboaaGreat
namespace Go.Proofs.YthfhaoogcpfboaaGreat
open Go.RowKit Go.WideShapes Go.ChangeShapes Go.ChangeAt
set_option maxRecDepth 100000
theorem own_knob:ownKnob Tryz.prog.godebug=none:=by kernel_rfl
theorem laid_out:laidOutB Tryz.prog=true:=by kernel_rfl
theorem rd_i {H:Type} (d:DataW H) (h:Gd (.int .i64) d):∃ n:Int,True/\avD (.int .i64) d=ci n:=by
 obtain ⟨n,_,e⟩:=rd_int d h
 exact ⟨n,trivial,e⟩
theorem rd_i6 {H:Type} (d:DataW H) (h:Gd (.int .i64) d):∃ n:Int,(-9223372036854775808<=n/\n<9223372036854775808)/\avD (.int .i64) d=ci n:=by
 obtain ⟨n,hw,e⟩:=rd_int d h
 have:=bounds_i64 hw
 exact ⟨n,by omega,e⟩
end Go.Proofs.YthfhaoogcpfboaaGreat
namespace Go.Proofs.YthfhaoogcpfboaaGreat
open Go.RowKit Go.WideShapes Go.ChangeShapes Go.ChangeAt
set_option maxRecDepth 100000
theorem rd_l {H:Type} (d:DataW H) (h:Gd (.sl 1 (.int .i64)) d):∃ L:List Int,L.length<=4611686018427387904/\avD (.sl 1 (.int .i64)) d=cLi L:=by
 obtain ⟨xs,⟨h1,_⟩,e⟩:=rd_sl _ ci rd_i d h
 exact ⟨xs,Nat.le_trans h1 (by decide),e⟩
theorem rd_ll {H:Type} (d:DataW H) (h:Gd (.sl 1 (.sl 1 (.int .i64))) d):∃ cs:List (List Int),(cs.length<=4611686018427387904/\∀ L∈cs,L.length<=4611686018427387904)/\avD (.sl 1 (.sl 1 (.int .i64))) d=[.rs 1 (cs.map cLi)]:=by
 obtain ⟨xs,⟨h1,h2⟩,e⟩:=rd_sl _ cLi rd_l d h
 exact ⟨xs,⟨Nat.le_trans h1 (by decide),h2⟩,e⟩
theorem rd_2 {H:Type} (d:DataW H) (h:Gd (.arr 2 (.sl 1 (.int .i64))) d):∃ a b:List Int,(a.length<=4611686018427387904/\b.length<=4611686018427387904)/\argA (.arr 2 (.sl 1 (.int .i64))) d = .agg [ints a,ints b]:=by
 obtain ⟨q,⟨hq,hr⟩,e⟩:=rd_arr _ cLi rd_l d h
 match q,hq with
 | [a,b],_=>exact ⟨a,b,⟨hr a (by simp),hr b (by simp)⟩,by simp only [argA]; rw [e]; rfl⟩
end Go.Proofs.YthfhaoogcpfboaaGreat
namespace Go.Proofs.YthfhaoogcpfboaaGreat
open Go.RowKit
set_option maxRecDepth 100000
set_option linter.unusedVariables false
end Go.Proofs.YthfhaoogcpfboaaGreat
namespace Go.Proofs.YthfhaoogcpfboaaGreat
open Go.RowKit
set_option maxRecDepth 100000
set_option linter.unusedVariables false
structure RawOK (lv:List Lf) (hd:List (List Int)):Prop where
 nl:lv.length<=4611686018427387904
 nh:hd.length<=4611686018427387904
 l:∀ x∈lv,I64 x.ix/\I64 x.want/\B8 x.salt
 h:∀ d∈hd,B8 d
end Go.Proofs.YthfhaoogcpfboaaGreat
namespace Go.Proofs.YthfhaoogcpfboaaGreat
open Go.RowKit Go.WideShapes Go.ChangeShapes Go.ChangeAt
set_option maxRecDepth 100000
theorem strN_of (l:List UInt8):(⟨l.toArray⟩:ByteArray)=strN (l.map fun b=>(b.toNat:Int)):=by
 unfold strN
 congr 1
 rw [List.map_map]
 congr 1
 conv=>lhs; rw [← List.map_id l]
 refine List.map_congr_left fun b _=>?_
 simp
theorem bytes_8 (l:List UInt8):B8 (l.map fun b=>(b.toNat:Int)):=fun x hx=>by
 obtain ⟨b,_,rfl⟩:=List.mem_map.1 hx
 have:=b.toNat_lt
 omega
theorem rd_s {H:Type} (d:DataW H) (h:Gd .str d):∃ s:List Int,B8 s/\avD .str d=cS s:=by
 simp only [Gd] at h
 obtain ⟨l,rfl,_⟩:=h
 exact ⟨_,bytes_8 l,by simp only [avD]; rw [strN_of]⟩
abbrev shL:Sh:=.st [.int .i64,.int .i64,.bool,.bool,.str]
theorem rd_lf {H:Type} (d:DataW H) (h:Gd shL d):∃ x:Lf,(I64 x.ix/\I64 x.want/\B8 x.salt)/\avD shL d=cLf x:=by
 obtain ⟨ps,g,e⟩:=rd_st d h
 obtain ⟨d0,r0,g0,g,e0⟩:=rd_cons ps g
 obtain ⟨d1,r1,g1,g,e1⟩:=rd_cons r0 g
 obtain ⟨d2,r2,g2,g,e2⟩:=rd_cons r1 g
 obtain ⟨d3,r3,g3,g,e3⟩:=rd_cons r2 g
 obtain ⟨d4,r4,g4,g,e4⟩:=rd_cons r3 g
 obtain ⟨n0,h0,a0⟩:=rd_i6 d0 g0
 obtain ⟨n1,h1,a1⟩:=rd_i6 d1 g1
 obtain ⟨b2,a2⟩:=rd_bool d2 g2
 obtain ⟨b3,a3⟩:=rd_bool d3 g3
 obtain ⟨s4,h4,a4⟩:=rd_s d4 g4
 exact ⟨⟨n0,n1,b2,b3,s4⟩,⟨h0,h1,h4⟩,by rw [e,e0,e1,e2,e3,e4,rd_nil r4 g,a0,a1,a2,a3,a4]; rfl⟩
theorem rd_q6 {H:Type} (d:DataW H) (h:Gd (.arr 2 (.arr 3 (.int .i64))) d):∃ a0 a1 a2 b0 b1 b2:Int,(I64 a2/\I64 b2)/\argA (.arr 2 (.arr 3 (.int .i64))) d = .agg [iv a0,iv a1,iv a2,iv b0,iv b1,iv b2]:=by
 obtain ⟨q,⟨hq,hr⟩,e⟩:=rd_arr (fun L:List Int=>L.length=3/\∀ x∈L,I64 x) (fun L=>L.flatMap ci) (fun d h=>by
  obtain ⟨xs,⟨h1,h2⟩,e⟩:=rd_arr _ ci rd_i6 d h
  exact ⟨xs,⟨h1,h2⟩,e⟩) d h
 match q,hq with
 | [x,y],_ =>
  match x,y,hr x (by simp),hr y (by simp) with
  | [a0,a1,a2],[b0,b1,b2],h1,h2=>exact ⟨a0,a1,a2,b0,b1,b2,⟨h1.2 a2 (by simp),h2.2 b2 (by simp)⟩,by simp only [argA]; rw [e]; rfl⟩
end Go.Proofs.YthfhaoogcpfboaaGreat
namespace Go.Proofs.YthfhaoogcpfboaaGreat
open Go.RowKit Go.WideShapes Go.ChangeShapes Go.ChangeAt
set_option maxRecDepth 100000
abbrev shs3:List Sh:=[.arr 2 (.sl 1 (.int .i64)),.sl 1 (.sl 1 (.int .i64)),.arr 2 (.arr 3 (.int .i64)),.sl 1 (.int .i64),.sl 5 shL,.str,.sl 1 (.int .i64)]
theorem lifted3 (os:Os) (started:os.Started) (H:Type) (enc:TypeId×Value->H) :
  ReturnsInHanded {} Tryz.checked os 3 .any (Rows.revealFormsSpec.pre6 enc Tryz.prog Tryz.f3 Rows.revealFormsRow.domain false) (Rows.revealFormsSpec.post enc Tryz.prog Tryz.f3 false true false false):=by
 refine law_row (C:=Tryz.checked) own_knob started (by kernel_rfl) Tryz.func3 laid_out rfl (tb:=4) rfl Tryz.underlying4 shs3 (by kernel_rfl) (fun ds h=>?_)
  (ChangeSpec.witness6 (enc:=enc) (C:=Tryz.checked) false ⟨#[],#[.agg #[.slice none 0 0,.slice none 0 0],.slice none 0 0,.agg #[.int .i64 0,.int .i64 0,.int .i64 0,.int .i64 0,.int .i64 0,.int .i64 0],.slice none 0 0,.slice none 0 0,.string ⟨#[]⟩,.slice none 0 0],[]⟩ 8 (by kernel_rfl) (by kernel_rfl) (by kernel_rfl) (by kernel_rfl)) fun ds hg=>⟨false,?_⟩
 ·match ds,h with
  | [_,_,_,_,_,_,_],_=>rfl
 ·simp only [shs3,GdFs] at hg
  obtain ⟨d0,_,rfl,g0,d1,_,rfl,g1,d2,_,rfl,g2,d3,_,rfl,g3,d4,_,rfl,g4,d5,_,rfl,g5,d6,_,rfl,g6,rfl⟩:=hg
  obtain ⟨l0,l1,⟨hl0,hl1⟩,e0⟩:=rd_2 d0 g0
  obtain ⟨cs,⟨hcsn,hcss⟩,e1⟩:=rd_ll d1 g1
  obtain ⟨a0,a1,a2,b0,b1,b2,_,e2⟩:=rd_q6 d2 g2
  obtain ⟨n,hn,e3⟩:=rd_l d3 g3
  obtain ⟨raw,⟨hr,hro⟩,e4⟩:=rd_sl _ cLf rd_lf d4 g4
  obtain ⟨sec,hsec,e5⟩:=rd_s d5 g5
  obtain ⟨w,hw,e6⟩:=rd_l d6 g6
  have e:argAs shs3 [d0,d1,d2,d3,d4,d5,d6]=[.agg [ints l0,ints l1],.rs 1 (cs.map cLi),.agg [iv a0,iv a1,iv a2,iv b0,iv b1,iv b2],ints n,.rs 5 (raw.map cLf),.str (strN sec),.rs 1 (w.map civ)]:=by
   simp only [argAs,shs3]
   rw [e0]
   rw [e2]
   simp only [argA]
   rw [e1,e3,e4,e5,e6]
   rfl
  rw [e]
  exact vc3 l0 l1 hl0 hl1 cs hcsn hcss a0 a1 a2 b0 b1 b2 n hn raw (Nat.le_trans hr (by decide)) hro sec hsec w hw
theorem over3:Rows.revealFormsRow.holds Tryz.pinned (OpenSpec.ofChange Rows.revealFormsSpec) :=
 OpenClaim.holds_of_wide 3 Tryz.f3 rfl rfl rfl rfl rfl rfl rfl ⟨rfl,rfl,rfl,rfl,rfl⟩ rfl rfl rfl rfl rfl (by kernel_rfl) Tryz.func3 (by kernel_rfl)
  (of_decide_eq_true (by kernel_rfl)) (by unfold Func.isWrapper; rw [if_neg (of_decide_eq_false (by kernel_rfl))]; exact ⟨rfl,rfl⟩)
  (fun os started H enc _=>lifted3 os started H enc)
theorem revealForms_holds:Rows.RevealFormsSaid:=over3
#print axioms revealForms_holds
end Go.Proofs.YthfhaoogcpfboaaGreat
