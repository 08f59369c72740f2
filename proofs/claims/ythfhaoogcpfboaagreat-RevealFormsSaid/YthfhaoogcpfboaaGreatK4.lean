/-
  Parts of the proof: VH VJ VK VL VM VN VO VP VQ W0 VR W3 X5 X6 X7.
-/
import Derived.Test.YthfhaoogcpfboaaGreatK3
import Derived.Shelf.Spec.SlicesGrow
set_option linter.unusedVariables false
set_option linter.unusedSimpArgs false
namespace Go.Proofs.YthfhaoogcpfboaaGreat
open Go.RowKit
set_option maxRecDepth 100000
set_option linter.unusedVariables false
theorem eq_hit {α:Type} {a b:List α} {k:Nat} {x y:α} (hx:a[k]?=some x) (hy:b[k]?=some y) (h:x≠y):a≠b:=fun e=>h (by
 rw [e,hy] at hx
 injection hx with hx
 exact hx.symm)
theorem eq_end {α:Type} {a b:List α} {k:Nat} (h:a.take k=b.take k) (ha:a.length<=k) (hb:b.length<=k):a=b:=by
 rwa [List.take_of_length_le ha,List.take_of_length_le hb] at h
theorem eq_step {α:Type} {a b:List α} {k:Nat} {x y:α} (h:a.take k=b.take k) (hx:a[k]?=some x) (hy:b[k]?=some y) (e:x=y):a.take (k+1)=b.take (k+1):=by
 rw [Q3 hx,Q3 hy,h,e]
def allZ (p:Lf->Lf->Bool):List Lf->List Lf->Bool
 | x::l,y::m=>p x y&&allZ p l m
 | _,_=>true
theorem allZ_at {p:Lf->Lf->Bool} {l m:List Lf} {k:Nat} {x y:Lf} (hx:l[k]?=some x) (hy:m[k]?=some y):allZ p (l.drop k) (m.drop k)=(p x y&&allZ p (l.drop (k+1)) (m.drop (k+1))):=by
 obtain ⟨h1,e1⟩:=List.getElem?_eq_some_iff.1 hx
 obtain ⟨h2,e2⟩:=List.getElem?_eq_some_iff.1 hy
 rw [List.drop_eq_getElem_cons h1,List.drop_eq_getElem_cons h2,e1,e2]; rfl
theorem allZ_end {p:Lf->Lf->Bool} {l m:List Lf} {k:Nat} (h:l.length<=k):allZ p (l.drop k) (m.drop k)=true:=by rw [List.drop_eq_nil_of_le h]; rfl
def sameWS (x y:Lf):Bool:=decide (x.want=y.want)&&decide (x.salt=y.salt)
def Ur (x y:Lf):Bool := !((x.sure && !y.sure)||(x.touched && !y.touched))
def JZ (z:Int) (lv:List Lf) (hd:List (List Int)) (z2:Int) (lv2:List Lf) (hd2:List (List Int)):Int :=
 if ((fmS z lv hd).isSome&&(fmS z2 lv2 hd2).isSome)=false then 4 else if (decide (z=z2)&&decide (hd=hd2)&&decide (XR lv=XR lv2))=false then 54 else if allZ sameWS lv lv2=false then 1 else if allZ Ur lv lv2=false then 7 else 0
section
variable {z z2:Int} {lv lv2:List Lf} {hd hd2:List (List Int)}
theorem ch_1 (h:((fmS z lv hd).isSome&&(fmS z2 lv2 hd2).isSome)=false):JZ z lv hd z2 lv2 hd2=4:=if_pos h
theorem ch_2 (h:((fmS z lv hd).isSome&&(fmS z2 lv2 hd2).isSome)=true) (h2:(decide (z=z2)&&decide (hd=hd2)&&decide (XR lv=XR lv2))=false):JZ z lv hd z2 lv2 hd2=54:=by unfold JZ; rw [if_neg (by rw [h]; decide),if_pos h2]
theorem ch_3 (h:((fmS z lv hd).isSome&&(fmS z2 lv2 hd2).isSome)=true) (h2:(decide (z=z2)&&decide (hd=hd2)&&decide (XR lv=XR lv2))=true) (h3:allZ sameWS lv lv2=false):JZ z lv hd z2 lv2 hd2=1:=by unfold JZ; rw [if_neg (by rw [h]; decide),if_neg (by rw [h2]; decide),if_pos h3]
theorem ch_4 (h:((fmS z lv hd).isSome&&(fmS z2 lv2 hd2).isSome)=true) (h2:(decide (z=z2)&&decide (hd=hd2)&&decide (XR lv=XR lv2))=true) (h3:allZ sameWS lv lv2=true) (h4:allZ Ur lv lv2=false):JZ z lv hd z2 lv2 hd2=7:=by unfold JZ; rw [if_neg (by rw [h]; decide),if_neg (by rw [h2]; decide),if_neg (by rw [h3]; decide),if_pos h4]
theorem ch_5 (h:((fmS z lv hd).isSome&&(fmS z2 lv2 hd2).isSome)=true) (h2:(decide (z=z2)&&decide (hd=hd2)&&decide (XR lv=XR lv2))=true) (h3:allZ sameWS lv lv2=true) (h4:allZ Ur lv lv2=true):JZ z lv hd z2 lv2 hd2=0:=by unfold JZ; rw [if_neg (by rw [h]; decide),if_neg (by rw [h2]; decide),if_neg (by rw [h3]; decide),if_neg (by rw [h4]; decide)]
end
def mcv79:MC:=(sq [oN 4 (.mv (.c (.bool false))) []] (.seq (sq [oM 6 0 [],oE 7 6 [0],oM 8 1 [],oE 9 8 [2],oB 10 .neq 7 9 [1,3]] (.cond 10 (sq [oN 4 (.mv (.c (.bool false))) []] .ret) .skip)) (.seq (sq [oM 11 0 [],oE 12 11 [0],oN 13 (.mv (cI 0)) []] (.block 0 (.loop (sq [oB 14 .lss 13 12 []] (.seq (.cond 14 .skip (.exit 0)) (.seq (.block 1 (sq [oM 15 13 [],oM 5 15 [0,0]] (dq [oM 16 0 [],oM 17 5 [],oX 18 1 16 17 [0,1],oD 19 1 18 [2],oM 20 1 [],oM 21 5 [],oX 22 1 20 21 [4,5],oD 23 1 22 [6],oB 24 .neq 19 23 [3,7]] (.cond 24 (sq [oN 4 (.mv (.c (.bool false))) []] .ret) .skip)))) (rg [oB 25 .add 13 (cI 1) [],oM 13 25 [0]]))))))) (sq [oN 4 (.mv (.c (.bool true))) []] .ret))))
theorem mcOkv79:okM Tryz.prog Tryz.f79 26=some mcv79:=by kernel_rfl
theorem vc79 (a b:List Int)  (han:a.length<=4611686018427387904):FC Tryz.prog 79 [.rs 1 (a.map civ),.rs 1 (b.map civ)] [] (.bool (decide (a=b))) [] false:=by
 refine Qg (nt:=26) Tryz.func79 rfl rfl mcOkv79 (nL rfl) ?_
 delta mcv79
 refine gA 8 rfl (Qe rfl rfl (gR 1 rfl (Qe rfl rfl (gR 0 rfl (Xv rfl rfl rfl (gR 1 rfl (Qc rfl (fun h10=>?_) (fun h10=>?_))))))))
 ·replace h10:=of_decide_eq_true h10
  refine gK 5 rfl ?_
  rw [show decide (a=b)=false from decide_eq_false (fun e=>h10 (by rw [e]))]
  exact rQ
 ·replace h10:=of_decide_eq_false h10
  refine gK 5 rfl (Qe rfl rfl (gR 3 rfl ?_))
  refine Qo (α:=Nat) (fun k=>a.length-k) (fun k=>[(0,.rs 1 (a.map civ)),(1,.rs 1 (b.map civ)),(11,.rs 1 (a.map civ)),(12,iv (a.length:Int)),(13,iv (((k):Nat):Int))]) (fun k=>[]) (fun k=>k<=a.length/\a.take k=b.take k) 0 (⟨by omega,rfl⟩)
   (Qb (Qa rfl rfl) (.nil) (fun i h=>by cases h)) ?_
  rintro k ⟨hk,hinv⟩
  refine gT 5 rfl (Qc rfl (fun h14=>?_) (fun h14=>?_))
  ·replace h14:=of_decide_eq_true h14
   refine gK 10 rfl ?_
   obtain ⟨x,hxk,hxm⟩:=Qk (L:=a) (k:=k) (by omega)
   obtain ⟨y,hyk,hym⟩:=Qk (L:=b) (k:=k) (by omega)
   refine gI 2 rfl (Qi (f:=civ) (y:=x) rfl rfl rfl (by omega) hxk (gR 3 rfl (Qi (f:=civ) (y:=y) rfl rfl rfl (by omega) hyk (gR 1 rfl (Xv rfl rfl rfl (gR 0 rfl (Q9 (by kernel_rfl) (gP 0 rfl (Qc rfl (fun h24=>?_) (fun h24=>?_))))))))))
   ·replace h24:=of_decide_eq_true h24
    refine gK 5 rfl ?_
    rw [show decide (a=b)=false from decide_eq_false (eq_hit hxk hyk h24)]
    exact rQ
   ·replace h24:=of_decide_eq_false h24
    refine gK 2 rfl (Qf rfl rfl rfl (by omega) (gR 2 rfl ?_))
    exact Qz <| ⟨k+1,⟨by omega,eq_step hinv hxk hyk (Decidable.byContradiction h24)⟩,by omega,Qb (Qa rfl rfl) (.nil) (fun i h=>by cases h)⟩
  ·replace h14:=of_decide_eq_false h14
   refine gK 6 rfl ?_
   rw [show decide (a=b)=true from decide_eq_true (eq_end hinv (by omega) (by omega))]
   exact rQ
def mcv78:MC:=(sq [oN 4 (.mv (.c (.bool false))) []] (.seq (sq [oM 6 0 [],oE 7 6 [0],oM 8 1 [],oE 9 8 [2],oB 10 .neq 7 9 [1,3]] (.cond 10 (sq [oN 4 (.mv (.c (.bool false))) []] .ret) .skip)) (.seq (sq [oM 11 0 [],oE 12 11 [0],oN 13 (.mv (cI 0)) []] (.block 0 (.loop (sq [oB 14 .lss 13 12 []] (.seq (.cond 14 .skip (.exit 0)) (.seq (.block 1 (sq [oM 15 13 [],oM 5 15 [0,0]] (dq [oM 16 0 [],oM 17 5 [],oX 18 1 16 17 [0,1],oD 19 1 18 [2],oM 20 1 [],oM 21 5 [],oX 22 1 20 21 [4,5],oD 23 1 22 [6],oN 24 (.seq true 19 23) [3,7]] (.cond 24 (sq [oN 4 (.mv (.c (.bool false))) []] .ret) .skip)))) (rg [oB 25 .add 13 (cI 1) [],oM 13 25 [0]]))))))) (sq [oN 4 (.mv (.c (.bool true))) []] .ret))))
theorem mcOkv78:okM Tryz.prog Tryz.f78 26=some mcv78:=by kernel_rfl
theorem vc78 (a b:List (List Int)) (ha:∀ d∈a,B8 d) (hb:∀ d∈b,B8 d) (han:a.length<=4611686018427387904):FC Tryz.prog 78 [.rs 1 (a.map cS),.rs 1 (b.map cS)] [] (.bool (decide (a=b))) [] false:=by
 refine Qg (nt:=26) Tryz.func78 rfl rfl mcOkv78 (nL rfl) ?_
 delta mcv78
 refine gA 8 rfl (Qe rfl rfl (gR 1 rfl (Qe rfl rfl (gR 0 rfl (Xv rfl rfl rfl (gR 1 rfl (Qc rfl (fun h10=>?_) (fun h10=>?_))))))))
 ·replace h10:=of_decide_eq_true h10
  refine gK 5 rfl ?_
  rw [show decide (a=b)=false from decide_eq_false (fun e=>h10 (by rw [e]))]
  exact rQ
 ·replace h10:=of_decide_eq_false h10
  refine gK 5 rfl (Qe rfl rfl (gR 3 rfl ?_))
  refine Qo (α:=Nat) (fun k=>a.length-k) (fun k=>[(0,.rs 1 (a.map cS)),(1,.rs 1 (b.map cS)),(11,.rs 1 (a.map cS)),(12,iv (a.length:Int)),(13,iv (((k):Nat):Int))]) (fun k=>[]) (fun k=>k<=a.length/\a.take k=b.take k) 0 (⟨by omega,rfl⟩)
   (Qb (Qa rfl rfl) (.nil) (fun i h=>by cases h)) ?_
  rintro k ⟨hk,hinv⟩
  refine gT 5 rfl (Qc rfl (fun h14=>?_) (fun h14=>?_))
  ·replace h14:=of_decide_eq_true h14
   refine gK 10 rfl ?_
   obtain ⟨x,hxk,hxm⟩:=Qk (L:=a) (k:=k) (by omega)
   obtain ⟨y,hyk,hym⟩:=Qk (L:=b) (k:=k) (by omega)
   refine gI 2 rfl (Qi (f:=cS) (y:=x) rfl rfl rfl (by omega) hxk (gR 3 rfl (Qi (f:=cS) (y:=y) rfl rfl rfl (by omega) hyk (gR 1 rfl (rs_seq (r:=decide (x≠y)) rfl rfl rfl (ha x hxm) (hb y hym) (by by_cases e:x=y <;> simp [e]) (gR 0 rfl (Q9 (by kernel_rfl) (gP 0 rfl (Qc rfl (fun h24=>?_) (fun h24=>?_))))))))))
   ·replace h24:=of_decide_eq_true h24
    refine gK 5 rfl ?_
    rw [show decide (a=b)=false from decide_eq_false (eq_hit hxk hyk h24)]
    exact rQ
   ·replace h24:=of_decide_eq_false h24
    refine gK 2 rfl (Qf rfl rfl rfl (by omega) (gR 2 rfl ?_))
    exact Qz <| ⟨k+1,⟨by omega,eq_step hinv hxk hyk (Decidable.byContradiction h24)⟩,by omega,Qb (Qa rfl rfl) (.nil) (fun i h=>by cases h)⟩
  ·replace h14:=of_decide_eq_false h14
   refine gK 6 rfl ?_
   rw [show decide (a=b)=true from decide_eq_true (eq_end hinv (by omega) (by omega))]
   exact rQ
def mcv29:MC:=(sq [oN 2 (.box 55 3 0) [],oN 3 (.box 55 3 1) [],oN 4 (.mv (cI 0)) []] (sq [oL 16 3 2 [],oC 17 72 [16] [0],oM 15 17 [1],oN 18 (.ext 15 0) [2],oN 19 (.ext 15 1) [2],oM 5 18 (3::1::up 4),oM 6 19 (4::5::up 6)] (sq [oL 21 3 3 [],oC 22 72 [21] [0],oM 20 22 [1],oN 23 (.ext 20 0) [2],oN 24 (.ext 20 1) [2],oM 7 23 (3::1::up 4),oM 8 24 (4::5::up 6)] (.seq (.block 0 (sq [oM 26 6 [],oN 27 (.un .not 26) [0],oM 28 27 [1],pM 29 8 28 false [2],oG 30 (.un .not 29) 28 false [3,2],oN 31 (.pick 28 (.c (.bool true)) 30) [2,4],oM 25 31 [5,2]] (.cond 25 (sq [oN 4 (.mv (cI 4)) []] .ret) (dq [oA 33 0 2 [],oD 34 1 33 [0],oA 35 0 3 [],oD 36 1 35 [2],oB 37 .neq 34 36 [1,3],oM 38 37 [4],pA 39 2 2 38 false [5],pD 40 1 39 38 false [6,5],pA 41 2 3 38 false [5],pD 42 1 41 38 false [8,5],oG 43 (.call 78 [40,42]) 38 false [7,9,5,5],oG 44 (.un .not 43) 38 false [10,5],oN 45 (.pick 38 (.c (.bool true)) 44) [5,11],oM 46 45 [12,10],oG 47 (.ld true 3 2) 46 false [13],oG 48 (.call 80 [47]) 46 false [14,13,13],oG 49 (.ld true 3 3) 46 false [13],oG 50 (.call 80 [49]) 46 false [16,15,13],oG 51 (.call 79 [48,50]) 46 false [15,17,17,13],oG 52 (.un .not 51) 46 false [18,13],oN 53 (.pick 46 (.c (.bool true)) 52) [13,19],oM 32 53 [20,18]] (.cond 32 (sq [oN 4 (.mv (cI 54)) []] .ret) .skip))))) (.seq (sq [oA 54 1 2 [],oD 55 1 54 [0],oE 56 55 [1],oN 57 (.mv (cI 0)) []] (.block 1 (.loop (sq [oB 58 .lss 57 56 []] (.seq (.cond 58 .skip (.exit 1)) (.seq (.block 2 (sq [oM 59 57 [],oX 60 5 55 57 [],oL 61 5 60 [1],oN 10 (.alloc 51 5 [(iv 0),(iv 0),(.bool false),(.bool false),(.str (strN []))]) [],oM 9 59 (0::up 4),oS 5 10 61 (3::2::4::up 5)] (sq [oA 62 1 3 [],oD 63 1 62 [0],oM 64 9 [],oX 65 5 63 64 [1,2],oL 66 5 65 [3],oN 11 (.alloc 51 5 [(iv 0),(iv 0),(.bool false),(.bool false),(.str (strN []))]) [],oS 5 11 66 (5::4::up 6)] (sq [oA 67 1 10 [],oD 68 1 67 [0],oA 69 1 11 [],oD 70 1 69 [2],oB 71 .neq 68 70 [1,3],oM 72 71 [4],pA 73 4 10 72 false [5],pD 74 1 73 72 false [6,5],pA 75 4 11 72 false [5],pD 76 1 75 72 false [8,5],oG 77 (.seq true 74 76) 72 false [7,9,5],oN 78 (.pick 72 (.c (.bool true)) 77) [5,10]] (.cond 78 (sq [oN 4 (.mv (cI 1)) []] .ret) .skip))))) (rg [oB 79 .add 57 (cI 1) [],oM 57 79 [0]]))))))) (.seq (sq [oA 80 1 2 [],oD 81 1 80 [0],oE 82 81 [1],oN 83 (.mv (cI 0)) []] (.block 3 (.loop (sq [oB 84 .lss 83 82 []] (.seq (.cond 84 .skip (.exit 3)) (.seq (.block 4 (sq [oM 85 83 [],oX 86 5 81 83 [],oL 87 5 86 [1],oN 13 (.alloc 51 5 [(iv 0),(iv 0),(.bool false),(.bool false),(.str (strN []))]) [],oM 12 85 (0::up 4),oS 5 13 87 (3::2::4::up 5)] (sq [oA 88 1 3 [],oD 89 1 88 [0],oM 90 12 [],oX 91 5 89 90 [1,2],oL 92 5 91 [3],oN 14 (.alloc 51 5 [(iv 0),(iv 0),(.bool false),(.bool false),(.str (strN []))]) [],oS 5 14 92 (5::4::up 6)] (sq [oA 93 2 13 [],oD 94 1 93 [0],oM 95 94 [1],pA 96 2 14 95 true [2],pD 97 1 96 95 true [3,2],oG 98 (.un .not 97) 95 true [4,2],oN 99 (.pick 95 98 (.c (.bool false))) [2,5],oM 100 99 [6,2],pA 101 3 13 100 false [7],pD 102 1 101 100 false [8,7],pM 103 102 100 false [9,7,7],pA 104 3 14 103 true [10],pD 105 1 104 103 true [11,10],oG 106 (.un .not 105) 103 true [12,10],oG 107 (.pick 103 106 (.c (.bool false))) 100 false [10,13,7],oN 108 (.pick 100 (.c (.bool true)) 107) [7,14]] (.cond 108 (sq [oN 4 (.mv (cI 7)) []] .ret) .skip))))) (rg [oB 109 .add 83 (cI 1) [],oM 83 109 [0]]))))))) (sq [oN 4 (.mv (cI 0)) []] .ret)))))))
theorem mcOkv29:okM Tryz.prog Tryz.f29 110=some mcv29:=by kernel_rfl
set_option maxHeartbeats 2000000 in
theorem vc29 (z:Int) (lv:List Lf) (hd:List (List Int)) (h:ShOK lv hd) (z2:Int) (lv2:List Lf) (hd2:List (List Int)) (h2:ShOK lv2 hd2):FC Tryz.prog 29 [.agg [.int .i64 z,.rs 5 (lv.map cLf),.rs 1 (hd.map cS)],.agg [.int .i64 z2,.rs 5 (lv2.map cLf),.rs 1 (hd2.map cS)]] [] (iv (JZ z lv hd z2 lv2 hd2)) [] false:=by
 have hnl:=h.nl
 have hnh:=h.nh
 have hnl2:=h2.nl
 refine Qg (nt:=110) Tryz.func29 rfl rfl mcOkv29 (nL rfl) ?_
 delta mcv29
 refine gA 9 rfl (Qr [] rfl rfl (vc72 z lv hd h.nl h.nh) (.cons (Qd rfl) .nil) .nil rfl rfl rfl (gR 3 rfl ?_))
 cases h19:(fmS z lv hd).isSome
 ·skip
  refine gI 6 rfl (Qr [] rfl rfl (vc72 z2 lv2 hd2 h2.nl h2.nh) (.cons (Qd rfl) .nil) .nil rfl rfl rfl (gR 3 rfl ?_))
  cases h24:(fmS z2 lv2 hd2).isSome
  ·skip
   refine gI 21 rfl ?_
   rw [ch_1 (by rw [h19]; rfl)]
   exact rQ
  ·skip
   refine gI 21 rfl ?_
   rw [ch_1 (by rw [h19]; rfl)]
   exact rQ
 ·skip
  refine gI 6 rfl (Qr [] rfl rfl (vc72 z2 lv2 hd2 h2.nl h2.nh) (.cons (Qd rfl) .nil) .nil rfl rfl rfl (gR 3 rfl ?_))
  cases h24:(fmS z2 lv2 hd2).isSome
  ·skip
   refine gI 21 rfl ?_
   rw [ch_1 (by rw [h19,h24]; rfl)]
   exact rQ
  ·skip
   refine gI 22 rfl (Qx rfl rfl rfl rfl (fun h37=>?_) (fun h37=>?_))
   ·skip
    refine gR 17 rfl (Q9 (by kernel_rfl) (gP 6 rfl ?_))
    rw [ch_2 (by rw [h19,h24]; rfl) (by rw [decide_eq_false h37]; rfl)]
    exact rQ
   ·skip
    refine gR 5 rfl (cN rfl rfl (vc78 hd hd2 (fun d hd=>(h.b d hd).1) (fun d hd=>(h2.b d hd).1) (by omega)) ?_)
    cases h43:decide (hd=hd2)
    ·skip
     refine gR 11 rfl (Q9 (by kernel_rfl) (gP 6 rfl ?_))
     rw [ch_2 (by rw [h19,h24]; rfl) (by rw [h43,Bool.and_false]; rfl)]
     exact rQ
    ·skip
     refine gR 4 rfl (cN rfl rfl (vc80 z lv hd h.nl) (gR 1 rfl (cN rfl rfl (vc80 z2 lv2 hd2 h2.nl) (gR 0 rfl (cN rfl rfl (vc79 (XR lv) (XR lv2) (by simp; omega)) ?_)))))
     cases h51:decide (XR lv=XR lv2)
     ·skip
      refine gR 3 rfl (Q9 (by kernel_rfl) (gP 6 rfl ?_))
      rw [ch_2 (by rw [h19,h24]; rfl) (by rw [h51,Bool.and_false])]
      exact rQ
     ·skip
      refine gR 3 rfl (Q9 (by kernel_rfl) (gP 4 rfl ?_))
      have hfm:((fmS z lv hd).isSome&&(fmS z2 lv2 hd2).isSome)=true:=by rw [h19,h24]; rfl
      have heq:(decide (z=z2)&&decide (hd=hd2)&&decide (XR lv=XR lv2))=true:=by rw [h43,h51,decide_eq_true (Decidable.byContradiction h37)]; rfl
      have hll:lv.length=lv2.length:=by have:=congrArg List.length (of_decide_eq_true h51); simpa using this
      refine gI 3 rfl (Qe rfl rfl (gR 3 rfl ?_))
      refine Qo (α:=Nat) (fun k=>lv.length-k) (fun k=>[(2,.ptr 2 0 0),(3,.ptr 3 0 0),(55,.rs 5 (lv.map cLf)),(56,iv (lv.length:Int)),(57,iv (((k):Nat):Int))]) (fun k=>[(2,.cells 55 3 [[.int .i64 z,.rs 5 (lv.map cLf),.rs 1 (hd.map cS)]] true),(3,.cells 55 3 [[.int .i64 z2,.rs 5 (lv2.map cLf),.rs 1 (hd2.map cS)]] true)]) (fun k=>k<=lv.length/\allZ sameWS (lv.drop k) (lv2.drop k)=allZ sameWS lv lv2) 0 (⟨by omega,rfl⟩)
       (Qb (Qa rfl rfl) (kS rfl rfl) (fun i h=>by cases h)) ?_
      rintro k ⟨hk,hinv⟩
      refine gT 5 rfl (Qc rfl (fun h58=>?_) (fun h58=>?_))
      ·replace h58:=of_decide_eq_true h58
       refine gK 6 rfl ?_
       obtain ⟨x,hxk,hxm⟩:=Qk (L:=lv) (k:=k) (by omega)
       obtain ⟨y,hyk,hym⟩:=Qk (L:=lv2) (k:=k) (by omega)
       refine Qi (f:=cLf) (y:=x) rfl rfl rfl (by omega) hxk (gR 0 rfl (Q8 (cs:=cLf x) rfl rfl (nL rfl) rfl (gR 9 rfl (Qi (f:=cLf) (y:=y) rfl rfl rfl (by omega) hyk (gR 0 rfl (Q8 (cs:=cLf y) rfl rfl (nL rfl) rfl (gR 9 rfl (Qx rfl rfl rfl rfl (fun h71=>?_) (fun h71=>?_)))))))))
       ·skip
        refine gR 14 rfl ?_
        rw [ch_3 hfm heq (by rw [← hinv,allZ_at hxk hyk,show sameWS x y=false from by simp only [sameWS,Bool.and_eq_false_iff,decide_eq_false_iff_not]; exact .inl h71]; rfl)]
        exact rQ
       ·skip
        refine gR 5 rfl (rs_seq (r:=decide (x.salt≠y.salt)) rfl rfl rfl ((h.ok x hxm).b) ((h2.ok y hym).b) (by by_cases e:x.salt=y.salt <;> simp [e]) ?_)
        cases h77:decide (x.salt≠y.salt)
        ·skip
         refine gR 5 rfl (Qf rfl rfl rfl (by omega) (gR 2 rfl ?_))
         rw [allZ_at hxk hyk,show sameWS x y=true from by simp only [sameWS,Bool.and_eq_true,decide_eq_true_eq]; exact ⟨Decidable.byContradiction h71,Decidable.byContradiction fun e=>by rw [decide_eq_true e] at h77; cases h77⟩,Bool.true_and] at hinv
         exact Qz <| ⟨k+1,⟨by omega,hinv⟩,by omega,Qb (Qa rfl rfl) (kS rfl rfl) (fun i h=>by cases h)⟩
        ·skip
         refine gR 8 rfl ?_
         rw [ch_3 hfm heq (by rw [← hinv,allZ_at hxk hyk,show sameWS x y=false from by simp only [sameWS,Bool.and_eq_false_iff,decide_eq_false_iff_not]; exact .inr (of_decide_eq_true h77)]; rfl)]
         exact rQ
      ·replace h58:=of_decide_eq_false h58
       refine gK 3 rfl ?_
       have hws:allZ sameWS lv lv2=true:=by rw [← hinv]; exact allZ_end (by omega)
       clear hinv
       refine gI 3 rfl (Qe rfl rfl (gR 3 rfl ?_))
       refine Qo (α:=Nat) (fun k=>lv.length-k) (fun k=>[(2,.ptr 2 0 0),(3,.ptr 3 0 0),(81,.rs 5 (lv.map cLf)),(82,iv (lv.length:Int)),(83,iv (((k):Nat):Int))]) (fun k=>[(2,.cells 55 3 [[.int .i64 z,.rs 5 (lv.map cLf),.rs 1 (hd.map cS)]] true),(3,.cells 55 3 [[.int .i64 z2,.rs 5 (lv2.map cLf),.rs 1 (hd2.map cS)]] true)]) (fun k=>k<=lv.length/\allZ Ur (lv.drop k) (lv2.drop k)=allZ Ur lv lv2) 0 (⟨by omega,rfl⟩)
        (Qb (Qa rfl rfl) (kS rfl rfl) (fun i h=>by cases h)) ?_
       rintro k ⟨hk,hinv⟩
       refine gT 5 rfl (Qc rfl (fun h84=>?_) (fun h84=>?_))
       ·replace h84:=of_decide_eq_true h84
        refine gK 6 rfl ?_
        obtain ⟨x,hxk,hxm⟩:=Qk (L:=lv) (k:=k) (by omega)
        obtain ⟨y,hyk,hym⟩:=Qk (L:=lv2) (k:=k) (by omega)
        refine Qi (f:=cLf) (y:=x) rfl rfl rfl (by omega) hxk (gR 0 rfl (Q8 (cs:=cLf x) rfl rfl (nL rfl) rfl (gR 9 rfl (Qi (f:=cLf) (y:=y) rfl rfl rfl (by omega) hyk (gR 0 rfl (Q8 (cs:=cLf y) rfl rfl (nL rfl) rfl (gR 7 rfl ?_)))))))
        cases h94:x.sure
        ·skip
         refine gI 8 rfl ?_
         cases h102:x.touched
         ·skip
          refine gI 10 rfl (Qf rfl rfl rfl (by omega) (gR 2 rfl ?_))
          rw [allZ_at hxk hyk,show Ur x y=true from by simp only [Ur,h94,h102]; rfl,Bool.true_and] at hinv
          exact Qz <| ⟨k+1,⟨by omega,hinv⟩,by omega,Qb (Qa rfl rfl) (kS rfl rfl) (fun i h=>by cases h)⟩
         ·skip
          refine gI 3 rfl ?_
          cases h105:y.touched
          ·skip
           refine gI 10 rfl ?_
           rw [ch_4 hfm heq hws (by rw [← hinv,allZ_at hxk hyk,show Ur x y=false from by simp only [Ur,h94,h102,h105]; rfl]; rfl)]
           exact rQ
          ·skip
           refine gI 7 rfl (Qf rfl rfl rfl (by omega) (gR 2 rfl ?_))
           rw [allZ_at hxk hyk,show Ur x y=true from by simp only [Ur,h94,h102,h105]; rfl,Bool.true_and] at hinv
           exact Qz <| ⟨k+1,⟨by omega,hinv⟩,by omega,Qb (Qa rfl rfl) (kS rfl rfl) (fun i h=>by cases h)⟩
        ·skip
         refine gI 3 rfl ?_
         cases h97:y.sure
         ·skip
          refine gI 18 rfl ?_
          rw [ch_4 hfm heq hws (by rw [← hinv,allZ_at hxk hyk,show Ur x y=false from by simp only [Ur,h94,h97]; rfl]; rfl)]
          exact rQ
         ·skip
          refine gI 5 rfl ?_
          cases h102:x.touched
          ·skip
           refine gI 10 rfl (Qf rfl rfl rfl (by omega) (gR 2 rfl ?_))
           rw [allZ_at hxk hyk,show Ur x y=true from by simp only [Ur,h94,h97,h102]; rfl,Bool.true_and] at hinv
           exact Qz <| ⟨k+1,⟨by omega,hinv⟩,by omega,Qb (Qa rfl rfl) (kS rfl rfl) (fun i h=>by cases h)⟩
          ·skip
           refine gI 3 rfl ?_
           cases h105:y.touched
           ·skip
            refine gI 10 rfl ?_
            rw [ch_4 hfm heq hws (by rw [← hinv,allZ_at hxk hyk,show Ur x y=false from by simp only [Ur,h94,h97,h102,h105]; rfl]; rfl)]
            exact rQ
           ·skip
            refine gI 7 rfl (Qf rfl rfl rfl (by omega) (gR 2 rfl ?_))
            rw [allZ_at hxk hyk,show Ur x y=true from by simp only [Ur,h94,h97,h102,h105]; rfl,Bool.true_and] at hinv
            exact Qz <| ⟨k+1,⟨by omega,hinv⟩,by omega,Qb (Qa rfl rfl) (kS rfl rfl) (fun i h=>by cases h)⟩
       ·replace h84:=of_decide_eq_false h84
        refine gK 6 rfl ?_
        rw [ch_5 hfm heq hws (by rw [← hinv]; exact allZ_end (by omega))]
        exact rQ
end Go.Proofs.YthfhaoogcpfboaaGreat
namespace Go.Proofs.YthfhaoogcpfboaaGreat
open Go.RowKit
set_option maxRecDepth 100000
set_option linter.unusedVariables false
def scs (x:Lf):List Sc:=[.i x.ix,.i x.want,.b x.sure,.b x.touched,.s (strN x.salt).toList]
theorem scs_eq {x y:Lf} (hx:B8 x.salt) (hy:B8 y.salt):(true != decide (scs x=scs y))=decide (x≠y):=by
 have h:=strN_inj hx hy
 by_cases e:x=y
 ·subst e; simp
 ·have h2:¬ scs x=scs y:=fun q=>e (by
   simp only [scs,List.cons.injEq,Sc.i.injEq,Sc.b.injEq,Sc.s.injEq,and_true] at q
   obtain ⟨h1,h2,h3,h4,h5⟩:=q
   rw [h5] at h
   have h6:x.salt=y.salt:=by simpa using h.symm
   obtain ⟨a1,a2,a3,a4,a5⟩:=x
   obtain ⟨b1,b2,b3,b4,b5⟩:=y
   simp only at h1 h2 h3 h4 h6
   rw [h1,h2,h3,h4,h6])
  simp [e,h2]
def bitB (s:Int) (k:Nat):Bool:=decide (bits .and .i64 (s.fdiv (2^min k 64)) 1=1)
def Jr (s:Int) (n:Nat):List Int:=((List.range n).filter (bitB s)).map fun (k:Nat)=>(k:Int)
theorem some_t {s:Int} {n:Nat} (h:bitB s n=true):Jr s (n+1)=Jr s n++[(n:Int)]:=by
 unfold Jr; rw [List.range_succ,List.filter_append,List.map_append]; simp [h]
theorem some_f {s:Int} {n:Nat} (h:bitB s n=false):Jr s (n+1)=Jr s n:=by
 unfold Jr; rw [List.range_succ,List.filter_append,List.map_append]; simp [h]
theorem some_len (s:Int) (n:Nat):(Jr s n).length<=n:=by
 unfold Jr; rw [List.length_map]; exact Nat.le_trans (List.length_filter_le _ _) (by simp)
def leafM (L:List Int) (k a:Nat):Lf:=⟨k,1+QQ L (XV L a) 3,decide (QQ L a 3=2),decide (QQ L a 3>0),Jl [120] (Jd k)⟩
def mkS (L:List Int):Nat->List Lf×Nat
 | 0=>([],XV L 0)
 | k+1=>((mkS L k).1++[leafM L k (mkS L k).2],XV L (XV L (mkS L k).2))
def nS (L:List Int):Nat:=1+(QQ L 0 16).toNat
def JW (L:List Int):List Lf:=(mkS L (nS L)).1
theorem mkS_len (L:List Int):∀ k,(mkS L k).1.length=k
 | 0=>rfl
 | k+1=>by show ((mkS L k).1++[_]).length=_; rw [Xo,mkS_len L k]
theorem nS_bd (L:List Int):1<=nS L/\nS L<=16:=by have:=Qv L 0 16 (by decide); unfold nS; omega
theorem nS_W (L:List Int):W (1+QQ L 0 16)=((nS L:Nat):Int):=by have:=Qv L 0 16 (by decide); rw [QU (by omega)]; unfold nS; omega
theorem leafM_ok (L:List Int) {k:Nat} (hk:k<=16) (a:Nat):(leafM L k a).OK:=by
 have:=Qv L (XV L a) 3 (by decide)
 exact ⟨show I64 (k:Int) from ⟨by omega,by omega⟩,show I64 (1+QQ L (XV L a) 3) from ⟨by omega,by omega⟩,(JA _).1,by rw [show (leafM L k a).salt.length=8 from (JA _).2]; decide⟩
theorem mkS_at (L:List Int):∀ (n k:Nat) (x:Lf),(mkS L n).1[k]?=some x->x=leafM L k (mkS L k).2
 | 0,k,x,h=>by cases h
 | n+1,k,x,h=>by
  by_cases hk:k<(mkS L n).1.length
  ·rw [show (mkS L (n+1)).1=(mkS L n).1++[leafM L n (mkS L n).2] from rfl,List.getElem?_append_left hk] at h
   exact mkS_at L n k x h
  ·rw [show (mkS L (n+1)).1=(mkS L n).1++[leafM L n (mkS L n).2] from rfl,List.getElem?_append_right (by omega)] at h
   have hkn:k=n:=by have:=mkS_len L n; have:=lt_of_at h; simp only [List.length_cons,List.length_nil] at this; omega
   subst hkn
   rw [mkS_len,Nat.sub_self] at h
   injection h with h
   exact h.symm
theorem made_ok (L:List Int):LvsOK (JW L) where
 n:=by unfold JW; rw [mkS_len]; exact nS_bd L
 ix k x h:=by rw [mkS_at L _ k x h]; rfl
 ok x hx:=by
  obtain ⟨k,hk⟩:=List.mem_iff_getElem?.1 hx
  rw [mkS_at L _ k x hk]
  have h1:=lt_of_at hk
  have h2:=nS_bd L
  unfold JW at h1
  rw [mkS_len] at h1
  exact leafM_ok L (by omega) _
def mcv14:MC:=(sq [oN 2 (.mv (.c .nils)) []] (sq [oM 8 0 [],oN 9 (.build [.nils,(iv 0)] [(0,1,8)]) [0],oN 10 (.box 83 2 9) [1],oM 3 10 [2,0,1,2]] (sq [oM 11 3 [],oC 12 46 [11,(cI 16)] [0],oB 13 .add (cI 1) 12 [1],oM 4 13 [2,1,0,1,2]] (sq [oN 5 (.mv (.c .nils)) []] (.seq (sq [oN 6 (.mv (cI 0)) []] (.block 0 (.loop (.seq (sq [oM 14 6 [],oM 15 4 [],oB 16 .lss 14 15 [0,1]] (.cond 16 .skip (.exit 0))) (.seq (.block 1 (sq [oM 19 3 [],oC 20 46 [19,(cI 3)] [0],oM 7 20 [1,1,0,1]] (rg [oM 21 5 [],oM 22 6 [],oM 23 3 [],oC 24 46 [23,(cI 3)] [2],oB 25 .add (cI 1) 24 [3],oM 26 7 [],oB 27 .eql 26 (cI 2) [5],oM 28 7 [],oB 29 .gtr 28 (cI 0) [7],oM 30 6 [],oC 31 38 [30] [9,3],oC 32 59 [(.c (.str (strN [120]))),31] [10,10],oN 33 (.build [(iv 0),(iv 0),(.bool false),(.bool false),(.str (strN []))] [(0,1,22),(1,1,25),(2,1,27),(3,1,29),(4,1,32)]) [1,4,6,8,11],oN 34 (.bslice 51 5 [(iv 0),(iv 0),(.bool false),(.bool false),(.str (strN []))] 1 [(0,33)]) [12],oN 35 (.app 51 5 40 [(iv 0),(iv 0),(.bool false),(.bool false),(.str (strN []))] 21 34) [0,13,11],oM 5 35 (14::14::up 15)]))) (rg [oM 17 6 [],oB 18 .add 17 (cI 1) [0],oM 6 18 [1,0,1]])))))) (sq [oM 36 5 [],oM 2 36 [0,0]] .ret))))))
theorem mcOkv14:okM Tryz.prog Tryz.f14 37=some mcv14:=by kernel_rfl
theorem vc14 (L:List Int) (hL:L.length<=4611686018427387904):FC Tryz.prog 14 [ints L] [] (.rs 5 ((JW L).map cLf)) [] false:=by
 have hnb:=nS_bd L
 refine Qg (nt:=37) Tryz.func14 rfl rfl mcOkv14 (nL rfl) ?_
 delta mcv14
 refine gA 14 rfl (Qr [(10,QL 83 L (0))] rfl rfl (fc35 10 83 L (0) 16 (by decide) hL) (.cons (Qd rfl) (.cons (Qd rfl) (.nil))) (.cons rfl (.nil)) rfl rfl rfl (gR 0 rfl (QS rfl rfl rfl (nS_W L) (gR 12 rfl ?_))))
 refine Qo (α:=Nat) (fun k=>nS L-k) (fun k=>[(3,.ptr 10 0 0),(4,iv ((nS L:Nat):Int)),(5,.sl 1005 0 (k)),(6,iv (((k):Nat):Int))]) (fun k=>[(10,QL 83 L (mkS L (k)).2),(1005,.cells 51 5 (((mkS L (k)).1).map cLf) true)]) (fun k=>k<=nS L) 0 (by omega)
  (show Weak _ _ _ _ [(3,.ptr 10 0 0),(4,iv ((nS L:Nat):Int)),(5,.sl 1005 0 (0)),(6,iv (((0):Nat):Int))] [(10,QL 83 L (XV L 0)),(1005,.cells 51 5 [] true)] from Qb (.cs (.cs (.cons rfl (Xj rfl rfl) (.cs (.nil))))) (.keep (rfl) rfl (.virt rfl (.nil))) (fun i h=>by cases h)) ?_
 intro k hk
 refine gT 7 rfl (Qc rfl (fun h16=>?_) (fun h16=>?_))
 ·replace h16:=of_decide_eq_true h16
  refine gK 6 rfl ?_
  have hv3:=Qv L (XV L (mkS L k).2) 3 (by decide)
  refine Qr [(10,QL 83 L ((mkS L k).2))] rfl rfl (fc35 10 83 L ((mkS L k).2) 3 (by decide) hL) (.cons (Qd rfl) (.cons (Qd rfl) (.nil))) (.cons rfl (.nil)) rfl rfl rfl (gR 6 rfl (Qr [(10,QL 83 L (XV L (mkS L k).2))] rfl rfl (fc35 10 83 L (XV L (mkS L k).2) 3 (by decide) hL) (.cons (Qd rfl) (.cons (Qd rfl) (.nil))) (.cons rfl (.nil)) rfl rfl rfl (gR 0 rfl (Qf rfl rfl rfl (by omega) (gR 1 rfl (Ub rfl rfl rfl (gR 1 rfl (Ua rfl rfl rfl (gR 1 rfl (cN rfl rfl (vc38 (k:Int) ⟨by omega,by omega⟩) (gR 0 rfl ?_)))))))))))
  refine cN rfl rfl (vc59 [120] (Jd (k:Int)) ⟨b8_c,by decide⟩ ⟨vint_8 _,Nat.le_trans (Xl _) (by decide)⟩) (gR 1 rfl (bM cLf (([leafM L k (mkS L k).2]:List Lf)) (by kernel_rfl) (gR 0 rfl (Qq (f:=cLf) (xs:=(mkS L k).1) (y:=leafM L k (mkS L k).2) (fl':=true) rfl rfl rfl rfl (mkS_len L k) rfl rfl rfl (by decide) rfl (by omega) (by omega) rfl (gR 4 rfl (Qf rfl rfl rfl (by omega) (gR 2 rfl ?_)))))))
  exact Qz <| ⟨k+1,by omega,by omega,wR 35 1005 (Qa rfl rfl) (kS rfl rfl) rfl⟩
 ·replace h16:=of_decide_eq_false h16
  refine gK 7 rfl ?_
  obtain rfl:k=nS L:=by omega
  exact Qt <| Ql rfl (Q5 (f:=cLf) (xs:=JW L) rfl rfl (mkS_len _ _) (fun _=>rfl)) .nil
def mcv21:MC:=(sq [oN 4 (.mv (.c .nils)) []] (sq [oN 5 (.mv (.c .nils)) []] (.seq (sq [oN 6 (.mv (cI 0)) []] (.block 0 (.loop (.seq (sq [oM 7 6 [],oM 8 1 [],oB 9 .lss 7 8 [0,1]] (.cond 9 .skip (.exit 0))) (.seq (.block 1 (sq [oM 12 0 [],oM 13 6 [],oB 14 .shr 12 13 [0,1],oB 15 .and 14 (cI 1) [2],oB 16 .eql 15 (cI 1) [3]] (.cond 16 (rg [oM 17 5 [],oM 18 6 [],oN 19 (.bslice 3 1 [(iv 0)] 1 [(0,18)]) [1],oN 20 (.app 3 1 8 [(iv 0)] 17 19) [0,2],oM 5 20 (3::3::up 4)]) .skip))) (rg [oM 10 6 [],oB 11 .add 10 (cI 1) [0],oM 6 11 [1,0,1]])))))) (sq [oM 21 5 [],oM 4 21 [0,0]] .ret))))
theorem mcOkv21:okM Tryz.prog Tryz.f21 22=some mcv21:=by kernel_rfl
theorem vc21 (s:Int) (n:Nat) (hn:n<=64):FC Tryz.prog 21 [iv s,iv (n:Int)] [] (.rs 1 ((Jr s n).map civ)) [] false:=by
 refine Qg (nt:=22) Tryz.func21 rfl rfl mcOkv21 (nL rfl) ?_
 delta mcv21
 refine gA 14 rfl ?_
 refine Qo (α:=Nat) (fun k=>n-k) (fun k=>[(0,iv s),(1,iv (n:Int)),(5,.sl 1005 0 (Jr s (k)).length),(6,iv (((k):Nat):Int))]) (fun k=>[(1005,.cells 3 1 ((Jr s (k)).map civ) true)]) (fun k=>k<=n) 0 (by omega)
  (show Weak _ _ _ _ [(0,iv s),(1,iv (n:Int)),(5,.sl 1005 0 0),(6,iv ((0:Nat):Int))] [(1005,.cells 3 1 [] true)] from Qb (.cs (.cs (.cons rfl (Xj rfl rfl) (.cs (.nil))))) (.virt rfl (.nil)) (fun i h=>by cases h)) ?_
 intro k hk
 refine gT 7 rfl (Qc rfl (fun h9=>?_) (fun h9=>?_))
 ·replace h9:=of_decide_eq_true h9
  refine gK 5 rfl ?_
  have hsl:=some_len s k
  refine gI 2 rfl (Jt rfl rfl rfl (by omega) rfl (gR 0 rfl (rs_and rfl rfl rfl rfl (gR 0 rfl (Ub rfl rfl rfl (gR 1 rfl (Qc rfl (fun h16=>?_) (fun h16=>?_))))))))
  ·replace h16:=of_decide_eq_true h16
   refine gK 3 rfl (bM civ (([(k:Int)]:List Int)) (by kernel_rfl) (gR 0 rfl (Qq (f:=civ) (xs:=Jr s k) (y:=(k:Int)) (fl':=true) rfl rfl rfl rfl (rfl) rfl rfl rfl (by decide) rfl (by omega) (by omega) rfl (gR 4 rfl (Qf rfl rfl rfl (by omega) (gR 2 rfl ?_))))))
   have hb:bitB s k=true:=decide_eq_true h16
   have e:=some_t hb
   have e2:(Jr s (k+1)).length=(Jr s k).length+1:=by rw [e,Xo]
   exact Qz <| ⟨k+1,by omega,by omega,by rw [e2,e]; exact QB (i:=20) (i':=1005) (F1:=[(0,iv s),(1,iv (n:Int)),(5,.sl 20 0 ((Jr s k).length+1)),(6,iv (((k+1):Nat):Int))]) (H1:=[(20,.cells 3 1 ((Jr s k++[(k:Int)]).map civ) true)]) (Qa rfl rfl) (.keep rfl rfl .nil) nz rfl rfl (.cons rfl (.same _) (.cons rfl (.same _) (.cons rfl (.sl _ _) (.cons rfl (.same _) (.nil))))) (Qa rfl rfl) (.keep rfl rfl .nil) nz⟩
  ·replace h16:=of_decide_eq_false h16
   refine gK 3 rfl (Qf rfl rfl rfl (by omega) (gR 2 rfl ?_))
   have hb:bitB s k=false:=decide_eq_false h16
   have e:=some_f hb
   exact Qz <| ⟨k+1,by omega,by omega,by rw [e]; exact Qb (Qa rfl rfl) (.keep rfl rfl .nil) nz⟩
 ·replace h9:=of_decide_eq_false h9
  refine gK 7 rfl ?_
  obtain rfl:k=n:=by omega
  exact Qt <| Ql rfl (Q5 rfl rfl rfl (fun _=>rfl)) .nil
def mcv31:MC:=(sq [oN 1 (.box 55 3 0) [],oN 2 (.alloc 55 3 [(iv 0),.nils,.nils]) []] (dq [oA 3 0 1 [],oD 4 1 3 [0],oN 5 (.bslice 51 5 [(iv 0),(iv 0),(.bool false),(.bool false),(.str (strN []))] 0 []) [],oA 6 1 1 [],oD 7 1 6 [3],oN 8 (.app 51 5 40 [(iv 0),(iv 0),(.bool false),(.bool false),(.str (strN []))] 5 7) [2,4],oN 9 (.bslice 9 1 [(.str (strN []))] 0 []) [],oA 10 2 1 [],oD 11 1 10 [7],oN 12 (.app 9 1 16 [(.str (strN []))] 9 11) [6,8,5],oN 13 (.build [(iv 0),.nils,.nils] [(0,1,4),(1,1,8),(2,1,12)]) [1,5,9],oS 3 2 13 (10::9::up 11)] .ret))
theorem mcOkv31:okM Tryz.prog Tryz.f31 14=some mcv31:=by kernel_rfl
theorem vc31 (z:Int) (lv:List Lf) (hd:List (List Int)) (hlv:lv.length<=64) (hhd:hd.length<=64):FC Tryz.prog 31 [.agg [.int .i64 z,.rs 5 (lv.map cLf),.rs 1 (hd.map cS)]] [] (.agg [.int .i64 z,.sl 8 0 lv.length,.sl 12 0 hd.length]) [(8,.cells 51 5 (lv.map cLf) true),(12,.cells 9 1 (hd.map cS) true)] false:=by
 refine Qg (nt:=14) Tryz.func31 rfl rfl mcOkv31 (nL rfl) ?_
 delta mcv31
 refine gA 9 rfl (bT (l:=[]) (els:=[]) (by kernel_rfl) (gR 2 rfl (XO (f:=cLf) (ys:=lv) (n:=lv.length) (rd:=[]) rfl rfl rfl rfl rfl rfl rfl (by simp) (fun _=>rfl) rfl (by omega) (by omega) (fun _=>rfl) (gR 0 rfl (bT (l:=[]) (els:=[]) (by kernel_rfl) (gR 2 rfl (XO (f:=cS) (ys:=hd) (n:=hd.length) (rd:=[]) rfl rfl rfl rfl rfl rfl rfl (by simp) (fun _=>rfl) rfl (by omega) (by omega) (fun _=>rfl) (gR 2 rfl (Q9 (by kernel_rfl) (gP 1 rfl ?_))))))))))
 exact Qt <| Ql rfl (Qs rfl (.inr rfl)) (.keep rfl rfl (Jg (fun _=>rfl) lv) (.keep rfl rfl (Jg (fun _=>rfl) hd) .nil))
def mcv34:MC:=(sq [oN 4 (.mv (.c (.bool false))) []] (.seq (sq [oM 6 0 [],oE 7 6 [0],oM 8 1 [],oE 9 8 [2],oB 10 .neq 7 9 [1,3]] (.cond 10 (sq [oN 4 (.mv (.c (.bool false))) []] .ret) .skip)) (.seq (sq [oN 5 (.mv (cI 0)) []] (.block 0 (.loop (.seq (sq [oM 11 5 [],oM 12 0 [],oE 13 12 [1],oB 14 .lss 11 13 [0,2]] (.cond 14 .skip (.exit 0))) (.seq (.block 1 (dq [oM 17 0 [],oM 18 5 [],oX 19 1 17 18 [0,1],oD 20 1 19 [2],oM 21 1 [],oM 22 5 [],oX 23 1 21 22 [4,5],oD 24 1 23 [6],oN 25 (.seq true 20 24) [3,7]] (.cond 25 (sq [oN 4 (.mv (.c (.bool false))) []] .ret) .skip))) (rg [oM 15 5 [],oB 16 .add 15 (cI 1) [0],oM 5 16 [1,0,1]])))))) (sq [oN 4 (.mv (.c (.bool true))) []] .ret))))
theorem mcOkv34:okM Tryz.prog Tryz.f34 26=some mcv34:=by kernel_rfl
theorem vc34 (a b:List (List Int)) (ha:∀ d∈a,B8 d) (hb:∀ d∈b,B8 d) (han:a.length<=4611686018427387904):FC Tryz.prog 34 [.rs 1 (a.map cS),.rs 1 (b.map cS)] [] (.bool (decide (a=b))) [] false:=by
 refine Qg (nt:=26) Tryz.func34 rfl rfl mcOkv34 (nL rfl) ?_
 delta mcv34
 refine gA 8 rfl (Qe rfl rfl (gR 1 rfl (Qe rfl rfl (gR 0 rfl (Xv rfl rfl rfl (gR 1 rfl (Qc rfl (fun h10=>?_) (fun h10=>?_))))))))
 ·replace h10:=of_decide_eq_true h10
  refine gK 5 rfl ?_
  rw [show decide (a=b)=false from decide_eq_false (fun e=>h10 (by rw [e]))]
  exact rQ
 ·replace h10:=of_decide_eq_false h10
  refine gK 7 rfl ?_
  refine Qo (α:=Nat) (fun k=>a.length-k) (fun k=>[(0,.rs 1 (a.map cS)),(1,.rs 1 (b.map cS)),(5,iv (((k):Nat):Int))]) (fun k=>[]) (fun k=>k<=a.length/\a.take k=b.take k) 0 (⟨by omega,rfl⟩)
   (Qb (Qa rfl rfl) (.nil) (fun i h=>by cases h)) ?_
  rintro k ⟨hk,hinv⟩
  refine gT 5 rfl (Qe rfl rfl (gR 2 rfl (Qc rfl (fun h14=>?_) (fun h14=>?_))))
  ·replace h14:=of_decide_eq_true h14
   refine gK 5 rfl ?_
   obtain ⟨x,hxk,hxm⟩:=Qk (L:=a) (k:=k) (by omega)
   obtain ⟨y,hyk,hym⟩:=Qk (L:=b) (k:=k) (by omega)
   refine gI 2 rfl (Qi (f:=cS) (y:=x) rfl rfl rfl (by omega) hxk (gR 3 rfl (Qi (f:=cS) (y:=y) rfl rfl rfl (by omega) hyk (gR 1 rfl (rs_seq (r:=decide (x≠y)) rfl rfl rfl (ha x hxm) (hb y hym) (by by_cases e:x=y <;> simp [e]) (gR 0 rfl (Q9 (by kernel_rfl) (gP 0 rfl (Qc rfl (fun h25=>?_) (fun h25=>?_))))))))))
   ·replace h25:=of_decide_eq_true h25
    refine gK 5 rfl ?_
    rw [show decide (a=b)=false from decide_eq_false (eq_hit hxk hyk h25)]
    exact rQ
   ·replace h25:=of_decide_eq_false h25
    refine gK 3 rfl (Qf rfl rfl rfl (by omega) (gR 2 rfl ?_))
    exact Qz <| ⟨k+1,⟨by omega,eq_step hinv hxk hyk (Decidable.byContradiction h25)⟩,by omega,Qb (Qa rfl rfl) (.nil) (fun i h=>by cases h)⟩
  ·replace h14:=of_decide_eq_false h14
   refine gK 6 rfl ?_
   rw [show decide (a=b)=true from decide_eq_true (eq_end hinv (by omega) (by omega))]
   exact rQ
def mcv18:MC:=(sq [oN 4 (.mv (.c (.bool false))) []] (.seq (sq [oM 6 0 [],oE 7 6 [0],oM 8 1 [],oE 9 8 [2],oB 10 .neq 7 9 [1,3]] (.cond 10 (sq [oN 4 (.mv (.c (.bool false))) []] .ret) .skip)) (.seq (sq [oN 5 (.mv (cI 0)) []] (.block 0 (.loop (.seq (sq [oM 11 5 [],oM 12 0 [],oE 13 12 [1],oB 14 .lss 11 13 [0,2]] (.cond 14 .skip (.exit 0))) (.seq (.block 1 (dq [oM 17 0 [],oM 18 5 [],oX 19 5 17 18 [0,1],oL 20 5 19 [2],oM 21 1 [],oM 22 5 [],oX 23 5 21 22 [4,5],oL 24 5 23 [6],oN 25 (.aeqx true [0,0,1,1,2] 20 24) [3,7]] (.cond 25 (sq [oN 4 (.mv (.c (.bool false))) []] .ret) .skip))) (rg [oM 15 5 [],oB 16 .add 15 (cI 1) [0],oM 5 16 [1,0,1]])))))) (sq [oN 4 (.mv (.c (.bool true))) []] .ret))))
theorem mcOkv18:okM Tryz.prog Tryz.f18 26=some mcv18:=by kernel_rfl
theorem vc18 (a b:List Lf) (ha:∀ d∈a,B8 d.salt) (hb:∀ d∈b,B8 d.salt) (han:a.length<=4611686018427387904):FC Tryz.prog 18 [.rs 5 (a.map cLf),.rs 5 (b.map cLf)] [] (.bool (decide (a=b))) [] false:=by
 refine Qg (nt:=26) Tryz.func18 rfl rfl mcOkv18 (nL rfl) ?_
 delta mcv18
 refine gA 8 rfl (Qe rfl rfl (gR 1 rfl (Qe rfl rfl (gR 0 rfl (Xv rfl rfl rfl (gR 1 rfl (Qc rfl (fun h10=>?_) (fun h10=>?_))))))))
 ·replace h10:=of_decide_eq_true h10
  refine gK 5 rfl ?_
  rw [show decide (a=b)=false from decide_eq_false (fun e=>h10 (by rw [e]))]
  exact rQ
 ·replace h10:=of_decide_eq_false h10
  refine gK 7 rfl ?_
  refine Qo (α:=Nat) (fun k=>a.length-k) (fun k=>[(0,.rs 5 (a.map cLf)),(1,.rs 5 (b.map cLf)),(5,iv (((k):Nat):Int))]) (fun k=>[]) (fun k=>k<=a.length/\a.take k=b.take k) 0 (⟨by omega,rfl⟩)
   (Qb (Qa rfl rfl) (.nil) (fun i h=>by cases h)) ?_
  rintro k ⟨hk,hinv⟩
  refine gT 5 rfl (Qe rfl rfl (gR 2 rfl (Qc rfl (fun h14=>?_) (fun h14=>?_))))
  ·replace h14:=of_decide_eq_true h14
   refine gK 5 rfl ?_
   obtain ⟨x,hxk,hxm⟩:=Qk (L:=a) (k:=k) (by omega)
   obtain ⟨y,hyk,hym⟩:=Qk (L:=b) (k:=k) (by omega)
   refine gI 2 rfl (Qi (f:=cLf) (y:=x) rfl rfl rfl (by omega) hxk (gR 0 rfl (Q8 (cs:=cLf x) rfl rfl (nL rfl) rfl (gR 2 rfl (Qi (f:=cLf) (y:=y) rfl rfl rfl (by omega) hyk (gR 0 rfl (Q8 (cs:=cLf y) rfl rfl (nL rfl) rfl (gR 0 rfl (rs_aeqx (scs x) (scs y) rfl rfl rfl rfl rfl rfl rfl (scs_eq (ha x hxm) (hb y hym)) (gR 0 rfl (Q9 (by kernel_rfl) ?_)))))))))))
   refine gP 0 rfl (Qc rfl (fun h25=>?_) (fun h25=>?_))
   ·replace h25:=of_decide_eq_true h25
    refine gK 5 rfl ?_
    rw [show decide (a=b)=false from decide_eq_false (eq_hit hxk hyk h25)]
    exact rQ
   ·replace h25:=of_decide_eq_false h25
    refine gK 3 rfl (Qf rfl rfl rfl (by omega) (gR 2 rfl ?_))
    exact Qz <| ⟨k+1,⟨by omega,eq_step hinv hxk hyk (Decidable.byContradiction h25)⟩,by omega,Qb (Qa rfl rfl) (.nil) (fun i h=>by cases h)⟩
  ·replace h14:=of_decide_eq_false h14
   refine gK 6 rfl ?_
   rw [show decide (a=b)=true from decide_eq_true (eq_end hinv (by omega) (by omega))]
   exact rQ
end Go.Proofs.YthfhaoogcpfboaaGreat
namespace Go.Proofs.YthfhaoogcpfboaaGreat
open Go.RowKit
set_option maxRecDepth 100000
set_option linter.unusedVariables false
def mcv24:MC:=(sq [oN 2 (.box 55 3 0) [],oN 3 (.box 55 3 1) [],oN 4 (.mv (.c (.bool false))) []] (sq [oA 5 0 2 [],oD 6 1 5 [0],oA 7 0 3 [],oD 8 1 7 [2],oB 9 .eql 6 8 [1,3],oM 10 9 [4],pA 11 1 2 10 true [5],pD 12 1 11 10 true [6,5],pA 13 1 3 10 true [5],pD 14 1 13 10 true [8,5],oG 15 (.call 18 [12,14]) 10 true [7,9,5,5],oN 16 (.pick 10 15 (.c (.bool false))) [5,10],oM 17 16 [11,10],pA 18 2 2 17 true [12],pD 19 1 18 17 true [13,12],pA 20 2 3 17 true [12],pD 21 1 20 17 true [15,12],oG 22 (.call 34 [19,21]) 17 true [14,16,12,12],oN 23 (.pick 17 22 (.c (.bool false))) [12,17],oM 4 23 (18::17::up 19)] .ret))
theorem mcOkv24:okM Tryz.prog Tryz.f24 24=some mcv24:=by kernel_rfl
theorem vc24 (z:Int) (lv:List Lf) (hd:List (List Int)) (h:ShOK lv hd) (z2:Int) (lv2:List Lf) (hd2:List (List Int)) (h2:ShOK lv2 hd2):FC Tryz.prog 24 [.agg [.int .i64 z,.rs 5 (lv.map cLf),.rs 1 (hd.map cS)],.agg [.int .i64 z2,.rs 5 (lv2.map cLf),.rs 1 (hd2.map cS)]] [] (.bool (decide ((⟨z,lv,hd⟩:Shn)=⟨z2,lv2,hd2⟩))) [] false:=by
 have hnl:=h.nl
 have hnh:=h.nh
 refine Qg (nt:=24) Tryz.func24 rfl rfl mcOkv24 (nL rfl) ?_
 delta mcv24
 refine gA 12 rfl (Qx rfl rfl rfl rfl (fun h9=>?_) (fun h9=>?_))
 ·skip
  refine gR 5 rfl (cN rfl rfl (vc18 lv lv2 (fun x hx=>(h.ok x hx).b) (fun x hx=>(h2.ok x hx).b) (by omega)) ?_)
  cases h15:decide (lv=lv2)
  ·skip
   refine gR 11 rfl ?_
   rw [show decide ((⟨z,lv,hd⟩:Shn)=⟨z2,lv2,hd2⟩)=false from decide_eq_false (fun e=>by injection e with e1 e2 e3; rw [decide_eq_true e2] at h15; cases h15)]
   exact rQ
  ·skip
   refine gR 6 rfl (cN rfl rfl (vc34 hd hd2 (fun d hd=>(h.b d hd).1) (fun d hd=>(h2.b d hd).1) (by omega)) ?_)
   cases h22:decide (hd=hd2)
   ·skip
    refine gR 4 rfl ?_
    rw [show decide ((⟨z,lv,hd⟩:Shn)=⟨z2,lv2,hd2⟩)=false from decide_eq_false (fun e=>by injection e with e1 e2 e3; rw [decide_eq_true e3] at h22; cases h22)]
    exact rQ
   ·skip
    refine gR 4 rfl ?_
    rw [show decide ((⟨z,lv,hd⟩:Shn)=⟨z2,lv2,hd2⟩)=true from decide_eq_true (by rw [h9,of_decide_eq_true h15,of_decide_eq_true h22])]
    exact rQ
 ·skip
  refine gR 17 rfl ?_
  rw [show decide ((⟨z,lv,hd⟩:Shn)=⟨z2,lv2,hd2⟩)=false from decide_eq_false (fun e=>by injection e with e1 e2 e3; exact h9 e1)]
  exact rQ
end Go.Proofs.YthfhaoogcpfboaaGreat
namespace Go.Proofs.YthfhaoogcpfboaaGreat
open Go.RowKit
set_option maxRecDepth 100000
set_option linter.unusedVariables false
structure Pl where
 n:V3
 b:Int
deriving DecidableEq
structure Pt where
 x:Int
 y:Int
 z:Int
 w:Int
deriving DecidableEq
abbrev cPl (p:Pl):List AV:=[.int .i64 p.n.x,.int .i64 p.n.y,.int .i64 p.n.z,.int .i64 p.b]
abbrev cPt (p:Pt):List AV:=[.int .i64 p.x,.int .i64 p.y,.int .i64 p.z,.int .i64 p.w]
abbrev c12 (p q r:Pl):List AV:=[.int .i64 p.n.x,.int .i64 p.n.y,.int .i64 p.n.z,.int .i64 p.b,.int .i64 q.n.x,.int .i64 q.n.y,.int .i64 q.n.z,.int .i64 q.b,.int .i64 r.n.x,.int .i64 r.n.y,.int .i64 r.n.z,.int .i64 r.b]
def QK (v:V3) (n:Int):V3:=⟨W (v.x*n),W (v.y*n),W (v.z*n)⟩
def Ud (p:Pl) (x:Pt):Int:=W (W (p.b*x.w)-dotW p.n ⟨x.x,x.y,x.z⟩)
def outB (x:Pt) (p:Pl):Bool:=decide (Ud p x<0)
def inB (p:Pl) (x:Pt):Bool:=decide (Ud p x>0)
def XU (r:List Pl) (x:Pt):Bool := !r.any (outB x)
def sumS (p q r:Pl):Nat->V3
 | 0=>⟨0,0,0⟩
 | 1=>Un ⟨0,0,0⟩ (QK (Q6 q.n r.n) p.b)
 | 2=>Un (Un ⟨0,0,0⟩ (QK (Q6 q.n r.n) p.b)) (QK (Q6 r.n p.n) q.b)
 | _=>Un (Un (Un ⟨0,0,0⟩ (QK (Q6 q.n r.n) p.b)) (QK (Q6 r.n p.n) q.b)) (QK (Q6 p.n q.n) r.b)
def wdS (p q r:Pl):Nat->Int
 | 0=>0
 | 1=>dotW p.n (Q6 q.n r.n)
 | 2=>dotW q.n (Q6 r.n p.n)
 | _=>dotW r.n (Q6 p.n q.n)
def Xk (p q r:Pl):V3:=sumS p q r 3
def wd3 (p q r:Pl):Int:=wdS p q r 3
def g3 (p q r:Pl):Int:=if wd3 p q r<0 then -(gL [(Xk p q r).x,(Xk p q r).y,(Xk p q r).z,wd3 p q r]:Int) else (gL [(Xk p q r).x,(Xk p q r).y,(Xk p q r).z,wd3 p q r]:Int)
def mtP (p q r:Pl):Pt:=⟨W ((Xk p q r).x.tdiv (g3 p q r)),W ((Xk p q r).y.tdiv (g3 p q r)),W ((Xk p q r).z.tdiv (g3 p q r)),W ((wd3 p q r).tdiv (g3 p q r))⟩
def okT (p q r:Pl):Bool:=[(Xk p q r).x,(Xk p q r).y,(Xk p q r).z,wd3 p q r].all fun n=>decide (-1000000000000000<=n/\n<=1000000000000000)
theorem okT_all {p q r:Pl} (h:okT p q r=true):∀ x∈[(Xk p q r).x,(Xk p q r).y,(Xk p q r).z,wd3 p q r],-1000000000000000<=x/\x<=1000000000000000:=fun x hx=>of_decide_eq_true (List.all_eq_true.1 h x hx)
theorem gcd_st2 (a b:Int) (h:b≠0):Nat.gcd b.natAbs (a.tmod b).natAbs=Nat.gcd a.natAbs b.natAbs:=by
 rw [Int.natAbs_tmod,Nat.gcd_comm a.natAbs,Nat.gcd_rec b.natAbs a.natAbs,Nat.gcd_comm]
theorem tmod_lt (a b:Int) (h:b≠0):(a.tmod b).natAbs<b.natAbs:=by
 rw [Int.natAbs_tmod]; exact Nat.mod_lt _ (by omega)
theorem gL_pos {l:List Int} {x:Int} (h:x∈l) (hx:x≠0):0<gL l:=by
 have key:∀ (l:List Int) (g:Nat),(0<g\/∃ x∈l,x≠0)->0<l.foldl (fun g n=>Nat.gcd g n.natAbs) g:=by
  intro l
  induction l with
  | nil=>intro g h; exact h.elim id fun ⟨x,hx,_⟩=>by cases hx
  | cons a l ih =>
   intro g h
   rw [List.foldl_cons]
   refine ih _ ?_
   by_cases ha:a=0
   ·rcases h with h | ⟨x,hx,h0⟩
    ·exact .inl (Nat.gcd_pos_of_pos_left _ h)
    ·rcases List.mem_cons.1 hx with rfl | hx
     ·exact absurd ha h0
     ·exact .inr ⟨x,hx,h0⟩
   ·exact .inl (Nat.gcd_pos_of_pos_right _ (by omega))
 exact key l 0 (.inr ⟨x,h,hx⟩)
theorem gL_le {l:List Int} {x:Int} {m:Nat} (h:x∈l) (hx:x≠0) (hm:x.natAbs<=m):gL l<=m:=by
 have key:∀ (l:List Int) (g:Nat),(l.foldl (fun g n=>Nat.gcd g n.natAbs) g) ∣ g/\∀ x∈l,(l.foldl (fun g n=>Nat.gcd g n.natAbs) g) ∣ x.natAbs:=by
  intro l
  induction l with
  | nil=>intro g; exact ⟨Nat.dvd_refl _,fun x hx=>by cases hx⟩
  | cons a l ih =>
   intro g
   obtain ⟨h1,h2⟩:=ih (Nat.gcd g a.natAbs)
   rw [List.foldl_cons]
   refine ⟨Nat.dvd_trans h1 (Nat.gcd_dvd_left _ _),fun x hx=>?_⟩
   rcases List.mem_cons.1 hx with rfl | hx
   ·exact Nat.dvd_trans h1 (Nat.gcd_dvd_right _ _)
   ·exact h2 x hx
 exact Nat.le_trans (Nat.le_of_dvd (by omega) ((key l 0).2 x h)) hm
def mcv211:MC:=(sq [oN 2 (.box 88 3 0) [],oN 4 (.alloc 88 3 (iz 3)) []] (sq [oA 5 0 2 [],oD 6 1 5 [0],oM 7 1 [],oB 8 .mul 6 7 [1,2],oA 9 1 2 [],oD 10 1 9 [4],oM 11 1 [],oB 12 .mul 10 11 [5,6],oA 13 2 2 [],oD 14 1 13 [8],oM 15 1 [],oB 16 .mul 14 15 [9,10],oN 17 (.build (iz 3) [(0,1,8),(1,1,12),(2,1,16)]) [3,7,11],oS 3 4 17 (12::up 13)] .ret))
theorem mcOkv211:okM Tryz.prog Tryz.f211 18=some mcv211:=by kernel_rfl
theorem vc211 (v:V3) (n:Int):FC Tryz.prog 211 [aV v,iv n] [] (aV (QK v n)) [] false:=by
 refine Qg (nt:=18) Tryz.func211 rfl rfl mcOkv211 (nL rfl) ?_
 delta mcv211
 refine gA 10 rfl (Q4 rfl rfl rfl rfl (gR 3 rfl (Q4 rfl rfl rfl rfl (gR 3 rfl (Q4 rfl rfl rfl rfl (gR 4 rfl ?_))))))
 exact rQ
def mcv166:MC:=(sq [oN 2 (.box 90 4 0) [],oN 3 (.box 174 4 1) [],oN 4 (.mv (cI 0)) []] (dq [oA 5 3 2 [],oD 6 1 5 [0],oA 7 3 3 [],oD 8 1 7 [2],oB 9 .mul 6 8 [1,3],oA 10 0 2 [],oL 11 3 10 [5],oA 12 0 3 [],oD 13 1 12 [7],oA 14 1 3 [],oD 15 1 14 [9],oA 16 2 3 [],oD 17 1 16 [11],oN 18 (.build (iz 3) [(0,1,13),(1,1,15),(2,1,17)]) [8,10,12],oC 19 190 [11,18] [6,13],oB 20 .sub 9 19 [4,14],oM 4 20 (15::14::up 16)] .ret))
theorem mcOkv166:okM Tryz.prog Tryz.f166 21=some mcv166:=by kernel_rfl
theorem vc166 (p:Pl) (x:Pt):FC Tryz.prog 166 [.agg (cPl p),.agg (cPt x)] [] (iv (Ud p x)) [] false:=by
 refine Qg (nt:=21) Tryz.func166 rfl rfl mcOkv166 (nL rfl) ?_
 delta mcv166
 refine gA 12 rfl (Q4 rfl rfl rfl rfl (gR 9 rfl (cN rfl rfl (fc30 p.n ⟨x.x,x.y,x.z⟩) (gR 0 rfl (Xt rfl rfl rfl rfl (gR 1 rfl (Q9 (by kernel_rfl) (gP 1 rfl ?_))))))))
 exact rQ
def mcv213:MC:=(sq [oN 2 (.box 90 4 0) [],oN 3 (.mv (.c (.bool false))) []] (sq [oL 4 4 2 [],oL 5 4 1 [],oC 6 166 [4,5] [0,1],oB 7 .lss 6 (cI 0) [2],oM 3 7 (3::2::up 4)] .ret))
theorem mcOkv213:okM Tryz.prog Tryz.f213 8=some mcv213:=by kernel_rfl
theorem vc213 (x:Pt) (p:Pl):FC Tryz.prog 213 [.agg (cPl p),.rp (cPt x)] [] (.bool (outB x p)) [] false:=by
 refine Qg (nt:=8) Tryz.func213 rfl rfl mcOkv213 (nL rfl) ?_
 delta mcv213
 refine gA 9 rfl (cN rfl rfl (vc166 p x) (gR 4 rfl ?_))
 exact rQ
def mcv165:MC:=(sq [oN 2 (.box 174 4 0) [],oN 3 (.mv (.c (.bool false))) []] (sq [oL 4 4 1 [],oL 5 4 2 [],oC 6 166 [4,5] [0,1],oB 7 .gtr 6 (cI 0) [2],oM 3 7 (3::2::up 4)] .ret))
theorem mcOkv165:okM Tryz.prog Tryz.f165 8=some mcv165:=by kernel_rfl
theorem vc165 (p:Pl) (x:Pt):FC Tryz.prog 165 [.agg (cPt x),.rp (cPl p)] [] (.bool (inB p x)) [] false:=by
 refine Qg (nt:=8) Tryz.func165 rfl rfl mcOkv165 (nL rfl) ?_
 delta mcv165
 refine gA 9 rfl (cN rfl rfl (vc166 p x) (gR 0 rfl (Ua rfl rfl rfl (gR 3 rfl ?_))))
 exact rQ
def mcv181:MC:=(sq [oN 4 (.mv (cI 0)) []] (.seq (sq [oM 6 0 [],oE 7 6 [0],oN 8 (.mv (cI 0)) []] (.block 0 (.loop (sq [oB 9 .lss 8 7 []] (.seq (.cond 9 .skip (.exit 0)) (.seq (.block 1 (sq [oM 10 8 [],oM 5 10 [0,0]] (sq [oM 11 1 [],oM 12 0 [],oM 13 5 [],oX 14 4 12 13 [1,2],oL 15 4 14 [3],oN 16 (.callv 11 [15]) [0,4]] (.cond 16 (sq [oM 17 5 [],oM 4 17 [0,0]] .ret) .skip)))) (rg [oB 18 .add 8 (cI 1) [],oM 8 18 [0]]))))))) (sq [oN 4 (.mv (cI (-1))) []] .ret)))
theorem mcOkv181:okM Tryz.prog Tryz.f181 19=some mcv181:=by kernel_rfl
theorem vcI_outs (x0:Pt) (xs:List Pl) (hxn:xs.length<=4611686018427387904):FC Tryz.prog 181 [.rs 4 (xs.map cPl),(.fn (.func 213) [.rp (cPt x0)])] [] (.int .i64 (XY (outB x0) xs 0)) [] false:=by
 refine Qg (nt:=19) Tryz.func181 rfl rfl mcOkv181 (nL rfl) ?_
 delta mcv181
 refine gA 8 rfl (Qe rfl rfl (gR 3 rfl ?_))
 refine Qo (α:=Nat) (fun k=>xs.length-k) (fun k=>[(0,.rs 4 (xs.map cPl)),(1,(.fn (.func 213) [.rp (cPt x0)])),(6,.rs 4 (xs.map cPl)),(7,iv (xs.length:Int)),(8,iv (((k):Nat):Int))]) (fun k=>[]) (fun k=>k<=xs.length/\XY (outB x0) (xs.drop k) k=XY (outB x0) xs 0) 0 (⟨by omega,rfl⟩)
  (Qb (Qa rfl rfl) (.nil) (fun i h=>by cases h)) ?_
 rintro k ⟨hk,hinv⟩
 refine gT 5 rfl (Qc rfl (fun h9=>?_) (fun h9=>?_))
 ·replace h9:=of_decide_eq_true h9
  refine gK 13 rfl ?_
  obtain ⟨x,hxk,hxm⟩:=Qk (L:=xs) (k:=k) (by omega)
  rw [Ut hxk] at hinv
  refine Qi (f:=cPl) (y:=x) rfl rfl rfl (by omega) hxk (gR 0 rfl (Q8 (cs:=cPl x) rfl rfl (nL rfl) rfl (gR 0 rfl (Xq [] rfl rfl (by kernel_rfl) rfl (fc_up (vc213 x0 x)) (.cons (Qd rfl) (.cons (Qd rfl) (.nil))) .nil rfl rfl rfl ?_))))
  cases h16:(outB x0) x
  ·skip
   refine gR 4 rfl (Qf rfl rfl rfl (by omega) (gR 2 rfl ?_))
   rw [h16] at hinv
   exact Qz <| ⟨k+1,⟨by omega,hinv⟩,by omega,Qb (Qa rfl rfl) (.nil) (fun i h=>by cases h)⟩
  ·skip
   refine gR 8 rfl ?_
   rw [h16] at hinv
   rw [← hinv]
   exact rQ
 ·replace h9:=of_decide_eq_false h9
  refine gK 6 rfl ?_
  rw [JN (by omega)] at hinv
  rw [← hinv]
  exact rQ
def mcv155:MC:=(sq [oN 4 (.mv (.c (.bool false))) []] (sq [oM 5 0 [],oM 6 1 [],oC 7 181 [5,6] [0,1],oB 8 .geq 7 (cI 0) [2],oM 4 8 (3::2::up 4)] .ret))
theorem mcOkv155:okM Tryz.prog Tryz.f155 9=some mcv155:=by kernel_rfl
theorem vcC_outs (x0:Pt) (xs:List Pl) (hxn:xs.length<=4611686018427387904):FC Tryz.prog 155 [.rs 4 (xs.map cPl),(.fn (.func 213) [.rp (cPt x0)])] [] (.bool (xs.any (outB x0))) [] false:=by
 refine Qg (nt:=9) Tryz.func155 rfl rfl mcOkv155 (nL rfl) ?_
 delta mcv155
 refine gA 8 rfl (cN rfl rfl (vcI_outs x0 xs hxn) (gR 0 rfl (XZ rfl rfl rfl (gR 3 rfl ?_))))
 rw [← JB]
 exact rQ
def mcv187:MC:=(sq [oN 3 (.box 174 4 1) [],oN 4 (.mv (.c (.bool false))) []] (sq [oM 5 0 [],oN 6 (.mkfn (.func 213) [3]) [],oC 7 155 [5,6] [0,1],oN 8 (.un .not 7) [2],oM 4 8 (3::2::up 4)] .ret))
theorem mcOkv187:okM Tryz.prog Tryz.f187 9=some mcv187:=by kernel_rfl
theorem vc187 (r:List Pl) (x:Pt) (hr:r.length<=1000):FC Tryz.prog 187 [.rs 4 (r.map cPl),.agg (cPt x)] [] (.bool (XU r x)) [] false:=by
 refine Qg (nt:=9) Tryz.func187 rfl rfl mcOkv187 (nL rfl) ?_
 delta mcv187
 refine gA 6 rfl (QH (F0:=[(0,.rs 4 (r.map cPl)),(3,.rp (cPt x))]) (H0:=[]) (Qb (.cs (.cons rfl (Jc rfl rfl (.inl rfl)) (.nil))) (.nil) (fun i h=>by cases h)) (gK 3 rfl (cN rfl rfl (vcC_outs x r (by omega)) (gR 4 rfl ?_))))
 exact rQ
def mcv189:MC:=(sq [oN 4 (.mv (cI 0)) []] (.seq (sq [oM 6 0 [],oE 7 6 [0],oN 8 (.mv (cI 0)) []] (.block 0 (.loop (sq [oB 9 .lss 8 7 []] (.seq (.cond 9 .skip (.exit 0)) (.seq (.block 1 (sq [oM 10 8 [],oM 5 10 [0,0]] (sq [oM 11 1 [],oM 12 0 [],oM 13 5 [],oX 14 4 12 13 [1,2],oL 15 4 14 [3],oN 16 (.callv 11 [15]) [0,4]] (.cond 16 (sq [oM 17 5 [],oM 4 17 [0,0]] .ret) .skip)))) (rg [oB 18 .add 8 (cI 1) [],oM 8 18 [0]]))))))) (sq [oN 4 (.mv (cI (-1))) []] .ret)))
theorem mcOkv189:okM Tryz.prog Tryz.f189 19=some mcv189:=by kernel_rfl
theorem vcI_ins (p0:Pl) (xs:List Pt) (hxn:xs.length<=4611686018427387904):FC Tryz.prog 189 [.rs 4 (xs.map cPt),(.fn (.func 165) [.rp (cPl p0)])] [] (.int .i64 (XY (inB p0) xs 0)) [] false:=by
 refine Qg (nt:=19) Tryz.func189 rfl rfl mcOkv189 (nL rfl) ?_
 delta mcv189
 refine gA 8 rfl (Qe rfl rfl (gR 3 rfl ?_))
 refine Qo (α:=Nat) (fun k=>xs.length-k) (fun k=>[(0,.rs 4 (xs.map cPt)),(1,(.fn (.func 165) [.rp (cPl p0)])),(6,.rs 4 (xs.map cPt)),(7,iv (xs.length:Int)),(8,iv (((k):Nat):Int))]) (fun k=>[]) (fun k=>k<=xs.length/\XY (inB p0) (xs.drop k) k=XY (inB p0) xs 0) 0 (⟨by omega,rfl⟩)
  (Qb (Qa rfl rfl) (.nil) (fun i h=>by cases h)) ?_
 rintro k ⟨hk,hinv⟩
 refine gT 5 rfl (Qc rfl (fun h9=>?_) (fun h9=>?_))
 ·replace h9:=of_decide_eq_true h9
  refine gK 13 rfl ?_
  obtain ⟨x,hxk,hxm⟩:=Qk (L:=xs) (k:=k) (by omega)
  rw [Ut hxk] at hinv
  refine Qi (f:=cPt) (y:=x) rfl rfl rfl (by omega) hxk (gR 0 rfl (Q8 (cs:=cPt x) rfl rfl (nL rfl) rfl (gR 0 rfl (Xq [] rfl rfl (by kernel_rfl) rfl (fc_up (vc165 p0 x)) (.cons (Qd rfl) (.cons (Qd rfl) (.nil))) .nil rfl rfl rfl ?_))))
  cases h16:(inB p0) x
  ·skip
   refine gR 4 rfl (Qf rfl rfl rfl (by omega) (gR 2 rfl ?_))
   rw [h16] at hinv
   exact Qz <| ⟨k+1,⟨by omega,hinv⟩,by omega,Qb (Qa rfl rfl) (.nil) (fun i h=>by cases h)⟩
  ·skip
   refine gR 8 rfl ?_
   rw [h16] at hinv
   rw [← hinv]
   exact rQ
 ·replace h9:=of_decide_eq_false h9
  refine gK 6 rfl ?_
  rw [JN (by omega)] at hinv
  rw [← hinv]
  exact rQ
def mcv164:MC:=(sq [oN 4 (.mv (.c (.bool false))) []] (sq [oM 5 0 [],oM 6 1 [],oC 7 189 [5,6] [0,1],oB 8 .geq 7 (cI 0) [2],oM 4 8 (3::2::up 4)] .ret))
theorem mcOkv164:okM Tryz.prog Tryz.f164 9=some mcv164:=by kernel_rfl
theorem vcC_ins (p0:Pl) (xs:List Pt) (hxn:xs.length<=4611686018427387904):FC Tryz.prog 164 [.rs 4 (xs.map cPt),(.fn (.func 165) [.rp (cPl p0)])] [] (.bool (xs.any (inB p0))) [] false:=by
 refine Qg (nt:=9) Tryz.func164 rfl rfl mcOkv164 (nL rfl) ?_
 delta mcv164
 refine gA 8 rfl (cN rfl rfl (vcI_ins p0 xs hxn) (gR 0 rfl (XZ rfl rfl rfl (gR 3 rfl ?_))))
 rw [← JB]
 exact rQ
def mcv212:MC:=(sq [oN 2 (.mv (cI 0)) []] (sq [oN 3 (.mv (cI 0)) []] (.seq (sq [oM 6 0 [],oE 7 6 [0],oN 8 (.mv (cI 0)) []] (.block 0 (.loop (sq [oB 9 .lss 8 7 []] (.seq (.cond 9 .skip (.exit 0)) (.seq (.block 1 (sq [oX 10 1 6 8 [],oD 11 1 10 [0],oM 5 11 [1,0,1]] (.block 2 (.loop (.seq (sq [oM 12 5 [],oB 13 .neq 12 (cI 0) [0]] (.cond 13 .skip (.exit 2))) (.block 3 (dg [oM 14 5 [],oM 15 3 [],oM 16 5 [],oB 17 .rem 15 16 [1,2],oM 3 14 [0,0,1],oM 5 17 (3::4::up 5)]))))))) (rg [oB 18 .add 8 (cI 1) [],oM 8 18 [0]]))))))) (sq [oM 19 3 [],oM 20 3 [],oN 21 (.un .neg 20) [1],oN 22 (.mx 19 21) [0,2],oM 2 22 (3::up 4)] .ret))))
theorem mcOkv212:okM Tryz.prog Tryz.f212 23=some mcv212:=by kernel_rfl
theorem vc212 (l:List Int) (hl:∀ x∈l,-1000000000000000<=x/\x<=1000000000000000) (hn:l.length<=1000):FC Tryz.prog 212 [ints l] [] (iv (gL l:Int)) [] false:=by
 refine Qg (nt:=23) Tryz.func212 rfl rfl mcOkv212 (nL rfl) ?_
 delta mcv212
 refine gA 12 rfl (Qe rfl rfl (gR 3 rfl ?_))
 refine Qo (α:=Nat×Int) (fun s=>l.length-s.1) (fun s=>[(6,ints l),(7,iv (l.length:Int)),(8,iv (((s.1):Nat):Int)),(3,iv (s.2))]) (fun s=>[]) (fun s=>s.1<=l.length/\s.2.natAbs=gL (l.take s.1)/\(-1000000000000000<=s.2/\s.2<=1000000000000000)) (0,0) (⟨by omega,rfl,by omega,by omega⟩)
  (Qb (Qa rfl rfl) (.nil) (fun i h=>by cases h)) ?_
 rintro ⟨k,g⟩ ⟨hk,hg,hgb⟩
 dsimp only at hk hg hgb ⊢
 refine gT 5 rfl (Qc rfl (fun h9=>?_) (fun h9=>?_))
 ·replace h9:=of_decide_eq_true h9
  refine gK 5 rfl ?_
  obtain ⟨x,hxk,hxm⟩:=Qk (L:=l) (k:=k) (by omega)
  have hxb:=hl x hxm
  refine Qi (f:=ci) (y:=x) rfl rfl rfl (by omega) hxk (gR 4 rfl ?_)
  refine Qo (α:=Int×Int) (fun u=>u.2.natAbs) (fun u=>[(6,ints l),(7,iv (l.length:Int)),(8,iv (((k):Nat):Int)),(3,iv u.1),(5,iv u.2)]) (fun u=>[]) (fun u=>Nat.gcd u.1.natAbs u.2.natAbs=Nat.gcd g.natAbs x.natAbs/\(-1000000000000000<=u.1/\u.1<=1000000000000000)/\(-1000000000000000<=u.2/\u.2<=1000000000000000)) (g,x) (⟨rfl,hgb,hxb⟩)
   (Qb (Qa rfl rfl) (.nil) (fun i h=>by cases h)) ?_
  rintro ⟨a,b⟩ ⟨hgc,hab,hbb⟩
  dsimp only at hgc hab hbb ⊢
  refine gT 4 rfl (Xv rfl rfl rfl (gR 1 rfl (Qc rfl (fun h13=>?_) (fun h13=>?_))))
  ·replace h13:=of_decide_eq_true h13
   refine gK 2 rfl ?_
   skip
   refine gI 4 rfl (XA rfl rfl rfl (by omega) rfl (gR 2 rfl (Q9 (by kernel_rfl) (gP 0 rfl ?_))))
   have h1:=tmod_lt a b h13
   have h2:=gcd_st2 a b h13
   exact Qz <| ⟨(b,a.tmod b),⟨by show Nat.gcd b.natAbs (a.tmod b).natAbs=_; rw [h2,hgc],hbb,by show _<=a.tmod b; omega,by show a.tmod b<=_; omega⟩,h1,Qb (Qa rfl rfl) (.nil) (fun i h=>by cases h)⟩
  ·replace h13:=of_decide_eq_false h13
   refine gK 2 rfl (Qf rfl rfl rfl (by omega) (gR 2 rfl (⟨(k+1,a),⟨by show k+1<=_; omega,?_,hab⟩,by show _-(k+1)<_; omega,Qb (Qa rfl rfl) (.nil) (fun i h=>by cases h)⟩)))
   show a.natAbs=gL (l.take (k+1))
   have hb0:b=0:=Decidable.byContradiction h13
   subst hb0
   rw [gL_succ hxk,← hg,← hgc]
   simp
 ·replace h9:=of_decide_eq_false h9
  refine gK 2 rfl ?_
  have hke:l.take k=l:=List.take_of_length_le (by omega)
  rw [hke] at hg
  refine gI 3 rfl (JM rfl rfl (by omega) (gR 0 rfl (rs_mx (c:=(gL l:Int)) rfl rfl rfl (by omega) (gR 3 rfl ?_))))
  exact rQ
end Go.Proofs.YthfhaoogcpfboaaGreat
namespace Go.Proofs.YthfhaoogcpfboaaGreat
open Go.RowKit
set_option maxRecDepth 100000
set_option linter.unusedVariables false
def mcv186:MC:=(sq [oN 1 (.box 215 12 0) [],oN 2 (.alloc 174 4 (iz 4)) [],oN 3 (.mv (.c (.bool false))) []] (sq [oN 4 (.alloc 88 3 (iz 3)) []] (sq [oN 5 (.mv (cI 0)) []] (.seq (sq [oL 10 12 1 [],oN 11 (.mv (cI 0)) []] (.block 0 (.loop (sq [oB 12 .lss 11 (cI 3) []] (.seq (.cond 12 .skip (.exit 0)) (.seq (.block 1 (sq [oM 13 11 [],oN 14 (.ixval 3 4 true 10 11) [],oN 7 (.alloc 90 4 (iz 4)) [],oM 6 13 [0,0,1,2],oS 4 7 14 [2,1,3,0,1,2,3]] (dq [oM 15 6 [],oB 16 .add 15 (cI 1) [0],oB 17 .rem 16 (cI 3) [1],oN 18 (.ixarr 3 4 1 17) [2],oA 19 0 18 [3],oL 20 3 19 [4],oM 21 6 [],oB 22 .add 21 (cI 2) [6],oB 23 .rem 22 (cI 3) [7],oN 24 (.ixarr 3 4 1 23) [8],oA 25 0 24 [9],oL 26 3 25 [10],oC 27 209 [20,26] [5,11],oN 8 (.alloc 88 3 (iz 3)) [],oS 3 8 27 (13::12::12::up 14)] (sq [oA 28 0 7 [],oL 29 3 28 [0],oL 30 3 8 [],oC 31 190 [29,30] [1,2],oM 5 31 (3::3::up 4)] (dg [oL 32 3 4 [],oL 33 3 8 [],oA 34 3 7 [],oD 35 1 34 [2],oC 36 211 [33,35] [1,3],oC 37 210 [32,36] [0,4,4],oS 3 4 37 (5::5::up 6)]))))) (rg [oB 38 .add 11 (cI 1) [],oM 11 38 [0]]))))))) (.seq (sq [oM 39 5 [],oB 40 .eql 39 (cI 0) [0]] (.cond 40 (sq [oN 41 (.build (iz 4) []) [],oS 4 2 41 [0,0],oN 3 (.mv (.c (.bool false))) [1,0,1]] .ret) .skip)) (sq [oA 42 0 4 [],oD 43 1 42 [0],oA 44 1 4 [],oD 45 1 44 [2],oA 46 2 4 [],oD 47 1 46 [4],oM 48 5 [],oN 49 (.bslice 3 1 [(iv 0)] 4 [(0,43),(1,45),(2,47),(3,48)]) [1,3,5,6],oC 50 212 [49] [7],oM 9 50 (8::8::up 9)] (.seq (sq [oM 51 5 [],oB 52 .lss 51 (cI 0) [0]] (.cond 52 (rg [oM 53 9 [],oN 54 (.un .neg 53) [0],oM 9 54 [1,0,1]]) .skip)) (dq [oA 55 0 4 [],oD 56 1 55 [0],oM 57 9 [],oB 58 .quo 56 57 [1,2],oA 59 1 4 [],oD 60 1 59 [4],oM 61 9 [],oB 62 .quo 60 61 [5,6],oA 63 2 4 [],oD 64 1 63 [8],oM 65 9 [],oB 66 .quo 64 65 [9,10],oM 67 5 [],oM 68 9 [],oB 69 .quo 67 68 [12,13],oN 70 (.build (iz 4) [(0,1,58),(1,1,62),(2,1,66),(3,1,69)]) [3,7,11,14],oS 4 2 70 (15::up 16),oN 3 (.mv (.c (.bool true))) (16::up 17)] .ret))))))))
theorem mcOkv186:okM Tryz.prog Tryz.f186 71=some mcv186:=by kernel_rfl
theorem vc186_n (p q r:Pl) (h0:wd3 p q r=0):FC Tryz.prog 186 [.agg (c12 p q r)] [] (.tup [.agg [iv 0,iv 0,iv 0,iv 0],.bool false]) [] false:=by
 refine Qg (nt:=71) Tryz.func186 rfl rfl mcOkv186 (nL rfl) ?_
 delta mcv186
 refine gA 21 rfl ?_
 refine Qo (α:=Nat) (fun k=>3-k) (fun k=>[(1,.ptr 1 0 0),(2,.ptr 2 0 0),(3,.bool false),(4,.ptr 4 0 0),(5,iv (wdS p q r (k))),(10,.agg (c12 p q r)),(11,iv (((k):Nat):Int))]) (fun k=>[(1,.cells 215 12 [c12 p q r] true),(2,.cells 174 4 [[iv 0,iv 0,iv 0,iv 0]] true),(4,.cells 88 3 [cV (sumS p q r (k))] true)]) (fun k=>k<=3) 0 (by omega)
  (Qb (Qa rfl rfl) (kS rfl rfl) (fun i h=>by cases h)) ?_
 intro k hk
 refine gT 5 rfl (Qc rfl (fun h12=>?_) (fun h12=>?_))
 ·replace h12:=of_decide_eq_true h12
  refine gK 5 rfl ?_
  obtain rfl | rfl | rfl:k=0\/k=1\/k=2:=by omega
  ·skip
   refine gI 1 rfl (rs_ixvala rfl rfl rfl (by omega) (by omega) (nL rfl) rfl (gR 7 rfl (Qf rfl rfl rfl (by omega) (gR 0 rfl (XA rfl rfl rfl (by decide) rfl (gR 0 rfl (Qm rfl rfl rfl (by decide) (by decide) (gR 3 rfl (Qf rfl rfl rfl (by omega) (gR 0 rfl (XA rfl rfl rfl (by decide) rfl ?_)))))))))))
   refine gR 0 rfl (Qm rfl rfl rfl (by decide) (by decide) (gR 2 rfl (cN rfl rfl (fc31 q.n r.n) (gR 2 rfl (Q9 (by kernel_rfl) (gP 5 rfl (cN rfl rfl (fc30 p.n (Q6 q.n r.n)) (gR 7 rfl (cN rfl rfl (vc211 (Q6 q.n r.n) p.b) (gR 0 rfl (cN rfl rfl (fc28 (sumS p q r 0) (QK (Q6 q.n r.n) p.b)) ?_)))))))))))
   refine gR 1 rfl (Q9 (by kernel_rfl) (gP 1 rfl (Qf rfl rfl rfl (by omega) (gR 2 rfl ?_))))
   exact Qz <| ⟨0+1,by omega,by omega,Qb (Qa rfl rfl) (kS rfl rfl) (fun i h=>by cases h)⟩
  ·skip
   refine gI 1 rfl (rs_ixvala rfl rfl rfl (by omega) (by omega) (nL rfl) rfl (gR 7 rfl (Qf rfl rfl rfl (by omega) (gR 0 rfl (XA rfl rfl rfl (by decide) rfl (gR 0 rfl (Qm rfl rfl rfl (by decide) (by decide) (gR 3 rfl (Qf rfl rfl rfl (by omega) (gR 0 rfl (XA rfl rfl rfl (by decide) rfl ?_)))))))))))
   refine gR 0 rfl (Qm rfl rfl rfl (by decide) (by decide) (gR 2 rfl (cN rfl rfl (fc31 r.n p.n) (gR 2 rfl (Q9 (by kernel_rfl) (gP 5 rfl (cN rfl rfl (fc30 q.n (Q6 r.n p.n)) (gR 7 rfl (cN rfl rfl (vc211 (Q6 r.n p.n) q.b) (gR 0 rfl (cN rfl rfl (fc28 (sumS p q r 1) (QK (Q6 r.n p.n) q.b)) ?_)))))))))))
   refine gR 1 rfl (Q9 (by kernel_rfl) (gP 1 rfl (Qf rfl rfl rfl (by omega) (gR 2 rfl ?_))))
   exact Qz <| ⟨1+1,by omega,by omega,Qb (Qa rfl rfl) (kS rfl rfl) (fun i h=>by cases h)⟩
  ·skip
   refine gI 1 rfl (rs_ixvala rfl rfl rfl (by omega) (by omega) (nL rfl) rfl (gR 7 rfl (Qf rfl rfl rfl (by omega) (gR 0 rfl (XA rfl rfl rfl (by decide) rfl (gR 0 rfl (Qm rfl rfl rfl (by decide) (by decide) (gR 3 rfl (Qf rfl rfl rfl (by omega) (gR 0 rfl (XA rfl rfl rfl (by decide) rfl ?_)))))))))))
   refine gR 0 rfl (Qm rfl rfl rfl (by decide) (by decide) (gR 2 rfl (cN rfl rfl (fc31 p.n q.n) (gR 2 rfl (Q9 (by kernel_rfl) (gP 5 rfl (cN rfl rfl (fc30 r.n (Q6 p.n q.n)) (gR 7 rfl (cN rfl rfl (vc211 (Q6 p.n q.n) r.b) (gR 0 rfl (cN rfl rfl (fc28 (sumS p q r 2) (QK (Q6 p.n q.n) r.b)) ?_)))))))))))
   refine gR 1 rfl (Q9 (by kernel_rfl) (gP 1 rfl (Qf rfl rfl rfl (by omega) (gR 2 rfl ?_))))
   exact Qz <| ⟨2+1,by omega,by omega,Qb (Qa rfl rfl) (kS rfl rfl) (fun i h=>by cases h)⟩
 ·replace h12:=of_decide_eq_false h12
  refine gK 3 rfl ?_
  obtain rfl:k=3:=by omega
  refine gI 2 rfl (QA rfl rfl rfl rfl h0 (gR 9 rfl ?_))
  exact Qt <| Ql rfl (QI (.cons (Qs rfl (.inr rfl)) (.cons (Qs rfl (.inr rfl)) .nil))) .nil
theorem vc186_s (p q r:Pl) (h0:wd3 p q r≠0) (hok:okT p q r=true):FC Tryz.prog 186 [.agg (c12 p q r)] [] (.tup [.agg (cPt (mtP p q r)),.bool true]) [] false:=by
 refine Qg (nt:=71) Tryz.func186 rfl rfl mcOkv186 (nL rfl) ?_
 delta mcv186
 refine gA 21 rfl ?_
 refine Qo (α:=Nat) (fun k=>3-k) (fun k=>[(1,.ptr 1 0 0),(2,.ptr 2 0 0),(3,.bool false),(4,.ptr 4 0 0),(5,iv (wdS p q r (k))),(10,.agg (c12 p q r)),(11,iv (((k):Nat):Int))]) (fun k=>[(1,.cells 215 12 [c12 p q r] true),(2,.cells 174 4 [[iv 0,iv 0,iv 0,iv 0]] true),(4,.cells 88 3 [cV (sumS p q r (k))] true)]) (fun k=>k<=3) 0 (by omega)
  (Qb (Qa rfl rfl) (kS rfl rfl) (fun i h=>by cases h)) ?_
 intro k hk
 refine gT 5 rfl (Qc rfl (fun h12=>?_) (fun h12=>?_))
 ·replace h12:=of_decide_eq_true h12
  refine gK 5 rfl ?_
  obtain rfl | rfl | rfl:k=0\/k=1\/k=2:=by omega
  ·skip
   refine gI 1 rfl (rs_ixvala rfl rfl rfl (by omega) (by omega) (nL rfl) rfl (gR 7 rfl (Qf rfl rfl rfl (by omega) (gR 0 rfl (XA rfl rfl rfl (by decide) rfl (gR 0 rfl (Qm rfl rfl rfl (by decide) (by decide) (gR 3 rfl (Qf rfl rfl rfl (by omega) (gR 0 rfl (XA rfl rfl rfl (by decide) rfl ?_)))))))))))
   refine gR 0 rfl (Qm rfl rfl rfl (by decide) (by decide) (gR 2 rfl (cN rfl rfl (fc31 q.n r.n) (gR 2 rfl (Q9 (by kernel_rfl) (gP 5 rfl (cN rfl rfl (fc30 p.n (Q6 q.n r.n)) (gR 7 rfl (cN rfl rfl (vc211 (Q6 q.n r.n) p.b) (gR 0 rfl (cN rfl rfl (fc28 (sumS p q r 0) (QK (Q6 q.n r.n) p.b)) ?_)))))))))))
   refine gR 1 rfl (Q9 (by kernel_rfl) (gP 1 rfl (Qf rfl rfl rfl (by omega) (gR 2 rfl ?_))))
   exact Qz <| ⟨0+1,by omega,by omega,Qb (Qa rfl rfl) (kS rfl rfl) (fun i h=>by cases h)⟩
  ·skip
   refine gI 1 rfl (rs_ixvala rfl rfl rfl (by omega) (by omega) (nL rfl) rfl (gR 7 rfl (Qf rfl rfl rfl (by omega) (gR 0 rfl (XA rfl rfl rfl (by decide) rfl (gR 0 rfl (Qm rfl rfl rfl (by decide) (by decide) (gR 3 rfl (Qf rfl rfl rfl (by omega) (gR 0 rfl (XA rfl rfl rfl (by decide) rfl ?_)))))))))))
   refine gR 0 rfl (Qm rfl rfl rfl (by decide) (by decide) (gR 2 rfl (cN rfl rfl (fc31 r.n p.n) (gR 2 rfl (Q9 (by kernel_rfl) (gP 5 rfl (cN rfl rfl (fc30 q.n (Q6 r.n p.n)) (gR 7 rfl (cN rfl rfl (vc211 (Q6 r.n p.n) q.b) (gR 0 rfl (cN rfl rfl (fc28 (sumS p q r 1) (QK (Q6 r.n p.n) q.b)) ?_)))))))))))
   refine gR 1 rfl (Q9 (by kernel_rfl) (gP 1 rfl (Qf rfl rfl rfl (by omega) (gR 2 rfl ?_))))
   exact Qz <| ⟨1+1,by omega,by omega,Qb (Qa rfl rfl) (kS rfl rfl) (fun i h=>by cases h)⟩
  ·skip
   refine gI 1 rfl (rs_ixvala rfl rfl rfl (by omega) (by omega) (nL rfl) rfl (gR 7 rfl (Qf rfl rfl rfl (by omega) (gR 0 rfl (XA rfl rfl rfl (by decide) rfl (gR 0 rfl (Qm rfl rfl rfl (by decide) (by decide) (gR 3 rfl (Qf rfl rfl rfl (by omega) (gR 0 rfl (XA rfl rfl rfl (by decide) rfl ?_)))))))))))
   refine gR 0 rfl (Qm rfl rfl rfl (by decide) (by decide) (gR 2 rfl (cN rfl rfl (fc31 p.n q.n) (gR 2 rfl (Q9 (by kernel_rfl) (gP 5 rfl (cN rfl rfl (fc30 r.n (Q6 p.n q.n)) (gR 7 rfl (cN rfl rfl (vc211 (Q6 p.n q.n) r.b) (gR 0 rfl (cN rfl rfl (fc28 (sumS p q r 2) (QK (Q6 p.n q.n) r.b)) ?_)))))))))))
   refine gR 1 rfl (Q9 (by kernel_rfl) (gP 1 rfl (Qf rfl rfl rfl (by omega) (gR 2 rfl ?_))))
   exact Qz <| ⟨2+1,by omega,by omega,Qb (Qa rfl rfl) (kS rfl rfl) (fun i h=>by cases h)⟩
 ·replace h12:=of_decide_eq_false h12
  refine gK 3 rfl ?_
  obtain rfl:k=3:=by omega
  refine gI 2 rfl (Qp rfl rfl rfl rfl h0 (gR 4 rfl ?_))
  have hgp:0<gL [(Xk p q r).x,(Xk p q r).y,(Xk p q r).z,wd3 p q r]:=gL_pos (x:=wd3 p q r) (by simp) h0
  have hgl:gL [(Xk p q r).x,(Xk p q r).y,(Xk p q r).z,wd3 p q r]<=1000000000000000:=gL_le (x:=wd3 p q r) (by simp) h0 (by have:=okT_all hok (wd3 p q r) (by simp); omega)
  refine gI 8 rfl (bM ci (([(Xk p q r).x,(Xk p q r).y,(Xk p q r).z,wd3 p q r]:List Int)) (by kernel_rfl) (gR 0 rfl (QD [49] rfl rfl (vc212 [(Xk p q r).x,(Xk p q r).y,(Xk p q r).z,wd3 p q r] (okT_all hok) (by simp)) (.cons (QW (f:=ci) (xs:=[(Xk p q r).x,(Xk p q r).y,(Xk p q r).z,wd3 p q r]) (by simp) rfl rfl) (.nil)) rfl (gR 8 rfl (Qc rfl (fun h52=>?_) (fun h52=>?_))))))
  ·replace h52:=of_decide_eq_true h52
   refine gK 2 rfl (JM rfl rfl (by omega) (gR 3 rfl ?_))
   have hg3 : -(gL [(Xk p q r).x,(Xk p q r).y,(Xk p q r).z,wd3 p q r]:Int)=g3 p q r:=(if_pos h52).symm
   have hg0:g3 p q r≠0:=by rw [← hg3]; omega
   rw [hg3]
   refine gI 4 rfl (QR rfl rfl rfl hg0 rfl (gR 3 rfl (QR rfl rfl rfl hg0 rfl (gR 3 rfl (QR rfl rfl rfl hg0 rfl (gR 2 rfl (QR rfl rfl rfl hg0 rfl (gR 3 rfl (Q9 (by kernel_rfl) (gP 1 rfl ?_))))))))))
   exact Qt <| Ql rfl (QI (.cons (Qs rfl (.inr rfl)) (.cons (Qs rfl (.inr rfl)) .nil))) .nil
  ·replace h52:=of_decide_eq_false h52
   refine gK 2 rfl ?_
   have hg3:(gL [(Xk p q r).x,(Xk p q r).y,(Xk p q r).z,wd3 p q r]:Int)=g3 p q r:=(if_neg h52).symm
   have hg0:g3 p q r≠0:=by rw [← hg3]; omega
   rw [hg3]
   refine gI 4 rfl (QR rfl rfl rfl hg0 rfl (gR 3 rfl (QR rfl rfl rfl hg0 rfl (gR 3 rfl (QR rfl rfl rfl hg0 rfl (gR 2 rfl (QR rfl rfl rfl hg0 rfl (gR 3 rfl (Q9 (by kernel_rfl) (gP 1 rfl ?_))))))))))
   exact Qt <| Ql rfl (QI (.cons (Qs rfl (.inr rfl)) (.cons (Qs rfl (.inr rfl)) .nil))) .nil
def mcv185:MC:=(sq [oN 1 (.box 167 1 0) [],oN 2 (.mv (.c .nilf)) []] (sq [oN 3 (.mkfn (.func 208) [1]) [],oM 2 3 [0,0]] .ret))
theorem mcOkv185:okM Tryz.prog Tryz.f185 4=some mcv185:=by kernel_rfl
theorem vc185 (r:List Pl):FC Tryz.prog 185 [.rs 4 (r.map cPl)] [] (.fn (.func 208) [.rp [.rs 4 (r.map cPl)]]) [] true:=by
 refine Qg (nt:=4) Tryz.func185 rfl rfl mcOkv185 (nL rfl) ?_
 delta mcv185
 refine gA 11 rfl ?_
 exact Qt <| Ql rfl (rc_fnr (.cons (Jc rfl rfl (.inl rfl)) .nil)) .nil
end Go.Proofs.YthfhaoogcpfboaaGreat
namespace Go.Proofs.YthfhaoogcpfboaaGreat
open Go.RowKit
set_option maxRecDepth 100000
set_option linter.unusedVariables false
abbrev ptK (x:Pt):List Int:=[x.x,x.y,x.z,x.w]
theorem ptK_len (l:List Pt):∀ q∈l.map ptK,q.length=4:=fun q hq=>by
 obtain ⟨x,_,rfl⟩:=List.mem_map.1 hq; rfl
def J0 (r:List Pl) (l:List Pt) (p q s:Pl):List Pt:=if wd3 p q s=0 then l else if ptK (mtP p q s)∈l.map ptK then l else if XU r (mtP p q s)=true then l++[mtP p q s] else l
def innS (r:List Pl) (p q:Pl):List Pt->List Pl->List Pt
 | l,[]=>l
 | l,s::t=>innS r p q (J0 r l p q s) t
def midS (r:List Pl) (p:Pl):List Pt->List Pl->List Pt
 | l,[]=>l
 | l,q::t=>midS r p (innS r p q l t) t
def topS (r:List Pl):List Pt->List Pl->List Pt
 | l,[]=>l
 | l,p::t=>topS r (midS r p l t) t
def Xf (r:List Pl):List Pt:=topS r [] r
def okMid (p:Pl):List Pl->Bool
 | []=>true
 | q::t=>t.all (okT p q)&&okMid p t
def okTop:List Pl->Bool
 | []=>true
 | p::t=>okMid p t&&okTop t
theorem okTop_at:∀ {r:List Pl} {i:Nat} {p:Pl},okTop r=true->r[i]?=some p->okMid p (r.drop (i+1))=true
 | [],i,p,_,h=>by simp at h
 | a::r,0,p,h,hp=>by
  simp at hp; subst hp
  simp only [okTop,Bool.and_eq_true] at h
  exact h.1
 | a::r,i+1,p,h,hp=>by
  simp only [okTop,Bool.and_eq_true] at h
  exact okTop_at (r:=r) (i:=i) h.2 (by simpa using hp)
theorem okMid_at:∀ {p:Pl} {t:List Pl} {j:Nat} {q:Pl},okMid p t=true->t[j]?=some q->(t.drop (j+1)).all (okT p q)=true
 | p,[],j,q,_,h=>by simp at h
 | p,a::t,0,q,h,hq=>by
  simp at hq; subst hq
  simp only [okMid,Bool.and_eq_true] at h
  exact h.1
 | p,a::t,j+1,q,h,hq=>by
  simp only [okMid,Bool.and_eq_true] at h
  exact okMid_at (t:=t) (j:=j) h.2 (by simpa using hq)
theorem Jo {α:Type} {l:List α} {k:Nat} {x:α} (h:l[k]?=some x):l.drop k=x::l.drop (k+1):=by
 obtain ⟨hk,e⟩:=List.getElem?_eq_some_iff.1 h
 rw [List.drop_eq_getElem_cons hk,e]
theorem topS_at {r:List Pl} {l:List Pt} {k:Nat} {p:Pl} (h:r[k]?=some p):topS r l (r.drop k)=topS r (midS r p l (r.drop (k+1))) (r.drop (k+1)):=by rw [Jo h]; rfl
theorem midS_at {r t:List Pl} {p:Pl} {l:List Pt} {k:Nat} {q:Pl} (h:t[k]?=some q):midS r p l (t.drop k)=midS r p (innS r p q l (t.drop (k+1))) (t.drop (k+1)):=by rw [Jo h]; rfl
theorem innS_at {r t:List Pl} {p q:Pl} {l:List Pt} {k:Nat} {s:Pl} (h:t[k]?=some s):innS r p q l (t.drop k)=innS r p q (J0 r l p q s) (t.drop (k+1)):=by rw [Jo h]; rfl
theorem accS_len (r:List Pl) (l:List Pt) (p q s:Pl):(J0 r l p q s).length<=l.length+1:=by
 unfold J0
 split
 ·omega
 ·split
  ·omega
  ·split
   ·rw [Xo]; omega
   ·omega
theorem slc_drop (r:List Pl) (m:Nat) {l:Int} (h:l=(m:Int)):(((r.map cPl).drop l.toNat).take ((((r.map cPl).length:Nat):Int).toNat-l.toNat))=(r.drop m).map cPl:=by
 subst h
 rw [← List.map_drop,List.take_of_length_le (by simp)]; rfl
theorem map_snocK (l:List Pt) (x:Pt):(l++[x]).map ptK=l.map ptK++[ptK x]:=by simp
theorem acc_1 {r:List Pl} {l:List Pt} {p q s:Pl} (h:wd3 p q s=0):J0 r l p q s=l:=if_pos h
theorem acc_2 {r:List Pl} {l:List Pt} {p q s:Pl} (h:wd3 p q s≠0) (h2:decide (ptK (mtP p q s)∈l.map ptK)=true):J0 r l p q s=l:=by unfold J0; rw [if_neg h,if_pos (of_decide_eq_true h2)]
theorem acc_3 {r:List Pl} {l:List Pt} {p q s:Pl} (h:wd3 p q s≠0) (h2:decide (ptK (mtP p q s)∈l.map ptK)=false) (h3:XU r (mtP p q s)=true):J0 r l p q s=l++[mtP p q s]:=by unfold J0; rw [if_neg h,if_neg (of_decide_eq_false h2),if_pos h3]
theorem acc_4 {r:List Pl} {l:List Pt} {p q s:Pl} (h:wd3 p q s≠0) (h2:decide (ptK (mtP p q s)∈l.map ptK)=false) (h3:XU r (mtP p q s)=false):J0 r l p q s=l:=by unfold J0; rw [if_neg h,if_neg (of_decide_eq_false h2),if_neg (by rw [h3]; decide)]
def as161:MC:=(rg [oN 5 (.alloc 215 12 (iz 12)) [],oS 12 5 11 [0,0]])
def bd161:MC:=(.block 1 (sq [oL 13 12 5 [],oC 14 186 [13] [0],oM 12 14 [1],oN 15 (.ext 12 0) [2],oN 16 (.ext 12 1) [2],oN 6 (.alloc 174 4 (iz 4)) [],oS 4 6 15 [5,3,1,0,1,2,3,5],oM 7 16 (4::6::up 7)] (sq [oM 17 7 [],oM 18 17 [0],pD 19 1 4 18 true [1],oG 20 (.ld true 4 6) 18 true [1],oG 21 (.mhas 4 19 20) 18 true [2,3,1],oG 22 (.un .not 21) 18 true [4,1],oN 23 (.pick 18 22 (.c (.bool false))) [1,5],oM 24 23 [6,1],pD 25 1 1 24 true [7],oG 26 (.ld true 4 6) 24 true [7],oG 27 (.call 187 [25,26]) 24 true [8,9,7,7],oN 28 (.pick 24 27 (.c (.bool false))) [7,10]] (.cond 28 (sq [oD 29 1 4 [],oL 30 4 6 [],⟨none,(.mapadd 4 29 30 (.c (.bool true))),none,[0,1,0,1]⟩] (rg [oD 31 1 3 [],oL 32 4 6 [],oN 33 (.bslice 174 4 (iz 4) 1 [(0,32)]) [1],oN 34 (.app 174 4 32 (iz 4) 31 33) [0,2],oS 1 3 34 (3::3::up 4)])) .skip))))
theorem as161w (r:List Pl) (hr:r.length<=110) (p q s:Pl) (hok:okT p q s=true) (l:List Pt) (hl:l.length<=2000000) (o:Loop) (lb:Nat):AW Tryz.prog 36 [900,1003,903,1004,1008] (some lb) as161 (fun e F' H'=>e = .normal/\Weak 36 [900,1003,903,1004,1008] F' H' [(5,.ptr 5 0 0),(1,.rp [.rs 4 (r.map cPl)]),(3,.ptr 1003 0 0),(4,.ptr 1004 0 0)] [(900,.lp o [(10,.fn (.func 208) [.rp [.rs 4 (r.map cPl)]]),(1,.rp [.rs 4 (r.map cPl)]),(3,.ptr 1003 0 0),(4,.ptr 1004 0 0)]),(1003,.cells 170 1 [[.sl 903 0 (l).length]] false),(903,.cells 174 4 ((l).map cPt) true),(1004,.cells 211 1 [[.mp 1008]] false),(1008,.mset ((l).map ptK)),(5,.cells 215 12 [c12 p q s] true)]) [(11,.agg (c12 p q s)),(10,.fn (.func 208) [.rp [.rs 4 (r.map cPl)]]),(1,.rp [.rs 4 (r.map cPl)]),(3,.ptr 1003 0 0),(4,.ptr 1004 0 0)] [(900,.lp o [(10,.fn (.func 208) [.rp [.rs 4 (r.map cPl)]]),(1,.rp [.rs 4 (r.map cPl)]),(3,.ptr 1003 0 0),(4,.ptr 1004 0 0)]),(1003,.cells 170 1 [[.sl 903 0 (l).length]] false),(903,.cells 174 4 ((l).map cPt) true),(1004,.cells 211 1 [[.mp 1008]] false),(1008,.mset ((l).map ptK))]:=by
 delta as161
 refine gA 4 rfl ?_
 exact Qt <| ⟨rfl,Qb (Qa rfl rfl) (kS rfl rfl) (fun i hi=>by simp [Qh] at hi ⊢; omega)⟩
theorem bd161w (r:List Pl) (hr:r.length<=110) (p q s:Pl) (hok:okT p q s=true) (l:List Pt) (hl:l.length<=2000000) (o:Loop) (lb:Nat):AW Tryz.prog 36 [900,1003,903,1004,1008] (some lb) bd161 (fun e F' H'=>e = .normal/\Weak 36 [900,1003,903,1004,1008] F' H' [] [(900,.lp o [(10,.fn (.func 208) [.rp [.rs 4 (r.map cPl)]]),(1,.rp [.rs 4 (r.map cPl)]),(3,.ptr 1003 0 0),(4,.ptr 1004 0 0)]),(1003,.cells 170 1 [[.sl 904 0 (J0 r l p q s).length]] false),(904,.cells 174 4 ((J0 r l p q s).map cPt) true),(1004,.cells 211 1 [[.mp 1008]] false),(1008,.mset ((J0 r l p q s).map ptK)),(903,.dead)]) [(5,.ptr 5 0 0),(1,.rp [.rs 4 (r.map cPl)]),(3,.ptr 1003 0 0),(4,.ptr 1004 0 0)] [(900,.lp o [(10,.fn (.func 208) [.rp [.rs 4 (r.map cPl)]]),(1,.rp [.rs 4 (r.map cPl)]),(3,.ptr 1003 0 0),(4,.ptr 1004 0 0)]),(1003,.cells 170 1 [[.sl 903 0 (l).length]] false),(903,.cells 174 4 ((l).map cPt) true),(1004,.cells 211 1 [[.mp 1008]] false),(1008,.mset ((l).map ptK)),(5,.cells 215 12 [c12 p q s] true)]:=by
 delta bd161
 refine gA 4 rfl ?_
 by_cases h0:wd3 p q s=0
 ·skip
  refine cN rfl rfl (vc186_n p q s h0) (gR 24 rfl ?_)
  rw [acc_1 h0]
  exact Qt <| ⟨rfl,(Weak.trans (F1:=[]) (H1:=[(900,.lp o [(10,.fn (.func 208) [.rp [.rs 4 (r.map cPl)]]),(1,.rp [.rs 4 (r.map cPl)]),(3,.ptr 1003 0 0),(4,.ptr 1004 0 0)]),(1003,.cells 170 1 [[.sl 903 0 (l).length]] false),(903,.cells 174 4 ((l).map cPt) true),(1004,.cells 211 1 [[.mp 1008]] false),(1008,.mset ((l).map ptK))]) (Qb (.nil) (kS rfl rfl) (fun i hi=>by simp [Qh] at hi ⊢; omega)) (Weak.trans (F1:=[]) (Q2 (i:=903) (i':=904) (k:=1003) rfl rfl (.nil) (by decide) rfl (.sl _ _)) (Qb (.nil) (kS rfl rfl) (fun i hi=>by simp [Qh] at hi ⊢; omega))))⟩
 ·skip
  refine cN rfl rfl (vc186_s p q s h0 hok) (gR 13 rfl (rs_mhas (l:=ptK (mtP p q s)) rfl rfl rfl rfl rfl rfl (ptK_len l) ?_))
  cases h21:decide (ptK (mtP p q s)∈l.map ptK)
  ·skip
   refine gR 5 rfl (cN rfl rfl (vc187 r (mtP p q s) (by omega)) ?_)
   cases h27:XU r (mtP p q s)
   ·skip
    refine gR 4 rfl ?_
    rw [acc_4 h0 h21 h27]
    exact Qt <| ⟨rfl,(Weak.trans (F1:=[]) (H1:=[(900,.lp o [(10,.fn (.func 208) [.rp [.rs 4 (r.map cPl)]]),(1,.rp [.rs 4 (r.map cPl)]),(3,.ptr 1003 0 0),(4,.ptr 1004 0 0)]),(1003,.cells 170 1 [[.sl 903 0 (l).length]] false),(903,.cells 174 4 ((l).map cPt) true),(1004,.cells 211 1 [[.mp 1008]] false),(1008,.mset ((l).map ptK))]) (Qb (.nil) (kS rfl rfl) (fun i hi=>by simp [Qh] at hi ⊢; omega)) (Weak.trans (F1:=[]) (Q2 (i:=903) (i':=904) (k:=1003) rfl rfl (.nil) (by decide) rfl (.sl _ _)) (Qb (.nil) (kS rfl rfl) (fun i hi=>by simp [Qh] at hi ⊢; omega))))⟩
   ·skip
    refine gR 7 rfl (rs_mapadd (l:=ptK (mtP p q s)) rfl rfl rfl rfl rfl rfl rfl (ptK_len l) (of_decide_eq_false h21) (gR 4 rfl (bM cPt (([mtP p q s]:List Pt)) (by kernel_rfl) (gR 0 rfl (Qq (f:=cPt) (xs:=l) (y:=mtP p q s) (fl':=true) rfl rfl rfl rfl (rfl) rfl rfl rfl (by decide) rfl (by omega) (by omega) rfl (gR 2 rfl ?_))))))
    rw [acc_3 h0 h21 h27]
    exact Qt <| ⟨rfl,(Weak.trans (F1:=[]) (H1:=[(900,.lp o [(10,.fn (.func 208) [.rp [.rs 4 (r.map cPl)]]),(1,.rp [.rs 4 (r.map cPl)]),(3,.ptr 1003 0 0),(4,.ptr 1004 0 0)]),(1003,.cells 170 1 [[.sl 34 0 (l++[mtP p q s]).length]] false),(34,.cells 174 4 ((l++[mtP p q s]).map cPt) true),(1004,.cells 211 1 [[.mp 1008]] false),(1008,.mset ((l++[mtP p q s]).map ptK)),(903,.dead)]) (Qb (.nil) (.keep (rfl) rfl (.keep (by rw [Xo]; rfl) rfl (.keep (rfl) rfl (.keep (rfl) rfl (.keep (by rw [map_snocK]; rfl) rfl (kS rfl rfl)))))) (fun i hi=>by simp [Qh] at hi ⊢; omega)) (Weak.trans (F1:=[]) (Q2 (i:=34) (i':=904) (k:=1003) rfl rfl (.nil) (by decide) rfl (.sl _ _)) (Qb (.nil) (kS rfl rfl) (fun i hi=>by simp [Qh] at hi ⊢; omega))))⟩
  ·skip
   refine gR 10 rfl ?_
   rw [acc_2 h0 h21]
   exact Qt <| ⟨rfl,(Weak.trans (F1:=[]) (H1:=[(900,.lp o [(10,.fn (.func 208) [.rp [.rs 4 (r.map cPl)]]),(1,.rp [.rs 4 (r.map cPl)]),(3,.ptr 1003 0 0),(4,.ptr 1004 0 0)]),(1003,.cells 170 1 [[.sl 903 0 (l).length]] false),(903,.cells 174 4 ((l).map cPt) true),(1004,.cells 211 1 [[.mp 1008]] false),(1008,.mset ((l).map ptK))]) (Qb (.nil) (kS rfl rfl) (fun i hi=>by simp [Qh] at hi ⊢; omega)) (Weak.trans (F1:=[]) (Q2 (i:=903) (i':=904) (k:=1003) rfl rfl (.nil) (by decide) rfl (.sl _ _)) (Qb (.nil) (kS rfl rfl) (fun i hi=>by simp [Qh] at hi ⊢; omega))))⟩
theorem y161 (r:List Pl) (hr:r.length<=110) (p q s:Pl) (hok:okT p q s=true) (l:List Pt) (hl:l.length<=2000000) (r0:Loop) (h:Rec0 Tryz.prog 36 [11] as161 bd161 r0) :
  FCg (Js Tryz.prog) [.yl 900,.agg (c12 p q s)] [(900,.lp r0 [(10,.fn (.func 208) [.rp [.rs 4 (r.map cPl)]]),(1,.rp [.rs 4 (r.map cPl)]),(3,.ptr 1003 0 0),(4,.ptr 1004 0 0)]),(1003,.cells 170 1 [[.sl 903 0 (l).length]] false),(903,.cells 174 4 ((l).map cPt) true),(1004,.cells 211 1 [[.mp 1008]] false),(1008,.mset ((l).map ptK))] (.bool true) [(900,.lp r0 [(10,.fn (.func 208) [.rp [.rs 4 (r.map cPl)]]),(1,.rp [.rs 4 (r.map cPl)]),(3,.ptr 1003 0 0),(4,.ptr 1004 0 0)]),(1003,.cells 170 1 [[.sl 904 0 (J0 r l p q s).length]] false),(904,.cells 174 4 ((J0 r l p q s).map cPt) true),(1004,.cells 211 1 [[.mp 1008]] false),(1008,.mset ((J0 r l p q s).map ptK)),(903,.dead)] true:=by
 have:=round_yield (P:=Tryz.prog) (F:=[(10,.fn (.func 208) [.rp [.rs 4 (r.map cPl)]]),(1,.rp [.rs 4 (r.map cPl)]),(3,.ptr 1003 0 0),(4,.ptr 1004 0 0)]) (N:=36) (x:=as161) (y:=bd161) h.ca h.cb (li:=900) (ps:=[11]) (vs:=[.agg (c12 p q s)]) (J:=[(1003,.cells 170 1 [[.sl 903 0 (l).length]] false),(903,.cells 174 4 ((l).map cPt) true),(1004,.cells 211 1 [[.mp 1008]] false),(1008,.mset ((l).map ptK))]) (J1:=[(1003,.cells 170 1 [[.sl 903 0 (l).length]] false),(903,.cells 174 4 ((l).map cPt) true),(1004,.cells 211 1 [[.mp 1008]] false),(1008,.mset ((l).map ptK)),(5,.cells 215 12 [c12 p q s] true)]) (J':=[(1003,.cells 170 1 [[.sl 904 0 (J0 r l p q s).length]] false),(904,.cells 174 4 ((J0 r l p q s).map cPt) true),(1004,.cells 211 1 [[.mp 1008]] false),(1008,.mset ((J0 r l p q s).map ptK)),(903,.dead)]) (Fb:=[(5,.ptr 5 0 0),(1,.rp [.rs 4 (r.map cPl)]),(3,.ptr 1003 0 0),(4,.ptr 1004 0 0)]) (Z0:=[900,1003,903,1004,1008]) .normal none (.inl ⟨rfl,rfl⟩)
  rfl rfl (fun i hi=>QE.1 hi) (by simp) (fun i h=>QE.2 h) (fun i hi=>QE.1 (by simp [Qh] at hi ⊢; omega)) h.state h.params rfl rfl h.size (fun t v h=>get_mem h) (fun lb o=>as161w r hr p q s hok l hl o lb) (fun lb o=>bd161w r hr p q s hok l hl o lb)
 rw [rec_same h.state h.pending] at this
 exact this
def mcv208:MC:=(sq [oD 9 1 1 [],oE 10 9 [0],oN 11 (.mv (cI 0)) []] (.block 0 (.loop (sq [oB 12 .lss 11 10 []] (.seq (.cond 12 .skip (.exit 0)) (.seq (.block 1 (sq [oM 13 11 [],oX 14 4 9 11 [],oL 15 4 14 [1],oN 4 (.alloc 90 4 (iz 4)) [],oM 3 13 (0::up 4),oS 4 4 15 (3::2::4::up 5)] (sq [oD 16 1 1 [],oM 17 3 [],oB 18 .add 17 (cI 1) [1],oN 19 (.slc 4 16 (some 18) none) [0,2],oE 20 19 [3],oN 21 (.mv (cI 0)) []] (.block 2 (.loop (sq [oB 22 .lss 21 20 []] (.seq (.cond 22 .skip (.exit 2)) (.seq (.block 3 (sq [oM 23 21 [],oX 24 4 19 21 [],oL 25 4 24 [1],oN 6 (.alloc 90 4 (iz 4)) [],oM 5 23 (0::up 4),oS 4 6 25 (3::2::4::up 5)] (sq [oD 26 1 1 [],oM 27 3 [],oM 28 5 [],oB 29 .add 27 28 [1,2],oB 30 .add 29 (cI 2) [3],oN 31 (.slc 4 26 (some 30) none) [0,4],oE 32 31 [5],oN 33 (.mv (cI 0)) []] (.block 4 (.loop (sq [oB 34 .lss 33 32 []] (.seq (.cond 34 .skip (.exit 4)) (.seq (.block 5 (sq [oX 35 4 31 33 [],oL 36 4 35 [0],oN 8 (.alloc 90 4 (iz 4)) [],oS 4 8 36 [2,1,0,1,2]] (sq [oM 37 0 [],oL 38 4 4 [],oL 39 4 6 [],oL 40 4 8 [],oN 41 (.build (iz 12) [(0,4,38),(4,4,39),(8,4,40)]) [1,2,3],oN 42 (.callv 37 [41]) [0,4],oN 43 (.un .not 42) [5]] (.cond 43 .ret .skip)))) (rg [oB 44 .add 33 (cI 1) [],oM 33 44 [0]]))))))))) (rg [oB 45 .add 21 (cI 1) [],oM 21 45 [0]]))))))))) (rg [oB 46 .add 11 (cI 1) [],oM 11 46 [0]])))))))
theorem mcOkv208:okM Tryz.prog Tryz.f208 47=some mcv208:=by kernel_rfl
theorem vc208 (r:List Pl) (hr:r.length<=110) (hok:okTop r=true) (r0:Loop) (h:Rec0 Tryz.prog 36 [11] as161 bd161 r0):FC Tryz.prog 208 [.yl 900,.rp [.rs 4 (r.map cPl)]] [(900,.lp r0 [(10,.fn (.func 208) [.rp [.rs 4 (r.map cPl)]]),(1,.rp [.rs 4 (r.map cPl)]),(3,.ptr 1003 0 0),(4,.ptr 1004 0 0)]),(1003,.cells 170 1 [[.sl 901 0 (([]:List Pt)).length]] false),(901,.cells 174 4 ((([]:List Pt)).map cPt) true),(1004,.cells 211 1 [[.mp 1008]] false),(1008,.mset ((([]:List Pt)).map ptK))] (.tup []) [(900,.lp r0 [(10,.fn (.func 208) [.rp [.rs 4 (r.map cPl)]]),(1,.rp [.rs 4 (r.map cPl)]),(3,.ptr 1003 0 0),(4,.ptr 1004 0 0)]),(1003,.cells 170 1 [[.sl 903 0 (Xf r).length]] false),(903,.cells 174 4 ((Xf r).map cPt) true),(1004,.cells 211 1 [[.mp 1008]] false),(1008,.mset ((Xf r).map ptK)),(901,.dead)] true:=by
 refine Qg (nt:=47) Tryz.func208 rfl rfl mcOkv208 (nL rfl) ?_
 delta mcv208
 refine gA 3 rfl (Qe rfl rfl (gR 3 rfl ?_))
 refine Qo (α:=Nat×List Pt) (fun u=>r.length-u.1) (fun u=>[(0,.yl 900),(1,.rp [.rs 4 (r.map cPl)]),(9,.rs 4 (r.map cPl)),(10,iv (r.length:Int)),(11,iv (((u.1):Nat):Int))]) (fun u=>[(900,.lp r0 [(10,.fn (.func 208) [.rp [.rs 4 (r.map cPl)]]),(1,.rp [.rs 4 (r.map cPl)]),(3,.ptr 1003 0 0),(4,.ptr 1004 0 0)]),(1003,.cells 170 1 [[.sl 903 0 (u.2).length]] false),(903,.cells 174 4 ((u.2).map cPt) true),(1004,.cells 211 1 [[.mp 1008]] false),(1008,.mset ((u.2).map ptK)),(901,.dead)]) (fun u=>u.1<=r.length/\topS r u.2 (r.drop u.1)=Xf r/\u.2.length<=u.1*12100) (0,[]) (⟨by omega,rfl,by simp⟩)
  ((Weak.trans (F1:=[(0,.yl 900),(1,.rp [.rs 4 (r.map cPl)]),(9,.rs 4 (r.map cPl)),(10,iv (r.length:Int)),(11,iv (((0):Nat):Int))]) (H1:=[(900,.lp r0 [(10,.fn (.func 208) [.rp [.rs 4 (r.map cPl)]]),(1,.rp [.rs 4 (r.map cPl)]),(3,.ptr 1003 0 0),(4,.ptr 1004 0 0)]),(1003,.cells 170 1 [[.sl 901 0 (([]:List Pt)).length]] false),(901,.cells 174 4 ((([]:List Pt)).map cPt) true),(1004,.cells 211 1 [[.mp 1008]] false),(1008,.mset ((([]:List Pt)).map ptK))]) (Qb (Qa rfl rfl) (kS rfl rfl) (fun i hi=>by simp [Qh] at hi ⊢; omega)) (Weak.trans (F1:=[(0,.yl 900),(1,.rp [.rs 4 (r.map cPl)]),(9,.rs 4 (r.map cPl)),(10,iv (r.length:Int)),(11,iv (((0):Nat):Int))]) (Q2 (i:=901) (i':=903) (k:=1003) rfl rfl (.cons rfl (.same _) (.cons rfl (.same _) (.cons rfl (.same _) (.cons rfl (.same _) (.cons rfl (.same _) (.nil)))))) (by decide) rfl (.sl _ _)) (Qb (Qa rfl rfl) (kS rfl rfl) (fun i hi=>by simp [Qh] at hi ⊢; omega))))) ?_
 rintro ⟨i,l⟩ ⟨hi,hinv,hll⟩
 dsimp only at hi hinv hll ⊢
 refine gT 5 rfl (Qc rfl (fun h12=>?_) (fun h12=>?_))
 ·replace h12:=of_decide_eq_true h12
  refine gK 6 rfl ?_
  obtain ⟨p,hp,hpm⟩:=Qk (L:=r) (k:=i) (by omega)
  rw [topS_at hp] at hinv
  have hok1:=okTop_at hok hp
  have hl1:(r.drop (i+1)).length=r.length-(i+1):=List.length_drop
  refine Qi (f:=cPl) (y:=p) rfl rfl rfl (by omega) hp (gR 0 rfl (Q8 (cs:=cPl p) rfl rfl (nL rfl) rfl (gR 8 rfl (Qf rfl rfl rfl (by omega) (gR 0 rfl (Ji (l:=(i:Int)+1) (q:=((r.map cPl).length:Nat)) (els':=(r.drop (i+1)).map cPl) rfl rfl rfl rfl rfl (by omega) (by simp; omega) (Int.le_refl _) (slc_drop r (i+1) (by omega)) (gR 0 rfl (Qe rfl rfl (gR 3 rfl ?_)))))))))
  refine Qo (α:=Nat×List Pt) (fun u=>(r.drop (i+1)).length-u.1) (fun u=>[(0,.yl 900),(1,.rp [.rs 4 (r.map cPl)]),(9,.rs 4 (r.map cPl)),(10,iv (r.length:Int)),(11,iv (((i):Nat):Int)),(3,iv (((i):Nat):Int)),(4,.ptr 4 0 0),(19,.rs 4 ((r.drop (i+1)).map cPl)),(20,iv ((r.drop (i+1)).length:Int)),(21,iv (((u.1):Nat):Int))]) (fun u=>[(900,.lp r0 [(10,.fn (.func 208) [.rp [.rs 4 (r.map cPl)]]),(1,.rp [.rs 4 (r.map cPl)]),(3,.ptr 1003 0 0),(4,.ptr 1004 0 0)]),(1003,.cells 170 1 [[.sl 903 0 (u.2).length]] false),(903,.cells 174 4 ((u.2).map cPt) true),(1004,.cells 211 1 [[.mp 1008]] false),(1008,.mset ((u.2).map ptK)),(901,.dead),(4,.cells 90 4 [cPl p] true)]) (fun u=>u.1<=(r.drop (i+1)).length/\midS r p u.2 ((r.drop (i+1)).drop u.1)=midS r p l (r.drop (i+1))/\u.2.length<=i*12100+u.1*110) (0,l) (⟨by omega,rfl,by omega⟩)
   (Qb (Qa rfl rfl) (kS rfl rfl) (fun i hi=>by simp [Qh] at hi ⊢; omega)) ?_
  rintro ⟨j,m⟩ ⟨hj,hinv2,hml⟩
  dsimp only at hj hinv2 hml ⊢
  refine gT 5 rfl (Qc rfl (fun h22=>?_) (fun h22=>?_))
  ·replace h22:=of_decide_eq_true h22
   refine gK 6 rfl ?_
   obtain ⟨q,hq,hqm⟩:=Qk (L:=r.drop (i+1)) (k:=j) (by omega)
   rw [midS_at hq] at hinv2
   have hok2:=okMid_at hok1 hq
   have hl2:((r.drop (i+1)).drop (j+1)).length=(r.drop (i+1)).length-(j+1):=List.length_drop
   refine Qi (f:=cPl) (y:=q) rfl rfl rfl (by omega) hq (gR 0 rfl (Q8 (cs:=cPl q) rfl rfl (nL rfl) rfl (gR 9 rfl (Qf rfl rfl rfl (by omega) (gR 0 rfl (Qf rfl rfl rfl (by omega) (gR 0 rfl (Ji (l:=(i:Int)+(j:Int)+2) (q:=((r.map cPl).length:Nat)) (els':=((r.drop (i+1)).drop (j+1)).map cPl) rfl rfl rfl rfl rfl (by omega) (by simp; omega) (Int.le_refl _) (by rw [List.drop_drop]; exact slc_drop r _ (by omega)) (gR 0 rfl (Qe rfl rfl (gR 3 rfl ?_)))))))))))
   refine Qo (α:=Nat×List Pt) (fun u=>((r.drop (i+1)).drop (j+1)).length-u.1) (fun u=>[(0,.yl 900),(1,.rp [.rs 4 (r.map cPl)]),(9,.rs 4 (r.map cPl)),(10,iv (r.length:Int)),(11,iv (((i):Nat):Int)),(3,iv (((i):Nat):Int)),(4,.ptr 4 0 0),(19,.rs 4 ((r.drop (i+1)).map cPl)),(20,iv ((r.drop (i+1)).length:Int)),(21,iv (((j):Nat):Int)),(5,iv (((j):Nat):Int)),(6,.ptr 6 0 0),(31,.rs 4 (((r.drop (i+1)).drop (j+1)).map cPl)),(32,iv (((r.drop (i+1)).drop (j+1)).length:Int)),(33,iv (((u.1):Nat):Int))]) (fun u=>[(900,.lp r0 [(10,.fn (.func 208) [.rp [.rs 4 (r.map cPl)]]),(1,.rp [.rs 4 (r.map cPl)]),(3,.ptr 1003 0 0),(4,.ptr 1004 0 0)]),(1003,.cells 170 1 [[.sl 903 0 (u.2).length]] false),(903,.cells 174 4 ((u.2).map cPt) true),(1004,.cells 211 1 [[.mp 1008]] false),(1008,.mset ((u.2).map ptK)),(901,.dead),(4,.cells 90 4 [cPl p] true),(6,.cells 90 4 [cPl q] true)]) (fun u=>u.1<=((r.drop (i+1)).drop (j+1)).length/\innS r p q u.2 (((r.drop (i+1)).drop (j+1)).drop u.1)=innS r p q m ((r.drop (i+1)).drop (j+1))/\u.2.length<=i*12100+j*110+u.1) (0,m) (⟨by omega,rfl,by omega⟩)
    (Qb (Qa rfl rfl) (kS rfl rfl) (fun i hi=>by simp [Qh] at hi ⊢; omega)) ?_
   rintro ⟨k,n⟩ ⟨hk,hinv3,hnl⟩
   dsimp only at hk hinv3 hnl ⊢
   refine gT 5 rfl (Qc rfl (fun h34=>?_) (fun h34=>?_))
   ·replace h34:=of_decide_eq_true h34
    refine gK 5 rfl ?_
    obtain ⟨s,hs,hsm⟩:=Qk (L:=(r.drop (i+1)).drop (j+1)) (k:=k) (by omega)
    rw [innS_at hs] at hinv3
    have hokt:=List.all_eq_true.1 hok2 s hsm
    have hal:=accS_len r n p q s
    refine Qi (f:=cPl) (y:=s) rfl rfl rfl (by omega) hs (gR 0 rfl (Q8 (cs:=cPl s) rfl rfl (nL rfl) rfl (gR 10 rfl (rs_yield [(900,.lp r0 [(10,.fn (.func 208) [.rp [.rs 4 (r.map cPl)]]),(1,.rp [.rs 4 (r.map cPl)]),(3,.ptr 1003 0 0),(4,.ptr 1004 0 0)]),(1003,.cells 170 1 [[.sl 903 0 (n).length]] false),(903,.cells 174 4 ((n).map cPt) true),(1004,.cells 211 1 [[.mp 1008]] false),(1008,.mset ((n).map ptK))] rfl rfl rfl (y161 r hr p q s hokt n (by omega) r0 h) (.cons (Qd rfl) (.cons (Qd rfl) (.nil))) (.cons rfl (.cons rfl (.cons rfl (.cons rfl (.cons rfl (.nil)))))) rfl rfl rfl (gR 5 rfl (Qf rfl rfl rfl (by omega) (gR 2 rfl ?_)))))))
    exact Qz <| ⟨(k+1,J0 r n p q s),⟨by show k+1<=_; omega,hinv3,by show (J0 r n p q s).length<=i*12100+j*110+(k+1); omega⟩,by show _-(k+1)<_; omega,(Weak.trans (F1:=[(0,.yl 900),(1,.rp [.rs 4 (r.map cPl)]),(9,.rs 4 (r.map cPl)),(10,iv (r.length:Int)),(11,iv (((i):Nat):Int)),(3,iv (((i):Nat):Int)),(4,.ptr 4 0 0),(19,.rs 4 ((r.drop (i+1)).map cPl)),(20,iv ((r.drop (i+1)).length:Int)),(21,iv (((j):Nat):Int)),(5,iv (((j):Nat):Int)),(6,.ptr 6 0 0),(31,.rs 4 (((r.drop (i+1)).drop (j+1)).map cPl)),(32,iv (((r.drop (i+1)).drop (j+1)).length:Int)),(33,iv (((k+1):Nat):Int))]) (H1:=[(900,.lp r0 [(10,.fn (.func 208) [.rp [.rs 4 (r.map cPl)]]),(1,.rp [.rs 4 (r.map cPl)]),(3,.ptr 1003 0 0),(4,.ptr 1004 0 0)]),(1003,.cells 170 1 [[.sl 904 0 (J0 r n p q s).length]] false),(904,.cells 174 4 ((J0 r n p q s).map cPt) true),(1004,.cells 211 1 [[.mp 1008]] false),(1008,.mset ((J0 r n p q s).map ptK)),(901,.dead),(4,.cells 90 4 [cPl p] true),(6,.cells 90 4 [cPl q] true)]) (Qb (Qa rfl rfl) (kS rfl rfl) (fun i hi=>by simp [Qh] at hi ⊢; omega)) (Weak.trans (F1:=[(0,.yl 900),(1,.rp [.rs 4 (r.map cPl)]),(9,.rs 4 (r.map cPl)),(10,iv (r.length:Int)),(11,iv (((i):Nat):Int)),(3,iv (((i):Nat):Int)),(4,.ptr 4 0 0),(19,.rs 4 ((r.drop (i+1)).map cPl)),(20,iv ((r.drop (i+1)).length:Int)),(21,iv (((j):Nat):Int)),(5,iv (((j):Nat):Int)),(6,.ptr 6 0 0),(31,.rs 4 (((r.drop (i+1)).drop (j+1)).map cPl)),(32,iv (((r.drop (i+1)).drop (j+1)).length:Int)),(33,iv (((k+1):Nat):Int))]) (Q2 (i:=904) (i':=903) (k:=1003) rfl rfl (.cons rfl (.same _) (.cons rfl (.same _) (.cons rfl (.same _) (.cons rfl (.same _) (.cons rfl (.same _) (.cons rfl (.same _) (.cons rfl (.same _) (.cons rfl (.same _) (.cons rfl (.same _) (.cons rfl (.same _) (.cons rfl (.same _) (.cons rfl (.same _) (.cons rfl (.same _) (.cons rfl (.same _) (.cons rfl (.same _) (.nil)))))))))))))))) (by decide) rfl (.sl _ _)) (Qb (Qa rfl rfl) (kS rfl rfl) (fun i hi=>by simp [Qh] at hi ⊢; omega))))⟩
   ·replace h34:=of_decide_eq_false h34
    refine gK 2 rfl (Qf rfl rfl rfl (by omega) (gR 2 rfl ?_))
    have e:n=innS r p q m ((r.drop (i+1)).drop (j+1)):=by rw [← hinv3,List.drop_eq_nil_of_le (by omega)]; rfl
    exact Qz <| ⟨(j+1,n),⟨by show j+1<=_; omega,by rw [← hinv2,← e],by show n.length<=i*12100+(j+1)*110; omega⟩,by show _-(j+1)<_; omega,Qb (Qa rfl rfl) (kS rfl rfl) (fun i hi=>by simp [Qh] at hi ⊢; omega)⟩
  ·replace h22:=of_decide_eq_false h22
   refine gK 2 rfl (Qf rfl rfl rfl (by omega) (gR 2 rfl ?_))
   have e:m=midS r p l (r.drop (i+1)):=by rw [← hinv2,List.drop_eq_nil_of_le (by omega)]; rfl
   exact Qz <| ⟨(i+1,m),⟨by show i+1<=_; omega,by rw [← hinv,← e],by show m.length<=(i+1)*12100; omega⟩,by show _-(i+1)<_; omega,Qb (Qa rfl rfl) (kS rfl rfl) (fun i hi=>by simp [Qh] at hi ⊢; omega)⟩
 ·replace h12:=of_decide_eq_false h12
  refine gK 1 rfl ?_
  have e:l=Xf r:=by rw [← hinv,List.drop_eq_nil_of_le (by omega)]; rfl
  subst e
  exact Qt <| Jv (by first | exact .inl rfl | exact .inr rfl) rfl sm (kS rfl rfl) (.cons rfl rfl rfl (.cons rfl rfl rfl (.dead rfl rfl (.cons rfl rfl rfl (.cons rfl rfl rfl (.nil))))))
end Go.Proofs.YthfhaoogcpfboaaGreat
namespace Go.Proofs.YthfhaoogcpfboaaGreat
open Go.RowKit
set_option maxRecDepth 100000
set_option linter.unusedVariables false
theorem innS_len (r:List Pl) (p q:Pl):∀ (t:List Pl) (l:List Pt),(innS r p q l t).length<=l.length+t.length
 | [],l=>Nat.le_refl _
 | s::t,l=>by
  have h1:=innS_len r p q t (J0 r l p q s)
  have h2:=accS_len r l p q s
  show (innS r p q (J0 r l p q s) t).length<=_
  rw [List.length_cons]; omega
theorem midS_len (r:List Pl) (p:Pl) (N:Nat):∀ (t:List Pl) (l:List Pt),t.length<=N->(midS r p l t).length<=l.length+t.length*N
 | [],l,_=>Nat.le_add_right _ _
 | q::t,l,h=>by
  have h1:=midS_len r p N t (innS r p q l t) (by rw [List.length_cons] at h; omega)
  have h2:=innS_len r p q t l
  show (midS r p (innS r p q l t) t).length<=_
  rw [List.length_cons] at h ⊢
  rw [Nat.succ_mul]; omega
theorem topS_len (r:List Pl) (N:Nat):∀ (t:List Pl) (l:List Pt),t.length<=N->(topS r l t).length<=l.length+t.length*(N*N)
 | [],l,_=>Nat.le_add_right _ _
 | p::t,l,h=>by
  have h1:=topS_len r N t (midS r p l t) (by rw [List.length_cons] at h; omega)
  have h2:=midS_len r p N t l (by rw [List.length_cons] at h; omega)
  have h3:t.length*N<=N*N:=Nat.mul_le_mul_right _ (by rw [List.length_cons] at h; omega)
  show (topS r (midS r p l t) t).length<=_
  rw [List.length_cons,Nat.succ_mul]; omega
theorem corn_len {r:List Pl} (h:r.length<=110):(Xf r).length<=1331000:=by
 have h1:=topS_len r 110 r [] h
 unfold Xf
 simp only [List.length_nil] at h1
 omega
def nonS (l:List Pt) (p:Pl):Bool := !l.any (inB p)
def Ui (r:List Pl):Bool := !r.any (nonS (Xf r))
def mcv161:MC:=(sq [oN 1 (.box 167 1 0) [],oN 2 (.mv (.c .nils)) []] (sq [oN 3 (.alloc 170 1 [.nils]) []] (sq [oN 8 .mkmap [],oN 4 (.alloc 211 1 [.nilm]) [],oS 1 4 8 [1,0,0,1]] (.seq (sq [oD 9 1 1 [],oC 10 185 [9] [0]] (.block 0 (.rfunc 10 [11] (rg [oN 5 (.alloc 215 12 (iz 12)) [],oS 12 5 11 [0,0]]) (.block 1 (sq [oL 13 12 5 [],oC 14 186 [13] [0],oM 12 14 [1],oN 15 (.ext 12 0) [2],oN 16 (.ext 12 1) [2],oN 6 (.alloc 174 4 (iz 4)) [],oS 4 6 15 [5,3,1,0,1,2,3,5],oM 7 16 (4::6::up 7)] (sq [oM 17 7 [],oM 18 17 [0],pD 19 1 4 18 true [1],oG 20 (.ld true 4 6) 18 true [1],oG 21 (.mhas 4 19 20) 18 true [2,3,1],oG 22 (.un .not 21) 18 true [4,1],oN 23 (.pick 18 22 (.c (.bool false))) [1,5],oM 24 23 [6,1],pD 25 1 1 24 true [7],oG 26 (.ld true 4 6) 24 true [7],oG 27 (.call 187 [25,26]) 24 true [8,9,7,7],oN 28 (.pick 24 27 (.c (.bool false))) [7,10]] (.cond 28 (sq [oD 29 1 4 [],oL 30 4 6 [],⟨none,(.mapadd 4 29 30 (.c (.bool true))),none,[0,1,0,1]⟩] (rg [oD 31 1 3 [],oL 32 4 6 [],oN 33 (.bslice 174 4 (iz 4) 1 [(0,32)]) [1],oN 34 (.app 174 4 32 (iz 4) 31 33) [0,2],oS 1 3 34 (3::3::up 4)])) .skip))))))) (sq [oD 35 1 3 [],oM 2 35 [0,0]] .ret)))))
theorem mcOkv161:okM Tryz.prog Tryz.f161 36=some mcv161:=by kernel_rfl
theorem vc161 (r:List Pl) (hr:r.length<=110) (hok:okTop r=true):FC Tryz.prog 161 [.rs 4 (r.map cPl)] [] (.rs 4 ((Xf r).map cPt)) [] false:=by
 refine Qg (nt:=36) Tryz.func161 rfl rfl mcOkv161 (nL rfl) ?_
 delta mcv161
 refine gA 11 rfl (rs_mkmap rfl rfl (gR 7 rfl (Qr [] rfl rfl (vc185 r) (.cons (Qd rfl) .nil) .nil rfl rfl rfl (gR 2 rfl (QH (F0:=[(10,.fn (.func 208) [.rp [.rs 4 (r.map cPl)]]),(1,.rp [.rs 4 (r.map cPl)]),(3,.ptr 1003 0 0),(4,.ptr 1004 0 0)]) (H0:=[(1003,.cells 170 1 [[.sl 901 0 (([]:List Pt)).length]] false),(901,.cells 174 4 ((([]:List Pt)).map cPt) true),(1004,.cells 211 1 [[.mp 1008]] false),(1008,.mset ((([]:List Pt)).map ptK))]) (Weak.trans (F1:=[(10,.fn (.func 208) [.rp [.rs 4 (r.map cPl)]]),(1,.rp [.rs 4 (r.map cPl)]),(3,.ptr 3 0 0),(4,.ptr 4 0 0)]) (H1:=[(3,.cells 170 1 [[.nils]] true),(4,.cells 211 1 [[.mp 8]] false),(8,.mset [])]) (Qb (.cs (.cons rfl (Jc rfl rfl (.inl rfl)) (.cs (.cs (.nil))))) (kS rfl rfl) (fun i h=>by cases h)) (Weak.trans (F1:=[(10,.fn (.func 208) [.rp [.rs 4 (r.map cPl)]]),(1,.rp [.rs 4 (r.map cPl)]),(3,.ptr 3 0 0),(4,.ptr 4 0 0)]) (H1:=[(3,.cells 170 1 [[.nils]] true),(4,.cells 211 1 [[.mp 1008]] false),(1008,.mset [])]) (Weak.trans (F1:=[(10,.fn (.func 208) [.rp [.rs 4 (r.map cPl)]]),(1,.rp [.rs 4 (r.map cPl)]),(3,.ptr 3 0 0),(4,.ptr 4 0 0)]) (Q2 (i:=8) (i':=1008) (k:=4) rfl rfl (.cons rfl (.same _) (.cons rfl (.same _) (.cons rfl (.same _) (.cons rfl (.same _) (.nil))))) (by decide) rfl .mp) (Qb (Qa rfl rfl) (kS rfl rfl) (fun i h=>by cases h))) (Weak.trans (F1:=[(10,.fn (.func 208) [.rp [.rs 4 (r.map cPl)]]),(1,.rp [.rs 4 (r.map cPl)]),(3,.ptr 1003 0 0),(4,.ptr 1004 0 0)]) (H1:=[(1003,.cells 170 1 [[.nils]] true),(1004,.cells 211 1 [[.mp 1008]] false),(1008,.mset [])]) (Weak.trans (F1:=[(10,.fn (.func 208) [.rp [.rs 4 (r.map cPl)]]),(1,.rp [.rs 4 (r.map cPl)]),(3,.ptr 1003 0 0),(4,.ptr 4 0 0)]) (H1:=[(1003,.cells 170 1 [[.nils]] true),(4,.cells 211 1 [[.mp 1008]] false),(1008,.mset [])]) (wR 3 1003 (Qa rfl rfl) (kS rfl rfl) rfl) (wR 4 1004 (Qa rfl rfl) (kS rfl rfl) rfl)) (Weak.trans (F1:=[(10,.fn (.func 208) [.rp [.rs 4 (r.map cPl)]]),(1,.rp [.rs 4 (r.map cPl)]),(3,.ptr 1003 0 0),(4,.ptr 1004 0 0)]) (weak_seed (i:=901) (k:=1003) (e:=170) (z:=1) (e2:=174) (z2:=4) (fl:=true) (fl2:=true) rfl rfl) (Qb (Qa rfl rfl) (kS rfl rfl) (fun i h=>by cases h)))))) (aw_rfunc 900 [(1003,.cells 170 1 [[.sl 901 0 (([]:List Pt)).length]] false),(901,.cells 174 4 ((([]:List Pt)).map cPt) true),(1004,.cells 211 1 [[.mp 1008]] false),(1008,.mset ((([]:List Pt)).map ptK))] [(1003,.cells 170 1 [[.sl 903 0 (Xf r).length]] false),(903,.cells 174 4 ((Xf r).map cPt) true),(1004,.cells 211 1 [[.mp 1008]] false),(1008,.mset ((Xf r).map ptK)),(901,.dead)] (.inl ⟨rfl,rfl⟩) rfl (by kernel_rfl) rfl rfl rfl (.cons rfl (.cons rfl (.cons rfl (.cons rfl (.nil))))) rfl rfl rfl rfl (fun r0 hrec=>⟨r0,(by rw [hrec.state]; intro h; cases h),hrec.pending,vc208 r hr hok r0 hrec⟩) (gP 6 rfl ?_)))))))
 exact Qt <| Ql rfl (Q5 (f:=cPt) (xs:=Xf r) rfl rfl rfl (fun _=>rfl)) .nil
def mcv163:MC:=(sq [oN 2 (.box 90 4 0) [],oN 3 (.mv (.c (.bool false))) []] (sq [oD 4 1 1 [],oN 5 (.mkfn (.func 165) [2]) [],oC 6 164 [4,5] [0,1],oN 7 (.un .not 6) [2],oM 3 7 (3::2::up 4)] .ret))
theorem mcOkv163:okM Tryz.prog Tryz.f163 8=some mcv163:=by kernel_rfl
theorem vc163 (l:List Pt) (hl:l.length<=2000000) (p:Pl):FC Tryz.prog 163 [.agg (cPl p),.rp [.rs 4 (l.map cPt)]] [] (.bool (nonS l p)) [] false:=by
 refine Qg (nt:=8) Tryz.func163 rfl rfl mcOkv163 (nL rfl) ?_
 delta mcv163
 refine gA 6 rfl (QH (F0:=[(1,.rp [.rs 4 (l.map cPt)]),(2,.rp (cPl p))]) (H0:=[]) (Qb (.cs (.cons rfl (Jc rfl rfl (.inl rfl)) (.nil))) (.nil) (fun i h=>by cases h)) (gK 3 rfl (cN rfl rfl (vcC_ins p l (by omega)) (gR 4 rfl ?_))))
 exact rQ
def mcv188:MC:=(sq [oN 4 (.mv (cI 0)) []] (.seq (sq [oM 6 0 [],oE 7 6 [0],oN 8 (.mv (cI 0)) []] (.block 0 (.loop (sq [oB 9 .lss 8 7 []] (.seq (.cond 9 .skip (.exit 0)) (.seq (.block 1 (sq [oM 10 8 [],oM 5 10 [0,0]] (sq [oM 11 1 [],oM 12 0 [],oM 13 5 [],oX 14 4 12 13 [1,2],oL 15 4 14 [3],oN 16 (.callv 11 [15]) [0,4]] (.cond 16 (sq [oM 17 5 [],oM 4 17 [0,0]] .ret) .skip)))) (rg [oB 18 .add 8 (cI 1) [],oM 8 18 [0]]))))))) (sq [oN 4 (.mv (cI (-1))) []] .ret)))
theorem mcOkv188:okM Tryz.prog Tryz.f188 19=some mcv188:=by kernel_rfl
theorem vcI_non (l:List Pt) (hl:l.length<=2000000) (xs:List Pl) (hxn:xs.length<=4611686018427387904):FC Tryz.prog 188 [.rs 4 (xs.map cPl),(.fn (.func 163) [.rp [.rs 4 (l.map cPt)]])] [] (.int .i64 (XY (nonS l) xs 0)) [] false:=by
 refine Qg (nt:=19) Tryz.func188 rfl rfl mcOkv188 (nL rfl) ?_
 delta mcv188
 refine gA 8 rfl (Qe rfl rfl (gR 3 rfl ?_))
 refine Qo (α:=Nat) (fun k=>xs.length-k) (fun k=>[(0,.rs 4 (xs.map cPl)),(1,(.fn (.func 163) [.rp [.rs 4 (l.map cPt)]])),(6,.rs 4 (xs.map cPl)),(7,iv (xs.length:Int)),(8,iv (((k):Nat):Int))]) (fun k=>[]) (fun k=>k<=xs.length/\XY (nonS l) (xs.drop k) k=XY (nonS l) xs 0) 0 (⟨by omega,rfl⟩)
  (Qb (Qa rfl rfl) (.nil) (fun i h=>by cases h)) ?_
 rintro k ⟨hk,hinv⟩
 refine gT 5 rfl (Qc rfl (fun h9=>?_) (fun h9=>?_))
 ·replace h9:=of_decide_eq_true h9
  refine gK 13 rfl ?_
  obtain ⟨x,hxk,hxm⟩:=Qk (L:=xs) (k:=k) (by omega)
  rw [Ut hxk] at hinv
  refine Qi (f:=cPl) (y:=x) rfl rfl rfl (by omega) hxk (gR 0 rfl (Q8 (cs:=cPl x) rfl rfl (nL rfl) rfl (gR 0 rfl (Xq [] rfl rfl (by kernel_rfl) rfl (fc_up (vc163 l hl x)) (.cons (Qd rfl) (.cons (Qd rfl) (.nil))) .nil rfl rfl rfl ?_))))
  cases h16:(nonS l) x
  ·skip
   refine gR 4 rfl (Qf rfl rfl rfl (by omega) (gR 2 rfl ?_))
   rw [h16] at hinv
   exact Qz <| ⟨k+1,⟨by omega,hinv⟩,by omega,Qb (Qa rfl rfl) (.nil) (fun i h=>by cases h)⟩
  ·skip
   refine gR 8 rfl ?_
   rw [h16] at hinv
   rw [← hinv]
   exact rQ
 ·replace h9:=of_decide_eq_false h9
  refine gK 6 rfl ?_
  rw [JN (by omega)] at hinv
  rw [← hinv]
  exact rQ
def mcv162:MC:=(sq [oN 4 (.mv (.c (.bool false))) []] (sq [oM 5 0 [],oM 6 1 [],oC 7 188 [5,6] [0,1],oB 8 .geq 7 (cI 0) [2],oM 4 8 (3::2::up 4)] .ret))
theorem mcOkv162:okM Tryz.prog Tryz.f162 9=some mcv162:=by kernel_rfl
theorem vcC_non (l:List Pt) (hl:l.length<=2000000) (xs:List Pl) (hxn:xs.length<=4611686018427387904):FC Tryz.prog 162 [.rs 4 (xs.map cPl),(.fn (.func 163) [.rp [.rs 4 (l.map cPt)]])] [] (.bool (xs.any (nonS l))) [] false:=by
 refine Qg (nt:=9) Tryz.func162 rfl rfl mcOkv162 (nL rfl) ?_
 delta mcv162
 refine gA 8 rfl (cN rfl rfl (vcI_non l hl xs hxn) (gR 0 rfl (XZ rfl rfl rfl (gR 3 rfl ?_))))
 rw [← JB]
 exact rQ
def mcv135:MC:=(sq [oN 2 (.mv (.c (.bool false))) []] (sq [oM 4 0 [],oC 5 161 [4] [0],oN 3 (.alloc 170 1 [.nils]) [],oS 1 3 5 [2,1,1,0,1,2]] (sq [oM 6 0 [],oN 7 (.mkfn (.func 163) [3]) [],oC 8 162 [6,7] [0,1],oN 9 (.un .not 8) [2],oM 2 9 (3::2::up 4)] .ret)))
theorem mcOkv135:okM Tryz.prog Tryz.f135 10=some mcv135:=by kernel_rfl
theorem vc135 (r:List Pl) (hr:r.length<=110) (hok:okTop r=true):FC Tryz.prog 135 [.rs 4 (r.map cPl)] [] (.bool (Ui r)) [] false:=by
 have hcl:=corn_len hr
 refine Qg (nt:=10) Tryz.func135 rfl rfl mcOkv135 (nL rfl) ?_
 delta mcv135
 refine gA 7 rfl (cN rfl rfl (vc161 r hr hok) (gR 4 rfl (QH (F0:=[(0,.rs 4 (r.map cPl)),(3,.rp [.rs 4 ((Xf r).map cPt)])]) (H0:=[]) (Qb (.cs (.cons rfl (Jc rfl rfl (.inl rfl)) (.nil))) (.nil) (fun i h=>by cases h)) (gK 3 rfl (cN rfl rfl (vcC_non (Xf r) (by omega) r (by omega)) (gR 4 rfl ?_))))))
 exact rQ
end Go.Proofs.YthfhaoogcpfboaaGreat
namespace Go.Proofs.YthfhaoogcpfboaaGreat
open Go.RowKit
set_option maxRecDepth 100000
set_option linter.unusedVariables false
open Go.Shelf Go.Lib
def renGr:Go.Shelf.Ren:={ f:=fun _=>184,t:=fun n=>if n=22 then 85 else if n=25 then 90 else n,g:=fun n=>n }
theorem laysGr:Lays8.n4 Tryz.prog renGr:=by
 constructor
 case f4=>exact ⟨Tryz.f184.name,by kernel_rfl,by kernel_rfl⟩
 all_goals first | kernel_rfl | (intro _; kernel_rfl)
theorem ty90:∃ i z,Tryz.prog.info? 90=some i/\i.zero=some z/\i.size=4/\i.bytes=32/\z.cells.size=4:=by
 have h:(match Tryz.prog.info? 90 with | some i=>(match i.zero with | some z=>decide (i.size=4/\i.bytes=32/\z.cells.size=4) | none=>false) | none=>false)=true:=by kernel_rfl
 split at h
 ·rename_i i hi
  split at h
  ·rename_i z hz
   have h:=of_decide_eq_true h
   exact ⟨i,z,hi,hz,h.1,h.2.1,h.2.2⟩
  ·cases h
 ·cases h
theorem vc184 (n:Nat) (hn:1<=n/\n<=1000):FC Tryz.prog 184 [.nils,iv (n:Int)] [] (.sl 1005 0 0) [(1005,.cells 90 4 [] true)] false:=fun w S ρ cargs hH hv=>by
 obtain ⟨i0,z0,hi,hz,h1,h2,h3⟩:=ty90
 have e:cargs = #[.slice none 0 0,.int .i64 (n:Int)]:=by
  obtain ⟨L⟩:=cargs
  have h1:=hv.1
  have hv0:=hv.2 0 _ rfl
  have hv1:=hv.2 1 _ rfl
  match L,h1,hv0,hv1 with
  | [x,y],_,hv0,hv1 =>
   have e0:x = .slice none 0 0:=VR.nils_inv hv0
   have e1:y = .int .i64 (n:Int):=VR.int_inv hv1
   rw [e0,e1]
 rw [e]
 have hb:(0+n)*i0.bytes<=140737488355328:=by rw [h2]; omega
 have hg:=Any8.slices_Grow_grow laysGr i0 z0 hi hz (by omega) none 0 0 n [] w (Nat.le_refl _) (by omega) hb (by omega) (by simp) (fun _=>rfl) (fun a h=>by cases h)
 refine hg.mono fun en w' ⟨he,hw⟩=>?_
 have hge:=grownCap_ge w (0+n) 0 90
 have hle:=grownCap_le_maxLen w (0+n) 0 90 (by unfold maxLen; omega)
 replace he:en = .returned (.slice (some ⟨w.heap.size,0,none⟩) 0 (grownCap w (0+n) 0 90)):=he
 replace hw:w'=w.drew.alloc (.cells (([]:List Value).toArray++Builtin.zeroCells z0.cells (0+n-0)++Builtin.zeroCells z0.cells (grownCap w (0+n) 0 90-(0+n))) 90):=hw
 generalize grownCap w (0+n) 0 90=G at he hw hge hle
 have hsz:(([]:List Value).toArray++Builtin.zeroCells z0.cells (0+n-0)++Builtin.zeroCells z0.cells (G-(0+n))).size=G*4:=by
  simp only [Array.size_append,size_zeroCells,h3,List.size_toArray,List.length_nil]; omega
 generalize (([]:List Value).toArray++Builtin.zeroCells z0.cells (0+n-0)++Builtin.zeroCells z0.cells (G-(0+n)))=C at hw hsz
 subst hw
 have hnew:(w.drew.alloc (.cells C 90)).heap[w.heap.size]?=some (.cells C 90 (0,0)):=heap_alloc_new w.drew _
 have hsize:(w.drew.alloc (.cells C 90)).heap.size=w.heap.size+1:=by show (w.heap.push _).size=_; simp
 have hget:∀ i,i≠1005->get ([(1005,.cells 90 4 [] true)]:Hp) i=none:=fun i hi=>by simp only [get]; rw [if_neg (Ne.symm hi)]
 refine ⟨_,fun _=>False,fun i=>if i=1005 then some (some w.heap.size,4,G) else none,he,.sl 1005 0 0 w.heap.size 4 G G (if_pos rfl) (by omega) (Nat.zero_le _),⟨fun b hb=>hb.elim,fun i hi=>?_,⟨fun i o _ ho=>?_,fun i j oi oj b z z' c c' _ _ hne hi hj=>?_⟩⟩,⟨rfl,rfl,rfl,by rw [hsize]; omega,fun k hk _=>Below.heap_alloc w.drew _ k hk⟩,fun b hb=>hb.elim,fun b hb=>?_,fun i hi=>absurd rfl hi,fun i hi=>absurd rfl hi⟩
 ·by_cases h:i=1005
  ·subst h; simp [get] at hi
  ·simp [h]
 ·by_cases h:i=1005
  ·subst h
   simp [get] at ho
   subst ho
   exact ⟨some w.heap.size,4,G,if_pos rfl,rfl,fun h=>h,hle,C,hnew,hsz,Nat.zero_le _,fun j el h=>by simp at h,fun j el o v h=>by simp at h⟩
  ·rw [hget i h] at ho; cases ho
 ·have h1:i=1005:=Decidable.byContradiction fun h=>by rw [hget i h] at hi; cases hi
  have h2:j=1005:=Decidable.byContradiction fun h=>by rw [hget j h] at hj; cases hj
  exact absurd (h1.trans h2.symm) hne
 ·obtain ⟨i,ob,z,cap,_,h1,_,h2⟩:=hb
  by_cases h:i=1005
  ·subst h; simp at h2; exact .inr (by omega)
  ·rw [hget i h] at h1; cases h1
abbrev cR (c:List Pl):List AV:=[.rs 4 (c.map cPl)]
theorem flat_succ {ls:List (List Pl)} {k:Nat} {c:List Pl} (h:ls[k]?=some c):(ls.take (k+1)).flatten=(ls.take k).flatten++c:=by rw [Q3 h]; simp
theorem flat_le {ls:List (List Pl)} (k:Nat):((ls.take k).flatten).length<=ls.flatten.length:=by
 have:ls.flatten=(ls.take k).flatten++(ls.drop k).flatten:=by rw [← List.flatten_append,List.take_append_drop]
 rw [this,List.length_append]; omega
theorem addNW2 {a b:Nat} (h:a+b<=1000000):W ((a:Int)+(b:Int))=((a+b:Nat):Int):=by rw [QU (by omega)]; omega
def norms:List V3:=[⟨1,0,0⟩,⟨-1,0,0⟩,⟨0,1,0⟩,⟨0,-1,0⟩,⟨0,0,1⟩,⟨0,0,-1⟩]
def wsP (v:V3):Pl:=⟨v,24⟩
def ofS (ls:List (List Pl)):List Pl:=ls.flatten++norms.map wsP
theorem ws_succ {l:List Pl} {k:Nat} {v:V3} (h:norms[k]?=some v):l++(norms.take (k+1)).map wsP=(l++(norms.take k).map wsP)++[wsP v]:=by rw [Q3 h]; simp
def mcv160:MC:=(sq [oN 2 (.mv (.c .nils)) []] (sq [oN 3 (.mv (cI 0)) []] (.seq (sq [oM 9 0 [],oE 10 9 [0],oN 11 (.mv (cI 0)) []] (.block 0 (.loop (sq [oB 12 .lss 11 10 []] (.seq (.cond 12 .skip (.exit 0)) (.seq (.block 1 (sq [oX 13 1 9 11 [],oD 14 1 13 [0],oM 5 14 [1,0,1]] (sq [oM 15 3 [],oM 16 5 [],oE 17 16 [1],oB 18 .add 15 17 [0,2],oM 3 18 (3::up 4)] (sq [oM 19 3 [],oB 20 .lss 19 (cI 0) [0]] (.cond 20 (rg [oN 21 (.mkif 9 (.c (.str (strN [108,101,110,32,111,117,116,32,111,102,32,114,97,110,103,101])))) [],⟨none,.bot,none,[0]⟩]) .skip))))) (rg [oB 22 .add 11 (cI 1) [],oM 11 22 [0]]))))))) (sq [oM 23 3 [],oC 24 184 [(.c .nils),23] [0],oM 6 24 [1,1,0,1]] (.seq (sq [oM 25 0 [],oE 26 25 [0],oN 27 (.mv (cI 0)) []] (.block 2 (.loop (sq [oB 28 .lss 27 26 []] (.seq (.cond 28 .skip (.exit 2)) (.seq (.block 3 (sq [oX 29 1 25 27 [],oD 30 1 29 [0],oM 8 30 [1,0,1]] (rg [oM 31 6 [],oM 32 8 [],oN 33 (.app 90 4 32 (iz 4) 31 32) [0,1],oM 6 33 [2,2,0,1,2]]))) (rg [oB 34 .add 27 (cI 1) [],oM 27 34 [0]]))))))) (sq [oM 35 6 [],oM 2 35 [0,0]] .ret))))))
theorem mcOkv160:okM Tryz.prog Tryz.f160 36=some mcv160:=by kernel_rfl
theorem vc160 (ls:List (List Pl)) (hn:1<=ls.flatten.length/\ls.flatten.length<=1000) (hl:ls.length<=100):FC Tryz.prog 160 [.rs 1 (ls.map cR)] [] (.sl 1005 0 ls.flatten.length) [(1005,.cells 90 4 (ls.flatten.map cPl) true)] false:=by
 refine Qg (nt:=36) Tryz.func160 rfl rfl mcOkv160 (nL rfl) ?_
 delta mcv160
 refine gA 12 rfl (Qe rfl rfl (gR 3 rfl ?_))
 refine Qo (α:=Nat) (fun k=>ls.length-k) (fun k=>[(0,.rs 1 (ls.map cR)),(9,.rs 1 (ls.map cR)),(10,iv (ls.length:Int)),(11,iv (((k):Nat):Int)),(3,iv ((((ls.take (k)).flatten).length:Nat):Int))]) (fun k=>[]) (fun k=>k<=ls.length) 0 (by omega)
  (Qb (Qa rfl rfl) (.nil) (fun i h=>by cases h)) ?_
 intro k hk
 refine gT 5 rfl (Qc rfl (fun h12=>?_) (fun h12=>?_))
 ·replace h12:=of_decide_eq_true h12
  refine gK 5 rfl ?_
  obtain ⟨c,hck,hcm⟩:=Qk (L:=ls) (k:=k) (by omega)
  have hfl:=flat_le (ls:=ls) (k+1)
  have hfs:((ls.take (k+1)).flatten).length=((ls.take k).flatten).length+c.length:=by rw [flat_succ hck,List.length_append]
  refine Qi (f:=cR) (y:=c) rfl rfl rfl (by omega) hck (gR 7 rfl (Qe rfl rfl (gR 0 rfl (QS (c:=((((ls.take (k+1)).flatten).length:Nat):Int)) rfl rfl rfl (by rw [hfs]; exact addNW2 (by omega)) (gR 5 rfl (Qp rfl rfl rfl rfl (by omega) (gR 4 rfl (Qf rfl rfl rfl (by omega) (gR 2 rfl ?_)))))))))
  exact Qz <| ⟨k+1,by omega,by omega,Qb (Qa rfl rfl) (.nil) (fun i h=>by cases h)⟩
 ·replace h12:=of_decide_eq_false h12
  refine gK 2 rfl ?_
  obtain rfl:k=ls.length:=by omega
  have hfa:ls.take ls.length=ls:=List.take_of_length_le (Nat.le_refl _)
  refine gI 2 rfl ?_
  rw [hfa]
  refine cN rfl rfl (vc184 ls.flatten.length hn) (gR 6 rfl (Qe rfl rfl (gR 3 rfl ?_)))
  refine Qo (α:=Nat) (fun k=>ls.length-k) (fun k=>[(25,.rs 1 (ls.map cR)),(26,iv (ls.length:Int)),(27,iv (((k):Nat):Int)),(6,.sl 1005 0 ((ls.take (k)).flatten).length)]) (fun k=>[(1005,.cells 90 4 (((ls.take (k)).flatten).map cPl) true)]) (fun k=>k<=ls.length) 0 (by omega)
   (Qb (Qa rfl rfl) (.keep rfl rfl .nil) nz) ?_
  intro k hk
  refine gT 5 rfl (Qc rfl (fun h28=>?_) (fun h28=>?_))
  ·replace h28:=of_decide_eq_true h28
   refine gK 5 rfl ?_
   obtain ⟨c,hck,hcm⟩:=Qk (L:=ls) (k:=k) (by omega)
   have hfl:=flat_le (ls:=ls) (k+1)
   have hfs:((ls.take (k+1)).flatten).length=((ls.take k).flatten).length+c.length:=by rw [flat_succ hck,List.length_append]
   refine Qi (f:=cR) (y:=c) rfl rfl rfl (by omega) hck (gR 6 rfl (Ju (f:=cPl) (xs:=(ls.take k).flatten) (ys:=c) (m:=c.length) (rd:=[]) rfl rfl rfl rfl rfl rfl rfl (by simp) (fun _=>rfl) rfl rfl (by omega) (by omega) (fun _=>rfl) (gR 3 rfl (Qf rfl rfl rfl (by omega) (gR 2 rfl ?_)))))
   exact Qz <| ⟨k+1,by omega,by omega,by rw [hfs,flat_succ hck]; exact QB (i:=33) (i':=1005) (F1:=[(25,.rs 1 (ls.map cR)),(26,iv (ls.length:Int)),(27,iv (((k+1):Nat):Int)),(6,.sl 33 0 (((ls.take k).flatten).length+c.length))]) (H1:=[(33,.cells 90 4 (((ls.take k).flatten++c).map cPl) true)]) (Qa rfl rfl) (.keep rfl rfl .nil) nz rfl rfl (.cons rfl (.same _) (.cons rfl (.same _) (.cons rfl (.same _) (.cons rfl (.sl _ _) (.nil))))) (Qa rfl rfl) (.keep rfl rfl .nil) nz⟩
  ·replace h28:=of_decide_eq_false h28
   refine gK 7 rfl ?_
   obtain rfl:k=ls.length:=by omega
   rw [List.take_of_length_le (Nat.le_refl _)]
   exact Qt <| Ql rfl (Qs rfl (.inr rfl)) (.keep rfl rfl (Jg (fun _=>rfl) _) .nil)
def mcv134:MC:=(sq [oN 2 (.mv (.c .nils)) []] (sq [oM 6 0 [],oC 7 160 [6] [0],oM 3 7 [1,1,0,1]] (.seq (sq [oN 8 (.build (iz 3) [(0,1,(cI 1))]) [],oN 9 (.build (iz 3) [(0,1,(cI (-1)))]) [],oN 10 (.build (iz 3) [(1,1,(cI 1))]) [],oN 11 (.build (iz 3) [(1,1,(cI (-1)))]) [],oN 12 (.build (iz 3) [(2,1,(cI 1))]) [],oN 13 (.build (iz 3) [(2,1,(cI (-1)))]) [],oN 14 (.bslice 88 3 (iz 3) 6 [(0,8),(1,9),(2,10),(3,11),(4,12),(5,13)]) (up 6),oE 15 14 [6],oN 16 (.mv (cI 0)) []] (.block 0 (.loop (sq [oB 17 .lss 16 15 []] (.seq (.cond 17 .skip (.exit 0)) (.seq (.block 1 (sq [oX 18 3 14 16 [],oL 19 3 18 [0],oN 5 (.alloc 88 3 (iz 3)) [],oS 3 5 19 [2,1,0,1,2]] (rg [oM 20 3 [],oL 21 3 5 [],oN 22 (.build (iz 4) [(0,3,21),(3,1,(cI 24))]) [1],oN 23 (.bslice 90 4 (iz 4) 1 [(0,22)]) [2],oN 24 (.app 90 4 32 (iz 4) 20 23) [0,3],oM 3 24 (4::4::up 5)]))) (rg [oB 25 .add 16 (cI 1) [],oM 16 25 [0]]))))))) (sq [oM 26 3 [],oM 2 26 [0,0]] .ret))))
theorem mcOkv134:okM Tryz.prog Tryz.f134 27=some mcv134:=by kernel_rfl
theorem vc134 (ls:List (List Pl)) (hn:1<=ls.flatten.length/\ls.flatten.length<=1000) (hl:ls.length<=100):FC Tryz.prog 134 [.rs 1 (ls.map cR)] [] (.rs 4 ((ofS ls).map cPl)) [] false:=by
 refine Qg (nt:=27) Tryz.func134 rfl rfl mcOkv134 (nL rfl) ?_
 delta mcv134
 refine gA 7 rfl (cN rfl rfl (vc160 ls hn hl) (gR 11 rfl (bM cV (norms) (by kernel_rfl) (gR 0 rfl (QC rfl rfl (gR 3 rfl ?_))))))
 refine Qo (α:=Nat) (fun k=>6-k) (fun k=>[(3,.sl 1005 0 (ls.flatten.length+(k))),(14,.rs 3 (norms.map cV)),(15,iv ((6:Nat):Int)),(16,iv (((k):Nat):Int))]) (fun k=>[(1005,.cells 90 4 ((ls.flatten++(norms.take (k)).map wsP).map cPl) true)]) (fun k=>k<=6) 0 (by omega)
  (Qb (.cs (.cons rfl (Q5 (f:=cV) (xs:=norms) rfl rfl rfl (fun _=>rfl)) (.cs (.cs (.nil))))) (.keep (by simp [get]) rfl (.nil)) (fun i h=>by cases h)) ?_
 intro k hk
 refine gT 5 rfl (Qc rfl (fun h17=>?_) (fun h17=>?_))
 ·replace h17:=of_decide_eq_true h17
  refine gK 5 rfl ?_
  obtain ⟨v,hvk,hvm⟩:=Qk (L:=norms) (k:=k) (by show k<6; omega)
  refine Qi (f:=cV) (y:=v) rfl rfl rfl (by omega) hvk (gR 0 rfl (Q8 (cs:=cV v) rfl rfl (nL rfl) rfl (gR 7 rfl (bM cPl (([wsP v]:List Pl)) (by kernel_rfl) (gR 0 rfl (Qq (f:=cPl) (xs:=ls.flatten++(norms.take k).map wsP) (y:=wsP v) (fl':=true) rfl rfl rfl rfl (by simp; rw [show norms.length=6 from rfl]; omega) rfl rfl rfl (by decide) rfl (by omega) (by omega) rfl (gR 3 rfl (Qf rfl rfl rfl (by omega) (gR 2 rfl ?_)))))))))
  exact Qz <| ⟨k+1,by omega,by omega,QB (i:=24) (i':=1005) (F1:=[(3,.sl 24 0 (ls.flatten.length+(k+1))),(14,.rs 3 (norms.map cV)),(15,iv ((6:Nat):Int)),(16,iv (((k+1):Nat):Int))]) (H1:=[(24,.cells 90 4 ((ls.flatten++(norms.take (k+1)).map wsP).map cPl) true)]) (Qa rfl rfl) (.keep (by rw [ws_succ hvk]; rfl) rfl (.nil)) (fun i h=>by cases h) rfl rfl (.cons rfl (.sl _ _) (.cons rfl (.same _) (.cons rfl (.same _) (.cons rfl (.same _) (.nil))))) (Qa rfl rfl) (.keep rfl rfl .nil) nz⟩
 ·replace h17:=of_decide_eq_false h17
  refine gK 7 rfl ?_
  obtain rfl:k=6:=by omega
  exact Qt <| Ql rfl (Q5 (f:=cPl) (xs:=ofS ls) rfl rfl (by simp [ofS,norms]) (fun _=>rfl)) .nil
end Go.Proofs.YthfhaoogcpfboaaGreat
namespace Go.Proofs.YthfhaoogcpfboaaGreat
open Go.RowKit
set_option maxRecDepth 100000
set_option linter.unusedVariables false
theorem all_at {α:Type} {p:α->Bool} {l:List α} {k:Nat} {x:α} (h:l[k]?=some x):(l.drop k).all p=(p x&&(l.drop (k+1)).all p):=by rw [Jo h]; rfl
theorem withinS_at {m:Int} {l:List Int} {k:Nat} {x:Int} (h:l[k]?=some x):J4 m (l.drop k)=(decide (-m<=x/\x<=m)&&J4 m (l.drop (k+1))):=all_at h
def Qw (p:Pl):Bool:=J4 4608 [p.n.x,p.n.y,p.n.z]&&decide ((gL [p.n.x,p.n.y,p.n.z]:Int)=1)&&J4 2097152 [p.b]
def badP (p:Pl):Bool := !Qw p
def ckS (c:List Pl):Int:=if c.length>48 then 2 else if c.any badP=true then 12 else 0
def badC (c:List Pl):Bool:=decide (ckS c≠0)
def Xm (ls:List (List Pl)):Bool := !ls.any badC
def QO (c:List Pl):Bool:=Xm [c]&&Ui (ofS [c])
def Xw (a b:List Pl):Bool := !Xm [a,b] || !Ui (ofS [a,b])
def Ug (c q:List Pl):Bool := !Xw c q
def Xz (c:List Pl) (s:List (List Pl)):Bool := !s.any (Ug c)
theorem within_bd {m:Int} {l:List Int} (h:J4 m l=true):∀ x∈l,-m<=x/\x<=m:=fun x hx=>of_decide_eq_true (List.all_eq_true.1 h x hx)
theorem XT {a b A B:Int} (ha : -A<=a/\a<=A) (hb : -B<=b/\b<=B) : -(A*B)<=a*b/\a*b<=A*B:=by
 have h1:(a*b).natAbs<=A.toNat*B.toNat:=by rw [Int.natAbs_mul]; exact Nat.mul_le_mul (by omega) (by omega)
 have h2:((A.toNat*B.toNat:Nat):Int)=A*B:=by rw [Int.natCast_mul,Int.toNat_of_nonneg (by omega),Int.toNat_of_nonneg (by omega)]
 omega
def VB (m:Int) (v:V3):Prop:=(-m<=v.x/\v.x<=m)/\(-m<=v.y/\v.y<=m)/\(-m<=v.z/\v.z<=m)
theorem Jy {a b:V3} (ha:VB 4608 a) (hb:VB 4608 b):VB 42467328 (Q6 a b):=by
 obtain ⟨ax,ay,az⟩:=ha
 obtain ⟨bx,by_,bz⟩:=hb
 have e1:=XT ay bz; have e2:=XT az by_; have e3:=XT az bx; have e4:=XT ax bz; have e5:=XT ax by_; have e6:=XT ay bx
 simp only [Q6]
 rw [QU (n:=a.y*b.z) (by omega),QU (n:=a.z*b.y) (by omega),QU (n:=a.z*b.x) (by omega),QU (n:=a.x*b.z) (by omega),QU (n:=a.x*b.y) (by omega),QU (n:=a.y*b.x) (by omega),QU (n:=a.y*b.z-a.z*b.y) (by omega),QU (n:=a.z*b.x-a.x*b.z) (by omega),QU (n:=a.x*b.y-a.y*b.x) (by omega)]
 refine ⟨?_,?_,?_⟩ <;> dsimp only <;> omega
theorem timesW_b {v:V3} {n:Int} (hv:VB 42467328 v) (hn : -2097152<=n/\n<=2097152):VB 89060441849856 (QK v n):=by
 obtain ⟨ax,ay,az⟩:=hv
 have e1:=XT ax hn; have e2:=XT ay hn; have e3:=XT az hn
 simp only [QK]
 rw [QU (n:=v.x*n) (by omega),QU (n:=v.y*n) (by omega),QU (n:=v.z*n) (by omega)]
 refine ⟨?_,?_,?_⟩ <;> dsimp only <;> omega
theorem addW_b {a b:V3} {A B C:Int} (ha:VB A a) (hb:VB B b) (h:A+B<=C:=by decide) (hC:C<=1000000000000000:=by decide):VB C (Un a b):=by
 obtain ⟨ax,ay,az⟩:=ha
 obtain ⟨bx,by_,bz⟩:=hb
 simp only [Un]
 rw [QU (n:=a.x+b.x) (by omega),QU (n:=a.y+b.y) (by omega),QU (n:=a.z+b.z) (by omega)]
 refine ⟨?_,?_,?_⟩ <;> dsimp only <;> omega
theorem dotW_b {a b:V3} (ha:VB 4608 a) (hb:VB 42467328 b) : -1000000000000<=dotW a b/\dotW a b<=1000000000000:=by
 obtain ⟨ax,ay,az⟩:=ha
 obtain ⟨bx,by_,bz⟩:=hb
 have e1:=XT ax bx; have e2:=XT ay by_; have e3:=XT az bz
 unfold dotW
 rw [QU (n:=a.x*b.x) (by omega),QU (n:=a.y*b.y) (by omega),QU (n:=a.z*b.z) (by omega),QU (n:=a.x*b.x+a.y*b.y) (by omega),QU (by omega)]
 omega
theorem JR {p:Pl} (h:Qw p=true):VB 4608 p.n/\(-2097152<=p.b/\p.b<=2097152):=by
 simp only [Qw,Bool.and_eq_true] at h
 have h1:=within_bd h.1.1
 exact ⟨⟨h1 _ (by simp),h1 _ (by simp),h1 _ (by simp)⟩,within_bd h.2 _ (by simp)⟩
theorem sum3_b {p q r:Pl} (hp:Qw p=true) (hq:Qw q=true) (hr:Qw r=true):VB 267181325549568 (Xk p q r)/\(-1000000000000<=wd3 p q r/\wd3 p q r<=1000000000000):=by
 obtain ⟨p1,p2⟩:=JR hp
 obtain ⟨q1,q2⟩:=JR hq
 obtain ⟨r1,r2⟩:=JR hr
 refine ⟨?_,dotW_b r1 (Jy p1 q1)⟩
 have z:VB 0 (⟨0,0,0⟩:V3):=⟨by decide,by decide,by decide⟩
 exact addW_b (A:=178120883699712) (addW_b (A:=89060441849856) (addW_b z (timesW_b (Jy q1 r1) p2)) (timesW_b (Jy r1 p1) q2)) (timesW_b (Jy p1 q1) r2)
theorem okT_valid {p q r:Pl} (hp:Qw p=true) (hq:Qw q=true) (hr:Qw r=true):okT p q r=true:=by
 obtain ⟨⟨h1,h2,h3⟩,h4⟩:=sum3_b hp hq hr
 refine List.all_eq_true.2 fun x hx=>decide_eq_true ?_
 simp only [List.mem_cons,List.not_mem_nil,or_false] at hx
 rcases hx with rfl | rfl | rfl | rfl <;> omega
theorem okMid_valid {p:Pl} (hp:Qw p=true):∀ {t:List Pl},(∀ q∈t,Qw q=true)->okMid p t=true
 | [],_=>rfl
 | q::t,h=>by
  simp only [okMid,Bool.and_eq_true]
  exact ⟨List.all_eq_true.2 fun s hs=>okT_valid hp (h q (List.mem_cons_self ..)) (h s (List.mem_cons_of_mem _ hs)),okMid_valid hp fun s hs=>h s (List.mem_cons_of_mem _ hs)⟩
theorem okTop_valid:∀ {r:List Pl},(∀ q∈r,Qw q=true)->okTop r=true
 | [],_=>rfl
 | p::t,h=>by
  simp only [okTop,Bool.and_eq_true]
  exact ⟨okMid_valid (h p (List.mem_cons_self ..)) fun s hs=>h s (List.mem_cons_of_mem _ hs),okTop_valid fun s hs=>h s (List.mem_cons_of_mem _ hs)⟩
theorem ck_ok {c:List Pl} (h:badC c=false):c.length<=48/\∀ p∈c,Qw p=true:=by
 have h:=of_decide_eq_false h
 unfold ckS at h
 split at h
 ·exact absurd (by decide) h
 ·rename_i h1
  split at h
  ·exact absurd (by decide) h
  ·rename_i h2
   refine ⟨by omega,fun p hp=>?_⟩
   cases hv:Qw p with
   | true=>rfl
   | false=>exact absurd (List.any_eq_true.2 ⟨p,hp,by simp [badP,hv]⟩) h2
theorem valid_all {ls:List (List Pl)} (h:Xm ls=true):∀ c∈ls,c.length<=48/\∀ p∈c,Qw p=true:=fun c hc=>by
 refine ck_ok ?_
 cases hb:badC c with
 | false=>rfl
 | true =>
  unfold Xm at h
  rw [List.any_eq_true.2 ⟨c,hc,hb⟩] at h; cases h
theorem norms_valid:∀ p∈norms.map wsP,Qw p=true:=by decide +kernel
theorem Ue {ls:List (List Pl)} (h:Xm ls=true):∀ p∈ofS ls,Qw p=true:=fun p hp=>by
 rcases List.mem_append.1 hp with hp | hp
 ·obtain ⟨c,hc,hp⟩:=List.mem_flatten.1 hp
  exact (valid_all h c hc).2 p hp
 ·exact norms_valid p hp
structure OkC (c:List Pl):Prop where
 n:1<=c.length/\c.length<=100
structure OkA (a b:List Pl):Prop where
 n:1<=a.length/\a.length<=100
 m:b.length<=100
theorem OkA.fl {a b:List Pl} (h:OkA a b):1<=[a,b].flatten.length/\[a,b].flatten.length<=1000:=by
 have:=h.n; have:=h.m; simp; omega
theorem OkA.of {a b:List Pl} (h:Xm [a,b]=true):(ofS [a,b]).length<=110:=by
 have h1:=(valid_all h a (by simp)).1; have h2:=(valid_all h b (by simp)).1; simp [ofS,norms]; omega
theorem OkC.fl {c:List Pl} (h:OkC c):1<=[c].flatten.length/\[c].flatten.length<=1000:=by
 have:=h.n; simp; omega
theorem OkC.of {c:List Pl} (h:Xm [c]=true):(ofS [c]).length<=110:=by
 have h1:=(valid_all h c (by simp)).1; simp [ofS,norms]; omega
def mcv182:MC:=(sq [oN 4 (.mv (.c (.bool false))) []] (.seq (sq [oM 7 1 [],oE 8 7 [0],oN 9 (.mv (cI 0)) []] (.block 0 (.loop (sq [oB 10 .lss 9 8 []] (.seq (.cond 10 .skip (.exit 0)) (.seq (.block 1 (sq [oX 11 1 7 9 [],oD 12 1 11 [0],oM 6 12 [1,0,1]] (sq [oM 13 6 [],oM 14 0 [],oN 15 (.un .neg 14) [1],oB 16 .lss 13 15 [0,2],oM 17 16 [3],pM 18 6 17 false [4],pM 19 0 17 false [4],oG 20 (.bin .gtr 18 19) 17 false [5,6,4],oN 21 (.pick 17 (.c (.bool true)) 20) [4,7]] (.cond 21 (sq [oN 4 (.mv (.c (.bool false))) []] .ret) .skip)))) (rg [oB 22 .add 9 (cI 1) [],oM 9 22 [0]]))))))) (sq [oN 4 (.mv (.c (.bool true))) []] .ret)))
theorem mcOkv182:okM Tryz.prog Tryz.f182 23=some mcv182:=by kernel_rfl
theorem vc182 (m:Int) (l:List Int) (hm:0<=m/\m<=1000000000) (hn:l.length<=1000):FC Tryz.prog 182 [iv m,ints l] [] (.bool (J4 m l)) [] false:=by
 refine Qg (nt:=23) Tryz.func182 rfl rfl mcOkv182 (nL rfl) ?_
 delta mcv182
 refine gA 8 rfl (Qe rfl rfl (gR 3 rfl ?_))
 refine Qo (α:=Nat) (fun k=>l.length-k) (fun k=>[(0,iv m),(7,ints l),(8,iv (l.length:Int)),(9,iv (((k):Nat):Int))]) (fun k=>[]) (fun k=>k<=l.length/\J4 m (l.drop k)=J4 m l) 0 (⟨by omega,rfl⟩)
  (Qb (Qa rfl rfl) (.nil) (fun i h=>by cases h)) ?_
 rintro k ⟨hk,hinv⟩
 refine gT 5 rfl (Qc rfl (fun h10=>?_) (fun h10=>?_))
 ·replace h10:=of_decide_eq_true h10
  refine gK 5 rfl ?_
  obtain ⟨x,hxk,hxm⟩:=Qk (L:=l) (k:=k) (by omega)
  rw [withinS_at hxk] at hinv
  refine Qi (f:=ci) (y:=x) rfl rfl rfl (by omega) hxk (gR 7 rfl (JM rfl rfl (by omega) (gR 0 rfl (Qx rfl rfl rfl rfl (fun h16=>?_) (fun h16=>?_)))))
  ·skip
   refine gR 12 rfl ?_
   rw [decide_eq_false (show ¬ (-m<=x/\x<=m) by omega),Bool.false_and] at hinv
   rw [← hinv]
   exact rQ
  ·skip
   refine gR 3 rfl (Qx rfl rfl rfl rfl (fun h20=>?_) (fun h20=>?_))
   ·skip
    refine gR 8 rfl ?_
    rw [decide_eq_false (show ¬ (-m<=x/\x<=m) by omega),Bool.false_and] at hinv
    rw [← hinv]
    exact rQ
   ·skip
    refine gR 5 rfl (Qf rfl rfl rfl (by omega) (gR 2 rfl ?_))
    rw [decide_eq_true (show -m<=x/\x<=m by omega),Bool.true_and] at hinv
    exact Qz <| ⟨k+1,⟨by omega,hinv⟩,by omega,Qb (Qa rfl rfl) (.nil) (fun i h=>by cases h)⟩
 ·replace h10:=of_decide_eq_false h10
  refine gK 6 rfl ?_
  rw [List.drop_eq_nil_of_le (by omega)] at hinv
  rw [← hinv]
  exact rQ
def mcv157:MC:=(sq [oN 1 (.box 90 4 0) [],oN 2 (.mv (.c (.bool false))) []] (sq [oA 3 0 1 [],oA 4 0 3 [0],oD 5 1 4 [1],oA 6 0 1 [],oA 7 1 6 [3],oD 8 1 7 [4],oA 9 0 1 [],oA 10 2 9 [6],oD 11 1 10 [7],oN 12 (.bslice 3 1 [(iv 0)] 3 [(0,5),(1,8),(2,11)]) [2,5,8],oC 13 182 [(cI 4608),12] [9],oM 14 13 [10,10],pA 15 0 1 14 true [11],pA 16 0 15 14 true [12,11],pD 17 1 16 14 true [13,11],pA 18 0 1 14 true [11],pA 19 1 18 14 true [15,11],pD 20 1 19 14 true [16,11],pA 21 0 1 14 true [11],pA 22 2 21 14 true [18,11],pD 23 1 22 14 true [19,11],oG 24 (.bslice 3 1 [(iv 0)] 3 [(0,17),(1,20),(2,23)]) 14 true [14,17,20,11],oG 25 (.call 183 [24]) 14 true [21,11,11],oG 26 (.bin .eql 25 (cI 1)) 14 true [22,11],oN 27 (.pick 14 26 (.c (.bool false))) [11,23],oM 28 27 [24,22],pA 29 3 1 28 true [25],pD 30 1 29 28 true [26,25],oG 31 (.bslice 3 1 [(iv 0)] 1 [(0,30)]) 28 true [27,25],oG 32 (.call 182 [(cI 2097152),31]) 28 true [28,25,25],oN 33 (.pick 28 32 (.c (.bool false))) [25,29],oM 2 33 (30::29::up 31)] .ret))
theorem mcOkv157:okM Tryz.prog Tryz.f157 34=some mcv157:=by kernel_rfl
theorem vc157 (p:Pl):FC Tryz.prog 157 [.agg (cPl p)] [] (.bool (Qw p)) [] false:=by
 refine Qg (nt:=34) Tryz.func157 rfl rfl mcOkv157 (nL rfl) ?_
 delta mcv157
 refine gA 16 rfl (bM ci (([p.n.x,p.n.y,p.n.z]:List Int)) (by kernel_rfl) (gR 0 rfl (QD [12] rfl rfl (vc182 4608 [p.n.x,p.n.y,p.n.z] (by decide) (by simp)) (.cons (Qd rfl) (.cons (QW (f:=ci) (xs:=[p.n.x,p.n.y,p.n.z]) (by simp) rfl rfl) (.nil))) rfl ?_)))
 cases h13:J4 4608 [p.n.x,p.n.y,p.n.z]
 ·skip
  refine gR 23 rfl ?_
  rw [show Qw p=false from by unfold Qw; rw [h13]; rfl]
  exact rQ
 ·skip
  refine gR 10 rfl (bM ci (([p.n.x,p.n.y,p.n.z]:List Int)) (by kernel_rfl) (gR 0 rfl (QD [24] rfl rfl (fc46 [p.n.x,p.n.y,p.n.z] (fun x hx=>by have:=within_bd h13 x hx; omega) (by simp)) (.cons (QW (f:=ci) (xs:=[p.n.x,p.n.y,p.n.z]) (by simp) rfl rfl) (.nil)) rfl (gR 0 rfl (Qx rfl rfl rfl rfl (fun h26=>?_) (fun h26=>?_))))))
  ·skip
   refine gR 4 rfl (bM ci (([p.b]:List Int)) (by kernel_rfl) (gR 0 rfl (QD [31] rfl rfl (vc182 2097152 [p.b] (by decide) (by simp)) (.cons (Qd rfl) (.cons (QW (f:=ci) (xs:=[p.b]) (by simp) rfl rfl) (.nil))) rfl ?_)))
   cases h32:J4 2097152 [p.b]
   ·skip
    refine gR 4 rfl ?_
    rw [show Qw p=false from by unfold Qw; rw [h13,decide_eq_true h26,h32]; rfl]
    exact rQ
   ·skip
    refine gR 4 rfl ?_
    rw [show Qw p=true from by unfold Qw; rw [h13,decide_eq_true h26,h32]; rfl]
    exact rQ
  ·skip
   refine gR 10 rfl ?_
   rw [show Qw p=false from by unfold Qw; rw [h13,decide_eq_false h26]; rfl]
   exact rQ
def mcv156:MC:=(sq [oN 1 (.box 90 4 0) [],oN 2 (.mv (.c (.bool false))) []] (sq [oL 3 4 1 [],oC 4 157 [3] [0],oN 5 (.un .not 4) [1],oM 2 5 [2,1,0,1,2]] .ret))
theorem mcOkv156:okM Tryz.prog Tryz.f156 6=some mcv156:=by kernel_rfl
theorem vc156 (p:Pl):FC Tryz.prog 156 [.agg (cPl p)] [] (.bool (badP p)) [] false:=by
 refine Qg (nt:=6) Tryz.func156 rfl rfl mcOkv156 (nL rfl) ?_
 delta mcv156
 refine gA 8 rfl (cN rfl rfl (vc157 p) (gR 4 rfl ?_))
 exact rQ
theorem vcI_bad (xs:List Pl) (hxn:xs.length<=4611686018427387904):FC Tryz.prog 181 [.rs 4 (xs.map cPl),(.fn (.func 156) [])] [] (.int .i64 (XY badP xs 0)) [] false:=by
 refine Qg (nt:=19) Tryz.func181 rfl rfl mcOkv181 (nL rfl) ?_
 delta mcv181
 refine gA 8 rfl (Qe rfl rfl (gR 3 rfl ?_))
 refine Qo (α:=Nat) (fun k=>xs.length-k) (fun k=>[(0,.rs 4 (xs.map cPl)),(1,(.fn (.func 156) [])),(6,.rs 4 (xs.map cPl)),(7,iv (xs.length:Int)),(8,iv (((k):Nat):Int))]) (fun k=>[]) (fun k=>k<=xs.length/\XY badP (xs.drop k) k=XY badP xs 0) 0 (⟨by omega,rfl⟩)
  (Qb (Qa rfl rfl) (.nil) (fun i h=>by cases h)) ?_
 rintro k ⟨hk,hinv⟩
 refine gT 5 rfl (Qc rfl (fun h9=>?_) (fun h9=>?_))
 ·replace h9:=of_decide_eq_true h9
  refine gK 13 rfl ?_
  obtain ⟨x,hxk,hxm⟩:=Qk (L:=xs) (k:=k) (by omega)
  rw [Ut hxk] at hinv
  refine Qi (f:=cPl) (y:=x) rfl rfl rfl (by omega) hxk (gR 0 rfl (Q8 (cs:=cPl x) rfl rfl (nL rfl) rfl (gR 0 rfl (Xq [] rfl rfl (by kernel_rfl) rfl (fc_up (vc156 x)) (.cons (Qd rfl) (.nil)) .nil rfl rfl rfl ?_))))
  cases h16:badP x
  ·skip
   refine gR 4 rfl (Qf rfl rfl rfl (by omega) (gR 2 rfl ?_))
   rw [h16] at hinv
   exact Qz <| ⟨k+1,⟨by omega,hinv⟩,by omega,Qb (Qa rfl rfl) (.nil) (fun i h=>by cases h)⟩
  ·skip
   refine gR 8 rfl ?_
   rw [h16] at hinv
   rw [← hinv]
   exact rQ
 ·replace h9:=of_decide_eq_false h9
  refine gK 6 rfl ?_
  rw [JN (by omega)] at hinv
  rw [← hinv]
  exact rQ
theorem vcC_bad (xs:List Pl) (hxn:xs.length<=4611686018427387904):FC Tryz.prog 155 [.rs 4 (xs.map cPl),(.fn (.func 156) [])] [] (.bool (xs.any badP)) [] false:=by
 refine Qg (nt:=9) Tryz.func155 rfl rfl mcOkv155 (nL rfl) ?_
 delta mcv155
 refine gA 8 rfl (cN rfl rfl (vcI_bad xs hxn) (gR 0 rfl (XZ rfl rfl rfl (gR 3 rfl ?_))))
 rw [← JB]
 exact rQ
def mcv128:MC:=(sq [oN 2 (.mv (cI 0)) []] (.seq (.block 0 (sq [oM 4 0 [],oE 5 4 [0],oB 6 .gtr 5 (cI 48) [1],oM 3 6 [2]] (.cond 3 (sq [oN 2 (.mv (cI 2)) []] .ret) (sq [oM 8 0 [],oC 9 155 [8,(.c (.fn (.func 156) []))] [0],oM 7 9 [1,1]] (.cond 7 (sq [oN 2 (.mv (cI 12)) []] .ret) .skip))))) (sq [oN 2 (.mv (cI 0)) []] .ret)))
theorem mcOkv128:okM Tryz.prog Tryz.f128 10=some mcv128:=by kernel_rfl
theorem vc128 (c:List Pl) (hc:c.length<=1000):FC Tryz.prog 128 [.rs 4 (c.map cPl)] [] (iv (ckS c)) [] false:=by
 refine Qg (nt:=10) Tryz.func128 rfl rfl mcOkv128 (nL rfl) ?_
 delta mcv128
 refine gA 9 rfl (Qe rfl rfl (gR 0 rfl (Ua rfl rfl rfl (gR 2 rfl (Qc rfl (fun h3=>?_) (fun h3=>?_))))))
 ·replace h3:=of_decide_eq_true h3
  refine gK 5 rfl ?_
  rw [show ckS c=2 from if_pos (by omega)]
  exact rQ
 ·replace h3:=of_decide_eq_false h3
  refine gK 3 rfl (cN rfl rfl (vcC_bad c (by omega)) ?_)
  cases h9:c.any badP
  ·skip
   refine gR 9 rfl ?_
   rw [show ckS c=0 from by unfold ckS; rw [if_neg (by omega),h9]; rfl]
   exact rQ
  ·skip
   refine gR 8 rfl ?_
   rw [show ckS c=12 from by unfold ckS; rw [if_neg (by omega),h9]; rfl]
   exact rQ
def mcv159:MC:=(sq [oN 2 (.mv (.c (.bool false))) []] (sq [oM 3 0 [],oC 4 128 [3] [0],oB 5 .neq 4 (cI 0) [1],oM 2 5 [2,1,0,1,2]] .ret))
theorem mcOkv159:okM Tryz.prog Tryz.f159 6=some mcv159:=by kernel_rfl
theorem vc159 (c:List Pl) (hc:c.length<=1000):FC Tryz.prog 159 [.rs 4 (c.map cPl)] [] (.bool (badC c)) [] false:=by
 refine Qg (nt:=6) Tryz.func159 rfl rfl mcOkv159 (nL rfl) ?_
 delta mcv159
 refine gA 7 rfl (cN rfl rfl (vc128 c hc) (gR 0 rfl (Xv rfl rfl rfl (gR 3 rfl ?_))))
 exact rQ
def mcv158:MC:=(sq [oN 4 (.mv (cI 0)) []] (.seq (sq [oM 6 0 [],oE 7 6 [0],oN 8 (.mv (cI 0)) []] (.block 0 (.loop (sq [oB 9 .lss 8 7 []] (.seq (.cond 9 .skip (.exit 0)) (.seq (.block 1 (sq [oM 10 8 [],oM 5 10 [0,0]] (sq [oM 11 1 [],oM 12 0 [],oM 13 5 [],oX 14 1 12 13 [1,2],oD 15 1 14 [3],oN 16 (.callv 11 [15]) [0,4]] (.cond 16 (sq [oM 17 5 [],oM 4 17 [0,0]] .ret) .skip)))) (rg [oB 18 .add 8 (cI 1) [],oM 8 18 [0]]))))))) (sq [oN 4 (.mv (cI (-1))) []] .ret)))
theorem mcOkv158:okM Tryz.prog Tryz.f158 19=some mcv158:=by kernel_rfl
theorem vcI_badc (xs:List (List Pl)) (hx:∀ x∈xs,x.length<=1000) (hxn:xs.length<=4611686018427387904):FC Tryz.prog 158 [.rs 1 (xs.map cR),(.fn (.func 159) [])] [] (.int .i64 (XY badC xs 0)) [] false:=by
 refine Qg (nt:=19) Tryz.func158 rfl rfl mcOkv158 (nL rfl) ?_
 delta mcv158
 refine gA 8 rfl (Qe rfl rfl (gR 3 rfl ?_))
 refine Qo (α:=Nat) (fun k=>xs.length-k) (fun k=>[(0,.rs 1 (xs.map cR)),(1,(.fn (.func 159) [])),(6,.rs 1 (xs.map cR)),(7,iv (xs.length:Int)),(8,iv (((k):Nat):Int))]) (fun k=>[]) (fun k=>k<=xs.length/\XY badC (xs.drop k) k=XY badC xs 0) 0 (⟨by omega,rfl⟩)
  (Qb (Qa rfl rfl) (.nil) (fun i h=>by cases h)) ?_
 rintro k ⟨hk,hinv⟩
 refine gT 5 rfl (Qc rfl (fun h9=>?_) (fun h9=>?_))
 ·replace h9:=of_decide_eq_true h9
  refine gK 13 rfl ?_
  obtain ⟨x,hxk,hxm⟩:=Qk (L:=xs) (k:=k) (by omega)
  rw [Ut hxk] at hinv
  refine Qi (f:=cR) (y:=x) rfl rfl rfl (by omega) hxk (gR 1 rfl (Xq [] rfl rfl (by kernel_rfl) rfl (fc_up (vc159 x (hx x hxm))) (.cons (Qd rfl) (.nil)) .nil rfl rfl rfl ?_))
  cases h16:badC x
  ·skip
   refine gR 4 rfl (Qf rfl rfl rfl (by omega) (gR 2 rfl ?_))
   rw [h16] at hinv
   exact Qz <| ⟨k+1,⟨by omega,hinv⟩,by omega,Qb (Qa rfl rfl) (.nil) (fun i h=>by cases h)⟩
  ·skip
   refine gR 8 rfl ?_
   rw [h16] at hinv
   rw [← hinv]
   exact rQ
 ·replace h9:=of_decide_eq_false h9
  refine gK 6 rfl ?_
  rw [JN (by omega)] at hinv
  rw [← hinv]
  exact rQ
def mcv131:MC:=(sq [oN 4 (.mv (.c (.bool false))) []] (sq [oM 5 0 [],oM 6 1 [],oC 7 158 [5,6] [0,1],oB 8 .geq 7 (cI 0) [2],oM 4 8 (3::2::up 4)] .ret))
theorem mcOkv131:okM Tryz.prog Tryz.f131 9=some mcv131:=by kernel_rfl
theorem vcC_badc (xs:List (List Pl)) (hx:∀ x∈xs,x.length<=1000) (hxn:xs.length<=4611686018427387904):FC Tryz.prog 131 [.rs 1 (xs.map cR),(.fn (.func 159) [])] [] (.bool (xs.any badC)) [] false:=by
 refine Qg (nt:=9) Tryz.func131 rfl rfl mcOkv131 (nL rfl) ?_
 delta mcv131
 refine gA 8 rfl (cN rfl rfl (vcI_badc xs hx hxn) (gR 0 rfl (XZ rfl rfl rfl (gR 3 rfl ?_))))
 rw [← JB]
 exact rQ
def mcv133:MC:=(sq [oN 2 (.mv (.c (.bool false))) []] (sq [oM 3 0 [],oC 4 131 [3,(.c (.fn (.func 159) []))] [0],oN 5 (.un .not 4) [1],oM 2 5 [2,1,0,1,2]] .ret))
theorem mcOkv133:okM Tryz.prog Tryz.f133 6=some mcv133:=by kernel_rfl
theorem vc133 (ls:List (List Pl)) (hx:∀ x∈ls,x.length<=1000) (hn:ls.length<=1000):FC Tryz.prog 133 [.rs 1 (ls.map cR)] [] (.bool (Xm ls)) [] false:=by
 refine Qg (nt:=6) Tryz.func133 rfl rfl mcOkv133 (nL rfl) ?_
 delta mcv133
 refine gA 7 rfl (cN rfl rfl (vcC_badc ls hx (by omega)) (gR 4 rfl ?_))
 exact rQ
def mcv154:MC:=(sq [oN 2 (.mv (.c (.bool false))) []] (sq [oM 3 0 [],oN 4 (.bslice 85 1 [.nils] 1 [(0,3)]) [0],oC 5 133 [4] [1],oM 6 5 [2,2],pM 7 0 6 true [3],oG 8 (.bslice 85 1 [.nils] 1 [(0,7)]) 6 true [4,3],oG 9 (.call 134 [8]) 6 true [5,3,3],oG 10 (.call 135 [9]) 6 true [6,6,3],oN 11 (.pick 6 10 (.c (.bool false))) [3,7],oM 2 11 (8::7::up 9)] .ret))
theorem mcOkv154:okM Tryz.prog Tryz.f154 12=some mcv154:=by kernel_rfl
theorem vc154 (c:List Pl) (h:OkC c):FC Tryz.prog 154 [.rs 4 (c.map cPl)] [] (.bool (QO c)) [] false:=by
 have hcn:=h.n
 refine Qg (nt:=12) Tryz.func154 rfl rfl mcOkv154 (nL rfl) ?_
 delta mcv154
 refine gA 7 rfl (bM cR (([c]:List (List Pl))) (by kernel_rfl) (gR 0 rfl (QD [4] rfl rfl (vc133 [c] (fun x hx=>by rw [List.mem_singleton.1 hx]; omega) (by simp)) (.cons (QW (f:=cR) (xs:=[c]) (by simp) rfl rfl) (.nil)) rfl ?_)))
 cases h5:Xm [c]
 ·skip
  refine gR 9 rfl ?_
  rw [show QO c=false from by unfold QO; rw [h5]; rfl]
  exact rQ
 ·skip
  refine gR 2 rfl (bM cR (([c]:List (List Pl))) (by kernel_rfl) (gR 0 rfl (QD [8] rfl rfl (vc134 [c] h.fl (by simp)) (.cons (QW (f:=cR) (xs:=[c]) (by simp) rfl rfl) (.nil)) rfl (gR 0 rfl (cN rfl rfl (vc135 (ofS [c]) (OkC.of h5) (okTop_valid (Ue h5))) (gR 4 rfl ?_))))))
  rw [show QO c=Ui (ofS [c]) from by unfold QO; rw [h5]; rfl]
  exact rQ
def mcv89:MC:=(sq [oN 4 (.mv (.c (.bool false))) []] (sq [oM 5 0 [],oM 6 1 [],oN 7 (.bslice 85 1 [.nils] 2 [(0,5),(1,6)]) [0,1],oC 8 133 [7] [2],oN 9 (.un .not 8) [3],oM 10 9 [4,3],pM 11 0 10 false [5],pM 12 1 10 false [5],oG 13 (.bslice 85 1 [.nils] 2 [(0,11),(1,12)]) 10 false [6,7,5],oG 14 (.call 134 [13]) 10 false [8,5,5],oG 15 (.call 135 [14]) 10 false [9,9,5],oG 16 (.un .not 15) 10 false [10,5],oN 17 (.pick 10 (.c (.bool true)) 16) [5,11],oM 4 17 (12::10::up 13)] .ret))
theorem mcOkv89:okM Tryz.prog Tryz.f89 18=some mcv89:=by kernel_rfl
theorem vc89g (a b:List Pl) (h1:1<=a.length+b.length) (hcn:a.length<=100) (hcm:b.length<=100):FC Tryz.prog 89 [.rs 4 (a.map cPl),.rs 4 (b.map cPl)] [] (.bool (Xw a b)) [] false:=by
 have hfl:1<=[a,b].flatten.length/\[a,b].flatten.length<=1000:=by simp; omega
 refine Qg (nt:=18) Tryz.func89 rfl rfl mcOkv89 (nL rfl) ?_
 delta mcv89
 refine gA 8 rfl (bM cR (([a,b]:List (List Pl))) (by kernel_rfl) (gR 0 rfl (QD [7] rfl rfl (vc133 [a,b] (fun x hx=>by simp only [List.mem_cons,List.not_mem_nil,or_false] at hx; rcases hx with e | e <;> rw [e] <;> omega) (by simp)) (.cons (QW (f:=cR) (xs:=[a,b]) (by simp) rfl rfl) (.nil)) rfl ?_)))
 cases h8:Xm [a,b]
 ·skip
  refine gR 12 rfl ?_
  rw [show Xw a b=true from by unfold Xw; rw [h8]; rfl]
  exact rQ
 ·skip
  refine gR 4 rfl (bM cR (([a,b]:List (List Pl))) (by kernel_rfl) (gR 0 rfl (QD [13] rfl rfl (vc134 [a,b] hfl (by simp)) (.cons (QW (f:=cR) (xs:=[a,b]) (by simp) rfl rfl) (.nil)) rfl (gR 0 rfl (cN rfl rfl (vc135 (ofS [a,b]) (OkA.of h8) (okTop_valid (Ue h8))) (gR 5 rfl ?_))))))
  rw [show Xw a b = !Ui (ofS [a,b]) from by unfold Xw; rw [h8]; rfl]
  exact rQ
theorem vc89 (a b:List Pl) (h:OkA a b):FC Tryz.prog 89 [.rs 4 (a.map cPl),.rs 4 (b.map cPl)] [] (.bool (Xw a b)) [] false:=vc89g a b (by have:=h.n; omega) h.n.2 h.m
def mcv132:MC:=(sq [oN 3 (.mv (.c (.bool false))) []] (sq [oD 4 1 1 [],oM 5 0 [],oC 6 89 [4,5] [0,1],oN 7 (.un .not 6) [2],oM 3 7 (3::2::up 4)] .ret))
theorem mcOkv132:okM Tryz.prog Tryz.f132 8=some mcv132:=by kernel_rfl
theorem vc132 (c q:List Pl) (h:OkA c q):FC Tryz.prog 132 [.rs 4 (q.map cPl),.rp [.rs 4 (c.map cPl)]] [] (.bool (Ug c q)) [] false:=by
 refine Qg (nt:=8) Tryz.func132 rfl rfl mcOkv132 (nL rfl) ?_
 delta mcv132
 refine gA 8 rfl (cN rfl rfl (vc89 c q h) (gR 4 rfl ?_))
 exact rQ
theorem vcI_apt (c:List Pl) (xs:List (List Pl)) (hx:∀ x∈xs,OkA c x) (hxn:xs.length<=4611686018427387904):FC Tryz.prog 158 [.rs 1 (xs.map cR),(.fn (.func 132) [.rp [.rs 4 (c.map cPl)]])] [] (.int .i64 (XY (Ug c) xs 0)) [] false:=by
 refine Qg (nt:=19) Tryz.func158 rfl rfl mcOkv158 (nL rfl) ?_
 delta mcv158
 refine gA 8 rfl (Qe rfl rfl (gR 3 rfl ?_))
 refine Qo (α:=Nat) (fun k=>xs.length-k) (fun k=>[(0,.rs 1 (xs.map cR)),(1,(.fn (.func 132) [.rp [.rs 4 (c.map cPl)]])),(6,.rs 1 (xs.map cR)),(7,iv (xs.length:Int)),(8,iv (((k):Nat):Int))]) (fun k=>[]) (fun k=>k<=xs.length/\XY (Ug c) (xs.drop k) k=XY (Ug c) xs 0) 0 (⟨by omega,rfl⟩)
  (Qb (Qa rfl rfl) (.nil) (fun i h=>by cases h)) ?_
 rintro k ⟨hk,hinv⟩
 refine gT 5 rfl (Qc rfl (fun h9=>?_) (fun h9=>?_))
 ·replace h9:=of_decide_eq_true h9
  refine gK 13 rfl ?_
  obtain ⟨x,hxk,hxm⟩:=Qk (L:=xs) (k:=k) (by omega)
  rw [Ut hxk] at hinv
  refine Qi (f:=cR) (y:=x) rfl rfl rfl (by omega) hxk (gR 1 rfl (Xq [] rfl rfl (by kernel_rfl) rfl (fc_up (vc132 c x (hx x hxm))) (.cons (Qd rfl) (.cons (Qd rfl) (.nil))) .nil rfl rfl rfl ?_))
  cases h16:(Ug c) x
  ·skip
   refine gR 4 rfl (Qf rfl rfl rfl (by omega) (gR 2 rfl ?_))
   rw [h16] at hinv
   exact Qz <| ⟨k+1,⟨by omega,hinv⟩,by omega,Qb (Qa rfl rfl) (.nil) (fun i h=>by cases h)⟩
  ·skip
   refine gR 8 rfl ?_
   rw [h16] at hinv
   rw [← hinv]
   exact rQ
 ·replace h9:=of_decide_eq_false h9
  refine gK 6 rfl ?_
  rw [JN (by omega)] at hinv
  rw [← hinv]
  exact rQ
theorem vcC_apt (c:List Pl) (xs:List (List Pl)) (hx:∀ x∈xs,OkA c x) (hxn:xs.length<=4611686018427387904):FC Tryz.prog 131 [.rs 1 (xs.map cR),(.fn (.func 132) [.rp [.rs 4 (c.map cPl)]])] [] (.bool (xs.any (Ug c))) [] false:=by
 refine Qg (nt:=9) Tryz.func131 rfl rfl mcOkv131 (nL rfl) ?_
 delta mcv131
 refine gA 8 rfl (cN rfl rfl (vcI_apt c xs hx hxn) (gR 0 rfl (XZ rfl rfl rfl (gR 3 rfl ?_))))
 rw [← JB]
 exact rQ
def mcv86:MC:=(sq [oN 2 (.box 85 1 0) [],oN 4 (.mv (.c (.bool false))) []] (sq [oM 5 1 [],oN 6 (.mkfn (.func 132) [2]) [],oC 7 131 [5,6] [0,1],oN 8 (.un .not 7) [2],oM 4 8 (3::2::up 4)] .ret))
theorem mcOkv86:okM Tryz.prog Tryz.f86 9=some mcv86:=by kernel_rfl
theorem vc86 (c:List Pl) (s:List (List Pl)) (hx:∀ x∈s,OkA c x) (hs:s.length<=1000):FC Tryz.prog 86 [.rs 4 (c.map cPl),.rs 1 (s.map cR)] [] (.bool (Xz c s)) [] false:=by
 refine Qg (nt:=9) Tryz.func86 rfl rfl mcOkv86 (nL rfl) ?_
 delta mcv86
 refine gA 6 rfl (QH (F0:=[(1,.rs 1 (s.map cR)),(2,.rp [.rs 4 (c.map cPl)])]) (H0:=[]) (Qb (.cs (.cons rfl (Jc rfl rfl (.inl rfl)) (.nil))) (.nil) (fun i h=>by cases h)) (gK 3 rfl (cN rfl rfl (vcC_apt c s hx (by omega)) (gR 4 rfl ?_))))
 exact rQ
end Go.Proofs.YthfhaoogcpfboaaGreat
namespace Go.Proofs.YthfhaoogcpfboaaGreat
open Go.RowKit
set_option linter.unusedVariables false
theorem sel_some {ls:List Lf} {i:Int} (h0:0<=i) (h1:i<(ls.length:Int)):ls[i.toNat]?=some (selF ls i):=by
 obtain ⟨x,hx,_⟩:=Qk (L:=ls) (k:=i.toNat) (by omega)
 rw [selF_at hx]; exact hx
theorem incF_ok {z:Int}:∀ (l:List Int) (p:Int),(∀ x∈l,0<=x/\x<z)->(∀ (k:Nat) (a b:Int),l[k]?=some a->l[k+1]?=some b->a<b)->(∀ x,l[0]?=some x->p<x)->incF z p l=true
 | [],_,_,_,_=>rfl
 | x::l,p,h1,h2,h3=>by
  have hx:=h1 x (List.mem_cons_self ..)
  have h4:=h3 x rfl
  have:=incF_ok l x (fun y hy=>h1 y (List.mem_cons_of_mem _ hy)) (fun k a b ha hb=>h2 (k+1) a b ha hb) (fun y hy=>h2 0 x y rfl hy)
  simp only [incF,Bool.and_eq_true,decide_eq_true_eq]
  exact ⟨⟨⟨hx.1,hx.2⟩,h4⟩,this⟩
theorem IxOK.incF {n:Nat} {w:List Int} (h:IxOK n w):incF (n:Int) (-1) w=true :=
 incF_ok w (-1) h.bd h.inc fun x hx=>by have:=h.bd x (Xr hx); omega
theorem ofK_one {ls:List Lf} {d b:Nat}:ofK ls b (2^(d+1))=none:=ofK_1 (by have:=Nat.two_pow_pos d; rw [Nat.pow_succ]; omega)
end Go.Proofs.YthfhaoogcpfboaaGreat
namespace Go.Proofs.YthfhaoogcpfboaaGreat
open Go.RowKit
set_option maxRecDepth 100000
set_option linter.unusedVariables false
theorem hv_agg {H Hs:Hp} {rd:List Nat} {al:Bool} {vs rs:List AV} (h:HVs H Hs rd al vs rs):HV H Hs rd al (.agg vs) (.agg rs):=fun w S ρ c hh hv=>by
 obtain ⟨C,rfl,hn,h1,h2⟩:=hv.agg_inv
 obtain ⟨e1,e2⟩:=h.at_
 refine .agg rs C (by rw [hn,e1]) (fun j r hj=>?_) fun j r hj=>?_
 ·obtain ⟨v,g1,_⟩:=e2 j r hj
  exact h1 j v g1
 ·obtain ⟨v,g1,g2⟩:=e2 j r hj
  exact g2 w S ρ _ hh (h2 j v g1)
structure Pa where
 name:List Int
 cells:List (List Pl)
 want:List Int
structure Pc where
 sure:List Bool
 touched:List Bool
 cuts:List (List Pl)
abbrev cB (b:Bool):List AV:=[.bool b]
abbrev cPa (p:Pa):List AV:=[.str (strN p.name),.rs 1 (p.cells.map cR),.rs 1 (p.want.map civ)]
abbrev cPc (x:Pc):List AV:=[.rs 1 (x.sure.map cB),.rs 1 (x.touched.map cB),.rs 1 (x.cuts.map cR)]
abbrev cJ (p:Pa) (x:Pc):List AV:=[.str (strN p.name),.rs 1 (p.cells.map cR),.rs 1 (p.want.map civ),.rs 1 (x.sure.map cB),.rs 1 (x.touched.map cB),.rs 1 (x.cuts.map cR)]
def JL (lo hi:V3):List Pl:=[⟨⟨1,0,0⟩,hi.x⟩,⟨⟨-1,0,0⟩,-lo.x⟩,⟨⟨0,1,0⟩,hi.y⟩,⟨⟨0,-1,0⟩,-lo.y⟩,⟨⟨0,0,1⟩,hi.z⟩,⟨⟨0,0,-1⟩,-lo.z⟩]
def QP (w:Int):Bool:=decide (w<1)||decide (w>3)
def ckC:List (List Pl)->List (List Pl)->Int
 | _,[]=>0
 | pre,c::l=>if (QO c&&Xz c pre)=true then ckC (pre++[c]) l else 13
theorem ckC_at {l:List (List Pl)} {k:Nat} {c:List Pl} (h:l[k]?=some c):ckC (l.take k) (l.drop k)=if (QO c&&Xz c (l.take k))=true then ckC (l.take (k+1)) (l.drop (k+1)) else 13:=by
 rw [Jo h,Q3 h]; rfl
theorem ckC_end {l pre:List (List Pl)} {k:Nat} (h:l.length<=k):ckC pre (l.drop k)=0:=by rw [List.drop_eq_nil_of_le h]; rfl
def ckP (p:Pa):Int:=if p.cells.length=0\/p.cells.length>16 then 2 else if p.want.length≠p.cells.length\/p.want.any QP=true then 1 else ckC [] p.cells
def JX:List (List Pl)->Int
 | []=>0
 | c::l=>if ckS c≠0 then ckS c else JX l
theorem ckAll_at {l:List (List Pl)} {k:Nat} {c:List Pl} (h:l[k]?=some c):JX (l.drop k)=if ckS c≠0 then ckS c else JX (l.drop (k+1)):=by rw [Jo h]; rfl
def JK (p:Pa) (x:Pc):Int:=if ckP p≠0 then ckP p else if x.sure.length≠p.cells.length\/x.touched.length≠p.cells.length\/x.cuts.length>24\/JX x.cuts≠0 then 4 else 0
structure PaOK (p:Pa):Prop where
 n:p.cells.length<=1000
 w:p.want.length<=1000000
 c:∀ c∈p.cells,1<=c.length/\c.length<=100
structure PcOK (x:Pc):Prop where
 n:x.cuts.length<=1000
 c:∀ c∈x.cuts,c.length<=100
theorem ckP_3 {p:Pa} (h1:¬ ((p.cells.length:Int)=0)) (h2:¬ ((p.cells.length:Int)>16)) (h3:¬ ((p.want.length:Int)≠p.cells.length)) (h4:p.want.any QP=false):ckP p=ckC [] p.cells:=by
 unfold ckP
 rw [if_neg (by omega),if_neg (by rw [h4]; simp; omega)]
def spoiltB (p:Pa) (x:Pc) (k:Nat):Bool:=decide (p.want.getD k 0=1) && !Xz (p.cells.getD k []) x.cuts
def gougedB (p:Pa) (x:Pc) (k:Nat):Bool:=decide (p.want.getD k 0=1)&&x.touched.getD k false
def leftB (p:Pa) (x:Pc) (k:Nat):Bool:=decide (p.want.getD k 0=2) && !x.sure.getD k false
theorem Jb {α:Type} {l:List α} {k:Nat} {x d:α} (h:l[k]?=some x):l.getD k d=x:=by rw [List.getD_eq_getElem?_getD,h]; rfl
def badK (p:Pa) (x:Pc):Nat->Nat->Bool
 | 0=>spoiltB p x
 | 1=>gougedB p x
 | _=>leftB p x
def anyK (p:Pa) (x:Pc) (i:Nat):Bool:=(List.range p.cells.length).any (badK p x i)
theorem anyK_t {p:Pa} {x:Pc} {i k:Nat} (hk:k<p.cells.length) (h:badK p x i k=true):anyK p x i=true:=List.any_eq_true.2 ⟨k,List.mem_range.2 hk,h⟩
theorem anyK_f {p:Pa} {x:Pc} {i:Nat} (h:∀ j,j<p.cells.length->badK p x i j=false):anyK p x i=false:=by
 rw [anyK,List.any_eq_false]
 intro k hk
 rw [h k (List.mem_range.1 hk)]; decide
def Uc (p:Pa) (x:Pc):Int:=if JK p x≠0 then JK p x else if anyK p x 0=true then 35 else if anyK p x 1=true then 30 else if anyK p x 2=true then 34 else 0
theorem ckC_r:∀ (l pre:List (List Pl)),ckC pre l=0\/ckC pre l=13
 | [],_=>.inl rfl
 | c::l,pre=>by unfold ckC; split; exact ckC_r l _; exact .inr rfl
theorem ckP_r (p:Pa):ckP p=0\/ckP p=2\/ckP p=1\/ckP p=13:=by
 unfold ckP; split
 ·exact .inr (.inl rfl)
 ·split
  ·exact .inr (.inr (.inl rfl))
  ·rcases ckC_r p.cells [] with h | h
   ·exact .inl h
   ·exact .inr (.inr (.inr h))
theorem fitS_r (p:Pa) (x:Pc):JK p x=0\/JK p x=2\/JK p x=1\/JK p x=13\/JK p x=4:=by
 unfold JK; split
 ·have:=ckP_r p; omega
 ·split
  ·exact .inr (.inr (.inr (.inr rfl)))
  ·exact .inl rfl
theorem fit_len {p:Pa} {x:Pc} (h:JK p x=0):p.want.length=p.cells.length/\x.sure.length=p.cells.length/\x.touched.length=p.cells.length/\1<=p.cells.length/\p.cells.length<=16:=by
 unfold JK at h
 split at h
 ·rename_i h1; exact absurd h h1
 ·rename_i h1
  split at h
  ·cases h
  ·rename_i h2
   have h1:ckP p=0:=by omega
   unfold ckP at h1
   split at h1
   ·cases h1
   ·split at h1
    ·cases h1
    ·rename_i h3 h4
     exact ⟨by omega,by omega,by omega,by omega,by omega⟩
def fineB (e:Int):Bool:=decide (e=0)||decide (e=35)||decide (e=30)||decide (e=34)
theorem fine_fit {p:Pa} {x:Pc} (h:fineB (Uc p x)=true):JK p x=0:=by
 have:=fitS_r p x
 by_cases h0:JK p x=0
 ·exact h0
 ·unfold Uc at h
  rw [if_pos h0] at h
  simp only [fineB,Bool.or_eq_true,decide_eq_true_eq] at h
  omega
def Jf (p:Pa) (x:Pc) (s:List Int) (k:Nat):Lf:=⟨k,p.want.getD k 0,x.sure.getD k false,x.touched.getD k false,Jl s (Jd k)⟩
def QV (p:Pa) (x:Pc) (s:List Int):List Lf:=if fineB (Uc p x)=true/\s≠[] then (List.range p.want.length).map (Jf p x s) else []
theorem leaf_snoc {p:Pa} {x:Pc} {s:List Int} {k:Nat} {w:Int} {a b:Bool} (hw:p.want[k]?=some w) (ha:x.sure[k]?=some a) (hb:x.touched[k]?=some b) :
  (List.range (k+1)).map (Jf p x s)=(List.range k).map (Jf p x s)++[⟨k,w,a,b,Jl s (Jd k)⟩]:=by
 rw [List.range_succ,List.map_append]
 show _++[(⟨k,p.want.getD k 0,x.sure.getD k false,x.touched.getD k false,Jl s (Jd k)⟩:Lf)]=_
 rw [Jb hw,Jb ha,Jb hb]
def mcv47:MC:=(sq [oN 2 (.box 88 3 0) [],oN 3 (.box 88 3 1) [],oN 4 (.mv (.c .nils)) []] (sq [oN 5 (.build (iz 3) [(0,1,(cI 1))]) [],oA 6 0 3 [],oD 7 1 6 [1],oN 8 (.build (iz 4) [(0,3,5),(3,1,7)]) [0,2],oN 9 (.build (iz 3) [(0,1,(cI (-1)))]) [],oA 10 0 2 [],oD 11 1 10 [5],oN 12 (.un .neg 11) [6],oN 13 (.build (iz 4) [(0,3,9),(3,1,12)]) [4,7],oN 14 (.build (iz 3) [(1,1,(cI 1))]) [],oA 15 1 3 [],oD 16 1 15 [10],oN 17 (.build (iz 4) [(0,3,14),(3,1,16)]) [9,11],oN 18 (.build (iz 3) [(1,1,(cI (-1)))]) [],oA 19 1 2 [],oD 20 1 19 [14],oN 21 (.un .neg 20) [15],oN 22 (.build (iz 4) [(0,3,18),(3,1,21)]) [13,16],oN 23 (.build (iz 3) [(2,1,(cI 1))]) [],oA 24 2 3 [],oD 25 1 24 [19],oN 26 (.build (iz 4) [(0,3,23),(3,1,25)]) [18,20],oN 27 (.build (iz 3) [(2,1,(cI (-1)))]) [],oA 28 2 2 [],oD 29 1 28 [23],oN 30 (.un .neg 29) [24],oN 31 (.build (iz 4) [(0,3,27),(3,1,30)]) [22,25],oN 32 (.bslice 90 4 (iz 4) 6 [(0,8),(1,13),(2,17),(3,22),(4,26),(5,31)]) [3,8,12,17,21,26],oM 4 32 (27::up 28)] .ret))
theorem mcOkv47:okM Tryz.prog Tryz.f47 33=some mcv47:=by kernel_rfl
theorem vc47 (lo hi:V3) (hl:(-1000000000<=lo.x/\lo.x<=1000000000)/\(-1000000000<=lo.y/\lo.y<=1000000000)/\(-1000000000<=lo.z/\lo.z<=1000000000)):FC Tryz.prog 47 [aV lo,aV hi] [] (.rs 4 ((JL lo hi).map cPl)) [] false:=by
 obtain ⟨hx,hy,hz⟩:=hl
 refine Qg (nt:=33) Tryz.func47 rfl rfl mcOkv47 (nL rfl) ?_
 delta mcv47
 refine gA 15 rfl (JM rfl rfl (by omega) (gR 8 rfl (JM rfl rfl (by omega) (gR 8 rfl (JM rfl rfl (by omega) (gR 1 rfl (bM cPl (JL lo hi) (by kernel_rfl) (gR 3 rfl ?_))))))))
 exact Qt <| Ql rfl (Q5 (f:=cPl) (xs:=JL lo hi) rfl rfl rfl (fun _=>rfl)) .nil
def mcv153:MC:=(sq [oN 2 (.mv (.c (.bool false))) []] (sq [oM 3 0 [],oB 4 .lss 3 (cI 1) [0],oM 5 4 [1],pM 6 0 5 false [2],oG 7 (.bin .gtr 6 (cI 3)) 5 false [3,2],oN 8 (.pick 5 (.c (.bool true)) 7) [2,4],oM 2 8 (5::2::up 6)] .ret))
theorem mcOkv153:okM Tryz.prog Tryz.f153 9=some mcv153:=by kernel_rfl
theorem vc153 (x:Int):FC Tryz.prog 153 [iv x] [] (.bool (QP x)) [] false:=by
 refine Qg (nt:=9) Tryz.func153 rfl rfl mcOkv153 (nL rfl) ?_
 delta mcv153
 refine gA 7 rfl (Qx rfl rfl rfl rfl (fun h4=>?_) (fun h4=>?_))
 ·skip
  refine gR 7 rfl ?_
  rw [show QP x=true from by unfold QP; rw [decide_eq_true h4]; rfl]
  exact rQ
 ·skip
  refine gR 2 rfl (Qx rfl rfl rfl rfl (fun h7=>?_) (fun h7=>?_))
  ·skip
   refine gR 4 rfl ?_
   rw [show QP x=true from by unfold QP; rw [decide_eq_false h4,decide_eq_true h7]; rfl]
   exact rQ
  ·skip
   refine gR 4 rfl ?_
   rw [show QP x=false from by unfold QP; rw [decide_eq_false h4,decide_eq_false h7]; rfl]
   exact rQ
theorem vcI_strange (xs:List Int) (hxn:xs.length<=4611686018427387904):FC Tryz.prog 115 [.rs 1 (xs.map civ),(.fn (.func 153) [])] [] (.int .i64 (XY QP xs 0)) [] false:=by
 refine Qg (nt:=19) Tryz.func115 rfl rfl mcOkv115 (nL rfl) ?_
 delta mcv115
 refine gA 8 rfl (Qe rfl rfl (gR 3 rfl ?_))
 refine Qo (α:=Nat) (fun k=>xs.length-k) (fun k=>[(0,.rs 1 (xs.map civ)),(1,(.fn (.func 153) [])),(6,.rs 1 (xs.map civ)),(7,iv (xs.length:Int)),(8,iv (((k):Nat):Int))]) (fun k=>[]) (fun k=>k<=xs.length/\XY QP (xs.drop k) k=XY QP xs 0) 0 (⟨by omega,rfl⟩)
  (Qb (Qa rfl rfl) (.nil) (fun i h=>by cases h)) ?_
 rintro k ⟨hk,hinv⟩
 refine gT 5 rfl (Qc rfl (fun h9=>?_) (fun h9=>?_))
 ·replace h9:=of_decide_eq_true h9
  refine gK 13 rfl ?_
  obtain ⟨x,hxk,hxm⟩:=Qk (L:=xs) (k:=k) (by omega)
  rw [Ut hxk] at hinv
  refine Qi (f:=civ) (y:=x) rfl rfl rfl (by omega) hxk (gR 1 rfl (Xq [] rfl rfl (by kernel_rfl) rfl (fc_up (vc153 x)) (.cons (Qd rfl) (.nil)) .nil rfl rfl rfl ?_))
  cases h16:QP x
  ·skip
   refine gR 4 rfl (Qf rfl rfl rfl (by omega) (gR 2 rfl ?_))
   rw [h16] at hinv
   exact Qz <| ⟨k+1,⟨by omega,hinv⟩,by omega,Qb (Qa rfl rfl) (.nil) (fun i h=>by cases h)⟩
  ·skip
   refine gR 8 rfl ?_
   rw [h16] at hinv
   rw [← hinv]
   exact rQ
 ·replace h9:=of_decide_eq_false h9
  refine gK 6 rfl ?_
  rw [JN (by omega)] at hinv
  rw [← hinv]
  exact rQ
theorem vcC_strange (xs:List Int) (hxn:xs.length<=4611686018427387904):FC Tryz.prog 65 [.rs 1 (xs.map civ),(.fn (.func 153) [])] [] (.bool (xs.any QP)) [] false:=by
 refine Qg (nt:=9) Tryz.func65 rfl rfl mcOkv65 (nL rfl) ?_
 delta mcv65
 refine gA 8 rfl (cN rfl rfl (vcI_strange xs hxn) (gR 0 rfl (XZ rfl rfl rfl (gR 3 rfl ?_))))
 rw [← JB]
 exact rQ
def mcv127:MC:=(sq [oN 1 (.box 31 3 0) [],oN 2 (.mv (cI 0)) []] (sq [oA 7 1 1 [],oD 8 1 7 [0],oE 9 8 [1],oM 3 9 [2,0,1,2]] (sq [oN 4 (.mv (.c (.fn (.func 153) []))) []] (.seq (.block 0 (sq [oM 11 3 [],oB 12 .eql 11 (cI 0) [0],oM 13 12 [1],pM 14 3 13 false [2],oG 15 (.bin .gtr 14 (cI 16)) 13 false [3,2],oN 16 (.pick 13 (.c (.bool true)) 15) [2,4],oM 10 16 [5,2]] (.cond 10 (sq [oN 2 (.mv (cI 2)) []] .ret) (sq [oA 18 2 1 [],oD 19 1 18 [0],oE 20 19 [1],oM 21 3 [],oB 22 .neq 20 21 [2,3],oM 23 22 [4],pA 24 2 1 23 false [5],pD 25 1 24 23 false [6,5],pM 26 4 23 false [5],oG 27 (.call 65 [25,26]) 23 false [7,8,5,5],oN 28 (.pick 23 (.c (.bool true)) 27) [5,9],oM 17 28 [10,9]] (.cond 17 (sq [oN 2 (.mv (cI 1)) []] .ret) .skip))))) (.seq (sq [oA 29 1 1 [],oD 30 1 29 [0],oE 31 30 [1],oN 32 (.mv (cI 0)) []] (.block 1 (.loop (sq [oB 33 .lss 32 31 []] (.seq (.cond 33 .skip (.exit 1)) (.seq (.block 2 (sq [oM 34 32 [],oX 35 1 30 32 [],oD 36 1 35 [1],oM 5 34 [0,0,1,2],oM 6 36 (2::3::up 4)] (sq [oM 37 6 [],oC 38 154 [37] [0],oN 39 (.un .not 38) [1],oM 40 39 [2,1],pM 41 6 40 false [3],pA 42 1 1 40 false [3],pD 43 1 42 40 false [5,3],pM 44 5 40 false [3],oG 45 (.slc 1 43 none (some 44)) 40 false [6,7,3],oG 46 (.call 86 [41,45]) 40 false [4,8,3,3],oG 47 (.un .not 46) 40 false [9,3],oN 48 (.pick 40 (.c (.bool true)) 47) [3,10]] (.cond 48 (sq [oN 2 (.mv (cI 13)) []] .ret) .skip)))) (rg [oB 49 .add 32 (cI 1) [],oM 32 49 [0]]))))))) (sq [oN 2 (.mv (cI 0)) []] .ret))))))
theorem mcOkv127:okM Tryz.prog Tryz.f127 50=some mcv127:=by kernel_rfl
set_option maxHeartbeats 1000000 in
theorem vc127 (p:Pa) (hp:PaOK p):FC Tryz.prog 127 [.agg (cPa p)] [] (iv (ckP p)) [] false:=by
 have hpn:=hp.n
 have hpw:=hp.w
 refine Qg (nt:=50) Tryz.func127 rfl rfl mcOkv127 (nL rfl) ?_
 delta mcv127
 refine gA 9 rfl (Qe rfl rfl (gR 11 rfl (Qx rfl rfl rfl rfl (fun h12=>?_) (fun h12=>?_))))
 ·skip
  refine gR 12 rfl ?_
  rw [show ckP p=2 from if_pos (by omega)]
  exact rQ
 ·skip
  refine gR 2 rfl (Qx rfl rfl rfl rfl (fun h15=>?_) (fun h15=>?_))
  ·skip
   refine gR 9 rfl ?_
   rw [show ckP p=2 from if_pos (by omega)]
   exact rQ
  ·skip
   refine gR 8 rfl (Qe rfl rfl (gR 1 rfl (Qx rfl rfl rfl rfl (fun h22=>?_) (fun h22=>?_))))
   ·skip
    refine gR 14 rfl ?_
    rw [show ckP p=1 from by unfold ckP; rw [if_neg (by omega),if_pos (.inl (by omega))]]
    exact rQ
   ·skip
    refine gR 4 rfl (cN rfl rfl (vcC_strange p.want (by omega)) ?_)
    cases h27:p.want.any QP
    ·skip
     refine gR 7 rfl ?_
     have hP:=ckP_3 h12 h15 h22 h27
     refine gI 3 rfl (Qe rfl rfl (gR 3 rfl ?_))
     refine Qo (α:=Nat) (fun k=>p.cells.length-k) (fun k=>[(1,.ptr 1 0 0),(30,.rs 1 (p.cells.map cR)),(31,iv (p.cells.length:Int)),(32,iv (((k):Nat):Int))]) (fun k=>[(1,.cells 31 3 [cPa p] true)]) (fun k=>k<=p.cells.length/\ckC (p.cells.take k) (p.cells.drop k)=ckC [] p.cells) 0 (⟨by omega,rfl⟩)
      (Qb (Qa rfl rfl) (.keep rfl rfl .nil) nz) ?_
     rintro k ⟨hk,hinv⟩
     refine gT 5 rfl (Qc rfl (fun h33=>?_) (fun h33=>?_))
     ·replace h33:=of_decide_eq_true h33
      refine gK 6 rfl ?_
      obtain ⟨c,hck,hcm⟩:=Qk (L:=p.cells) (k:=k) (by omega)
      rw [ckC_at hck] at hinv
      refine Qi (f:=cR) (y:=c) rfl rfl rfl (by omega) hck (gR 7 rfl (cN rfl rfl (vc154 c ⟨hp.c c hcm⟩) ?_))
      cases h38:QO c
      ·skip
       refine gR 17 rfl ?_
       rw [h38] at hinv
       rw [hP,← hinv]
       exact rQ
      ·skip
       refine gR 6 rfl (Ji (l:=0) (q:=(k:Int)) (els':=(p.cells.take k).map cR) rfl rfl rfl rfl rfl (by decide) (by omega) (by simp; omega) (by simp [List.map_take]) (gR 0 rfl (cN rfl rfl (vc86 c (p.cells.take k) (fun q hq=>⟨hp.c c hcm,(hp.c q (List.mem_of_mem_take hq)).2⟩) (by simp; omega)) ?_)))
       cases h46:Xz c (p.cells.take k)
       ·skip
        refine gR 9 rfl ?_
        rw [h38,h46] at hinv
        rw [hP,← hinv]
        exact rQ
       ·skip
        refine gR 6 rfl (Qf rfl rfl rfl (by omega) (gR 2 rfl ?_))
        rw [h38,h46] at hinv
        exact Qz <| ⟨k+1,⟨by omega,hinv⟩,by omega,Qb (Qa rfl rfl) (.keep rfl rfl .nil) nz⟩
     ·replace h33:=of_decide_eq_false h33
      refine gK 6 rfl ?_
      rw [hP,← hinv,ckC_end (by omega)]
      exact rQ
    ·skip
     refine gR 9 rfl ?_
     rw [show ckP p=1 from by unfold ckP; rw [if_neg (by omega),if_pos (.inr h27)]]
     exact rQ
def mcv82:MC:=(sq [oN 2 (.mv (cI 0)) []] (.seq (sq [oM 6 0 [],oE 7 6 [0],oN 8 (.mv (cI 0)) []] (.block 0 (.loop (sq [oB 9 .lss 8 7 []] (.seq (.cond 9 .skip (.exit 0)) (.seq (.block 1 (sq [oX 10 1 6 8 [],oD 11 1 10 [0],oM 4 11 [1,0,1]] (sq [oM 12 4 [],oC 13 128 [12] [0],oM 5 13 [1,1,0,1]] (sq [oM 14 5 [],oB 15 .neq 14 (cI 0) [0]] (.cond 15 (sq [oM 16 5 [],oM 2 16 [0,0]] .ret) .skip))))) (rg [oB 17 .add 8 (cI 1) [],oM 8 17 [0]]))))))) (sq [oN 2 (.mv (cI 0)) []] .ret)))
theorem mcOkv82:okM Tryz.prog Tryz.f82 18=some mcv82:=by kernel_rfl
theorem vc82 (l:List (List Pl)) (hl:l.length<=1000000) (hc:∀ c∈l,c.length<=1000):FC Tryz.prog 82 [.rs 1 (l.map cR)] [] (iv (JX l)) [] false:=by
 refine Qg (nt:=18) Tryz.func82 rfl rfl mcOkv82 (nL rfl) ?_
 delta mcv82
 refine gA 8 rfl (Qe rfl rfl (gR 3 rfl ?_))
 refine Qo (α:=Nat) (fun k=>l.length-k) (fun k=>[(6,.rs 1 (l.map cR)),(7,iv (l.length:Int)),(8,iv (((k):Nat):Int))]) (fun k=>[]) (fun k=>k<=l.length/\JX (l.drop k)=JX l) 0 (⟨by omega,rfl⟩)
  (Qb (Qa rfl rfl) (.nil) (fun i h=>by cases h)) ?_
 rintro k ⟨hk,hinv⟩
 refine gT 5 rfl (Qc rfl (fun h9=>?_) (fun h9=>?_))
 ·replace h9:=of_decide_eq_true h9
  refine gK 5 rfl ?_
  obtain ⟨c,hck,hcm⟩:=Qk (L:=l) (k:=k) (by omega)
  rw [ckAll_at hck] at hinv
  refine Qi (f:=cR) (y:=c) rfl rfl rfl (by omega) hck (gR 6 rfl (cN rfl rfl (vc128 c (hc c hcm)) (gR 5 rfl (Xv rfl rfl rfl (gR 1 rfl (Qc rfl (fun h15=>?_) (fun h15=>?_)))))))
  ·replace h15:=of_decide_eq_true h15
   refine gK 6 rfl ?_
   rw [if_pos h15] at hinv
   rw [← hinv]
   exact rQ
  ·replace h15:=of_decide_eq_false h15
   refine gK 2 rfl (Qf rfl rfl rfl (by omega) (gR 2 rfl ?_))
   rw [if_neg h15] at hinv
   exact Qz <| ⟨k+1,⟨by omega,hinv⟩,by omega,Qb (Qa rfl rfl) (.nil) (fun i h=>by cases h)⟩
 ·replace h9:=of_decide_eq_false h9
  refine gK 6 rfl ?_
  rw [← hinv,List.drop_eq_nil_of_le (by omega)]
  exact rQ
def mcv81:MC:=(sq [oN 2 (.box 31 3 0) [],oN 3 (.box 35 3 1) [],oN 4 (.mv (cI 0)) []] (.seq (sq [oL 7 3 2 [],oC 8 127 [7] [0],oM 5 8 [1,1,0,1]] (sq [oM 9 5 [],oB 10 .neq 9 (cI 0) [0]] (.cond 10 (sq [oM 11 5 [],oM 4 11 [0,0]] .ret) .skip))) (.seq (sq [oA 12 1 2 [],oD 13 1 12 [0],oE 14 13 [1],oM 6 14 [2,0,1,2]] (sq [oA 15 0 3 [],oD 16 1 15 [0],oE 17 16 [1],oM 18 6 [],oB 19 .neq 17 18 [2,3],oM 20 19 [4],pA 21 1 3 20 false [5],pD 22 1 21 20 false [6,5],oG 23 (.len 22) 20 false [7,5],pM 24 6 20 false [5],oG 25 (.bin .neq 23 24) 20 false [8,9,5],oN 26 (.pick 20 (.c (.bool true)) 25) [5,10],oM 27 26 [11,5],pA 28 2 3 27 false [12],pD 29 1 28 27 false [13,12],oG 30 (.len 29) 27 false [14,12],oG 31 (.bin .gtr 30 (cI 24)) 27 false [15,12],oN 32 (.pick 27 (.c (.bool true)) 31) [12,16],oM 33 32 [17,12],pA 34 2 3 33 false [18],pD 35 1 34 33 false [19,18],oG 36 (.call 82 [35]) 33 false [20,18,18],oG 37 (.bin .neq 36 (cI 0)) 33 false [21,18],oN 38 (.pick 33 (.c (.bool true)) 37) [18,22]] (.cond 38 (sq [oN 4 (.mv (cI 4)) []] .ret) .skip))) (sq [oN 4 (.mv (cI 0)) []] .ret))))
theorem mcOkv81:okM Tryz.prog Tryz.f81 39=some mcv81:=by kernel_rfl
theorem vc81 (p:Pa) (hp:PaOK p) (x:Pc) (hx:PcOK x):FC Tryz.prog 81 [.agg (cPa p),.agg (cPc x)] [] (iv (JK p x)) [] false:=by
 have hpn:=hp.n
 have hxn:=hx.n
 refine Qg (nt:=39) Tryz.func81 rfl rfl mcOkv81 (nL rfl) ?_
 delta mcv81
 refine gA 10 rfl (cN rfl rfl (vc127 p hp) (gR 5 rfl (Xv rfl rfl rfl (gR 1 rfl (Qc rfl (fun h10=>?_) (fun h10=>?_))))))
 ·replace h10:=of_decide_eq_true h10
  refine gK 6 rfl ?_
  rw [show JK p x=ckP p from if_pos h10]
  exact rQ
 ·replace h10:=of_decide_eq_false h10
  refine gK 6 rfl (Qe rfl rfl (gR 6 rfl (Qe rfl rfl (gR 1 rfl (Qx rfl rfl rfl rfl (fun h19=>?_) (fun h19=>?_))))))
  ·skip
   refine gR 26 rfl ?_
   rw [show JK p x=4 from by unfold JK; rw [if_neg h10,if_pos (by omega)]]
   exact rQ
  ·skip
   refine gR 3 rfl (Qe rfl rfl (gR 1 rfl (Qx rfl rfl rfl rfl (fun h25=>?_) (fun h25=>?_))))
   ·skip
    refine gR 20 rfl ?_
    rw [show JK p x=4 from by unfold JK; rw [if_neg h10,if_pos (by omega)]]
    exact rQ
   ·skip
    refine gR 4 rfl (Qe rfl rfl (gR 0 rfl (Qx rfl rfl rfl rfl (fun h31=>?_) (fun h31=>?_))))
    ·skip
     refine gR 14 rfl ?_
     rw [show JK p x=4 from by unfold JK; rw [if_neg h10,if_pos (by omega)]]
     exact rQ
    ·skip
     refine gR 4 rfl (cN rfl rfl (vc82 x.cuts (by omega) (fun c hc=>Nat.le_trans (hx.c c hc) (by decide))) (gR 0 rfl (Qx rfl rfl rfl rfl (fun h37=>?_) (fun h37=>?_))))
     ·skip
      refine gR 8 rfl ?_
      rw [show JK p x=4 from by unfold JK; rw [if_neg h10,if_pos (by omega)]]
      exact rQ
     ·skip
      refine gR 9 rfl ?_
      rw [show JK p x=0 from by unfold JK; rw [if_neg h10,if_neg (by omega)]]
      exact rQ
def mcv107:MC:=(sq [oN 2 (.box 144 6 0) [],oN 4 (.mv (.c (.bool false))) []] (dq [oA 5 0 2 [],oA 6 2 5 [0],oD 7 1 6 [1],oM 8 1 [],oX 9 1 7 8 [2,3],oD 10 1 9 [4],oB 11 .eql 10 (cI 1) [5],oM 12 11 [6],pA 13 0 2 12 true [7],pA 14 1 13 12 true [8,7],pD 15 1 14 12 true [9,7],pM 16 1 12 true [7],oG 17 (.ixsl 1 15 16) 12 true [10,11,7],pD 18 1 17 12 true [12,7],pA 19 3 2 12 true [7],pA 20 2 19 12 true [14,7],pD 21 1 20 12 true [15,7],oG 22 (.call 86 [18,21]) 12 true [13,16,7,7],oG 23 (.un .not 22) 12 true [17,7],oN 24 (.pick 12 23 (.c (.bool false))) [7,18],oM 4 24 (19::17::up 20)] .ret))
theorem mcOkv107:okM Tryz.prog Tryz.f107 25=some mcv107:=by kernel_rfl
theorem vc107 (p:Pa) (x:Pc) (k:Nat) (w:Int) (c:List Pl) (hw:p.want[k]?=some w) (hc:p.cells[k]?=some c) (hx:∀ q∈x.cuts,OkA c q) (hn:x.cuts.length<=1000):FC Tryz.prog 107 [.agg (cJ p x),iv (k:Int)] [] (.bool (spoiltB p x k)) [] false:=by
 refine Qg (nt:=25) Tryz.func107 rfl rfl mcOkv107 (nL rfl) ?_
 delta mcv107
 refine gA 11 rfl (Qi (f:=civ) (y:=w) rfl rfl rfl (by omega) hw (gR 1 rfl (Qx rfl rfl rfl rfl (fun h11=>?_) (fun h11=>?_))))
 ·skip
  refine gR 5 rfl (Qi (f:=cR) (y:=c) rfl rfl rfl (by omega) hc (gR 4 rfl (cN rfl rfl (vc86 c x.cuts hx hn) (gR 3 rfl (Q9 (by kernel_rfl) (gP 1 rfl ?_))))))
  rw [show spoiltB p x k=(!Xz c x.cuts) from by unfold spoiltB; rw [Jb hw,decide_eq_true h11,Jb hc]; rfl]
  exact rQ
 ·skip
  refine gR 14 rfl (Q9 (by kernel_rfl) (gP 1 rfl ?_))
  rw [show spoiltB p x k=false from by unfold spoiltB; rw [Jb hw,decide_eq_false h11,Jb hc]; rfl]
  exact rQ
def mcv108:MC:=(sq [oN 2 (.box 144 6 0) [],oN 4 (.mv (.c (.bool false))) []] (sq [oA 5 0 2 [],oA 6 2 5 [0],oD 7 1 6 [1],oM 8 1 [],oX 9 1 7 8 [2,3],oD 10 1 9 [4],oB 11 .eql 10 (cI 1) [5],oM 12 11 [6],pA 13 3 2 12 true [7],pA 14 1 13 12 true [8,7],pD 15 1 14 12 true [9,7],pM 16 1 12 true [7],oG 17 (.ixsl 1 15 16) 12 true [10,11,7],pD 18 1 17 12 true [12,7],oN 19 (.pick 12 18 (.c (.bool false))) [7,13],oM 4 19 (14::7::up 15)] .ret))
theorem mcOkv108:okM Tryz.prog Tryz.f108 20=some mcv108:=by kernel_rfl
theorem vc108 (p:Pa) (x:Pc) (k:Nat) (w:Int) (b:Bool) (hw:p.want[k]?=some w) (ht:x.touched[k]?=some b):FC Tryz.prog 108 [.agg (cJ p x),iv (k:Int)] [] (.bool (gougedB p x k)) [] false:=by
 refine Qg (nt:=20) Tryz.func108 rfl rfl mcOkv108 (nL rfl) ?_
 delta mcv108
 refine gA 11 rfl (Qi (f:=civ) (y:=w) rfl rfl rfl (by omega) hw (gR 1 rfl (Qx rfl rfl rfl rfl (fun h11=>?_) (fun h11=>?_))))
 ·skip
  refine gR 5 rfl (Qi (f:=cB) (y:=b) rfl rfl rfl (by omega) ht (gR 5 rfl ?_))
  rw [show gougedB p x k=b from by unfold gougedB; rw [Jb hw,decide_eq_true h11,Jb ht]; rfl]
  exact rQ
 ·skip
  refine gR 11 rfl ?_
  rw [show gougedB p x k=false from by unfold gougedB; rw [Jb hw,decide_eq_false h11,Jb ht]; rfl]
  exact rQ
def mcv109:MC:=(sq [oN 2 (.box 144 6 0) [],oN 4 (.mv (.c (.bool false))) []] (sq [oA 5 0 2 [],oA 6 2 5 [0],oD 7 1 6 [1],oM 8 1 [],oX 9 1 7 8 [2,3],oD 10 1 9 [4],oB 11 .eql 10 (cI 2) [5],oM 12 11 [6],pA 13 3 2 12 true [7],pA 14 0 13 12 true [8,7],pD 15 1 14 12 true [9,7],pM 16 1 12 true [7],oG 17 (.ixsl 1 15 16) 12 true [10,11,7],pD 18 1 17 12 true [12,7],oG 19 (.un .not 18) 12 true [13,7],oN 20 (.pick 12 19 (.c (.bool false))) [7,14],oM 4 20 (15::7::up 16)] .ret))
theorem mcOkv109:okM Tryz.prog Tryz.f109 21=some mcv109:=by kernel_rfl
theorem vc109 (p:Pa) (x:Pc) (k:Nat) (w:Int) (b:Bool) (hw:p.want[k]?=some w) (hs:x.sure[k]?=some b):FC Tryz.prog 109 [.agg (cJ p x),iv (k:Int)] [] (.bool (leftB p x k)) [] false:=by
 refine Qg (nt:=21) Tryz.func109 rfl rfl mcOkv109 (nL rfl) ?_
 delta mcv109
 refine gA 11 rfl (Qi (f:=civ) (y:=w) rfl rfl rfl (by omega) hw (gR 1 rfl (Qx rfl rfl rfl rfl (fun h11=>?_) (fun h11=>?_))))
 ·skip
  refine gR 5 rfl (Qi (f:=cB) (y:=b) rfl rfl rfl (by omega) hs (gR 6 rfl ?_))
  rw [show leftB p x k=(!b) from by unfold leftB; rw [Jb hw,decide_eq_true h11,Jb hs]; rfl]
  exact rQ
 ·skip
  refine gR 12 rfl ?_
  rw [show leftB p x k=false from by unfold leftB; rw [Jb hw,decide_eq_false h11,Jb hs]; rfl]
  exact rQ
end Go.Proofs.YthfhaoogcpfboaaGreat
namespace Go.Proofs.YthfhaoogcpfboaaGreat
open Go.RowKit
set_option maxRecDepth 100000
set_option linter.unusedVariables false
theorem acc_sub {r:List Pl} {l:List Pt} {p q s:Pl} {x:Pt} (h:x∈l):x∈J0 r l p q s:=by
 unfold J0
 split
 ·exact h
 ·split
  ·exact h
  ·split
   ·exact List.mem_append.2 (.inl h)
   ·exact h
theorem inn_sub {r:List Pl} {p q:Pl} {x:Pt}:∀ {t:List Pl} {l:List Pt},x∈l->x∈innS r p q l t
 | [],l,h=>h
 | s::t,l,h=>inn_sub (t:=t) (acc_sub h)
theorem mid_sub {r:List Pl} {p:Pl} {x:Pt}:∀ {t:List Pl} {l:List Pt},x∈l->x∈midS r p l t
 | [],l,h=>h
 | s::t,l,h=>mid_sub (t:=t) (inn_sub h)
theorem top_sub {r:List Pl} {x:Pt}:∀ {t:List Pl} {l:List Pt},x∈l->x∈topS r l t
 | [],l,h=>h
 | s::t,l,h=>top_sub (t:=t) (mid_sub h)
theorem ptK_inj {x y:Pt} (h:ptK x=ptK y):x=y:=by
 cases x; cases y; simp [ptK] at h; simp [h]
theorem acc_has {r:List Pl} {l:List Pt} {p q s:Pl} (h0:wd3 p q s≠0) (hw:XU r (mtP p q s)=true):mtP p q s∈J0 r l p q s:=by
 unfold J0
 rw [if_neg h0]
 split
 ·rename_i h
  obtain ⟨y,hy,he⟩:=List.mem_map.1 h
  rw [ptK_inj he.symm]; exact hy
 ·first
  | exact List.mem_append.2 (.inr (List.mem_singleton.2 rfl))
  | (rw [if_pos hw]; exact List.mem_append.2 (.inr (List.mem_singleton.2 rfl)))
theorem inn_has {r:List Pl} {p q s:Pl} (h0:wd3 p q s≠0) (hw:XU r (mtP p q s)=true):∀ {t:List Pl} {l:List Pt},s∈t->mtP p q s∈innS r p q l t
 | [],l,h=>absurd h (by simp)
 | a::t,l,h=>by
  rcases List.mem_cons.1 h with rfl | h
  ·exact inn_sub (t:=t) (acc_has h0 hw)
  ·exact inn_has h0 hw (t:=t) h
theorem mid_has {r:List Pl} {p q s:Pl} (h0:wd3 p q s≠0) (hw:XU r (mtP p q s)=true):∀ {t:List Pl} {l:List Pt},[q,s].Sublist t->mtP p q s∈midS r p l t
 | [],l,h=>by cases h
 | a::t,l,h=>by
  cases h with
  | cons _ h=>exact mid_has h0 hw (t:=t) h
  | cons_cons _ h=>exact mid_sub (t:=t) (inn_has h0 hw (h.subset (List.mem_singleton.2 rfl)))
theorem top_has {r:List Pl} {p q s:Pl} (h0:wd3 p q s≠0) (hw:XU r (mtP p q s)=true):∀ {t:List Pl} {l:List Pt},[p,q,s].Sublist t->mtP p q s∈topS r l t
 | [],l,h=>by cases h
 | a::t,l,h=>by
  cases h with
  | cons _ h=>exact top_has h0 hw (t:=t) h
  | cons_cons _ h=>exact top_sub (t:=t) (mid_has h0 hw h)
theorem acc_P {r:List Pl} {Q:Pt->Prop} {l:List Pt} {p q s:Pl} (hl:∀ x∈l,Q x) (h:wd3 p q s≠0->XU r (mtP p q s)=true->Q (mtP p q s)):∀ x∈J0 r l p q s,Q x:=by
 unfold J0
 split
 ·exact hl
 ·rename_i h0
  split
  ·exact hl
  ·split
   ·rename_i h1
    intro x hx
    rcases List.mem_append.1 hx with hx | hx
    ·exact hl x hx
    ·rw [List.mem_singleton.1 hx]; exact h h0 h1
   ·exact hl
theorem inn_P {r:List Pl} {Q:Pt->Prop} {p q:Pl}:∀ {t:List Pl} {l:List Pt},(∀ x∈l,Q x)->(∀ s∈t,wd3 p q s≠0->XU r (mtP p q s)=true->Q (mtP p q s))->∀ x∈innS r p q l t,Q x
 | [],l,hl,h=>hl
 | s::t,l,hl,h=>inn_P (t:=t) (acc_P hl (h s (List.mem_cons_self ..))) (fun a ha=>h a (List.mem_cons_of_mem _ ha))
theorem mid_P {r:List Pl} {Q:Pt->Prop} {p:Pl}:∀ {t:List Pl} {l:List Pt},(∀ x∈l,Q x)->(∀ q∈t,∀ s∈t,wd3 p q s≠0->XU r (mtP p q s)=true->Q (mtP p q s))->∀ x∈midS r p l t,Q x
 | [],l,hl,h=>hl
 | q::t,l,hl,h=>mid_P (t:=t) (inn_P hl (fun s hs=>h q (List.mem_cons_self ..) s (List.mem_cons_of_mem _ hs))) (fun a ha b hb=>h a (List.mem_cons_of_mem _ ha) b (List.mem_cons_of_mem _ hb))
theorem top_P {r:List Pl} {Q:Pt->Prop}:∀ {t:List Pl} {l:List Pt},(∀ x∈l,Q x)->(∀ p∈t,∀ q∈t,∀ s∈t,wd3 p q s≠0->XU r (mtP p q s)=true->Q (mtP p q s))->∀ x∈topS r l t,Q x
 | [],l,hl,h=>hl
 | p::t,l,hl,h=>top_P (t:=t) (mid_P hl (fun q hq s hs=>h p (List.mem_cons_self ..) q (List.mem_cons_of_mem _ hq) s (List.mem_cons_of_mem _ hs))) (fun a ha b hb c hc=>h a (List.mem_cons_of_mem _ ha) b (List.mem_cons_of_mem _ hb) c (List.mem_cons_of_mem _ hc))
structure PtB (v:Pt):Prop where
 x : -267181325549568<=v.x/\v.x<=267181325549568
 y : -267181325549568<=v.y/\v.y<=267181325549568
 z : -267181325549568<=v.z/\v.z<=267181325549568
 w:0<=v.w/\v.w<=1000000000000
theorem tdivB {a g B:Int} (h : -B<=a/\a<=B) : -B<=a.tdiv g/\a.tdiv g<=B:=by
 have h1:=Int.natAbs_tdiv a g
 have h2:(a.tdiv g).natAbs<=a.natAbs:=by rw [h1]; exact Nat.div_le_self _ _
 omega
theorem mtP_b {p q s:Pl} (hp:Qw p=true) (hq:Qw q=true) (hs:Qw s=true):PtB (mtP p q s):=by
 obtain ⟨⟨hx,hy,hz⟩,hw⟩:=sum3_b hp hq hs
 have ax:=tdivB (g:=g3 p q s) hx
 have ay:=tdivB (g:=g3 p q s) hy
 have az:=tdivB (g:=g3 p q s) hz
 have aw:=tdivB (g:=g3 p q s) hw
 have nn:0<=(wd3 p q s).tdiv (g3 p q s):=by
  unfold g3
  split
  ·rename_i h
   have:=Int.tdiv_nonneg (a := -wd3 p q s) (b:=(gL [(Xk p q s).x,(Xk p q s).y,(Xk p q s).z,wd3 p q s]:Int)) (by omega) (by omega)
   rw [Int.neg_tdiv,← Int.tdiv_neg] at this
   exact this
  ·exact Int.tdiv_nonneg (by omega) (by omega)
 refine ⟨?_,?_,?_,?_⟩ <;> (unfold mtP; dsimp only; rw [QU (by omega)]; omega)
theorem dotE {n v:V3} (hn:VB 4608 n) (hv:VB 267181325549568 v):dotW n v=n.x*v.x+n.y*v.y+n.z*v.z:=by
 obtain ⟨n1,n2,n3⟩:=hn
 obtain ⟨v1,v2,v3⟩:=hv
 have b1:=XT n1 v1
 have b2:=XT n2 v2
 have b3:=XT n3 v3
 unfold dotW
 rw [QU (n:=n.x*v.x) (by omega),QU (n:=n.y*v.y) (by omega),QU (n:=n.z*v.z) (by omega),QU (n:=n.x*v.x+n.y*v.y) (by omega),QU (by omega)]
theorem room_eq {p:Pl} {x:Pt} (hp:Qw p=true) (hx:PtB x):Ud p x=p.b*x.w-(p.n.x*x.x+p.n.y*x.y+p.n.z*x.z):=by
 obtain ⟨hn,hb⟩:=JR hp
 have e:=dotE (v:=⟨x.x,x.y,x.z⟩) hn ⟨hx.x,hx.y,hx.z⟩
 have b0:=XT hb (B:=1000000000000) (b:=x.w) ⟨by have:=hx.w; omega,hx.w.2⟩
 have b1:=XT hn.1 hx.x
 have b2:=XT hn.2.1 hx.y
 have b3:=XT hn.2.2 hx.z
 unfold Ud
 dsimp only at e
 rw [e,QU (n:=p.b*x.w) (by omega),QU (by omega)]
theorem corn_b {r:List Pl} (hv:∀ p∈r,Qw p=true):∀ x∈Xf r,PtB x/\XU r x=true :=
 top_P (Q:=fun x=>PtB x/\XU r x=true) (by simp) fun p hp q hq s hs h0 hw=>⟨mtP_b (hv p hp) (hv q hq) (hv s hs),hw⟩
theorem with_room {r:List Pl} {x:Pt} (h:XU r x=true) {p:Pl} (hp:p∈r):0<=Ud p x:=by
 unfold XU at h
 have h2:r.any (outB x)=false:=by simpa using h
 have h3:=List.any_eq_false.1 h2 p hp
 have h4:¬ Ud p x<0:=fun hc=>h3 (decide_eq_true hc)
 omega
def SepC (a b:List Pl):Prop:=∃ p∈a,∃ q∈b,(q.n.x = -p.n.x/\q.n.y = -p.n.y/\q.n.z = -p.n.z)/\p.b+q.b<=0
theorem SepC.symm {a b:List Pl} (h:SepC a b):SepC b a:=by
 obtain ⟨p,hp,q,hq,⟨h1,h2,h3⟩,h4⟩:=h
 exact ⟨q,hq,p,hp,⟨by omega,by omega,by omega⟩,by omega⟩
theorem SepC.mono {a b c d:List Pl} (h:SepC a b) (ha:∀ p∈a,p∈c) (hb:∀ p∈b,p∈d):SepC c d:=by
 obtain ⟨p,hp,q,hq,h⟩:=h
 exact ⟨p,ha p hp,q,hb q hq,h⟩
theorem sep_not_full {r:List Pl} (hv:∀ p∈r,Qw p=true) {p q:Pl} (hp:p∈r) (hq:q∈r) (hn:q.n.x = -p.n.x/\q.n.y = -p.n.y/\q.n.z = -p.n.z) (hb:p.b+q.b<=0):Ui r=false:=by
 unfold Ui
 have:r.any (nonS (Xf r))=true:=List.any_eq_true.2 ⟨p,hp,by
  unfold nonS
  have:(Xf r).any (inB p)=false:=List.any_eq_false.2 fun x hx=>by
   obtain ⟨hB,hw⟩:=corn_b hv x hx
   have r1:=with_room hw hp
   have r2:=with_room hw hq
   have e1:=room_eq (hv p hp) hB
   have e2:=room_eq (hv q hq) hB
   rw [hn.1,hn.2.1,hn.2.2] at e2
   have hm:(p.b+q.b)*x.w<=0:=Int.mul_nonpos_of_nonpos_of_nonneg hb hB.w.1
   rw [Int.add_mul] at hm
   rw [Int.neg_mul,Int.neg_mul,Int.neg_mul] at e2
   have:¬ Ud p x>0:=by omega
   unfold inB
   rw [decide_eq_false this]; decide
  rw [this]; rfl⟩
 rw [this]; rfl
theorem sep_apart {a b:List Pl} (h:SepC a b):Xw a b=true:=by
 unfold Xw
 cases hv:Xm [a,b]
 ·rfl
 ·obtain ⟨p,hp,q,hq,hn,hb⟩:=h
  have:Ui (ofS [a,b])=false:=sep_not_full (Ue hv) (p:=p) (q:=q) (by unfold ofS; simp [hp]) (by unfold ofS; simp [hq]) hn hb
  rw [this]; rfl
theorem ckC_ok:∀ {l pre:List (List Pl)},(∀ c∈l,QO c=true)->l.Pairwise SepC->(∀ a∈pre,∀ c∈l,SepC a c)->ckC pre l=0
 | [],pre,_,_,_=>rfl
 | c::l,pre,hf,hp,hs=>by
  have h1:Xz c pre=true:=by
   unfold Xz
   have:pre.any (Ug c)=false:=List.any_eq_false.2 fun a ha=>by
    unfold Ug; rw [sep_apart (hs a ha c (List.mem_cons_self ..)).symm]; decide
   rw [this]; rfl
  have h2:=List.pairwise_cons.1 hp
  unfold ckC
  rw [hf c (List.mem_cons_self ..),h1]
  exact ckC_ok (fun a ha=>hf a (List.mem_cons_of_mem _ ha)) h2.2 fun a ha b hb=>by
   rcases List.mem_append.1 ha with ha | ha
   ·exact hs a ha b (List.mem_cons_of_mem _ hb)
   ·rw [List.mem_singleton.1 ha]; exact h2.1 b hb
theorem gL1 (l:List Int) {e:Int} (he:e=1\/e = -1):gL (l++[e])=1:=by
 unfold gL; rw [List.foldl_append]
 rcases he with rfl | rfl <;> simp
theorem timesE {v:V3} {n:Int} (h1:v.x=0\/v.x=1\/v.x = -1) (h2:v.y=0\/v.y=1\/v.y = -1) (h3:v.z=0\/v.z=1\/v.z = -1) (hn : -1000000000<=n/\n<=1000000000):QK v n=⟨v.x*n,v.y*n,v.z*n⟩:=by
 have b:∀ a:Int,(a=0\/a=1\/a = -1)->W (a*n)=a*n:=fun a ha=>QU (by rcases ha with rfl | rfl | rfl <;> omega)
 unfold QK; rw [b _ h1,b _ h2,b _ h3]
theorem addE {a b:V3} (ha:VB 1000000000 a) (hb:VB 1000000000 b):Un a b=⟨a.x+b.x,a.y+b.y,a.z+b.z⟩:=by
 obtain ⟨a1,a2,a3⟩:=ha
 obtain ⟨b1,b2,b3⟩:=hb
 unfold Un; rw [QU (by omega),QU (by omega),QU (by omega)]
theorem sum_axis {s:Int} (hs:s=1\/s = -1) {x y z:Int} (hx : -1000000<=x/\x<=1000000) (hy : -1000000<=y/\y<=1000000) (hz : -1000000<=z/\z<=1000000) :
  Xk ⟨⟨s,0,0⟩,x⟩ ⟨⟨0,s,0⟩,y⟩ ⟨⟨0,0,s⟩,z⟩=⟨x,y,z⟩/\wd3 ⟨⟨s,0,0⟩,x⟩ ⟨⟨0,s,0⟩,y⟩ ⟨⟨0,0,s⟩,z⟩=s:=by
 have c1:Q6 ⟨0,s,0⟩ ⟨0,0,s⟩=⟨1,0,0⟩:=by rcases hs with rfl | rfl <;> decide +kernel
 have c2:Q6 ⟨0,0,s⟩ ⟨s,0,0⟩=⟨0,1,0⟩:=by rcases hs with rfl | rfl <;> decide +kernel
 have c3:Q6 ⟨s,0,0⟩ ⟨0,s,0⟩=⟨0,0,1⟩:=by rcases hs with rfl | rfl <;> decide +kernel
 constructor
 ·unfold Xk sumS
  dsimp only
  rw [c1,c2,c3,timesE (by simp) (by simp) (by simp) (by omega),timesE (by simp) (by simp) (by simp) (by omega),timesE (by simp) (by simp) (by simp) (by omega)]
  rw [addE (a:=⟨0,0,0⟩) (by unfold VB; dsimp only; omega) (by unfold VB; dsimp only; omega)]
  rw [addE (a:=⟨_,_,_⟩) (b:=⟨_,_,_⟩) (by unfold VB; dsimp only; omega) (by unfold VB; dsimp only; omega)]
  rw [addE (a:=⟨_,_,_⟩) (b:=⟨_,_,_⟩) (by unfold VB; dsimp only; omega) (by unfold VB; dsimp only; omega)]
  simp
 ·unfold wd3 wdS
  dsimp only
  rw [c3]
  rcases hs with rfl | rfl <;> decide +kernel
theorem mt_axis {s:Int} (hs:s=1\/s = -1) {x y z:Int} (hx : -1000000<=x/\x<=1000000) (hy : -1000000<=y/\y<=1000000) (hz : -1000000<=z/\z<=1000000) :
  mtP ⟨⟨s,0,0⟩,x⟩ ⟨⟨0,s,0⟩,y⟩ ⟨⟨0,0,s⟩,z⟩=⟨s*x,s*y,s*z,1⟩:=by
 obtain ⟨e1,e2⟩:=sum_axis hs hx hy hz
 have eg:g3 ⟨⟨s,0,0⟩,x⟩ ⟨⟨0,s,0⟩,y⟩ ⟨⟨0,0,s⟩,z⟩=s:=by
  unfold g3; rw [e1,e2]
  have:=gL1 [x,y,z] hs
  rw [show [x,y,z]++[s]=[x,y,z,s] from rfl] at this
  dsimp only
  rw [this]
  rcases hs with rfl | rfl <;> rfl
 unfold mtP
 rw [eg,e1,e2]
 rcases hs with rfl | rfl
 ·simp only [Int.tdiv_one,Int.one_mul]
  rw [QU (by omega),QU (by omega),QU (by omega),QU (by omega)]
 ·simp only [Int.tdiv_neg,Int.tdiv_one,Int.neg_mul,Int.one_mul]
  rw [QU (by omega),QU (by omega),QU (by omega),QU (by omega)]
  simp
structure BoxB (lo hi:V3):Prop where
 x : -24<=lo.x/\lo.x<hi.x/\hi.x<=24
 y : -24<=lo.y/\lo.y<hi.y/\hi.y<=24
 z : -24<=lo.z/\lo.z<hi.z/\hi.z<=24
theorem val_of {n:V3} {b:Int} (hn:(J4 4608 [n.x,n.y,n.z]&&decide ((gL [n.x,n.y,n.z]:Int)=1))=true) (hb : -2097152<=b/\b<=2097152):Qw ⟨n,b⟩=true:=by
 unfold Qw; dsimp only; rw [hn]
 show (true&&(decide (-2097152<=b/\b<=2097152)&&true))=true
 rw [decide_eq_true hb]; rfl
theorem box_valid {lo hi:V3} (h1:VB 2097152 lo) (h2:VB 2097152 hi):∀ p∈JL lo hi,Qw p=true:=by
 obtain ⟨a1,a2,a3⟩:=h1
 obtain ⟨b1,b2,b3⟩:=h2
 intro p hp
 simp only [JL,List.mem_cons,List.not_mem_nil,or_false] at hp
 rcases hp with rfl | rfl | rfl | rfl | rfl | rfl <;> exact val_of (by decide +kernel) (by omega)
theorem BoxB.v1 {lo hi:V3} (h:BoxB lo hi):VB 2097152 lo:=by
 have:=h.x; have:=h.y; have:=h.z; unfold VB; omega
theorem BoxB.v2 {lo hi:V3} (h:BoxB lo hi):VB 2097152 hi:=by
 have:=h.x; have:=h.y; have:=h.z; unfold VB; omega
theorem bad_of {c:List Pl} (hl:c.length<=48) (h:∀ p∈c,Qw p=true):badC c=false:=by
 unfold badC ckS
 rw [if_neg (by omega),if_neg (by
  intro hc
  obtain ⟨p,hp,hb⟩:=List.any_eq_true.1 hc
  unfold badP at hb; rw [h p hp] at hb; exact absurd hb (by decide))]
 rfl
theorem val1 {c:List Pl} (h:badC c=false):Xm [c]=true:=by unfold Xm; simp [h]
theorem val2 {a b:List Pl} (h:badC a=false) (h2:badC b=false):Xm [a,b]=true:=by unfold Xm; simp [h,h2]
theorem full_of {r:List Pl} {a b:Pt} (ha:a∈Xf r) (hb:b∈Xf r) (h:∀ p∈r,Ud p a>0\/Ud p b>0):Ui r=true:=by
 unfold Ui
 have:r.any (nonS (Xf r))=false:=List.any_eq_false.2 fun p hp=>by
  unfold nonS
  have:(Xf r).any (inB p)=true:=by
   rcases h p hp with h | h
   ·exact List.any_eq_true.2 ⟨a,ha,decide_eq_true h⟩
   ·exact List.any_eq_true.2 ⟨b,hb,decide_eq_true h⟩
  rw [this]; decide
 rw [this]; rfl
theorem with_of {r:List Pl} {x:Pt} (h:∀ p∈r,0<=Ud p x):XU r x=true:=by
 unfold XU
 have:r.any (outB x)=false:=List.any_eq_false.2 fun p hp hc=>by
  have:=of_decide_eq_true hc; have:=h p hp; omega
 rw [this]; rfl
theorem box_of (lo hi:V3):ofS [JL lo hi]=[⟨⟨1,0,0⟩,hi.x⟩,⟨⟨-1,0,0⟩,-lo.x⟩,⟨⟨0,1,0⟩,hi.y⟩,⟨⟨0,-1,0⟩,-lo.y⟩,⟨⟨0,0,1⟩,hi.z⟩,⟨⟨0,0,-1⟩,-lo.z⟩,⟨⟨1,0,0⟩,24⟩,⟨⟨-1,0,0⟩,24⟩,⟨⟨0,1,0⟩,24⟩,⟨⟨0,-1,0⟩,24⟩,⟨⟨0,0,1⟩,24⟩,⟨⟨0,0,-1⟩,24⟩]:=rfl
theorem box_full {lo hi:V3} (h:BoxB lo hi):QO (JL lo hi)=true:=by
 have hv:=box_valid h.v1 h.v2
 have hb:=bad_of (c:=JL lo hi) (show 6<=48 by decide) hv
 have hv2:=Ue (val1 hb)
 obtain ⟨x1,x2,x3⟩:=h.x
 obtain ⟨y1,y2,y3⟩:=h.y
 obtain ⟨z1,z2,z3⟩:=h.z
 have ma:=mt_axis (s:=1) (.inl rfl) (x:=hi.x) (y:=hi.y) (z:=hi.z) (by omega) (by omega) (by omega)
 have mb:=mt_axis (s := -1) (.inr rfl) (x := -lo.x) (y := -lo.y) (z := -lo.z) (by omega) (by omega) (by omega)
 have wa:=(sum_axis (s:=1) (.inl rfl) (x:=hi.x) (y:=hi.y) (z:=hi.z) (by omega) (by omega) (by omega)).2
 have wb:=(sum_axis (s := -1) (.inr rfl) (x := -lo.x) (y := -lo.y) (z := -lo.z) (by omega) (by omega) (by omega)).2
 simp only [Int.one_mul] at ma
 simp only [Int.neg_mul,Int.one_mul,Int.neg_neg] at mb
 have pa:PtB ⟨hi.x,hi.y,hi.z,1⟩:=⟨by dsimp only; omega,by dsimp only; omega,by dsimp only; omega,by dsimp only; omega⟩
 have pb:PtB ⟨lo.x,lo.y,lo.z,1⟩:=⟨by dsimp only; omega,by dsimp only; omega,by dsimp only; omega,by dsimp only; omega⟩
 have ra:∀ p∈ofS [JL lo hi],0<=Ud p ⟨hi.x,hi.y,hi.z,1⟩/\0<=Ud p ⟨lo.x,lo.y,lo.z,1⟩/\(Ud p ⟨hi.x,hi.y,hi.z,1⟩>0\/Ud p ⟨lo.x,lo.y,lo.z,1⟩>0):=by
  intro p hp
  rw [room_eq (hv2 p hp) pa,room_eq (hv2 p hp) pb]
  rw [box_of] at hp
  simp only [List.mem_cons,List.not_mem_nil,or_false] at hp
  rcases hp with rfl | rfl | rfl | rfl | rfl | rfl | rfl | rfl | rfl | rfl | rfl | rfl <;> (dsimp only; omega)
 have ha:(⟨hi.x,hi.y,hi.z,1⟩:Pt)∈Xf (ofS [JL lo hi]):=by
  rw [← ma]
  refine top_has (by rw [wa]; decide) (by rw [ma]; exact with_of fun p hp=>(ra p hp).1) ?_
  rw [box_of]
  exact .cons_cons _ (.cons _ (.cons_cons _ (.cons _ (.cons_cons _ (List.nil_sublist _)))))
 have hb':(⟨lo.x,lo.y,lo.z,1⟩:Pt)∈Xf (ofS [JL lo hi]):=by
  rw [← mb]
  refine top_has (by rw [wb]; decide) (by rw [mb]; exact with_of fun p hp=>(ra p hp).2.1) ?_
  rw [box_of]
  exact .cons _ (.cons_cons _ (.cons _ (.cons_cons _ (.cons _ (.cons_cons _ (List.nil_sublist _))))))
 unfold QO
 rw [val1 hb,full_of ha hb' fun p hp=>(ra p hp).2.2]; rfl
structure CellOK (c:List Pl):Prop where
 len:2<=c.length/\c.length<=7
 val:∀ p∈c,Qw p=true
 full:QO c=true
theorem box_ok {lo hi:V3} (h:BoxB lo hi):CellOK (JL lo hi):=⟨by show 2<=6/\6<=7; omega,box_valid h.v1 h.v2,box_full h⟩
structure PtI (l:List (List Pl)) (x:Int):Prop where
 box:∀ c∈l,∃ lo hi,c=JL lo hi/\BoxB lo hi/\hi.x<=x
 pw:l.Pairwise SepC
theorem PtI.nil (x:Int):PtI [] x:=⟨by simp,.nil⟩
theorem sepX {lo hi lo' hi':V3} (h:hi.x<=lo'.x):SepC (JL lo hi) (JL lo' hi') :=
 ⟨⟨⟨1,0,0⟩,hi.x⟩,by simp [JL],⟨⟨-1,0,0⟩,-lo'.x⟩,by simp [JL],⟨rfl,rfl,rfl⟩,by dsimp only; omega⟩
theorem sepY {lo hi lo' hi':V3} (h:hi.y<=lo'.y):SepC (JL lo hi) (JL lo' hi') :=
 ⟨⟨⟨0,1,0⟩,hi.y⟩,by simp [JL],⟨⟨0,-1,0⟩,-lo'.y⟩,by simp [JL],⟨rfl,rfl,rfl⟩,by dsimp only; omega⟩
theorem PtI.push {l:List (List Pl)} {x x':Int} (h:PtI l x) {lo hi:V3} (hb:BoxB lo hi) (h1:lo.x=x) (h2:hi.x=x'):PtI (l++[JL lo hi]) x' where
 box:=fun c hc=>by
  have:=hb.x
  rcases List.mem_append.1 hc with hc | hc
  ·obtain ⟨a,b,e,h3,h4⟩:=h.box c hc; exact ⟨a,b,e,h3,by omega⟩
  ·exact ⟨lo,hi,List.mem_singleton.1 hc,hb,by omega⟩
 pw:=List.pairwise_append.2 ⟨h.pw,by simp,fun a ha b hb'=>by
  obtain ⟨lo',hi',e,h3,h4⟩:=h.box a ha
  rw [List.mem_singleton.1 hb',e]; exact sepX (by omega)⟩
theorem PtI.push2 {l:List (List Pl)} {x x':Int} (h:PtI l x) {lo hi lo2 hi2:V3} (hb:BoxB lo hi) (hb2:BoxB lo2 hi2) (h1:lo.x=x) (h2:hi.x=x') (h3:lo2.x=x) (h4:hi2.x=x') (hy:hi.y<=lo2.y):PtI (l++[JL lo hi,JL lo2 hi2]) x' where
 box:=fun c hc=>by
  have:=hb.x
  rcases List.mem_append.1 hc with hc | hc
  ·obtain ⟨a,b,e,h3,h4⟩:=h.box c hc; exact ⟨a,b,e,h3,by omega⟩
  ·rcases List.mem_cons.1 hc with rfl | hc
   ·exact ⟨lo,hi,rfl,hb,by omega⟩
   ·exact ⟨lo2,hi2,List.mem_singleton.1 hc,hb2,by omega⟩
 pw:=List.pairwise_append.2 ⟨h.pw,by simpa using sepY hy,fun a ha b hb'=>by
  obtain ⟨lo',hi',e,h5,h6⟩:=h.box a ha
  rcases List.mem_cons.1 hb' with rfl | hb'
  ·rw [e]; exact sepX (by omega)
  ·rw [List.mem_singleton.1 hb',e]; exact sepX (by omega)⟩
structure PtC (l:List (List Pl)):Prop where
 ok:∀ c∈l,CellOK c
 pw:l.Pairwise SepC
theorem PtI.all {l:List (List Pl)} {x:Int} (h:PtI l x):PtC l:=⟨fun c hc=>by
 obtain ⟨lo,hi,rfl,hb,_⟩:=h.box c hc; exact box_ok hb,h.pw⟩
theorem pw_set {l:List (List Pl)} {k:Nat} {c a:List Pl} (hp:l.Pairwise SepC) (hc:l[k]?=some c) (hs:∀ p∈c,p∈a):(l.set k a).Pairwise SepC:=by
 induction l generalizing k with
 | nil=>simp
 | cons x l ih =>
  have h2:=List.pairwise_cons.1 hp
  cases k with
  | zero =>
   simp at hc; subst hc
   exact List.pairwise_cons.2 ⟨fun b hb=>(h2.1 b hb).mono hs fun _ h=>h,h2.2⟩
  | succ k =>
   refine List.pairwise_cons.2 ⟨fun b hb=>?_,ih h2.2 (by simpa using hc)⟩
   rcases List.mem_or_eq_of_mem_set hb with hb | rfl
   ·exact h2.1 b hb
   ·exact (h2.1 c (Xr (by simpa using hc))).mono (fun _ h=>h) hs
theorem PtC.cut {l:List (List Pl)} (h:PtC l) {k:Nat} {c:List Pl} (hc:l[k]?=some c) (hl:c.length<=6) {p q:Pl} (hp:Qw p=true) (hq:Qw q=true) (hn:q.n.x = -p.n.x/\q.n.y = -p.n.y/\q.n.z = -p.n.z) (hb:p.b+q.b<=0) (h1:QO (c++[p])=true) (h2:QO (c++[q])=true):PtC (l.set k (c++[p])++[c++[q]]) where
 ok:=fun a ha=>by
  have hcc:=h.ok c (Xr hc)
  have mk:∀ {x:Pl},Qw x=true->QO (c++[x])=true->CellOK (c++[x]):=fun hx hf=>⟨by rw [List.length_append,List.length_singleton]; have:=hcc.len; omega,fun y hy=>by
   rcases List.mem_append.1 hy with hy | hy
   ·exact hcc.val y hy
   ·rw [List.mem_singleton.1 hy]; exact hx,hf⟩
  rcases List.mem_append.1 ha with ha | ha
  ·rcases List.mem_or_eq_of_mem_set ha with ha | rfl
   ·exact h.ok a ha
   ·exact mk hp h1
  ·rw [List.mem_singleton.1 ha]; exact mk hq h2
 pw:=by
  have hk:k<l.length:=by
   rcases Nat.lt_or_ge k l.length with h | h
   ·exact h
   ·rw [List.getElem?_eq_none h] at hc; exact absurd hc (by simp)
  refine List.pairwise_append.2 ⟨pw_set h.pw hc fun _ h=>List.mem_append.2 (.inl h),by simp,fun a ha b hb'=>?_⟩
  rw [List.mem_singleton.1 hb']
  obtain ⟨i,hi⟩:=List.mem_iff_getElem?.1 ha
  rw [List.getElem?_set] at hi
  by_cases e:k=i
  ·rw [if_pos e,if_pos (by omega)] at hi
   rw [← Option.some.inj hi]
   exact ⟨p,by simp,q,by simp,hn,hb⟩
  ·rw [if_neg e] at hi
   have hs:∀ y∈c,y∈c++[q]:=fun _ h=>List.mem_append.2 (.inl h)
   have hpw:=List.pairwise_iff_getElem.1 h.pw
   obtain ⟨hil,hie⟩:=List.getElem?_eq_some_iff.1 hi
   obtain ⟨hkl,hke⟩:=List.getElem?_eq_some_iff.1 hc
   rcases Nat.lt_or_gt_of_ne e with hlt | hgt
   ·have:=hpw k i hkl hil hlt
    rw [hie,hke] at this
    exact this.symm.mono (fun _ h=>h) hs
   ·have:=hpw i k hil hkl hgt
    rw [hie,hke] at this
    exact this.mono (fun _ h=>h) hs
structure GoodP (p:Pa):Prop where
 n:2<=p.cells.length/\p.cells.length<=6
 cells:PtC p.cells
 want:p.want.length=p.cells.length
 wants:∀ w∈p.want,1<=w/\w<=3
theorem GoodP.check {p:Pa} (h:GoodP p):ckP p=0:=by
 have:=h.n; have:=h.want
 unfold ckP
 rw [if_neg (by omega),if_neg (by
  rintro (hc | hc)
  ·exact hc h.want
  ·obtain ⟨w,hw,hb⟩:=List.any_eq_true.1 hc
   have:=h.wants w hw
   unfold QP at hb
   rw [decide_eq_false (by omega),decide_eq_false (by omega)] at hb
   exact absurd hb (by decide))]
 exact ckC_ok (fun c hc=>(h.cells.ok c hc).full) h.cells.pw (by simp)
end Go.Proofs.YthfhaoogcpfboaaGreat
namespace Go.Proofs.YthfhaoogcpfboaaGreat
open Go.RowKit
set_option maxRecDepth 100000
set_option linter.unusedVariables false
theorem addW0 (v:V3) (n:Int):Un ⟨0,0,0⟩ (QK v n)=QK v n:=by
 have h:∀ m:Int,W (0+W m)=W m:=fun m=>by simp only [W,IntKind.wrap_i64]; omega
 unfold Un QK; dsimp only; rw [h,h,h]
theorem wsub4 (a b c d:Int):W (W (W (W a-W b)-W c)-W d)=W (W a-W (W (W b+W c)+W d)):=by
 simp only [W,IntKind.wrap_i64]; omega
def Jn (p:Pl):Pl:=⟨subW ⟨0,0,0⟩ p.n,-p.b⟩
def vk (v:V3) (k:Nat):Int:=[v.x,v.y,v.z].getD k 0
theorem c3at {v:V3} {k:Nat} (h:k<3):(cV v)[0+((k:Int)).toNat*1]?=some (iv (vk v k)):=by
 obtain rfl | rfl | rfl:k=0\/k=1\/k=2:=by omega
 all_goals rfl
theorem vk_bd {v:V3} {k:Nat} {m:Int} (h:k<3) (hv:VB m v) : -m<=vk v k/\vk v k<=m:=by
 obtain ⟨h1,h2,h3⟩:=hv
 obtain rfl | rfl | rfl:k=0\/k=1\/k=2:=by omega
 ·exact h1
 ·exact h2
 ·exact h3
def g3L (v:V3):Nat:=gL [v.x,v.y,v.z]
theorem g3L_succ {v:V3} {k:Nat} (h:k<3):gL ([v.x,v.y,v.z].take (k+1))=Nat.gcd (gL ([v.x,v.y,v.z].take k)) (vk v k).natAbs:=by
 obtain rfl | rfl | rfl:k=0\/k=1\/k=2:=by omega
 all_goals rfl
def primS (v:V3):V3:=if g3L v=0 then ⟨0,0,0⟩ else ⟨W (v.x.tdiv (g3L v)),W (v.y.tdiv (g3L v)),W (v.z.tdiv (g3L v))⟩
theorem val_f1 {p:Pl} {k:Nat} (h:k<3) (hb:¬ (-4608<=vk p.n k/\vk p.n k<=4608)):Qw p=false:=by
 cases hv:Qw p
 ·rfl
 ·exact absurd (vk_bd h (JR hv).1) hb
theorem val_eq {p:Pl} (h:VB 4608 p.n):Qw p=(decide ((g3L p.n:Int)=1)&&decide (-2097152<=p.b/\p.b<=2097152)):=by
 obtain ⟨h1,h2,h3⟩:=h
 unfold Qw
 rw [show J4 4608 [p.n.x,p.n.y,p.n.z]=true from by simp [J4,h1,h2,h3],show J4 2097152 [p.b]=decide (-2097152<=p.b/\p.b<=2097152) from by simp [J4]]
 rfl
theorem vb_of {v:V3} {m:Int} (h:∀ j,j<3 → -m<=vk v j/\vk v j<=m):VB m v:=⟨h 0 (by decide),h 1 (by decide),h 2 (by decide)⟩
def mcv98:MC:=(sq [oN 2 (.box 88 3 0) [],oN 3 (.box 88 3 1) [],oN 4 (.alloc 88 3 (iz 3)) []] (sq [oA 5 0 2 [],oD 6 1 5 [0],oA 7 0 3 [],oD 8 1 7 [2],oB 9 .sub 6 8 [1,3],oA 10 1 2 [],oD 11 1 10 [5],oA 12 1 3 [],oD 13 1 12 [7],oB 14 .sub 11 13 [6,8],oA 15 2 2 [],oD 16 1 15 [10],oA 17 2 3 [],oD 18 1 17 [12],oB 19 .sub 16 18 [11,13],oN 20 (.build (iz 3) [(0,1,9),(1,1,14),(2,1,19)]) [4,9,14],oS 3 4 20 (15::up 16)] .ret))
theorem mcOkv98:okM Tryz.prog Tryz.f98 21=some mcv98:=by kernel_rfl
theorem vc98 (a b:V3):FC Tryz.prog 98 [aV a,aV b] [] (aV (subW a b)) [] false:=by
 refine Qg (nt:=21) Tryz.func98 rfl rfl mcOkv98 (nL rfl) ?_
 delta mcv98
 refine gA 12 rfl (Xt rfl rfl rfl rfl (gR 4 rfl (Xt rfl rfl rfl rfl (gR 4 rfl (Xt rfl rfl rfl rfl (gR 4 rfl ?_))))))
 exact rQ
def mcv202:MC:=(sq [oN 2 (.box 88 3 0) [],oN 3 (.box 88 3 1) [],oN 4 (.alloc 88 3 (iz 3)) []] (sq [oA 5 0 2 [],oD 6 1 5 [0],oA 7 0 3 [],oD 8 1 7 [2],oB 9 .add 6 8 [1,3],oA 10 1 2 [],oD 11 1 10 [5],oA 12 1 3 [],oD 13 1 12 [7],oB 14 .add 11 13 [6,8],oA 15 2 2 [],oD 16 1 15 [10],oA 17 2 3 [],oD 18 1 17 [12],oB 19 .add 16 18 [11,13],oN 20 (.build (iz 3) [(0,1,9),(1,1,14),(2,1,19)]) [4,9,14],oS 3 4 20 (15::up 16)] .ret))
theorem mcOkv202:okM Tryz.prog Tryz.f202 21=some mcv202:=by kernel_rfl
theorem vc202 (a b:V3):FC Tryz.prog 202 [aV a,aV b] [] (aV (Un a b)) [] false:=by
 refine Qg (nt:=21) Tryz.func202 rfl rfl mcOkv202 (nL rfl) ?_
 delta mcv202
 refine gA 12 rfl (QS rfl rfl rfl rfl (gR 4 rfl (QS rfl rfl rfl rfl (gR 4 rfl (QS rfl rfl rfl rfl (gR 4 rfl ?_))))))
 exact rQ
def mcv200:MC:=(sq [oN 2 (.box 88 3 0) [],oN 3 (.box 88 3 1) [],oN 4 (.alloc 88 3 (iz 3)) []] (sq [oA 5 1 2 [],oD 6 1 5 [0],oA 7 2 3 [],oD 8 1 7 [2],oB 9 .mul 6 8 [1,3],oA 10 2 2 [],oD 11 1 10 [5],oA 12 1 3 [],oD 13 1 12 [7],oB 14 .mul 11 13 [6,8],oB 15 .sub 9 14 [4,9],oA 16 2 2 [],oD 17 1 16 [11],oA 18 0 3 [],oD 19 1 18 [13],oB 20 .mul 17 19 [12,14],oA 21 0 2 [],oD 22 1 21 [16],oA 23 2 3 [],oD 24 1 23 [18],oB 25 .mul 22 24 [17,19],oB 26 .sub 20 25 [15,20],oA 27 0 2 [],oD 28 1 27 [22],oA 29 1 3 [],oD 30 1 29 [24],oB 31 .mul 28 30 [23,25],oA 32 1 2 [],oD 33 1 32 [27],oA 34 0 3 [],oD 35 1 34 [29],oB 36 .mul 33 35 [28,30],oB 37 .sub 31 36 [26,31],oN 38 (.build (iz 3) [(0,1,15),(1,1,26),(2,1,37)]) [10,21,32],oS 3 4 38 (33::up 34)] .ret))
theorem mcOkv200:okM Tryz.prog Tryz.f200 39=some mcv200:=by kernel_rfl
theorem vc200 (a b:V3):FC Tryz.prog 200 [aV a,aV b] [] (aV (Q6 a b)) [] false:=by
 refine Qg (nt:=39) Tryz.func200 rfl rfl mcOkv200 (nL rfl) ?_
 delta mcv200
 refine gA 12 rfl (Q4 rfl rfl rfl rfl (gR 4 rfl (Q4 rfl rfl rfl rfl (gR 0 rfl (Xt rfl rfl rfl rfl (gR 4 rfl (Q4 rfl rfl rfl rfl (gR 4 rfl (Q4 rfl rfl rfl rfl (gR 0 rfl (Xt rfl rfl rfl rfl ?_)))))))))))
 refine gR 4 rfl (Q4 rfl rfl rfl rfl (gR 4 rfl (Q4 rfl rfl rfl rfl (gR 0 rfl (Xt rfl rfl rfl rfl (gR 4 rfl ?_))))))
 exact rQ
def mcv199:MC:=(sq [oN 2 (.box 88 3 0) [],oN 3 (.box 88 3 1) [],oN 4 (.mv (cI 0)) []] (sq [oA 5 0 2 [],oD 6 1 5 [0],oA 7 0 3 [],oD 8 1 7 [2],oB 9 .mul 6 8 [1,3],oA 10 1 2 [],oD 11 1 10 [5],oA 12 1 3 [],oD 13 1 12 [7],oB 14 .mul 11 13 [6,8],oB 15 .add 9 14 [4,9],oA 16 2 2 [],oD 17 1 16 [11],oA 18 2 3 [],oD 19 1 18 [13],oB 20 .mul 17 19 [12,14],oB 21 .add 15 20 [10,15],oM 4 21 (16::up 17)] .ret))
theorem mcOkv199:okM Tryz.prog Tryz.f199 22=some mcv199:=by kernel_rfl
theorem vc199 (a b:V3):FC Tryz.prog 199 [aV a,aV b] [] (iv (dotW a b)) [] false:=by
 refine Qg (nt:=22) Tryz.func199 rfl rfl mcOkv199 (nL rfl) ?_
 delta mcv199
 refine gA 12 rfl (Q4 rfl rfl rfl rfl (gR 4 rfl (Q4 rfl rfl rfl rfl (gR 0 rfl (QS rfl rfl rfl rfl (gR 4 rfl (Q4 rfl rfl rfl rfl (gR 0 rfl (QS rfl rfl rfl rfl (gR 3 rfl ?_))))))))))
 exact rQ
def mcv201:MC:=(sq [oN 2 (.box 88 3 0) [],oN 4 (.alloc 88 3 (iz 3)) []] (sq [oA 5 0 2 [],oD 6 1 5 [0],oM 7 1 [],oB 8 .mul 6 7 [1,2],oA 9 1 2 [],oD 10 1 9 [4],oM 11 1 [],oB 12 .mul 10 11 [5,6],oA 13 2 2 [],oD 14 1 13 [8],oM 15 1 [],oB 16 .mul 14 15 [9,10],oN 17 (.build (iz 3) [(0,1,8),(1,1,12),(2,1,16)]) [3,7,11],oS 3 4 17 (12::up 13)] .ret))
theorem mcOkv201:okM Tryz.prog Tryz.f201 18=some mcv201:=by kernel_rfl
theorem vc201 (v:V3) (n:Int):FC Tryz.prog 201 [aV v,iv n] [] (aV (QK v n)) [] false:=by
 refine Qg (nt:=18) Tryz.func201 rfl rfl mcOkv201 (nL rfl) ?_
 delta mcv201
 refine gA 10 rfl (Q4 rfl rfl rfl rfl (gR 3 rfl (Q4 rfl rfl rfl rfl (gR 3 rfl (Q4 rfl rfl rfl rfl (gR 4 rfl ?_))))))
 exact rQ
def mcv141:MC:=(sq [oN 2 (.box 90 4 0) [],oN 3 (.box 174 4 1) [],oN 4 (.mv (cI 0)) []] (sq [oA 5 3 2 [],oD 6 1 5 [0],oA 7 3 3 [],oD 8 1 7 [2],oB 9 .mul 6 8 [1,3],oA 10 0 2 [],oA 11 0 10 [5],oD 12 1 11 [6],oA 13 0 3 [],oD 14 1 13 [8],oB 15 .mul 12 14 [7,9],oB 16 .sub 9 15 [4,10],oA 17 0 2 [],oA 18 1 17 [12],oD 19 1 18 [13],oA 20 1 3 [],oD 21 1 20 [15],oB 22 .mul 19 21 [14,16],oB 23 .sub 16 22 [11,17],oA 24 0 2 [],oA 25 2 24 [19],oD 26 1 25 [20],oA 27 2 3 [],oD 28 1 27 [22],oB 29 .mul 26 28 [21,23],oB 30 .sub 23 29 [18,24],oM 4 30 (25::up 26)] .ret))
theorem mcOkv141:okM Tryz.prog Tryz.f141 31=some mcv141:=by kernel_rfl
theorem vc141 (p:Pl) (x:Pt):FC Tryz.prog 141 [.agg (cPl p),.agg (cPt x)] [] (iv (Ud p x)) [] false:=by
 refine Qg (nt:=31) Tryz.func141 rfl rfl mcOkv141 (nL rfl) ?_
 delta mcv141
 refine gA 12 rfl (Q4 rfl rfl rfl rfl (gR 5 rfl (Q4 rfl rfl rfl rfl (gR 0 rfl (Xt rfl rfl rfl rfl (gR 5 rfl (Q4 rfl rfl rfl rfl (gR 0 rfl (Xt rfl rfl rfl rfl (gR 5 rfl (Q4 rfl rfl rfl rfl ?_)))))))))))
 refine gR 0 rfl (Xt rfl rfl rfl rfl (gR 3 rfl ?_))
 exact Qt <| Jk rfl (congrArg iv (wsub4 (p.b*x.w) (p.n.x*x.x) (p.n.y*x.y) (p.n.z*x.z))) rfl (.inr rfl)
def mcv198:MC:=(sq [oN 2 (.mv (cI 0)) []] (.seq (sq [oM 3 0 [],oB 4 .lss 3 (cI 0) [0]] (.cond 4 (sq [oM 5 0 [],oN 6 (.un .neg 5) [0],oM 2 6 [1,0,1]] .ret) .skip)) (sq [oM 7 0 [],oM 2 7 [0,0]] .ret)))
theorem mcOkv198:okM Tryz.prog Tryz.f198 8=some mcv198:=by kernel_rfl
theorem vc198 (n:Int) (h : -9223372036854775807<=n/\n<=9223372036854775807):FC Tryz.prog 198 [iv n] [] (iv (n.natAbs:Int)) [] false:=by
 refine Qg (nt:=8) Tryz.func198 rfl rfl mcOkv198 (nL rfl) ?_
 delta mcv198
 refine gA 10 rfl (Qc rfl (fun h4=>?_) (fun h4=>?_))
 ·replace h4:=of_decide_eq_true h4
  refine gK 3 rfl (JM rfl rfl (by omega) (gR 3 rfl ?_))
  exact Qt <| Jk rfl (congrArg iv (by omega)) rfl (.inr rfl)
 ·replace h4:=of_decide_eq_false h4
  refine gK 7 rfl ?_
  exact Qt <| Jk rfl (congrArg iv (by omega)) rfl (.inr rfl)
def mcv48:MC:=(sq [oN 1 (.box 90 4 0) [],oN 2 (.alloc 90 4 (iz 4)) []] (dq [oN 3 (.build (iz 3) []) [],oA 4 0 1 [],oL 5 3 4 [1],oC 6 98 [3,5] [0,2],oA 7 3 1 [],oD 8 1 7 [4],oN 9 (.un .neg 8) [5],oN 10 (.build (iz 4) [(0,3,6),(3,1,9)]) [3,6],oS 4 2 10 (7::3::up 8)] .ret))
theorem mcOkv48:okM Tryz.prog Tryz.f48 11=some mcv48:=by kernel_rfl
theorem vc48 (p:Pl) (h : -9223372036854775807<=p.b/\p.b<=9223372036854775807):FC Tryz.prog 48 [.agg (cPl p)] [] (.agg (cPl (Jn p))) [] false:=by
 refine Qg (nt:=11) Tryz.func48 rfl rfl mcOkv48 (nL rfl) ?_
 delta mcv48
 refine gA 10 rfl (cN rfl rfl (vc98 ⟨0,0,0⟩ p.n) (gR 2 rfl (JM rfl rfl (by omega) (gR 2 rfl (Q9 (by kernel_rfl) (gP 1 rfl ?_))))))
 exact rQ
def mcv203:MC:=(sq [oN 4 (.mv (cI 0)) []] (.seq (.block 0 (.loop (.seq (sq [oM 5 1 [],oB 6 .neq 5 (cI 0) [0]] (.cond 6 .skip (.exit 0))) (.block 1 (dg [oM 7 1 [],oM 8 0 [],oM 9 1 [],oB 10 .rem 8 9 [1,2],oM 0 7 [0,0,1],oM 1 10 (3::4::up 5)]))))) (sq [oM 11 0 [],oM 4 11 [0,0]] .ret)))
theorem mcOkv203:okM Tryz.prog Tryz.f203 12=some mcv203:=by kernel_rfl
theorem vc203 (x y:Int) (hx:0<=x/\x<=9223372036854775807) (hy:0<=y/\y<=9223372036854775807):FC Tryz.prog 203 [iv x,iv y] [] (iv (Nat.gcd x.natAbs y.natAbs:Int)) [] false:=by
 refine Qg (nt:=12) Tryz.func203 rfl rfl mcOkv203 (nL rfl) ?_
 delta mcv203
 refine gA 6 rfl ?_
 refine Qo (α:=Int×Int) (fun u=>u.2.natAbs) (fun u=>[(0,iv u.1),(1,iv u.2),(4,iv 0)]) (fun u=>[]) (fun u=>Nat.gcd u.1.natAbs u.2.natAbs=Nat.gcd x.natAbs y.natAbs/\(0<=u.1/\u.1<=9223372036854775807)/\(0<=u.2/\u.2<=9223372036854775807)) (x,y) (⟨rfl,hx,hy⟩)
  (Qb (Qa rfl rfl) (.nil) (fun i h=>by cases h)) ?_
 rintro ⟨a,b⟩ ⟨hg,ha,hb⟩
 dsimp only at hg ha hb ⊢
 refine gT 4 rfl (Xv rfl rfl rfl (gR 1 rfl (Qc rfl (fun h6=>?_) (fun h6=>?_))))
 ·replace h6:=of_decide_eq_true h6
  refine gK 6 rfl (XA rfl rfl rfl (by omega) rfl (gR 2 rfl (Q9 (by kernel_rfl) (gP 0 rfl ?_))))
  have h1:=tmod_lt a b h6
  have h2:=gcd_st2 a b h6
  have h3:=Int.tmod_nonneg b ha.1
  exact Qz <| ⟨(b,a.tmod b),⟨by show Nat.gcd b.natAbs (a.tmod b).natAbs=_; rw [h2,hg],hb,by show 0<=a.tmod b/\a.tmod b<=_; omega⟩,h1,Qb (Qa rfl rfl) (.nil) (fun i h=>by cases h)⟩
 ·replace h6:=of_decide_eq_false h6
  refine gK 7 rfl ?_
  obtain rfl:b=0:=by omega
  rw [← hg]
  exact Qt <| Jk rfl (congrArg iv (by simp; omega)) rfl (.inr rfl)
def mcv171:MC:=(sq [oN 1 (.box 88 3 0) [],oN 2 (.alloc 25 3 (iz 3)) []] (sq [oA 3 0 1 [],oD 4 1 3 [0],oA 5 1 1 [],oD 6 1 5 [2],oA 7 2 1 [],oD 8 1 7 [4],oN 9 (.build (iz 3) [(0,1,4),(1,1,6),(2,1,8)]) [1,3,5],oS 3 2 9 (6::up 7)] .ret))
theorem mcOkv171:okM Tryz.prog Tryz.f171 10=some mcv171:=by kernel_rfl
theorem vc171 (v:V3):FC Tryz.prog 171 [aV v] [] (aV v) [] false:=by
 refine Qg (nt:=10) Tryz.func171 rfl rfl mcOkv171 (nL rfl) ?_
 delta mcv171
 refine gA 17 rfl ?_
 exact rQ
def mcv172:MC:=(sq [oN 1 (.box 88 3 0) [],oN 2 (.alloc 88 3 (iz 3)) [],oN 3 (.mv (cI 0)) []] (sq [oL 8 3 1 [],oC 9 171 [8] [0],oN 4 (.alloc 25 3 (iz 3)) [],oS 3 4 9 [2,1,1,0,1,2]] (sq [oN 5 (.mv (cI 0)) []] (.seq (sq [oN 6 (.mv (cI 0)) []] (.block 0 (.loop (.seq (sq [oM 10 6 [],oB 11 .lss 10 (cI 3) [0]] (.cond 11 .skip (.exit 0))) (.seq (.block 1 (.seq (sq [oM 14 6 [],oN 15 (.ixarr 3 1 4 14) [0],oD 16 1 15 [1],oB 17 .eql 16 (cI (-9223372036854775808)) [2]] (.cond 17 (sq [oN 18 (.build (iz 3) []) [],oS 3 2 18 [0,0],oN 3 (.mv (cI 0)) [1,0,1]] .ret) .skip)) (sq [oM 19 6 [],oN 20 (.ixarr 3 1 4 19) [0],oD 21 1 20 [1],oC 22 198 [21] [2],oM 7 22 (3::3::up 4)] (.block 2 (.loop (.seq (sq [oM 23 7 [],oB 24 .gtr 23 (cI 0) [0]] (.cond 24 .skip (.exit 2))) (.block 3 (dg [oM 25 7 [],oM 26 5 [],oM 27 7 [],oB 28 .rem 26 27 [1,2],oM 5 25 [0,0,1],oM 7 28 (3::4::up 5)])))))))) (rg [oM 12 6 [],oB 13 .add 12 (cI 1) [0],oM 6 13 [1,0,1]])))))) (.seq (sq [oM 29 5 [],oB 30 .eql 29 (cI 0) [0]] (.cond 30 (sq [oN 31 (.build (iz 3) []) [],oS 3 2 31 [0,0],oN 3 (.mv (cI 0)) [1,0,1]] .ret) .skip)) (dq [oA 32 0 1 [],oD 33 1 32 [0],oM 34 5 [],oB 35 .quo 33 34 [1,2],oA 36 1 1 [],oD 37 1 36 [4],oM 38 5 [],oB 39 .quo 37 38 [5,6],oA 40 2 1 [],oD 41 1 40 [8],oM 42 5 [],oB 43 .quo 41 42 [9,10],oN 44 (.build (iz 3) [(0,1,35),(1,1,39),(2,1,43)]) [3,7,11],oM 45 5 [],oS 3 2 44 (12::up 13),oM 3 45 (13::14::up 15)] .ret))))))
theorem mcOkv172:okM Tryz.prog Tryz.f172 46=some mcv172:=by kernel_rfl
theorem vc172 (v:V3) (hv:VB 1000000000 v):FC Tryz.prog 172 [aV v] [] (.tup [aV (primS v),iv ((g3L v:Int))]) [] false:=by
 refine Qg (nt:=46) Tryz.func172 rfl rfl mcOkv172 (nL rfl) ?_
 delta mcv172
 refine gA 9 rfl (cN rfl rfl (vc171 v) (gR 13 rfl ?_))
 refine Qo (α:=Nat×Int) (fun s=>3-s.1) (fun s=>[(1,.ptr 1 0 0),(2,.ptr 2 0 0),(3,iv 0),(4,.ptr 4 0 0),(5,iv (s.2)),(6,iv (((s.1):Nat):Int))]) (fun s=>[(1,.cells 88 3 [cV v] true),(2,.cells 88 3 [[iv 0,iv 0,iv 0]] true),(4,.cells 25 3 [cV v] true)]) (fun s=>s.1<=3/\0<=s.2/\s.2<=1000000000/\s.2.natAbs=gL ([v.x,v.y,v.z].take s.1)) (0,0) (⟨by omega,by omega,by omega,rfl⟩)
  (Qb (Qa rfl rfl) (kS rfl rfl) (fun i h=>by cases h)) ?_
 rintro ⟨k,g⟩ ⟨hk,hg0,hg1,hg⟩
 dsimp only at hk hg0 hg1 hg ⊢
 refine gT 6 rfl (Qc rfl (fun h11=>?_) (fun h11=>?_))
 ·replace h11:=of_decide_eq_true h11
  refine gK 7 rfl ?_
  have hb:=vk_bd (show k<3 by omega) hv
  refine Qm rfl rfl rfl (by omega) (by omega) (gR 0 rfl (rs_ld_p rfl rfl rfl rfl (c3at (by omega)) (gR 0 rfl (Ub rfl rfl rfl (gR 1 rfl (Qc rfl (fun h17=>?_) (fun h17=>?_)))))))
  ·replace h17:=of_decide_eq_true h17
   refine gK 1 rfl ?_
   exact absurd h17 (by omega)
  ·replace h17:=of_decide_eq_false h17
   refine gK 4 rfl (Qm rfl rfl rfl (by omega) (by omega) (gR 0 rfl (rs_ld_p rfl rfl rfl rfl (c3at (by omega)) (gR 0 rfl (cN rfl rfl (vc198 (vk v k) (by omega)) (gR 3 rfl ?_))))))
   refine Qo (α:=Int×Int) (fun u=>u.2.natAbs) (fun u=>[(1,.ptr 1 0 0),(2,.ptr 2 0 0),(3,iv 0),(4,.ptr 4 0 0),(5,iv (u.1)),(6,iv (((k):Nat):Int)),(7,iv (u.2))]) (fun u=>[(1,.cells 88 3 [cV v] true),(2,.cells 88 3 [[iv 0,iv 0,iv 0]] true),(4,.cells 25 3 [cV v] true)]) (fun u=>Nat.gcd u.1.natAbs u.2.natAbs=Nat.gcd g.natAbs (vk v k).natAbs/\(0<=u.1/\u.1<=1000000000)/\(0<=u.2/\u.2<=1000000000)) (g,((vk v k).natAbs:Int)) (⟨by simp,⟨hg0,hg1⟩,by dsimp only; omega⟩)
    (Qb (Qa rfl rfl) (kS rfl rfl) (fun i h=>by cases h)) ?_
   rintro ⟨a,b⟩ ⟨hgc,ha,hb2⟩
   dsimp only at hgc ha hb2 ⊢
   refine gT 4 rfl (Ua rfl rfl rfl (gR 1 rfl (Qc rfl (fun h24=>?_) (fun h24=>?_))))
   ·replace h24:=of_decide_eq_true h24
    refine gK 6 rfl (XA rfl rfl rfl (by omega) rfl (gR 2 rfl (Q9 (by kernel_rfl) (gP 0 rfl ?_))))
    have h1:=tmod_lt a b (by omega)
    have h2:=gcd_st2 a b (by omega)
    have h3:=Int.tmod_nonneg b ha.1
    exact Qz <| ⟨(b,a.tmod b),⟨by show Nat.gcd b.natAbs (a.tmod b).natAbs=_; rw [h2,hgc],hb2,by show 0<=a.tmod b/\a.tmod b<=_; omega⟩,h1,Qb (Qa rfl rfl) (kS rfl rfl) (fun i h=>by cases h)⟩
   ·replace h24:=of_decide_eq_false h24
    refine gK 3 rfl (Qf rfl rfl rfl (by omega) (gR 2 rfl (⟨(k+1,a),⟨by show k+1<=3; omega,ha.1,ha.2,?_⟩,by show 3-(k+1)<_; omega,Qb (Qa rfl rfl) (kS rfl rfl) (fun i h=>by cases h)⟩)))
    show a.natAbs=_
    obtain rfl:b=0:=by omega
    rw [g3L_succ (by omega),← hg,← hgc]
    simp
 ·replace h11:=of_decide_eq_false h11
  refine gK 3 rfl ?_
  obtain rfl:k=3:=by omega
  rw [show gL ([v.x,v.y,v.z].take 3)=g3L v from rfl] at hg
  refine gI 2 rfl (Ub rfl rfl rfl (gR 1 rfl (Qc rfl (fun h30=>?_) (fun h30=>?_))))
  ·replace h30:=of_decide_eq_true h30
   refine gK 7 rfl ?_
   rw [show primS v=⟨0,0,0⟩ from if_pos (by omega),show (g3L v:Int)=0 by omega]
   exact Qt <| Ql rfl (QI (.cons (Qs rfl (.inr rfl)) (.cons (Qs rfl (.inr rfl)) .nil))) .nil
  ·replace h30:=of_decide_eq_false h30
   refine gK 6 rfl (QR rfl rfl rfl (by omega) rfl (gR 3 rfl (QR rfl rfl rfl (by omega) rfl (gR 3 rfl (QR rfl rfl rfl (by omega) rfl (gR 4 rfl (Q9 (by kernel_rfl) (gP 1 rfl ?_))))))))
   obtain rfl:g=(g3L v:Int):=by omega
   rw [show primS v=_ from if_neg (by omega)]
   exact Qt <| Ql rfl (QI (.cons (Qs rfl (.inr rfl)) (.cons (Qs rfl (.inr rfl)) .nil))) .nil
def mcv139:MC:=(sq [oN 1 (.box 90 4 0) [],oN 2 (.mv (.c (.bool false))) []] (sq [oA 7 0 1 [],oL 8 3 7 [0],oC 9 171 [8] [1],oN 3 (.alloc 25 3 (iz 3)) [],oS 3 3 9 [3,2,2,0,1,2,3]] (.seq (sq [oN 4 (.mv (cI 0)) []] (.block 0 (.loop (.seq (sq [oM 10 4 [],oB 11 .lss 10 (cI 3) [0]] (.cond 11 .skip (.exit 0))) (.seq (.block 1 (sq [oM 14 4 [],oN 15 (.ixarr 3 1 3 14) [0],oD 16 1 15 [1],oB 17 .lss 16 (cI (-4608)) [2],oM 18 17 [3],pM 19 4 18 false [4],oG 20 (.ixarr 3 1 3 19) 18 false [5,4],pD 21 1 20 18 false [6,4],oG 22 (.bin .gtr 21 (cI 4608)) 18 false [7,4],oN 23 (.pick 18 (.c (.bool true)) 22) [4,8]] (.cond 23 (sq [oN 2 (.mv (.c (.bool false))) []] .ret) .skip))) (rg [oM 12 4 [],oB 13 .add 12 (cI 1) [0],oM 4 13 [1,0,1]])))))) (sq [oA 25 0 1 [],oL 26 3 25 [0],oC 27 172 [26] [1],oM 24 27 [2],oN 28 (.ext 24 0) [3],oN 29 (.ext 24 1) [3],oN 5 (.alloc 88 3 (iz 3)) [],oS 3 5 28 [6,4,2,0,1,2,3,4,6],oM 6 29 (5::7::up 8)] (sq [oM 30 6 [],oB 31 .eql 30 (cI 1) [0],oM 32 31 [1],pA 33 3 1 32 true [2],pD 34 1 33 32 true [3,2],oG 35 (.bin .geq 34 (cI (-2097152))) 32 true [4,2],oN 36 (.pick 32 35 (.c (.bool false))) [2,5],oM 37 36 [6,2],pA 38 3 1 37 true [7],pD 39 1 38 37 true [8,7],oG 40 (.bin .leq 39 (cI 2097152)) 37 true [9,7],oN 41 (.pick 37 40 (.c (.bool false))) [7,10],oM 2 41 (11::7::up 12)] .ret)))))
theorem mcOkv139:okM Tryz.prog Tryz.f139 42=some mcv139:=by kernel_rfl
theorem vc139 (p:Pl):FC Tryz.prog 139 [.agg (cPl p)] [] (.bool (Qw p)) [] false:=by
 refine Qg (nt:=42) Tryz.func139 rfl rfl mcOkv139 (nL rfl) ?_
 delta mcv139
 refine gA 9 rfl (cN rfl rfl (vc171 p.n) (gR 9 rfl ?_))
 refine Qo (α:=Nat) (fun k=>3-k) (fun k=>[(1,.ptr 1 0 0),(2,.bool false),(3,.ptr 3 0 0),(4,iv (((k):Nat):Int))]) (fun k=>[(1,.cells 90 4 [cPl p] true),(3,.cells 25 3 [cV p.n] true)]) (fun k=>k<=3/\∀ j,j<k → -4608<=vk p.n j/\vk p.n j<=4608) 0 (⟨by omega,fun j h=>absurd h (by omega)⟩)
  (Qb (Qa rfl rfl) (kS rfl rfl) (fun i h=>by cases h)) ?_
 rintro k ⟨hk,hin⟩
 refine gT 6 rfl (Qc rfl (fun h11=>?_) (fun h11=>?_))
 ·replace h11:=of_decide_eq_true h11
  refine gK 6 rfl (Qm rfl rfl rfl (by omega) (by omega) (gR 0 rfl (rs_ld_p rfl rfl rfl rfl (c3at (by omega)) (gR 0 rfl (Qx rfl rfl rfl rfl (fun h17=>?_) (fun h17=>?_))))))
  ·skip
   refine gR 13 rfl ?_
   rw [val_f1 (p:=p) (k:=k) (by omega) (by omega)]
   exact rQ
  ·skip
   refine gR 2 rfl (Qm rfl rfl rfl (by omega) (by omega) (gR 0 rfl (rs_ld_p rfl rfl rfl rfl (c3at (by omega)) (gR 0 rfl (Qx rfl rfl rfl rfl (fun h22=>?_) (fun h22=>?_))))))
   ·skip
    refine gR 8 rfl ?_
    rw [val_f1 (p:=p) (k:=k) (by omega) (by omega)]
    exact rQ
   ·skip
    refine gR 6 rfl (Qf rfl rfl rfl (by omega) (gR 2 rfl ?_))
    exact Qz <| ⟨k+1,⟨by omega,fun j hj=>by
     rcases Nat.lt_or_ge j k with h | h
     ·exact hin j h
     ·obtain rfl:j=k:=by omega
      omega⟩,by omega,Qb (Qa rfl rfl) (kS rfl rfl) (fun i h=>by cases h)⟩
 ·replace h11:=of_decide_eq_false h11
  refine gK 2 rfl ?_
  obtain rfl:k=3:=by omega
  have hvb:VB 4608 p.n:=vb_of hin
  refine gI 3 rfl (cN rfl rfl (vc172 p.n (by obtain ⟨h1,h2,h3⟩:=hvb; unfold VB; omega)) (gR 10 rfl (Qx rfl rfl rfl rfl (fun h31=>?_) (fun h31=>?_))))
  ·skip
   refine gR 3 rfl (Qx rfl rfl rfl rfl (fun h35=>?_) (fun h35=>?_))
   ·skip
    refine gR 4 rfl (Qx rfl rfl rfl rfl (fun h40=>?_) (fun h40=>?_))
    ·skip
     refine gR 4 rfl ?_
     rw [val_eq hvb]
     exact Qt <| Jk rfl (congrArg AV.bool (by simp [h31,h35,h40])) rfl (.inr rfl)
    ·skip
     refine gR 4 rfl ?_
     rw [val_eq hvb]
     exact Qt <| Jk rfl (congrArg AV.bool (by simp [h31,h35,h40])) rfl (.inr rfl)
   ·skip
    refine gR 9 rfl ?_
    rw [val_eq hvb]
    exact Qt <| Jk rfl (congrArg AV.bool (by simp [h31,h35])) rfl (.inr rfl)
  ·skip
   refine gR 13 rfl ?_
   rw [val_eq hvb]
   exact Qt <| Jk rfl (congrArg AV.bool (by simp [h31])) rfl (.inr rfl)
def mcv99:MC:=(sq [oN 2 (.mv (cI 0)) []] (.seq (sq [oM 4 0 [],oE 5 4 [0],oB 6 .gtr 5 (cI 48) [1]] (.cond 6 (sq [oN 2 (.mv (cI 2)) []] .ret) .skip)) (.seq (sq [oN 3 (.mv (cI 0)) []] (.block 0 (.loop (.seq (sq [oM 7 3 [],oM 8 0 [],oE 9 8 [1],oB 10 .lss 7 9 [0,2]] (.cond 10 .skip (.exit 0))) (.seq (.block 1 (sq [oM 13 0 [],oM 14 3 [],oX 15 4 13 14 [0,1],oL 16 4 15 [2],oC 17 139 [16] [3],oN 18 (.un .not 17) [4]] (.cond 18 (sq [oN 2 (.mv (cI 12)) []] .ret) .skip))) (rg [oM 11 3 [],oB 12 .add 11 (cI 1) [0],oM 3 12 [1,0,1]])))))) (sq [oN 2 (.mv (cI 0)) []] .ret))))
theorem mcOkv99:okM Tryz.prog Tryz.f99 19=some mcv99:=by kernel_rfl
theorem vc99 (c:List Pl) (hc:c.length<=1000):FC Tryz.prog 99 [.rs 4 (c.map cPl)] [] (iv (ckS c)) [] false:=by
 refine Qg (nt:=19) Tryz.func99 rfl rfl mcOkv99 (nL rfl) ?_
 delta mcv99
 refine gA 8 rfl (Qe rfl rfl (gR 0 rfl (Ua rfl rfl rfl (gR 1 rfl (Qc rfl (fun h6=>?_) (fun h6=>?_))))))
 ·replace h6:=of_decide_eq_true h6
  refine gK 5 rfl ?_
  rw [show ckS c=2 from if_pos (by omega)]
  exact rQ
 ·replace h6:=of_decide_eq_false h6
  refine gK 7 rfl ?_
  refine Qo (α:=Nat) (fun k=>c.length-k) (fun k=>[(0,.rs 4 (c.map cPl)),(2,iv 0),(3,iv (((k):Nat):Int))]) (fun k=>[]) (fun k=>k<=c.length/\(c.take k).any badP=false) 0 (⟨by omega,rfl⟩)
   (Qb (Qa rfl rfl) (.nil) (fun i h=>by cases h)) ?_
  rintro k ⟨hk,hinv⟩
  refine gT 5 rfl (Qe rfl rfl (gR 2 rfl (Qc rfl (fun h10=>?_) (fun h10=>?_))))
  ·replace h10:=of_decide_eq_true h10
   refine gK 7 rfl ?_
   obtain ⟨x,hxk,hxm⟩:=Qk (L:=c) (k:=k) (by omega)
   refine Qi (f:=cPl) (y:=x) rfl rfl rfl (by omega) hxk (gR 1 rfl (cN rfl rfl (vc139 x) ?_))
   cases h17:Qw x
   ·skip
    refine gR 8 rfl ?_
    rw [show ckS c=12 from by unfold ckS; rw [if_neg (by omega),if_pos (List.any_eq_true.2 ⟨x,hxm,by simp [badP,h17]⟩)]]
    exact rQ
   ·skip
    refine gR 6 rfl (Qf rfl rfl rfl (by omega) (gR 2 rfl ?_))
    exact Qz <| ⟨k+1,⟨by omega,by rw [Q3 hxk,List.any_append,hinv]; simp [badP,h17]⟩,by omega,Qb (Qa rfl rfl) (.nil) (fun i h=>by cases h)⟩
  ·replace h10:=of_decide_eq_false h10
   refine gK 6 rfl ?_
   rw [show ckS c=0 from by
    unfold ckS
    rw [if_neg (by omega),if_neg (by
     rw [List.take_of_length_le (by omega)] at hinv; rw [hinv]; decide)]]
   exact rQ
end Go.Proofs.YthfhaoogcpfboaaGreat
namespace Go.Proofs.YthfhaoogcpfboaaGreat
open Go.RowKit
set_option maxRecDepth 100000
set_option linter.unusedVariables false
theorem crossE {a b:V3} (ha:VB 4608 a) (hb:VB 4608 b):Q6 a b=⟨a.y*b.z-a.z*b.y,a.z*b.x-a.x*b.z,a.x*b.y-a.y*b.x⟩:=by
 obtain ⟨ax,ay,az⟩:=ha
 obtain ⟨bx,by_,bz⟩:=hb
 have e1:=XT ay bz; have e2:=XT az by_; have e3:=XT az bx; have e4:=XT ax bz; have e5:=XT ax by_; have e6:=XT ay bx
 simp only [Q6]
 rw [QU (n:=a.y*b.z) (by omega),QU (n:=a.z*b.y) (by omega),QU (n:=a.z*b.x) (by omega),QU (n:=a.x*b.z) (by omega),QU (n:=a.x*b.y) (by omega),QU (n:=a.y*b.x) (by omega),QU (n:=a.y*b.z-a.z*b.y) (by omega),QU (n:=a.z*b.x-a.x*b.z) (by omega),QU (n:=a.x*b.y-a.y*b.x) (by omega)]
theorem VB.mono {m n:Int} {v:V3} (h:VB m v) (hn:m<=n):VB n v:=by
 obtain ⟨h1,h2,h3⟩:=h; unfold VB; omega
theorem wd_turn {p q r:Pl} (hp:Qw p=true) (hq:Qw q=true) (hr:Qw r=true):dotW p.n (Q6 q.n r.n)=wd3 p q r:=by
 have p1:=(JR hp).1
 have q1:=(JR hq).1
 have r1:=(JR hr).1
 show _=dotW r.n (Q6 p.n q.n)
 rw [dotE p1 ((Jy q1 r1).mono (by decide)),dotE r1 ((Jy p1 q1).mono (by decide)),crossE q1 r1,crossE p1 q1]
 dsimp only
 simp only [Int.mul_sub,Int.mul_comm,Int.mul_left_comm,Int.mul_assoc]
 omega
def vS (p q r:Pl):V3:=if wd3 p q r<0 then QK (Xk p q r) (-1) else Xk p q r
def wA (p q r:Pl):Int:=if wd3 p q r<0 then -wd3 p q r else wd3 p q r
theorem sum_turn (p q r:Pl):Un (Un (QK (Q6 q.n r.n) p.b) (QK (Q6 r.n p.n) q.b)) (QK (Q6 p.n q.n) r.b)=Xk p q r:=by
 show _=Un (Un (Un ⟨0,0,0⟩ (QK (Q6 q.n r.n) p.b)) (QK (Q6 r.n p.n) q.b)) (QK (Q6 p.n q.n) r.b)
 rw [addW0]
theorem negE {v:V3} (h:VB 267181325549568 v):QK v (-1)=⟨-v.x,-v.y,-v.z⟩:=by
 obtain ⟨h1,h2,h3⟩:=h
 unfold QK
 rw [QU (by omega),QU (by omega),QU (by omega)]
 simp
theorem gcd4 (x y z w:Int):Nat.gcd (Nat.gcd x.natAbs y.natAbs) (Nat.gcd z.natAbs w.natAbs)=gL [x,y,z,w]:=by
 unfold gL
 simp only [List.foldl_cons,List.foldl_nil,Nat.gcd_zero_left]
 rw [← Nat.gcd_assoc]
theorem gcd_bd (a b:Int) (ha:a.natAbs<=1000000000000000) (hb:b.natAbs<=1000000000000000):0<=(Nat.gcd a.natAbs b.natAbs:Int)/\(Nat.gcd a.natAbs b.natAbs:Int)<=9223372036854775807:=by
 rcases Nat.eq_zero_or_pos a.natAbs with h | h
 ·rw [h,Nat.gcd_zero_left]; omega
 ·have:=Nat.gcd_le_left b.natAbs h; omega
structure MtB (p q r:Pl):Prop where
 v:VB 267181325549568 (vS p q r)
 w:1<=wA p q r/\wA p q r<=1000000000000
 g:0<gL [(vS p q r).x,(vS p q r).y,(vS p q r).z,wA p q r]
 gl:gL [(vS p q r).x,(vS p q r).y,(vS p q r).z,wA p q r]<=1000000000000
theorem mt_b {p q r:Pl} (hp:Qw p=true) (hq:Qw q=true) (hr:Qw r=true) (h0:wd3 p q r≠0):MtB p q r:=by
 obtain ⟨hs,hw⟩:=sum3_b hp hq hr
 have w:1<=wA p q r/\wA p q r<=1000000000000:=by unfold wA; split <;> omega
 refine ⟨?_,w,gL_pos (x:=wA p q r) (by simp) (by omega),gL_le (x:=wA p q r) (by simp) (by omega) (by omega)⟩
 unfold vS
 split
 ·rw [negE hs]; obtain ⟨h1,h2,h3⟩:=hs; exact ⟨by dsimp only; omega,by dsimp only; omega,by dsimp only; omega⟩
 ·exact hs
theorem mt_turn {p q r:Pl} (hp:Qw p=true) (hq:Qw q=true) (hr:Qw r=true) {g:Int} (hg:g=(gL [(vS p q r).x,(vS p q r).y,(vS p q r).z,wA p q r]:Int)):(⟨W ((vS p q r).x.tdiv g),W ((vS p q r).y.tdiv g),W ((vS p q r).z.tdiv g),W ((wA p q r).tdiv g)⟩:Pt)=mtP p q r:=by
 obtain ⟨hs,hw⟩:=sum3_b hp hq hr
 subst hg
 unfold mtP g3 vS wA
 split
 ·rename_i h
  rw [negE hs]
  have e:gL [-(Xk p q r).x,-(Xk p q r).y,-(Xk p q r).z,-wd3 p q r]=gL [(Xk p q r).x,(Xk p q r).y,(Xk p q r).z,wd3 p q r]:=by simp [gL]
  dsimp only
  rw [e]
  simp only [Int.neg_tdiv,Int.tdiv_neg]
 ·rfl
theorem inn_ge {r:List Pl} {p q:Pl}:∀ {t:List Pl} {l:List Pt},l.length<=(innS r p q l t).length
 | [],l=>Nat.le_refl _
 | s::t,l=>Nat.le_trans (by
  unfold J0
  split
  ·exact Nat.le_refl _
  ·split
   ·exact Nat.le_refl _
   ·split
    ·simp
    ·exact Nat.le_refl _) (inn_ge (t:=t) (l:=J0 r l p q s))
theorem mid_ge {r:List Pl} {p:Pl}:∀ {t:List Pl} {l:List Pt},l.length<=(midS r p l t).length
 | [],l=>Nat.le_refl _
 | q::t,l=>Nat.le_trans inn_ge (mid_ge (t:=t))
theorem top_ge {r:List Pl}:∀ {t:List Pl} {l:List Pt},l.length<=(topS r l t).length
 | [],l=>Nat.le_refl _
 | p::t,l=>Nat.le_trans mid_ge (top_ge (t:=t))
theorem top_end {r:List Pl} {l:List Pt} {k:Nat} (h:r.length<=k):topS r l (r.drop k)=l:=by rw [List.drop_eq_nil_of_le h]; rfl
theorem mid_end {r:List Pl} {p:Pl} {l:List Pt} {k:Nat} (h:r.length<=k):midS r p l (r.drop k)=l:=by rw [List.drop_eq_nil_of_le h]; rfl
theorem inn_end {r:List Pl} {p q:Pl} {l:List Pt} {k:Nat} (h:r.length<=k):innS r p q l (r.drop k)=l:=by rw [List.drop_eq_nil_of_le h]; rfl
theorem pt_mem {l:List Pt} {x:Pt}:decide (ptK x∈l.map ptK)=decide (x∈l):=by
 by_cases h:x∈l
 ·rw [decide_eq_true h,decide_eq_true (List.mem_map.2 ⟨x,h,rfl⟩)]
 ·rw [decide_eq_false h,decide_eq_false fun hc=>h (by obtain ⟨y,hy,e⟩:=List.mem_map.1 hc; rw [← ptK_inj e]; exact hy)]
theorem any_succ {α:Type} {l:List α} {k:Nat} {x:α} {f:α->Bool} (h:l[k]?=some x):(l.take (k+1)).any f=((l.take k).any f||f x):=by rw [Q3 h]; simp
theorem take_all {α:Type} {l:List α} {k:Nat} (h:l.length<=k):l.take k=l:=List.take_of_length_le h
def mcv173:MC:=(sq [oN 3 (.box 90 4 0) [],oN 4 (.box 90 4 1) [],oN 5 (.box 90 4 2) [],oN 6 (.alloc 174 4 (iz 4)) [],oN 7 (.mv (.c (.bool false))) []] (dq [oA 11 0 3 [],oL 12 3 11 [0],oA 13 0 4 [],oL 14 3 13 [2],oA 15 0 5 [],oL 16 3 15 [4],oC 17 200 [14,16] [3,5],oC 18 199 [12,17] [1,6,6],oM 8 18 (7::7::up 8)] (.seq (sq [oM 19 8 [],oB 20 .eql 19 (cI 0) [0]] (.cond 20 (sq [oN 21 (.build (iz 4) []) [],oS 4 6 21 [0,0],oN 7 (.mv (.c (.bool false))) [1,0,1]] .ret) .skip)) (dq [oA 22 0 4 [],oL 23 3 22 [0],oA 24 0 5 [],oL 25 3 24 [2],oC 26 200 [23,25] [1,3],oA 27 3 3 [],oD 28 1 27 [5],oC 29 201 [26,28] [4,6,4],oN 9 (.alloc 88 3 (iz 3)) [],oS 3 9 29 (8::7::7::up 9)] (dq [oL 30 3 9 [],oA 31 0 5 [],oL 32 3 31 [1],oA 33 0 3 [],oL 34 3 33 [3],oC 35 200 [32,34] [2,4],oA 36 3 4 [],oD 37 1 36 [6],oC 38 201 [35,37] [5,7,5],oC 39 202 [30,38] [0,8,8],oS 3 9 39 (9::9::up 10)] (dq [oL 40 3 9 [],oA 41 0 3 [],oL 42 3 41 [1],oA 43 0 4 [],oL 44 3 43 [3],oC 45 200 [42,44] [2,4],oA 46 3 5 [],oD 47 1 46 [6],oC 48 201 [45,47] [5,7,5],oC 49 202 [40,48] [0,8,8],oS 3 9 49 (9::9::up 10)] (.seq (sq [oM 50 8 [],oB 51 .lss 50 (cI 0) [0]] (.cond 51 (sq [oL 52 3 9 [],oC 53 201 [52,(cI (-1))] [0],oS 3 9 53 [1,1,0,1]] (rg [oM 54 8 [],oN 55 (.un .neg 54) [0],oM 8 55 [1,0,1]])) .skip)) (dq [oA 56 0 9 [],oD 57 1 56 [0],oA 58 0 9 [],oD 59 1 58 [2],oN 60 (.un .neg 59) [3],oN 61 (.mx 57 60) [1,4],oA 62 1 9 [],oD 63 1 62 [6],oA 64 1 9 [],oD 65 1 64 [8],oN 66 (.un .neg 65) [9],oN 67 (.mx 63 66) [7,10],oC 68 203 [61,67] [5,11],oA 69 2 9 [],oD 70 1 69 [13],oA 71 2 9 [],oD 72 1 71 [15],oN 73 (.un .neg 72) [16],oN 74 (.mx 70 73) [14,17],oM 75 8 [],oC 76 203 [74,75] [18,19,12],oC 77 203 [68,76] [12,20,20],oM 10 77 (21::21::up 22)] (dq [oA 78 0 9 [],oD 79 1 78 [0],oM 80 10 [],oB 81 .quo 79 80 [1,2],oA 82 1 9 [],oD 83 1 82 [4],oM 84 10 [],oB 85 .quo 83 84 [5,6],oA 86 2 9 [],oD 87 1 86 [8],oM 88 10 [],oB 89 .quo 87 88 [9,10],oM 90 8 [],oM 91 10 [],oB 92 .quo 90 91 [12,13],oN 93 (.build (iz 4) [(0,1,81),(1,1,85),(2,1,89),(3,1,92)]) [3,7,11,14],oS 4 6 93 (15::up 16),oN 7 (.mv (.c (.bool true))) (16::up 17)] .ret)))))))))
theorem mcOkv173:okM Tryz.prog Tryz.f173 94=some mcv173:=by kernel_rfl
set_option maxHeartbeats 1000000 in
theorem vc173_n (p q r:Pl) (hp:Qw p=true) (hq:Qw q=true) (hr:Qw r=true) (h0:wd3 p q r=0):FC Tryz.prog 173 [.agg (cPl p),.agg (cPl q),.agg (cPl r)] [] (.tup [.agg [iv 0,iv 0,iv 0,iv 0],.bool false]) [] false:=by
 refine Qg (nt:=94) Tryz.func173 rfl rfl mcOkv173 (nL rfl) ?_
 delta mcv173
 refine gA 16 rfl (cN rfl rfl (vc200 q.n r.n) (gR 0 rfl (cN rfl rfl (vc199 p.n (Q6 q.n r.n)) (gR 1 rfl (Q9 (by kernel_rfl) (gP 4 rfl (Ub rfl rfl rfl (gR 1 rfl (Qc rfl (fun h20=>?_) (fun h20=>?_))))))))))
 ·replace h20:=of_decide_eq_true h20
  refine gK 7 rfl ?_
  exact Qt <| Ql rfl (QI (.cons (Qs rfl (.inr rfl)) (.cons (Qs rfl (.inr rfl)) .nil))) .nil
 ·replace h20:=of_decide_eq_false h20
  refine gK 2 rfl ?_
  exact absurd (by rw [wd_turn hp hq hr]; exact h0) h20
set_option maxHeartbeats 1000000 in
theorem vc173_s (p q r:Pl) (hp:Qw p=true) (hq:Qw q=true) (hr:Qw r=true) (h0:wd3 p q r≠0):FC Tryz.prog 173 [.agg (cPl p),.agg (cPl q),.agg (cPl r)] [] (.tup [.agg (cPt (mtP p q r)),.bool true]) [] false:=by
 refine Qg (nt:=94) Tryz.func173 rfl rfl mcOkv173 (nL rfl) ?_
 delta mcv173
 refine gA 16 rfl (cN rfl rfl (vc200 q.n r.n) (gR 0 rfl (cN rfl rfl (vc199 p.n (Q6 q.n r.n)) (gR 1 rfl (Q9 (by kernel_rfl) (gP 4 rfl (Ub rfl rfl rfl (gR 1 rfl (Qc rfl (fun h20=>?_) (fun h20=>?_))))))))))
 ·replace h20:=of_decide_eq_true h20
  refine gK 1 rfl ?_
  exact absurd (by rw [← wd_turn hp hq hr]; exact h20) h0
 ·replace h20:=of_decide_eq_false h20
  refine gK 7 rfl (cN rfl rfl (vc200 q.n r.n) (gR 2 rfl (cN rfl rfl (vc201 (Q6 q.n r.n) p.b) (gR 2 rfl (Q9 (by kernel_rfl) (gP 7 rfl (cN rfl rfl (vc200 r.n p.n) (gR 2 rfl (cN rfl rfl (vc201 (Q6 r.n p.n) q.b) (gR 0 rfl (cN rfl rfl (vc202 (QK (Q6 q.n r.n) p.b) (QK (Q6 r.n p.n) q.b)) ?_)))))))))))
  refine gR 1 rfl (Q9 (by kernel_rfl) (gP 7 rfl (cN rfl rfl (vc200 p.n q.n) (gR 2 rfl (cN rfl rfl (vc201 (Q6 p.n q.n) r.b) (gR 0 rfl (cN rfl rfl (vc202 (Un (QK (Q6 q.n r.n) p.b) (QK (Q6 r.n p.n) q.b)) (QK (Q6 p.n q.n) r.b)) (gR 1 rfl (Q9 (by kernel_rfl) (gP 2 rfl ?_))))))))))
  have hwd:=wd_turn hp hq hr
  have hw0:=(sum3_b hp hq hr).2
  refine gI 4 rfl (Qc rfl (fun h51=>?_) (fun h51=>?_))
  ·replace h51:=of_decide_eq_true h51
   refine gK 3 rfl (cN rfl rfl (vc201 (Un (Un (QK (Q6 q.n r.n) p.b) (QK (Q6 r.n p.n) q.b)) (QK (Q6 p.n q.n) r.b)) (-1)) (gR 4 rfl (JM rfl rfl (by omega) (gR 3 rfl (QH (F0:=[(6,.ptr 6 0 0),(8,iv (wA p q r)),(9,.ptr 9 0 0)]) (H0:=[(6,.cells 174 4 [[iv 0,iv 0,iv 0,iv 0]] true),(9,.cells 88 3 [cV (vS p q r)] true)]) (Qb (.cs (.cons rfl (rc_int (by unfold wA; rw [if_pos (by omega),hwd])) (.cs (.nil)))) (.keep (rfl) rfl (.keep (by unfold vS; rw [if_pos (by omega),← sum_turn]; rfl) rfl (.nil))) (fun i h=>by cases h)) ?_)))))
   have hm:=mt_b hp hq hr h0
   obtain ⟨⟨hx,hy,hz⟩,hw,hg,hgl⟩:=hm
   refine gK 5 rfl (JM rfl rfl (by omega) (gR 0 rfl (rs_mx (c:=((vS p q r).x.natAbs:Int)) rfl rfl rfl (by omega) (gR 4 rfl (JM rfl rfl (by omega) (gR 0 rfl (rs_mx (c:=((vS p q r).y.natAbs:Int)) rfl rfl rfl (by omega) (gR 0 rfl (cN rfl rfl (vc203 ((vS p q r).x.natAbs:Int) ((vS p q r).y.natAbs:Int) (by omega) (by omega)) (gR 4 rfl (JM rfl rfl (by omega) ?_)))))))))))
   refine gR 0 rfl (rs_mx (c:=((vS p q r).z.natAbs:Int)) rfl rfl rfl (by omega) (gR 1 rfl ?_))
   have hwg:0<=wA p q r/\wA p q r<=9223372036854775807:=by omega
   refine cN rfl rfl (vc203 ((vS p q r).z.natAbs:Int) (wA p q r) (by omega) hwg) ?_
   have hgx:Nat.gcd (Nat.gcd (vS p q r).x.natAbs (vS p q r).y.natAbs) (Nat.gcd (vS p q r).z.natAbs (wA p q r).natAbs)=gL [(vS p q r).x,(vS p q r).y,(vS p q r).z,wA p q r]:=gcd4 _ _ _ _
   have hg1:0<=(Nat.gcd ((vS p q r).x.natAbs:Int).natAbs ((vS p q r).y.natAbs:Int).natAbs:Int)/\(Nat.gcd ((vS p q r).x.natAbs:Int).natAbs ((vS p q r).y.natAbs:Int).natAbs:Int)<=9223372036854775807:=gcd_bd _ _ (by omega) (by omega)
   have hg2:0<=(Nat.gcd ((vS p q r).z.natAbs:Int).natAbs (wA p q r).natAbs:Int)/\(Nat.gcd ((vS p q r).z.natAbs:Int).natAbs (wA p q r).natAbs:Int)<=9223372036854775807:=gcd_bd _ _ (by omega) (by omega)
   refine gR 0 rfl (cN rfl rfl (vc203 _ _ hg1 hg2) (gR 1 rfl (Q9 (by kernel_rfl) (gP 3 rfl ?_))))
   have hgq:((Nat.gcd (Nat.gcd (vS p q r).x.natAbs (vS p q r).y.natAbs) (Nat.gcd (vS p q r).z.natAbs (wA p q r).natAbs):Nat):Int)≠0:=by omega
   refine gI 2 rfl (QR rfl rfl rfl hgq rfl (gR 3 rfl (QR rfl rfl rfl hgq rfl (gR 3 rfl (QR rfl rfl rfl hgq rfl (gR 2 rfl (QR rfl rfl rfl hgq rfl (gR 3 rfl (Q9 (by kernel_rfl) (gP 1 rfl ?_))))))))))
   rw [← mt_turn hp hq hr (g:=((Nat.gcd (Nat.gcd (vS p q r).x.natAbs (vS p q r).y.natAbs) (Nat.gcd (vS p q r).z.natAbs (wA p q r).natAbs):Nat):Int)) (by rw [hgx])]
   exact Qt <| Ql rfl (QI (.cons (Qs rfl (.inr rfl)) (.cons (Qs rfl (.inr rfl)) .nil))) .nil
  ·replace h51:=of_decide_eq_false h51
   refine gK 2 rfl (QH (F0:=[(6,.ptr 6 0 0),(8,iv (wA p q r)),(9,.ptr 9 0 0)]) (H0:=[(6,.cells 174 4 [[iv 0,iv 0,iv 0,iv 0]] true),(9,.cells 88 3 [cV (vS p q r)] true)]) (Qb (.cs (.cons rfl (rc_int (by unfold wA; rw [if_neg (by omega),hwd])) (.cs (.nil)))) (.keep (rfl) rfl (.keep (by unfold vS; rw [if_neg (by omega),← sum_turn]; rfl) rfl (.nil))) (fun i h=>by cases h)) ?_)
   have hm:=mt_b hp hq hr h0
   obtain ⟨⟨hx,hy,hz⟩,hw,hg,hgl⟩:=hm
   refine gK 5 rfl (JM rfl rfl (by omega) (gR 0 rfl (rs_mx (c:=((vS p q r).x.natAbs:Int)) rfl rfl rfl (by omega) (gR 4 rfl (JM rfl rfl (by omega) (gR 0 rfl (rs_mx (c:=((vS p q r).y.natAbs:Int)) rfl rfl rfl (by omega) (gR 0 rfl (cN rfl rfl (vc203 ((vS p q r).x.natAbs:Int) ((vS p q r).y.natAbs:Int) (by omega) (by omega)) (gR 4 rfl (JM rfl rfl (by omega) ?_)))))))))))
   refine gR 0 rfl (rs_mx (c:=((vS p q r).z.natAbs:Int)) rfl rfl rfl (by omega) (gR 1 rfl ?_))
   have hwg:0<=wA p q r/\wA p q r<=9223372036854775807:=by omega
   refine cN rfl rfl (vc203 ((vS p q r).z.natAbs:Int) (wA p q r) (by omega) hwg) ?_
   have hgx:Nat.gcd (Nat.gcd (vS p q r).x.natAbs (vS p q r).y.natAbs) (Nat.gcd (vS p q r).z.natAbs (wA p q r).natAbs)=gL [(vS p q r).x,(vS p q r).y,(vS p q r).z,wA p q r]:=gcd4 _ _ _ _
   have hg1:0<=(Nat.gcd ((vS p q r).x.natAbs:Int).natAbs ((vS p q r).y.natAbs:Int).natAbs:Int)/\(Nat.gcd ((vS p q r).x.natAbs:Int).natAbs ((vS p q r).y.natAbs:Int).natAbs:Int)<=9223372036854775807:=gcd_bd _ _ (by omega) (by omega)
   have hg2:0<=(Nat.gcd ((vS p q r).z.natAbs:Int).natAbs (wA p q r).natAbs:Int)/\(Nat.gcd ((vS p q r).z.natAbs:Int).natAbs (wA p q r).natAbs:Int)<=9223372036854775807:=gcd_bd _ _ (by omega) (by omega)
   refine gR 0 rfl (cN rfl rfl (vc203 _ _ hg1 hg2) (gR 1 rfl (Q9 (by kernel_rfl) (gP 3 rfl ?_))))
   have hgq:((Nat.gcd (Nat.gcd (vS p q r).x.natAbs (vS p q r).y.natAbs) (Nat.gcd (vS p q r).z.natAbs (wA p q r).natAbs):Nat):Int)≠0:=by omega
   refine gI 2 rfl (QR rfl rfl rfl hgq rfl (gR 3 rfl (QR rfl rfl rfl hgq rfl (gR 3 rfl (QR rfl rfl rfl hgq rfl (gR 2 rfl (QR rfl rfl rfl hgq rfl (gR 3 rfl (Q9 (by kernel_rfl) (gP 1 rfl ?_))))))))))
   rw [← mt_turn hp hq hr (g:=((Nat.gcd (Nat.gcd (vS p q r).x.natAbs (vS p q r).y.natAbs) (Nat.gcd (vS p q r).z.natAbs (wA p q r).natAbs):Nat):Int)) (by rw [hgx])]
   exact Qt <| Ql rfl (QI (.cons (Qs rfl (.inr rfl)) (.cons (Qs rfl (.inr rfl)) .nil))) .nil
end Go.Proofs.YthfhaoogcpfboaaGreat
namespace Go.Proofs.YthfhaoogcpfboaaGreat
open Go.RowKit
set_option maxRecDepth 100000
set_option linter.unusedVariables false
theorem with_f {r:List Pl} {x:Pt} {p:Pl} (hp:p∈r) (h:Ud p x<0):XU r x=false:=by
 unfold XU; rw [List.any_eq_true.2 ⟨p,hp,decide_eq_true h⟩]; rfl
theorem at_mem {α:Type} {l:List α} {x:α}:∀ {k:Nat},l.length<=k->(∀ j y,j<k->l[j]?=some y->y≠x)->x ∉ l:=fun hk h hm=>by
 obtain ⟨j,hj⟩:=List.mem_iff_getElem?.1 hm
 obtain ⟨hl,_⟩:=List.getElem?_eq_some_iff.1 hj
 exact h j x (by omega) hj rfl
theorem ptK_eq {x y:Pt}:decide ([y.x,y.y,y.z,y.w]=[x.x,x.y,x.z,x.w])=decide (y=x):=by cases x; cases y; simp
theorem rs_aeq_p {P:Program} {N:Nat} {F:Fr} {H:Hp} {ml:List MOper} {K:List Fp->Fr->Hp->Prop} {d:Nat} {g:Option (Nat×Bool)} {pre:List Nat} {a b:Arg} {y z:Pt} (hg:gOK F g=true) (ha:Qj F a=some (.agg (cPt y))) (hb:Qj F b=some (.agg (cPt z)))
  (h:RS P N ml ((d,.bool (decide (y=z)))::F) H (fun fps=>K (([],[])::fps))):RS P N (⟨some d,.aeq false 4 a b,g,pre⟩::ml) F H K :=
 rs_aeq [y.x,y.y,y.z,y.w] [z.x,z.y,z.z,z.w] hg ha hb rfl rfl rfl rfl (by rw [ptK_eq]; simp) h
theorem all_of (c:List Pl):ofS [c]=c++JL ⟨-24,-24,-24⟩ ⟨24,24,24⟩:=by simp [ofS,norms,JL,wsP]
theorem corn_bd {r:List Pl} {p q:Pl} {l:List Pt} {t t' t'':List Pl} (hr:r.length<=110) (h:topS r (midS r p (innS r p q l t) t') t''=Xf r):l.length<=1331000:=by
 have h1:=inn_ge (r:=r) (p:=p) (q:=q) (t:=t) (l:=l)
 have h2:=mid_ge (r:=r) (p:=p) (t:=t') (l:=innS r p q l t)
 have h3:=top_ge (r:=r) (t:=t'') (l:=midS r p (innS r p q l t) t')
 have h4:=corn_len hr
 rw [h] at h3; omega
theorem acc_w {r:List Pl} {l:List Pt} {p q s:Pl} (h:XU r (mtP p q s)=false):J0 r l p q s=l:=by
 unfold J0; split
 ·rfl
 ·split
  ·rfl
  ·rw [if_neg (by rw [h]; decide)]
theorem acc_m {r:List Pl} {l:List Pt} {p q s:Pl} (h:decide (mtP p q s∈l)=true):J0 r l p q s=l:=by
 unfold J0; split
 ·rfl
 ·rw [if_pos (of_decide_eq_true (by rw [pt_mem]; exact h))]
theorem acc_n {r:List Pl} {l:List Pt} {p q s:Pl} (h0:wd3 p q s≠0) (hw:XU r (mtP p q s)=true) (h:decide (mtP p q s∈l)=false):J0 r l p q s=l++[mtP p q s] :=
 acc_3 h0 (by rw [pt_mem]; exact h) hw
theorem ck0 {c:List Pl} (h:ckS c=0):Xm [c]=true:=by unfold Xm badC; simp [h]
theorem ck1 {c:List Pl} (h:¬ ckS c=0):Xm [c]=false:=by unfold Xm badC; simp [h]
def mcv174:MC:=(sq [oN 3 (.box 174 4 1) [],oN 4 (.mv (.c (.bool false))) []] (.seq (sq [oN 5 (.mv (cI 0)) []] (.block 0 (.loop (.seq (sq [oM 6 5 [],oM 7 0 [],oE 8 7 [1],oB 9 .lss 6 8 [0,2]] (.cond 9 .skip (.exit 0))) (.seq (.block 1 (dq [oM 12 0 [],oM 13 5 [],oX 14 4 12 13 [0,1],oL 15 4 14 [2],oL 16 4 3 [],oC 17 141 [15,16] [3,4],oB 18 .lss 17 (cI 0) [5]] (.cond 18 (sq [oN 4 (.mv (.c (.bool false))) []] .ret) .skip))) (rg [oM 10 5 [],oB 11 .add 10 (cI 1) [0],oM 5 11 [1,0,1]])))))) (sq [oN 4 (.mv (.c (.bool true))) []] .ret)))
theorem mcOkv174:okM Tryz.prog Tryz.f174 19=some mcv174:=by kernel_rfl
theorem vc174 (r:List Pl) (x:Pt) (hr:r.length<=1000):FC Tryz.prog 174 [.rs 4 (r.map cPl),.agg (cPt x)] [] (.bool (XU r x)) [] false:=by
 refine Qg (nt:=19) Tryz.func174 rfl rfl mcOkv174 (nL rfl) ?_
 delta mcv174
 refine gA 11 rfl ?_
 refine Qo (α:=Nat) (fun k=>r.length-k) (fun k=>[(0,.rs 4 (r.map cPl)),(3,.ptr 3 0 0),(4,.bool false),(5,iv (((k):Nat):Int))]) (fun k=>[(3,.cells 174 4 [cPt x] true)]) (fun k=>k<=r.length/\(r.take k).any (outB x)=false) 0 (⟨by omega,rfl⟩)
  (Qb (Qa rfl rfl) (.keep rfl rfl .nil) nz) ?_
 rintro k ⟨hk,hinv⟩
 refine gT 5 rfl (Qe rfl rfl (gR 2 rfl (Qc rfl (fun h9=>?_) (fun h9=>?_))))
 ·replace h9:=of_decide_eq_true h9
  refine gK 7 rfl ?_
  obtain ⟨p,hpk,hpm⟩:=Qk (L:=r) (k:=k) (by omega)
  refine Qi (f:=cPl) (y:=p) rfl rfl rfl (by omega) hpk (gR 2 rfl (cN rfl rfl (vc141 p x) (gR 1 rfl (Q9 (by kernel_rfl) (gP 0 rfl (Qc rfl (fun h18=>?_) (fun h18=>?_)))))))
  ·replace h18:=of_decide_eq_true h18
   refine gK 5 rfl ?_
   rw [with_f hpm h18]
   exact rQ
  ·replace h18:=of_decide_eq_false h18
   refine gK 3 rfl (Qf rfl rfl rfl (by omega) (gR 2 rfl ?_))
   exact Qz <| ⟨k+1,⟨by omega,by rw [any_succ hpk,hinv]; exact decide_eq_false h18⟩,by omega,Qb (Qa rfl rfl) (.keep rfl rfl .nil) nz⟩
 ·replace h9:=of_decide_eq_false h9
  refine gK 6 rfl ?_
  rw [take_all (by omega)] at hinv
  rw [show XU r x=true from by unfold XU; rw [hinv]; rfl]
  exact rQ
def mcv175:MC:=(sq [oN 3 (.box 174 4 1) [],oN 4 (.mv (.c (.bool false))) []] (.seq (sq [oN 5 (.mv (cI 0)) []] (.block 0 (.loop (.seq (sq [oM 6 5 [],oM 7 0 [],oE 8 7 [1],oB 9 .lss 6 8 [0,2]] (.cond 9 .skip (.exit 0))) (.seq (.block 1 (dq [oM 12 0 [],oM 13 5 [],oX 14 4 12 13 [0,1],oL 15 4 14 [2],oL 16 4 3 [],oN 17 (.aeq false 4 15 16) [3,4]] (.cond 17 (sq [oN 4 (.mv (.c (.bool true))) []] .ret) .skip))) (rg [oM 10 5 [],oB 11 .add 10 (cI 1) [0],oM 5 11 [1,0,1]])))))) (sq [oN 4 (.mv (.c (.bool false))) []] .ret)))
theorem mcOkv175:okM Tryz.prog Tryz.f175 18=some mcv175:=by kernel_rfl
theorem vc175 (l:List Pt) (x:Pt) (hl:l.length<=2000000):FC Tryz.prog 175 [.rs 4 (l.map cPt),.agg (cPt x)] [] (.bool (decide (x∈l))) [] false:=by
 refine Qg (nt:=18) Tryz.func175 rfl rfl mcOkv175 (nL rfl) ?_
 delta mcv175
 refine gA 11 rfl ?_
 refine Qo (α:=Nat) (fun k=>l.length-k) (fun k=>[(0,.rs 4 (l.map cPt)),(3,.ptr 3 0 0),(4,.bool false),(5,iv (((k):Nat):Int))]) (fun k=>[(3,.cells 174 4 [cPt x] true)]) (fun k=>k<=l.length/\∀ (j:Nat) (y:Pt),j<k->l[j]?=some y->y≠x) 0 (⟨by omega,fun j y h=>absurd h (by omega)⟩)
  (Qb (Qa rfl rfl) (.keep rfl rfl .nil) nz) ?_
 rintro k ⟨hk,hinv⟩
 refine gT 5 rfl (Qe rfl rfl (gR 2 rfl (Qc rfl (fun h9=>?_) (fun h9=>?_))))
 ·replace h9:=of_decide_eq_true h9
  refine gK 7 rfl ?_
  obtain ⟨y,hyk,hym⟩:=Qk (L:=l) (k:=k) (by omega)
  refine Qi (f:=cPt) (y:=y) rfl rfl rfl (by omega) hyk (gR 2 rfl (rs_aeq_p (y:=y) (z:=x) rfl rfl rfl ?_))
  cases h17:decide (y=x)
  ·skip
   refine gR 0 rfl (Q9 (by kernel_rfl) (gP 4 rfl (Qf rfl rfl rfl (by omega) (gR 2 rfl ?_))))
   exact Qz <| ⟨k+1,⟨by omega,fun j z hj hz=>by
    rcases Nat.lt_or_ge j k with h | h
    ·exact hinv j z h hz
    ·obtain rfl:j=k:=by omega
     rw [hyk] at hz; cases hz
     exact of_decide_eq_false h17⟩,by omega,Qb (Qa rfl rfl) (.keep rfl rfl .nil) nz⟩
  ·skip
   refine gR 0 rfl (Q9 (by kernel_rfl) (gP 6 rfl ?_))
   rw [show decide (x∈l)=true from decide_eq_true (by rw [← of_decide_eq_true h17]; exact hym)]
   exact rQ
 ·replace h9:=of_decide_eq_false h9
  refine gK 6 rfl ?_
  rw [show decide (x∈l)=false from decide_eq_false (at_mem (k:=k) (by omega) hinv)]
  exact rQ
def mcv101:MC:=(sq [oN 2 (.mv (.c .nils)) []] (sq [oN 5 (.build (iz 3) [(0,1,(cI 24)),(1,1,(cI 24)),(2,1,(cI 24))]) [],oN 3 (.alloc 88 3 (iz 3)) [],oS 3 3 5 [1,0,0,1]] (sq [oN 6 (.build (iz 3) [(0,1,(cI (-24))),(1,1,(cI (-24))),(2,1,(cI (-24)))]) [],oN 4 (.alloc 88 3 (iz 3)) [],oS 3 4 6 [1,0,0,1]] (dq [oN 7 (.bslice 90 4 (iz 4) 0 []) [],oM 8 0 [],oN 9 (.app 90 4 32 (iz 4) 7 8) [0,1],oL 10 3 4 [],oL 11 3 3 [],oC 12 47 [10,11] [3,4,2],oN 13 (.app 90 4 32 (iz 4) 9 12) [2,5,5],oM 2 13 (6::6::up 7)] .ret))))
theorem mcOkv101:okM Tryz.prog Tryz.f101 14=some mcv101:=by kernel_rfl
theorem vc101 (c:List Pl) (hc:c.length<=1000):FC Tryz.prog 101 [.rs 4 (c.map cPl)] [] (.rs 4 ((ofS [c]).map cPl)) [] false:=by
 refine Qg (nt:=14) Tryz.func101 rfl rfl mcOkv101 (nL rfl) ?_
 delta mcv101
 refine gA 18 rfl (bT (l:=[]) (els:=[]) (by kernel_rfl) (gR 1 rfl (XO (f:=cPl) (ys:=c) (n:=c.length) (rd:=[]) rfl rfl rfl rfl rfl rfl rfl (by simp) (fun _=>rfl) rfl (by omega) (by omega) (fun _=>rfl) (gR 2 rfl (cN rfl rfl (vc47 ⟨-24,-24,-24⟩ ⟨24,24,24⟩ (by decide)) (gR 0 rfl (Ju (f:=cPl) (xs:=c) (ys:=JL ⟨-24,-24,-24⟩ ⟨24,24,24⟩) (n:=c.length) (m:=6) (rd:=[]) rfl rfl rfl rfl rfl rfl rfl (by simp) (fun _=>rfl) rfl rfl (by omega) (by omega) (fun _=>rfl) (gR 1 rfl (Q9 (by kernel_rfl) (gP 1 rfl ?_))))))))))
 rw [all_of]
 exact Qt <| Ql rfl (Q5 (f:=cPl) (xs:=c++JL ⟨-24,-24,-24⟩ ⟨24,24,24⟩) rfl rfl (by simp [JL]) (fun _=>rfl)) .nil
def mcv140:MC:=(sq [oN 2 (.mv (.c .nils)) []] (sq [oN 3 (.mv (.c .nils)) []] (.seq (sq [oN 4 (.mv (cI 0)) []] (.block 0 (.loop (.seq (sq [oM 9 4 [],oM 10 0 [],oE 11 10 [1],oB 12 .lss 9 11 [0,2]] (.cond 12 .skip (.exit 0))) (.seq (.block 1 (sq [oM 15 4 [],oB 16 .add 15 (cI 1) [0],oM 5 16 [1,0,1]] (.block 2 (.loop (.seq (sq [oM 17 5 [],oM 18 0 [],oE 19 18 [1],oB 20 .lss 17 19 [0,2]] (.cond 20 .skip (.exit 2))) (.seq (.block 3 (sq [oM 23 5 [],oB 24 .add 23 (cI 1) [0],oM 6 24 [1,0,1]] (.block 4 (.loop (.seq (sq [oM 25 6 [],oM 26 0 [],oE 27 26 [1],oB 28 .lss 25 27 [0,2]] (.cond 28 .skip (.exit 4))) (.seq (.block 5 (dq [oM 32 0 [],oM 33 4 [],oX 34 4 32 33 [0,1],oL 35 4 34 [2],oM 36 0 [],oM 37 5 [],oX 38 4 36 37 [4,5],oL 39 4 38 [6],oM 40 0 [],oM 41 6 [],oX 42 4 40 41 [8,9],oL 43 4 42 [10],oC 44 173 [35,39,43] [3,7,11],oM 31 44 [12],oN 45 (.ext 31 0) [13],oN 46 (.ext 31 1) [13],oN 7 (.alloc 174 4 (iz 4)) [],oS 4 7 45 [16,14,12,0,1,2,3,4,5,6,7,8,9,10,11,12,13,14,16],oM 8 46 (15::17::up 18)] (sq [oM 47 8 [],oM 48 47 [0],pM 49 0 48 true [1],oG 50 (.ld true 4 7) 48 true [1],oG 51 (.call 174 [49,50]) 48 true [2,3,1,1],oN 52 (.pick 48 51 (.c (.bool false))) [1,4],oM 53 52 [5,4],pM 54 3 53 true [6],oG 55 (.ld true 4 7) 53 true [6],oG 56 (.call 175 [54,55]) 53 true [7,8,6,6],oG 57 (.un .not 56) 53 true [9,6],oN 58 (.pick 53 57 (.c (.bool false))) [6,10]] (.cond 58 (rg [oM 59 3 [],oL 60 4 7 [],oN 61 (.bslice 174 4 (iz 4) 1 [(0,60)]) [1],oN 62 (.app 174 4 32 (iz 4) 59 61) [0,2],oM 3 62 (3::3::up 4)]) .skip)))) (rg [oM 29 6 [],oB 30 .add 29 (cI 1) [0],oM 6 30 [1,0,1]]))))))) (rg [oM 21 5 [],oB 22 .add 21 (cI 1) [0],oM 5 22 [1,0,1]]))))))) (rg [oM 13 4 [],oB 14 .add 13 (cI 1) [0],oM 4 14 [1,0,1]])))))) (sq [oM 63 3 [],oM 2 63 [0,0]] .ret))))
theorem mcOkv140:okM Tryz.prog Tryz.f140 64=some mcv140:=by kernel_rfl
set_option maxHeartbeats 1000000 in
theorem vc140 (r:List Pl) (hr:r.length<=110) (hv:∀ p∈r,Qw p=true):FC Tryz.prog 140 [.rs 4 (r.map cPl)] [] (.rs 4 ((Xf r).map cPt)) [] false:=by
 refine Qg (nt:=64) Tryz.func140 rfl rfl mcOkv140 (nL rfl) ?_
 delta mcv140
 refine gA 14 rfl ?_
 refine Qo (α:=Nat×List Pt) (fun s=>r.length-s.1) (fun s=>[(0,.rs 4 (r.map cPl)),(2,.nils),(3,.sl 901 0 (s.2).length),(4,iv (((s.1):Nat):Int))]) (fun s=>[(901,.cells 174 4 ((s.2).map cPt) true)]) (fun s=>s.1<=r.length/\topS r s.2 (r.drop s.1)=Xf r) (0,[]) (⟨by omega,rfl⟩)
  (Qb (.cs (.cs (.cons rfl (Xj rfl rfl) (.cs (.nil))))) (.virt rfl (.nil)) (fun i h=>by cases h)) ?_
 rintro ⟨i,l⟩ ⟨hi,hinv⟩
 dsimp only at hi hinv ⊢
 refine gT 5 rfl (Qe rfl rfl (gR 2 rfl (Qc rfl (fun h12=>?_) (fun h12=>?_))))
 ·replace h12:=of_decide_eq_true h12
  refine gK 5 rfl ?_
  obtain ⟨p,hpi,hpm⟩:=Qk (L:=r) (k:=i) (by omega)
  rw [topS_at hpi] at hinv
  refine gI 1 rfl (Qf rfl rfl rfl (by omega) (gR 3 rfl ?_))
  refine Qo (α:=Nat×List Pt) (fun s=>r.length-s.1) (fun s=>[(0,.rs 4 (r.map cPl)),(2,.nils),(3,.sl 901 0 (s.2).length),(4,iv (((i):Nat):Int)),(5,iv (((s.1):Nat):Int))]) (fun s=>[(901,.cells 174 4 ((s.2).map cPt) true)]) (fun s=>i+1<=s.1/\s.1<=r.length/\topS r (midS r p s.2 (r.drop s.1)) (r.drop (i+1))=Xf r) (i+1,l) (⟨by dsimp only; omega,by dsimp only; omega,hinv⟩)
   (Qb (Qa rfl rfl) (.keep rfl rfl .nil) nz) ?_
  rintro ⟨j,l⟩ ⟨hij,hj,hinv⟩
  dsimp only at hij hj hinv ⊢
  refine gT 5 rfl (Qe rfl rfl (gR 2 rfl (Qc rfl (fun h20=>?_) (fun h20=>?_))))
  ·replace h20:=of_decide_eq_true h20
   refine gK 5 rfl ?_
   obtain ⟨q,hqj,hqm⟩:=Qk (L:=r) (k:=j) (by omega)
   rw [midS_at hqj] at hinv
   refine gI 1 rfl (Qf rfl rfl rfl (by omega) (gR 3 rfl ?_))
   refine Qo (α:=Nat×List Pt) (fun s=>r.length-s.1) (fun s=>[(0,.rs 4 (r.map cPl)),(2,.nils),(3,.sl 901 0 (s.2).length),(4,iv (((i):Nat):Int)),(5,iv (((j):Nat):Int)),(6,iv (((s.1):Nat):Int))]) (fun s=>[(901,.cells 174 4 ((s.2).map cPt) true)]) (fun s=>j+1<=s.1/\s.1<=r.length/\topS r (midS r p (innS r p q s.2 (r.drop s.1)) (r.drop (j+1))) (r.drop (i+1))=Xf r) (j+1,l) (⟨by dsimp only; omega,by dsimp only; omega,hinv⟩)
    (Qb (Qa rfl rfl) (.keep rfl rfl .nil) nz) ?_
   rintro ⟨k,l⟩ ⟨hjk,hk,hinv⟩
   dsimp only at hjk hk hinv ⊢
   refine gT 5 rfl (Qe rfl rfl (gR 2 rfl (Qc rfl (fun h28=>?_) (fun h28=>?_))))
   ·replace h28:=of_decide_eq_true h28
    refine gK 5 rfl ?_
    obtain ⟨s,hsk,hsm⟩:=Qk (L:=r) (k:=k) (by omega)
    have hlb:=corn_bd hr hinv
    rw [innS_at hsk] at hinv
    refine gI 2 rfl (Qi (f:=cPl) (y:=p) rfl rfl rfl (by omega) hpi (gR 3 rfl (Qi (f:=cPl) (y:=q) rfl rfl rfl (by omega) hqj (gR 3 rfl (Qi (f:=cPl) (y:=s) rfl rfl rfl (by omega) hsk (gR 1 rfl ?_))))))
    by_cases h0:wd3 p q s=0
    ·skip
     refine cN rfl rfl (vc173_n p q s (hv p hpm) (hv q hqm) (hv s hsm) h0) (gR 6 rfl (Q9 (by kernel_rfl) (gP 19 rfl (Qf rfl rfl rfl (by omega) (gR 2 rfl ?_)))))
     rw [acc_1 h0] at hinv
     exact Qz <| ⟨(k+1,l),⟨by dsimp only; omega,by dsimp only; omega,hinv⟩,by dsimp only; omega,Qb (Qa rfl rfl) (.keep rfl rfl .nil) nz⟩
    ·skip
     refine cN rfl rfl (vc173_s p q s (hv p hpm) (hv q hqm) (hv s hsm) h0) (gR 6 rfl (Q9 (by kernel_rfl) (gP 6 rfl (cN rfl rfl (vc174 r (mtP p q s) (by omega)) ?_))))
     cases h51:XU r (mtP p q s)
     ·skip
      refine gR 12 rfl (Qf rfl rfl rfl (by omega) (gR 2 rfl ?_))
      rw [acc_w h51] at hinv
      exact Qz <| ⟨(k+1,l),⟨by dsimp only; omega,by dsimp only; omega,hinv⟩,by dsimp only; omega,Qb (Qa rfl rfl) (.keep rfl rfl .nil) nz⟩
     ·skip
      refine gR 4 rfl (QD [901] rfl rfl (vc175 l (mtP p q s) (by omega)) (.cons (QW (f:=cPt) (xs:=l) (by simp) rfl rfl) (.cons (Qd rfl) (.nil))) rfl ?_)
      cases h56:decide (mtP p q s∈l)
      ·skip
       refine gR 7 rfl (bM cPt (([mtP p q s]:List Pt)) (by kernel_rfl) (gR 0 rfl (Qq (f:=cPt) (xs:=l) (y:=mtP p q s) (fl':=true) rfl rfl rfl rfl (rfl) rfl rfl rfl (by decide) rfl (by omega) (by omega) rfl (gR 4 rfl (Qf rfl rfl rfl (by omega) (gR 2 rfl ?_))))))
       rw [acc_n h0 h51 h56] at hinv
       exact Qz <| ⟨(k+1,l++[mtP p q s]),⟨by dsimp only; omega,by dsimp only; omega,hinv⟩,by dsimp only; omega,QB (i:=62) (i':=901) (F1:=[(0,.rs 4 (r.map cPl)),(2,.nils),(3,.sl 62 0 (l++[mtP p q s]).length),(4,iv (((i):Nat):Int)),(5,iv (((j):Nat):Int)),(6,iv (((k+1):Nat):Int))]) (H1:=[(62,.cells 174 4 ((l++[mtP p q s]).map cPt) true)]) (.cs (.cs (.cons rfl (JU (by simp) rfl) (.cs (.cs (.cs (.nil))))))) (.keep rfl rfl .nil) nz rfl rfl (.cons rfl (.same _) (.cons rfl (.same _) (.cons rfl (.sl _ _) (.cons rfl (.same _) (.cons rfl (.same _) (.cons rfl (.same _) (.nil))))))) (Qa rfl rfl) (.keep rfl rfl .nil) nz⟩
      ·skip
       refine gR 7 rfl (Qf rfl rfl rfl (by omega) (gR 2 rfl ?_))
       rw [acc_m h56] at hinv
       exact Qz <| ⟨(k+1,l),⟨by dsimp only; omega,by dsimp only; omega,hinv⟩,by dsimp only; omega,Qb (Qa rfl rfl) (.keep rfl rfl .nil) nz⟩
   ·replace h28:=of_decide_eq_false h28
    refine gK 3 rfl (Qf rfl rfl rfl (by omega) (gR 2 rfl ?_))
    rw [inn_end (by omega)] at hinv
    exact Qz <| ⟨(j+1,l),⟨by dsimp only; omega,by dsimp only; omega,hinv⟩,by dsimp only; omega,Qb (Qa rfl rfl) (.keep rfl rfl .nil) nz⟩
  ·replace h20:=of_decide_eq_false h20
   refine gK 3 rfl (Qf rfl rfl rfl (by omega) (gR 2 rfl ?_))
   rw [mid_end (by omega)] at hinv
   exact Qz <| ⟨(i+1,l),⟨by dsimp only; omega,hinv⟩,by dsimp only; omega,Qb (Qa rfl rfl) (.keep rfl rfl .nil) nz⟩
 ·replace h12:=of_decide_eq_false h12
  refine gK 7 rfl ?_
  rw [top_end (by omega)] at hinv
  rw [← hinv]
  exact Qt <| Ql rfl (Q5 rfl rfl rfl (fun _=>rfl)) .nil
def mcv100:MC:=(sq [oN 2 (.mv (.c (.bool false))) []] (sq [oM 7 0 [],oC 8 140 [7] [0],oM 3 8 [1,1,0,1]] (.seq (sq [oN 4 (.mv (cI 0)) []] (.block 0 (.loop (.seq (sq [oM 9 4 [],oM 10 0 [],oE 11 10 [1],oB 12 .lss 9 11 [0,2]] (.cond 12 .skip (.exit 0))) (.seq (.block 1 (sq [oN 5 (.mv (.c (.bool false))) []] (.seq (sq [oN 6 (.mv (cI 0)) []] (.block 2 (.loop (.seq (sq [oM 15 6 [],oM 16 3 [],oE 17 16 [1],oB 18 .lss 15 17 [0,2]] (.cond 18 .skip (.exit 2))) (.seq (.block 3 (dg [oM 21 5 [],oM 22 21 [0],pM 23 0 22 false [1],pM 24 4 22 false [1],oG 25 (.ixsl 4 23 24) 22 false [2,3,1],oG 26 (.ld true 4 25) 22 false [4,1],pM 27 3 22 false [1],pM 28 6 22 false [1],oG 29 (.ixsl 4 27 28) 22 false [6,7,1],oG 30 (.ld true 4 29) 22 false [8,1],oG 31 (.call 141 [26,30]) 22 false [5,9,1,1],oG 32 (.bin .gtr 31 (cI 0)) 22 false [10,1],oN 33 (.pick 22 (.c (.bool true)) 32) [1,11],oM 5 33 (12::10::up 13)])) (rg [oM 19 6 [],oB 20 .add 19 (cI 1) [0],oM 6 20 [1,0,1]])))))) (sq [oM 34 5 [],oN 35 (.un .not 34) [0]] (.cond 35 (sq [oN 2 (.mv (.c (.bool false))) []] .ret) .skip))))) (rg [oM 13 4 [],oB 14 .add 13 (cI 1) [0],oM 4 14 [1,0,1]])))))) (sq [oN 2 (.mv (.c (.bool true))) []] .ret))))
theorem mcOkv100:okM Tryz.prog Tryz.f100 36=some mcv100:=by kernel_rfl
theorem vc100 (r:List Pl) (hr:r.length<=110) (hv:∀ p∈r,Qw p=true):FC Tryz.prog 100 [.rs 4 (r.map cPl)] [] (.bool (Ui r)) [] false:=by
 have hcl:=corn_len hr
 refine Qg (nt:=36) Tryz.func100 rfl rfl mcOkv100 (nL rfl) ?_
 delta mcv100
 refine gA 7 rfl (cN rfl rfl (vc140 r hr hv) (gR 8 rfl ?_))
 refine Qo (α:=Nat) (fun k=>r.length-k) (fun k=>[(0,.rs 4 (r.map cPl)),(2,.bool false),(3,.rs 4 ((Xf r).map cPt)),(4,iv (((k):Nat):Int))]) (fun k=>[]) (fun k=>k<=r.length/\(r.take k).any (nonS (Xf r))=false) 0 (⟨by omega,rfl⟩)
  (Qb (Qa rfl rfl) (.nil) (fun i h=>by cases h)) ?_
 rintro k ⟨hk,hinv⟩
 refine gT 5 rfl (Qe rfl rfl (gR 2 rfl (Qc rfl (fun h12=>?_) (fun h12=>?_))))
 ·replace h12:=of_decide_eq_true h12
  refine gK 4 rfl ?_
  obtain ⟨p,hpk,hpm⟩:=Qk (L:=r) (k:=k) (by omega)
  refine gI 9 rfl ?_
  refine Qo (α:=Nat) (fun i=>(Xf r).length-i) (fun i=>[(0,.rs 4 (r.map cPl)),(2,.bool false),(3,.rs 4 ((Xf r).map cPt)),(4,iv (((k):Nat):Int)),(5,.bool (((Xf r).take (i)).any (inB p))),(6,iv (((i):Nat):Int))]) (fun i=>[]) (fun i=>i<=(Xf r).length) 0 (by omega)
   (Qb (Qa rfl rfl) (.nil) (fun i h=>by cases h)) ?_
  intro i hi
  refine gT 5 rfl (Qe rfl rfl (gR 2 rfl (Qc rfl (fun h18=>?_) (fun h18=>?_))))
  ·replace h18:=of_decide_eq_true h18
   refine gK 4 rfl ?_
   obtain ⟨x,hxi,hxm⟩:=Qk (L:=(Xf r)) (k:=i) (by omega)
   refine gI 1 rfl ?_
   cases h21:((Xf r).take i).any (inB p)
   ·skip
    refine gI 3 rfl (Qi (f:=cPl) (y:=p) rfl rfl rfl (by omega) hpk (gR 3 rfl (Qi (f:=cPt) (y:=x) rfl rfl rfl (by omega) hxi (gR 1 rfl (cN rfl rfl (vc141 p x) (gR 0 rfl (Qx rfl rfl rfl rfl (fun h32=>?_) (fun h32=>?_))))))))
    ·skip
     refine gR 2 rfl (Q9 (by kernel_rfl) (gP 2 rfl (Qf rfl rfl rfl (by omega) (gR 2 rfl ?_))))
     exact Qz <| ⟨i+1,by omega,by omega,Qb (.cs (.cs (.cs (.cs (.cons rfl (JU (by rw [any_succ hxi,h21]; simp [inB,h32]) rfl) (.cs (.nil))))))) (.nil) (fun i h=>by cases h)⟩
    ·skip
     refine gR 2 rfl (Q9 (by kernel_rfl) (gP 2 rfl (Qf rfl rfl rfl (by omega) (gR 2 rfl ?_))))
     exact Qz <| ⟨i+1,by omega,by omega,Qb (.cs (.cs (.cs (.cs (.cons rfl (JU (by rw [any_succ hxi,h21]; simp [inB,h32]) rfl) (.cs (.nil))))))) (.nil) (fun i h=>by cases h)⟩
   ·skip
    refine gI 13 rfl (Q9 (by kernel_rfl) (gP 2 rfl (Qf rfl rfl rfl (by omega) (gR 2 rfl ?_))))
    exact Qz <| ⟨i+1,by omega,by omega,Qb (.cs (.cs (.cs (.cs (.cons rfl (JU (by rw [any_succ hxi,h21]; rfl) rfl) (.cs (.nil))))))) (.nil) (fun i h=>by cases h)⟩
  ·replace h18:=of_decide_eq_false h18
   refine gK 4 rfl ?_
   cases h34:((Xf r).take i).any (inB p)
   ·skip
    refine gI 8 rfl ?_
    rw [take_all (by omega)] at h34
    rw [show Ui r=false from by unfold Ui; rw [List.any_eq_true.2 ⟨p,hpm,by unfold nonS; rw [h34]; rfl⟩]; rfl]
    exact rQ
   ·skip
    refine gI 6 rfl (Qf rfl rfl rfl (by omega) (gR 2 rfl ?_))
    rw [take_all (by omega)] at h34
    exact Qz <| ⟨k+1,⟨by omega,by rw [any_succ hpk,hinv]; simp [nonS,h34]⟩,by omega,Qb (Qa rfl rfl) (.nil) (fun i h=>by cases h)⟩
 ·replace h12:=of_decide_eq_false h12
  refine gK 6 rfl ?_
  rw [take_all (by omega)] at hinv
  rw [show Ui r=true from by unfold Ui; rw [hinv]; rfl]
  exact rQ
def mcv49:MC:=(sq [oN 2 (.mv (.c (.bool false))) []] (sq [oM 3 0 [],oC 4 99 [3] [0],oB 5 .eql 4 (cI 0) [1],oM 6 5 [2,1],pM 7 0 6 true [3],oG 8 (.call 101 [7]) 6 true [4,3,3],oG 9 (.call 100 [8]) 6 true [5,5,3],oN 10 (.pick 6 9 (.c (.bool false))) [3,6],oM 2 10 (7::6::up 8)] .ret))
theorem mcOkv49:okM Tryz.prog Tryz.f49 11=some mcv49:=by kernel_rfl
theorem vc49 (c:List Pl) (hc:c.length<=1000):FC Tryz.prog 49 [.rs 4 (c.map cPl)] [] (.bool (QO c)) [] false:=by
 refine Qg (nt:=11) Tryz.func49 rfl rfl mcOkv49 (nL rfl) ?_
 delta mcv49
 refine gA 7 rfl (cN rfl rfl (vc99 c hc) (gR 0 rfl (Qx rfl rfl rfl rfl (fun h5=>?_) (fun h5=>?_))))
 ·skip
  refine gR 2 rfl (cN rfl rfl (vc101 c hc) (gR 0 rfl (cN rfl rfl (vc100 (ofS [c]) (OkC.of (ck0 h5)) (Ue (ck0 h5))) (gR 4 rfl ?_))))
  rw [show QO c=Ui (ofS [c]) from by unfold QO; rw [ck0 h5]; rfl]
  exact rQ
 ·skip
  refine gR 8 rfl ?_
  rw [show QO c=false from by unfold QO; rw [ck1 h5]; rfl]
  exact rQ
end Go.Proofs.YthfhaoogcpfboaaGreat
