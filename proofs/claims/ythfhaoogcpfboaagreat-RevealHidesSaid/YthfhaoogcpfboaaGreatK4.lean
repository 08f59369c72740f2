/-
  Parts of the proof: VF VG VH VJ VK VL VM VN VO VP VQ W0 VR W3.
-/
import Derived.Test.YthfhaoogcpfboaaGreatK3
import Derived.Shelf.Spec.SlicesGrow
set_option linter.unusedVariables false
set_option linter.unusedSimpArgs false
namespace Go.Proofs.YthfhaoogcpfboaaGreat
open Go.RowKit
set_option maxRecDepth 100000
set_option linter.unusedVariables false
theorem idxS_lt {α:Type} {p:α->Bool}:∀ (l:List α) (k:Nat),Xs p l k<((k+l.length:Nat):Int)
 | [],k=>by show (-1:Int)<_; omega
 | x::l,k=>by
  unfold Xs
  split
  ·simp only [List.length_cons]; omega
  ·have:=idxS_lt (p:=p) l (k+1); simp only [List.length_cons]; omega
def knR (sp:List (Nat×Nat)) (hd:List (List Int)) (ls:List Lf) (b m:Nat):Option (List Int) :=
 if 0<=Xs (spEq b m) sp 0 then some (hd.getD (Xs (spEq b m) sp 0).toNat []) else ofK ls b m
theorem knR_t {sp:List (Nat×Nat)} {hd:List (List Int)} {ls:List Lf} {b m:Nat} {x:List Int} (h:Xs (spEq b m) sp 0 ≥ 0) (hx:hd[(Xs (spEq b m) sp 0).toNat]?=some x):knR sp hd ls b m=some x:=by
 unfold knR; rw [if_pos h,getD_at hx]
theorem knR_f {sp:List (Nat×Nat)} {hd:List (List Int)} {ls:List Lf} {b m:Nat} (h:¬ Xs (spEq b m) sp 0 ≥ 0):knR sp hd ls b m=ofK ls b m:=by unfold knR; rw [if_neg h]
theorem knR_ok {sp:List (Nat×Nat)} {hd:List (List Int)} (ls:List Lf) (hh:∀ d∈hd,B8 d/\d.length<=LIM) (hn:sp.length=hd.length):KnOK (knR sp hd ls) where
 one b:=by
  unfold knR
  split
  ·rfl
  ·exact (ofK_ok ls).one b
 ok b m x h:=by
  unfold knR at h
  split at h
  ·rename_i hi
   injection h with h
   have:=idxS_lt (p:=spEq b m) sp 0
   obtain ⟨d,hd0,hdm⟩:=Qo (L:=hd) (k:=(Xs (spEq b m) sp 0).toNat) (by omega)
   rw [← h,getD_at hd0]; exact hh d hdm
  ·exact (ofK_ok ls).ok b m x h
def dfL:Lf:=⟨0,0,false,false,[]⟩
def JT (n:Nat) (lv:List Lf):List Lf:=lv.foldl (fun l x=>l.set x.ix.toNat x) (List.replicate n dfL)
theorem fill_len (n:Nat) (lv:List Lf):(JT n lv).length=n:=by
 have key:∀ (lv l:List Lf),(lv.foldl (fun l x=>l.set x.ix.toNat x) l).length=l.length:=by
  intro lv
  induction lv with
  | nil=>intro l; rfl
  | cons x lv ih=>intro l; rw [List.foldl_cons,ih,List.length_set]
 unfold JT; rw [key,List.length_replicate]
theorem fill_succ {n:Nat} {lv:List Lf} {k:Nat} {x:Lf} (h:lv[k]?=some x):JT n (lv.take (k+1))=(JT n (lv.take k)).set x.ix.toNat x:=by unfold JT; rw [Qv h,List.foldl_append]; rfl
theorem fill_ok {n:Nat} {lv:List Lf} (hn:n<=64) (h:∀ x∈lv,x.OK):LsOK (JT n lv):=by
 refine ⟨by rw [fill_len]; exact hn,?_⟩
 have key:∀ (lv l:List Lf),(∀ x∈lv,x.OK)->(∀ x∈l,x.OK)->∀ x∈lv.foldl (fun l x=>l.set x.ix.toNat x) l,x.OK:=by
  intro lv
  induction lv with
  | nil=>intro l _ hl; exact hl
  | cons y lv ih =>
   intro l hv hl
   rw [List.foldl_cons]
   refine ih _ (fun x hx=>hv x (List.mem_cons_of_mem _ hx)) fun x hx=>?_
   rcases List.mem_or_eq_of_mem_set hx with hx | hx
   ·exact hl x hx
   ·rw [hx]; exact hv y (List.mem_cons_self ..)
 refine key lv _ h fun x hx=>?_
 rw [(List.mem_replicate.1 hx).2]
 exact ⟨⟨by decide,by decide⟩,⟨by decide,by decide⟩,(fun x hx=>by cases hx),by decide⟩
theorem fill_0 (n:Nat):List.replicate n (cLf dfL)=(JT n ([]:List Lf)).map cLf:=by unfold JT; simp
def rootOfS (z:Int) (lv:List Lf) (hd:List (List Int)):Option (List Int):=(fmS z lv hd).map fun sp=>Qw (knR sp hd (JT z.toNat lv)) (lg z.toNat) 0
theorem fm_parts {z:Int} {lv:List Lf} {hdl:List (List Int)} {sp:List (Nat×Nat)} (h:fmS z lv hdl=some sp):(1<=z/\z<=16)/\incF z (-1) (Xx lv)=true/\sp=X0 z.toNat (Xx lv)/\sp.length=hdl.length/\∀ d∈hdl,d.length=8:=by
 unfold fmS at h
 split at h
 ·cases h
 split at h
 ·cases h
 split at h
 ·cases h
 split at h
 ·cases h
 rename_i h1 h2 h3 h4
 injection h with h
 subst h
 refine ⟨by omega,by simpa using h2,rfl,by omega,fun d hd=>?_⟩
 have h5:hdl.any JL=false:=by simpa using h4
 have:=List.any_eq_false.1 h5 d hd
 simp only [JL,decide_eq_true_eq] at this
 omega
def mcv74:MC:=(.seq (.reg [oN 3 (.box 110 2 (.t 1)) [],oN 4 (.mv (.c (.int .i64 0))) []] false) (.seq (.seq (.reg [oM 6 0 [],oN 7 (.len (.t 6)) [0],oN 8 (.mv (.c (.int .i64 0))) []] false) (.block 0 (.loop (.seq (.reg [oN 9 (.bin .lss (.t 8) (.t 7)) []] false) (.seq (.cond (.t 9) .skip (.exit 0)) (.seq (.block 1 (.seq (.reg [oM 10 8 [],oM 5 10 [0,0]] false) (.seq (.reg [oN 11 (.ld true 2 (.t 3)) [],oM 12 0 [],oM 13 5 [],oN 14 (.ixsl 2 (.t 12) (.t 13)) [1,2],oN 15 (.ld true 2 (.t 14)) [3],oN 16 (.aeq false 2 (.t 11) (.t 15)) [0,4]] true) (.cond (.t 16) (.seq (.reg [oM 17 5 [],oM 4 17 [0,0]] false) .ret) .skip)))) (.reg [oN 18 (.bin .add (.t 8) (.c (.int .i64 1))) [],oM 8 18 [0]] false))))))) (.seq (.reg [oN 4 (.mv (.c (.int .i64 (-1)))) []] false) .ret)))
theorem mcOkv74:okM Tryz.prog Tryz.f74 19=some mcv74:=by kernel_rfl
theorem vc74 (sp:List (Nat×Nat)) (b m:Nat) (hsn:sp.length<=1000):FC Tryz.prog 74 [.rs 2 (sp.map cSp),.agg (cP b m)] [] (.int .i64 (Xs (spEq b m) sp 0)) [] false:=by
 refine Qj (nt:=19) Tryz.func74 rfl rfl mcOkv74 (nL rfl) ?_
 delta mcv74
 refine gA 9 rfl (Qh rfl rfl (gR 3 rfl ?_))
 refine Qr (α:=Nat) (fun k=>sp.length-k) (fun k=>[(0,.rs 2 (sp.map cSp)),(3,.ptr 3 0 0),(6,.rs 2 (sp.map cSp)),(7,iv (sp.length:Int)),(8,iv (((k):Nat):Int))]) (fun k=>[(3,.cells 110 2 [cP b m] true)]) (fun k=>k<=sp.length/\Xs (spEq b m) (sp.drop k) k=Xs (spEq b m) sp 0) 0 (⟨by omega,rfl⟩)
  (Qa (Qb rfl rfl) (.keep rfl rfl .nil) nz) ?_
 rintro k ⟨hk,hinv⟩
 refine gT 5 rfl (Qe rfl (fun h9=>?_) (fun h9=>?_))
 ·replace h9:=of_decide_eq_true h9
  refine gK 10 rfl ?_
  obtain ⟨x,hxk,hxm⟩:=Qo (L:=sp) (k:=k) (by omega)
  rw [JK hxk] at hinv
  refine gI 3 rfl (Qp (f:=cSp) (y:=x) rfl rfl rfl (by omega) hxk (gR 0 rfl (QG (cs:=cSp x) rfl rfl (nL rfl) rfl (gR 0 rfl (rs_aeq [(b:Int),(m:Int)] [(x.1:Int),(x.2:Int)] rfl rfl rfl rfl rfl rfl rfl (spEq_aeq b m x) ?_)))))
  cases h16:spEq b m x
  ·skip
   refine gR 0 rfl (QJ (by kernel_rfl) (gP 3 rfl (Qg rfl rfl rfl (by omega) (gR 2 rfl ?_))))
   rw [h16] at hinv
   exact Q8 <| ⟨k+1,⟨by omega,hinv⟩,by omega,Qa (Qb rfl rfl) (.keep rfl rfl .nil) nz⟩
  ·skip
   refine gR 0 rfl (QJ (by kernel_rfl) (gP 7 rfl ?_))
   rw [h16] at hinv
   rw [← hinv]
   exact Qk <| Qc rfl rfl rfl (.inr rfl)
 ·replace h9:=of_decide_eq_false h9
  refine gK 6 rfl ?_
  rw [Ju (by omega)] at hinv
  rw [← hinv]
  exact Qk <| Qc rfl rfl rfl (.inr rfl)
def mcv73:MC:=(.seq (.reg [oN 4 (.box 110 2 (.t 0)) [],oN 5 (.mv (.c (.str (Qm [])))) [],oN 6 (.mv (.c (.bool false))) [1]] false) (.seq (.seq (.reg [oD 8 1 1 [],oN 9 (.ld true 2 (.t 4)) [],oN 10 (.call 74 [(.t 8),(.t 9)]) [0,1],oM 7 10 [2,2,0,1,2]] false) (.seq (.reg [oM 11 7 [],oN 12 (.bin .geq (.t 11) (.c (.int .i64 0))) [0]] false) (.cond (.t 12) (.seq (.reg [oA 13 2 2 [],oD 14 1 13 [0],oM 15 7 [],oN 16 (.ixsl 1 (.t 14) (.t 15)) [1,2],oD 17 1 16 [3],oM 5 17 [4,0,1,2,3,4],oN 6 (.mv (.c (.bool true))) [5,0,1,2,3,4,5]] false) .ret) .skip))) (.seq (.reg [oD 18 1 3 [],oN 19 (.ld true 2 (.t 4)) [],oN 20 (.callv (.t 18) [(.t 19)]) [0,1],oN 21 (.ext (.t 20) 0) [2],oN 22 (.ext (.t 20) 1) [2],oM 5 21 [3,2,0,1,2,3,4],oM 6 22 [4,5,0,1,2,3,4,5]] false) .ret)))
theorem mcOkv73:okM Tryz.prog Tryz.f73 23=some mcv73:=by kernel_rfl
theorem vc73 (sp:List (Nat×Nat)) (z:Int) (lv:List Lf) (hd:List (List Int)) (ls:List Lf) (hl:LsOK ls) (hsn:sp.length<=1000) (hsp:sp.length=hd.length) (b m:Nat):FC Tryz.prog 73 [.agg (cP b m),.rp [.rs 2 (sp.map cSp)],.rp [.int .i64 z,.rs 5 (lv.map cLf),.rs 1 (hd.map cS)],.rp [.fn (.func 119) [.rp [.rs 5 (ls.map cLf)]]]] [] (.tup [.str (Qm ((knR sp hd ls (b) (m)).getD [])),.bool (knR sp hd ls (b) (m)).isSome]) [] false:=by
 have hlt:=idxS_lt (p:=spEq b m) sp 0
 refine Qj (nt:=23) Tryz.func73 rfl rfl mcOkv73 (nL rfl) ?_
 delta mcv73
 refine gA 11 rfl (cN rfl rfl (vc74 sp b m hsn) (gR 5 rfl (Jk rfl rfl rfl (gR 1 rfl (Qe rfl (fun h12=>?_) (fun h12=>?_))))))
 ·replace h12:=of_decide_eq_true h12
  refine gK 5 rfl ?_
  obtain ⟨x,hx,hxm⟩:=Qo (L:=hd) (k:=(Xs (spEq b m) sp 0).toNat) (by omega)
  refine Qp (f:=cS) (y:=x) rfl rfl rfl (by omega) hx (gR 5 rfl ?_)
  rw [knR_t h12 hx]
  exact Qk <| Qc rfl rfl rfl (.inr rfl)
 ·replace h12:=of_decide_eq_false h12
  refine gK 5 rfl (Xb [] rfl rfl (by kernel_rfl) rfl (JI (vc119 ls hl b m)) (.cons (Qd rfl) (.cons (Qd rfl) (.nil))) .nil rfl rfl rfl (gR 6 rfl ?_))
  rw [knR_f h12]
  exact Qk <| Qc rfl rfl rfl (.inr rfl)
theorem as69w2 (sp:List (Nat×Nat)) (z:Int) (lv:List Lf) (hd:List (List Int)) (ls:List Lf) (kn:Nat->Nat->Option (List Int)) (d b c:Nat) (l:List (List Int)) (hc:c+2^d<=64) (hl:l.length<=1) (o:Loop) (lb:Nat):AW Tryz.prog 33 [900,7,903] (some lb) as69 (fun e F' H'=>e = .normal/\Weak 33 [900,7,903] F' H' [(8,.ptr 8 0 0),(7,.ptr 7 0 0),(2,.rp [(.fn (.func 73) [.rp [.rs 2 (sp.map cSp)],.rp [.int .i64 z,.rs 5 (lv.map cLf),.rs 1 (hd.map cS)],.rp [.fn (.func 119) [.rp [.rs 5 (ls.map cLf)]]]])])] [(900,.lp o [(18,.fn (.func 149) [.rp (cP b (2^(d+1)))]),(7,.ptr 7 0 0),(2,.rp [(.fn (.func 73) [.rp [.rs 2 (sp.map cSp)],.rp [.int .i64 z,.rs 5 (lv.map cLf),.rs 1 (hd.map cS)],.rp [.fn (.func 119) [.rp [.rs 5 (ls.map cLf)]]]])])]),(7,.cells 47 1 [[.sl 903 0 (l).length]] false),(903,.cells 9 1 ((l).map cS) true),(8,.cells 110 2 [cP c (2^d)] true)]) [(19,.agg (cP c (2^d))),(18,.fn (.func 149) [.rp (cP b (2^(d+1)))]),(7,.ptr 7 0 0),(2,.rp [(.fn (.func 73) [.rp [.rs 2 (sp.map cSp)],.rp [.int .i64 z,.rs 5 (lv.map cLf),.rs 1 (hd.map cS)],.rp [.fn (.func 119) [.rp [.rs 5 (ls.map cLf)]]]])])] [(900,.lp o [(18,.fn (.func 149) [.rp (cP b (2^(d+1)))]),(7,.ptr 7 0 0),(2,.rp [(.fn (.func 73) [.rp [.rs 2 (sp.map cSp)],.rp [.int .i64 z,.rs 5 (lv.map cLf),.rs 1 (hd.map cS)],.rp [.fn (.func 119) [.rp [.rs 5 (ls.map cLf)]]]])])]),(7,.cells 47 1 [[.sl 903 0 (l).length]] false),(903,.cells 9 1 ((l).map cS) true)]:=by
 delta as69
 refine gA 4 rfl ?_
 exact Qk <| ⟨rfl,Qa (Qb rfl rfl) (.keep (rfl) rfl (.keep (rfl) rfl (.keep (rfl) rfl (.keep (rfl) rfl (.nil))))) (fun i hi=>by simp [Qf] at hi ⊢; omega)⟩
theorem bd69w2 (sp:List (Nat×Nat)) (z:Int) (lv:List Lf) (hd:List (List Int)) (ls:List Lf) (kn:Nat->Nat->Option (List Int)) (d b c:Nat) (l:List (List Int)) (hc:c+2^d<=64) (hl:l.length<=1) (ih:∀ c,c+2^d<=64->FC Tryz.prog 69 [(.fn (.func 73) [.rp [.rs 2 (sp.map cSp)],.rp [.int .i64 z,.rs 5 (lv.map cLf),.rs 1 (hd.map cS)],.rp [.fn (.func 119) [.rp [.rs 5 (ls.map cLf)]]]]),.agg (cP c (2^d))] [] (.str (Qm (Qw kn d c))) [] false) (o:Loop) (lb:Nat):AW Tryz.prog 33 [900,7,903] (some lb) bd69 (fun e F' H'=>e = .normal/\Weak 33 [900,7,903] F' H' [] [(900,.lp o [(18,.fn (.func 149) [.rp (cP b (2^(d+1)))]),(7,.ptr 7 0 0),(2,.rp [(.fn (.func 73) [.rp [.rs 2 (sp.map cSp)],.rp [.int .i64 z,.rs 5 (lv.map cLf),.rs 1 (hd.map cS)],.rp [.fn (.func 119) [.rp [.rs 5 (ls.map cLf)]]]])])]),(7,.cells 47 1 [[.sl 25 0 (l++[Qw kn d c]).length]] false),(25,.cells 9 1 ((l++[Qw kn d c]).map cS) true),(903,.dead)]) [(8,.ptr 8 0 0),(7,.ptr 7 0 0),(2,.rp [(.fn (.func 73) [.rp [.rs 2 (sp.map cSp)],.rp [.int .i64 z,.rs 5 (lv.map cLf),.rs 1 (hd.map cS)],.rp [.fn (.func 119) [.rp [.rs 5 (ls.map cLf)]]]])])] [(900,.lp o [(18,.fn (.func 149) [.rp (cP b (2^(d+1)))]),(7,.ptr 7 0 0),(2,.rp [(.fn (.func 73) [.rp [.rs 2 (sp.map cSp)],.rp [.int .i64 z,.rs 5 (lv.map cLf),.rs 1 (hd.map cS)],.rp [.fn (.func 119) [.rp [.rs 5 (ls.map cLf)]]]])])]),(7,.cells 47 1 [[.sl 903 0 (l).length]] false),(903,.cells 9 1 ((l).map cS) true),(8,.cells 110 2 [cP c (2^d)] true)]:=by
 delta bd69
 refine gA 5 rfl (cN rfl rfl (ih c hc) (gR 0 rfl (Qi (l:=(([Qw kn d c]:List (List Int))).flatMap cS) (els:=(([Qw kn d c]:List (List Int))).map cS) (fl:=true) rfl (by kernel_rfl) rfl rfl (by kernel_rfl) (by kernel_rfl) (gR 0 rfl (QB (f:=cS) (xs:=l) (y:=Qw kn d c) (fl':=true) rfl rfl rfl rfl rfl rfl rfl rfl (by decide) rfl (by omega) (by omega) rfl (gR 1 rfl (QJ (by kernel_rfl) (gP 0 rfl ?_))))))))
 exact Qk <| ⟨rfl,Qa (.nil) (.keep (rfl) rfl (.keep (by rw [Xz]; rfl) rfl (.keep (rfl) rfl (.keep (rfl) rfl (.nil))))) (fun i hi=>by simp [Qf] at hi ⊢; omega)⟩
theorem y69_2 (sp:List (Nat×Nat)) (z:Int) (lv:List Lf) (hd:List (List Int)) (ls:List Lf) (kn:Nat->Nat->Option (List Int)) (d b c:Nat) (l:List (List Int)) (hc:c+2^d<=64) (hl:l.length<=1) (ih:∀ c,c+2^d<=64->FC Tryz.prog 69 [(.fn (.func 73) [.rp [.rs 2 (sp.map cSp)],.rp [.int .i64 z,.rs 5 (lv.map cLf),.rs 1 (hd.map cS)],.rp [.fn (.func 119) [.rp [.rs 5 (ls.map cLf)]]]]),.agg (cP c (2^d))] [] (.str (Qm (Qw kn d c))) [] false) (r0:Loop) (h:Rec0 Tryz.prog 33 [19] as69 bd69 r0) :
  FCg (XM Tryz.prog) [.yl 900,.agg (cP c (2^d))] [(900,.lp r0 [(18,.fn (.func 149) [.rp (cP b (2^(d+1)))]),(7,.ptr 7 0 0),(2,.rp [(.fn (.func 73) [.rp [.rs 2 (sp.map cSp)],.rp [.int .i64 z,.rs 5 (lv.map cLf),.rs 1 (hd.map cS)],.rp [.fn (.func 119) [.rp [.rs 5 (ls.map cLf)]]]])])]),(7,.cells 47 1 [[.sl 903 0 (l).length]] false),(903,.cells 9 1 ((l).map cS) true)] (.bool true) [(900,.lp r0 [(18,.fn (.func 149) [.rp (cP b (2^(d+1)))]),(7,.ptr 7 0 0),(2,.rp [(.fn (.func 73) [.rp [.rs 2 (sp.map cSp)],.rp [.int .i64 z,.rs 5 (lv.map cLf),.rs 1 (hd.map cS)],.rp [.fn (.func 119) [.rp [.rs 5 (ls.map cLf)]]]])])]),(7,.cells 47 1 [[.sl 25 0 (l++[Qw kn d c]).length]] false),(25,.cells 9 1 ((l++[Qw kn d c]).map cS) true),(903,.dead)] true:=by
 have:=J9 (P:=Tryz.prog) (F:=[(18,.fn (.func 149) [.rp (cP b (2^(d+1)))]),(7,.ptr 7 0 0),(2,.rp [(.fn (.func 73) [.rp [.rs 2 (sp.map cSp)],.rp [.int .i64 z,.rs 5 (lv.map cLf),.rs 1 (hd.map cS)],.rp [.fn (.func 119) [.rp [.rs 5 (ls.map cLf)]]]])])]) (N:=33) (x:=as69) (y:=bd69) h.ca h.cb (li:=900) (ps:=[19]) (vs:=[.agg (cP c (2^d))]) (J:=[(7,.cells 47 1 [[.sl 903 0 (l).length]] false),(903,.cells 9 1 ((l).map cS) true)]) (J1:=[(7,.cells 47 1 [[.sl 903 0 (l).length]] false),(903,.cells 9 1 ((l).map cS) true),(8,.cells 110 2 [cP c (2^d)] true)]) (J':=[(7,.cells 47 1 [[.sl 25 0 (l++[Qw kn d c]).length]] false),(25,.cells 9 1 ((l++[Qw kn d c]).map cS) true),(903,.dead)]) (Fb:=[(8,.ptr 8 0 0),(7,.ptr 7 0 0),(2,.rp [(.fn (.func 73) [.rp [.rs 2 (sp.map cSp)],.rp [.int .i64 z,.rs 5 (lv.map cLf),.rs 1 (hd.map cS)],.rp [.fn (.func 119) [.rp [.rs 5 (ls.map cLf)]]]])])]) (Z0:=[900,7,903]) .normal none (.inl ⟨rfl,rfl⟩)
  rfl rfl (fun i hi=>Q7.1 hi) (by simp) (fun i h=>Q7.2 h) (fun i hi=>Q7.1 (by simp [Qf] at hi ⊢; omega)) h.state h.params rfl rfl h.size (fun t v h=>get_mem h) (fun lb o=>as69w2 sp z lv hd ls kn d b c l hc hl o lb) (fun lb o=>bd69w2 sp z lv hd ls kn d b c l hc hl ih o lb)
 rw [rec_same h.state h.pending] at this
 exact this
theorem vc149d2 (sp:List (Nat×Nat)) (z:Int) (lv:List Lf) (hd:List (List Int)) (ls:List Lf) (kn:Nat->Nat->Option (List Int)) (d b:Nat) (hb:b+2^(d+1)<=64) (r0:Loop) (hy:∀ (c:Nat) (l:List (List Int)),c+2^d<=64->l.length<=1->FCg (XM Tryz.prog) [.yl 900,.agg (cP c (2^d))] [(900,.lp r0 [(18,.fn (.func 149) [.rp (cP b (2^(d+1)))]),(7,.ptr 7 0 0),(2,.rp [(.fn (.func 73) [.rp [.rs 2 (sp.map cSp)],.rp [.int .i64 z,.rs 5 (lv.map cLf),.rs 1 (hd.map cS)],.rp [.fn (.func 119) [.rp [.rs 5 (ls.map cLf)]]]])])]),(7,.cells 47 1 [[.sl 903 0 (l).length]] false),(903,.cells 9 1 ((l).map cS) true)] (.bool true) [(900,.lp r0 [(18,.fn (.func 149) [.rp (cP b (2^(d+1)))]),(7,.ptr 7 0 0),(2,.rp [(.fn (.func 73) [.rp [.rs 2 (sp.map cSp)],.rp [.int .i64 z,.rs 5 (lv.map cLf),.rs 1 (hd.map cS)],.rp [.fn (.func 119) [.rp [.rs 5 (ls.map cLf)]]]])])]),(7,.cells 47 1 [[.sl 25 0 (l++[Qw kn d c]).length]] false),(25,.cells 9 1 ((l++[Qw kn d c]).map cS) true),(903,.dead)] true):FC Tryz.prog 149 [.yl 900,.rp (cP b (2^(d+1)))] [(900,.lp r0 [(18,.fn (.func 149) [.rp (cP b (2^(d+1)))]),(7,.ptr 7 0 0),(2,.rp [(.fn (.func 73) [.rp [.rs 2 (sp.map cSp)],.rp [.int .i64 z,.rs 5 (lv.map cLf),.rs 1 (hd.map cS)],.rp [.fn (.func 119) [.rp [.rs 5 (ls.map cLf)]]]])])]),(7,.cells 47 1 [[.sl 901 0 (([]:List (List Int))).length]] false),(901,.cells 9 1 ((([]:List (List Int))).map cS) true)] (.tup []) [(900,.lp r0 [(18,.fn (.func 149) [.rp (cP b (2^(d+1)))]),(7,.ptr 7 0 0),(2,.rp [(.fn (.func 73) [.rp [.rs 2 (sp.map cSp)],.rp [.int .i64 z,.rs 5 (lv.map cLf),.rs 1 (hd.map cS)],.rp [.fn (.func 119) [.rp [.rs 5 (ls.map cLf)]]]])])]),(7,.cells 47 1 [[.sl 903 0 (([]++[Qw kn d b]++[Qw kn d (b+2^d)]:List (List Int))).length]] false),(903,.cells 9 1 ((([]++[Qw kn d b]++[Qw kn d (b+2^d)]:List (List Int))).map cS) true),(901,.dead)] true:=by
 have hpw:=pow2 d
 refine Qj (nt:=21) Tryz.func149 rfl rfl mcOkv149 (nL rfl) ?_
 delta mcv149
 refine aw_post (gA 4 rfl (Xm rfl rfl rfl (by decide) (quo2W hpw (by omega)) (gR 3 rfl (QE (F0:=[(0,.yl 900),(1,.rp (cP b (2^(d+1)))),(3,iv ((2^d:Nat):Int))]) (H0:=[(900,.lp r0 [(18,.fn (.func 149) [.rp (cP b (2^(d+1)))]),(7,.ptr 7 0 0),(2,.rp [(.fn (.func 73) [.rp [.rs 2 (sp.map cSp)],.rp [.int .i64 z,.rs 5 (lv.map cLf),.rs 1 (hd.map cS)],.rp [.fn (.func 119) [.rp [.rs 5 (ls.map cLf)]]]])])]),(7,.cells 47 1 [[.sl 903 0 (([]:List (List Int))).length]] false),(903,.cells 9 1 ((([]:List (List Int))).map cS) true),(901,.dead)]) (Weak.trans (F1:=[(0,.yl 900),(1,.rp (cP b (2^(d+1)))),(3,iv ((2^d:Nat):Int))]) (H1:=[(900,.lp r0 [(18,.fn (.func 149) [.rp (cP b (2^(d+1)))]),(7,.ptr 7 0 0),(2,.rp [(.fn (.func 73) [.rp [.rs 2 (sp.map cSp)],.rp [.int .i64 z,.rs 5 (lv.map cLf),.rs 1 (hd.map cS)],.rp [.fn (.func 119) [.rp [.rs 5 (ls.map cLf)]]]])])]),(7,.cells 47 1 [[.sl 901 0 (([]:List (List Int))).length]] false),(901,.cells 9 1 ((([]:List (List Int))).map cS) true)]) (Qa (Qb rfl rfl) (.keep (rfl) rfl (.keep (rfl) rfl (.keep (rfl) rfl (.nil)))) (fun i hi=>by simp [Qf] at hi ⊢; omega)) (Weak.trans (F1:=[(0,.yl 900),(1,.rp (cP b (2^(d+1)))),(3,iv ((2^d:Nat):Int))]) (Qt (i:=901) (i':=903) (k:=7) rfl rfl (.cons rfl (.same _) (.cons rfl (.same _) (.cons rfl (.same _) (.nil)))) (by decide) rfl (.sl _ _)) (Qa (Qb rfl rfl) (.keep (rfl) rfl (.keep (rfl) rfl (.keep (rfl) rfl (.keep (rfl) rfl (.nil))))) (fun i hi=>by simp [Qf] at hi ⊢; omega)))) (gK 6 rfl (JG [(900,.lp r0 [(18,.fn (.func 149) [.rp (cP b (2^(d+1)))]),(7,.ptr 7 0 0),(2,.rp [(.fn (.func 73) [.rp [.rs 2 (sp.map cSp)],.rp [.int .i64 z,.rs 5 (lv.map cLf),.rs 1 (hd.map cS)],.rp [.fn (.func 119) [.rp [.rs 5 (ls.map cLf)]]]])])]),(7,.cells 47 1 [[.sl 903 0 (([]:List (List Int))).length]] false),(903,.cells 9 1 ((([]:List (List Int))).map cS) true)] rfl rfl rfl (hy b [] (by omega) (by simp)) (.cons (Qd rfl) (.cons (Qd rfl) (.nil))) (.cons rfl (.cons rfl (.cons rfl (.nil)))) rfl rfl rfl (gR 2 rfl (QE (F0:=[(0,.yl 900),(1,.rp (cP b (2^(d+1)))),(3,iv ((2^d:Nat):Int))]) (H0:=[(900,.lp r0 [(18,.fn (.func 149) [.rp (cP b (2^(d+1)))]),(7,.ptr 7 0 0),(2,.rp [(.fn (.func 73) [.rp [.rs 2 (sp.map cSp)],.rp [.int .i64 z,.rs 5 (lv.map cLf),.rs 1 (hd.map cS)],.rp [.fn (.func 119) [.rp [.rs 5 (ls.map cLf)]]]])])]),(7,.cells 47 1 [[.sl 903 0 (([]++[Qw kn d b]:List (List Int))).length]] false),(903,.cells 9 1 ((([]++[Qw kn d b]:List (List Int))).map cS) true),(901,.dead)]) (Weak.trans (F1:=[(0,.yl 900),(1,.rp (cP b (2^(d+1)))),(3,iv ((2^d:Nat):Int))]) (H1:=[(900,.lp r0 [(18,.fn (.func 149) [.rp (cP b (2^(d+1)))]),(7,.ptr 7 0 0),(2,.rp [(.fn (.func 73) [.rp [.rs 2 (sp.map cSp)],.rp [.int .i64 z,.rs 5 (lv.map cLf),.rs 1 (hd.map cS)],.rp [.fn (.func 119) [.rp [.rs 5 (ls.map cLf)]]]])])]),(7,.cells 47 1 [[.sl 25 0 (([]++[Qw kn d b]:List (List Int))).length]] false),(25,.cells 9 1 ((([]++[Qw kn d b]:List (List Int))).map cS) true),(901,.dead)]) (Qa (Qb rfl rfl) (.keep (rfl) rfl (.keep (rfl) rfl (.keep (rfl) rfl (.keep (rfl) rfl (.nil))))) (fun i hi=>by simp [Qf] at hi ⊢; omega)) (Weak.trans (F1:=[(0,.yl 900),(1,.rp (cP b (2^(d+1)))),(3,iv ((2^d:Nat):Int))]) (Qt (i:=25) (i':=903) (k:=7) rfl rfl (.cons rfl (.same _) (.cons rfl (.same _) (.cons rfl (.same _) (.nil)))) (by decide) rfl (.sl _ _)) (Qa (Qb rfl rfl) (.keep (rfl) rfl (.keep (rfl) rfl (.keep (rfl) rfl (.keep (rfl) rfl (.nil))))) (fun i hi=>by simp [Qf] at hi ⊢; omega)))) (gK 5 rfl (QH (c:=((b+2^d:Nat):Int)) rfl rfl rfl (addNW (by omega)) (gR 2 rfl ?_)))))))))))
 refine JG [(900,.lp r0 [(18,.fn (.func 149) [.rp (cP b (2^(d+1)))]),(7,.ptr 7 0 0),(2,.rp [(.fn (.func 73) [.rp [.rs 2 (sp.map cSp)],.rp [.int .i64 z,.rs 5 (lv.map cLf),.rs 1 (hd.map cS)],.rp [.fn (.func 119) [.rp [.rs 5 (ls.map cLf)]]]])])]),(7,.cells 47 1 [[.sl 903 0 (([]++[Qw kn d b]:List (List Int))).length]] false),(903,.cells 9 1 ((([]++[Qw kn d b]:List (List Int))).map cS) true)] rfl rfl rfl (hy (b+2^d) ([]++[Qw kn d b]:List (List Int)) (by omega) (by simp)) (.cons (Qd rfl) (.cons (Qd rfl) (.nil))) (.cons rfl (.cons rfl (.cons rfl (.nil)))) rfl rfl rfl (gR 1 rfl ?_)
 exact Qk <| ⟨[],[(900,.lp r0 [(18,.fn (.func 149) [.rp (cP b (2^(d+1)))]),(7,.ptr 7 0 0),(2,.rp [(.fn (.func 73) [.rp [.rs 2 (sp.map cSp)],.rp [.int .i64 z,.rs 5 (lv.map cLf),.rs 1 (hd.map cS)],.rp [.fn (.func 119) [.rp [.rs 5 (ls.map cLf)]]]])])]),(7,.cells 47 1 [[.sl 903 0 (([]++[Qw kn d b]++[Qw kn d (b+2^d)]:List (List Int))).length]] false),(903,.cells 9 1 ((([]++[Qw kn d b]++[Qw kn d (b+2^d)]:List (List Int))).map cS) true),(901,.dead)],(Weak.trans (F1:=[]) (H1:=[(900,.lp r0 [(18,.fn (.func 149) [.rp (cP b (2^(d+1)))]),(7,.ptr 7 0 0),(2,.rp [(.fn (.func 73) [.rp [.rs 2 (sp.map cSp)],.rp [.int .i64 z,.rs 5 (lv.map cLf),.rs 1 (hd.map cS)],.rp [.fn (.func 119) [.rp [.rs 5 (ls.map cLf)]]]])])]),(7,.cells 47 1 [[.sl 25 0 (([]++[Qw kn d b]++[Qw kn d (b+2^d)]:List (List Int))).length]] false),(25,.cells 9 1 ((([]++[Qw kn d b]++[Qw kn d (b+2^d)]:List (List Int))).map cS) true),(901,.dead)]) (Qa (.nil) (.keep (rfl) rfl (.keep (rfl) rfl (.keep (rfl) rfl (.keep (rfl) rfl (.nil))))) (fun i hi=>by simp [Qf] at hi ⊢; omega)) (Weak.trans (F1:=[]) (Qt (i:=25) (i':=903) (k:=7) rfl rfl (.nil) (by decide) rfl (.sl _ _)) (Qa (.nil) (.keep (rfl) rfl (.keep (rfl) rfl (.keep (rfl) rfl (.keep (rfl) rfl (.nil))))) (fun i hi=>by simp [Qf] at hi ⊢; omega)))),XL (.inl rfl) rfl sm (.keep (rfl) rfl (.keep (rfl) rfl (.keep (rfl) rfl (.keep (rfl) rfl (.nil))))) (.cons rfl rfl rfl (.cons rfl rfl rfl (.dead rfl rfl (.nil))))⟩
theorem vc69_02 (sp:List (Nat×Nat)) (z:Int) (lv:List Lf) (hd:List (List Int)) (ls:List Lf) (kn:Nat->Nat->Option (List Int)) (hkn:KnOK kn) (hkf:∀ b m,b+m<=64->FC Tryz.prog 73 [.agg (cP b m),.rp [.rs 2 (sp.map cSp)],.rp [.int .i64 z,.rs 5 (lv.map cLf),.rs 1 (hd.map cS)],.rp [.fn (.func 119) [.rp [.rs 5 (ls.map cLf)]]]] [] (.tup [.str (Qm ((kn (b) (m)).getD [])),.bool (kn (b) (m)).isSome]) [] false) (b:Nat) (hb:b+2^0<=64):FC Tryz.prog 69 [(.fn (.func 73) [.rp [.rs 2 (sp.map cSp)],.rp [.int .i64 z,.rs 5 (lv.map cLf),.rs 1 (hd.map cS)],.rp [.fn (.func 119) [.rp [.rs 5 (ls.map cLf)]]]]),.agg (cP b (2^0))] [] (.str (Qm (Qw kn 0 b))) [] false:=by
 have hs:=hkn.one b
 refine Qj (nt:=33) Tryz.func69 rfl rfl mcOkv69 (nL rfl) ?_
 delta mcv69
 refine gA 11 rfl (Xb [] rfl rfl (by kernel_rfl) rfl (JI (hkf b (2^(0)) (by omega))) (.cons (Qd rfl) (.cons (Qd rfl) (.cons (Qd rfl) (.cons (Qd rfl) (.nil))))) .nil rfl rfl rfl (gR 3 rfl ?_))
 rw [show kn b (2^0)=kn b 1 from rfl,hs]
 refine gI 14 rfl ?_
 exact Qk <| Qc rfl rfl rfl (.inr rfl)
theorem vc69_s2 (sp:List (Nat×Nat)) (z:Int) (lv:List Lf) (hd:List (List Int)) (ls:List Lf) (kn:Nat->Nat->Option (List Int)) (hkn:KnOK kn) (hkf:∀ b m,b+m<=64->FC Tryz.prog 73 [.agg (cP b m),.rp [.rs 2 (sp.map cSp)],.rp [.int .i64 z,.rs 5 (lv.map cLf),.rs 1 (hd.map cS)],.rp [.fn (.func 119) [.rp [.rs 5 (ls.map cLf)]]]] [] (.tup [.str (Qm ((kn (b) (m)).getD [])),.bool (kn (b) (m)).isSome]) [] false) (d b:Nat) (hb:b+2^(d+1)<=64) (ih:∀ c,c+2^d<=64->FC Tryz.prog 69 [(.fn (.func 73) [.rp [.rs 2 (sp.map cSp)],.rp [.int .i64 z,.rs 5 (lv.map cLf),.rs 1 (hd.map cS)],.rp [.fn (.func 119) [.rp [.rs 5 (ls.map cLf)]]]]),.agg (cP c (2^d))] [] (.str (Qm (Qw kn d c))) [] false):FC Tryz.prog 69 [(.fn (.func 73) [.rp [.rs 2 (sp.map cSp)],.rp [.int .i64 z,.rs 5 (lv.map cLf),.rs 1 (hd.map cS)],.rp [.fn (.func 119) [.rp [.rs 5 (ls.map cLf)]]]]),.agg (cP b (2^(d+1)))] [] (.str (Qm (Qw kn (d+1) b))) [] false:=by
 have h8a:=hkn.tree d b
 have h8b:=hkn.tree d (b+2^d)
 refine Qj (nt:=33) Tryz.func69 rfl rfl mcOkv69 (nL rfl) ?_
 delta mcv69
 refine gA 11 rfl (Xb [] rfl rfl (by kernel_rfl) rfl (JI (hkf b (2^(d+1)) (by omega))) (.cons (Qd rfl) (.cons (Qd rfl) (.cons (Qd rfl) (.cons (Qd rfl) (.nil))))) .nil rfl rfl rfl (gR 3 rfl ?_))
 cases h14:(kn b (2^(d+1))).isSome
 ·skip
  refine gI 17 rfl (Q1 [] rfl rfl (vc118 (b,2^(d+1))) (.cons (Qd rfl) .nil) .nil rfl rfl rfl (gR 2 rfl (QE (F0:=[(18,.fn (.func 149) [.rp (cP b (2^(d+1)))]),(7,.ptr 7 0 0),(2,.rp [(.fn (.func 73) [.rp [.rs 2 (sp.map cSp)],.rp [.int .i64 z,.rs 5 (lv.map cLf),.rs 1 (hd.map cS)],.rp [.fn (.func 119) [.rp [.rs 5 (ls.map cLf)]]]])])]) (H0:=[(7,.cells 47 1 [[.sl 901 0 (([]:List (List Int))).length]] false),(901,.cells 9 1 ((([]:List (List Int))).map cS) true)]) (Weak.trans (F1:=[(18,.fn (.func 149) [.rp (cP b (2^(d+1)))]),(7,.ptr 7 0 0),(2,.rp [(.fn (.func 73) [.rp [.rs 2 (sp.map cSp)],.rp [.int .i64 z,.rs 5 (lv.map cLf),.rs 1 (hd.map cS)],.rp [.fn (.func 119) [.rp [.rs 5 (ls.map cLf)]]]])])]) (H1:=[(7,.cells 47 1 [[.nils]] true)]) (Qa (.cs (.cs (.cons rfl (Xq rfl rfl (.inl rfl)) (.nil)))) (.keep rfl rfl .nil) nz) (Weak.trans (F1:=[(18,.fn (.func 149) [.rp (cP b (2^(d+1)))]),(7,.ptr 7 0 0),(2,.rp [(.fn (.func 73) [.rp [.rs 2 (sp.map cSp)],.rp [.int .i64 z,.rs 5 (lv.map cLf),.rs 1 (hd.map cS)],.rp [.fn (.func 119) [.rp [.rs 5 (ls.map cLf)]]]])])]) (weak_seed (i:=901) (k:=7) (e:=47) (z:=1) (e2:=9) (z2:=1) (fl:=true) (fl2:=true) rfl rfl) (Qa (Qb rfl rfl) (.keep (rfl) rfl (.keep (rfl) rfl (.nil))) (fun i h=>by cases h)))) (aw_rfunc 900 [(7,.cells 47 1 [[.sl 901 0 (([]:List (List Int))).length]] false),(901,.cells 9 1 ((([]:List (List Int))).map cS) true)] [(7,.cells 47 1 [[.sl 903 0 (([]++[Qw kn d b]++[Qw kn d (b+2^d)]:List (List Int))).length]] false),(903,.cells 9 1 ((([]++[Qw kn d b]++[Qw kn d (b+2^d)]:List (List Int))).map cS) true),(901,.dead)] (.inl ⟨rfl,rfl⟩) rfl (by kernel_rfl) rfl rfl rfl (.cons rfl (.cons rfl (.nil))) rfl rfl rfl rfl (fun r0 hrec=>⟨r0,(by rw [hrec.state]; intro h; cases h),hrec.pending,vc149d2 sp z lv hd ls kn d b hb r0 (fun c l hc hl=>y69_2 sp z lv hd ls kn d b c l hc hl ih r0 hrec)⟩) (gP 3 rfl (XS rfl rfl rfl rfl (by decide) (by simp) (gR 2 rfl (XS rfl rfl rfl rfl (by decide) (by simp) (gR 1 rfl (cN rfl rfl (vc43 (Qw kn d b) (Qw kn d (b+2^d)) h8a h8b) (gR 1 rfl ?_)))))))))))
  refine QJ (by kernel_rfl) (gP 1 rfl ?_)
  rw [treeD_f h14]
  exact Qk <| Qc rfl rfl rfl (.inr rfl)
 ·skip
  refine gI 14 rfl ?_
  rw [treeD_t h14]
  exact Qk <| Qc rfl rfl rfl (.inr rfl)
theorem vc69_2 (sp:List (Nat×Nat)) (z:Int) (lv:List Lf) (hd:List (List Int)) (ls:List Lf) (kn:Nat->Nat->Option (List Int)) (hkn:KnOK kn) (hkf:∀ b m,b+m<=64->FC Tryz.prog 73 [.agg (cP b m),.rp [.rs 2 (sp.map cSp)],.rp [.int .i64 z,.rs 5 (lv.map cLf),.rs 1 (hd.map cS)],.rp [.fn (.func 119) [.rp [.rs 5 (ls.map cLf)]]]] [] (.tup [.str (Qm ((kn (b) (m)).getD [])),.bool (kn (b) (m)).isSome]) [] false):∀ (d b:Nat),b+2^d<=64->FC Tryz.prog 69 [(.fn (.func 73) [.rp [.rs 2 (sp.map cSp)],.rp [.int .i64 z,.rs 5 (lv.map cLf),.rs 1 (hd.map cS)],.rp [.fn (.func 119) [.rp [.rs 5 (ls.map cLf)]]]]),.agg (cP b (2^d))] [] (.str (Qm (Qw kn d b))) [] false
 | 0,b,hb=>vc69_02 sp z lv hd ls kn hkn hkf b hb
 | d+1,b,hb=>vc69_s2 sp z lv hd ls kn hkn hkf d b hb fun c hc=>vc69_2 sp z lv hd ls kn hkn hkf d c hc
end Go.Proofs.YthfhaoogcpfboaaGreat
namespace Go.Proofs.YthfhaoogcpfboaaGreat
open Go.RowKit
set_option maxRecDepth 100000
set_option linter.unusedVariables false
theorem root_some {z:Int} {lv:List Lf} {hd:List (List Int)} {sp:List (Nat×Nat)} (h:fmS z lv hd=some sp):rootOfS z lv hd=some (Qw (knR sp hd (JT z.toNat lv)) (lg z.toNat) 0):=by unfold rootOfS; rw [h]; rfl
theorem root_none {z:Int} {lv:List Lf} {hd:List (List Int)} (h:(fmS z lv hd).isSome=false):rootOfS z lv hd=none:=by
 unfold rootOfS
 cases hf:fmS z lv hd with
 | none=>rfl
 | some x=>rw [hf] at h; cases h
structure ShOK (lv:List Lf) (hd:List (List Int)):Prop where
 nl:lv.length<=64
 nh:hd.length<=64
 ok:∀ x∈lv,x.OK
 b:∀ d∈hd,B8 d/\d.length<=LIM
def mcv27:MC:=(.seq (.reg [oN 1 (.box 55 3 (.t 0)) [],oN 2 (.mv (.c (.str (Qm [])))) [],oN 3 (.mv (.c (.bool false))) [1]] false) (.seq (.reg [oN 12 (.ld true 3 (.t 1)) [],oN 13 (.call 72 [(.t 12)]) [0],oM 11 13 [1],oN 14 (.ext (.t 11) 0) [2],oN 15 (.ext (.t 11) 1) [2],oN 4 (.alloc 107 1 [.nils]) [],⟨none,(.st 1 (.t 4) (.t 14)),none,[5,3,1,0,1,2,3,5]⟩,oM 5 15 [4,6,0,1,2,3,4,5,6]] false) (.seq (.seq (.reg [oM 16 5 [],oN 17 (.un .not (.t 16)) [0]] false) (.cond (.t 17) (.seq (.reg [oN 2 (.mv (.c (.str (Qm [])))) [],oN 3 (.mv (.c (.bool false))) [0,0]] false) .ret) .skip)) (.seq (.reg [oA 18 0 1 [],oD 19 1 18 [0],oN 20 (.mksl 51 5 40 [(.int .i64 0),(.int .i64 0),(.bool false),(.bool false),(.str (Qm []))] (.t 19) (.t 19)) [1,1],oM 6 20 [2,0,1,2]] false) (.seq (.seq (.reg [oA 21 1 1 [],oD 22 1 21 [0],oN 23 (.len (.t 22)) [1],oN 24 (.mv (.c (.int .i64 0))) []] false) (.block 0 (.loop (.seq (.reg [oN 25 (.bin .lss (.t 24) (.t 23)) []] false) (.seq (.cond (.t 25) .skip (.exit 0)) (.seq (.block 1 (.seq (.reg [oN 26 (.ixsl 5 (.t 22) (.t 24)) [],oN 27 (.ld true 5 (.t 26)) [0],oN 8 (.alloc 51 5 [(.int .i64 0),(.int .i64 0),(.bool false),(.bool false),(.str (Qm []))]) [],⟨none,(.st 5 (.t 8) (.t 27)),none,[2,1,0,1,2]⟩] false) (.reg [oM 28 6 [],oA 29 0 8 [],oD 30 1 29 [1],oN 31 (.ld true 5 (.t 8)) [],oN 32 (.ixsl 5 (.t 28) (.t 30)) [0,2,0,1,2,3],⟨none,(.st 5 (.t 32) (.t 31)),none,[4,3,0,1,2,3]⟩] false))) (.reg [oN 33 (.bin .add (.t 24) (.c (.int .i64 1))) [],oM 24 33 [0]] false))))))) (.seq (.reg [oM 34 6 [],oN 35 (.call 68 [(.t 34)]) [0],oN 9 (.alloc 112 1 [.nilf]) [],⟨none,(.st 1 (.t 9) (.t 35)),none,[2,1,1,0,1,2]⟩] false) (.seq (.reg [oN 36 (.mkfn (.func 73) [(.t 4),(.t 1),(.t 9)]) [],oM 10 36 [0,0]] false) (.seq (.reg [oM 37 10 [],oA 38 0 1 [],oD 39 1 38 [1],oN 40 (.call 75 [(.t 39)]) [2],oN 41 (.call 69 [(.t 37),(.t 40)]) [0,3,3],oM 2 41 [4,4,0,1,2,3,4],oN 3 (.mv (.c (.bool true))) [5,0,1,2,3,4,5]] false) .ret))))))))
theorem mcOkv27:okM Tryz.prog Tryz.f27 42=some mcv27:=by kernel_rfl
theorem vc27 (z:Int) (lv:List Lf) (hd:List (List Int)) (h:ShOK lv hd):FC Tryz.prog 27 [.agg [.int .i64 z,.rs 5 (lv.map cLf),.rs 1 (hd.map cS)]] [] (.tup [.str (Qm ((rootOfS z lv hd).getD [])),.bool (rootOfS z lv hd).isSome]) [] false:=by
 have hnl:=h.nl
 refine Qj (nt:=42) Tryz.func27 rfl rfl mcOkv27 (nL rfl) ?_
 delta mcv27
 refine gA 9 rfl (Q1 [] rfl rfl (vc72 z lv hd h.nl h.nh) (.cons (Qd rfl) .nil) .nil rfl rfl rfl (gR 3 rfl ?_))
 cases h15:(fmS z lv hd).isSome
 ·skip
  refine gI 17 rfl ?_
  rw [root_none h15]
  exact Qk <| Qc rfl rfl rfl (.inr rfl)
 ·skip
  refine gI 13 rfl ?_
  obtain ⟨sp,hsp⟩:=Option.isSome_iff_exists.1 h15
  rw [hsp]
  obtain ⟨hz,hinc,hspd,hsl,h8⟩:=fm_parts hsp
  have hzn:((z.toNat:Nat):Int)=z:=by omega
  refine gI 3 rfl (rs_mksl (n:=z) rfl rfl rfl rfl rfl (by omega) (by omega) (by omega) (gR 7 rfl (Qh rfl rfl (gR 3 rfl ?_))))
  refine Qr (α:=Nat) (fun k=>lv.length-k) (fun k=>[(1,.ptr 1 0 0),(4,.ptr 4 0 0),(6,.sl 20 0 z.toNat),(22,.rs 5 (lv.map cLf)),(23,iv (lv.length:Int)),(24,iv (((k):Nat):Int))]) (fun k=>[(1,.cells 55 3 [[.int .i64 z,.rs 5 (lv.map cLf),.rs 1 (hd.map cS)]] true),(4,.cells 107 1 [[.rs 2 (sp.map cSp)]] true),(20,.cells 51 5 ((JT z.toNat (lv.take (k))).map cLf) true)]) (fun k=>k<=lv.length) 0 (by omega)
   (Qa (Qb rfl rfl) (.keep (rfl) rfl (.keep (rfl) rfl (.keep (by rw [List.take_zero,← fill_0]; rfl) rfl (.nil)))) (fun i h=>by cases h)) ?_
  intro k hk
  refine gT 5 rfl (Qe rfl (fun h25=>?_) (fun h25=>?_))
  ·replace h25:=of_decide_eq_true h25
   refine gK 5 rfl ?_
   obtain ⟨x,hxk,hxm⟩:=Qo (L:=lv) (k:=k) (by omega)
   have hx0:=incF_bd hinc x.ix (List.mem_map_of_mem hxm)
   refine Qp (f:=cLf) (y:=x) rfl rfl rfl (by omega) hxk (gR 0 rfl (QG (cs:=cLf x) rfl rfl (nL rfl) rfl (gR 8 rfl (Xf rfl rfl rfl rfl hx0.1 (by omega) (gR 0 rfl (rs_st_m (f:=cLf) (xs:=JT z.toNat (lv.take k)) (t:=x.ix.toNat) (v:=x) (fl':=true) rfl rfl rfl rfl (by rw [fill_len]; omega) rfl rfl (nL rfl) rfl rfl (gR 2 rfl (Qg rfl rfl rfl (by omega) (gR 2 rfl ?_)))))))))
   exact Q8 <| ⟨k+1,by omega,by omega,Qa (Qb rfl rfl) (.keep (rfl) rfl (.keep (rfl) rfl (.keep (by rw [fill_succ hxk]; rfl) rfl (.nil)))) (fun i h=>by cases h)⟩
  ·replace h25:=of_decide_eq_false h25
   refine gK 2 rfl ?_
   obtain rfl:k=lv.length:=by omega
   rw [List.take_of_length_le (Nat.le_refl _)]
   refine QE (F0:=[(1,.ptr 1 0 0),(4,.ptr 4 0 0),(6,.rs 5 ((JT z.toNat lv).map cLf))]) (H0:=[(1,.cells 55 3 [[.int .i64 z,.rs 5 (lv.map cLf),.rs 1 (hd.map cS)]] true),(4,.cells 107 1 [[.rs 2 (sp.map cSp)]] true)]) (Qa (.cs (.cs (.cons rfl (Xr (f:=cLf) (xs:=JT z.toNat lv) rfl rfl (fill_len _ _) (fun _=>rfl)) (.nil)))) (.keep (rfl) rfl (.keep (rfl) rfl (.nil))) fun i h=>by cases h) (gK 2 rfl (Q1 [] rfl rfl (vc68 (JT z.toNat lv)) (.cons (Qd rfl) .nil) .nil rfl rfl rfl (gR 4 rfl (QE (F0:=[(4,.rp [.rs 2 (sp.map cSp)]),(1,.rp [.int .i64 z,.rs 5 (lv.map cLf),.rs 1 (hd.map cS)]),(9,.rp [(.fn (.func 119) [.rp [.rs 5 ((JT z.toNat lv).map cLf)]])])]) (H0:=[]) (Qa (.cons rfl (Xq rfl rfl (.inl rfl)) (.cons rfl (Xq rfl rfl (.inl rfl)) (.cons rfl (Xq rfl rfl (.inl rfl)) (.nil)))) (.nil) (fun i h=>by cases h)) (gK 9 rfl ?_)))))
   have hlg:=lg16 (n:=z.toNat) (by omega)
   refine Qx [] rfl rfl (vc75 z.toNat (by omega)) (.cons (hv_int hzn.symm) (.nil)) rfl (gR 0 rfl (cN rfl rfl (vc69_2 sp z lv hd (JT z.toNat lv) (knR sp hd (JT z.toNat lv)) (knR_ok (JT z.toNat lv) h.b hsl) (fun b m _=>vc73 sp z lv hd (JT z.toNat lv) (fill_ok (by omega) h.ok) (by have:=h.nh; omega) hsl b m) (lg z.toNat) 0 (by omega)) (gR 4 rfl ?_)))
   rw [root_some hsp]
   exact Qk <| Qc rfl rfl rfl (.inr rfl)
end Go.Proofs.YthfhaoogcpfboaaGreat
namespace Go.Proofs.YthfhaoogcpfboaaGreat
open Go.RowKit
set_option maxRecDepth 100000
set_option linter.unusedVariables false
theorem eq_hit {α:Type} {a b:List α} {k:Nat} {x y:α} (hx:a[k]?=some x) (hy:b[k]?=some y) (h:x≠y):a≠b:=fun e=>h (by
 rw [e,hy] at hx
 injection hx with hx
 exact hx.symm)
theorem eq_end {α:Type} {a b:List α} {k:Nat} (h:a.take k=b.take k) (ha:a.length<=k) (hb:b.length<=k):a=b:=by
 rwa [List.take_of_length_le ha,List.take_of_length_le hb] at h
theorem eq_step {α:Type} {a b:List α} {k:Nat} {x y:α} (h:a.take k=b.take k) (hx:a[k]?=some x) (hy:b[k]?=some y) (e:x=y):a.take (k+1)=b.take (k+1):=by
 rw [Qv hx,Qv hy,h,e]
def allZ (p:Lf->Lf->Bool):List Lf->List Lf->Bool
 | x::l,y::m=>p x y&&allZ p l m
 | _,_=>true
theorem allZ_at {p:Lf->Lf->Bool} {l m:List Lf} {k:Nat} {x y:Lf} (hx:l[k]?=some x) (hy:m[k]?=some y):allZ p (l.drop k) (m.drop k)=(p x y&&allZ p (l.drop (k+1)) (m.drop (k+1))):=by
 obtain ⟨h1,e1⟩:=List.getElem?_eq_some_iff.1 hx
 obtain ⟨h2,e2⟩:=List.getElem?_eq_some_iff.1 hy
 rw [List.drop_eq_getElem_cons h1,List.drop_eq_getElem_cons h2,e1,e2]; rfl
theorem allZ_end {p:Lf->Lf->Bool} {l m:List Lf} {k:Nat} (h:l.length<=k):allZ p (l.drop k) (m.drop k)=true:=by rw [List.drop_eq_nil_of_le h]; rfl
def JW (x y:Lf):Bool:=decide (x.want=y.want)&&decide (x.salt=y.salt)
def JR (x y:Lf):Bool := !((x.sure && !y.sure)||(x.touched && !y.touched))
def JE (z:Int) (lv:List Lf) (hd:List (List Int)) (z2:Int) (lv2:List Lf) (hd2:List (List Int)):Int :=
 if ((fmS z lv hd).isSome&&(fmS z2 lv2 hd2).isSome)=false then 4 else if (decide (z=z2)&&decide (hd=hd2)&&decide (Xx lv=Xx lv2))=false then 54 else if allZ JW lv lv2=false then 1 else if allZ JR lv lv2=false then 7 else 0
section
variable {z z2:Int} {lv lv2:List Lf} {hd hd2:List (List Int)}
theorem ch_1 (h:((fmS z lv hd).isSome&&(fmS z2 lv2 hd2).isSome)=false):JE z lv hd z2 lv2 hd2=4:=if_pos h
theorem ch_2 (h:((fmS z lv hd).isSome&&(fmS z2 lv2 hd2).isSome)=true) (h2:(decide (z=z2)&&decide (hd=hd2)&&decide (Xx lv=Xx lv2))=false):JE z lv hd z2 lv2 hd2=54:=by unfold JE; rw [if_neg (by rw [h]; decide),if_pos h2]
theorem ch_3 (h:((fmS z lv hd).isSome&&(fmS z2 lv2 hd2).isSome)=true) (h2:(decide (z=z2)&&decide (hd=hd2)&&decide (Xx lv=Xx lv2))=true) (h3:allZ JW lv lv2=false):JE z lv hd z2 lv2 hd2=1:=by unfold JE; rw [if_neg (by rw [h]; decide),if_neg (by rw [h2]; decide),if_pos h3]
theorem ch_4 (h:((fmS z lv hd).isSome&&(fmS z2 lv2 hd2).isSome)=true) (h2:(decide (z=z2)&&decide (hd=hd2)&&decide (Xx lv=Xx lv2))=true) (h3:allZ JW lv lv2=true) (h4:allZ JR lv lv2=false):JE z lv hd z2 lv2 hd2=7:=by unfold JE; rw [if_neg (by rw [h]; decide),if_neg (by rw [h2]; decide),if_neg (by rw [h3]; decide),if_pos h4]
theorem ch_5 (h:((fmS z lv hd).isSome&&(fmS z2 lv2 hd2).isSome)=true) (h2:(decide (z=z2)&&decide (hd=hd2)&&decide (Xx lv=Xx lv2))=true) (h3:allZ JW lv lv2=true) (h4:allZ JR lv lv2=true):JE z lv hd z2 lv2 hd2=0:=by unfold JE; rw [if_neg (by rw [h]; decide),if_neg (by rw [h2]; decide),if_neg (by rw [h3]; decide),if_neg (by rw [h4]; decide)]
end
def mcv79:MC:=(.seq (.reg [oN 4 (.mv (.c (.bool false))) []] false) (.seq (.seq (.reg [oM 6 0 [],oN 7 (.len (.t 6)) [0],oM 8 1 [],oN 9 (.len (.t 8)) [2],oN 10 (.bin .neq (.t 7) (.t 9)) [1,3]] false) (.cond (.t 10) (.seq (.reg [oN 4 (.mv (.c (.bool false))) []] false) .ret) .skip)) (.seq (.seq (.reg [oM 11 0 [],oN 12 (.len (.t 11)) [0],oN 13 (.mv (.c (.int .i64 0))) []] false) (.block 0 (.loop (.seq (.reg [oN 14 (.bin .lss (.t 13) (.t 12)) []] false) (.seq (.cond (.t 14) .skip (.exit 0)) (.seq (.block 1 (.seq (.reg [oM 15 13 [],oM 5 15 [0,0]] false) (.seq (.reg [oM 16 0 [],oM 17 5 [],oN 18 (.ixsl 1 (.t 16) (.t 17)) [0,1],oD 19 1 18 [2],oM 20 1 [],oM 21 5 [],oN 22 (.ixsl 1 (.t 20) (.t 21)) [4,5],oD 23 1 22 [6],oN 24 (.bin .neq (.t 19) (.t 23)) [3,7]] true) (.cond (.t 24) (.seq (.reg [oN 4 (.mv (.c (.bool false))) []] false) .ret) .skip)))) (.reg [oN 25 (.bin .add (.t 13) (.c (.int .i64 1))) [],oM 13 25 [0]] false))))))) (.seq (.reg [oN 4 (.mv (.c (.bool true))) []] false) .ret))))
theorem mcOkv79:okM Tryz.prog Tryz.f79 26=some mcv79:=by kernel_rfl
theorem vc79 (a b:List Int)  (han:a.length<=4611686018427387904):FC Tryz.prog 79 [.rs 1 (a.map civ),.rs 1 (b.map civ)] [] (.bool (decide (a=b))) [] false:=by
 refine Qj (nt:=26) Tryz.func79 rfl rfl mcOkv79 (nL rfl) ?_
 delta mcv79
 refine gA 8 rfl (Qh rfl rfl (gR 1 rfl (Qh rfl rfl (gR 0 rfl (Ja rfl rfl rfl (gR 1 rfl (Qe rfl (fun h10=>?_) (fun h10=>?_))))))))
 ·replace h10:=of_decide_eq_true h10
  refine gK 5 rfl ?_
  rw [show decide (a=b)=false from decide_eq_false (fun e=>h10 (by rw [e]))]
  exact Qk <| Qc rfl rfl rfl (.inr rfl)
 ·replace h10:=of_decide_eq_false h10
  refine gK 5 rfl (Qh rfl rfl (gR 3 rfl ?_))
  refine Qr (α:=Nat) (fun k=>a.length-k) (fun k=>[(0,.rs 1 (a.map civ)),(1,.rs 1 (b.map civ)),(11,.rs 1 (a.map civ)),(12,iv (a.length:Int)),(13,iv (((k):Nat):Int))]) (fun k=>[]) (fun k=>k<=a.length/\a.take k=b.take k) 0 (⟨by omega,rfl⟩)
   (Qa (Qb rfl rfl) (.nil) (fun i h=>by cases h)) ?_
  rintro k ⟨hk,hinv⟩
  refine gT 5 rfl (Qe rfl (fun h14=>?_) (fun h14=>?_))
  ·replace h14:=of_decide_eq_true h14
   refine gK 10 rfl ?_
   obtain ⟨x,hxk,hxm⟩:=Qo (L:=a) (k:=k) (by omega)
   obtain ⟨y,hyk,hym⟩:=Qo (L:=b) (k:=k) (by omega)
   refine gI 2 rfl (Qp (f:=civ) (y:=x) rfl rfl rfl (by omega) hxk (gR 3 rfl (Qp (f:=civ) (y:=y) rfl rfl rfl (by omega) hyk (gR 1 rfl (Ja rfl rfl rfl (gR 0 rfl (QJ (by kernel_rfl) (gP 0 rfl (Qe rfl (fun h24=>?_) (fun h24=>?_))))))))))
   ·replace h24:=of_decide_eq_true h24
    refine gK 5 rfl ?_
    rw [show decide (a=b)=false from decide_eq_false (eq_hit hxk hyk h24)]
    exact Qk <| Qc rfl rfl rfl (.inr rfl)
   ·replace h24:=of_decide_eq_false h24
    refine gK 2 rfl (Qg rfl rfl rfl (by omega) (gR 2 rfl ?_))
    exact Q8 <| ⟨k+1,⟨by omega,eq_step hinv hxk hyk (Decidable.byContradiction h24)⟩,by omega,Qa (Qb rfl rfl) (.nil) (fun i h=>by cases h)⟩
  ·replace h14:=of_decide_eq_false h14
   refine gK 6 rfl ?_
   rw [show decide (a=b)=true from decide_eq_true (eq_end hinv (by omega) (by omega))]
   exact Qk <| Qc rfl rfl rfl (.inr rfl)
def mcv78:MC:=(.seq (.reg [oN 4 (.mv (.c (.bool false))) []] false) (.seq (.seq (.reg [oM 6 0 [],oN 7 (.len (.t 6)) [0],oM 8 1 [],oN 9 (.len (.t 8)) [2],oN 10 (.bin .neq (.t 7) (.t 9)) [1,3]] false) (.cond (.t 10) (.seq (.reg [oN 4 (.mv (.c (.bool false))) []] false) .ret) .skip)) (.seq (.seq (.reg [oM 11 0 [],oN 12 (.len (.t 11)) [0],oN 13 (.mv (.c (.int .i64 0))) []] false) (.block 0 (.loop (.seq (.reg [oN 14 (.bin .lss (.t 13) (.t 12)) []] false) (.seq (.cond (.t 14) .skip (.exit 0)) (.seq (.block 1 (.seq (.reg [oM 15 13 [],oM 5 15 [0,0]] false) (.seq (.reg [oM 16 0 [],oM 17 5 [],oN 18 (.ixsl 1 (.t 16) (.t 17)) [0,1],oD 19 1 18 [2],oM 20 1 [],oM 21 5 [],oN 22 (.ixsl 1 (.t 20) (.t 21)) [4,5],oD 23 1 22 [6],oN 24 (.seq true (.t 19) (.t 23)) [3,7]] true) (.cond (.t 24) (.seq (.reg [oN 4 (.mv (.c (.bool false))) []] false) .ret) .skip)))) (.reg [oN 25 (.bin .add (.t 13) (.c (.int .i64 1))) [],oM 13 25 [0]] false))))))) (.seq (.reg [oN 4 (.mv (.c (.bool true))) []] false) .ret))))
theorem mcOkv78:okM Tryz.prog Tryz.f78 26=some mcv78:=by kernel_rfl
theorem vc78 (a b:List (List Int)) (ha:∀ d∈a,B8 d) (hb:∀ d∈b,B8 d) (han:a.length<=4611686018427387904):FC Tryz.prog 78 [.rs 1 (a.map cS),.rs 1 (b.map cS)] [] (.bool (decide (a=b))) [] false:=by
 refine Qj (nt:=26) Tryz.func78 rfl rfl mcOkv78 (nL rfl) ?_
 delta mcv78
 refine gA 8 rfl (Qh rfl rfl (gR 1 rfl (Qh rfl rfl (gR 0 rfl (Ja rfl rfl rfl (gR 1 rfl (Qe rfl (fun h10=>?_) (fun h10=>?_))))))))
 ·replace h10:=of_decide_eq_true h10
  refine gK 5 rfl ?_
  rw [show decide (a=b)=false from decide_eq_false (fun e=>h10 (by rw [e]))]
  exact Qk <| Qc rfl rfl rfl (.inr rfl)
 ·replace h10:=of_decide_eq_false h10
  refine gK 5 rfl (Qh rfl rfl (gR 3 rfl ?_))
  refine Qr (α:=Nat) (fun k=>a.length-k) (fun k=>[(0,.rs 1 (a.map cS)),(1,.rs 1 (b.map cS)),(11,.rs 1 (a.map cS)),(12,iv (a.length:Int)),(13,iv (((k):Nat):Int))]) (fun k=>[]) (fun k=>k<=a.length/\a.take k=b.take k) 0 (⟨by omega,rfl⟩)
   (Qa (Qb rfl rfl) (.nil) (fun i h=>by cases h)) ?_
  rintro k ⟨hk,hinv⟩
  refine gT 5 rfl (Qe rfl (fun h14=>?_) (fun h14=>?_))
  ·replace h14:=of_decide_eq_true h14
   refine gK 10 rfl ?_
   obtain ⟨x,hxk,hxm⟩:=Qo (L:=a) (k:=k) (by omega)
   obtain ⟨y,hyk,hym⟩:=Qo (L:=b) (k:=k) (by omega)
   refine gI 2 rfl (Qp (f:=cS) (y:=x) rfl rfl rfl (by omega) hxk (gR 3 rfl (Qp (f:=cS) (y:=y) rfl rfl rfl (by omega) hyk (gR 1 rfl (rs_seq (r:=decide (x≠y)) rfl rfl rfl (ha x hxm) (hb y hym) (by by_cases e:x=y <;> simp [e]) (gR 0 rfl (QJ (by kernel_rfl) (gP 0 rfl (Qe rfl (fun h24=>?_) (fun h24=>?_))))))))))
   ·replace h24:=of_decide_eq_true h24
    refine gK 5 rfl ?_
    rw [show decide (a=b)=false from decide_eq_false (eq_hit hxk hyk h24)]
    exact Qk <| Qc rfl rfl rfl (.inr rfl)
   ·replace h24:=of_decide_eq_false h24
    refine gK 2 rfl (Qg rfl rfl rfl (by omega) (gR 2 rfl ?_))
    exact Q8 <| ⟨k+1,⟨by omega,eq_step hinv hxk hyk (Decidable.byContradiction h24)⟩,by omega,Qa (Qb rfl rfl) (.nil) (fun i h=>by cases h)⟩
  ·replace h14:=of_decide_eq_false h14
   refine gK 6 rfl ?_
   rw [show decide (a=b)=true from decide_eq_true (eq_end hinv (by omega) (by omega))]
   exact Qk <| Qc rfl rfl rfl (.inr rfl)
def mcv29:MC:=(.seq (.reg [oN 2 (.box 55 3 (.t 0)) [],oN 3 (.box 55 3 (.t 1)) [],oN 4 (.mv (.c (.int .i64 0))) []] false) (.seq (.reg [oN 16 (.ld true 3 (.t 2)) [],oN 17 (.call 72 [(.t 16)]) [0],oM 15 17 [1],oN 18 (.ext (.t 15) 0) [2],oN 19 (.ext (.t 15) 1) [2],oM 5 18 [3,1,0,1,2,3],oM 6 19 [4,5,0,1,2,3,4,5]] false) (.seq (.reg [oN 21 (.ld true 3 (.t 3)) [],oN 22 (.call 72 [(.t 21)]) [0],oM 20 22 [1],oN 23 (.ext (.t 20) 0) [2],oN 24 (.ext (.t 20) 1) [2],oM 7 23 [3,1,0,1,2,3],oM 8 24 [4,5,0,1,2,3,4,5]] false) (.seq (.block 0 (.seq (.reg [oM 26 6 [],oN 27 (.un .not (.t 26)) [0],oM 28 27 [1],pM 29 8 28 false [2],oG 30 (.un .not (.t 29)) 28 false [3,2],oN 31 (.pick (.t 28) (.c (.bool true)) (.t 30)) [2,4],oM 25 31 [5,2]] false) (.cond (.t 25) (.seq (.reg [oN 4 (.mv (.c (.int .i64 4))) []] false) .ret) (.seq (.reg [oA 33 0 2 [],oD 34 1 33 [0],oA 35 0 3 [],oD 36 1 35 [2],oN 37 (.bin .neq (.t 34) (.t 36)) [1,3],oM 38 37 [4],pA 39 2 2 38 false [5],pD 40 1 39 38 false [6,5],pA 41 2 3 38 false [5],pD 42 1 41 38 false [8,5],oG 43 (.call 78 [(.t 40),(.t 42)]) 38 false [7,9,5,5],oG 44 (.un .not (.t 43)) 38 false [10,5],oN 45 (.pick (.t 38) (.c (.bool true)) (.t 44)) [5,11],oM 46 45 [12,10],oG 47 (.ld true 3 (.t 2)) 46 false [13],oG 48 (.call 80 [(.t 47)]) 46 false [14,13,13],oG 49 (.ld true 3 (.t 3)) 46 false [13],oG 50 (.call 80 [(.t 49)]) 46 false [16,15,13],oG 51 (.call 79 [(.t 48),(.t 50)]) 46 false [15,17,17,13],oG 52 (.un .not (.t 51)) 46 false [18,13],oN 53 (.pick (.t 46) (.c (.bool true)) (.t 52)) [13,19],oM 32 53 [20,18]] true) (.cond (.t 32) (.seq (.reg [oN 4 (.mv (.c (.int .i64 54))) []] false) .ret) .skip))))) (.seq (.seq (.reg [oA 54 1 2 [],oD 55 1 54 [0],oN 56 (.len (.t 55)) [1],oN 57 (.mv (.c (.int .i64 0))) []] false) (.block 1 (.loop (.seq (.reg [oN 58 (.bin .lss (.t 57) (.t 56)) []] false) (.seq (.cond (.t 58) .skip (.exit 1)) (.seq (.block 2 (.seq (.reg [oM 59 57 [],oN 60 (.ixsl 5 (.t 55) (.t 57)) [],oN 61 (.ld true 5 (.t 60)) [1],oN 10 (.alloc 51 5 [(.int .i64 0),(.int .i64 0),(.bool false),(.bool false),(.str (Qm []))]) [],oM 9 59 [0,0,1,2,3],⟨none,(.st 5 (.t 10) (.t 61)),none,[3,2,4,0,1,2,3,4]⟩] false) (.seq (.reg [oA 62 1 3 [],oD 63 1 62 [0],oM 64 9 [],oN 65 (.ixsl 5 (.t 63) (.t 64)) [1,2],oN 66 (.ld true 5 (.t 65)) [3],oN 11 (.alloc 51 5 [(.int .i64 0),(.int .i64 0),(.bool false),(.bool false),(.str (Qm []))]) [],⟨none,(.st 5 (.t 11) (.t 66)),none,[5,4,0,1,2,3,4,5]⟩] false) (.seq (.reg [oA 67 1 10 [],oD 68 1 67 [0],oA 69 1 11 [],oD 70 1 69 [2],oN 71 (.bin .neq (.t 68) (.t 70)) [1,3],oM 72 71 [4],pA 73 4 10 72 false [5],pD 74 1 73 72 false [6,5],pA 75 4 11 72 false [5],pD 76 1 75 72 false [8,5],oG 77 (.seq true (.t 74) (.t 76)) 72 false [7,9,5],oN 78 (.pick (.t 72) (.c (.bool true)) (.t 77)) [5,10]] false) (.cond (.t 78) (.seq (.reg [oN 4 (.mv (.c (.int .i64 1))) []] false) .ret) .skip))))) (.reg [oN 79 (.bin .add (.t 57) (.c (.int .i64 1))) [],oM 57 79 [0]] false))))))) (.seq (.seq (.reg [oA 80 1 2 [],oD 81 1 80 [0],oN 82 (.len (.t 81)) [1],oN 83 (.mv (.c (.int .i64 0))) []] false) (.block 3 (.loop (.seq (.reg [oN 84 (.bin .lss (.t 83) (.t 82)) []] false) (.seq (.cond (.t 84) .skip (.exit 3)) (.seq (.block 4 (.seq (.reg [oM 85 83 [],oN 86 (.ixsl 5 (.t 81) (.t 83)) [],oN 87 (.ld true 5 (.t 86)) [1],oN 13 (.alloc 51 5 [(.int .i64 0),(.int .i64 0),(.bool false),(.bool false),(.str (Qm []))]) [],oM 12 85 [0,0,1,2,3],⟨none,(.st 5 (.t 13) (.t 87)),none,[3,2,4,0,1,2,3,4]⟩] false) (.seq (.reg [oA 88 1 3 [],oD 89 1 88 [0],oM 90 12 [],oN 91 (.ixsl 5 (.t 89) (.t 90)) [1,2],oN 92 (.ld true 5 (.t 91)) [3],oN 14 (.alloc 51 5 [(.int .i64 0),(.int .i64 0),(.bool false),(.bool false),(.str (Qm []))]) [],⟨none,(.st 5 (.t 14) (.t 92)),none,[5,4,0,1,2,3,4,5]⟩] false) (.seq (.reg [oA 93 2 13 [],oD 94 1 93 [0],oM 95 94 [1],pA 96 2 14 95 true [2],pD 97 1 96 95 true [3,2],oG 98 (.un .not (.t 97)) 95 true [4,2],oN 99 (.pick (.t 95) (.t 98) (.c (.bool false))) [2,5],oM 100 99 [6,2],pA 101 3 13 100 false [7],pD 102 1 101 100 false [8,7],pM 103 102 100 false [9,7,7],pA 104 3 14 103 true [10],pD 105 1 104 103 true [11,10],oG 106 (.un .not (.t 105)) 103 true [12,10],oG 107 (.pick (.t 103) (.t 106) (.c (.bool false))) 100 false [10,13,7],oN 108 (.pick (.t 100) (.c (.bool true)) (.t 107)) [7,14]] false) (.cond (.t 108) (.seq (.reg [oN 4 (.mv (.c (.int .i64 7))) []] false) .ret) .skip))))) (.reg [oN 109 (.bin .add (.t 83) (.c (.int .i64 1))) [],oM 83 109 [0]] false))))))) (.seq (.reg [oN 4 (.mv (.c (.int .i64 0))) []] false) .ret)))))))
theorem mcOkv29:okM Tryz.prog Tryz.f29 110=some mcv29:=by kernel_rfl
set_option maxHeartbeats 2000000 in
theorem vc29 (z:Int) (lv:List Lf) (hd:List (List Int)) (h:ShOK lv hd) (z2:Int) (lv2:List Lf) (hd2:List (List Int)) (h2:ShOK lv2 hd2):FC Tryz.prog 29 [.agg [.int .i64 z,.rs 5 (lv.map cLf),.rs 1 (hd.map cS)],.agg [.int .i64 z2,.rs 5 (lv2.map cLf),.rs 1 (hd2.map cS)]] [] (iv (JE z lv hd z2 lv2 hd2)) [] false:=by
 have hnl:=h.nl
 have hnh:=h.nh
 have hnl2:=h2.nl
 refine Qj (nt:=110) Tryz.func29 rfl rfl mcOkv29 (nL rfl) ?_
 delta mcv29
 refine gA 9 rfl (Q1 [] rfl rfl (vc72 z lv hd h.nl h.nh) (.cons (Qd rfl) .nil) .nil rfl rfl rfl (gR 3 rfl ?_))
 cases h19:(fmS z lv hd).isSome
 ·skip
  refine gI 6 rfl (Q1 [] rfl rfl (vc72 z2 lv2 hd2 h2.nl h2.nh) (.cons (Qd rfl) .nil) .nil rfl rfl rfl (gR 3 rfl ?_))
  cases h24:(fmS z2 lv2 hd2).isSome
  ·skip
   refine gI 21 rfl ?_
   rw [ch_1 (by rw [h19]; rfl)]
   exact Qk <| Qc rfl rfl rfl (.inr rfl)
  ·skip
   refine gI 21 rfl ?_
   rw [ch_1 (by rw [h19]; rfl)]
   exact Qk <| Qc rfl rfl rfl (.inr rfl)
 ·skip
  refine gI 6 rfl (Q1 [] rfl rfl (vc72 z2 lv2 hd2 h2.nl h2.nh) (.cons (Qd rfl) .nil) .nil rfl rfl rfl (gR 3 rfl ?_))
  cases h24:(fmS z2 lv2 hd2).isSome
  ·skip
   refine gI 21 rfl ?_
   rw [ch_1 (by rw [h19,h24]; rfl)]
   exact Qk <| Qc rfl rfl rfl (.inr rfl)
  ·skip
   refine gI 22 rfl (Q9 rfl rfl rfl rfl (fun h37=>?_) (fun h37=>?_))
   ·skip
    refine gR 17 rfl (QJ (by kernel_rfl) (gP 6 rfl ?_))
    rw [ch_2 (by rw [h19,h24]; rfl) (by rw [decide_eq_false h37]; rfl)]
    exact Qk <| Qc rfl rfl rfl (.inr rfl)
   ·skip
    refine gR 5 rfl (cN rfl rfl (vc78 hd hd2 (fun d hd=>(h.b d hd).1) (fun d hd=>(h2.b d hd).1) (by omega)) ?_)
    cases h43:decide (hd=hd2)
    ·skip
     refine gR 11 rfl (QJ (by kernel_rfl) (gP 6 rfl ?_))
     rw [ch_2 (by rw [h19,h24]; rfl) (by rw [h43,Bool.and_false]; rfl)]
     exact Qk <| Qc rfl rfl rfl (.inr rfl)
    ·skip
     refine gR 4 rfl (cN rfl rfl (vc80 z lv hd h.nl) (gR 1 rfl (cN rfl rfl (vc80 z2 lv2 hd2 h2.nl) (gR 0 rfl (cN rfl rfl (vc79 (Xx lv) (Xx lv2) (by simp; omega)) ?_)))))
     cases h51:decide (Xx lv=Xx lv2)
     ·skip
      refine gR 3 rfl (QJ (by kernel_rfl) (gP 6 rfl ?_))
      rw [ch_2 (by rw [h19,h24]; rfl) (by rw [h51,Bool.and_false])]
      exact Qk <| Qc rfl rfl rfl (.inr rfl)
     ·skip
      refine gR 3 rfl (QJ (by kernel_rfl) (gP 4 rfl ?_))
      have hfm:((fmS z lv hd).isSome&&(fmS z2 lv2 hd2).isSome)=true:=by rw [h19,h24]; rfl
      have heq:(decide (z=z2)&&decide (hd=hd2)&&decide (Xx lv=Xx lv2))=true:=by rw [h43,h51,decide_eq_true (Decidable.byContradiction h37)]; rfl
      have hll:lv.length=lv2.length:=by have:=congrArg List.length (of_decide_eq_true h51); simpa using this
      refine gI 3 rfl (Qh rfl rfl (gR 3 rfl ?_))
      refine Qr (α:=Nat) (fun k=>lv.length-k) (fun k=>[(2,.ptr 2 0 0),(3,.ptr 3 0 0),(55,.rs 5 (lv.map cLf)),(56,iv (lv.length:Int)),(57,iv (((k):Nat):Int))]) (fun k=>[(2,.cells 55 3 [[.int .i64 z,.rs 5 (lv.map cLf),.rs 1 (hd.map cS)]] true),(3,.cells 55 3 [[.int .i64 z2,.rs 5 (lv2.map cLf),.rs 1 (hd2.map cS)]] true)]) (fun k=>k<=lv.length/\allZ JW (lv.drop k) (lv2.drop k)=allZ JW lv lv2) 0 (⟨by omega,rfl⟩)
       (Qa (Qb rfl rfl) (.keep (rfl) rfl (.keep (rfl) rfl (.nil))) (fun i h=>by cases h)) ?_
      rintro k ⟨hk,hinv⟩
      refine gT 5 rfl (Qe rfl (fun h58=>?_) (fun h58=>?_))
      ·replace h58:=of_decide_eq_true h58
       refine gK 6 rfl ?_
       obtain ⟨x,hxk,hxm⟩:=Qo (L:=lv) (k:=k) (by omega)
       obtain ⟨y,hyk,hym⟩:=Qo (L:=lv2) (k:=k) (by omega)
       refine Qp (f:=cLf) (y:=x) rfl rfl rfl (by omega) hxk (gR 0 rfl (QG (cs:=cLf x) rfl rfl (nL rfl) rfl (gR 9 rfl (Qp (f:=cLf) (y:=y) rfl rfl rfl (by omega) hyk (gR 0 rfl (QG (cs:=cLf y) rfl rfl (nL rfl) rfl (gR 9 rfl (Q9 rfl rfl rfl rfl (fun h71=>?_) (fun h71=>?_)))))))))
       ·skip
        refine gR 14 rfl ?_
        rw [ch_3 hfm heq (by rw [← hinv,allZ_at hxk hyk,show JW x y=false from by simp only [JW,Bool.and_eq_false_iff,decide_eq_false_iff_not]; exact .inl h71]; rfl)]
        exact Qk <| Qc rfl rfl rfl (.inr rfl)
       ·skip
        refine gR 5 rfl (rs_seq (r:=decide (x.salt≠y.salt)) rfl rfl rfl ((h.ok x hxm).b) ((h2.ok y hym).b) (by by_cases e:x.salt=y.salt <;> simp [e]) ?_)
        cases h77:decide (x.salt≠y.salt)
        ·skip
         refine gR 5 rfl (Qg rfl rfl rfl (by omega) (gR 2 rfl ?_))
         rw [allZ_at hxk hyk,show JW x y=true from by simp only [JW,Bool.and_eq_true,decide_eq_true_eq]; exact ⟨Decidable.byContradiction h71,Decidable.byContradiction fun e=>by rw [decide_eq_true e] at h77; cases h77⟩,Bool.true_and] at hinv
         exact Q8 <| ⟨k+1,⟨by omega,hinv⟩,by omega,Qa (Qb rfl rfl) (.keep (rfl) rfl (.keep (rfl) rfl (.nil))) (fun i h=>by cases h)⟩
        ·skip
         refine gR 8 rfl ?_
         rw [ch_3 hfm heq (by rw [← hinv,allZ_at hxk hyk,show JW x y=false from by simp only [JW,Bool.and_eq_false_iff,decide_eq_false_iff_not]; exact .inr (of_decide_eq_true h77)]; rfl)]
         exact Qk <| Qc rfl rfl rfl (.inr rfl)
      ·replace h58:=of_decide_eq_false h58
       refine gK 3 rfl ?_
       have hws:allZ JW lv lv2=true:=by rw [← hinv]; exact allZ_end (by omega)
       clear hinv
       refine gI 3 rfl (Qh rfl rfl (gR 3 rfl ?_))
       refine Qr (α:=Nat) (fun k=>lv.length-k) (fun k=>[(2,.ptr 2 0 0),(3,.ptr 3 0 0),(81,.rs 5 (lv.map cLf)),(82,iv (lv.length:Int)),(83,iv (((k):Nat):Int))]) (fun k=>[(2,.cells 55 3 [[.int .i64 z,.rs 5 (lv.map cLf),.rs 1 (hd.map cS)]] true),(3,.cells 55 3 [[.int .i64 z2,.rs 5 (lv2.map cLf),.rs 1 (hd2.map cS)]] true)]) (fun k=>k<=lv.length/\allZ JR (lv.drop k) (lv2.drop k)=allZ JR lv lv2) 0 (⟨by omega,rfl⟩)
        (Qa (Qb rfl rfl) (.keep (rfl) rfl (.keep (rfl) rfl (.nil))) (fun i h=>by cases h)) ?_
       rintro k ⟨hk,hinv⟩
       refine gT 5 rfl (Qe rfl (fun h84=>?_) (fun h84=>?_))
       ·replace h84:=of_decide_eq_true h84
        refine gK 6 rfl ?_
        obtain ⟨x,hxk,hxm⟩:=Qo (L:=lv) (k:=k) (by omega)
        obtain ⟨y,hyk,hym⟩:=Qo (L:=lv2) (k:=k) (by omega)
        refine Qp (f:=cLf) (y:=x) rfl rfl rfl (by omega) hxk (gR 0 rfl (QG (cs:=cLf x) rfl rfl (nL rfl) rfl (gR 9 rfl (Qp (f:=cLf) (y:=y) rfl rfl rfl (by omega) hyk (gR 0 rfl (QG (cs:=cLf y) rfl rfl (nL rfl) rfl (gR 7 rfl ?_)))))))
        cases h94:x.sure
        ·skip
         refine gI 8 rfl ?_
         cases h102:x.touched
         ·skip
          refine gI 10 rfl (Qg rfl rfl rfl (by omega) (gR 2 rfl ?_))
          rw [allZ_at hxk hyk,show JR x y=true from by simp only [JR,h94,h102]; rfl,Bool.true_and] at hinv
          exact Q8 <| ⟨k+1,⟨by omega,hinv⟩,by omega,Qa (Qb rfl rfl) (.keep (rfl) rfl (.keep (rfl) rfl (.nil))) (fun i h=>by cases h)⟩
         ·skip
          refine gI 3 rfl ?_
          cases h105:y.touched
          ·skip
           refine gI 10 rfl ?_
           rw [ch_4 hfm heq hws (by rw [← hinv,allZ_at hxk hyk,show JR x y=false from by simp only [JR,h94,h102,h105]; rfl]; rfl)]
           exact Qk <| Qc rfl rfl rfl (.inr rfl)
          ·skip
           refine gI 7 rfl (Qg rfl rfl rfl (by omega) (gR 2 rfl ?_))
           rw [allZ_at hxk hyk,show JR x y=true from by simp only [JR,h94,h102,h105]; rfl,Bool.true_and] at hinv
           exact Q8 <| ⟨k+1,⟨by omega,hinv⟩,by omega,Qa (Qb rfl rfl) (.keep (rfl) rfl (.keep (rfl) rfl (.nil))) (fun i h=>by cases h)⟩
        ·skip
         refine gI 3 rfl ?_
         cases h97:y.sure
         ·skip
          refine gI 18 rfl ?_
          rw [ch_4 hfm heq hws (by rw [← hinv,allZ_at hxk hyk,show JR x y=false from by simp only [JR,h94,h97]; rfl]; rfl)]
          exact Qk <| Qc rfl rfl rfl (.inr rfl)
         ·skip
          refine gI 5 rfl ?_
          cases h102:x.touched
          ·skip
           refine gI 10 rfl (Qg rfl rfl rfl (by omega) (gR 2 rfl ?_))
           rw [allZ_at hxk hyk,show JR x y=true from by simp only [JR,h94,h97,h102]; rfl,Bool.true_and] at hinv
           exact Q8 <| ⟨k+1,⟨by omega,hinv⟩,by omega,Qa (Qb rfl rfl) (.keep (rfl) rfl (.keep (rfl) rfl (.nil))) (fun i h=>by cases h)⟩
          ·skip
           refine gI 3 rfl ?_
           cases h105:y.touched
           ·skip
            refine gI 10 rfl ?_
            rw [ch_4 hfm heq hws (by rw [← hinv,allZ_at hxk hyk,show JR x y=false from by simp only [JR,h94,h97,h102,h105]; rfl]; rfl)]
            exact Qk <| Qc rfl rfl rfl (.inr rfl)
           ·skip
            refine gI 7 rfl (Qg rfl rfl rfl (by omega) (gR 2 rfl ?_))
            rw [allZ_at hxk hyk,show JR x y=true from by simp only [JR,h94,h97,h102,h105]; rfl,Bool.true_and] at hinv
            exact Q8 <| ⟨k+1,⟨by omega,hinv⟩,by omega,Qa (Qb rfl rfl) (.keep (rfl) rfl (.keep (rfl) rfl (.nil))) (fun i h=>by cases h)⟩
       ·replace h84:=of_decide_eq_false h84
        refine gK 6 rfl ?_
        rw [ch_5 hfm heq hws (by rw [← hinv]; exact allZ_end (by omega))]
        exact Qk <| Qc rfl rfl rfl (.inr rfl)
end Go.Proofs.YthfhaoogcpfboaaGreat
namespace Go.Proofs.YthfhaoogcpfboaaGreat
open Go.RowKit
set_option maxRecDepth 100000
set_option linter.unusedVariables false
def scs (x:Lf):List Sc:=[.i x.ix,.i x.want,.b x.sure,.b x.touched,.s (Qm x.salt).toList]
theorem scs_eq {x y:Lf} (hx:B8 x.salt) (hy:B8 y.salt):(true != decide (scs x=scs y))=decide (x≠y):=by
 have h:=strN_inj hx hy
 by_cases e:x=y
 ·subst e; simp
 ·have h2:¬ scs x=scs y:=fun q=>e (by
   simp only [scs,List.cons.injEq,Sc.i.injEq,Sc.b.injEq,Sc.s.injEq,and_true] at q
   obtain ⟨h1,h2,h3,h4,h5⟩:=q
   rw [h5] at h
   have h6:x.salt=y.salt:=by simpa using h.symm
   obtain ⟨a1,a2,a3,a4,a5⟩:=x
   obtain ⟨b1,b2,b3,b4,b5⟩:=y
   simp only at h1 h2 h3 h4 h6
   rw [h1,h2,h3,h4,h6])
  simp [e,h2]
def bitB (s:Int) (k:Nat):Bool:=decide (bits .and .i64 (s.fdiv (2^min k 64)) 1=1)
def XR (s:Int) (n:Nat):List Int:=((List.range n).filter (bitB s)).map fun (k:Nat)=>(k:Int)
theorem some_t {s:Int} {n:Nat} (h:bitB s n=true):XR s (n+1)=XR s n++[(n:Int)]:=by
 unfold XR; rw [List.range_succ,List.filter_append,List.map_append]; simp [h]
theorem some_f {s:Int} {n:Nat} (h:bitB s n=false):XR s (n+1)=XR s n:=by
 unfold XR; rw [List.range_succ,List.filter_append,List.map_append]; simp [h]
theorem some_len (s:Int) (n:Nat):(XR s n).length<=n:=by
 unfold XR; rw [List.length_map]; exact Nat.le_trans (List.length_filter_le _ _) (by simp)
theorem some_bd {s:Int} {n:Nat}:∀ x∈XR s n,0<=x/\x<(n:Int):=fun x hx=>by
 obtain ⟨k,hk,rfl⟩:=List.mem_map.1 hx
 have:=List.mem_range.1 (List.mem_filter.1 hk).1
 omega
theorem some_ix (s:Int) {n:Nat} (h:n<=16):IxOK n (XR s n) where
 bd:=some_bd
 n:=Nat.le_trans (some_len s n) h
 inc k a b ha hb:=by
  have hp:(XR s n).Pairwise (· < ·):=by
   unfold XR
   rw [List.pairwise_map]
   exact (List.pairwise_lt_range.filter _).imp fun h=>by omega
  obtain ⟨h1,rfl⟩:=List.getElem?_eq_some_iff.1 ha
  obtain ⟨h2,rfl⟩:=List.getElem?_eq_some_iff.1 hb
  exact List.pairwise_iff_getElem.1 hp k (k+1) h1 h2 (by omega)
def leafM (L:List Int) (k a:Nat):Lf:=⟨k,1+QM L (XT L a) 3,decide (QM L a 3=2),decide (QM L a 3>0),Xn [120] (XK k)⟩
def mkS (L:List Int):Nat->List Lf×Nat
 | 0=>([],XT L 0)
 | k+1=>((mkS L k).1++[leafM L k (mkS L k).2],XT L (XT L (mkS L k).2))
def nS (L:List Int):Nat:=1+(QM L 0 16).toNat
def madeS (L:List Int):List Lf:=(mkS L (nS L)).1
theorem mkS_len (L:List Int):∀ k,(mkS L k).1.length=k
 | 0=>rfl
 | k+1=>by show ((mkS L k).1++[_]).length=_; rw [Xz,mkS_len L k]
theorem nS_bd (L:List Int):1<=nS L/\nS L<=16:=by have:=Qu L 0 16 (by decide); unfold nS; omega
theorem nS_W (L:List Int):W (1+QM L 0 16)=((nS L:Nat):Int):=by have:=Qu L 0 16 (by decide); rw [Xk (by omega)]; unfold nS; omega
theorem leafM_ok (L:List Int) {k:Nat} (hk:k<=16) (a:Nat):(leafM L k a).OK:=by
 have:=Qu L (XT L a) 3 (by decide)
 exact ⟨show I64 (k:Int) from ⟨by omega,by omega⟩,show I64 (1+QM L (XT L a) 3) from ⟨by omega,by omega⟩,(Jh _).1,by rw [show (leafM L k a).salt.length=8 from (Jh _).2]; decide⟩
theorem mkS_at (L:List Int):∀ (n k:Nat) (x:Lf),(mkS L n).1[k]?=some x->x=leafM L k (mkS L k).2
 | 0,k,x,h=>by cases h
 | n+1,k,x,h=>by
  by_cases hk:k<(mkS L n).1.length
  ·rw [show (mkS L (n+1)).1=(mkS L n).1++[leafM L n (mkS L n).2] from rfl,List.getElem?_append_left hk] at h
   exact mkS_at L n k x h
  ·rw [show (mkS L (n+1)).1=(mkS L n).1++[leafM L n (mkS L n).2] from rfl,List.getElem?_append_right (by omega)] at h
   have hkn:k=n:=by have:=mkS_len L n; have:=lt_of_at h; simp only [List.length_cons,List.length_nil] at this; omega
   subst hkn
   rw [mkS_len,Nat.sub_self] at h
   injection h with h
   exact h.symm
theorem made_ok (L:List Int):LvsOK (madeS L) where
 n:=by unfold madeS; rw [mkS_len]; exact nS_bd L
 ix k x h:=by rw [mkS_at L _ k x h]; rfl
 ok x hx:=by
  obtain ⟨k,hk⟩:=List.mem_iff_getElem?.1 hx
  rw [mkS_at L _ k x hk]
  have h1:=lt_of_at hk
  have h2:=nS_bd L
  unfold madeS at h1
  rw [mkS_len] at h1
  exact leafM_ok L (by omega) _
def mcv14:MC:=(.seq (.reg [oN 2 (.mv (.c .nils)) []] false) (.seq (.reg [oM 8 0 [],oN 9 (.build [.nils,(.int .i64 0)] [(0,(1,(.t 8)))]) [0],oN 10 (.box 83 2 (.t 9)) [1],oM 3 10 [2,0,1,2]] false) (.seq (.reg [oM 11 3 [],oN 12 (.call 46 [(.t 11),(.c (.int .i64 16))]) [0],oN 13 (.bin .add (.c (.int .i64 1)) (.t 12)) [1],oM 4 13 [2,1,0,1,2]] false) (.seq (.reg [oN 5 (.mv (.c .nils)) []] false) (.seq (.seq (.reg [oN 6 (.mv (.c (.int .i64 0))) []] false) (.block 0 (.loop (.seq (.seq (.reg [oM 14 6 [],oM 15 4 [],oN 16 (.bin .lss (.t 14) (.t 15)) [0,1]] false) (.cond (.t 16) .skip (.exit 0))) (.seq (.block 1 (.seq (.reg [oM 19 3 [],oN 20 (.call 46 [(.t 19),(.c (.int .i64 3))]) [0],oM 7 20 [1,1,0,1]] false) (.reg [oM 21 5 [],oM 22 6 [],oM 23 3 [],oN 24 (.call 46 [(.t 23),(.c (.int .i64 3))]) [2],oN 25 (.bin .add (.c (.int .i64 1)) (.t 24)) [3],oM 26 7 [],oN 27 (.bin .eql (.t 26) (.c (.int .i64 2))) [5],oM 28 7 [],oN 29 (.bin .gtr (.t 28) (.c (.int .i64 0))) [7],oM 30 6 [],oN 31 (.call 38 [(.t 30)]) [9,3],oN 32 (.call 59 [(.c (.str (Qm [120]))),(.t 31)]) [10,10],oN 33 (.build [(.int .i64 0),(.int .i64 0),(.bool false),(.bool false),(.str (Qm []))] [(0,(1,(.t 22))),(1,(1,(.t 25))),(2,(1,(.t 27))),(3,(1,(.t 29))),(4,(1,(.t 32)))]) [1,4,6,8,11],oN 34 (.bslice 51 5 [(.int .i64 0),(.int .i64 0),(.bool false),(.bool false),(.str (Qm []))] 1 [(0,(.t 33))]) [12],oN 35 (.app 51 5 40 [(.int .i64 0),(.int .i64 0),(.bool false),(.bool false),(.str (Qm []))] (.t 21) (.t 34)) [0,13,11],oM 5 35 [14,14,0,1,2,3,4,5,6,7,8,9,10,11,12,13,14]] false))) (.reg [oM 17 6 [],oN 18 (.bin .add (.t 17) (.c (.int .i64 1))) [0],oM 6 18 [1,0,1]] false)))))) (.seq (.reg [oM 36 5 [],oM 2 36 [0,0]] false) .ret))))))
theorem mcOkv14:okM Tryz.prog Tryz.f14 37=some mcv14:=by kernel_rfl
theorem vc14 (L:List Int) (hL:L.length<=4611686018427387904):FC Tryz.prog 14 [ints L] [] (.rs 5 ((madeS L).map cLf)) [] false:=by
 have hnb:=nS_bd L
 refine Qj (nt:=37) Tryz.func14 rfl rfl mcOkv14 (nL rfl) ?_
 delta mcv14
 refine gA 14 rfl (Q1 [(10,QN 83 L (0))] rfl rfl (fc35 10 83 L (0) 16 (by decide) hL) (.cons (Qd rfl) (.cons (Qd rfl) (.nil))) (.cons rfl (.nil)) rfl rfl rfl (gR 0 rfl (QH rfl rfl rfl (nS_W L) (gR 12 rfl ?_))))
 refine Qr (α:=Nat) (fun k=>nS L-k) (fun k=>[(3,.ptr 10 0 0),(4,iv ((nS L:Nat):Int)),(5,.sl 1005 0 (k)),(6,iv (((k):Nat):Int))]) (fun k=>[(10,QN 83 L (mkS L (k)).2),(1005,.cells 51 5 (((mkS L (k)).1).map cLf) true)]) (fun k=>k<=nS L) 0 (by omega)
  (show Weak _ _ _ _ [(3,.ptr 10 0 0),(4,iv ((nS L:Nat):Int)),(5,.sl 1005 0 (0)),(6,iv (((0):Nat):Int))] [(10,QN 83 L (XT L 0)),(1005,.cells 51 5 [] true)] from Qa (.cs (.cs (.cons rfl (J4 rfl rfl) (.cs (.nil))))) (.keep (rfl) rfl (.virt rfl (.nil))) (fun i h=>by cases h)) ?_
 intro k hk
 refine gT 7 rfl (Qe rfl (fun h16=>?_) (fun h16=>?_))
 ·replace h16:=of_decide_eq_true h16
  refine gK 6 rfl ?_
  have hv3:=Qu L (XT L (mkS L k).2) 3 (by decide)
  refine Q1 [(10,QN 83 L ((mkS L k).2))] rfl rfl (fc35 10 83 L ((mkS L k).2) 3 (by decide) hL) (.cons (Qd rfl) (.cons (Qd rfl) (.nil))) (.cons rfl (.nil)) rfl rfl rfl (gR 6 rfl (Q1 [(10,QN 83 L (XT L (mkS L k).2))] rfl rfl (fc35 10 83 L (XT L (mkS L k).2) 3 (by decide) hL) (.cons (Qd rfl) (.cons (Qd rfl) (.nil))) (.cons rfl (.nil)) rfl rfl rfl (gR 0 rfl (Qg rfl rfl rfl (by omega) (gR 1 rfl (rs_eql rfl rfl rfl (gR 1 rfl (rs_gtr rfl rfl rfl (gR 1 rfl (cN rfl rfl (vc38 (k:Int) ⟨by omega,by omega⟩) (gR 0 rfl ?_)))))))))))
  refine cN rfl rfl (vc59 [120] (XK (k:Int)) ⟨b8_c,by decide⟩ ⟨vint_8 _,Nat.le_trans (Xv _) (by decide)⟩) (gR 1 rfl (Qi (l:=(([leafM L k (mkS L k).2]:List Lf)).flatMap cLf) (els:=(([leafM L k (mkS L k).2]:List Lf)).map cLf) (fl:=true) rfl (by kernel_rfl) rfl rfl (by kernel_rfl) (by kernel_rfl) (gR 0 rfl (QB (f:=cLf) (xs:=(mkS L k).1) (y:=leafM L k (mkS L k).2) (fl':=true) rfl rfl rfl rfl (mkS_len L k) rfl rfl rfl (by decide) rfl (by omega) (by omega) rfl (gR 4 rfl (Qg rfl rfl rfl (by omega) (gR 2 rfl ?_)))))))
  exact Q8 <| ⟨k+1,by omega,by omega,Q6 (i:=35) (i':=1005) (F1:=[(3,.ptr 10 0 0),(4,iv ((nS L:Nat):Int)),(5,.sl 35 0 (k+1)),(6,iv (((k+1):Nat):Int))]) (H1:=[(10,QN 83 L (mkS L (k+1)).2),(35,.cells 51 5 (((mkS L (k+1)).1).map cLf) true)]) (Qb rfl rfl) (.keep (rfl) rfl (.keep (rfl) rfl (.nil))) (fun i h=>by cases h) rfl rfl (.cons rfl (.same _) (.cons rfl (.same _) (.cons rfl (.sl _ _) (.cons rfl (.same _) (.nil))))) (Qb rfl rfl) (.keep (rfl) rfl (.keep (rfl) rfl (.nil))) (fun i h=>by cases h)⟩
 ·replace h16:=of_decide_eq_false h16
  refine gK 7 rfl ?_
  obtain rfl:k=nS L:=by omega
  exact Qk <| Qs rfl (Xr (f:=cLf) (xs:=madeS L) rfl rfl (mkS_len _ _) (fun _=>rfl)) .nil
def mcv21:MC:=(.seq (.reg [oN 4 (.mv (.c .nils)) []] false) (.seq (.reg [oN 5 (.mv (.c .nils)) []] false) (.seq (.seq (.reg [oN 6 (.mv (.c (.int .i64 0))) []] false) (.block 0 (.loop (.seq (.seq (.reg [oM 7 6 [],oM 8 1 [],oN 9 (.bin .lss (.t 7) (.t 8)) [0,1]] false) (.cond (.t 9) .skip (.exit 0))) (.seq (.block 1 (.seq (.reg [oM 12 0 [],oM 13 6 [],oN 14 (.bin .shr (.t 12) (.t 13)) [0,1],oN 15 (.bin .and (.t 14) (.c (.int .i64 1))) [2],oN 16 (.bin .eql (.t 15) (.c (.int .i64 1))) [3]] false) (.cond (.t 16) (.reg [oM 17 5 [],oM 18 6 [],oN 19 (.bslice 3 1 [(.int .i64 0)] 1 [(0,(.t 18))]) [1],oN 20 (.app 3 1 8 [(.int .i64 0)] (.t 17) (.t 19)) [0,2],oM 5 20 [3,3,0,1,2,3]] false) .skip))) (.reg [oM 10 6 [],oN 11 (.bin .add (.t 10) (.c (.int .i64 1))) [0],oM 6 11 [1,0,1]] false)))))) (.seq (.reg [oM 21 5 [],oM 4 21 [0,0]] false) .ret))))
theorem mcOkv21:okM Tryz.prog Tryz.f21 22=some mcv21:=by kernel_rfl
theorem vc21 (s:Int) (n:Nat) (hn:n<=16):FC Tryz.prog 21 [iv s,iv (n:Int)] [] (.rs 1 ((XR s n).map civ)) [] false:=by
 refine Qj (nt:=22) Tryz.func21 rfl rfl mcOkv21 (nL rfl) ?_
 delta mcv21
 refine gA 14 rfl ?_
 refine Qr (α:=Nat) (fun k=>n-k) (fun k=>[(0,iv s),(1,iv (n:Int)),(5,.sl 1005 0 (XR s (k)).length),(6,iv (((k):Nat):Int))]) (fun k=>[(1005,.cells 3 1 ((XR s (k)).map civ) true)]) (fun k=>k<=n) 0 (by omega)
  (show Weak _ _ _ _ [(0,iv s),(1,iv (n:Int)),(5,.sl 1005 0 0),(6,iv ((0:Nat):Int))] [(1005,.cells 3 1 [] true)] from Qa (.cs (.cs (.cons rfl (J4 rfl rfl) (.cs (.nil))))) (.virt rfl (.nil)) (fun i h=>by cases h)) ?_
 intro k hk
 refine gT 7 rfl (Qe rfl (fun h9=>?_) (fun h9=>?_))
 ·replace h9:=of_decide_eq_true h9
  refine gK 5 rfl ?_
  have hsl:=some_len s k
  refine gI 2 rfl (XW rfl rfl rfl (by omega) rfl (gR 0 rfl (rs_and rfl rfl rfl rfl (gR 0 rfl (rs_eql rfl rfl rfl (gR 1 rfl (Qe rfl (fun h16=>?_) (fun h16=>?_))))))))
  ·replace h16:=of_decide_eq_true h16
   refine gK 3 rfl (Qi (l:=(([(k:Int)]:List Int)).flatMap civ) (els:=(([(k:Int)]:List Int)).map civ) (fl:=true) rfl (by kernel_rfl) rfl rfl (by kernel_rfl) (by kernel_rfl) (gR 0 rfl (QB (f:=civ) (xs:=XR s k) (y:=(k:Int)) (fl':=true) rfl rfl rfl rfl (rfl) rfl rfl rfl (by decide) rfl (by omega) (by omega) rfl (gR 4 rfl (Qg rfl rfl rfl (by omega) (gR 2 rfl ?_))))))
   have hb:bitB s k=true:=decide_eq_true h16
   have e:=some_t hb
   have e2:(XR s (k+1)).length=(XR s k).length+1:=by rw [e,Xz]
   exact Q8 <| ⟨k+1,by omega,by omega,by rw [e2,e]; exact Q6 (i:=20) (i':=1005) (F1:=[(0,iv s),(1,iv (n:Int)),(5,.sl 20 0 ((XR s k).length+1)),(6,iv (((k+1):Nat):Int))]) (H1:=[(20,.cells 3 1 ((XR s k++[(k:Int)]).map civ) true)]) (Qb rfl rfl) (.keep rfl rfl .nil) nz rfl rfl (.cons rfl (.same _) (.cons rfl (.same _) (.cons rfl (.sl _ _) (.cons rfl (.same _) (.nil))))) (Qb rfl rfl) (.keep rfl rfl .nil) nz⟩
  ·replace h16:=of_decide_eq_false h16
   refine gK 3 rfl (Qg rfl rfl rfl (by omega) (gR 2 rfl ?_))
   have hb:bitB s k=false:=decide_eq_false h16
   have e:=some_f hb
   exact Q8 <| ⟨k+1,by omega,by omega,by rw [e]; exact Qa (Qb rfl rfl) (.keep rfl rfl .nil) nz⟩
 ·replace h9:=of_decide_eq_false h9
  refine gK 7 rfl ?_
  obtain rfl:k=n:=by omega
  exact Qk <| Qs rfl (Xr rfl rfl rfl (fun _=>rfl)) .nil
def mcv31:MC:=(.seq (.reg [oN 1 (.box 55 3 (.t 0)) [],oN 2 (.alloc 55 3 [(.int .i64 0),.nils,.nils]) []] false) (.seq (.reg [oA 3 0 1 [],oD 4 1 3 [0],oN 5 (.bslice 51 5 [(.int .i64 0),(.int .i64 0),(.bool false),(.bool false),(.str (Qm []))] 0 []) [],oA 6 1 1 [],oD 7 1 6 [3],oN 8 (.app 51 5 40 [(.int .i64 0),(.int .i64 0),(.bool false),(.bool false),(.str (Qm []))] (.t 5) (.t 7)) [2,4],oN 9 (.bslice 9 1 [(.str (Qm []))] 0 []) [],oA 10 2 1 [],oD 11 1 10 [7],oN 12 (.app 9 1 16 [(.str (Qm []))] (.t 9) (.t 11)) [6,8,5],oN 13 (.build [(.int .i64 0),.nils,.nils] [(0,(1,(.t 4))),(1,(1,(.t 8))),(2,(1,(.t 12)))]) [1,5,9],⟨none,(.st 3 (.t 2) (.t 13)),none,[10,9,0,1,2,3,4,5,6,7,8,9,10]⟩] true) .ret))
theorem mcOkv31:okM Tryz.prog Tryz.f31 14=some mcv31:=by kernel_rfl
theorem vc31 (z:Int) (lv:List Lf) (hd:List (List Int)) (hlv:lv.length<=64) (hhd:hd.length<=64):FC Tryz.prog 31 [.agg [.int .i64 z,.rs 5 (lv.map cLf),.rs 1 (hd.map cS)]] [] (.agg [.int .i64 z,.sl 8 0 lv.length,.sl 12 0 hd.length]) [(8,.cells 51 5 (lv.map cLf) true),(12,.cells 9 1 (hd.map cS) true)] false:=by
 refine Qj (nt:=14) Tryz.func31 rfl rfl mcOkv31 (nL rfl) ?_
 delta mcv31
 refine gA 9 rfl (Qi (l:=[]) (els:=[]) (fl:=true) rfl (by kernel_rfl) rfl rfl rfl rfl (gR 2 rfl (JZ (f:=cLf) (ys:=lv) (n:=lv.length) (rd:=[]) rfl rfl rfl rfl rfl rfl rfl (by simp) (fun _=>rfl) rfl (by omega) (by omega) (fun _=>rfl) (gR 0 rfl (Qi (l:=[]) (els:=[]) (fl:=true) rfl (by kernel_rfl) rfl rfl rfl rfl (gR 2 rfl (JZ (f:=cS) (ys:=hd) (n:=hd.length) (rd:=[]) rfl rfl rfl rfl rfl rfl rfl (by simp) (fun _=>rfl) rfl (by omega) (by omega) (fun _=>rfl) (gR 2 rfl (QJ (by kernel_rfl) (gP 1 rfl ?_))))))))))
 exact Qk <| Qs rfl (Q3 rfl (.inr rfl)) (.keep rfl rfl (noROE_map (fun _=>rfl) lv) (.keep rfl rfl (noROE_map (fun _=>rfl) hd) .nil))
def mcv34:MC:=(.seq (.reg [oN 4 (.mv (.c (.bool false))) []] false) (.seq (.seq (.reg [oM 6 0 [],oN 7 (.len (.t 6)) [0],oM 8 1 [],oN 9 (.len (.t 8)) [2],oN 10 (.bin .neq (.t 7) (.t 9)) [1,3]] false) (.cond (.t 10) (.seq (.reg [oN 4 (.mv (.c (.bool false))) []] false) .ret) .skip)) (.seq (.seq (.reg [oN 5 (.mv (.c (.int .i64 0))) []] false) (.block 0 (.loop (.seq (.seq (.reg [oM 11 5 [],oM 12 0 [],oN 13 (.len (.t 12)) [1],oN 14 (.bin .lss (.t 11) (.t 13)) [0,2]] false) (.cond (.t 14) .skip (.exit 0))) (.seq (.block 1 (.seq (.reg [oM 17 0 [],oM 18 5 [],oN 19 (.ixsl 1 (.t 17) (.t 18)) [0,1],oD 20 1 19 [2],oM 21 1 [],oM 22 5 [],oN 23 (.ixsl 1 (.t 21) (.t 22)) [4,5],oD 24 1 23 [6],oN 25 (.seq true (.t 20) (.t 24)) [3,7]] true) (.cond (.t 25) (.seq (.reg [oN 4 (.mv (.c (.bool false))) []] false) .ret) .skip))) (.reg [oM 15 5 [],oN 16 (.bin .add (.t 15) (.c (.int .i64 1))) [0],oM 5 16 [1,0,1]] false)))))) (.seq (.reg [oN 4 (.mv (.c (.bool true))) []] false) .ret))))
theorem mcOkv34:okM Tryz.prog Tryz.f34 26=some mcv34:=by kernel_rfl
theorem vc34 (a b:List (List Int)) (ha:∀ d∈a,B8 d) (hb:∀ d∈b,B8 d) (han:a.length<=4611686018427387904):FC Tryz.prog 34 [.rs 1 (a.map cS),.rs 1 (b.map cS)] [] (.bool (decide (a=b))) [] false:=by
 refine Qj (nt:=26) Tryz.func34 rfl rfl mcOkv34 (nL rfl) ?_
 delta mcv34
 refine gA 8 rfl (Qh rfl rfl (gR 1 rfl (Qh rfl rfl (gR 0 rfl (Ja rfl rfl rfl (gR 1 rfl (Qe rfl (fun h10=>?_) (fun h10=>?_))))))))
 ·replace h10:=of_decide_eq_true h10
  refine gK 5 rfl ?_
  rw [show decide (a=b)=false from decide_eq_false (fun e=>h10 (by rw [e]))]
  exact Qk <| Qc rfl rfl rfl (.inr rfl)
 ·replace h10:=of_decide_eq_false h10
  refine gK 7 rfl ?_
  refine Qr (α:=Nat) (fun k=>a.length-k) (fun k=>[(0,.rs 1 (a.map cS)),(1,.rs 1 (b.map cS)),(5,iv (((k):Nat):Int))]) (fun k=>[]) (fun k=>k<=a.length/\a.take k=b.take k) 0 (⟨by omega,rfl⟩)
   (Qa (Qb rfl rfl) (.nil) (fun i h=>by cases h)) ?_
  rintro k ⟨hk,hinv⟩
  refine gT 5 rfl (Qh rfl rfl (gR 2 rfl (Qe rfl (fun h14=>?_) (fun h14=>?_))))
  ·replace h14:=of_decide_eq_true h14
   refine gK 5 rfl ?_
   obtain ⟨x,hxk,hxm⟩:=Qo (L:=a) (k:=k) (by omega)
   obtain ⟨y,hyk,hym⟩:=Qo (L:=b) (k:=k) (by omega)
   refine gI 2 rfl (Qp (f:=cS) (y:=x) rfl rfl rfl (by omega) hxk (gR 3 rfl (Qp (f:=cS) (y:=y) rfl rfl rfl (by omega) hyk (gR 1 rfl (rs_seq (r:=decide (x≠y)) rfl rfl rfl (ha x hxm) (hb y hym) (by by_cases e:x=y <;> simp [e]) (gR 0 rfl (QJ (by kernel_rfl) (gP 0 rfl (Qe rfl (fun h25=>?_) (fun h25=>?_))))))))))
   ·replace h25:=of_decide_eq_true h25
    refine gK 5 rfl ?_
    rw [show decide (a=b)=false from decide_eq_false (eq_hit hxk hyk h25)]
    exact Qk <| Qc rfl rfl rfl (.inr rfl)
   ·replace h25:=of_decide_eq_false h25
    refine gK 3 rfl (Qg rfl rfl rfl (by omega) (gR 2 rfl ?_))
    exact Q8 <| ⟨k+1,⟨by omega,eq_step hinv hxk hyk (Decidable.byContradiction h25)⟩,by omega,Qa (Qb rfl rfl) (.nil) (fun i h=>by cases h)⟩
  ·replace h14:=of_decide_eq_false h14
   refine gK 6 rfl ?_
   rw [show decide (a=b)=true from decide_eq_true (eq_end hinv (by omega) (by omega))]
   exact Qk <| Qc rfl rfl rfl (.inr rfl)
def mcv18:MC:=(.seq (.reg [oN 4 (.mv (.c (.bool false))) []] false) (.seq (.seq (.reg [oM 6 0 [],oN 7 (.len (.t 6)) [0],oM 8 1 [],oN 9 (.len (.t 8)) [2],oN 10 (.bin .neq (.t 7) (.t 9)) [1,3]] false) (.cond (.t 10) (.seq (.reg [oN 4 (.mv (.c (.bool false))) []] false) .ret) .skip)) (.seq (.seq (.reg [oN 5 (.mv (.c (.int .i64 0))) []] false) (.block 0 (.loop (.seq (.seq (.reg [oM 11 5 [],oM 12 0 [],oN 13 (.len (.t 12)) [1],oN 14 (.bin .lss (.t 11) (.t 13)) [0,2]] false) (.cond (.t 14) .skip (.exit 0))) (.seq (.block 1 (.seq (.reg [oM 17 0 [],oM 18 5 [],oN 19 (.ixsl 5 (.t 17) (.t 18)) [0,1],oN 20 (.ld true 5 (.t 19)) [2],oM 21 1 [],oM 22 5 [],oN 23 (.ixsl 5 (.t 21) (.t 22)) [4,5],oN 24 (.ld true 5 (.t 23)) [6],oN 25 (.aeqx true [0,0,1,1,2] (.t 20) (.t 24)) [3,7]] true) (.cond (.t 25) (.seq (.reg [oN 4 (.mv (.c (.bool false))) []] false) .ret) .skip))) (.reg [oM 15 5 [],oN 16 (.bin .add (.t 15) (.c (.int .i64 1))) [0],oM 5 16 [1,0,1]] false)))))) (.seq (.reg [oN 4 (.mv (.c (.bool true))) []] false) .ret))))
theorem mcOkv18:okM Tryz.prog Tryz.f18 26=some mcv18:=by kernel_rfl
theorem vc18 (a b:List Lf) (ha:∀ d∈a,B8 d.salt) (hb:∀ d∈b,B8 d.salt) (han:a.length<=4611686018427387904):FC Tryz.prog 18 [.rs 5 (a.map cLf),.rs 5 (b.map cLf)] [] (.bool (decide (a=b))) [] false:=by
 refine Qj (nt:=26) Tryz.func18 rfl rfl mcOkv18 (nL rfl) ?_
 delta mcv18
 refine gA 8 rfl (Qh rfl rfl (gR 1 rfl (Qh rfl rfl (gR 0 rfl (Ja rfl rfl rfl (gR 1 rfl (Qe rfl (fun h10=>?_) (fun h10=>?_))))))))
 ·replace h10:=of_decide_eq_true h10
  refine gK 5 rfl ?_
  rw [show decide (a=b)=false from decide_eq_false (fun e=>h10 (by rw [e]))]
  exact Qk <| Qc rfl rfl rfl (.inr rfl)
 ·replace h10:=of_decide_eq_false h10
  refine gK 7 rfl ?_
  refine Qr (α:=Nat) (fun k=>a.length-k) (fun k=>[(0,.rs 5 (a.map cLf)),(1,.rs 5 (b.map cLf)),(5,iv (((k):Nat):Int))]) (fun k=>[]) (fun k=>k<=a.length/\a.take k=b.take k) 0 (⟨by omega,rfl⟩)
   (Qa (Qb rfl rfl) (.nil) (fun i h=>by cases h)) ?_
  rintro k ⟨hk,hinv⟩
  refine gT 5 rfl (Qh rfl rfl (gR 2 rfl (Qe rfl (fun h14=>?_) (fun h14=>?_))))
  ·replace h14:=of_decide_eq_true h14
   refine gK 5 rfl ?_
   obtain ⟨x,hxk,hxm⟩:=Qo (L:=a) (k:=k) (by omega)
   obtain ⟨y,hyk,hym⟩:=Qo (L:=b) (k:=k) (by omega)
   refine gI 2 rfl (Qp (f:=cLf) (y:=x) rfl rfl rfl (by omega) hxk (gR 0 rfl (QG (cs:=cLf x) rfl rfl (nL rfl) rfl (gR 2 rfl (Qp (f:=cLf) (y:=y) rfl rfl rfl (by omega) hyk (gR 0 rfl (QG (cs:=cLf y) rfl rfl (nL rfl) rfl (gR 0 rfl (rs_aeqx (scs x) (scs y) rfl rfl rfl rfl rfl rfl rfl (scs_eq (ha x hxm) (hb y hym)) (gR 0 rfl (QJ (by kernel_rfl) ?_)))))))))))
   refine gP 0 rfl (Qe rfl (fun h25=>?_) (fun h25=>?_))
   ·replace h25:=of_decide_eq_true h25
    refine gK 5 rfl ?_
    rw [show decide (a=b)=false from decide_eq_false (eq_hit hxk hyk h25)]
    exact Qk <| Qc rfl rfl rfl (.inr rfl)
   ·replace h25:=of_decide_eq_false h25
    refine gK 3 rfl (Qg rfl rfl rfl (by omega) (gR 2 rfl ?_))
    exact Q8 <| ⟨k+1,⟨by omega,eq_step hinv hxk hyk (Decidable.byContradiction h25)⟩,by omega,Qa (Qb rfl rfl) (.nil) (fun i h=>by cases h)⟩
  ·replace h14:=of_decide_eq_false h14
   refine gK 6 rfl ?_
   rw [show decide (a=b)=true from decide_eq_true (eq_end hinv (by omega) (by omega))]
   exact Qk <| Qc rfl rfl rfl (.inr rfl)
end Go.Proofs.YthfhaoogcpfboaaGreat
namespace Go.Proofs.YthfhaoogcpfboaaGreat
open Go.RowKit
set_option maxRecDepth 100000
set_option linter.unusedVariables false
end Go.Proofs.YthfhaoogcpfboaaGreat
namespace Go.Proofs.YthfhaoogcpfboaaGreat
open Go.RowKit
set_option maxRecDepth 100000
set_option linter.unusedVariables false
structure Pl where
 n:V3
 b:Int
deriving DecidableEq
structure Pt where
 x:Int
 y:Int
 z:Int
 w:Int
deriving DecidableEq
abbrev cPl (p:Pl):List AV:=[.int .i64 p.n.x,.int .i64 p.n.y,.int .i64 p.n.z,.int .i64 p.b]
abbrev cPt (p:Pt):List AV:=[.int .i64 p.x,.int .i64 p.y,.int .i64 p.z,.int .i64 p.w]
abbrev c12 (p q r:Pl):List AV:=[.int .i64 p.n.x,.int .i64 p.n.y,.int .i64 p.n.z,.int .i64 p.b,.int .i64 q.n.x,.int .i64 q.n.y,.int .i64 q.n.z,.int .i64 q.b,.int .i64 r.n.x,.int .i64 r.n.y,.int .i64 r.n.z,.int .i64 r.b]
def QQ (v:V3) (n:Int):V3:=⟨W (v.x*n),W (v.y*n),W (v.z*n)⟩
def JO (p:Pl) (x:Pt):Int:=W (W (p.b*x.w)-dotW p.n ⟨x.x,x.y,x.z⟩)
def outB (x:Pt) (p:Pl):Bool:=decide (JO p x<0)
def inB (p:Pl) (x:Pt):Bool:=decide (JO p x>0)
def XX (r:List Pl) (x:Pt):Bool := !r.any (outB x)
def sumS (p q r:Pl):Nat->V3
 | 0=>⟨0,0,0⟩
 | 1=>addW ⟨0,0,0⟩ (QQ (QC q.n r.n) p.b)
 | 2=>addW (addW ⟨0,0,0⟩ (QQ (QC q.n r.n) p.b)) (QQ (QC r.n p.n) q.b)
 | _=>addW (addW (addW ⟨0,0,0⟩ (QQ (QC q.n r.n) p.b)) (QQ (QC r.n p.n) q.b)) (QQ (QC p.n q.n) r.b)
def wdS (p q r:Pl):Nat->Int
 | 0=>0
 | 1=>dotW p.n (QC q.n r.n)
 | 2=>dotW q.n (QC r.n p.n)
 | _=>dotW r.n (QC p.n q.n)
def Xw (p q r:Pl):V3:=sumS p q r 3
def wd3 (p q r:Pl):Int:=wdS p q r 3
def g3 (p q r:Pl):Int:=if wd3 p q r<0 then -(gL [(Xw p q r).x,(Xw p q r).y,(Xw p q r).z,wd3 p q r]:Int) else (gL [(Xw p q r).x,(Xw p q r).y,(Xw p q r).z,wd3 p q r]:Int)
def mtP (p q r:Pl):Pt:=⟨W ((Xw p q r).x.tdiv (g3 p q r)),W ((Xw p q r).y.tdiv (g3 p q r)),W ((Xw p q r).z.tdiv (g3 p q r)),W ((wd3 p q r).tdiv (g3 p q r))⟩
def okT (p q r:Pl):Bool:=[(Xw p q r).x,(Xw p q r).y,(Xw p q r).z,wd3 p q r].all fun n=>decide (-1000000000000000<=n/\n<=1000000000000000)
theorem okT_all {p q r:Pl} (h:okT p q r=true):∀ x∈[(Xw p q r).x,(Xw p q r).y,(Xw p q r).z,wd3 p q r],-1000000000000000<=x/\x<=1000000000000000:=fun x hx=>of_decide_eq_true (List.all_eq_true.1 h x hx)
theorem gcd_st2 (a b:Int) (h:b≠0):Nat.gcd b.natAbs (a.tmod b).natAbs=Nat.gcd a.natAbs b.natAbs:=by
 rw [Int.natAbs_tmod,Nat.gcd_comm a.natAbs,Nat.gcd_rec b.natAbs a.natAbs,Nat.gcd_comm]
theorem tmod_lt (a b:Int) (h:b≠0):(a.tmod b).natAbs<b.natAbs:=by
 rw [Int.natAbs_tmod]; exact Nat.mod_lt _ (by omega)
theorem gL_pos {l:List Int} {x:Int} (h:x∈l) (hx:x≠0):0<gL l:=by
 have key:∀ (l:List Int) (g:Nat),(0<g\/∃ x∈l,x≠0)->0<l.foldl (fun g n=>Nat.gcd g n.natAbs) g:=by
  intro l
  induction l with
  | nil=>intro g h; exact h.elim id fun ⟨x,hx,_⟩=>by cases hx
  | cons a l ih =>
   intro g h
   rw [List.foldl_cons]
   refine ih _ ?_
   by_cases ha:a=0
   ·rcases h with h | ⟨x,hx,h0⟩
    ·exact .inl (Nat.gcd_pos_of_pos_left _ h)
    ·rcases List.mem_cons.1 hx with rfl | hx
     ·exact absurd ha h0
     ·exact .inr ⟨x,hx,h0⟩
   ·exact .inl (Nat.gcd_pos_of_pos_right _ (by omega))
 exact key l 0 (.inr ⟨x,h,hx⟩)
theorem gL_le {l:List Int} {x:Int} {m:Nat} (h:x∈l) (hx:x≠0) (hm:x.natAbs<=m):gL l<=m:=by
 have key:∀ (l:List Int) (g:Nat),(l.foldl (fun g n=>Nat.gcd g n.natAbs) g) ∣ g/\∀ x∈l,(l.foldl (fun g n=>Nat.gcd g n.natAbs) g) ∣ x.natAbs:=by
  intro l
  induction l with
  | nil=>intro g; exact ⟨Nat.dvd_refl _,fun x hx=>by cases hx⟩
  | cons a l ih =>
   intro g
   obtain ⟨h1,h2⟩:=ih (Nat.gcd g a.natAbs)
   rw [List.foldl_cons]
   refine ⟨Nat.dvd_trans h1 (Nat.gcd_dvd_left _ _),fun x hx=>?_⟩
   rcases List.mem_cons.1 hx with rfl | hx
   ·exact Nat.dvd_trans h1 (Nat.gcd_dvd_right _ _)
   ·exact h2 x hx
 exact Nat.le_trans (Nat.le_of_dvd (by omega) ((key l 0).2 x h)) hm
def mcv211:MC:=(.seq (.reg [oN 2 (.box 88 3 (.t 0)) [],oN 4 (.alloc 88 3 [(.int .i64 0),(.int .i64 0),(.int .i64 0)]) []] false) (.seq (.reg [oA 5 0 2 [],oD 6 1 5 [0],oM 7 1 [],oN 8 (.bin .mul (.t 6) (.t 7)) [1,2],oA 9 1 2 [],oD 10 1 9 [4],oM 11 1 [],oN 12 (.bin .mul (.t 10) (.t 11)) [5,6],oA 13 2 2 [],oD 14 1 13 [8],oM 15 1 [],oN 16 (.bin .mul (.t 14) (.t 15)) [9,10],oN 17 (.build [(.int .i64 0),(.int .i64 0),(.int .i64 0)] [(0,(1,(.t 8))),(1,(1,(.t 12))),(2,(1,(.t 16)))]) [3,7,11],⟨none,(.st 3 (.t 4) (.t 17)),none,[12,0,1,2,3,4,5,6,7,8,9,10,11,12]⟩] false) .ret))
theorem mcOkv211:okM Tryz.prog Tryz.f211 18=some mcv211:=by kernel_rfl
theorem vc211 (v:V3) (n:Int):FC Tryz.prog 211 [aV v,iv n] [] (aV (QQ v n)) [] false:=by
 refine Qj (nt:=18) Tryz.func211 rfl rfl mcOkv211 (nL rfl) ?_
 delta mcv211
 refine gA 10 rfl (QA rfl rfl rfl rfl (gR 3 rfl (QA rfl rfl rfl rfl (gR 3 rfl (QA rfl rfl rfl rfl (gR 4 rfl ?_))))))
 exact Qk <| Qc rfl rfl rfl (.inr rfl)
def mcv166:MC:=(.seq (.reg [oN 2 (.box 90 4 (.t 0)) [],oN 3 (.box 174 4 (.t 1)) [],oN 4 (.mv (.c (.int .i64 0))) []] false) (.seq (.reg [oA 5 3 2 [],oD 6 1 5 [0],oA 7 3 3 [],oD 8 1 7 [2],oN 9 (.bin .mul (.t 6) (.t 8)) [1,3],oA 10 0 2 [],oN 11 (.ld true 3 (.t 10)) [5],oA 12 0 3 [],oD 13 1 12 [7],oA 14 1 3 [],oD 15 1 14 [9],oA 16 2 3 [],oD 17 1 16 [11],oN 18 (.build [(.int .i64 0),(.int .i64 0),(.int .i64 0)] [(0,(1,(.t 13))),(1,(1,(.t 15))),(2,(1,(.t 17)))]) [8,10,12],oN 19 (.call 190 [(.t 11),(.t 18)]) [6,13],oN 20 (.bin .sub (.t 9) (.t 19)) [4,14],oM 4 20 [15,14,0,1,2,3,4,5,6,7,8,9,10,11,12,13,14,15]] true) .ret))
theorem mcOkv166:okM Tryz.prog Tryz.f166 21=some mcv166:=by kernel_rfl
theorem vc166 (p:Pl) (x:Pt):FC Tryz.prog 166 [.agg (cPl p),.agg (cPt x)] [] (iv (JO p x)) [] false:=by
 refine Qj (nt:=21) Tryz.func166 rfl rfl mcOkv166 (nL rfl) ?_
 delta mcv166
 refine gA 12 rfl (QA rfl rfl rfl rfl (gR 9 rfl (cN rfl rfl (fc30 p.n ⟨x.x,x.y,x.z⟩) (gR 0 rfl (Xl rfl rfl rfl rfl (gR 1 rfl (QJ (by kernel_rfl) (gP 1 rfl ?_))))))))
 exact Qk <| Qc rfl rfl rfl (.inr rfl)
def mcv213:MC:=(.seq (.reg [oN 2 (.box 90 4 (.t 0)) [],oN 3 (.mv (.c (.bool false))) []] false) (.seq (.reg [oN 4 (.ld true 4 (.t 2)) [],oN 5 (.ld true 4 (.t 1)) [],oN 6 (.call 166 [(.t 4),(.t 5)]) [0,1],oN 7 (.bin .lss (.t 6) (.c (.int .i64 0))) [2],oM 3 7 [3,2,0,1,2,3]] false) .ret))
theorem mcOkv213:okM Tryz.prog Tryz.f213 8=some mcv213:=by kernel_rfl
theorem vc213 (x:Pt) (p:Pl):FC Tryz.prog 213 [.agg (cPl p),.rp (cPt x)] [] (.bool (outB x p)) [] false:=by
 refine Qj (nt:=8) Tryz.func213 rfl rfl mcOkv213 (nL rfl) ?_
 delta mcv213
 refine gA 9 rfl (cN rfl rfl (vc166 p x) (gR 4 rfl ?_))
 exact Qk <| Qc rfl rfl rfl (.inr rfl)
def mcv165:MC:=(.seq (.reg [oN 2 (.box 174 4 (.t 0)) [],oN 3 (.mv (.c (.bool false))) []] false) (.seq (.reg [oN 4 (.ld true 4 (.t 1)) [],oN 5 (.ld true 4 (.t 2)) [],oN 6 (.call 166 [(.t 4),(.t 5)]) [0,1],oN 7 (.bin .gtr (.t 6) (.c (.int .i64 0))) [2],oM 3 7 [3,2,0,1,2,3]] false) .ret))
theorem mcOkv165:okM Tryz.prog Tryz.f165 8=some mcv165:=by kernel_rfl
theorem vc165 (p:Pl) (x:Pt):FC Tryz.prog 165 [.agg (cPt x),.rp (cPl p)] [] (.bool (inB p x)) [] false:=by
 refine Qj (nt:=8) Tryz.func165 rfl rfl mcOkv165 (nL rfl) ?_
 delta mcv165
 refine gA 9 rfl (cN rfl rfl (vc166 p x) (gR 0 rfl (rs_gtr rfl rfl rfl (gR 3 rfl ?_))))
 exact Qk <| Qc rfl rfl rfl (.inr rfl)
def mcv181:MC:=(.seq (.reg [oN 4 (.mv (.c (.int .i64 0))) []] false) (.seq (.seq (.reg [oM 6 0 [],oN 7 (.len (.t 6)) [0],oN 8 (.mv (.c (.int .i64 0))) []] false) (.block 0 (.loop (.seq (.reg [oN 9 (.bin .lss (.t 8) (.t 7)) []] false) (.seq (.cond (.t 9) .skip (.exit 0)) (.seq (.block 1 (.seq (.reg [oM 10 8 [],oM 5 10 [0,0]] false) (.seq (.reg [oM 11 1 [],oM 12 0 [],oM 13 5 [],oN 14 (.ixsl 4 (.t 12) (.t 13)) [1,2],oN 15 (.ld true 4 (.t 14)) [3],oN 16 (.callv (.t 11) [(.t 15)]) [0,4]] false) (.cond (.t 16) (.seq (.reg [oM 17 5 [],oM 4 17 [0,0]] false) .ret) .skip)))) (.reg [oN 18 (.bin .add (.t 8) (.c (.int .i64 1))) [],oM 8 18 [0]] false))))))) (.seq (.reg [oN 4 (.mv (.c (.int .i64 (-1)))) []] false) .ret)))
theorem mcOkv181:okM Tryz.prog Tryz.f181 19=some mcv181:=by kernel_rfl
theorem vcI_outs (x0:Pt) (xs:List Pl) (hxn:xs.length<=4611686018427387904):FC Tryz.prog 181 [.rs 4 (xs.map cPl),(.fn (.func 213) [.rp (cPt x0)])] [] (.int .i64 (Xs (outB x0) xs 0)) [] false:=by
 refine Qj (nt:=19) Tryz.func181 rfl rfl mcOkv181 (nL rfl) ?_
 delta mcv181
 refine gA 8 rfl (Qh rfl rfl (gR 3 rfl ?_))
 refine Qr (α:=Nat) (fun k=>xs.length-k) (fun k=>[(0,.rs 4 (xs.map cPl)),(1,(.fn (.func 213) [.rp (cPt x0)])),(6,.rs 4 (xs.map cPl)),(7,iv (xs.length:Int)),(8,iv (((k):Nat):Int))]) (fun k=>[]) (fun k=>k<=xs.length/\Xs (outB x0) (xs.drop k) k=Xs (outB x0) xs 0) 0 (⟨by omega,rfl⟩)
  (Qa (Qb rfl rfl) (.nil) (fun i h=>by cases h)) ?_
 rintro k ⟨hk,hinv⟩
 refine gT 5 rfl (Qe rfl (fun h9=>?_) (fun h9=>?_))
 ·replace h9:=of_decide_eq_true h9
  refine gK 13 rfl ?_
  obtain ⟨x,hxk,hxm⟩:=Qo (L:=xs) (k:=k) (by omega)
  rw [JK hxk] at hinv
  refine Qp (f:=cPl) (y:=x) rfl rfl rfl (by omega) hxk (gR 0 rfl (QG (cs:=cPl x) rfl rfl (nL rfl) rfl (gR 0 rfl (Xb [] rfl rfl (by kernel_rfl) rfl (JI (vc213 x0 x)) (.cons (Qd rfl) (.cons (Qd rfl) (.nil))) .nil rfl rfl rfl ?_))))
  cases h16:(outB x0) x
  ·skip
   refine gR 4 rfl (Qg rfl rfl rfl (by omega) (gR 2 rfl ?_))
   rw [h16] at hinv
   exact Q8 <| ⟨k+1,⟨by omega,hinv⟩,by omega,Qa (Qb rfl rfl) (.nil) (fun i h=>by cases h)⟩
  ·skip
   refine gR 8 rfl ?_
   rw [h16] at hinv
   rw [← hinv]
   exact Qk <| Qc rfl rfl rfl (.inr rfl)
 ·replace h9:=of_decide_eq_false h9
  refine gK 6 rfl ?_
  rw [Ju (by omega)] at hinv
  rw [← hinv]
  exact Qk <| Qc rfl rfl rfl (.inr rfl)
def mcv155:MC:=(.seq (.reg [oN 4 (.mv (.c (.bool false))) []] false) (.seq (.reg [oM 5 0 [],oM 6 1 [],oN 7 (.call 181 [(.t 5),(.t 6)]) [0,1],oN 8 (.bin .geq (.t 7) (.c (.int .i64 0))) [2],oM 4 8 [3,2,0,1,2,3]] false) .ret))
theorem mcOkv155:okM Tryz.prog Tryz.f155 9=some mcv155:=by kernel_rfl
theorem vcC_outs (x0:Pt) (xs:List Pl) (hxn:xs.length<=4611686018427387904):FC Tryz.prog 155 [.rs 4 (xs.map cPl),(.fn (.func 213) [.rp (cPt x0)])] [] (.bool (xs.any (outB x0))) [] false:=by
 refine Qj (nt:=9) Tryz.func155 rfl rfl mcOkv155 (nL rfl) ?_
 delta mcv155
 refine gA 8 rfl (cN rfl rfl (vcI_outs x0 xs hxn) (gR 0 rfl (Jk rfl rfl rfl (gR 3 rfl ?_))))
 rw [← Jy]
 exact Qk <| Qc rfl rfl rfl (.inr rfl)
def mcv187:MC:=(.seq (.reg [oN 3 (.box 174 4 (.t 1)) [],oN 4 (.mv (.c (.bool false))) []] false) (.seq (.reg [oM 5 0 [],oN 6 (.mkfn (.func 213) [(.t 3)]) [],oN 7 (.call 155 [(.t 5),(.t 6)]) [0,1],oN 8 (.un .not (.t 7)) [2],oM 4 8 [3,2,0,1,2,3]] false) .ret))
theorem mcOkv187:okM Tryz.prog Tryz.f187 9=some mcv187:=by kernel_rfl
theorem vc187 (r:List Pl) (x:Pt) (hr:r.length<=1000):FC Tryz.prog 187 [.rs 4 (r.map cPl),.agg (cPt x)] [] (.bool (XX r x)) [] false:=by
 refine Qj (nt:=9) Tryz.func187 rfl rfl mcOkv187 (nL rfl) ?_
 delta mcv187
 refine gA 6 rfl (QE (F0:=[(0,.rs 4 (r.map cPl)),(3,.rp (cPt x))]) (H0:=[]) (Qa (.cs (.cons rfl (Xq rfl rfl (.inl rfl)) (.nil))) (.nil) (fun i h=>by cases h)) (gK 3 rfl (cN rfl rfl (vcC_outs x r (by omega)) (gR 4 rfl ?_))))
 exact Qk <| Qc rfl rfl rfl (.inr rfl)
def mcv189:MC:=(.seq (.reg [oN 4 (.mv (.c (.int .i64 0))) []] false) (.seq (.seq (.reg [oM 6 0 [],oN 7 (.len (.t 6)) [0],oN 8 (.mv (.c (.int .i64 0))) []] false) (.block 0 (.loop (.seq (.reg [oN 9 (.bin .lss (.t 8) (.t 7)) []] false) (.seq (.cond (.t 9) .skip (.exit 0)) (.seq (.block 1 (.seq (.reg [oM 10 8 [],oM 5 10 [0,0]] false) (.seq (.reg [oM 11 1 [],oM 12 0 [],oM 13 5 [],oN 14 (.ixsl 4 (.t 12) (.t 13)) [1,2],oN 15 (.ld true 4 (.t 14)) [3],oN 16 (.callv (.t 11) [(.t 15)]) [0,4]] false) (.cond (.t 16) (.seq (.reg [oM 17 5 [],oM 4 17 [0,0]] false) .ret) .skip)))) (.reg [oN 18 (.bin .add (.t 8) (.c (.int .i64 1))) [],oM 8 18 [0]] false))))))) (.seq (.reg [oN 4 (.mv (.c (.int .i64 (-1)))) []] false) .ret)))
theorem mcOkv189:okM Tryz.prog Tryz.f189 19=some mcv189:=by kernel_rfl
theorem vcI_ins (p0:Pl) (xs:List Pt) (hxn:xs.length<=4611686018427387904):FC Tryz.prog 189 [.rs 4 (xs.map cPt),(.fn (.func 165) [.rp (cPl p0)])] [] (.int .i64 (Xs (inB p0) xs 0)) [] false:=by
 refine Qj (nt:=19) Tryz.func189 rfl rfl mcOkv189 (nL rfl) ?_
 delta mcv189
 refine gA 8 rfl (Qh rfl rfl (gR 3 rfl ?_))
 refine Qr (α:=Nat) (fun k=>xs.length-k) (fun k=>[(0,.rs 4 (xs.map cPt)),(1,(.fn (.func 165) [.rp (cPl p0)])),(6,.rs 4 (xs.map cPt)),(7,iv (xs.length:Int)),(8,iv (((k):Nat):Int))]) (fun k=>[]) (fun k=>k<=xs.length/\Xs (inB p0) (xs.drop k) k=Xs (inB p0) xs 0) 0 (⟨by omega,rfl⟩)
  (Qa (Qb rfl rfl) (.nil) (fun i h=>by cases h)) ?_
 rintro k ⟨hk,hinv⟩
 refine gT 5 rfl (Qe rfl (fun h9=>?_) (fun h9=>?_))
 ·replace h9:=of_decide_eq_true h9
  refine gK 13 rfl ?_
  obtain ⟨x,hxk,hxm⟩:=Qo (L:=xs) (k:=k) (by omega)
  rw [JK hxk] at hinv
  refine Qp (f:=cPt) (y:=x) rfl rfl rfl (by omega) hxk (gR 0 rfl (QG (cs:=cPt x) rfl rfl (nL rfl) rfl (gR 0 rfl (Xb [] rfl rfl (by kernel_rfl) rfl (JI (vc165 p0 x)) (.cons (Qd rfl) (.cons (Qd rfl) (.nil))) .nil rfl rfl rfl ?_))))
  cases h16:(inB p0) x
  ·skip
   refine gR 4 rfl (Qg rfl rfl rfl (by omega) (gR 2 rfl ?_))
   rw [h16] at hinv
   exact Q8 <| ⟨k+1,⟨by omega,hinv⟩,by omega,Qa (Qb rfl rfl) (.nil) (fun i h=>by cases h)⟩
  ·skip
   refine gR 8 rfl ?_
   rw [h16] at hinv
   rw [← hinv]
   exact Qk <| Qc rfl rfl rfl (.inr rfl)
 ·replace h9:=of_decide_eq_false h9
  refine gK 6 rfl ?_
  rw [Ju (by omega)] at hinv
  rw [← hinv]
  exact Qk <| Qc rfl rfl rfl (.inr rfl)
def mcv164:MC:=(.seq (.reg [oN 4 (.mv (.c (.bool false))) []] false) (.seq (.reg [oM 5 0 [],oM 6 1 [],oN 7 (.call 189 [(.t 5),(.t 6)]) [0,1],oN 8 (.bin .geq (.t 7) (.c (.int .i64 0))) [2],oM 4 8 [3,2,0,1,2,3]] false) .ret))
theorem mcOkv164:okM Tryz.prog Tryz.f164 9=some mcv164:=by kernel_rfl
theorem vcC_ins (p0:Pl) (xs:List Pt) (hxn:xs.length<=4611686018427387904):FC Tryz.prog 164 [.rs 4 (xs.map cPt),(.fn (.func 165) [.rp (cPl p0)])] [] (.bool (xs.any (inB p0))) [] false:=by
 refine Qj (nt:=9) Tryz.func164 rfl rfl mcOkv164 (nL rfl) ?_
 delta mcv164
 refine gA 8 rfl (cN rfl rfl (vcI_ins p0 xs hxn) (gR 0 rfl (Jk rfl rfl rfl (gR 3 rfl ?_))))
 rw [← Jy]
 exact Qk <| Qc rfl rfl rfl (.inr rfl)
def mcv212:MC:=(.seq (.reg [oN 2 (.mv (.c (.int .i64 0))) []] false) (.seq (.reg [oN 3 (.mv (.c (.int .i64 0))) []] false) (.seq (.seq (.reg [oM 6 0 [],oN 7 (.len (.t 6)) [0],oN 8 (.mv (.c (.int .i64 0))) []] false) (.block 0 (.loop (.seq (.reg [oN 9 (.bin .lss (.t 8) (.t 7)) []] false) (.seq (.cond (.t 9) .skip (.exit 0)) (.seq (.block 1 (.seq (.reg [oN 10 (.ixsl 1 (.t 6) (.t 8)) [],oD 11 1 10 [0],oM 5 11 [1,0,1]] false) (.block 2 (.loop (.seq (.seq (.reg [oM 12 5 [],oN 13 (.bin .neq (.t 12) (.c (.int .i64 0))) [0]] false) (.cond (.t 13) .skip (.exit 2))) (.block 3 (.reg [oM 14 5 [],oM 15 3 [],oM 16 5 [],oN 17 (.bin .rem (.t 15) (.t 16)) [1,2],oM 3 14 [0,0,1],oM 5 17 [3,4,0,1,2,3,4]] true))))))) (.reg [oN 18 (.bin .add (.t 8) (.c (.int .i64 1))) [],oM 8 18 [0]] false))))))) (.seq (.reg [oM 19 3 [],oM 20 3 [],oN 21 (.un .neg (.t 20)) [1],oN 22 (.mx (.t 19) (.t 21)) [0,2],oM 2 22 [3,0,1,2,3]] false) .ret))))
theorem mcOkv212:okM Tryz.prog Tryz.f212 23=some mcv212:=by kernel_rfl
theorem vc212 (l:List Int) (hl:∀ x∈l,-1000000000000000<=x/\x<=1000000000000000) (hn:l.length<=1000):FC Tryz.prog 212 [ints l] [] (iv (gL l:Int)) [] false:=by
 refine Qj (nt:=23) Tryz.func212 rfl rfl mcOkv212 (nL rfl) ?_
 delta mcv212
 refine gA 12 rfl (Qh rfl rfl (gR 3 rfl ?_))
 refine Qr (α:=Nat×Int) (fun s=>l.length-s.1) (fun s=>[(6,ints l),(7,iv (l.length:Int)),(8,iv (((s.1):Nat):Int)),(3,iv (s.2))]) (fun s=>[]) (fun s=>s.1<=l.length/\s.2.natAbs=gL (l.take s.1)/\(-1000000000000000<=s.2/\s.2<=1000000000000000)) (0,0) (⟨by omega,rfl,by omega,by omega⟩)
  (Qa (Qb rfl rfl) (.nil) (fun i h=>by cases h)) ?_
 rintro ⟨k,g⟩ ⟨hk,hg,hgb⟩
 dsimp only at hk hg hgb ⊢
 refine gT 5 rfl (Qe rfl (fun h9=>?_) (fun h9=>?_))
 ·replace h9:=of_decide_eq_true h9
  refine gK 5 rfl ?_
  obtain ⟨x,hxk,hxm⟩:=Qo (L:=l) (k:=k) (by omega)
  have hxb:=hl x hxm
  refine Qp (f:=ci) (y:=x) rfl rfl rfl (by omega) hxk (gR 4 rfl ?_)
  refine Qr (α:=Int×Int) (fun u=>u.2.natAbs) (fun u=>[(6,ints l),(7,iv (l.length:Int)),(8,iv (((k):Nat):Int)),(3,iv u.1),(5,iv u.2)]) (fun u=>[]) (fun u=>Nat.gcd u.1.natAbs u.2.natAbs=Nat.gcd g.natAbs x.natAbs/\(-1000000000000000<=u.1/\u.1<=1000000000000000)/\(-1000000000000000<=u.2/\u.2<=1000000000000000)) (g,x) (⟨rfl,hgb,hxb⟩)
   (Qa (Qb rfl rfl) (.nil) (fun i h=>by cases h)) ?_
  rintro ⟨a,b⟩ ⟨hgc,hab,hbb⟩
  dsimp only at hgc hab hbb ⊢
  refine gT 4 rfl (Ja rfl rfl rfl (gR 1 rfl (Qe rfl (fun h13=>?_) (fun h13=>?_))))
  ·replace h13:=of_decide_eq_true h13
   refine gK 2 rfl ?_
   skip
   refine gI 4 rfl (XO rfl rfl rfl (by omega) rfl (gR 2 rfl (QJ (by kernel_rfl) (gP 0 rfl ?_))))
   have h1:=tmod_lt a b h13
   have h2:=gcd_st2 a b h13
   exact Q8 <| ⟨(b,a.tmod b),⟨by show Nat.gcd b.natAbs (a.tmod b).natAbs=_; rw [h2,hgc],hbb,by show _<=a.tmod b; omega,by show a.tmod b<=_; omega⟩,h1,Qa (Qb rfl rfl) (.nil) (fun i h=>by cases h)⟩
  ·replace h13:=of_decide_eq_false h13
   refine gK 2 rfl (Qg rfl rfl rfl (by omega) (gR 2 rfl (⟨(k+1,a),⟨by show k+1<=_; omega,?_,hab⟩,by show _-(k+1)<_; omega,Qa (Qb rfl rfl) (.nil) (fun i h=>by cases h)⟩)))
   show a.natAbs=gL (l.take (k+1))
   have hb0:b=0:=Decidable.byContradiction h13
   subst hb0
   rw [gL_succ hxk,← hg,← hgc]
   simp
 ·replace h9:=of_decide_eq_false h9
  refine gK 2 rfl ?_
  have hke:l.take k=l:=List.take_of_length_le (by omega)
  rw [hke] at hg
  refine gI 3 rfl (Jz rfl rfl (by omega) (gR 0 rfl (rs_mx (c:=(gL l:Int)) rfl rfl rfl (by omega) (gR 3 rfl ?_))))
  exact Qk <| Qc rfl rfl rfl (.inr rfl)
end Go.Proofs.YthfhaoogcpfboaaGreat
namespace Go.Proofs.YthfhaoogcpfboaaGreat
open Go.RowKit
set_option maxRecDepth 100000
set_option linter.unusedVariables false
def mcv186:MC:=(.seq (.reg [oN 1 (.box 215 12 (.t 0)) [],oN 2 (.alloc 174 4 [(.int .i64 0),(.int .i64 0),(.int .i64 0),(.int .i64 0)]) [],oN 3 (.mv (.c (.bool false))) []] false) (.seq (.reg [oN 4 (.alloc 88 3 [(.int .i64 0),(.int .i64 0),(.int .i64 0)]) []] false) (.seq (.reg [oN 5 (.mv (.c (.int .i64 0))) []] false) (.seq (.seq (.reg [oN 10 (.ld true 12 (.t 1)) [],oN 11 (.mv (.c (.int .i64 0))) []] false) (.block 0 (.loop (.seq (.reg [oN 12 (.bin .lss (.t 11) (.c (.int .i64 3))) []] false) (.seq (.cond (.t 12) .skip (.exit 0)) (.seq (.block 1 (.seq (.reg [oM 13 11 [],oN 14 (.ixval 3 4 true (.t 10) (.t 11)) [],oN 7 (.alloc 90 4 [(.int .i64 0),(.int .i64 0),(.int .i64 0),(.int .i64 0)]) [],oM 6 13 [0,0,1,2],⟨none,(.st 4 (.t 7) (.t 14)),none,[2,1,3,0,1,2,3]⟩] false) (.seq (.reg [oM 15 6 [],oN 16 (.bin .add (.t 15) (.c (.int .i64 1))) [0],oN 17 (.bin .rem (.t 16) (.c (.int .i64 3))) [1],oN 18 (.ixarr 3 4 (.t 1) (.t 17)) [2],oA 19 0 18 [3],oN 20 (.ld true 3 (.t 19)) [4],oM 21 6 [],oN 22 (.bin .add (.t 21) (.c (.int .i64 2))) [6],oN 23 (.bin .rem (.t 22) (.c (.int .i64 3))) [7],oN 24 (.ixarr 3 4 (.t 1) (.t 23)) [8],oA 25 0 24 [9],oN 26 (.ld true 3 (.t 25)) [10],oN 27 (.call 209 [(.t 20),(.t 26)]) [5,11],oN 8 (.alloc 88 3 [(.int .i64 0),(.int .i64 0),(.int .i64 0)]) [],⟨none,(.st 3 (.t 8) (.t 27)),none,[13,12,12,0,1,2,3,4,5,6,7,8,9,10,11,12,13]⟩] true) (.seq (.reg [oA 28 0 7 [],oN 29 (.ld true 3 (.t 28)) [0],oN 30 (.ld true 3 (.t 8)) [],oN 31 (.call 190 [(.t 29),(.t 30)]) [1,2],oM 5 31 [3,3,0,1,2,3]] false) (.reg [oN 32 (.ld true 3 (.t 4)) [],oN 33 (.ld true 3 (.t 8)) [],oA 34 3 7 [],oD 35 1 34 [2],oN 36 (.call 211 [(.t 33),(.t 35)]) [1,3],oN 37 (.call 210 [(.t 32),(.t 36)]) [0,4,4],⟨none,(.st 3 (.t 4) (.t 37)),none,[5,5,0,1,2,3,4,5]⟩] true))))) (.reg [oN 38 (.bin .add (.t 11) (.c (.int .i64 1))) [],oM 11 38 [0]] false))))))) (.seq (.seq (.reg [oM 39 5 [],oN 40 (.bin .eql (.t 39) (.c (.int .i64 0))) [0]] false) (.cond (.t 40) (.seq (.reg [oN 41 (.build [(.int .i64 0),(.int .i64 0),(.int .i64 0),(.int .i64 0)] []) [],⟨none,(.st 4 (.t 2) (.t 41)),none,[0,0]⟩,oN 3 (.mv (.c (.bool false))) [1,0,1]] false) .ret) .skip)) (.seq (.reg [oA 42 0 4 [],oD 43 1 42 [0],oA 44 1 4 [],oD 45 1 44 [2],oA 46 2 4 [],oD 47 1 46 [4],oM 48 5 [],oN 49 (.bslice 3 1 [(.int .i64 0)] 4 [(0,(.t 43)),(1,(.t 45)),(2,(.t 47)),(3,(.t 48))]) [1,3,5,6],oN 50 (.call 212 [(.t 49)]) [7],oM 9 50 [8,8,0,1,2,3,4,5,6,7,8]] false) (.seq (.seq (.reg [oM 51 5 [],oN 52 (.bin .lss (.t 51) (.c (.int .i64 0))) [0]] false) (.cond (.t 52) (.reg [oM 53 9 [],oN 54 (.un .neg (.t 53)) [0],oM 9 54 [1,0,1]] false) .skip)) (.seq (.reg [oA 55 0 4 [],oD 56 1 55 [0],oM 57 9 [],oN 58 (.bin .quo (.t 56) (.t 57)) [1,2],oA 59 1 4 [],oD 60 1 59 [4],oM 61 9 [],oN 62 (.bin .quo (.t 60) (.t 61)) [5,6],oA 63 2 4 [],oD 64 1 63 [8],oM 65 9 [],oN 66 (.bin .quo (.t 64) (.t 65)) [9,10],oM 67 5 [],oM 68 9 [],oN 69 (.bin .quo (.t 67) (.t 68)) [12,13],oN 70 (.build [(.int .i64 0),(.int .i64 0),(.int .i64 0),(.int .i64 0)] [(0,(1,(.t 58))),(1,(1,(.t 62))),(2,(1,(.t 66))),(3,(1,(.t 69)))]) [3,7,11,14],⟨none,(.st 4 (.t 2) (.t 70)),none,[15,0,1,2,3,4,5,6,7,8,9,10,11,12,13,14,15]⟩,oN 3 (.mv (.c (.bool true))) [16,0,1,2,3,4,5,6,7,8,9,10,11,12,13,14,15,16]] true) .ret))))))))
theorem mcOkv186:okM Tryz.prog Tryz.f186 71=some mcv186:=by kernel_rfl
theorem vc186_n (p q r:Pl) (h0:wd3 p q r=0):FC Tryz.prog 186 [.agg (c12 p q r)] [] (.tup [.agg [iv 0,iv 0,iv 0,iv 0],.bool false]) [] false:=by
 refine Qj (nt:=71) Tryz.func186 rfl rfl mcOkv186 (nL rfl) ?_
 delta mcv186
 refine gA 21 rfl ?_
 refine Qr (α:=Nat) (fun k=>3-k) (fun k=>[(1,.ptr 1 0 0),(2,.ptr 2 0 0),(3,.bool false),(4,.ptr 4 0 0),(5,iv (wdS p q r (k))),(10,.agg (c12 p q r)),(11,iv (((k):Nat):Int))]) (fun k=>[(1,.cells 215 12 [c12 p q r] true),(2,.cells 174 4 [[iv 0,iv 0,iv 0,iv 0]] true),(4,.cells 88 3 [cV (sumS p q r (k))] true)]) (fun k=>k<=3) 0 (by omega)
  (Qa (Qb rfl rfl) (.keep (rfl) rfl (.keep (rfl) rfl (.keep (rfl) rfl (.nil)))) (fun i h=>by cases h)) ?_
 intro k hk
 refine gT 5 rfl (Qe rfl (fun h12=>?_) (fun h12=>?_))
 ·replace h12:=of_decide_eq_true h12
  refine gK 5 rfl ?_
  obtain rfl | rfl | rfl:k=0\/k=1\/k=2:=by omega
  ·skip
   refine gI 1 rfl (rs_ixvala rfl rfl rfl (by omega) (by omega) (nL rfl) rfl (gR 7 rfl (Qg rfl rfl rfl (by omega) (gR 0 rfl (XO rfl rfl rfl (by decide) rfl (gR 0 rfl (Q0 rfl rfl rfl (by decide) (by decide) (gR 3 rfl (Qg rfl rfl rfl (by omega) (gR 0 rfl (XO rfl rfl rfl (by decide) rfl ?_)))))))))))
   refine gR 0 rfl (Q0 rfl rfl rfl (by decide) (by decide) (gR 2 rfl (cN rfl rfl (fc31 q.n r.n) (gR 2 rfl (QJ (by kernel_rfl) (gP 5 rfl (cN rfl rfl (fc30 p.n (QC q.n r.n)) (gR 7 rfl (cN rfl rfl (vc211 (QC q.n r.n) p.b) (gR 0 rfl (cN rfl rfl (fc28 (sumS p q r 0) (QQ (QC q.n r.n) p.b)) ?_)))))))))))
   refine gR 1 rfl (QJ (by kernel_rfl) (gP 1 rfl (Qg rfl rfl rfl (by omega) (gR 2 rfl ?_))))
   exact Q8 <| ⟨0+1,by omega,by omega,Qa (Qb rfl rfl) (.keep (rfl) rfl (.keep (rfl) rfl (.keep (rfl) rfl (.nil)))) (fun i h=>by cases h)⟩
  ·skip
   refine gI 1 rfl (rs_ixvala rfl rfl rfl (by omega) (by omega) (nL rfl) rfl (gR 7 rfl (Qg rfl rfl rfl (by omega) (gR 0 rfl (XO rfl rfl rfl (by decide) rfl (gR 0 rfl (Q0 rfl rfl rfl (by decide) (by decide) (gR 3 rfl (Qg rfl rfl rfl (by omega) (gR 0 rfl (XO rfl rfl rfl (by decide) rfl ?_)))))))))))
   refine gR 0 rfl (Q0 rfl rfl rfl (by decide) (by decide) (gR 2 rfl (cN rfl rfl (fc31 r.n p.n) (gR 2 rfl (QJ (by kernel_rfl) (gP 5 rfl (cN rfl rfl (fc30 q.n (QC r.n p.n)) (gR 7 rfl (cN rfl rfl (vc211 (QC r.n p.n) q.b) (gR 0 rfl (cN rfl rfl (fc28 (sumS p q r 1) (QQ (QC r.n p.n) q.b)) ?_)))))))))))
   refine gR 1 rfl (QJ (by kernel_rfl) (gP 1 rfl (Qg rfl rfl rfl (by omega) (gR 2 rfl ?_))))
   exact Q8 <| ⟨1+1,by omega,by omega,Qa (Qb rfl rfl) (.keep (rfl) rfl (.keep (rfl) rfl (.keep (rfl) rfl (.nil)))) (fun i h=>by cases h)⟩
  ·skip
   refine gI 1 rfl (rs_ixvala rfl rfl rfl (by omega) (by omega) (nL rfl) rfl (gR 7 rfl (Qg rfl rfl rfl (by omega) (gR 0 rfl (XO rfl rfl rfl (by decide) rfl (gR 0 rfl (Q0 rfl rfl rfl (by decide) (by decide) (gR 3 rfl (Qg rfl rfl rfl (by omega) (gR 0 rfl (XO rfl rfl rfl (by decide) rfl ?_)))))))))))
   refine gR 0 rfl (Q0 rfl rfl rfl (by decide) (by decide) (gR 2 rfl (cN rfl rfl (fc31 p.n q.n) (gR 2 rfl (QJ (by kernel_rfl) (gP 5 rfl (cN rfl rfl (fc30 r.n (QC p.n q.n)) (gR 7 rfl (cN rfl rfl (vc211 (QC p.n q.n) r.b) (gR 0 rfl (cN rfl rfl (fc28 (sumS p q r 2) (QQ (QC p.n q.n) r.b)) ?_)))))))))))
   refine gR 1 rfl (QJ (by kernel_rfl) (gP 1 rfl (Qg rfl rfl rfl (by omega) (gR 2 rfl ?_))))
   exact Q8 <| ⟨2+1,by omega,by omega,Qa (Qb rfl rfl) (.keep (rfl) rfl (.keep (rfl) rfl (.keep (rfl) rfl (.nil)))) (fun i h=>by cases h)⟩
 ·replace h12:=of_decide_eq_false h12
  refine gK 3 rfl ?_
  obtain rfl:k=3:=by omega
  refine gI 2 rfl (Js rfl rfl rfl rfl h0 (gR 9 rfl ?_))
  exact Qk <| Qs rfl (Xc (.cons (Q3 rfl (.inr rfl)) (.cons (Q3 rfl (.inr rfl)) .nil))) .nil
theorem vc186_s (p q r:Pl) (h0:wd3 p q r≠0) (hok:okT p q r=true):FC Tryz.prog 186 [.agg (c12 p q r)] [] (.tup [.agg (cPt (mtP p q r)),.bool true]) [] false:=by
 refine Qj (nt:=71) Tryz.func186 rfl rfl mcOkv186 (nL rfl) ?_
 delta mcv186
 refine gA 21 rfl ?_
 refine Qr (α:=Nat) (fun k=>3-k) (fun k=>[(1,.ptr 1 0 0),(2,.ptr 2 0 0),(3,.bool false),(4,.ptr 4 0 0),(5,iv (wdS p q r (k))),(10,.agg (c12 p q r)),(11,iv (((k):Nat):Int))]) (fun k=>[(1,.cells 215 12 [c12 p q r] true),(2,.cells 174 4 [[iv 0,iv 0,iv 0,iv 0]] true),(4,.cells 88 3 [cV (sumS p q r (k))] true)]) (fun k=>k<=3) 0 (by omega)
  (Qa (Qb rfl rfl) (.keep (rfl) rfl (.keep (rfl) rfl (.keep (rfl) rfl (.nil)))) (fun i h=>by cases h)) ?_
 intro k hk
 refine gT 5 rfl (Qe rfl (fun h12=>?_) (fun h12=>?_))
 ·replace h12:=of_decide_eq_true h12
  refine gK 5 rfl ?_
  obtain rfl | rfl | rfl:k=0\/k=1\/k=2:=by omega
  ·skip
   refine gI 1 rfl (rs_ixvala rfl rfl rfl (by omega) (by omega) (nL rfl) rfl (gR 7 rfl (Qg rfl rfl rfl (by omega) (gR 0 rfl (XO rfl rfl rfl (by decide) rfl (gR 0 rfl (Q0 rfl rfl rfl (by decide) (by decide) (gR 3 rfl (Qg rfl rfl rfl (by omega) (gR 0 rfl (XO rfl rfl rfl (by decide) rfl ?_)))))))))))
   refine gR 0 rfl (Q0 rfl rfl rfl (by decide) (by decide) (gR 2 rfl (cN rfl rfl (fc31 q.n r.n) (gR 2 rfl (QJ (by kernel_rfl) (gP 5 rfl (cN rfl rfl (fc30 p.n (QC q.n r.n)) (gR 7 rfl (cN rfl rfl (vc211 (QC q.n r.n) p.b) (gR 0 rfl (cN rfl rfl (fc28 (sumS p q r 0) (QQ (QC q.n r.n) p.b)) ?_)))))))))))
   refine gR 1 rfl (QJ (by kernel_rfl) (gP 1 rfl (Qg rfl rfl rfl (by omega) (gR 2 rfl ?_))))
   exact Q8 <| ⟨0+1,by omega,by omega,Qa (Qb rfl rfl) (.keep (rfl) rfl (.keep (rfl) rfl (.keep (rfl) rfl (.nil)))) (fun i h=>by cases h)⟩
  ·skip
   refine gI 1 rfl (rs_ixvala rfl rfl rfl (by omega) (by omega) (nL rfl) rfl (gR 7 rfl (Qg rfl rfl rfl (by omega) (gR 0 rfl (XO rfl rfl rfl (by decide) rfl (gR 0 rfl (Q0 rfl rfl rfl (by decide) (by decide) (gR 3 rfl (Qg rfl rfl rfl (by omega) (gR 0 rfl (XO rfl rfl rfl (by decide) rfl ?_)))))))))))
   refine gR 0 rfl (Q0 rfl rfl rfl (by decide) (by decide) (gR 2 rfl (cN rfl rfl (fc31 r.n p.n) (gR 2 rfl (QJ (by kernel_rfl) (gP 5 rfl (cN rfl rfl (fc30 q.n (QC r.n p.n)) (gR 7 rfl (cN rfl rfl (vc211 (QC r.n p.n) q.b) (gR 0 rfl (cN rfl rfl (fc28 (sumS p q r 1) (QQ (QC r.n p.n) q.b)) ?_)))))))))))
   refine gR 1 rfl (QJ (by kernel_rfl) (gP 1 rfl (Qg rfl rfl rfl (by omega) (gR 2 rfl ?_))))
   exact Q8 <| ⟨1+1,by omega,by omega,Qa (Qb rfl rfl) (.keep (rfl) rfl (.keep (rfl) rfl (.keep (rfl) rfl (.nil)))) (fun i h=>by cases h)⟩
  ·skip
   refine gI 1 rfl (rs_ixvala rfl rfl rfl (by omega) (by omega) (nL rfl) rfl (gR 7 rfl (Qg rfl rfl rfl (by omega) (gR 0 rfl (XO rfl rfl rfl (by decide) rfl (gR 0 rfl (Q0 rfl rfl rfl (by decide) (by decide) (gR 3 rfl (Qg rfl rfl rfl (by omega) (gR 0 rfl (XO rfl rfl rfl (by decide) rfl ?_)))))))))))
   refine gR 0 rfl (Q0 rfl rfl rfl (by decide) (by decide) (gR 2 rfl (cN rfl rfl (fc31 p.n q.n) (gR 2 rfl (QJ (by kernel_rfl) (gP 5 rfl (cN rfl rfl (fc30 r.n (QC p.n q.n)) (gR 7 rfl (cN rfl rfl (vc211 (QC p.n q.n) r.b) (gR 0 rfl (cN rfl rfl (fc28 (sumS p q r 2) (QQ (QC p.n q.n) r.b)) ?_)))))))))))
   refine gR 1 rfl (QJ (by kernel_rfl) (gP 1 rfl (Qg rfl rfl rfl (by omega) (gR 2 rfl ?_))))
   exact Q8 <| ⟨2+1,by omega,by omega,Qa (Qb rfl rfl) (.keep (rfl) rfl (.keep (rfl) rfl (.keep (rfl) rfl (.nil)))) (fun i h=>by cases h)⟩
 ·replace h12:=of_decide_eq_false h12
  refine gK 3 rfl ?_
  obtain rfl:k=3:=by omega
  refine gI 2 rfl (Xd rfl rfl rfl rfl h0 (gR 4 rfl ?_))
  have hgp:0<gL [(Xw p q r).x,(Xw p q r).y,(Xw p q r).z,wd3 p q r]:=gL_pos (x:=wd3 p q r) (by simp) h0
  have hgl:gL [(Xw p q r).x,(Xw p q r).y,(Xw p q r).z,wd3 p q r]<=1000000000000000:=gL_le (x:=wd3 p q r) (by simp) h0 (by have:=okT_all hok (wd3 p q r) (by simp); omega)
  refine gI 8 rfl (Qi (l:=(([(Xw p q r).x,(Xw p q r).y,(Xw p q r).z,wd3 p q r]:List Int)).flatMap ci) (els:=(([(Xw p q r).x,(Xw p q r).y,(Xw p q r).z,wd3 p q r]:List Int)).map ci) (fl:=true) rfl (by kernel_rfl) rfl rfl (by kernel_rfl) (by kernel_rfl) (gR 0 rfl (Qx [49] rfl rfl (vc212 [(Xw p q r).x,(Xw p q r).y,(Xw p q r).z,wd3 p q r] (okT_all hok) (by simp)) (.cons (QL (f:=ci) (xs:=[(Xw p q r).x,(Xw p q r).y,(Xw p q r).z,wd3 p q r]) (by simp) rfl rfl) (.nil)) rfl (gR 8 rfl (Qe rfl (fun h52=>?_) (fun h52=>?_))))))
  ·replace h52:=of_decide_eq_true h52
   refine gK 2 rfl (Jz rfl rfl (by omega) (gR 3 rfl ?_))
   have hg3 : -(gL [(Xw p q r).x,(Xw p q r).y,(Xw p q r).z,wd3 p q r]:Int)=g3 p q r:=(if_pos h52).symm
   have hg0:g3 p q r≠0:=by rw [← hg3]; omega
   rw [hg3]
   refine gI 4 rfl (Xm rfl rfl rfl hg0 rfl (gR 3 rfl (Xm rfl rfl rfl hg0 rfl (gR 3 rfl (Xm rfl rfl rfl hg0 rfl (gR 2 rfl (Xm rfl rfl rfl hg0 rfl (gR 3 rfl (QJ (by kernel_rfl) (gP 1 rfl ?_))))))))))
   exact Qk <| Qs rfl (Xc (.cons (Q3 rfl (.inr rfl)) (.cons (Q3 rfl (.inr rfl)) .nil))) .nil
  ·replace h52:=of_decide_eq_false h52
   refine gK 2 rfl ?_
   have hg3:(gL [(Xw p q r).x,(Xw p q r).y,(Xw p q r).z,wd3 p q r]:Int)=g3 p q r:=(if_neg h52).symm
   have hg0:g3 p q r≠0:=by rw [← hg3]; omega
   rw [hg3]
   refine gI 4 rfl (Xm rfl rfl rfl hg0 rfl (gR 3 rfl (Xm rfl rfl rfl hg0 rfl (gR 3 rfl (Xm rfl rfl rfl hg0 rfl (gR 2 rfl (Xm rfl rfl rfl hg0 rfl (gR 3 rfl (QJ (by kernel_rfl) (gP 1 rfl ?_))))))))))
   exact Qk <| Qs rfl (Xc (.cons (Q3 rfl (.inr rfl)) (.cons (Q3 rfl (.inr rfl)) .nil))) .nil
def mcv185:MC:=(.seq (.reg [oN 1 (.box 167 1 (.t 0)) [],oN 2 (.mv (.c .nilf)) []] false) (.seq (.reg [oN 3 (.mkfn (.func 208) [(.t 1)]) [],oM 2 3 [0,0]] false) .ret))
theorem mcOkv185:okM Tryz.prog Tryz.f185 4=some mcv185:=by kernel_rfl
theorem vc185 (r:List Pl):FC Tryz.prog 185 [.rs 4 (r.map cPl)] [] (.fn (.func 208) [.rp [.rs 4 (r.map cPl)]]) [] true:=by
 refine Qj (nt:=4) Tryz.func185 rfl rfl mcOkv185 (nL rfl) ?_
 delta mcv185
 refine gA 11 rfl ?_
 exact Qk <| Qs rfl (rc_fnr (.cons (Xq rfl rfl (.inl rfl)) .nil)) .nil
end Go.Proofs.YthfhaoogcpfboaaGreat
namespace Go.Proofs.YthfhaoogcpfboaaGreat
open Go.RowKit
set_option maxRecDepth 100000
set_option linter.unusedVariables false
abbrev ptK (x:Pt):List Int:=[x.x,x.y,x.z,x.w]
theorem ptK_len (l:List Pt):∀ q∈l.map ptK,q.length=4:=fun q hq=>by
 obtain ⟨x,_,rfl⟩:=List.mem_map.1 hq; rfl
def Jg (r:List Pl) (l:List Pt) (p q s:Pl):List Pt:=if wd3 p q s=0 then l else if ptK (mtP p q s)∈l.map ptK then l else if XX r (mtP p q s)=true then l++[mtP p q s] else l
def innS (r:List Pl) (p q:Pl):List Pt->List Pl->List Pt
 | l,[]=>l
 | l,s::t=>innS r p q (Jg r l p q s) t
def midS (r:List Pl) (p:Pl):List Pt->List Pl->List Pt
 | l,[]=>l
 | l,q::t=>midS r p (innS r p q l t) t
def topS (r:List Pl):List Pt->List Pl->List Pt
 | l,[]=>l
 | l,p::t=>topS r (midS r p l t) t
def Xo (r:List Pl):List Pt:=topS r [] r
def okMid (p:Pl):List Pl->Bool
 | []=>true
 | q::t=>t.all (okT p q)&&okMid p t
def okTop:List Pl->Bool
 | []=>true
 | p::t=>okMid p t&&okTop t
theorem okTop_at:∀ {r:List Pl} {i:Nat} {p:Pl},okTop r=true->r[i]?=some p->okMid p (r.drop (i+1))=true
 | [],i,p,_,h=>by simp at h
 | a::r,0,p,h,hp=>by
  simp at hp; subst hp
  simp only [okTop,Bool.and_eq_true] at h
  exact h.1
 | a::r,i+1,p,h,hp=>by
  simp only [okTop,Bool.and_eq_true] at h
  exact okTop_at (r:=r) (i:=i) h.2 (by simpa using hp)
theorem okMid_at:∀ {p:Pl} {t:List Pl} {j:Nat} {q:Pl},okMid p t=true->t[j]?=some q->(t.drop (j+1)).all (okT p q)=true
 | p,[],j,q,_,h=>by simp at h
 | p,a::t,0,q,h,hq=>by
  simp at hq; subst hq
  simp only [okMid,Bool.and_eq_true] at h
  exact h.1
 | p,a::t,j+1,q,h,hq=>by
  simp only [okMid,Bool.and_eq_true] at h
  exact okMid_at (t:=t) (j:=j) h.2 (by simpa using hq)
theorem Jo {α:Type} {l:List α} {k:Nat} {x:α} (h:l[k]?=some x):l.drop k=x::l.drop (k+1):=by
 obtain ⟨hk,e⟩:=List.getElem?_eq_some_iff.1 h
 rw [List.drop_eq_getElem_cons hk,e]
theorem topS_at {r:List Pl} {l:List Pt} {k:Nat} {p:Pl} (h:r[k]?=some p):topS r l (r.drop k)=topS r (midS r p l (r.drop (k+1))) (r.drop (k+1)):=by rw [Jo h]; rfl
theorem midS_at {r t:List Pl} {p:Pl} {l:List Pt} {k:Nat} {q:Pl} (h:t[k]?=some q):midS r p l (t.drop k)=midS r p (innS r p q l (t.drop (k+1))) (t.drop (k+1)):=by rw [Jo h]; rfl
theorem innS_at {r t:List Pl} {p q:Pl} {l:List Pt} {k:Nat} {s:Pl} (h:t[k]?=some s):innS r p q l (t.drop k)=innS r p q (Jg r l p q s) (t.drop (k+1)):=by rw [Jo h]; rfl
theorem accS_len (r:List Pl) (l:List Pt) (p q s:Pl):(Jg r l p q s).length<=l.length+1:=by
 unfold Jg
 split
 ·omega
 ·split
  ·omega
  ·split
   ·rw [Xz]; omega
   ·omega
theorem slc_drop (r:List Pl) (m:Nat) {l:Int} (h:l=(m:Int)):(((r.map cPl).drop l.toNat).take ((((r.map cPl).length:Nat):Int).toNat-l.toNat))=(r.drop m).map cPl:=by
 subst h
 rw [← List.map_drop,List.take_of_length_le (by simp)]; rfl
theorem map_snocK (l:List Pt) (x:Pt):(l++[x]).map ptK=l.map ptK++[ptK x]:=by simp
theorem acc_1 {r:List Pl} {l:List Pt} {p q s:Pl} (h:wd3 p q s=0):Jg r l p q s=l:=if_pos h
theorem acc_2 {r:List Pl} {l:List Pt} {p q s:Pl} (h:wd3 p q s≠0) (h2:decide (ptK (mtP p q s)∈l.map ptK)=true):Jg r l p q s=l:=by unfold Jg; rw [if_neg h,if_pos (of_decide_eq_true h2)]
theorem acc_3 {r:List Pl} {l:List Pt} {p q s:Pl} (h:wd3 p q s≠0) (h2:decide (ptK (mtP p q s)∈l.map ptK)=false) (h3:XX r (mtP p q s)=true):Jg r l p q s=l++[mtP p q s]:=by unfold Jg; rw [if_neg h,if_neg (of_decide_eq_false h2),if_pos h3]
theorem acc_4 {r:List Pl} {l:List Pt} {p q s:Pl} (h:wd3 p q s≠0) (h2:decide (ptK (mtP p q s)∈l.map ptK)=false) (h3:XX r (mtP p q s)=false):Jg r l p q s=l:=by unfold Jg; rw [if_neg h,if_neg (of_decide_eq_false h2),if_neg (by rw [h3]; decide)]
def as161:MC:=(.reg [oN 5 (.alloc 215 12 [(.int .i64 0),(.int .i64 0),(.int .i64 0),(.int .i64 0),(.int .i64 0),(.int .i64 0),(.int .i64 0),(.int .i64 0),(.int .i64 0),(.int .i64 0),(.int .i64 0),(.int .i64 0)]) [],⟨none,(.st 12 (.t 5) (.t 11)),none,[0,0]⟩] false)
def bd161:MC:=(.block 1 (.seq (.reg [oN 13 (.ld true 12 (.t 5)) [],oN 14 (.call 186 [(.t 13)]) [0],oM 12 14 [1],oN 15 (.ext (.t 12) 0) [2],oN 16 (.ext (.t 12) 1) [2],oN 6 (.alloc 174 4 [(.int .i64 0),(.int .i64 0),(.int .i64 0),(.int .i64 0)]) [],⟨none,(.st 4 (.t 6) (.t 15)),none,[5,3,1,0,1,2,3,5]⟩,oM 7 16 [4,6,0,1,2,3,4,5,6]] false) (.seq (.reg [oM 17 7 [],oM 18 17 [0],pD 19 1 4 18 true [1],oG 20 (.ld true 4 (.t 6)) 18 true [1],oG 21 (.mhas 4 (.t 19) (.t 20)) 18 true [2,3,1],oG 22 (.un .not (.t 21)) 18 true [4,1],oN 23 (.pick (.t 18) (.t 22) (.c (.bool false))) [1,5],oM 24 23 [6,1],pD 25 1 1 24 true [7],oG 26 (.ld true 4 (.t 6)) 24 true [7],oG 27 (.call 187 [(.t 25),(.t 26)]) 24 true [8,9,7,7],oN 28 (.pick (.t 24) (.t 27) (.c (.bool false))) [7,10]] false) (.cond (.t 28) (.seq (.reg [oD 29 1 4 [],oN 30 (.ld true 4 (.t 6)) [],⟨none,(.mapadd 4 (.t 29) (.t 30) (.c (.bool true))),none,[0,1,0,1]⟩] false) (.reg [oD 31 1 3 [],oN 32 (.ld true 4 (.t 6)) [],oN 33 (.bslice 174 4 [(.int .i64 0),(.int .i64 0),(.int .i64 0),(.int .i64 0)] 1 [(0,(.t 32))]) [1],oN 34 (.app 174 4 32 [(.int .i64 0),(.int .i64 0),(.int .i64 0),(.int .i64 0)] (.t 31) (.t 33)) [0,2],⟨none,(.st 1 (.t 3) (.t 34)),none,[3,3,0,1,2,3]⟩] false)) .skip))))
theorem as161w (r:List Pl) (hr:r.length<=110) (p q s:Pl) (hok:okT p q s=true) (l:List Pt) (hl:l.length<=2000000) (o:Loop) (lb:Nat):AW Tryz.prog 36 [900,1003,903,1004,1008] (some lb) as161 (fun e F' H'=>e = .normal/\Weak 36 [900,1003,903,1004,1008] F' H' [(5,.ptr 5 0 0),(1,.rp [.rs 4 (r.map cPl)]),(3,.ptr 1003 0 0),(4,.ptr 1004 0 0)] [(900,.lp o [(10,.fn (.func 208) [.rp [.rs 4 (r.map cPl)]]),(1,.rp [.rs 4 (r.map cPl)]),(3,.ptr 1003 0 0),(4,.ptr 1004 0 0)]),(1003,.cells 170 1 [[.sl 903 0 (l).length]] false),(903,.cells 174 4 ((l).map cPt) true),(1004,.cells 211 1 [[.mp 1008]] false),(1008,.mset ((l).map ptK)),(5,.cells 215 12 [c12 p q s] true)]) [(11,.agg (c12 p q s)),(10,.fn (.func 208) [.rp [.rs 4 (r.map cPl)]]),(1,.rp [.rs 4 (r.map cPl)]),(3,.ptr 1003 0 0),(4,.ptr 1004 0 0)] [(900,.lp o [(10,.fn (.func 208) [.rp [.rs 4 (r.map cPl)]]),(1,.rp [.rs 4 (r.map cPl)]),(3,.ptr 1003 0 0),(4,.ptr 1004 0 0)]),(1003,.cells 170 1 [[.sl 903 0 (l).length]] false),(903,.cells 174 4 ((l).map cPt) true),(1004,.cells 211 1 [[.mp 1008]] false),(1008,.mset ((l).map ptK))]:=by
 delta as161
 refine gA 4 rfl ?_
 exact Qk <| ⟨rfl,Qa (Qb rfl rfl) (.keep (rfl) rfl (.keep (rfl) rfl (.keep (rfl) rfl (.keep (rfl) rfl (.keep (rfl) rfl (.keep (rfl) rfl (.nil))))))) (fun i hi=>by simp [Qf] at hi ⊢; omega)⟩
theorem bd161w (r:List Pl) (hr:r.length<=110) (p q s:Pl) (hok:okT p q s=true) (l:List Pt) (hl:l.length<=2000000) (o:Loop) (lb:Nat):AW Tryz.prog 36 [900,1003,903,1004,1008] (some lb) bd161 (fun e F' H'=>e = .normal/\Weak 36 [900,1003,903,1004,1008] F' H' [] [(900,.lp o [(10,.fn (.func 208) [.rp [.rs 4 (r.map cPl)]]),(1,.rp [.rs 4 (r.map cPl)]),(3,.ptr 1003 0 0),(4,.ptr 1004 0 0)]),(1003,.cells 170 1 [[.sl 904 0 (Jg r l p q s).length]] false),(904,.cells 174 4 ((Jg r l p q s).map cPt) true),(1004,.cells 211 1 [[.mp 1008]] false),(1008,.mset ((Jg r l p q s).map ptK)),(903,.dead)]) [(5,.ptr 5 0 0),(1,.rp [.rs 4 (r.map cPl)]),(3,.ptr 1003 0 0),(4,.ptr 1004 0 0)] [(900,.lp o [(10,.fn (.func 208) [.rp [.rs 4 (r.map cPl)]]),(1,.rp [.rs 4 (r.map cPl)]),(3,.ptr 1003 0 0),(4,.ptr 1004 0 0)]),(1003,.cells 170 1 [[.sl 903 0 (l).length]] false),(903,.cells 174 4 ((l).map cPt) true),(1004,.cells 211 1 [[.mp 1008]] false),(1008,.mset ((l).map ptK)),(5,.cells 215 12 [c12 p q s] true)]:=by
 delta bd161
 refine gA 4 rfl ?_
 by_cases h0:wd3 p q s=0
 ·skip
  refine cN rfl rfl (vc186_n p q s h0) (gR 24 rfl ?_)
  rw [acc_1 h0]
  exact Qk <| ⟨rfl,(Weak.trans (F1:=[]) (H1:=[(900,.lp o [(10,.fn (.func 208) [.rp [.rs 4 (r.map cPl)]]),(1,.rp [.rs 4 (r.map cPl)]),(3,.ptr 1003 0 0),(4,.ptr 1004 0 0)]),(1003,.cells 170 1 [[.sl 903 0 (l).length]] false),(903,.cells 174 4 ((l).map cPt) true),(1004,.cells 211 1 [[.mp 1008]] false),(1008,.mset ((l).map ptK))]) (Qa (.nil) (.keep (rfl) rfl (.keep (rfl) rfl (.keep (rfl) rfl (.keep (rfl) rfl (.keep (rfl) rfl (.nil)))))) (fun i hi=>by simp [Qf] at hi ⊢; omega)) (Weak.trans (F1:=[]) (Qt (i:=903) (i':=904) (k:=1003) rfl rfl (.nil) (by decide) rfl (.sl _ _)) (Qa (.nil) (.keep (rfl) rfl (.keep (rfl) rfl (.keep (rfl) rfl (.keep (rfl) rfl (.keep (rfl) rfl (.keep (rfl) rfl (.nil))))))) (fun i hi=>by simp [Qf] at hi ⊢; omega))))⟩
 ·skip
  refine cN rfl rfl (vc186_s p q s h0 hok) (gR 13 rfl (rs_mhas (l:=ptK (mtP p q s)) rfl rfl rfl rfl rfl rfl (ptK_len l) ?_))
  cases h21:decide (ptK (mtP p q s)∈l.map ptK)
  ·skip
   refine gR 5 rfl (cN rfl rfl (vc187 r (mtP p q s) (by omega)) ?_)
   cases h27:XX r (mtP p q s)
   ·skip
    refine gR 4 rfl ?_
    rw [acc_4 h0 h21 h27]
    exact Qk <| ⟨rfl,(Weak.trans (F1:=[]) (H1:=[(900,.lp o [(10,.fn (.func 208) [.rp [.rs 4 (r.map cPl)]]),(1,.rp [.rs 4 (r.map cPl)]),(3,.ptr 1003 0 0),(4,.ptr 1004 0 0)]),(1003,.cells 170 1 [[.sl 903 0 (l).length]] false),(903,.cells 174 4 ((l).map cPt) true),(1004,.cells 211 1 [[.mp 1008]] false),(1008,.mset ((l).map ptK))]) (Qa (.nil) (.keep (rfl) rfl (.keep (rfl) rfl (.keep (rfl) rfl (.keep (rfl) rfl (.keep (rfl) rfl (.nil)))))) (fun i hi=>by simp [Qf] at hi ⊢; omega)) (Weak.trans (F1:=[]) (Qt (i:=903) (i':=904) (k:=1003) rfl rfl (.nil) (by decide) rfl (.sl _ _)) (Qa (.nil) (.keep (rfl) rfl (.keep (rfl) rfl (.keep (rfl) rfl (.keep (rfl) rfl (.keep (rfl) rfl (.keep (rfl) rfl (.nil))))))) (fun i hi=>by simp [Qf] at hi ⊢; omega))))⟩
   ·skip
    refine gR 7 rfl (rs_mapadd (l:=ptK (mtP p q s)) rfl rfl rfl rfl rfl rfl rfl (ptK_len l) (of_decide_eq_false h21) (gR 4 rfl (Qi (l:=(([mtP p q s]:List Pt)).flatMap cPt) (els:=(([mtP p q s]:List Pt)).map cPt) (fl:=true) rfl (by kernel_rfl) rfl rfl (by kernel_rfl) (by kernel_rfl) (gR 0 rfl (QB (f:=cPt) (xs:=l) (y:=mtP p q s) (fl':=true) rfl rfl rfl rfl (rfl) rfl rfl rfl (by decide) rfl (by omega) (by omega) rfl (gR 2 rfl ?_))))))
    rw [acc_3 h0 h21 h27]
    exact Qk <| ⟨rfl,(Weak.trans (F1:=[]) (H1:=[(900,.lp o [(10,.fn (.func 208) [.rp [.rs 4 (r.map cPl)]]),(1,.rp [.rs 4 (r.map cPl)]),(3,.ptr 1003 0 0),(4,.ptr 1004 0 0)]),(1003,.cells 170 1 [[.sl 34 0 (l++[mtP p q s]).length]] false),(34,.cells 174 4 ((l++[mtP p q s]).map cPt) true),(1004,.cells 211 1 [[.mp 1008]] false),(1008,.mset ((l++[mtP p q s]).map ptK)),(903,.dead)]) (Qa (.nil) (.keep (rfl) rfl (.keep (by rw [Xz]; rfl) rfl (.keep (rfl) rfl (.keep (rfl) rfl (.keep (by rw [map_snocK]; rfl) rfl (.keep (rfl) rfl (.nil))))))) (fun i hi=>by simp [Qf] at hi ⊢; omega)) (Weak.trans (F1:=[]) (Qt (i:=34) (i':=904) (k:=1003) rfl rfl (.nil) (by decide) rfl (.sl _ _)) (Qa (.nil) (.keep (rfl) rfl (.keep (rfl) rfl (.keep (rfl) rfl (.keep (rfl) rfl (.keep (rfl) rfl (.keep (rfl) rfl (.nil))))))) (fun i hi=>by simp [Qf] at hi ⊢; omega))))⟩
  ·skip
   refine gR 10 rfl ?_
   rw [acc_2 h0 h21]
   exact Qk <| ⟨rfl,(Weak.trans (F1:=[]) (H1:=[(900,.lp o [(10,.fn (.func 208) [.rp [.rs 4 (r.map cPl)]]),(1,.rp [.rs 4 (r.map cPl)]),(3,.ptr 1003 0 0),(4,.ptr 1004 0 0)]),(1003,.cells 170 1 [[.sl 903 0 (l).length]] false),(903,.cells 174 4 ((l).map cPt) true),(1004,.cells 211 1 [[.mp 1008]] false),(1008,.mset ((l).map ptK))]) (Qa (.nil) (.keep (rfl) rfl (.keep (rfl) rfl (.keep (rfl) rfl (.keep (rfl) rfl (.keep (rfl) rfl (.nil)))))) (fun i hi=>by simp [Qf] at hi ⊢; omega)) (Weak.trans (F1:=[]) (Qt (i:=903) (i':=904) (k:=1003) rfl rfl (.nil) (by decide) rfl (.sl _ _)) (Qa (.nil) (.keep (rfl) rfl (.keep (rfl) rfl (.keep (rfl) rfl (.keep (rfl) rfl (.keep (rfl) rfl (.keep (rfl) rfl (.nil))))))) (fun i hi=>by simp [Qf] at hi ⊢; omega))))⟩
theorem y161 (r:List Pl) (hr:r.length<=110) (p q s:Pl) (hok:okT p q s=true) (l:List Pt) (hl:l.length<=2000000) (r0:Loop) (h:Rec0 Tryz.prog 36 [11] as161 bd161 r0) :
  FCg (XM Tryz.prog) [.yl 900,.agg (c12 p q s)] [(900,.lp r0 [(10,.fn (.func 208) [.rp [.rs 4 (r.map cPl)]]),(1,.rp [.rs 4 (r.map cPl)]),(3,.ptr 1003 0 0),(4,.ptr 1004 0 0)]),(1003,.cells 170 1 [[.sl 903 0 (l).length]] false),(903,.cells 174 4 ((l).map cPt) true),(1004,.cells 211 1 [[.mp 1008]] false),(1008,.mset ((l).map ptK))] (.bool true) [(900,.lp r0 [(10,.fn (.func 208) [.rp [.rs 4 (r.map cPl)]]),(1,.rp [.rs 4 (r.map cPl)]),(3,.ptr 1003 0 0),(4,.ptr 1004 0 0)]),(1003,.cells 170 1 [[.sl 904 0 (Jg r l p q s).length]] false),(904,.cells 174 4 ((Jg r l p q s).map cPt) true),(1004,.cells 211 1 [[.mp 1008]] false),(1008,.mset ((Jg r l p q s).map ptK)),(903,.dead)] true:=by
 have:=J9 (P:=Tryz.prog) (F:=[(10,.fn (.func 208) [.rp [.rs 4 (r.map cPl)]]),(1,.rp [.rs 4 (r.map cPl)]),(3,.ptr 1003 0 0),(4,.ptr 1004 0 0)]) (N:=36) (x:=as161) (y:=bd161) h.ca h.cb (li:=900) (ps:=[11]) (vs:=[.agg (c12 p q s)]) (J:=[(1003,.cells 170 1 [[.sl 903 0 (l).length]] false),(903,.cells 174 4 ((l).map cPt) true),(1004,.cells 211 1 [[.mp 1008]] false),(1008,.mset ((l).map ptK))]) (J1:=[(1003,.cells 170 1 [[.sl 903 0 (l).length]] false),(903,.cells 174 4 ((l).map cPt) true),(1004,.cells 211 1 [[.mp 1008]] false),(1008,.mset ((l).map ptK)),(5,.cells 215 12 [c12 p q s] true)]) (J':=[(1003,.cells 170 1 [[.sl 904 0 (Jg r l p q s).length]] false),(904,.cells 174 4 ((Jg r l p q s).map cPt) true),(1004,.cells 211 1 [[.mp 1008]] false),(1008,.mset ((Jg r l p q s).map ptK)),(903,.dead)]) (Fb:=[(5,.ptr 5 0 0),(1,.rp [.rs 4 (r.map cPl)]),(3,.ptr 1003 0 0),(4,.ptr 1004 0 0)]) (Z0:=[900,1003,903,1004,1008]) .normal none (.inl ⟨rfl,rfl⟩)
  rfl rfl (fun i hi=>Q7.1 hi) (by simp) (fun i h=>Q7.2 h) (fun i hi=>Q7.1 (by simp [Qf] at hi ⊢; omega)) h.state h.params rfl rfl h.size (fun t v h=>get_mem h) (fun lb o=>as161w r hr p q s hok l hl o lb) (fun lb o=>bd161w r hr p q s hok l hl o lb)
 rw [rec_same h.state h.pending] at this
 exact this
def mcv208:MC:=(.seq (.reg [oD 9 1 1 [],oN 10 (.len (.t 9)) [0],oN 11 (.mv (.c (.int .i64 0))) []] false) (.block 0 (.loop (.seq (.reg [oN 12 (.bin .lss (.t 11) (.t 10)) []] false) (.seq (.cond (.t 12) .skip (.exit 0)) (.seq (.block 1 (.seq (.reg [oM 13 11 [],oN 14 (.ixsl 4 (.t 9) (.t 11)) [],oN 15 (.ld true 4 (.t 14)) [1],oN 4 (.alloc 90 4 [(.int .i64 0),(.int .i64 0),(.int .i64 0),(.int .i64 0)]) [],oM 3 13 [0,0,1,2,3],⟨none,(.st 4 (.t 4) (.t 15)),none,[3,2,4,0,1,2,3,4]⟩] false) (.seq (.reg [oD 16 1 1 [],oM 17 3 [],oN 18 (.bin .add (.t 17) (.c (.int .i64 1))) [1],oN 19 (.slc 4 (.t 16) (some (.t 18)) none) [0,2],oN 20 (.len (.t 19)) [3],oN 21 (.mv (.c (.int .i64 0))) []] false) (.block 2 (.loop (.seq (.reg [oN 22 (.bin .lss (.t 21) (.t 20)) []] false) (.seq (.cond (.t 22) .skip (.exit 2)) (.seq (.block 3 (.seq (.reg [oM 23 21 [],oN 24 (.ixsl 4 (.t 19) (.t 21)) [],oN 25 (.ld true 4 (.t 24)) [1],oN 6 (.alloc 90 4 [(.int .i64 0),(.int .i64 0),(.int .i64 0),(.int .i64 0)]) [],oM 5 23 [0,0,1,2,3],⟨none,(.st 4 (.t 6) (.t 25)),none,[3,2,4,0,1,2,3,4]⟩] false) (.seq (.reg [oD 26 1 1 [],oM 27 3 [],oM 28 5 [],oN 29 (.bin .add (.t 27) (.t 28)) [1,2],oN 30 (.bin .add (.t 29) (.c (.int .i64 2))) [3],oN 31 (.slc 4 (.t 26) (some (.t 30)) none) [0,4],oN 32 (.len (.t 31)) [5],oN 33 (.mv (.c (.int .i64 0))) []] false) (.block 4 (.loop (.seq (.reg [oN 34 (.bin .lss (.t 33) (.t 32)) []] false) (.seq (.cond (.t 34) .skip (.exit 4)) (.seq (.block 5 (.seq (.reg [oN 35 (.ixsl 4 (.t 31) (.t 33)) [],oN 36 (.ld true 4 (.t 35)) [0],oN 8 (.alloc 90 4 [(.int .i64 0),(.int .i64 0),(.int .i64 0),(.int .i64 0)]) [],⟨none,(.st 4 (.t 8) (.t 36)),none,[2,1,0,1,2]⟩] false) (.seq (.reg [oM 37 0 [],oN 38 (.ld true 4 (.t 4)) [],oN 39 (.ld true 4 (.t 6)) [],oN 40 (.ld true 4 (.t 8)) [],oN 41 (.build [(.int .i64 0),(.int .i64 0),(.int .i64 0),(.int .i64 0),(.int .i64 0),(.int .i64 0),(.int .i64 0),(.int .i64 0),(.int .i64 0),(.int .i64 0),(.int .i64 0),(.int .i64 0)] [(0,(4,(.t 38))),(4,(4,(.t 39))),(8,(4,(.t 40)))]) [1,2,3],oN 42 (.callv (.t 37) [(.t 41)]) [0,4],oN 43 (.un .not (.t 42)) [5]] false) (.cond (.t 43) .ret .skip)))) (.reg [oN 44 (.bin .add (.t 33) (.c (.int .i64 1))) [],oM 33 44 [0]] false))))))))) (.reg [oN 45 (.bin .add (.t 21) (.c (.int .i64 1))) [],oM 21 45 [0]] false))))))))) (.reg [oN 46 (.bin .add (.t 11) (.c (.int .i64 1))) [],oM 11 46 [0]] false)))))))
theorem mcOkv208:okM Tryz.prog Tryz.f208 47=some mcv208:=by kernel_rfl
theorem vc208 (r:List Pl) (hr:r.length<=110) (hok:okTop r=true) (r0:Loop) (h:Rec0 Tryz.prog 36 [11] as161 bd161 r0):FC Tryz.prog 208 [.yl 900,.rp [.rs 4 (r.map cPl)]] [(900,.lp r0 [(10,.fn (.func 208) [.rp [.rs 4 (r.map cPl)]]),(1,.rp [.rs 4 (r.map cPl)]),(3,.ptr 1003 0 0),(4,.ptr 1004 0 0)]),(1003,.cells 170 1 [[.sl 901 0 (([]:List Pt)).length]] false),(901,.cells 174 4 ((([]:List Pt)).map cPt) true),(1004,.cells 211 1 [[.mp 1008]] false),(1008,.mset ((([]:List Pt)).map ptK))] (.tup []) [(900,.lp r0 [(10,.fn (.func 208) [.rp [.rs 4 (r.map cPl)]]),(1,.rp [.rs 4 (r.map cPl)]),(3,.ptr 1003 0 0),(4,.ptr 1004 0 0)]),(1003,.cells 170 1 [[.sl 903 0 (Xo r).length]] false),(903,.cells 174 4 ((Xo r).map cPt) true),(1004,.cells 211 1 [[.mp 1008]] false),(1008,.mset ((Xo r).map ptK)),(901,.dead)] true:=by
 refine Qj (nt:=47) Tryz.func208 rfl rfl mcOkv208 (nL rfl) ?_
 delta mcv208
 refine gA 3 rfl (Qh rfl rfl (gR 3 rfl ?_))
 refine Qr (α:=Nat×List Pt) (fun u=>r.length-u.1) (fun u=>[(0,.yl 900),(1,.rp [.rs 4 (r.map cPl)]),(9,.rs 4 (r.map cPl)),(10,iv (r.length:Int)),(11,iv (((u.1):Nat):Int))]) (fun u=>[(900,.lp r0 [(10,.fn (.func 208) [.rp [.rs 4 (r.map cPl)]]),(1,.rp [.rs 4 (r.map cPl)]),(3,.ptr 1003 0 0),(4,.ptr 1004 0 0)]),(1003,.cells 170 1 [[.sl 903 0 (u.2).length]] false),(903,.cells 174 4 ((u.2).map cPt) true),(1004,.cells 211 1 [[.mp 1008]] false),(1008,.mset ((u.2).map ptK)),(901,.dead)]) (fun u=>u.1<=r.length/\topS r u.2 (r.drop u.1)=Xo r/\u.2.length<=u.1*12100) (0,[]) (⟨by omega,rfl,by simp⟩)
  ((Weak.trans (F1:=[(0,.yl 900),(1,.rp [.rs 4 (r.map cPl)]),(9,.rs 4 (r.map cPl)),(10,iv (r.length:Int)),(11,iv (((0):Nat):Int))]) (H1:=[(900,.lp r0 [(10,.fn (.func 208) [.rp [.rs 4 (r.map cPl)]]),(1,.rp [.rs 4 (r.map cPl)]),(3,.ptr 1003 0 0),(4,.ptr 1004 0 0)]),(1003,.cells 170 1 [[.sl 901 0 (([]:List Pt)).length]] false),(901,.cells 174 4 ((([]:List Pt)).map cPt) true),(1004,.cells 211 1 [[.mp 1008]] false),(1008,.mset ((([]:List Pt)).map ptK))]) (Qa (Qb rfl rfl) (.keep (rfl) rfl (.keep (rfl) rfl (.keep (rfl) rfl (.keep (rfl) rfl (.keep (rfl) rfl (.nil)))))) (fun i hi=>by simp [Qf] at hi ⊢; omega)) (Weak.trans (F1:=[(0,.yl 900),(1,.rp [.rs 4 (r.map cPl)]),(9,.rs 4 (r.map cPl)),(10,iv (r.length:Int)),(11,iv (((0):Nat):Int))]) (Qt (i:=901) (i':=903) (k:=1003) rfl rfl (.cons rfl (.same _) (.cons rfl (.same _) (.cons rfl (.same _) (.cons rfl (.same _) (.cons rfl (.same _) (.nil)))))) (by decide) rfl (.sl _ _)) (Qa (Qb rfl rfl) (.keep (rfl) rfl (.keep (rfl) rfl (.keep (rfl) rfl (.keep (rfl) rfl (.keep (rfl) rfl (.keep (rfl) rfl (.nil))))))) (fun i hi=>by simp [Qf] at hi ⊢; omega))))) ?_
 rintro ⟨i,l⟩ ⟨hi,hinv,hll⟩
 dsimp only at hi hinv hll ⊢
 refine gT 5 rfl (Qe rfl (fun h12=>?_) (fun h12=>?_))
 ·replace h12:=of_decide_eq_true h12
  refine gK 6 rfl ?_
  obtain ⟨p,hp,hpm⟩:=Qo (L:=r) (k:=i) (by omega)
  rw [topS_at hp] at hinv
  have hok1:=okTop_at hok hp
  have hl1:(r.drop (i+1)).length=r.length-(i+1):=List.length_drop
  refine Qp (f:=cPl) (y:=p) rfl rfl rfl (by omega) hp (gR 0 rfl (QG (cs:=cPl p) rfl rfl (nL rfl) rfl (gR 8 rfl (Qg rfl rfl rfl (by omega) (gR 0 rfl (rs_slc_r (l:=(i:Int)+1) (q:=((r.map cPl).length:Nat)) (els':=(r.drop (i+1)).map cPl) rfl rfl rfl rfl rfl (by omega) (by simp; omega) (Int.le_refl _) (slc_drop r (i+1) (by omega)) (gR 0 rfl (Qh rfl rfl (gR 3 rfl ?_)))))))))
  refine Qr (α:=Nat×List Pt) (fun u=>(r.drop (i+1)).length-u.1) (fun u=>[(0,.yl 900),(1,.rp [.rs 4 (r.map cPl)]),(9,.rs 4 (r.map cPl)),(10,iv (r.length:Int)),(11,iv (((i):Nat):Int)),(3,iv (((i):Nat):Int)),(4,.ptr 4 0 0),(19,.rs 4 ((r.drop (i+1)).map cPl)),(20,iv ((r.drop (i+1)).length:Int)),(21,iv (((u.1):Nat):Int))]) (fun u=>[(900,.lp r0 [(10,.fn (.func 208) [.rp [.rs 4 (r.map cPl)]]),(1,.rp [.rs 4 (r.map cPl)]),(3,.ptr 1003 0 0),(4,.ptr 1004 0 0)]),(1003,.cells 170 1 [[.sl 903 0 (u.2).length]] false),(903,.cells 174 4 ((u.2).map cPt) true),(1004,.cells 211 1 [[.mp 1008]] false),(1008,.mset ((u.2).map ptK)),(901,.dead),(4,.cells 90 4 [cPl p] true)]) (fun u=>u.1<=(r.drop (i+1)).length/\midS r p u.2 ((r.drop (i+1)).drop u.1)=midS r p l (r.drop (i+1))/\u.2.length<=i*12100+u.1*110) (0,l) (⟨by omega,rfl,by omega⟩)
   (Qa (Qb rfl rfl) (.keep (rfl) rfl (.keep (rfl) rfl (.keep (rfl) rfl (.keep (rfl) rfl (.keep (rfl) rfl (.keep (rfl) rfl (.keep (rfl) rfl (.nil)))))))) (fun i hi=>by simp [Qf] at hi ⊢; omega)) ?_
  rintro ⟨j,m⟩ ⟨hj,hinv2,hml⟩
  dsimp only at hj hinv2 hml ⊢
  refine gT 5 rfl (Qe rfl (fun h22=>?_) (fun h22=>?_))
  ·replace h22:=of_decide_eq_true h22
   refine gK 6 rfl ?_
   obtain ⟨q,hq,hqm⟩:=Qo (L:=r.drop (i+1)) (k:=j) (by omega)
   rw [midS_at hq] at hinv2
   have hok2:=okMid_at hok1 hq
   have hl2:((r.drop (i+1)).drop (j+1)).length=(r.drop (i+1)).length-(j+1):=List.length_drop
   refine Qp (f:=cPl) (y:=q) rfl rfl rfl (by omega) hq (gR 0 rfl (QG (cs:=cPl q) rfl rfl (nL rfl) rfl (gR 9 rfl (Qg rfl rfl rfl (by omega) (gR 0 rfl (Qg rfl rfl rfl (by omega) (gR 0 rfl (rs_slc_r (l:=(i:Int)+(j:Int)+2) (q:=((r.map cPl).length:Nat)) (els':=((r.drop (i+1)).drop (j+1)).map cPl) rfl rfl rfl rfl rfl (by omega) (by simp; omega) (Int.le_refl _) (by rw [List.drop_drop]; exact slc_drop r _ (by omega)) (gR 0 rfl (Qh rfl rfl (gR 3 rfl ?_)))))))))))
   refine Qr (α:=Nat×List Pt) (fun u=>((r.drop (i+1)).drop (j+1)).length-u.1) (fun u=>[(0,.yl 900),(1,.rp [.rs 4 (r.map cPl)]),(9,.rs 4 (r.map cPl)),(10,iv (r.length:Int)),(11,iv (((i):Nat):Int)),(3,iv (((i):Nat):Int)),(4,.ptr 4 0 0),(19,.rs 4 ((r.drop (i+1)).map cPl)),(20,iv ((r.drop (i+1)).length:Int)),(21,iv (((j):Nat):Int)),(5,iv (((j):Nat):Int)),(6,.ptr 6 0 0),(31,.rs 4 (((r.drop (i+1)).drop (j+1)).map cPl)),(32,iv (((r.drop (i+1)).drop (j+1)).length:Int)),(33,iv (((u.1):Nat):Int))]) (fun u=>[(900,.lp r0 [(10,.fn (.func 208) [.rp [.rs 4 (r.map cPl)]]),(1,.rp [.rs 4 (r.map cPl)]),(3,.ptr 1003 0 0),(4,.ptr 1004 0 0)]),(1003,.cells 170 1 [[.sl 903 0 (u.2).length]] false),(903,.cells 174 4 ((u.2).map cPt) true),(1004,.cells 211 1 [[.mp 1008]] false),(1008,.mset ((u.2).map ptK)),(901,.dead),(4,.cells 90 4 [cPl p] true),(6,.cells 90 4 [cPl q] true)]) (fun u=>u.1<=((r.drop (i+1)).drop (j+1)).length/\innS r p q u.2 (((r.drop (i+1)).drop (j+1)).drop u.1)=innS r p q m ((r.drop (i+1)).drop (j+1))/\u.2.length<=i*12100+j*110+u.1) (0,m) (⟨by omega,rfl,by omega⟩)
    (Qa (Qb rfl rfl) (.keep (rfl) rfl (.keep (rfl) rfl (.keep (rfl) rfl (.keep (rfl) rfl (.keep (rfl) rfl (.keep (rfl) rfl (.keep (rfl) rfl (.keep (rfl) rfl (.nil))))))))) (fun i hi=>by simp [Qf] at hi ⊢; omega)) ?_
   rintro ⟨k,n⟩ ⟨hk,hinv3,hnl⟩
   dsimp only at hk hinv3 hnl ⊢
   refine gT 5 rfl (Qe rfl (fun h34=>?_) (fun h34=>?_))
   ·replace h34:=of_decide_eq_true h34
    refine gK 5 rfl ?_
    obtain ⟨s,hs,hsm⟩:=Qo (L:=(r.drop (i+1)).drop (j+1)) (k:=k) (by omega)
    rw [innS_at hs] at hinv3
    have hokt:=List.all_eq_true.1 hok2 s hsm
    have hal:=accS_len r n p q s
    refine Qp (f:=cPl) (y:=s) rfl rfl rfl (by omega) hs (gR 0 rfl (QG (cs:=cPl s) rfl rfl (nL rfl) rfl (gR 10 rfl (JG [(900,.lp r0 [(10,.fn (.func 208) [.rp [.rs 4 (r.map cPl)]]),(1,.rp [.rs 4 (r.map cPl)]),(3,.ptr 1003 0 0),(4,.ptr 1004 0 0)]),(1003,.cells 170 1 [[.sl 903 0 (n).length]] false),(903,.cells 174 4 ((n).map cPt) true),(1004,.cells 211 1 [[.mp 1008]] false),(1008,.mset ((n).map ptK))] rfl rfl rfl (y161 r hr p q s hokt n (by omega) r0 h) (.cons (Qd rfl) (.cons (Qd rfl) (.nil))) (.cons rfl (.cons rfl (.cons rfl (.cons rfl (.cons rfl (.nil)))))) rfl rfl rfl (gR 5 rfl (Qg rfl rfl rfl (by omega) (gR 2 rfl ?_)))))))
    exact Q8 <| ⟨(k+1,Jg r n p q s),⟨by show k+1<=_; omega,hinv3,by show (Jg r n p q s).length<=i*12100+j*110+(k+1); omega⟩,by show _-(k+1)<_; omega,(Weak.trans (F1:=[(0,.yl 900),(1,.rp [.rs 4 (r.map cPl)]),(9,.rs 4 (r.map cPl)),(10,iv (r.length:Int)),(11,iv (((i):Nat):Int)),(3,iv (((i):Nat):Int)),(4,.ptr 4 0 0),(19,.rs 4 ((r.drop (i+1)).map cPl)),(20,iv ((r.drop (i+1)).length:Int)),(21,iv (((j):Nat):Int)),(5,iv (((j):Nat):Int)),(6,.ptr 6 0 0),(31,.rs 4 (((r.drop (i+1)).drop (j+1)).map cPl)),(32,iv (((r.drop (i+1)).drop (j+1)).length:Int)),(33,iv (((k+1):Nat):Int))]) (H1:=[(900,.lp r0 [(10,.fn (.func 208) [.rp [.rs 4 (r.map cPl)]]),(1,.rp [.rs 4 (r.map cPl)]),(3,.ptr 1003 0 0),(4,.ptr 1004 0 0)]),(1003,.cells 170 1 [[.sl 904 0 (Jg r n p q s).length]] false),(904,.cells 174 4 ((Jg r n p q s).map cPt) true),(1004,.cells 211 1 [[.mp 1008]] false),(1008,.mset ((Jg r n p q s).map ptK)),(901,.dead),(4,.cells 90 4 [cPl p] true),(6,.cells 90 4 [cPl q] true)]) (Qa (Qb rfl rfl) (.keep (rfl) rfl (.keep (rfl) rfl (.keep (rfl) rfl (.keep (rfl) rfl (.keep (rfl) rfl (.keep (rfl) rfl (.keep (rfl) rfl (.keep (rfl) rfl (.nil))))))))) (fun i hi=>by simp [Qf] at hi ⊢; omega)) (Weak.trans (F1:=[(0,.yl 900),(1,.rp [.rs 4 (r.map cPl)]),(9,.rs 4 (r.map cPl)),(10,iv (r.length:Int)),(11,iv (((i):Nat):Int)),(3,iv (((i):Nat):Int)),(4,.ptr 4 0 0),(19,.rs 4 ((r.drop (i+1)).map cPl)),(20,iv ((r.drop (i+1)).length:Int)),(21,iv (((j):Nat):Int)),(5,iv (((j):Nat):Int)),(6,.ptr 6 0 0),(31,.rs 4 (((r.drop (i+1)).drop (j+1)).map cPl)),(32,iv (((r.drop (i+1)).drop (j+1)).length:Int)),(33,iv (((k+1):Nat):Int))]) (Qt (i:=904) (i':=903) (k:=1003) rfl rfl (.cons rfl (.same _) (.cons rfl (.same _) (.cons rfl (.same _) (.cons rfl (.same _) (.cons rfl (.same _) (.cons rfl (.same _) (.cons rfl (.same _) (.cons rfl (.same _) (.cons rfl (.same _) (.cons rfl (.same _) (.cons rfl (.same _) (.cons rfl (.same _) (.cons rfl (.same _) (.cons rfl (.same _) (.cons rfl (.same _) (.nil)))))))))))))))) (by decide) rfl (.sl _ _)) (Qa (Qb rfl rfl) (.keep (rfl) rfl (.keep (rfl) rfl (.keep (rfl) rfl (.keep (rfl) rfl (.keep (rfl) rfl (.keep (rfl) rfl (.keep (rfl) rfl (.keep (rfl) rfl (.nil))))))))) (fun i hi=>by simp [Qf] at hi ⊢; omega))))⟩
   ·replace h34:=of_decide_eq_false h34
    refine gK 2 rfl (Qg rfl rfl rfl (by omega) (gR 2 rfl ?_))
    have e:n=innS r p q m ((r.drop (i+1)).drop (j+1)):=by rw [← hinv3,List.drop_eq_nil_of_le (by omega)]; rfl
    exact Q8 <| ⟨(j+1,n),⟨by show j+1<=_; omega,by rw [← hinv2,← e],by show n.length<=i*12100+(j+1)*110; omega⟩,by show _-(j+1)<_; omega,Qa (Qb rfl rfl) (.keep (rfl) rfl (.keep (rfl) rfl (.keep (rfl) rfl (.keep (rfl) rfl (.keep (rfl) rfl (.keep (rfl) rfl (.keep (rfl) rfl (.nil)))))))) (fun i hi=>by simp [Qf] at hi ⊢; omega)⟩
  ·replace h22:=of_decide_eq_false h22
   refine gK 2 rfl (Qg rfl rfl rfl (by omega) (gR 2 rfl ?_))
   have e:m=midS r p l (r.drop (i+1)):=by rw [← hinv2,List.drop_eq_nil_of_le (by omega)]; rfl
   exact Q8 <| ⟨(i+1,m),⟨by show i+1<=_; omega,by rw [← hinv,← e],by show m.length<=(i+1)*12100; omega⟩,by show _-(i+1)<_; omega,Qa (Qb rfl rfl) (.keep (rfl) rfl (.keep (rfl) rfl (.keep (rfl) rfl (.keep (rfl) rfl (.keep (rfl) rfl (.keep (rfl) rfl (.nil))))))) (fun i hi=>by simp [Qf] at hi ⊢; omega)⟩
 ·replace h12:=of_decide_eq_false h12
  refine gK 1 rfl ?_
  have e:l=Xo r:=by rw [← hinv,List.drop_eq_nil_of_le (by omega)]; rfl
  subst e
  exact Qk <| XL (by first | exact .inl rfl | exact .inr rfl) rfl sm (.keep (rfl) rfl (.keep (rfl) rfl (.keep (rfl) rfl (.keep (rfl) rfl (.keep (rfl) rfl (.keep (rfl) rfl (.nil))))))) (.cons rfl rfl rfl (.cons rfl rfl rfl (.dead rfl rfl (.cons rfl rfl rfl (.cons rfl rfl rfl (.nil))))))
end Go.Proofs.YthfhaoogcpfboaaGreat
namespace Go.Proofs.YthfhaoogcpfboaaGreat
open Go.RowKit
set_option maxRecDepth 100000
set_option linter.unusedVariables false
theorem innS_len (r:List Pl) (p q:Pl):∀ (t:List Pl) (l:List Pt),(innS r p q l t).length<=l.length+t.length
 | [],l=>Nat.le_refl _
 | s::t,l=>by
  have h1:=innS_len r p q t (Jg r l p q s)
  have h2:=accS_len r l p q s
  show (innS r p q (Jg r l p q s) t).length<=_
  rw [List.length_cons]; omega
theorem midS_len (r:List Pl) (p:Pl) (N:Nat):∀ (t:List Pl) (l:List Pt),t.length<=N->(midS r p l t).length<=l.length+t.length*N
 | [],l,_=>Nat.le_add_right _ _
 | q::t,l,h=>by
  have h1:=midS_len r p N t (innS r p q l t) (by rw [List.length_cons] at h; omega)
  have h2:=innS_len r p q t l
  show (midS r p (innS r p q l t) t).length<=_
  rw [List.length_cons] at h ⊢
  rw [Nat.succ_mul]; omega
theorem topS_len (r:List Pl) (N:Nat):∀ (t:List Pl) (l:List Pt),t.length<=N->(topS r l t).length<=l.length+t.length*(N*N)
 | [],l,_=>Nat.le_add_right _ _
 | p::t,l,h=>by
  have h1:=topS_len r N t (midS r p l t) (by rw [List.length_cons] at h; omega)
  have h2:=midS_len r p N t l (by rw [List.length_cons] at h; omega)
  have h3:t.length*N<=N*N:=Nat.mul_le_mul_right _ (by rw [List.length_cons] at h; omega)
  show (topS r (midS r p l t) t).length<=_
  rw [List.length_cons,Nat.succ_mul]; omega
theorem corn_len {r:List Pl} (h:r.length<=110):(Xo r).length<=1331000:=by
 have h1:=topS_len r 110 r [] h
 unfold Xo
 simp only [List.length_nil] at h1
 omega
def nonS (l:List Pt) (p:Pl):Bool := !l.any (inB p)
def fullS (r:List Pl):Bool := !r.any (nonS (Xo r))
def mcv161:MC:=(.seq (.reg [oN 1 (.box 167 1 (.t 0)) [],oN 2 (.mv (.c .nils)) []] false) (.seq (.reg [oN 3 (.alloc 170 1 [.nils]) []] false) (.seq (.reg [⟨(some 8),.mkmap,none,[]⟩,oN 4 (.alloc 211 1 [.nilm]) [],⟨none,(.st 1 (.t 4) (.t 8)),none,[1,0,0,1]⟩] false) (.seq (.seq (.reg [oD 9 1 1 [],oN 10 (.call 185 [(.t 9)]) [0]] false) (.block 0 (.rfunc (.t 10) [11] (.reg [oN 5 (.alloc 215 12 [(.int .i64 0),(.int .i64 0),(.int .i64 0),(.int .i64 0),(.int .i64 0),(.int .i64 0),(.int .i64 0),(.int .i64 0),(.int .i64 0),(.int .i64 0),(.int .i64 0),(.int .i64 0)]) [],⟨none,(.st 12 (.t 5) (.t 11)),none,[0,0]⟩] false) (.block 1 (.seq (.reg [oN 13 (.ld true 12 (.t 5)) [],oN 14 (.call 186 [(.t 13)]) [0],oM 12 14 [1],oN 15 (.ext (.t 12) 0) [2],oN 16 (.ext (.t 12) 1) [2],oN 6 (.alloc 174 4 [(.int .i64 0),(.int .i64 0),(.int .i64 0),(.int .i64 0)]) [],⟨none,(.st 4 (.t 6) (.t 15)),none,[5,3,1,0,1,2,3,5]⟩,oM 7 16 [4,6,0,1,2,3,4,5,6]] false) (.seq (.reg [oM 17 7 [],oM 18 17 [0],pD 19 1 4 18 true [1],oG 20 (.ld true 4 (.t 6)) 18 true [1],oG 21 (.mhas 4 (.t 19) (.t 20)) 18 true [2,3,1],oG 22 (.un .not (.t 21)) 18 true [4,1],oN 23 (.pick (.t 18) (.t 22) (.c (.bool false))) [1,5],oM 24 23 [6,1],pD 25 1 1 24 true [7],oG 26 (.ld true 4 (.t 6)) 24 true [7],oG 27 (.call 187 [(.t 25),(.t 26)]) 24 true [8,9,7,7],oN 28 (.pick (.t 24) (.t 27) (.c (.bool false))) [7,10]] false) (.cond (.t 28) (.seq (.reg [oD 29 1 4 [],oN 30 (.ld true 4 (.t 6)) [],⟨none,(.mapadd 4 (.t 29) (.t 30) (.c (.bool true))),none,[0,1,0,1]⟩] false) (.reg [oD 31 1 3 [],oN 32 (.ld true 4 (.t 6)) [],oN 33 (.bslice 174 4 [(.int .i64 0),(.int .i64 0),(.int .i64 0),(.int .i64 0)] 1 [(0,(.t 32))]) [1],oN 34 (.app 174 4 32 [(.int .i64 0),(.int .i64 0),(.int .i64 0),(.int .i64 0)] (.t 31) (.t 33)) [0,2],⟨none,(.st 1 (.t 3) (.t 34)),none,[3,3,0,1,2,3]⟩] false)) .skip))))))) (.seq (.reg [oD 35 1 3 [],oM 2 35 [0,0]] false) .ret)))))
theorem mcOkv161:okM Tryz.prog Tryz.f161 36=some mcv161:=by kernel_rfl
theorem vc161 (r:List Pl) (hr:r.length<=110) (hok:okTop r=true):FC Tryz.prog 161 [.rs 4 (r.map cPl)] [] (.rs 4 ((Xo r).map cPt)) [] false:=by
 refine Qj (nt:=36) Tryz.func161 rfl rfl mcOkv161 (nL rfl) ?_
 delta mcv161
 refine gA 11 rfl (rs_mkmap rfl rfl (gR 7 rfl (Q1 [] rfl rfl (vc185 r) (.cons (Qd rfl) .nil) .nil rfl rfl rfl (gR 2 rfl (QE (F0:=[(10,.fn (.func 208) [.rp [.rs 4 (r.map cPl)]]),(1,.rp [.rs 4 (r.map cPl)]),(3,.ptr 1003 0 0),(4,.ptr 1004 0 0)]) (H0:=[(1003,.cells 170 1 [[.sl 901 0 (([]:List Pt)).length]] false),(901,.cells 174 4 ((([]:List Pt)).map cPt) true),(1004,.cells 211 1 [[.mp 1008]] false),(1008,.mset ((([]:List Pt)).map ptK))]) (Weak.trans (F1:=[(10,.fn (.func 208) [.rp [.rs 4 (r.map cPl)]]),(1,.rp [.rs 4 (r.map cPl)]),(3,.ptr 3 0 0),(4,.ptr 4 0 0)]) (H1:=[(3,.cells 170 1 [[.nils]] true),(4,.cells 211 1 [[.mp 8]] false),(8,.mset [])]) (Qa (.cs (.cons rfl (Xq rfl rfl (.inl rfl)) (.cs (.cs (.nil))))) (.keep (rfl) rfl (.keep (rfl) rfl (.keep (rfl) rfl (.nil)))) (fun i h=>by cases h)) (Weak.trans (F1:=[(10,.fn (.func 208) [.rp [.rs 4 (r.map cPl)]]),(1,.rp [.rs 4 (r.map cPl)]),(3,.ptr 3 0 0),(4,.ptr 4 0 0)]) (H1:=[(3,.cells 170 1 [[.nils]] true),(4,.cells 211 1 [[.mp 1008]] false),(1008,.mset [])]) (Weak.trans (F1:=[(10,.fn (.func 208) [.rp [.rs 4 (r.map cPl)]]),(1,.rp [.rs 4 (r.map cPl)]),(3,.ptr 3 0 0),(4,.ptr 4 0 0)]) (Qt (i:=8) (i':=1008) (k:=4) rfl rfl (.cons rfl (.same _) (.cons rfl (.same _) (.cons rfl (.same _) (.cons rfl (.same _) (.nil))))) (by decide) rfl .mp) (Qa (Qb rfl rfl) (.keep (rfl) rfl (.keep (rfl) rfl (.keep (rfl) rfl (.nil)))) (fun i h=>by cases h))) (Weak.trans (F1:=[(10,.fn (.func 208) [.rp [.rs 4 (r.map cPl)]]),(1,.rp [.rs 4 (r.map cPl)]),(3,.ptr 1003 0 0),(4,.ptr 1004 0 0)]) (H1:=[(1003,.cells 170 1 [[.nils]] true),(1004,.cells 211 1 [[.mp 1008]] false),(1008,.mset [])]) (Weak.trans (F1:=[(10,.fn (.func 208) [.rp [.rs 4 (r.map cPl)]]),(1,.rp [.rs 4 (r.map cPl)]),(3,.ptr 1003 0 0),(4,.ptr 4 0 0)]) (H1:=[(1003,.cells 170 1 [[.nils]] true),(4,.cells 211 1 [[.mp 1008]] false),(1008,.mset [])]) (Q6 (i:=3) (i':=1003) (F1:=[(10,.fn (.func 208) [.rp [.rs 4 (r.map cPl)]]),(1,.rp [.rs 4 (r.map cPl)]),(3,.ptr 3 0 0),(4,.ptr 4 0 0)]) (H1:=[(3,.cells 170 1 [[.nils]] true),(4,.cells 211 1 [[.mp 1008]] false),(1008,.mset [])]) (Qb rfl rfl) (.keep (rfl) rfl (.keep (rfl) rfl (.keep (rfl) rfl (.nil)))) (fun i h=>by cases h) rfl rfl (.cons rfl (.same _) (.cons rfl (.same _) (.cons rfl (.ptr _ _) (.cons rfl (.same _) (.nil))))) (Qb rfl rfl) (.keep (rfl) rfl (.keep (rfl) rfl (.keep (rfl) rfl (.nil)))) (fun i h=>by cases h)) (Q6 (i:=4) (i':=1004) (F1:=[(10,.fn (.func 208) [.rp [.rs 4 (r.map cPl)]]),(1,.rp [.rs 4 (r.map cPl)]),(3,.ptr 1003 0 0),(4,.ptr 4 0 0)]) (H1:=[(1003,.cells 170 1 [[.nils]] true),(4,.cells 211 1 [[.mp 1008]] false),(1008,.mset [])]) (Qb rfl rfl) (.keep (rfl) rfl (.keep (rfl) rfl (.keep (rfl) rfl (.nil)))) (fun i h=>by cases h) rfl rfl (.cons rfl (.same _) (.cons rfl (.same _) (.cons rfl (.same _) (.cons rfl (.ptr _ _) (.nil))))) (Qb rfl rfl) (.keep (rfl) rfl (.keep (rfl) rfl (.keep (rfl) rfl (.nil)))) (fun i h=>by cases h))) (Weak.trans (F1:=[(10,.fn (.func 208) [.rp [.rs 4 (r.map cPl)]]),(1,.rp [.rs 4 (r.map cPl)]),(3,.ptr 1003 0 0),(4,.ptr 1004 0 0)]) (weak_seed (i:=901) (k:=1003) (e:=170) (z:=1) (e2:=174) (z2:=4) (fl:=true) (fl2:=true) rfl rfl) (Qa (Qb rfl rfl) (.keep (rfl) rfl (.keep (rfl) rfl (.keep (rfl) rfl (.keep (rfl) rfl (.nil))))) (fun i h=>by cases h)))))) (aw_rfunc 900 [(1003,.cells 170 1 [[.sl 901 0 (([]:List Pt)).length]] false),(901,.cells 174 4 ((([]:List Pt)).map cPt) true),(1004,.cells 211 1 [[.mp 1008]] false),(1008,.mset ((([]:List Pt)).map ptK))] [(1003,.cells 170 1 [[.sl 903 0 (Xo r).length]] false),(903,.cells 174 4 ((Xo r).map cPt) true),(1004,.cells 211 1 [[.mp 1008]] false),(1008,.mset ((Xo r).map ptK)),(901,.dead)] (.inl ⟨rfl,rfl⟩) rfl (by kernel_rfl) rfl rfl rfl (.cons rfl (.cons rfl (.cons rfl (.cons rfl (.nil))))) rfl rfl rfl rfl (fun r0 hrec=>⟨r0,(by rw [hrec.state]; intro h; cases h),hrec.pending,vc208 r hr hok r0 hrec⟩) (gP 6 rfl ?_)))))))
 exact Qk <| Qs rfl (Xr (f:=cPt) (xs:=Xo r) rfl rfl rfl (fun _=>rfl)) .nil
def mcv163:MC:=(.seq (.reg [oN 2 (.box 90 4 (.t 0)) [],oN 3 (.mv (.c (.bool false))) []] false) (.seq (.reg [oD 4 1 1 [],oN 5 (.mkfn (.func 165) [(.t 2)]) [],oN 6 (.call 164 [(.t 4),(.t 5)]) [0,1],oN 7 (.un .not (.t 6)) [2],oM 3 7 [3,2,0,1,2,3]] false) .ret))
theorem mcOkv163:okM Tryz.prog Tryz.f163 8=some mcv163:=by kernel_rfl
theorem vc163 (l:List Pt) (hl:l.length<=2000000) (p:Pl):FC Tryz.prog 163 [.agg (cPl p),.rp [.rs 4 (l.map cPt)]] [] (.bool (nonS l p)) [] false:=by
 refine Qj (nt:=8) Tryz.func163 rfl rfl mcOkv163 (nL rfl) ?_
 delta mcv163
 refine gA 6 rfl (QE (F0:=[(1,.rp [.rs 4 (l.map cPt)]),(2,.rp (cPl p))]) (H0:=[]) (Qa (.cs (.cons rfl (Xq rfl rfl (.inl rfl)) (.nil))) (.nil) (fun i h=>by cases h)) (gK 3 rfl (cN rfl rfl (vcC_ins p l (by omega)) (gR 4 rfl ?_))))
 exact Qk <| Qc rfl rfl rfl (.inr rfl)
def mcv188:MC:=(.seq (.reg [oN 4 (.mv (.c (.int .i64 0))) []] false) (.seq (.seq (.reg [oM 6 0 [],oN 7 (.len (.t 6)) [0],oN 8 (.mv (.c (.int .i64 0))) []] false) (.block 0 (.loop (.seq (.reg [oN 9 (.bin .lss (.t 8) (.t 7)) []] false) (.seq (.cond (.t 9) .skip (.exit 0)) (.seq (.block 1 (.seq (.reg [oM 10 8 [],oM 5 10 [0,0]] false) (.seq (.reg [oM 11 1 [],oM 12 0 [],oM 13 5 [],oN 14 (.ixsl 4 (.t 12) (.t 13)) [1,2],oN 15 (.ld true 4 (.t 14)) [3],oN 16 (.callv (.t 11) [(.t 15)]) [0,4]] false) (.cond (.t 16) (.seq (.reg [oM 17 5 [],oM 4 17 [0,0]] false) .ret) .skip)))) (.reg [oN 18 (.bin .add (.t 8) (.c (.int .i64 1))) [],oM 8 18 [0]] false))))))) (.seq (.reg [oN 4 (.mv (.c (.int .i64 (-1)))) []] false) .ret)))
theorem mcOkv188:okM Tryz.prog Tryz.f188 19=some mcv188:=by kernel_rfl
theorem vcI_non (l:List Pt) (hl:l.length<=2000000) (xs:List Pl) (hxn:xs.length<=4611686018427387904):FC Tryz.prog 188 [.rs 4 (xs.map cPl),(.fn (.func 163) [.rp [.rs 4 (l.map cPt)]])] [] (.int .i64 (Xs (nonS l) xs 0)) [] false:=by
 refine Qj (nt:=19) Tryz.func188 rfl rfl mcOkv188 (nL rfl) ?_
 delta mcv188
 refine gA 8 rfl (Qh rfl rfl (gR 3 rfl ?_))
 refine Qr (α:=Nat) (fun k=>xs.length-k) (fun k=>[(0,.rs 4 (xs.map cPl)),(1,(.fn (.func 163) [.rp [.rs 4 (l.map cPt)]])),(6,.rs 4 (xs.map cPl)),(7,iv (xs.length:Int)),(8,iv (((k):Nat):Int))]) (fun k=>[]) (fun k=>k<=xs.length/\Xs (nonS l) (xs.drop k) k=Xs (nonS l) xs 0) 0 (⟨by omega,rfl⟩)
  (Qa (Qb rfl rfl) (.nil) (fun i h=>by cases h)) ?_
 rintro k ⟨hk,hinv⟩
 refine gT 5 rfl (Qe rfl (fun h9=>?_) (fun h9=>?_))
 ·replace h9:=of_decide_eq_true h9
  refine gK 13 rfl ?_
  obtain ⟨x,hxk,hxm⟩:=Qo (L:=xs) (k:=k) (by omega)
  rw [JK hxk] at hinv
  refine Qp (f:=cPl) (y:=x) rfl rfl rfl (by omega) hxk (gR 0 rfl (QG (cs:=cPl x) rfl rfl (nL rfl) rfl (gR 0 rfl (Xb [] rfl rfl (by kernel_rfl) rfl (JI (vc163 l hl x)) (.cons (Qd rfl) (.cons (Qd rfl) (.nil))) .nil rfl rfl rfl ?_))))
  cases h16:(nonS l) x
  ·skip
   refine gR 4 rfl (Qg rfl rfl rfl (by omega) (gR 2 rfl ?_))
   rw [h16] at hinv
   exact Q8 <| ⟨k+1,⟨by omega,hinv⟩,by omega,Qa (Qb rfl rfl) (.nil) (fun i h=>by cases h)⟩
  ·skip
   refine gR 8 rfl ?_
   rw [h16] at hinv
   rw [← hinv]
   exact Qk <| Qc rfl rfl rfl (.inr rfl)
 ·replace h9:=of_decide_eq_false h9
  refine gK 6 rfl ?_
  rw [Ju (by omega)] at hinv
  rw [← hinv]
  exact Qk <| Qc rfl rfl rfl (.inr rfl)
def mcv162:MC:=(.seq (.reg [oN 4 (.mv (.c (.bool false))) []] false) (.seq (.reg [oM 5 0 [],oM 6 1 [],oN 7 (.call 188 [(.t 5),(.t 6)]) [0,1],oN 8 (.bin .geq (.t 7) (.c (.int .i64 0))) [2],oM 4 8 [3,2,0,1,2,3]] false) .ret))
theorem mcOkv162:okM Tryz.prog Tryz.f162 9=some mcv162:=by kernel_rfl
theorem vcC_non (l:List Pt) (hl:l.length<=2000000) (xs:List Pl) (hxn:xs.length<=4611686018427387904):FC Tryz.prog 162 [.rs 4 (xs.map cPl),(.fn (.func 163) [.rp [.rs 4 (l.map cPt)]])] [] (.bool (xs.any (nonS l))) [] false:=by
 refine Qj (nt:=9) Tryz.func162 rfl rfl mcOkv162 (nL rfl) ?_
 delta mcv162
 refine gA 8 rfl (cN rfl rfl (vcI_non l hl xs hxn) (gR 0 rfl (Jk rfl rfl rfl (gR 3 rfl ?_))))
 rw [← Jy]
 exact Qk <| Qc rfl rfl rfl (.inr rfl)
def mcv135:MC:=(.seq (.reg [oN 2 (.mv (.c (.bool false))) []] false) (.seq (.reg [oM 4 0 [],oN 5 (.call 161 [(.t 4)]) [0],oN 3 (.alloc 170 1 [.nils]) [],⟨none,(.st 1 (.t 3) (.t 5)),none,[2,1,1,0,1,2]⟩] false) (.seq (.reg [oM 6 0 [],oN 7 (.mkfn (.func 163) [(.t 3)]) [],oN 8 (.call 162 [(.t 6),(.t 7)]) [0,1],oN 9 (.un .not (.t 8)) [2],oM 2 9 [3,2,0,1,2,3]] false) .ret)))
theorem mcOkv135:okM Tryz.prog Tryz.f135 10=some mcv135:=by kernel_rfl
theorem vc135 (r:List Pl) (hr:r.length<=110) (hok:okTop r=true):FC Tryz.prog 135 [.rs 4 (r.map cPl)] [] (.bool (fullS r)) [] false:=by
 have hcl:=corn_len hr
 refine Qj (nt:=10) Tryz.func135 rfl rfl mcOkv135 (nL rfl) ?_
 delta mcv135
 refine gA 7 rfl (cN rfl rfl (vc161 r hr hok) (gR 4 rfl (QE (F0:=[(0,.rs 4 (r.map cPl)),(3,.rp [.rs 4 ((Xo r).map cPt)])]) (H0:=[]) (Qa (.cs (.cons rfl (Xq rfl rfl (.inl rfl)) (.nil))) (.nil) (fun i h=>by cases h)) (gK 3 rfl (cN rfl rfl (vcC_non (Xo r) (by omega) r (by omega)) (gR 4 rfl ?_))))))
 exact Qk <| Qc rfl rfl rfl (.inr rfl)
end Go.Proofs.YthfhaoogcpfboaaGreat
namespace Go.Proofs.YthfhaoogcpfboaaGreat
open Go.RowKit
set_option maxRecDepth 100000
set_option linter.unusedVariables false
open Go.Shelf Go.Lib
def renGr:Go.Shelf.Ren:={ f:=fun _=>184,t:=fun n=>if n=22 then 85 else if n=25 then 90 else n,g:=fun n=>n }
theorem laysGr:Lays8.n4 Tryz.prog renGr:=by
 constructor
 case f4=>exact ⟨Tryz.f184.name,by kernel_rfl,by kernel_rfl⟩
 all_goals first | kernel_rfl | (intro _; kernel_rfl)
theorem ty90:∃ i z,Tryz.prog.info? 90=some i/\i.zero=some z/\i.size=4/\i.bytes=32/\z.cells.size=4:=by
 have h:(match Tryz.prog.info? 90 with | some i=>(match i.zero with | some z=>decide (i.size=4/\i.bytes=32/\z.cells.size=4) | none=>false) | none=>false)=true:=by kernel_rfl
 split at h
 ·rename_i i hi
  split at h
  ·rename_i z hz
   have h:=of_decide_eq_true h
   exact ⟨i,z,hi,hz,h.1,h.2.1,h.2.2⟩
  ·cases h
 ·cases h
theorem vc184 (n:Nat) (hn:1<=n/\n<=1000):FC Tryz.prog 184 [.nils,iv (n:Int)] [] (.sl 1005 0 0) [(1005,.cells 90 4 [] true)] false:=fun w S ρ cargs hH hv=>by
 obtain ⟨i0,z0,hi,hz,h1,h2,h3⟩:=ty90
 have e:cargs = #[.slice none 0 0,.int .i64 (n:Int)]:=by
  obtain ⟨L⟩:=cargs
  have h1:=hv.1
  have hv0:=hv.2 0 _ rfl
  have hv1:=hv.2 1 _ rfl
  match L,h1,hv0,hv1 with
  | [x,y],_,hv0,hv1 =>
   have e0:x = .slice none 0 0:=VR.nils_inv hv0
   have e1:y = .int .i64 (n:Int):=VR.int_inv hv1
   rw [e0,e1]
 rw [e]
 have hb:(0+n)*i0.bytes<=140737488355328:=by rw [h2]; omega
 have hg:=Any8.slices_Grow_grow laysGr i0 z0 hi hz (by omega) none 0 0 n [] w (Nat.le_refl _) (by omega) hb (by omega) (by simp) (fun _=>rfl) (fun a h=>by cases h)
 refine hg.mono fun en w' ⟨he,hw⟩=>?_
 have hge:=grownCap_ge w (0+n) 0 90
 have hle:=grownCap_le_maxLen w (0+n) 0 90 (by unfold maxLen; omega)
 replace he:en = .returned (.slice (some ⟨w.heap.size,0,none⟩) 0 (grownCap w (0+n) 0 90)):=he
 replace hw:w'=w.drew.alloc (.cells (([]:List Value).toArray++Builtin.zeroCells z0.cells (0+n-0)++Builtin.zeroCells z0.cells (grownCap w (0+n) 0 90-(0+n))) 90):=hw
 generalize grownCap w (0+n) 0 90=G at he hw hge hle
 have hsz:(([]:List Value).toArray++Builtin.zeroCells z0.cells (0+n-0)++Builtin.zeroCells z0.cells (G-(0+n))).size=G*4:=by
  simp only [Array.size_append,size_zeroCells,h3,List.size_toArray,List.length_nil]; omega
 generalize (([]:List Value).toArray++Builtin.zeroCells z0.cells (0+n-0)++Builtin.zeroCells z0.cells (G-(0+n)))=C at hw hsz
 subst hw
 have hnew:(w.drew.alloc (.cells C 90)).heap[w.heap.size]?=some (.cells C 90 (0,0)):=heap_alloc_new w.drew _
 have hsize:(w.drew.alloc (.cells C 90)).heap.size=w.heap.size+1:=by show (w.heap.push _).size=_; simp
 have hget:∀ i,i≠1005->get ([(1005,.cells 90 4 [] true)]:Hp) i=none:=fun i hi=>by simp only [get]; rw [if_neg (Ne.symm hi)]
 refine ⟨_,fun _=>False,fun i=>if i=1005 then some (some w.heap.size,4,G) else none,he,.sl 1005 0 0 w.heap.size 4 G G (if_pos rfl) (by omega) (Nat.zero_le _),⟨fun b hb=>hb.elim,fun i hi=>?_,⟨fun i o _ ho=>?_,fun i j oi oj b z z' c c' _ _ hne hi hj=>?_⟩⟩,⟨rfl,rfl,rfl,by rw [hsize]; omega,fun k hk _=>Below.heap_alloc w.drew _ k hk⟩,fun b hb=>hb.elim,fun b hb=>?_,fun i hi=>absurd rfl hi,fun i hi=>absurd rfl hi⟩
 ·by_cases h:i=1005
  ·subst h; simp [get] at hi
  ·simp [h]
 ·by_cases h:i=1005
  ·subst h
   simp [get] at ho
   subst ho
   exact ⟨some w.heap.size,4,G,if_pos rfl,rfl,fun h=>h,hle,C,hnew,hsz,Nat.zero_le _,fun j el h=>by simp at h,fun j el o v h=>by simp at h⟩
  ·rw [hget i h] at ho; cases ho
 ·have h1:i=1005:=Decidable.byContradiction fun h=>by rw [hget i h] at hi; cases hi
  have h2:j=1005:=Decidable.byContradiction fun h=>by rw [hget j h] at hj; cases hj
  exact absurd (h1.trans h2.symm) hne
 ·obtain ⟨i,ob,z,cap,_,h1,_,h2⟩:=hb
  by_cases h:i=1005
  ·subst h; simp at h2; exact .inr (by omega)
  ·rw [hget i h] at h1; cases h1
abbrev cR (c:List Pl):List AV:=[.rs 4 (c.map cPl)]
theorem flat_succ {ls:List (List Pl)} {k:Nat} {c:List Pl} (h:ls[k]?=some c):(ls.take (k+1)).flatten=(ls.take k).flatten++c:=by rw [Qv h]; simp
theorem flat_le {ls:List (List Pl)} (k:Nat):((ls.take k).flatten).length<=ls.flatten.length:=by
 have:ls.flatten=(ls.take k).flatten++(ls.drop k).flatten:=by rw [← List.flatten_append,List.take_append_drop]
 rw [this,List.length_append]; omega
theorem addNW2 {a b:Nat} (h:a+b<=1000000):W ((a:Int)+(b:Int))=((a+b:Nat):Int):=by rw [Xk (by omega)]; omega
def norms:List V3:=[⟨1,0,0⟩,⟨-1,0,0⟩,⟨0,1,0⟩,⟨0,-1,0⟩,⟨0,0,1⟩,⟨0,0,-1⟩]
def wsP (v:V3):Pl:=⟨v,24⟩
def ofS (ls:List (List Pl)):List Pl:=ls.flatten++norms.map wsP
theorem ws_succ {l:List Pl} {k:Nat} {v:V3} (h:norms[k]?=some v):l++(norms.take (k+1)).map wsP=(l++(norms.take k).map wsP)++[wsP v]:=by rw [Qv h]; simp
def mcv160:MC:=(.seq (.reg [oN 2 (.mv (.c .nils)) []] false) (.seq (.reg [oN 3 (.mv (.c (.int .i64 0))) []] false) (.seq (.seq (.reg [oM 9 0 [],oN 10 (.len (.t 9)) [0],oN 11 (.mv (.c (.int .i64 0))) []] false) (.block 0 (.loop (.seq (.reg [oN 12 (.bin .lss (.t 11) (.t 10)) []] false) (.seq (.cond (.t 12) .skip (.exit 0)) (.seq (.block 1 (.seq (.reg [oN 13 (.ixsl 1 (.t 9) (.t 11)) [],oD 14 1 13 [0],oM 5 14 [1,0,1]] false) (.seq (.reg [oM 15 3 [],oM 16 5 [],oN 17 (.len (.t 16)) [1],oN 18 (.bin .add (.t 15) (.t 17)) [0,2],oM 3 18 [3,0,1,2,3]] false) (.seq (.reg [oM 19 3 [],oN 20 (.bin .lss (.t 19) (.c (.int .i64 0))) [0]] false) (.cond (.t 20) (.reg [oN 21 (.mkif 9 (.c (.str (Qm [108,101,110,32,111,117,116,32,111,102,32,114,97,110,103,101])))) [],⟨none,.bot,none,[0]⟩] false) .skip))))) (.reg [oN 22 (.bin .add (.t 11) (.c (.int .i64 1))) [],oM 11 22 [0]] false))))))) (.seq (.reg [oM 23 3 [],oN 24 (.call 184 [(.c .nils),(.t 23)]) [0],oM 6 24 [1,1,0,1]] false) (.seq (.seq (.reg [oM 25 0 [],oN 26 (.len (.t 25)) [0],oN 27 (.mv (.c (.int .i64 0))) []] false) (.block 2 (.loop (.seq (.reg [oN 28 (.bin .lss (.t 27) (.t 26)) []] false) (.seq (.cond (.t 28) .skip (.exit 2)) (.seq (.block 3 (.seq (.reg [oN 29 (.ixsl 1 (.t 25) (.t 27)) [],oD 30 1 29 [0],oM 8 30 [1,0,1]] false) (.reg [oM 31 6 [],oM 32 8 [],oN 33 (.app 90 4 32 [(.int .i64 0),(.int .i64 0),(.int .i64 0),(.int .i64 0)] (.t 31) (.t 32)) [0,1],oM 6 33 [2,2,0,1,2]] false))) (.reg [oN 34 (.bin .add (.t 27) (.c (.int .i64 1))) [],oM 27 34 [0]] false))))))) (.seq (.reg [oM 35 6 [],oM 2 35 [0,0]] false) .ret))))))
theorem mcOkv160:okM Tryz.prog Tryz.f160 36=some mcv160:=by kernel_rfl
theorem vc160 (ls:List (List Pl)) (hn:1<=ls.flatten.length/\ls.flatten.length<=1000) (hl:ls.length<=100):FC Tryz.prog 160 [.rs 1 (ls.map cR)] [] (.sl 1005 0 ls.flatten.length) [(1005,.cells 90 4 (ls.flatten.map cPl) true)] false:=by
 refine Qj (nt:=36) Tryz.func160 rfl rfl mcOkv160 (nL rfl) ?_
 delta mcv160
 refine gA 12 rfl (Qh rfl rfl (gR 3 rfl ?_))
 refine Qr (α:=Nat) (fun k=>ls.length-k) (fun k=>[(0,.rs 1 (ls.map cR)),(9,.rs 1 (ls.map cR)),(10,iv (ls.length:Int)),(11,iv (((k):Nat):Int)),(3,iv ((((ls.take (k)).flatten).length:Nat):Int))]) (fun k=>[]) (fun k=>k<=ls.length) 0 (by omega)
  (Qa (Qb rfl rfl) (.nil) (fun i h=>by cases h)) ?_
 intro k hk
 refine gT 5 rfl (Qe rfl (fun h12=>?_) (fun h12=>?_))
 ·replace h12:=of_decide_eq_true h12
  refine gK 5 rfl ?_
  obtain ⟨c,hck,hcm⟩:=Qo (L:=ls) (k:=k) (by omega)
  have hfl:=flat_le (ls:=ls) (k+1)
  have hfs:((ls.take (k+1)).flatten).length=((ls.take k).flatten).length+c.length:=by rw [flat_succ hck,List.length_append]
  refine Qp (f:=cR) (y:=c) rfl rfl rfl (by omega) hck (gR 7 rfl (Qh rfl rfl (gR 0 rfl (QH (c:=((((ls.take (k+1)).flatten).length:Nat):Int)) rfl rfl rfl (by rw [hfs]; exact addNW2 (by omega)) (gR 5 rfl (Xd rfl rfl rfl rfl (by omega) (gR 4 rfl (Qg rfl rfl rfl (by omega) (gR 2 rfl ?_)))))))))
  exact Q8 <| ⟨k+1,by omega,by omega,Qa (Qb rfl rfl) (.nil) (fun i h=>by cases h)⟩
 ·replace h12:=of_decide_eq_false h12
  refine gK 2 rfl ?_
  obtain rfl:k=ls.length:=by omega
  have hfa:ls.take ls.length=ls:=List.take_of_length_le (Nat.le_refl _)
  refine gI 2 rfl ?_
  rw [hfa]
  refine cN rfl rfl (vc184 ls.flatten.length hn) (gR 6 rfl (Qh rfl rfl (gR 3 rfl ?_)))
  refine Qr (α:=Nat) (fun k=>ls.length-k) (fun k=>[(25,.rs 1 (ls.map cR)),(26,iv (ls.length:Int)),(27,iv (((k):Nat):Int)),(6,.sl 1005 0 ((ls.take (k)).flatten).length)]) (fun k=>[(1005,.cells 90 4 (((ls.take (k)).flatten).map cPl) true)]) (fun k=>k<=ls.length) 0 (by omega)
   (Qa (Qb rfl rfl) (.keep rfl rfl .nil) nz) ?_
  intro k hk
  refine gT 5 rfl (Qe rfl (fun h28=>?_) (fun h28=>?_))
  ·replace h28:=of_decide_eq_true h28
   refine gK 5 rfl ?_
   obtain ⟨c,hck,hcm⟩:=Qo (L:=ls) (k:=k) (by omega)
   have hfl:=flat_le (ls:=ls) (k+1)
   have hfs:((ls.take (k+1)).flatten).length=((ls.take k).flatten).length+c.length:=by rw [flat_succ hck,List.length_append]
   refine Qp (f:=cR) (y:=c) rfl rfl rfl (by omega) hck (gR 6 rfl (rs_app_mm (f:=cPl) (xs:=(ls.take k).flatten) (ys:=c) (m:=c.length) (rd:=[]) rfl rfl rfl rfl rfl rfl rfl (by simp) (fun _=>rfl) rfl rfl (by omega) (by omega) (fun _=>rfl) (gR 3 rfl (Qg rfl rfl rfl (by omega) (gR 2 rfl ?_)))))
   exact Q8 <| ⟨k+1,by omega,by omega,by rw [hfs,flat_succ hck]; exact Q6 (i:=33) (i':=1005) (F1:=[(25,.rs 1 (ls.map cR)),(26,iv (ls.length:Int)),(27,iv (((k+1):Nat):Int)),(6,.sl 33 0 (((ls.take k).flatten).length+c.length))]) (H1:=[(33,.cells 90 4 (((ls.take k).flatten++c).map cPl) true)]) (Qb rfl rfl) (.keep rfl rfl .nil) nz rfl rfl (.cons rfl (.same _) (.cons rfl (.same _) (.cons rfl (.same _) (.cons rfl (.sl _ _) (.nil))))) (Qb rfl rfl) (.keep rfl rfl .nil) nz⟩
  ·replace h28:=of_decide_eq_false h28
   refine gK 7 rfl ?_
   obtain rfl:k=ls.length:=by omega
   rw [List.take_of_length_le (Nat.le_refl _)]
   exact Qk <| Qs rfl (Q3 rfl (.inr rfl)) (.keep rfl rfl (noROE_map (fun _=>rfl) _) .nil)
def mcv134:MC:=(.seq (.reg [oN 2 (.mv (.c .nils)) []] false) (.seq (.reg [oM 6 0 [],oN 7 (.call 160 [(.t 6)]) [0],oM 3 7 [1,1,0,1]] false) (.seq (.seq (.reg [oN 8 (.build [(.int .i64 0),(.int .i64 0),(.int .i64 0)] [(0,(1,(.c (.int .i64 1))))]) [],oN 9 (.build [(.int .i64 0),(.int .i64 0),(.int .i64 0)] [(0,(1,(.c (.int .i64 (-1)))))]) [],oN 10 (.build [(.int .i64 0),(.int .i64 0),(.int .i64 0)] [(1,(1,(.c (.int .i64 1))))]) [],oN 11 (.build [(.int .i64 0),(.int .i64 0),(.int .i64 0)] [(1,(1,(.c (.int .i64 (-1)))))]) [],oN 12 (.build [(.int .i64 0),(.int .i64 0),(.int .i64 0)] [(2,(1,(.c (.int .i64 1))))]) [],oN 13 (.build [(.int .i64 0),(.int .i64 0),(.int .i64 0)] [(2,(1,(.c (.int .i64 (-1)))))]) [],oN 14 (.bslice 88 3 [(.int .i64 0),(.int .i64 0),(.int .i64 0)] 6 [(0,(.t 8)),(1,(.t 9)),(2,(.t 10)),(3,(.t 11)),(4,(.t 12)),(5,(.t 13))]) [0,1,2,3,4,5],oN 15 (.len (.t 14)) [6],oN 16 (.mv (.c (.int .i64 0))) []] false) (.block 0 (.loop (.seq (.reg [oN 17 (.bin .lss (.t 16) (.t 15)) []] false) (.seq (.cond (.t 17) .skip (.exit 0)) (.seq (.block 1 (.seq (.reg [oN 18 (.ixsl 3 (.t 14) (.t 16)) [],oN 19 (.ld true 3 (.t 18)) [0],oN 5 (.alloc 88 3 [(.int .i64 0),(.int .i64 0),(.int .i64 0)]) [],⟨none,(.st 3 (.t 5) (.t 19)),none,[2,1,0,1,2]⟩] false) (.reg [oM 20 3 [],oN 21 (.ld true 3 (.t 5)) [],oN 22 (.build [(.int .i64 0),(.int .i64 0),(.int .i64 0),(.int .i64 0)] [(0,(3,(.t 21))),(3,(1,(.c (.int .i64 24))))]) [1],oN 23 (.bslice 90 4 [(.int .i64 0),(.int .i64 0),(.int .i64 0),(.int .i64 0)] 1 [(0,(.t 22))]) [2],oN 24 (.app 90 4 32 [(.int .i64 0),(.int .i64 0),(.int .i64 0),(.int .i64 0)] (.t 20) (.t 23)) [0,3],oM 3 24 [4,4,0,1,2,3,4]] false))) (.reg [oN 25 (.bin .add (.t 16) (.c (.int .i64 1))) [],oM 16 25 [0]] false))))))) (.seq (.reg [oM 26 3 [],oM 2 26 [0,0]] false) .ret))))
theorem mcOkv134:okM Tryz.prog Tryz.f134 27=some mcv134:=by kernel_rfl
theorem vc134 (ls:List (List Pl)) (hn:1<=ls.flatten.length/\ls.flatten.length<=1000) (hl:ls.length<=100):FC Tryz.prog 134 [.rs 1 (ls.map cR)] [] (.rs 4 ((ofS ls).map cPl)) [] false:=by
 refine Qj (nt:=27) Tryz.func134 rfl rfl mcOkv134 (nL rfl) ?_
 delta mcv134
 refine gA 7 rfl (cN rfl rfl (vc160 ls hn hl) (gR 11 rfl (Qi (l:=(norms).flatMap cV) (els:=(norms).map cV) (fl:=true) rfl (by kernel_rfl) rfl rfl (by kernel_rfl) (by kernel_rfl) (gR 0 rfl (Xi rfl rfl (gR 3 rfl ?_))))))
 refine Qr (α:=Nat) (fun k=>6-k) (fun k=>[(3,.sl 1005 0 (ls.flatten.length+(k))),(14,.rs 3 (norms.map cV)),(15,iv ((6:Nat):Int)),(16,iv (((k):Nat):Int))]) (fun k=>[(1005,.cells 90 4 ((ls.flatten++(norms.take (k)).map wsP).map cPl) true)]) (fun k=>k<=6) 0 (by omega)
  (Qa (.cs (.cons rfl (Xr (f:=cV) (xs:=norms) rfl rfl rfl (fun _=>rfl)) (.cs (.cs (.nil))))) (.keep (by simp [get]) rfl (.nil)) (fun i h=>by cases h)) ?_
 intro k hk
 refine gT 5 rfl (Qe rfl (fun h17=>?_) (fun h17=>?_))
 ·replace h17:=of_decide_eq_true h17
  refine gK 5 rfl ?_
  obtain ⟨v,hvk,hvm⟩:=Qo (L:=norms) (k:=k) (by show k<6; omega)
  refine Qp (f:=cV) (y:=v) rfl rfl rfl (by omega) hvk (gR 0 rfl (QG (cs:=cV v) rfl rfl (nL rfl) rfl (gR 7 rfl (Qi (l:=(([wsP v]:List Pl)).flatMap cPl) (els:=(([wsP v]:List Pl)).map cPl) (fl:=true) rfl (by kernel_rfl) rfl rfl (by kernel_rfl) (by kernel_rfl) (gR 0 rfl (QB (f:=cPl) (xs:=ls.flatten++(norms.take k).map wsP) (y:=wsP v) (fl':=true) rfl rfl rfl rfl (by simp; rw [show norms.length=6 from rfl]; omega) rfl rfl rfl (by decide) rfl (by omega) (by omega) rfl (gR 3 rfl (Qg rfl rfl rfl (by omega) (gR 2 rfl ?_)))))))))
  exact Q8 <| ⟨k+1,by omega,by omega,Q6 (i:=24) (i':=1005) (F1:=[(3,.sl 24 0 (ls.flatten.length+(k+1))),(14,.rs 3 (norms.map cV)),(15,iv ((6:Nat):Int)),(16,iv (((k+1):Nat):Int))]) (H1:=[(24,.cells 90 4 ((ls.flatten++(norms.take (k+1)).map wsP).map cPl) true)]) (Qb rfl rfl) (.keep (by rw [ws_succ hvk]; rfl) rfl (.nil)) (fun i h=>by cases h) rfl rfl (.cons rfl (.sl _ _) (.cons rfl (.same _) (.cons rfl (.same _) (.cons rfl (.same _) (.nil))))) (Qb rfl rfl) (.keep rfl rfl .nil) nz⟩
 ·replace h17:=of_decide_eq_false h17
  refine gK 7 rfl ?_
  obtain rfl:k=6:=by omega
  exact Qk <| Qs rfl (Xr (f:=cPl) (xs:=ofS ls) rfl rfl (by simp [ofS,norms]) (fun _=>rfl)) .nil
end Go.Proofs.YthfhaoogcpfboaaGreat
namespace Go.Proofs.YthfhaoogcpfboaaGreat
open Go.RowKit
set_option maxRecDepth 100000
set_option linter.unusedVariables false
theorem all_at {α:Type} {p:α->Bool} {l:List α} {k:Nat} {x:α} (h:l[k]?=some x):(l.drop k).all p=(p x&&(l.drop (k+1)).all p):=by rw [Jo h]; rfl
theorem withinS_at {m:Int} {l:List Int} {k:Nat} {x:Int} (h:l[k]?=some x):Ji m (l.drop k)=(decide (-m<=x/\x<=m)&&Ji m (l.drop (k+1))):=all_at h
def Q5 (p:Pl):Bool:=Ji 4608 [p.n.x,p.n.y,p.n.z]&&decide ((gL [p.n.x,p.n.y,p.n.z]:Int)=1)&&Ji 2097152 [p.b]
def badP (p:Pl):Bool := !Q5 p
def ckS (c:List Pl):Int:=if c.length>48 then 2 else if c.any badP=true then 12 else 0
def badC (c:List Pl):Bool:=decide (ckS c≠0)
def XQ (ls:List (List Pl)):Bool := !ls.any badC
def QX (c:List Pl):Bool:=XQ [c]&&fullS (ofS [c])
def Uh (a b:List Pl):Bool := !XQ [a,b] || !fullS (ofS [a,b])
def meetB (c q:List Pl):Bool := !Uh c q
def sapartS (c:List Pl) (s:List (List Pl)):Bool := !s.any (meetB c)
theorem within_bd {m:Int} {l:List Int} (h:Ji m l=true):∀ x∈l,-m<=x/\x<=m:=fun x hx=>of_decide_eq_true (List.all_eq_true.1 h x hx)
theorem Jt {a b A B:Int} (ha : -A<=a/\a<=A) (hb : -B<=b/\b<=B) : -(A*B)<=a*b/\a*b<=A*B:=by
 have h1:(a*b).natAbs<=A.toNat*B.toNat:=by rw [Int.natAbs_mul]; exact Nat.mul_le_mul (by omega) (by omega)
 have h2:((A.toNat*B.toNat:Nat):Int)=A*B:=by rw [Int.natCast_mul,Int.toNat_of_nonneg (by omega),Int.toNat_of_nonneg (by omega)]
 omega
def VB (m:Int) (v:V3):Prop:=(-m<=v.x/\v.x<=m)/\(-m<=v.y/\v.y<=m)/\(-m<=v.z/\v.z<=m)
theorem crossW_b {a b:V3} (ha:VB 4608 a) (hb:VB 4608 b):VB 42467328 (QC a b):=by
 obtain ⟨ax,ay,az⟩:=ha
 obtain ⟨bx,by_,bz⟩:=hb
 have e1:=Jt ay bz; have e2:=Jt az by_; have e3:=Jt az bx; have e4:=Jt ax bz; have e5:=Jt ax by_; have e6:=Jt ay bx
 simp only [QC]
 rw [Xk (n:=a.y*b.z) (by omega),Xk (n:=a.z*b.y) (by omega),Xk (n:=a.z*b.x) (by omega),Xk (n:=a.x*b.z) (by omega),Xk (n:=a.x*b.y) (by omega),Xk (n:=a.y*b.x) (by omega),Xk (n:=a.y*b.z-a.z*b.y) (by omega),Xk (n:=a.z*b.x-a.x*b.z) (by omega),Xk (n:=a.x*b.y-a.y*b.x) (by omega)]
 refine ⟨?_,?_,?_⟩ <;> dsimp only <;> omega
theorem timesW_b {v:V3} {n:Int} (hv:VB 42467328 v) (hn : -2097152<=n/\n<=2097152):VB 89060441849856 (QQ v n):=by
 obtain ⟨ax,ay,az⟩:=hv
 have e1:=Jt ax hn; have e2:=Jt ay hn; have e3:=Jt az hn
 simp only [QQ]
 rw [Xk (n:=v.x*n) (by omega),Xk (n:=v.y*n) (by omega),Xk (n:=v.z*n) (by omega)]
 refine ⟨?_,?_,?_⟩ <;> dsimp only <;> omega
theorem addW_b {a b:V3} {A B C:Int} (ha:VB A a) (hb:VB B b) (h:A+B<=C:=by decide) (hC:C<=1000000000000000:=by decide):VB C (addW a b):=by
 obtain ⟨ax,ay,az⟩:=ha
 obtain ⟨bx,by_,bz⟩:=hb
 simp only [addW]
 rw [Xk (n:=a.x+b.x) (by omega),Xk (n:=a.y+b.y) (by omega),Xk (n:=a.z+b.z) (by omega)]
 refine ⟨?_,?_,?_⟩ <;> dsimp only <;> omega
theorem dotW_b {a b:V3} (ha:VB 4608 a) (hb:VB 42467328 b) : -1000000000000<=dotW a b/\dotW a b<=1000000000000:=by
 obtain ⟨ax,ay,az⟩:=ha
 obtain ⟨bx,by_,bz⟩:=hb
 have e1:=Jt ax bx; have e2:=Jt ay by_; have e3:=Jt az bz
 unfold dotW
 rw [Xk (n:=a.x*b.x) (by omega),Xk (n:=a.y*b.y) (by omega),Xk (n:=a.z*b.z) (by omega),Xk (n:=a.x*b.x+a.y*b.y) (by omega),Xk (by omega)]
 omega
theorem valid_b {p:Pl} (h:Q5 p=true):VB 4608 p.n/\(-2097152<=p.b/\p.b<=2097152):=by
 simp only [Q5,Bool.and_eq_true] at h
 have h1:=within_bd h.1.1
 exact ⟨⟨h1 _ (by simp),h1 _ (by simp),h1 _ (by simp)⟩,within_bd h.2 _ (by simp)⟩
theorem sum3_b {p q r:Pl} (hp:Q5 p=true) (hq:Q5 q=true) (hr:Q5 r=true):VB 267181325549568 (Xw p q r)/\(-1000000000000<=wd3 p q r/\wd3 p q r<=1000000000000):=by
 obtain ⟨p1,p2⟩:=valid_b hp
 obtain ⟨q1,q2⟩:=valid_b hq
 obtain ⟨r1,r2⟩:=valid_b hr
 refine ⟨?_,dotW_b r1 (crossW_b p1 q1)⟩
 have z:VB 0 (⟨0,0,0⟩:V3):=⟨by decide,by decide,by decide⟩
 exact addW_b (A:=178120883699712) (addW_b (A:=89060441849856) (addW_b z (timesW_b (crossW_b q1 r1) p2)) (timesW_b (crossW_b r1 p1) q2)) (timesW_b (crossW_b p1 q1) r2)
theorem okT_valid {p q r:Pl} (hp:Q5 p=true) (hq:Q5 q=true) (hr:Q5 r=true):okT p q r=true:=by
 obtain ⟨⟨h1,h2,h3⟩,h4⟩:=sum3_b hp hq hr
 refine List.all_eq_true.2 fun x hx=>decide_eq_true ?_
 simp only [List.mem_cons,List.not_mem_nil,or_false] at hx
 rcases hx with rfl | rfl | rfl | rfl <;> omega
theorem okMid_valid {p:Pl} (hp:Q5 p=true):∀ {t:List Pl},(∀ q∈t,Q5 q=true)->okMid p t=true
 | [],_=>rfl
 | q::t,h=>by
  simp only [okMid,Bool.and_eq_true]
  exact ⟨List.all_eq_true.2 fun s hs=>okT_valid hp (h q (List.mem_cons_self ..)) (h s (List.mem_cons_of_mem _ hs)),okMid_valid hp fun s hs=>h s (List.mem_cons_of_mem _ hs)⟩
theorem okTop_valid:∀ {r:List Pl},(∀ q∈r,Q5 q=true)->okTop r=true
 | [],_=>rfl
 | p::t,h=>by
  simp only [okTop,Bool.and_eq_true]
  exact ⟨okMid_valid (h p (List.mem_cons_self ..)) fun s hs=>h s (List.mem_cons_of_mem _ hs),okTop_valid fun s hs=>h s (List.mem_cons_of_mem _ hs)⟩
theorem ck_ok {c:List Pl} (h:badC c=false):c.length<=48/\∀ p∈c,Q5 p=true:=by
 have h:=of_decide_eq_false h
 unfold ckS at h
 split at h
 ·exact absurd (by decide) h
 ·rename_i h1
  split at h
  ·exact absurd (by decide) h
  ·rename_i h2
   refine ⟨by omega,fun p hp=>?_⟩
   cases hv:Q5 p with
   | true=>rfl
   | false=>exact absurd (List.any_eq_true.2 ⟨p,hp,by simp [badP,hv]⟩) h2
theorem valid_all {ls:List (List Pl)} (h:XQ ls=true):∀ c∈ls,c.length<=48/\∀ p∈c,Q5 p=true:=fun c hc=>by
 refine ck_ok ?_
 cases hb:badC c with
 | false=>rfl
 | true =>
  unfold XQ at h
  rw [List.any_eq_true.2 ⟨c,hc,hb⟩] at h; cases h
theorem norms_valid:∀ p∈norms.map wsP,Q5 p=true:=by decide +kernel
theorem ofS_valid {ls:List (List Pl)} (h:XQ ls=true):∀ p∈ofS ls,Q5 p=true:=fun p hp=>by
 rcases List.mem_append.1 hp with hp | hp
 ·obtain ⟨c,hc,hp⟩:=List.mem_flatten.1 hp
  exact (valid_all h c hc).2 p hp
 ·exact norms_valid p hp
structure OkC (c:List Pl):Prop where
 n:1<=c.length/\c.length<=100
structure OkA (a b:List Pl):Prop where
 n:1<=a.length/\a.length<=100
 m:b.length<=100
theorem OkA.fl {a b:List Pl} (h:OkA a b):1<=[a,b].flatten.length/\[a,b].flatten.length<=1000:=by
 have:=h.n; have:=h.m; simp; omega
theorem OkA.of {a b:List Pl} (h:XQ [a,b]=true):(ofS [a,b]).length<=110:=by
 have h1:=(valid_all h a (by simp)).1; have h2:=(valid_all h b (by simp)).1; simp [ofS,norms]; omega
theorem OkC.fl {c:List Pl} (h:OkC c):1<=[c].flatten.length/\[c].flatten.length<=1000:=by
 have:=h.n; simp; omega
theorem OkC.of {c:List Pl} (h:XQ [c]=true):(ofS [c]).length<=110:=by
 have h1:=(valid_all h c (by simp)).1; simp [ofS,norms]; omega
def mcv182:MC:=(.seq (.reg [oN 4 (.mv (.c (.bool false))) []] false) (.seq (.seq (.reg [oM 7 1 [],oN 8 (.len (.t 7)) [0],oN 9 (.mv (.c (.int .i64 0))) []] false) (.block 0 (.loop (.seq (.reg [oN 10 (.bin .lss (.t 9) (.t 8)) []] false) (.seq (.cond (.t 10) .skip (.exit 0)) (.seq (.block 1 (.seq (.reg [oN 11 (.ixsl 1 (.t 7) (.t 9)) [],oD 12 1 11 [0],oM 6 12 [1,0,1]] false) (.seq (.reg [oM 13 6 [],oM 14 0 [],oN 15 (.un .neg (.t 14)) [1],oN 16 (.bin .lss (.t 13) (.t 15)) [0,2],oM 17 16 [3],pM 18 6 17 false [4],pM 19 0 17 false [4],oG 20 (.bin .gtr (.t 18) (.t 19)) 17 false [5,6,4],oN 21 (.pick (.t 17) (.c (.bool true)) (.t 20)) [4,7]] false) (.cond (.t 21) (.seq (.reg [oN 4 (.mv (.c (.bool false))) []] false) .ret) .skip)))) (.reg [oN 22 (.bin .add (.t 9) (.c (.int .i64 1))) [],oM 9 22 [0]] false))))))) (.seq (.reg [oN 4 (.mv (.c (.bool true))) []] false) .ret)))
theorem mcOkv182:okM Tryz.prog Tryz.f182 23=some mcv182:=by kernel_rfl
theorem vc182 (m:Int) (l:List Int) (hm:0<=m/\m<=1000000000) (hn:l.length<=1000):FC Tryz.prog 182 [iv m,ints l] [] (.bool (Ji m l)) [] false:=by
 refine Qj (nt:=23) Tryz.func182 rfl rfl mcOkv182 (nL rfl) ?_
 delta mcv182
 refine gA 8 rfl (Qh rfl rfl (gR 3 rfl ?_))
 refine Qr (α:=Nat) (fun k=>l.length-k) (fun k=>[(0,iv m),(7,ints l),(8,iv (l.length:Int)),(9,iv (((k):Nat):Int))]) (fun k=>[]) (fun k=>k<=l.length/\Ji m (l.drop k)=Ji m l) 0 (⟨by omega,rfl⟩)
  (Qa (Qb rfl rfl) (.nil) (fun i h=>by cases h)) ?_
 rintro k ⟨hk,hinv⟩
 refine gT 5 rfl (Qe rfl (fun h10=>?_) (fun h10=>?_))
 ·first | replace h10:=of_decide_eq_true h10 | skip
  refine gK 5 rfl ?_
  obtain ⟨x,hxk,hxm⟩:=Qo (L:=l) (k:=k) (by omega)
  rw [withinS_at hxk] at hinv
  refine Qp (f:=ci) (y:=x) rfl rfl rfl (by omega) hxk (gR 7 rfl (Jz rfl rfl (by omega) (gR 0 rfl (Q9 rfl rfl rfl rfl (fun h16=>?_) (fun h16=>?_)))))
  ·skip
   refine gR 12 rfl ?_
   rw [decide_eq_false (show ¬ (-m<=x/\x<=m) by omega),Bool.false_and] at hinv
   rw [← hinv]
   exact Qk <| Qc rfl rfl rfl (.inr rfl)
  ·skip
   refine gR 3 rfl (Q9 rfl rfl rfl rfl (fun h20=>?_) (fun h20=>?_))
   ·skip
    refine gR 8 rfl ?_
    rw [decide_eq_false (show ¬ (-m<=x/\x<=m) by omega),Bool.false_and] at hinv
    rw [← hinv]
    exact Qk <| Qc rfl rfl rfl (.inr rfl)
   ·skip
    refine gR 5 rfl ?_
    first | refine Qg rfl rfl rfl (by omega) ?_ | refine QH rfl rfl rfl rfl ?_
    refine gR 2 rfl ?_
    rw [decide_eq_true (show -m<=x/\x<=m by omega),Bool.true_and] at hinv
    exact Q8 <| ⟨k+1,⟨by omega,hinv⟩,by omega,Qa (Qb rfl rfl) (.nil) (fun i h=>by cases h)⟩
 ·first | replace h10:=of_decide_eq_false h10 | skip
  refine gK 6 rfl ?_
  rw [List.drop_eq_nil_of_le (by omega)] at hinv
  rw [← hinv]
  exact Qk <| Qc rfl rfl rfl (.inr rfl)
def mcv157:MC:=(.seq (.reg [oN 1 (.box 90 4 (.t 0)) [],oN 2 (.mv (.c (.bool false))) []] false) (.seq (.reg [oA 3 0 1 [],oA 4 0 3 [0],oD 5 1 4 [1],oA 6 0 1 [],oA 7 1 6 [3],oD 8 1 7 [4],oA 9 0 1 [],oA 10 2 9 [6],oD 11 1 10 [7],oN 12 (.bslice 3 1 [(.int .i64 0)] 3 [(0,(.t 5)),(1,(.t 8)),(2,(.t 11))]) [2,5,8],oN 13 (.call 182 [(.c (.int .i64 4608)),(.t 12)]) [9],oM 14 13 [10,10],pA 15 0 1 14 true [11],pA 16 0 15 14 true [12,11],pD 17 1 16 14 true [13,11],pA 18 0 1 14 true [11],pA 19 1 18 14 true [15,11],pD 20 1 19 14 true [16,11],pA 21 0 1 14 true [11],pA 22 2 21 14 true [18,11],pD 23 1 22 14 true [19,11],oG 24 (.bslice 3 1 [(.int .i64 0)] 3 [(0,(.t 17)),(1,(.t 20)),(2,(.t 23))]) 14 true [14,17,20,11],oG 25 (.call 183 [(.t 24)]) 14 true [21,11,11],oG 26 (.bin .eql (.t 25) (.c (.int .i64 1))) 14 true [22,11],oN 27 (.pick (.t 14) (.t 26) (.c (.bool false))) [11,23],oM 28 27 [24,22],pA 29 3 1 28 true [25],pD 30 1 29 28 true [26,25],oG 31 (.bslice 3 1 [(.int .i64 0)] 1 [(0,(.t 30))]) 28 true [27,25],oG 32 (.call 182 [(.c (.int .i64 2097152)),(.t 31)]) 28 true [28,25,25],oN 33 (.pick (.t 28) (.t 32) (.c (.bool false))) [25,29],oM 2 33 [30,29,0,1,2,3,4,5,6,7,8,9,10,11,12,13,14,15,16,17,18,19,20,21,22,23,24,25,26,27,28,29,30]] false) .ret))
theorem mcOkv157:okM Tryz.prog Tryz.f157 34=some mcv157:=by kernel_rfl
theorem vc157 (p:Pl):FC Tryz.prog 157 [.agg (cPl p)] [] (.bool (Q5 p)) [] false:=by
 refine Qj (nt:=34) Tryz.func157 rfl rfl mcOkv157 (nL rfl) ?_
 delta mcv157
 refine gA 9 rfl ?_
 first | refine rs_ld_r rfl rfl rfl ?_ | refine JD rfl rfl rfl rfl rfl ?_ | refine rs_ld_m rfl rfl rfl (by omega) rfl ?_
 refine gR 2 rfl ?_
 first | refine rs_ld_r rfl rfl rfl ?_ | refine JD rfl rfl rfl rfl rfl ?_ | refine rs_ld_m rfl rfl rfl (by omega) rfl ?_
 refine gR 2 rfl ?_
 first | refine rs_ld_r rfl rfl rfl ?_ | refine JD rfl rfl rfl rfl rfl ?_ | refine rs_ld_m rfl rfl rfl (by omega) rfl ?_
 refine gR 0 rfl (Qi (l:=(([p.n.x,p.n.y,p.n.z]:List Int)).flatMap ci) (els:=(([p.n.x,p.n.y,p.n.z]:List Int)).map ci) (fl:=true) rfl (by kernel_rfl) rfl rfl (by kernel_rfl) (by kernel_rfl) (gR 0 rfl (Qx [12] rfl rfl (vc182 4608 [p.n.x,p.n.y,p.n.z] (by decide) (by simp)) (.cons (Qd rfl) (.cons (QL (f:=ci) (xs:=[p.n.x,p.n.y,p.n.z]) (by simp) rfl rfl) (.nil))) rfl ?_)))
 cases h13:Ji 4608 [p.n.x,p.n.y,p.n.z]
 ·skip
  refine gR 23 rfl ?_
  rw [show Q5 p=false from by unfold Q5; rw [h13]; rfl]
  exact Qk <| Qc rfl rfl rfl (.inr rfl)
 ·skip
  refine gR 3 rfl ?_
  first | refine rs_ld_r rfl rfl rfl ?_ | refine JD rfl rfl rfl rfl rfl ?_ | refine rs_ld_m rfl rfl rfl (by omega) rfl ?_
  refine gR 2 rfl ?_
  first | refine rs_ld_r rfl rfl rfl ?_ | refine JD rfl rfl rfl rfl rfl ?_ | refine rs_ld_m rfl rfl rfl (by omega) rfl ?_
  refine gR 2 rfl ?_
  first | refine rs_ld_r rfl rfl rfl ?_ | refine JD rfl rfl rfl rfl rfl ?_ | refine rs_ld_m rfl rfl rfl (by omega) rfl ?_
  refine gR 0 rfl (Qi (l:=(([p.n.x,p.n.y,p.n.z]:List Int)).flatMap ci) (els:=(([p.n.x,p.n.y,p.n.z]:List Int)).map ci) (fl:=true) rfl (by kernel_rfl) rfl rfl (by kernel_rfl) (by kernel_rfl) (gR 0 rfl (Qx [24] rfl rfl (fc46 [p.n.x,p.n.y,p.n.z] (fun x hx=>by have:=within_bd h13 x hx; omega) (by simp)) (.cons (QL (f:=ci) (xs:=[p.n.x,p.n.y,p.n.z]) (by simp) rfl rfl) (.nil)) rfl (gR 0 rfl (Q9 rfl rfl rfl rfl (fun h26=>?_) (fun h26=>?_))))))
  ·skip
   refine gR 3 rfl ?_
   first | refine rs_ld_r rfl rfl rfl ?_ | refine JD rfl rfl rfl rfl rfl ?_ | refine rs_ld_m rfl rfl rfl (by omega) rfl ?_
   refine gR 0 rfl (Qi (l:=(([p.b]:List Int)).flatMap ci) (els:=(([p.b]:List Int)).map ci) (fl:=true) rfl (by kernel_rfl) rfl rfl (by kernel_rfl) (by kernel_rfl) (gR 0 rfl (Qx [31] rfl rfl (vc182 2097152 [p.b] (by decide) (by simp)) (.cons (Qd rfl) (.cons (QL (f:=ci) (xs:=[p.b]) (by simp) rfl rfl) (.nil))) rfl ?_)))
   cases h32:Ji 2097152 [p.b]
   ·skip
    refine gR 4 rfl ?_
    rw [show Q5 p=false from by unfold Q5; rw [h13,decide_eq_true h26,h32]; rfl]
    exact Qk <| Qc rfl rfl rfl (.inr rfl)
   ·skip
    refine gR 4 rfl ?_
    rw [show Q5 p=true from by unfold Q5; rw [h13,decide_eq_true h26,h32]; rfl]
    exact Qk <| Qc rfl rfl rfl (.inr rfl)
  ·skip
   refine gR 10 rfl ?_
   rw [show Q5 p=false from by unfold Q5; rw [h13,decide_eq_false h26]; rfl]
   exact Qk <| Qc rfl rfl rfl (.inr rfl)
def mcv156:MC:=(.seq (.reg [oN 1 (.box 90 4 (.t 0)) [],oN 2 (.mv (.c (.bool false))) []] false) (.seq (.reg [oN 3 (.ld true 4 (.t 1)) [],oN 4 (.call 157 [(.t 3)]) [0],oN 5 (.un .not (.t 4)) [1],oM 2 5 [2,1,0,1,2]] false) .ret))
theorem mcOkv156:okM Tryz.prog Tryz.f156 6=some mcv156:=by kernel_rfl
theorem vc156 (p:Pl):FC Tryz.prog 156 [.agg (cPl p)] [] (.bool (badP p)) [] false:=by
 refine Qj (nt:=6) Tryz.func156 rfl rfl mcOkv156 (nL rfl) ?_
 delta mcv156
 refine gA 8 rfl (cN rfl rfl (vc157 p) (gR 4 rfl ?_))
 exact Qk <| Qc rfl rfl rfl (.inr rfl)
theorem vcI_bad (xs:List Pl) (hxn:xs.length<=4611686018427387904):FC Tryz.prog 181 [.rs 4 (xs.map cPl),(.fn (.func 156) [])] [] (.int .i64 (Xs badP xs 0)) [] false:=by
 refine Qj (nt:=19) Tryz.func181 rfl rfl mcOkv181 (nL rfl) ?_
 delta mcv181
 refine gA 8 rfl (Qh rfl rfl (gR 3 rfl ?_))
 refine Qr (α:=Nat) (fun k=>xs.length-k) (fun k=>[(0,.rs 4 (xs.map cPl)),(1,(.fn (.func 156) [])),(6,.rs 4 (xs.map cPl)),(7,iv (xs.length:Int)),(8,iv (((k):Nat):Int))]) (fun k=>[]) (fun k=>k<=xs.length/\Xs badP (xs.drop k) k=Xs badP xs 0) 0 (⟨by omega,rfl⟩)
  (Qa (Qb rfl rfl) (.nil) (fun i h=>by cases h)) ?_
 rintro k ⟨hk,hinv⟩
 refine gT 5 rfl (Qe rfl (fun h9=>?_) (fun h9=>?_))
 ·first | replace h9:=of_decide_eq_true h9 | skip
  refine gK 13 rfl ?_
  obtain ⟨x,hxk,hxm⟩:=Qo (L:=xs) (k:=k) (by omega)
  rw [JK hxk] at hinv
  refine Qp (f:=cPl) (y:=x) rfl rfl rfl (by omega) hxk (gR 0 rfl (QG (cs:=cPl x) rfl rfl (nL rfl) rfl (gR 0 rfl (Xb [] rfl rfl (by kernel_rfl) rfl (JI (vc156 x)) (.cons (Qd rfl) (.nil)) .nil rfl rfl rfl ?_))))
  cases h16:badP x
  ·skip
   refine gR 4 rfl ?_
   first | refine Qg rfl rfl rfl (by omega) ?_ | refine QH rfl rfl rfl rfl ?_
   refine gR 2 rfl ?_
   rw [h16] at hinv
   exact Q8 <| ⟨k+1,⟨by omega,hinv⟩,by omega,Qa (Qb rfl rfl) (.nil) (fun i h=>by cases h)⟩
  ·skip
   refine gR 8 rfl ?_
   rw [h16] at hinv
   rw [← hinv]
   exact Qk <| Qc rfl rfl rfl (.inr rfl)
 ·first | replace h9:=of_decide_eq_false h9 | skip
  refine gK 6 rfl ?_
  rw [Ju (by omega)] at hinv
  rw [← hinv]
  exact Qk <| Qc rfl rfl rfl (.inr rfl)
theorem vcC_bad (xs:List Pl) (hxn:xs.length<=4611686018427387904):FC Tryz.prog 155 [.rs 4 (xs.map cPl),(.fn (.func 156) [])] [] (.bool (xs.any badP)) [] false:=by
 refine Qj (nt:=9) Tryz.func155 rfl rfl mcOkv155 (nL rfl) ?_
 delta mcv155
 refine gA 8 rfl (cN rfl rfl (vcI_bad xs hxn) (gR 0 rfl (Jk rfl rfl rfl (gR 3 rfl ?_))))
 rw [← Jy]
 exact Qk <| Qc rfl rfl rfl (.inr rfl)
def mcv128:MC:=(.seq (.reg [oN 2 (.mv (.c (.int .i64 0))) []] false) (.seq (.block 0 (.seq (.reg [oM 4 0 [],oN 5 (.len (.t 4)) [0],oN 6 (.bin .gtr (.t 5) (.c (.int .i64 48))) [1],oM 3 6 [2]] false) (.cond (.t 3) (.seq (.reg [oN 2 (.mv (.c (.int .i64 2))) []] false) .ret) (.seq (.reg [oM 8 0 [],oN 9 (.call 155 [(.t 8),(.c (.fn (.func 156) []))]) [0],oM 7 9 [1,1]] false) (.cond (.t 7) (.seq (.reg [oN 2 (.mv (.c (.int .i64 12))) []] false) .ret) .skip))))) (.seq (.reg [oN 2 (.mv (.c (.int .i64 0))) []] false) .ret)))
theorem mcOkv128:okM Tryz.prog Tryz.f128 10=some mcv128:=by kernel_rfl
theorem vc128 (c:List Pl) (hc:c.length<=1000):FC Tryz.prog 128 [.rs 4 (c.map cPl)] [] (iv (ckS c)) [] false:=by
 refine Qj (nt:=10) Tryz.func128 rfl rfl mcOkv128 (nL rfl) ?_
 delta mcv128
 refine gA 9 rfl (Qh rfl rfl (gR 0 rfl (rs_gtr rfl rfl rfl (gR 2 rfl (Qe rfl (fun h3=>?_) (fun h3=>?_))))))
 ·first | replace h3:=of_decide_eq_true h3 | skip
  refine gK 5 rfl ?_
  rw [show ckS c=2 from if_pos (by omega)]
  exact Qk <| Qc rfl rfl rfl (.inr rfl)
 ·first | replace h3:=of_decide_eq_false h3 | skip
  refine gK 3 rfl (cN rfl rfl (vcC_bad c (by omega)) ?_)
  cases h9:c.any badP
  ·skip
   refine gR 9 rfl ?_
   rw [show ckS c=0 from by unfold ckS; rw [if_neg (by omega),h9]; rfl]
   exact Qk <| Qc rfl rfl rfl (.inr rfl)
  ·skip
   refine gR 8 rfl ?_
   rw [show ckS c=12 from by unfold ckS; rw [if_neg (by omega),h9]; rfl]
   exact Qk <| Qc rfl rfl rfl (.inr rfl)
def mcv159:MC:=(.seq (.reg [oN 2 (.mv (.c (.bool false))) []] false) (.seq (.reg [oM 3 0 [],oN 4 (.call 128 [(.t 3)]) [0],oN 5 (.bin .neq (.t 4) (.c (.int .i64 0))) [1],oM 2 5 [2,1,0,1,2]] false) .ret))
theorem mcOkv159:okM Tryz.prog Tryz.f159 6=some mcv159:=by kernel_rfl
theorem vc159 (c:List Pl) (hc:c.length<=1000):FC Tryz.prog 159 [.rs 4 (c.map cPl)] [] (.bool (badC c)) [] false:=by
 refine Qj (nt:=6) Tryz.func159 rfl rfl mcOkv159 (nL rfl) ?_
 delta mcv159
 refine gA 7 rfl (cN rfl rfl (vc128 c hc) (gR 0 rfl (Ja rfl rfl rfl (gR 3 rfl ?_))))
 exact Qk <| Qc rfl rfl rfl (.inr rfl)
def mcv158:MC:=(.seq (.reg [oN 4 (.mv (.c (.int .i64 0))) []] false) (.seq (.seq (.reg [oM 6 0 [],oN 7 (.len (.t 6)) [0],oN 8 (.mv (.c (.int .i64 0))) []] false) (.block 0 (.loop (.seq (.reg [oN 9 (.bin .lss (.t 8) (.t 7)) []] false) (.seq (.cond (.t 9) .skip (.exit 0)) (.seq (.block 1 (.seq (.reg [oM 10 8 [],oM 5 10 [0,0]] false) (.seq (.reg [oM 11 1 [],oM 12 0 [],oM 13 5 [],oN 14 (.ixsl 1 (.t 12) (.t 13)) [1,2],oD 15 1 14 [3],oN 16 (.callv (.t 11) [(.t 15)]) [0,4]] false) (.cond (.t 16) (.seq (.reg [oM 17 5 [],oM 4 17 [0,0]] false) .ret) .skip)))) (.reg [oN 18 (.bin .add (.t 8) (.c (.int .i64 1))) [],oM 8 18 [0]] false))))))) (.seq (.reg [oN 4 (.mv (.c (.int .i64 (-1)))) []] false) .ret)))
theorem mcOkv158:okM Tryz.prog Tryz.f158 19=some mcv158:=by kernel_rfl
theorem vcI_badc (xs:List (List Pl)) (hx:∀ x∈xs,x.length<=1000) (hxn:xs.length<=4611686018427387904):FC Tryz.prog 158 [.rs 1 (xs.map cR),(.fn (.func 159) [])] [] (.int .i64 (Xs badC xs 0)) [] false:=by
 refine Qj (nt:=19) Tryz.func158 rfl rfl mcOkv158 (nL rfl) ?_
 delta mcv158
 refine gA 8 rfl (Qh rfl rfl (gR 3 rfl ?_))
 refine Qr (α:=Nat) (fun k=>xs.length-k) (fun k=>[(0,.rs 1 (xs.map cR)),(1,(.fn (.func 159) [])),(6,.rs 1 (xs.map cR)),(7,iv (xs.length:Int)),(8,iv (((k):Nat):Int))]) (fun k=>[]) (fun k=>k<=xs.length/\Xs badC (xs.drop k) k=Xs badC xs 0) 0 (⟨by omega,rfl⟩)
  (Qa (Qb rfl rfl) (.nil) (fun i h=>by cases h)) ?_
 rintro k ⟨hk,hinv⟩
 refine gT 5 rfl (Qe rfl (fun h9=>?_) (fun h9=>?_))
 ·first | replace h9:=of_decide_eq_true h9 | skip
  refine gK 13 rfl ?_
  obtain ⟨x,hxk,hxm⟩:=Qo (L:=xs) (k:=k) (by omega)
  rw [JK hxk] at hinv
  refine Qp (f:=cR) (y:=x) rfl rfl rfl (by omega) hxk (gR 1 rfl (Xb [] rfl rfl (by kernel_rfl) rfl (JI (vc159 x (hx x hxm))) (.cons (Qd rfl) (.nil)) .nil rfl rfl rfl ?_))
  cases h16:badC x
  ·skip
   refine gR 4 rfl ?_
   first | refine Qg rfl rfl rfl (by omega) ?_ | refine QH rfl rfl rfl rfl ?_
   refine gR 2 rfl ?_
   rw [h16] at hinv
   exact Q8 <| ⟨k+1,⟨by omega,hinv⟩,by omega,Qa (Qb rfl rfl) (.nil) (fun i h=>by cases h)⟩
  ·skip
   refine gR 8 rfl ?_
   rw [h16] at hinv
   rw [← hinv]
   exact Qk <| Qc rfl rfl rfl (.inr rfl)
 ·first | replace h9:=of_decide_eq_false h9 | skip
  refine gK 6 rfl ?_
  rw [Ju (by omega)] at hinv
  rw [← hinv]
  exact Qk <| Qc rfl rfl rfl (.inr rfl)
def mcv131:MC:=(.seq (.reg [oN 4 (.mv (.c (.bool false))) []] false) (.seq (.reg [oM 5 0 [],oM 6 1 [],oN 7 (.call 158 [(.t 5),(.t 6)]) [0,1],oN 8 (.bin .geq (.t 7) (.c (.int .i64 0))) [2],oM 4 8 [3,2,0,1,2,3]] false) .ret))
theorem mcOkv131:okM Tryz.prog Tryz.f131 9=some mcv131:=by kernel_rfl
theorem vcC_badc (xs:List (List Pl)) (hx:∀ x∈xs,x.length<=1000) (hxn:xs.length<=4611686018427387904):FC Tryz.prog 131 [.rs 1 (xs.map cR),(.fn (.func 159) [])] [] (.bool (xs.any badC)) [] false:=by
 refine Qj (nt:=9) Tryz.func131 rfl rfl mcOkv131 (nL rfl) ?_
 delta mcv131
 refine gA 8 rfl (cN rfl rfl (vcI_badc xs hx hxn) (gR 0 rfl (Jk rfl rfl rfl (gR 3 rfl ?_))))
 rw [← Jy]
 exact Qk <| Qc rfl rfl rfl (.inr rfl)
def mcv133:MC:=(.seq (.reg [oN 2 (.mv (.c (.bool false))) []] false) (.seq (.reg [oM 3 0 [],oN 4 (.call 131 [(.t 3),(.c (.fn (.func 159) []))]) [0],oN 5 (.un .not (.t 4)) [1],oM 2 5 [2,1,0,1,2]] false) .ret))
theorem mcOkv133:okM Tryz.prog Tryz.f133 6=some mcv133:=by kernel_rfl
theorem vc133 (ls:List (List Pl)) (hx:∀ x∈ls,x.length<=1000) (hn:ls.length<=1000):FC Tryz.prog 133 [.rs 1 (ls.map cR)] [] (.bool (XQ ls)) [] false:=by
 refine Qj (nt:=6) Tryz.func133 rfl rfl mcOkv133 (nL rfl) ?_
 delta mcv133
 refine gA 7 rfl (cN rfl rfl (vcC_badc ls hx (by omega)) (gR 4 rfl ?_))
 exact Qk <| Qc rfl rfl rfl (.inr rfl)
def mcv154:MC:=(.seq (.reg [oN 2 (.mv (.c (.bool false))) []] false) (.seq (.reg [oM 3 0 [],oN 4 (.bslice 85 1 [.nils] 1 [(0,(.t 3))]) [0],oN 5 (.call 133 [(.t 4)]) [1],oM 6 5 [2,2],pM 7 0 6 true [3],oG 8 (.bslice 85 1 [.nils] 1 [(0,(.t 7))]) 6 true [4,3],oG 9 (.call 134 [(.t 8)]) 6 true [5,3,3],oG 10 (.call 135 [(.t 9)]) 6 true [6,6,3],oN 11 (.pick (.t 6) (.t 10) (.c (.bool false))) [3,7],oM 2 11 [8,7,0,1,2,3,4,5,6,7,8]] false) .ret))
theorem mcOkv154:okM Tryz.prog Tryz.f154 12=some mcv154:=by kernel_rfl
theorem vc154 (c:List Pl) (h:OkC c):FC Tryz.prog 154 [.rs 4 (c.map cPl)] [] (.bool (QX c)) [] false:=by
 have hcn:=h.n
 refine Qj (nt:=12) Tryz.func154 rfl rfl mcOkv154 (nL rfl) ?_
 delta mcv154
 refine gA 7 rfl (Qi (l:=(([c]:List (List Pl))).flatMap cR) (els:=(([c]:List (List Pl))).map cR) (fl:=true) rfl (by kernel_rfl) rfl rfl (by kernel_rfl) (by kernel_rfl) (gR 0 rfl (Qx [4] rfl rfl (vc133 [c] (fun x hx=>by rw [List.mem_singleton.1 hx]; omega) (by simp)) (.cons (QL (f:=cR) (xs:=[c]) (by simp) rfl rfl) (.nil)) rfl ?_)))
 cases h5:XQ [c]
 ·skip
  refine gR 9 rfl ?_
  rw [show QX c=false from by unfold QX; rw [h5]; rfl]
  exact Qk <| Qc rfl rfl rfl (.inr rfl)
 ·skip
  refine gR 2 rfl (Qi (l:=(([c]:List (List Pl))).flatMap cR) (els:=(([c]:List (List Pl))).map cR) (fl:=true) rfl (by kernel_rfl) rfl rfl (by kernel_rfl) (by kernel_rfl) (gR 0 rfl (Qx [8] rfl rfl (vc134 [c] h.fl (by simp)) (.cons (QL (f:=cR) (xs:=[c]) (by simp) rfl rfl) (.nil)) rfl (gR 0 rfl (cN rfl rfl (vc135 (ofS [c]) (OkC.of h5) (okTop_valid (ofS_valid h5))) (gR 4 rfl ?_))))))
  rw [show QX c=fullS (ofS [c]) from by unfold QX; rw [h5]; rfl]
  exact Qk <| Qc rfl rfl rfl (.inr rfl)
def mcv89:MC:=(.seq (.reg [oN 4 (.mv (.c (.bool false))) []] false) (.seq (.reg [oM 5 0 [],oM 6 1 [],oN 7 (.bslice 85 1 [.nils] 2 [(0,(.t 5)),(1,(.t 6))]) [0,1],oN 8 (.call 133 [(.t 7)]) [2],oN 9 (.un .not (.t 8)) [3],oM 10 9 [4,3],pM 11 0 10 false [5],pM 12 1 10 false [5],oG 13 (.bslice 85 1 [.nils] 2 [(0,(.t 11)),(1,(.t 12))]) 10 false [6,7,5],oG 14 (.call 134 [(.t 13)]) 10 false [8,5,5],oG 15 (.call 135 [(.t 14)]) 10 false [9,9,5],oG 16 (.un .not (.t 15)) 10 false [10,5],oN 17 (.pick (.t 10) (.c (.bool true)) (.t 16)) [5,11],oM 4 17 [12,10,0,1,2,3,4,5,6,7,8,9,10,11,12]] false) .ret))
theorem mcOkv89:okM Tryz.prog Tryz.f89 18=some mcv89:=by kernel_rfl
theorem vc89g (a b:List Pl) (h1:1<=a.length+b.length) (hcn:a.length<=100) (hcm:b.length<=100):FC Tryz.prog 89 [.rs 4 (a.map cPl),.rs 4 (b.map cPl)] [] (.bool (Uh a b)) [] false:=by
 have hfl:1<=[a,b].flatten.length/\[a,b].flatten.length<=1000:=by simp; omega
 refine Qj (nt:=18) Tryz.func89 rfl rfl mcOkv89 (nL rfl) ?_
 delta mcv89
 refine gA 8 rfl (Qi (l:=(([a,b]:List (List Pl))).flatMap cR) (els:=(([a,b]:List (List Pl))).map cR) (fl:=true) rfl (by kernel_rfl) rfl rfl (by kernel_rfl) (by kernel_rfl) (gR 0 rfl (Qx [7] rfl rfl (vc133 [a,b] (fun x hx=>by simp only [List.mem_cons,List.not_mem_nil,or_false] at hx; rcases hx with e | e <;> rw [e] <;> omega) (by simp)) (.cons (QL (f:=cR) (xs:=[a,b]) (by simp) rfl rfl) (.nil)) rfl ?_)))
 cases h8:XQ [a,b]
 ·skip
  refine gR 12 rfl ?_
  rw [show Uh a b=true from by unfold Uh; rw [h8]; rfl]
  exact Qk <| Qc rfl rfl rfl (.inr rfl)
 ·skip
  refine gR 4 rfl (Qi (l:=(([a,b]:List (List Pl))).flatMap cR) (els:=(([a,b]:List (List Pl))).map cR) (fl:=true) rfl (by kernel_rfl) rfl rfl (by kernel_rfl) (by kernel_rfl) (gR 0 rfl (Qx [13] rfl rfl (vc134 [a,b] hfl (by simp)) (.cons (QL (f:=cR) (xs:=[a,b]) (by simp) rfl rfl) (.nil)) rfl (gR 0 rfl (cN rfl rfl (vc135 (ofS [a,b]) (OkA.of h8) (okTop_valid (ofS_valid h8))) (gR 5 rfl ?_))))))
  rw [show Uh a b = !fullS (ofS [a,b]) from by unfold Uh; rw [h8]; rfl]
  exact Qk <| Qc rfl rfl rfl (.inr rfl)
theorem vc89 (a b:List Pl) (h:OkA a b):FC Tryz.prog 89 [.rs 4 (a.map cPl),.rs 4 (b.map cPl)] [] (.bool (Uh a b)) [] false:=vc89g a b (by have:=h.n; omega) h.n.2 h.m
def mcv132:MC:=(.seq (.reg [oN 3 (.mv (.c (.bool false))) []] false) (.seq (.reg [oD 4 1 1 [],oM 5 0 [],oN 6 (.call 89 [(.t 4),(.t 5)]) [0,1],oN 7 (.un .not (.t 6)) [2],oM 3 7 [3,2,0,1,2,3]] false) .ret))
theorem mcOkv132:okM Tryz.prog Tryz.f132 8=some mcv132:=by kernel_rfl
theorem vc132 (c q:List Pl) (h:OkA c q):FC Tryz.prog 132 [.rs 4 (q.map cPl),.rp [.rs 4 (c.map cPl)]] [] (.bool (meetB c q)) [] false:=by
 refine Qj (nt:=8) Tryz.func132 rfl rfl mcOkv132 (nL rfl) ?_
 delta mcv132
 refine gA 8 rfl (cN rfl rfl (vc89 c q h) (gR 4 rfl ?_))
 exact Qk <| Qc rfl rfl rfl (.inr rfl)
theorem vcI_apt (c:List Pl) (xs:List (List Pl)) (hx:∀ x∈xs,OkA c x) (hxn:xs.length<=4611686018427387904):FC Tryz.prog 158 [.rs 1 (xs.map cR),(.fn (.func 132) [.rp [.rs 4 (c.map cPl)]])] [] (.int .i64 (Xs (meetB c) xs 0)) [] false:=by
 refine Qj (nt:=19) Tryz.func158 rfl rfl mcOkv158 (nL rfl) ?_
 delta mcv158
 refine gA 8 rfl (Qh rfl rfl (gR 3 rfl ?_))
 refine Qr (α:=Nat) (fun k=>xs.length-k) (fun k=>[(0,.rs 1 (xs.map cR)),(1,(.fn (.func 132) [.rp [.rs 4 (c.map cPl)]])),(6,.rs 1 (xs.map cR)),(7,iv (xs.length:Int)),(8,iv (((k):Nat):Int))]) (fun k=>[]) (fun k=>k<=xs.length/\Xs (meetB c) (xs.drop k) k=Xs (meetB c) xs 0) 0 (⟨by omega,rfl⟩)
  (Qa (Qb rfl rfl) (.nil) (fun i h=>by cases h)) ?_
 rintro k ⟨hk,hinv⟩
 refine gT 5 rfl (Qe rfl (fun h9=>?_) (fun h9=>?_))
 ·first | replace h9:=of_decide_eq_true h9 | skip
  refine gK 13 rfl ?_
  obtain ⟨x,hxk,hxm⟩:=Qo (L:=xs) (k:=k) (by omega)
  rw [JK hxk] at hinv
  refine Qp (f:=cR) (y:=x) rfl rfl rfl (by omega) hxk (gR 1 rfl (Xb [] rfl rfl (by kernel_rfl) rfl (JI (vc132 c x (hx x hxm))) (.cons (Qd rfl) (.cons (Qd rfl) (.nil))) .nil rfl rfl rfl ?_))
  cases h16:(meetB c) x
  ·skip
   refine gR 4 rfl ?_
   first | refine Qg rfl rfl rfl (by omega) ?_ | refine QH rfl rfl rfl rfl ?_
   refine gR 2 rfl ?_
   rw [h16] at hinv
   exact Q8 <| ⟨k+1,⟨by omega,hinv⟩,by omega,Qa (Qb rfl rfl) (.nil) (fun i h=>by cases h)⟩
  ·skip
   refine gR 8 rfl ?_
   rw [h16] at hinv
   rw [← hinv]
   exact Qk <| Qc rfl rfl rfl (.inr rfl)
 ·first | replace h9:=of_decide_eq_false h9 | skip
  refine gK 6 rfl ?_
  rw [Ju (by omega)] at hinv
  rw [← hinv]
  exact Qk <| Qc rfl rfl rfl (.inr rfl)
theorem vcC_apt (c:List Pl) (xs:List (List Pl)) (hx:∀ x∈xs,OkA c x) (hxn:xs.length<=4611686018427387904):FC Tryz.prog 131 [.rs 1 (xs.map cR),(.fn (.func 132) [.rp [.rs 4 (c.map cPl)]])] [] (.bool (xs.any (meetB c))) [] false:=by
 refine Qj (nt:=9) Tryz.func131 rfl rfl mcOkv131 (nL rfl) ?_
 delta mcv131
 refine gA 8 rfl (cN rfl rfl (vcI_apt c xs hx hxn) (gR 0 rfl (Jk rfl rfl rfl (gR 3 rfl ?_))))
 rw [← Jy]
 exact Qk <| Qc rfl rfl rfl (.inr rfl)
def mcv86:MC:=(.seq (.reg [oN 2 (.box 85 1 (.t 0)) [],oN 4 (.mv (.c (.bool false))) []] false) (.seq (.reg [oM 5 1 [],oN 6 (.mkfn (.func 132) [(.t 2)]) [],oN 7 (.call 131 [(.t 5),(.t 6)]) [0,1],oN 8 (.un .not (.t 7)) [2],oM 4 8 [3,2,0,1,2,3]] false) .ret))
theorem mcOkv86:okM Tryz.prog Tryz.f86 9=some mcv86:=by kernel_rfl
theorem vc86 (c:List Pl) (s:List (List Pl)) (hx:∀ x∈s,OkA c x) (hs:s.length<=1000):FC Tryz.prog 86 [.rs 4 (c.map cPl),.rs 1 (s.map cR)] [] (.bool (sapartS c s)) [] false:=by
 refine Qj (nt:=9) Tryz.func86 rfl rfl mcOkv86 (nL rfl) ?_
 delta mcv86
 refine gA 6 rfl (QE (F0:=[(1,.rs 1 (s.map cR)),(2,.rp [.rs 4 (c.map cPl)])]) (H0:=[]) (Qa (.cs (.cons rfl (Xq rfl rfl (.inl rfl)) (.nil))) (.nil) (fun i h=>by cases h)) (gK 3 rfl (cN rfl rfl (vcC_apt c s hx (by omega)) (gR 4 rfl ?_))))
 exact Qk <| Qc rfl rfl rfl (.inr rfl)
end Go.Proofs.YthfhaoogcpfboaaGreat
namespace Go.Proofs.YthfhaoogcpfboaaGreat
open Go.RowKit
set_option linter.unusedVariables false
theorem sel_some {ls:List Lf} {i:Int} (h0:0<=i) (h1:i<(ls.length:Int)):ls[i.toNat]?=some (Jj ls i):=by
 obtain ⟨x,hx,_⟩:=Qo (L:=ls) (k:=i.toNat) (by omega)
 rw [selF_at hx]; exact hx
theorem sel_ix {ls:List Lf} (h:LvsOK ls) {i:Int} (h0:0<=i) (h1:i<(ls.length:Int)):(Jj ls i).ix=i:=by
 have:=h.ix _ _ (sel_some h0 h1); omega
theorem ixsF_sel {ls:List Lf} (h:LvsOK ls) {w:List Int} (hw:∀ x∈w,0<=x/\x<(ls.length:Int)):Xx (w.map (Jj ls))=w:=by
 unfold Xx
 rw [List.map_map]
 conv=>rhs; rw [← List.map_id w]
 refine List.map_congr_left fun i hi=>?_
 exact sel_ix h (hw i hi).1 (hw i hi).2
theorem incF_ok {z:Int}:∀ (l:List Int) (p:Int),(∀ x∈l,0<=x/\x<z)->(∀ (k:Nat) (a b:Int),l[k]?=some a->l[k+1]?=some b->a<b)->(∀ x,l[0]?=some x->p<x)->incF z p l=true
 | [],_,_,_,_=>rfl
 | x::l,p,h1,h2,h3=>by
  have hx:=h1 x (List.mem_cons_self ..)
  have h4:=h3 x rfl
  have:=incF_ok l x (fun y hy=>h1 y (List.mem_cons_of_mem _ hy)) (fun k a b ha hb=>h2 (k+1) a b ha hb) (fun y hy=>h2 0 x y rfl hy)
  simp only [incF,Bool.and_eq_true,decide_eq_true_eq]
  exact ⟨⟨⟨hx.1,hx.2⟩,h4⟩,this⟩
theorem IxOK.incF {n:Nat} {w:List Int} (h:IxOK n w):incF (n:Int) (-1) w=true :=
 incF_ok w (-1) h.bd h.inc fun x hx=>by have:=h.bd x (JQ hx); omega
theorem tree_len8 (ls:List Lf):∀ d b,(Qw (ofK ls) d b).length=8
 | 0,b=>by
  show ((ofK ls b 1).getD []).length=8
  unfold ofK
  rw [if_neg (by decide)]
  split <;> exact (Jh _).2
 | d+1,b=>by
  rw [treeD_f (by rw [ofK_1 (by have:=Nat.two_pow_pos d; rw [Nat.pow_succ]; omega)]; rfl)]
  exact (Jh _).2
theorem hidT_8 (ls:List Lf) (s:Nat×Nat):(JH ls s).length=8:=tree_len8 ls _ _
theorem hidT_any (ls:List Lf) (l:List (Nat×Nat)):(l.map (JH ls)).any JL=false:=by
 rw [List.any_eq_false]
 intro d hd
 obtain ⟨s,_,rfl⟩:=List.mem_map.1 hd
 rw [show JL (JH ls s)=false from by unfold JL; rw [hidT_8]; rfl]
 decide
theorem fm_show {ls:List Lf} (h:LvsOK ls) {w:List Int} (hw:IxOK ls.length w):fmS (ls.length:Int) (w.map (Jj ls)) ((X0 ls.length w).map (JH ls))=some (X0 ls.length w):=by
 have hn:=h.n
 have e:=ixsF_sel h hw.bd
 rw [fm_5 (by omega) (by rw [e]; exact hw.incF) (by rw [e,Int.toNat_natCast,List.length_map]; exact fun q=>q rfl) (hidT_any ls _),e,Int.toNat_natCast]
end Go.Proofs.YthfhaoogcpfboaaGreat
namespace Go.Proofs.YthfhaoogcpfboaaGreat
open Go.RowKit
set_option maxRecDepth 100000
set_option linter.unusedVariables false
theorem hv_agg {H Hs:Hp} {rd:List Nat} {al:Bool} {vs rs:List AV} (h:HVs H Hs rd al vs rs):HV H Hs rd al (.agg vs) (.agg rs):=fun w S ρ c hh hv=>by
 obtain ⟨C,rfl,hn,h1,h2⟩:=hv.agg_inv
 obtain ⟨e1,e2⟩:=h.at_
 refine .agg rs C (by rw [hn,e1]) (fun j r hj=>?_) fun j r hj=>?_
 ·obtain ⟨v,g1,_⟩:=e2 j r hj
  exact h1 j v g1
 ·obtain ⟨v,g1,g2⟩:=e2 j r hj
  exact g2 w S ρ _ hh (h2 j v g1)
structure Pa where
 name:List Int
 cells:List (List Pl)
 want:List Int
structure Pc where
 sure:List Bool
 touched:List Bool
 cuts:List (List Pl)
abbrev cB (b:Bool):List AV:=[.bool b]
abbrev cPa (p:Pa):List AV:=[.str (Qm p.name),.rs 1 (p.cells.map cR),.rs 1 (p.want.map civ)]
abbrev cPc (x:Pc):List AV:=[.rs 1 (x.sure.map cB),.rs 1 (x.touched.map cB),.rs 1 (x.cuts.map cR)]
abbrev cJ (p:Pa) (x:Pc):List AV:=[.str (Qm p.name),.rs 1 (p.cells.map cR),.rs 1 (p.want.map civ),.rs 1 (x.sure.map cB),.rs 1 (x.touched.map cB),.rs 1 (x.cuts.map cR)]
def JC (lo hi:V3):List Pl:=[⟨⟨1,0,0⟩,hi.x⟩,⟨⟨-1,0,0⟩,-lo.x⟩,⟨⟨0,1,0⟩,hi.y⟩,⟨⟨0,-1,0⟩,-lo.y⟩,⟨⟨0,0,1⟩,hi.z⟩,⟨⟨0,0,-1⟩,-lo.z⟩]
def XH (w:Int):Bool:=decide (w<1)||decide (w>3)
def ckC:List (List Pl)->List (List Pl)->Int
 | _,[]=>0
 | pre,c::l=>if (QX c&&sapartS c pre)=true then ckC (pre++[c]) l else 13
theorem ckC_at {l:List (List Pl)} {k:Nat} {c:List Pl} (h:l[k]?=some c):ckC (l.take k) (l.drop k)=if (QX c&&sapartS c (l.take k))=true then ckC (l.take (k+1)) (l.drop (k+1)) else 13:=by
 rw [Jo h,Qv h]; rfl
theorem ckC_end {l pre:List (List Pl)} {k:Nat} (h:l.length<=k):ckC pre (l.drop k)=0:=by rw [List.drop_eq_nil_of_le h]; rfl
def ckP (p:Pa):Int:=if p.cells.length=0\/p.cells.length>16 then 2 else if p.want.length≠p.cells.length\/p.want.any XH=true then 1 else ckC [] p.cells
def ckAll:List (List Pl)->Int
 | []=>0
 | c::l=>if ckS c≠0 then ckS c else ckAll l
theorem ckAll_at {l:List (List Pl)} {k:Nat} {c:List Pl} (h:l[k]?=some c):ckAll (l.drop k)=if ckS c≠0 then ckS c else ckAll (l.drop (k+1)):=by rw [Jo h]; rfl
def Jv (p:Pa) (x:Pc):Int:=if ckP p≠0 then ckP p else if x.sure.length≠p.cells.length\/x.touched.length≠p.cells.length\/x.cuts.length>24\/ckAll x.cuts≠0 then 4 else 0
structure PaOK (p:Pa):Prop where
 n:p.cells.length<=1000
 w:p.want.length<=1000000
 c:∀ c∈p.cells,1<=c.length/\c.length<=100
structure PcOK (x:Pc):Prop where
 n:x.cuts.length<=1000
 c:∀ c∈x.cuts,c.length<=100
theorem ckP_3 {p:Pa} (h1:¬ ((p.cells.length:Int)=0)) (h2:¬ ((p.cells.length:Int)>16)) (h3:¬ ((p.want.length:Int)≠p.cells.length)) (h4:p.want.any XH=false):ckP p=ckC [] p.cells:=by
 unfold ckP
 rw [if_neg (by omega),if_neg (by rw [h4]; simp; omega)]
def spoiltB (p:Pa) (x:Pc) (k:Nat):Bool:=decide (p.want.getD k 0=1) && !sapartS (p.cells.getD k []) x.cuts
def gougedB (p:Pa) (x:Pc) (k:Nat):Bool:=decide (p.want.getD k 0=1)&&x.touched.getD k false
def leftB (p:Pa) (x:Pc) (k:Nat):Bool:=decide (p.want.getD k 0=2) && !x.sure.getD k false
theorem Xg {α:Type} {l:List α} {k:Nat} {x d:α} (h:l[k]?=some x):l.getD k d=x:=by rw [List.getD_eq_getElem?_getD,h]; rfl
def badK (p:Pa) (x:Pc):Nat->Nat->Bool
 | 0=>spoiltB p x
 | 1=>gougedB p x
 | _=>leftB p x
def anyK (p:Pa) (x:Pc) (i:Nat):Bool:=(List.range p.cells.length).any (badK p x i)
theorem anyK_t {p:Pa} {x:Pc} {i k:Nat} (hk:k<p.cells.length) (h:badK p x i k=true):anyK p x i=true:=List.any_eq_true.2 ⟨k,List.mem_range.2 hk,h⟩
theorem anyK_f {p:Pa} {x:Pc} {i:Nat} (h:∀ j,j<p.cells.length->badK p x i j=false):anyK p x i=false:=by
 rw [anyK,List.any_eq_false]
 intro k hk
 rw [h k (List.mem_range.1 hk)]; decide
def JN (p:Pa) (x:Pc):Int:=if Jv p x≠0 then Jv p x else if anyK p x 0=true then 35 else if anyK p x 1=true then 30 else if anyK p x 2=true then 34 else 0
theorem ckC_r:∀ (l pre:List (List Pl)),ckC pre l=0\/ckC pre l=13
 | [],_=>.inl rfl
 | c::l,pre=>by unfold ckC; split; exact ckC_r l _; exact .inr rfl
theorem ckP_r (p:Pa):ckP p=0\/ckP p=2\/ckP p=1\/ckP p=13:=by
 unfold ckP; split
 ·exact .inr (.inl rfl)
 ·split
  ·exact .inr (.inr (.inl rfl))
  ·rcases ckC_r p.cells [] with h | h
   ·exact .inl h
   ·exact .inr (.inr (.inr h))
theorem fitS_r (p:Pa) (x:Pc):Jv p x=0\/Jv p x=2\/Jv p x=1\/Jv p x=13\/Jv p x=4:=by
 unfold Jv; split
 ·have:=ckP_r p; omega
 ·split
  ·exact .inr (.inr (.inr (.inr rfl)))
  ·exact .inl rfl
theorem fit_len {p:Pa} {x:Pc} (h:Jv p x=0):p.want.length=p.cells.length/\x.sure.length=p.cells.length/\x.touched.length=p.cells.length/\1<=p.cells.length/\p.cells.length<=16:=by
 unfold Jv at h
 split at h
 ·rename_i h1; exact absurd h h1
 ·rename_i h1
  split at h
  ·cases h
  ·rename_i h2
   have h1:ckP p=0:=by omega
   unfold ckP at h1
   split at h1
   ·cases h1
   ·split at h1
    ·cases h1
    ·rename_i h3 h4
     exact ⟨by omega,by omega,by omega,by omega,by omega⟩
def fineB (e:Int):Bool:=decide (e=0)||decide (e=35)||decide (e=30)||decide (e=34)
theorem fine_fit {p:Pa} {x:Pc} (h:fineB (JN p x)=true):Jv p x=0:=by
 have:=fitS_r p x
 by_cases h0:Jv p x=0
 ·exact h0
 ·unfold JN at h
  rw [if_pos h0] at h
  simp only [fineB,Bool.or_eq_true,decide_eq_true_eq] at h
  omega
def Je (p:Pa) (x:Pc) (s:List Int) (k:Nat):Lf:=⟨k,p.want.getD k 0,x.sure.getD k false,x.touched.getD k false,Xn s (XK k)⟩
def Xh (p:Pa) (x:Pc) (s:List Int):List Lf:=if fineB (JN p x)=true/\s≠[] then (List.range p.want.length).map (Je p x s) else []
theorem leaf_snoc {p:Pa} {x:Pc} {s:List Int} {k:Nat} {w:Int} {a b:Bool} (hw:p.want[k]?=some w) (ha:x.sure[k]?=some a) (hb:x.touched[k]?=some b) :
  (List.range (k+1)).map (Je p x s)=(List.range k).map (Je p x s)++[⟨k,w,a,b,Xn s (XK k)⟩]:=by
 rw [List.range_succ,List.map_append]
 show _++[(⟨k,p.want.getD k 0,x.sure.getD k false,x.touched.getD k false,Xn s (XK k)⟩:Lf)]=_
 rw [Xg hw,Xg ha,Xg hb]
def mcv47:MC:=(.seq (.reg [oN 2 (.box 88 3 (.t 0)) [],oN 3 (.box 88 3 (.t 1)) [],oN 4 (.mv (.c .nils)) []] false) (.seq (.reg [oN 5 (.build [(.int .i64 0),(.int .i64 0),(.int .i64 0)] [(0,(1,(.c (.int .i64 1))))]) [],oA 6 0 3 [],oD 7 1 6 [1],oN 8 (.build [(.int .i64 0),(.int .i64 0),(.int .i64 0),(.int .i64 0)] [(0,(3,(.t 5))),(3,(1,(.t 7)))]) [0,2],oN 9 (.build [(.int .i64 0),(.int .i64 0),(.int .i64 0)] [(0,(1,(.c (.int .i64 (-1)))))]) [],oA 10 0 2 [],oD 11 1 10 [5],oN 12 (.un .neg (.t 11)) [6],oN 13 (.build [(.int .i64 0),(.int .i64 0),(.int .i64 0),(.int .i64 0)] [(0,(3,(.t 9))),(3,(1,(.t 12)))]) [4,7],oN 14 (.build [(.int .i64 0),(.int .i64 0),(.int .i64 0)] [(1,(1,(.c (.int .i64 1))))]) [],oA 15 1 3 [],oD 16 1 15 [10],oN 17 (.build [(.int .i64 0),(.int .i64 0),(.int .i64 0),(.int .i64 0)] [(0,(3,(.t 14))),(3,(1,(.t 16)))]) [9,11],oN 18 (.build [(.int .i64 0),(.int .i64 0),(.int .i64 0)] [(1,(1,(.c (.int .i64 (-1)))))]) [],oA 19 1 2 [],oD 20 1 19 [14],oN 21 (.un .neg (.t 20)) [15],oN 22 (.build [(.int .i64 0),(.int .i64 0),(.int .i64 0),(.int .i64 0)] [(0,(3,(.t 18))),(3,(1,(.t 21)))]) [13,16],oN 23 (.build [(.int .i64 0),(.int .i64 0),(.int .i64 0)] [(2,(1,(.c (.int .i64 1))))]) [],oA 24 2 3 [],oD 25 1 24 [19],oN 26 (.build [(.int .i64 0),(.int .i64 0),(.int .i64 0),(.int .i64 0)] [(0,(3,(.t 23))),(3,(1,(.t 25)))]) [18,20],oN 27 (.build [(.int .i64 0),(.int .i64 0),(.int .i64 0)] [(2,(1,(.c (.int .i64 (-1)))))]) [],oA 28 2 2 [],oD 29 1 28 [23],oN 30 (.un .neg (.t 29)) [24],oN 31 (.build [(.int .i64 0),(.int .i64 0),(.int .i64 0),(.int .i64 0)] [(0,(3,(.t 27))),(3,(1,(.t 30)))]) [22,25],oN 32 (.bslice 90 4 [(.int .i64 0),(.int .i64 0),(.int .i64 0),(.int .i64 0)] 6 [(0,(.t 8)),(1,(.t 13)),(2,(.t 17)),(3,(.t 22)),(4,(.t 26)),(5,(.t 31))]) [3,8,12,17,21,26],oM 4 32 [27,0,1,2,3,4,5,6,7,8,9,10,11,12,13,14,15,16,17,18,19,20,21,22,23,24,25,26,27]] false) .ret))
theorem mcOkv47:okM Tryz.prog Tryz.f47 33=some mcv47:=by kernel_rfl
theorem vc47 (lo hi:V3) (hl:(-1000000000<=lo.x/\lo.x<=1000000000)/\(-1000000000<=lo.y/\lo.y<=1000000000)/\(-1000000000<=lo.z/\lo.z<=1000000000)):FC Tryz.prog 47 [aV lo,aV hi] [] (.rs 4 ((JC lo hi).map cPl)) [] false:=by
 obtain ⟨hx,hy,hz⟩:=hl
 refine Qj (nt:=33) Tryz.func47 rfl rfl mcOkv47 (nL rfl) ?_
 delta mcv47
 refine gA 15 rfl (Jz rfl rfl (by omega) (gR 8 rfl (Jz rfl rfl (by omega) (gR 8 rfl (Jz rfl rfl (by omega) (gR 1 rfl (Qi (l:=(JC lo hi).flatMap cPl) (els:=(JC lo hi).map cPl) (fl:=true) rfl (by kernel_rfl) rfl rfl (by kernel_rfl) (by kernel_rfl) (gR 3 rfl ?_))))))))
 exact Qk <| Qs rfl (Xr (f:=cPl) (xs:=JC lo hi) rfl rfl rfl (fun _=>rfl)) .nil
def mcv153:MC:=(.seq (.reg [oN 2 (.mv (.c (.bool false))) []] false) (.seq (.reg [oM 3 0 [],oN 4 (.bin .lss (.t 3) (.c (.int .i64 1))) [0],oM 5 4 [1],pM 6 0 5 false [2],oG 7 (.bin .gtr (.t 6) (.c (.int .i64 3))) 5 false [3,2],oN 8 (.pick (.t 5) (.c (.bool true)) (.t 7)) [2,4],oM 2 8 [5,2,0,1,2,3,4,5]] false) .ret))
theorem mcOkv153:okM Tryz.prog Tryz.f153 9=some mcv153:=by kernel_rfl
theorem vc153 (x:Int):FC Tryz.prog 153 [iv x] [] (.bool (XH x)) [] false:=by
 refine Qj (nt:=9) Tryz.func153 rfl rfl mcOkv153 (nL rfl) ?_
 delta mcv153
 refine gA 7 rfl (Q9 rfl rfl rfl rfl (fun h4=>?_) (fun h4=>?_))
 ·skip
  refine gR 7 rfl ?_
  rw [show XH x=true from by unfold XH; rw [decide_eq_true h4]; rfl]
  exact Qk <| Qc rfl rfl rfl (.inr rfl)
 ·skip
  refine gR 2 rfl (Q9 rfl rfl rfl rfl (fun h7=>?_) (fun h7=>?_))
  ·skip
   refine gR 4 rfl ?_
   rw [show XH x=true from by unfold XH; rw [decide_eq_false h4,decide_eq_true h7]; rfl]
   exact Qk <| Qc rfl rfl rfl (.inr rfl)
  ·skip
   refine gR 4 rfl ?_
   rw [show XH x=false from by unfold XH; rw [decide_eq_false h4,decide_eq_false h7]; rfl]
   exact Qk <| Qc rfl rfl rfl (.inr rfl)
theorem vcI_strange (xs:List Int) (hxn:xs.length<=4611686018427387904):FC Tryz.prog 115 [.rs 1 (xs.map civ),(.fn (.func 153) [])] [] (.int .i64 (Xs XH xs 0)) [] false:=by
 refine Qj (nt:=19) Tryz.func115 rfl rfl mcOkv115 (nL rfl) ?_
 delta mcv115
 refine gA 8 rfl (Qh rfl rfl (gR 3 rfl ?_))
 refine Qr (α:=Nat) (fun k=>xs.length-k) (fun k=>[(0,.rs 1 (xs.map civ)),(1,(.fn (.func 153) [])),(6,.rs 1 (xs.map civ)),(7,iv (xs.length:Int)),(8,iv (((k):Nat):Int))]) (fun k=>[]) (fun k=>k<=xs.length/\Xs XH (xs.drop k) k=Xs XH xs 0) 0 (⟨by omega,rfl⟩)
  (Qa (Qb rfl rfl) (.nil) (fun i h=>by cases h)) ?_
 rintro k ⟨hk,hinv⟩
 refine gT 5 rfl (Qe rfl (fun h9=>?_) (fun h9=>?_))
 ·replace h9:=of_decide_eq_true h9
  refine gK 13 rfl ?_
  obtain ⟨x,hxk,hxm⟩:=Qo (L:=xs) (k:=k) (by omega)
  rw [JK hxk] at hinv
  refine Qp (f:=civ) (y:=x) rfl rfl rfl (by omega) hxk (gR 1 rfl (Xb [] rfl rfl (by kernel_rfl) rfl (JI (vc153 x)) (.cons (Qd rfl) (.nil)) .nil rfl rfl rfl ?_))
  cases h16:XH x
  ·skip
   refine gR 4 rfl (Qg rfl rfl rfl (by omega) (gR 2 rfl ?_))
   rw [h16] at hinv
   exact Q8 <| ⟨k+1,⟨by omega,hinv⟩,by omega,Qa (Qb rfl rfl) (.nil) (fun i h=>by cases h)⟩
  ·skip
   refine gR 8 rfl ?_
   rw [h16] at hinv
   rw [← hinv]
   exact Qk <| Qc rfl rfl rfl (.inr rfl)
 ·replace h9:=of_decide_eq_false h9
  refine gK 6 rfl ?_
  rw [Ju (by omega)] at hinv
  rw [← hinv]
  exact Qk <| Qc rfl rfl rfl (.inr rfl)
theorem vcC_strange (xs:List Int) (hxn:xs.length<=4611686018427387904):FC Tryz.prog 65 [.rs 1 (xs.map civ),(.fn (.func 153) [])] [] (.bool (xs.any XH)) [] false:=by
 refine Qj (nt:=9) Tryz.func65 rfl rfl mcOkv65 (nL rfl) ?_
 delta mcv65
 refine gA 8 rfl (cN rfl rfl (vcI_strange xs hxn) (gR 0 rfl (Jk rfl rfl rfl (gR 3 rfl ?_))))
 rw [← Jy]
 exact Qk <| Qc rfl rfl rfl (.inr rfl)
def mcv127:MC:=(.seq (.reg [oN 1 (.box 31 3 (.t 0)) [],oN 2 (.mv (.c (.int .i64 0))) []] false) (.seq (.reg [oA 7 1 1 [],oD 8 1 7 [0],oN 9 (.len (.t 8)) [1],oM 3 9 [2,0,1,2]] false) (.seq (.reg [oN 4 (.mv (.c (.fn (.func 153) []))) []] false) (.seq (.block 0 (.seq (.reg [oM 11 3 [],oN 12 (.bin .eql (.t 11) (.c (.int .i64 0))) [0],oM 13 12 [1],pM 14 3 13 false [2],oG 15 (.bin .gtr (.t 14) (.c (.int .i64 16))) 13 false [3,2],oN 16 (.pick (.t 13) (.c (.bool true)) (.t 15)) [2,4],oM 10 16 [5,2]] false) (.cond (.t 10) (.seq (.reg [oN 2 (.mv (.c (.int .i64 2))) []] false) .ret) (.seq (.reg [oA 18 2 1 [],oD 19 1 18 [0],oN 20 (.len (.t 19)) [1],oM 21 3 [],oN 22 (.bin .neq (.t 20) (.t 21)) [2,3],oM 23 22 [4],pA 24 2 1 23 false [5],pD 25 1 24 23 false [6,5],pM 26 4 23 false [5],oG 27 (.call 65 [(.t 25),(.t 26)]) 23 false [7,8,5,5],oN 28 (.pick (.t 23) (.c (.bool true)) (.t 27)) [5,9],oM 17 28 [10,9]] false) (.cond (.t 17) (.seq (.reg [oN 2 (.mv (.c (.int .i64 1))) []] false) .ret) .skip))))) (.seq (.seq (.reg [oA 29 1 1 [],oD 30 1 29 [0],oN 31 (.len (.t 30)) [1],oN 32 (.mv (.c (.int .i64 0))) []] false) (.block 1 (.loop (.seq (.reg [oN 33 (.bin .lss (.t 32) (.t 31)) []] false) (.seq (.cond (.t 33) .skip (.exit 1)) (.seq (.block 2 (.seq (.reg [oM 34 32 [],oN 35 (.ixsl 1 (.t 30) (.t 32)) [],oD 36 1 35 [1],oM 5 34 [0,0,1,2],oM 6 36 [2,3,0,1,2,3]] false) (.seq (.reg [oM 37 6 [],oN 38 (.call 154 [(.t 37)]) [0],oN 39 (.un .not (.t 38)) [1],oM 40 39 [2,1],pM 41 6 40 false [3],pA 42 1 1 40 false [3],pD 43 1 42 40 false [5,3],pM 44 5 40 false [3],oG 45 (.slc 1 (.t 43) none (some (.t 44))) 40 false [6,7,3],oG 46 (.call 86 [(.t 41),(.t 45)]) 40 false [4,8,3,3],oG 47 (.un .not (.t 46)) 40 false [9,3],oN 48 (.pick (.t 40) (.c (.bool true)) (.t 47)) [3,10]] false) (.cond (.t 48) (.seq (.reg [oN 2 (.mv (.c (.int .i64 13))) []] false) .ret) .skip)))) (.reg [oN 49 (.bin .add (.t 32) (.c (.int .i64 1))) [],oM 32 49 [0]] false))))))) (.seq (.reg [oN 2 (.mv (.c (.int .i64 0))) []] false) .ret))))))
theorem mcOkv127:okM Tryz.prog Tryz.f127 50=some mcv127:=by kernel_rfl
set_option maxHeartbeats 1000000 in
theorem vc127 (p:Pa) (hp:PaOK p):FC Tryz.prog 127 [.agg (cPa p)] [] (iv (ckP p)) [] false:=by
 have hpn:=hp.n
 have hpw:=hp.w
 refine Qj (nt:=50) Tryz.func127 rfl rfl mcOkv127 (nL rfl) ?_
 delta mcv127
 refine gA 9 rfl (Qh rfl rfl (gR 11 rfl (Q9 rfl rfl rfl rfl (fun h12=>?_) (fun h12=>?_))))
 ·skip
  refine gR 12 rfl ?_
  rw [show ckP p=2 from if_pos (by omega)]
  exact Qk <| Qc rfl rfl rfl (.inr rfl)
 ·skip
  refine gR 2 rfl (Q9 rfl rfl rfl rfl (fun h15=>?_) (fun h15=>?_))
  ·skip
   refine gR 9 rfl ?_
   rw [show ckP p=2 from if_pos (by omega)]
   exact Qk <| Qc rfl rfl rfl (.inr rfl)
  ·skip
   refine gR 8 rfl (Qh rfl rfl (gR 1 rfl (Q9 rfl rfl rfl rfl (fun h22=>?_) (fun h22=>?_))))
   ·skip
    refine gR 14 rfl ?_
    rw [show ckP p=1 from by unfold ckP; rw [if_neg (by omega),if_pos (.inl (by omega))]]
    exact Qk <| Qc rfl rfl rfl (.inr rfl)
   ·skip
    refine gR 4 rfl (cN rfl rfl (vcC_strange p.want (by omega)) ?_)
    cases h27:p.want.any XH
    ·skip
     refine gR 7 rfl ?_
     have hP:=ckP_3 h12 h15 h22 h27
     refine gI 3 rfl (Qh rfl rfl (gR 3 rfl ?_))
     refine Qr (α:=Nat) (fun k=>p.cells.length-k) (fun k=>[(1,.ptr 1 0 0),(30,.rs 1 (p.cells.map cR)),(31,iv (p.cells.length:Int)),(32,iv (((k):Nat):Int))]) (fun k=>[(1,.cells 31 3 [cPa p] true)]) (fun k=>k<=p.cells.length/\ckC (p.cells.take k) (p.cells.drop k)=ckC [] p.cells) 0 (⟨by omega,rfl⟩)
      (Qa (Qb rfl rfl) (.keep rfl rfl .nil) nz) ?_
     rintro k ⟨hk,hinv⟩
     refine gT 5 rfl (Qe rfl (fun h33=>?_) (fun h33=>?_))
     ·replace h33:=of_decide_eq_true h33
      refine gK 6 rfl ?_
      obtain ⟨c,hck,hcm⟩:=Qo (L:=p.cells) (k:=k) (by omega)
      rw [ckC_at hck] at hinv
      refine Qp (f:=cR) (y:=c) rfl rfl rfl (by omega) hck (gR 7 rfl (cN rfl rfl (vc154 c ⟨hp.c c hcm⟩) ?_))
      cases h38:QX c
      ·skip
       refine gR 17 rfl ?_
       rw [h38] at hinv
       rw [hP,← hinv]
       exact Qk <| Qc rfl rfl rfl (.inr rfl)
      ·skip
       refine gR 6 rfl (rs_slc_r (l:=0) (q:=(k:Int)) (els':=(p.cells.take k).map cR) rfl rfl rfl rfl rfl (by decide) (by omega) (by simp; omega) (by simp [List.map_take]) (gR 0 rfl (cN rfl rfl (vc86 c (p.cells.take k) (fun q hq=>⟨hp.c c hcm,(hp.c q (List.mem_of_mem_take hq)).2⟩) (by simp; omega)) ?_)))
       cases h46:sapartS c (p.cells.take k)
       ·skip
        refine gR 9 rfl ?_
        rw [h38,h46] at hinv
        rw [hP,← hinv]
        exact Qk <| Qc rfl rfl rfl (.inr rfl)
       ·skip
        refine gR 6 rfl (Qg rfl rfl rfl (by omega) (gR 2 rfl ?_))
        rw [h38,h46] at hinv
        exact Q8 <| ⟨k+1,⟨by omega,hinv⟩,by omega,Qa (Qb rfl rfl) (.keep rfl rfl .nil) nz⟩
     ·replace h33:=of_decide_eq_false h33
      refine gK 6 rfl ?_
      rw [hP,← hinv,ckC_end (by omega)]
      exact Qk <| Qc rfl rfl rfl (.inr rfl)
    ·skip
     refine gR 9 rfl ?_
     rw [show ckP p=1 from by unfold ckP; rw [if_neg (by omega),if_pos (.inr h27)]]
     exact Qk <| Qc rfl rfl rfl (.inr rfl)
def mcv82:MC:=(.seq (.reg [oN 2 (.mv (.c (.int .i64 0))) []] false) (.seq (.seq (.reg [oM 6 0 [],oN 7 (.len (.t 6)) [0],oN 8 (.mv (.c (.int .i64 0))) []] false) (.block 0 (.loop (.seq (.reg [oN 9 (.bin .lss (.t 8) (.t 7)) []] false) (.seq (.cond (.t 9) .skip (.exit 0)) (.seq (.block 1 (.seq (.reg [oN 10 (.ixsl 1 (.t 6) (.t 8)) [],oD 11 1 10 [0],oM 4 11 [1,0,1]] false) (.seq (.reg [oM 12 4 [],oN 13 (.call 128 [(.t 12)]) [0],oM 5 13 [1,1,0,1]] false) (.seq (.reg [oM 14 5 [],oN 15 (.bin .neq (.t 14) (.c (.int .i64 0))) [0]] false) (.cond (.t 15) (.seq (.reg [oM 16 5 [],oM 2 16 [0,0]] false) .ret) .skip))))) (.reg [oN 17 (.bin .add (.t 8) (.c (.int .i64 1))) [],oM 8 17 [0]] false))))))) (.seq (.reg [oN 2 (.mv (.c (.int .i64 0))) []] false) .ret)))
theorem mcOkv82:okM Tryz.prog Tryz.f82 18=some mcv82:=by kernel_rfl
theorem vc82 (l:List (List Pl)) (hl:l.length<=1000000) (hc:∀ c∈l,c.length<=1000):FC Tryz.prog 82 [.rs 1 (l.map cR)] [] (iv (ckAll l)) [] false:=by
 refine Qj (nt:=18) Tryz.func82 rfl rfl mcOkv82 (nL rfl) ?_
 delta mcv82
 refine gA 8 rfl (Qh rfl rfl (gR 3 rfl ?_))
 refine Qr (α:=Nat) (fun k=>l.length-k) (fun k=>[(6,.rs 1 (l.map cR)),(7,iv (l.length:Int)),(8,iv (((k):Nat):Int))]) (fun k=>[]) (fun k=>k<=l.length/\ckAll (l.drop k)=ckAll l) 0 (⟨by omega,rfl⟩)
  (Qa (Qb rfl rfl) (.nil) (fun i h=>by cases h)) ?_
 rintro k ⟨hk,hinv⟩
 refine gT 5 rfl (Qe rfl (fun h9=>?_) (fun h9=>?_))
 ·replace h9:=of_decide_eq_true h9
  refine gK 5 rfl ?_
  obtain ⟨c,hck,hcm⟩:=Qo (L:=l) (k:=k) (by omega)
  rw [ckAll_at hck] at hinv
  refine Qp (f:=cR) (y:=c) rfl rfl rfl (by omega) hck (gR 6 rfl (cN rfl rfl (vc128 c (hc c hcm)) (gR 5 rfl (Ja rfl rfl rfl (gR 1 rfl (Qe rfl (fun h15=>?_) (fun h15=>?_)))))))
  ·replace h15:=of_decide_eq_true h15
   refine gK 6 rfl ?_
   rw [if_pos h15] at hinv
   rw [← hinv]
   exact Qk <| Qc rfl rfl rfl (.inr rfl)
  ·replace h15:=of_decide_eq_false h15
   refine gK 2 rfl (Qg rfl rfl rfl (by omega) (gR 2 rfl ?_))
   rw [if_neg h15] at hinv
   exact Q8 <| ⟨k+1,⟨by omega,hinv⟩,by omega,Qa (Qb rfl rfl) (.nil) (fun i h=>by cases h)⟩
 ·replace h9:=of_decide_eq_false h9
  refine gK 6 rfl ?_
  rw [← hinv,List.drop_eq_nil_of_le (by omega)]
  exact Qk <| Qc rfl rfl rfl (.inr rfl)
def mcv81:MC:=(.seq (.reg [oN 2 (.box 31 3 (.t 0)) [],oN 3 (.box 35 3 (.t 1)) [],oN 4 (.mv (.c (.int .i64 0))) []] false) (.seq (.seq (.reg [oN 7 (.ld true 3 (.t 2)) [],oN 8 (.call 127 [(.t 7)]) [0],oM 5 8 [1,1,0,1]] false) (.seq (.reg [oM 9 5 [],oN 10 (.bin .neq (.t 9) (.c (.int .i64 0))) [0]] false) (.cond (.t 10) (.seq (.reg [oM 11 5 [],oM 4 11 [0,0]] false) .ret) .skip))) (.seq (.seq (.reg [oA 12 1 2 [],oD 13 1 12 [0],oN 14 (.len (.t 13)) [1],oM 6 14 [2,0,1,2]] false) (.seq (.reg [oA 15 0 3 [],oD 16 1 15 [0],oN 17 (.len (.t 16)) [1],oM 18 6 [],oN 19 (.bin .neq (.t 17) (.t 18)) [2,3],oM 20 19 [4],pA 21 1 3 20 false [5],pD 22 1 21 20 false [6,5],oG 23 (.len (.t 22)) 20 false [7,5],pM 24 6 20 false [5],oG 25 (.bin .neq (.t 23) (.t 24)) 20 false [8,9,5],oN 26 (.pick (.t 20) (.c (.bool true)) (.t 25)) [5,10],oM 27 26 [11,5],pA 28 2 3 27 false [12],pD 29 1 28 27 false [13,12],oG 30 (.len (.t 29)) 27 false [14,12],oG 31 (.bin .gtr (.t 30) (.c (.int .i64 24))) 27 false [15,12],oN 32 (.pick (.t 27) (.c (.bool true)) (.t 31)) [12,16],oM 33 32 [17,12],pA 34 2 3 33 false [18],pD 35 1 34 33 false [19,18],oG 36 (.call 82 [(.t 35)]) 33 false [20,18,18],oG 37 (.bin .neq (.t 36) (.c (.int .i64 0))) 33 false [21,18],oN 38 (.pick (.t 33) (.c (.bool true)) (.t 37)) [18,22]] false) (.cond (.t 38) (.seq (.reg [oN 4 (.mv (.c (.int .i64 4))) []] false) .ret) .skip))) (.seq (.reg [oN 4 (.mv (.c (.int .i64 0))) []] false) .ret))))
theorem mcOkv81:okM Tryz.prog Tryz.f81 39=some mcv81:=by kernel_rfl
theorem vc81 (p:Pa) (hp:PaOK p) (x:Pc) (hx:PcOK x):FC Tryz.prog 81 [.agg (cPa p),.agg (cPc x)] [] (iv (Jv p x)) [] false:=by
 have hpn:=hp.n
 have hxn:=hx.n
 refine Qj (nt:=39) Tryz.func81 rfl rfl mcOkv81 (nL rfl) ?_
 delta mcv81
 refine gA 10 rfl (cN rfl rfl (vc127 p hp) (gR 5 rfl (Ja rfl rfl rfl (gR 1 rfl (Qe rfl (fun h10=>?_) (fun h10=>?_))))))
 ·replace h10:=of_decide_eq_true h10
  refine gK 6 rfl ?_
  rw [show Jv p x=ckP p from if_pos h10]
  exact Qk <| Qc rfl rfl rfl (.inr rfl)
 ·replace h10:=of_decide_eq_false h10
  refine gK 6 rfl (Qh rfl rfl (gR 6 rfl (Qh rfl rfl (gR 1 rfl (Q9 rfl rfl rfl rfl (fun h19=>?_) (fun h19=>?_))))))
  ·skip
   refine gR 26 rfl ?_
   rw [show Jv p x=4 from by unfold Jv; rw [if_neg h10,if_pos (by omega)]]
   exact Qk <| Qc rfl rfl rfl (.inr rfl)
  ·skip
   refine gR 3 rfl (Qh rfl rfl (gR 1 rfl (Q9 rfl rfl rfl rfl (fun h25=>?_) (fun h25=>?_))))
   ·skip
    refine gR 20 rfl ?_
    rw [show Jv p x=4 from by unfold Jv; rw [if_neg h10,if_pos (by omega)]]
    exact Qk <| Qc rfl rfl rfl (.inr rfl)
   ·skip
    refine gR 4 rfl (Qh rfl rfl (gR 0 rfl (Q9 rfl rfl rfl rfl (fun h31=>?_) (fun h31=>?_))))
    ·skip
     refine gR 14 rfl ?_
     rw [show Jv p x=4 from by unfold Jv; rw [if_neg h10,if_pos (by omega)]]
     exact Qk <| Qc rfl rfl rfl (.inr rfl)
    ·skip
     refine gR 4 rfl (cN rfl rfl (vc82 x.cuts (by omega) (fun c hc=>Nat.le_trans (hx.c c hc) (by decide))) (gR 0 rfl (Q9 rfl rfl rfl rfl (fun h37=>?_) (fun h37=>?_))))
     ·skip
      refine gR 8 rfl ?_
      rw [show Jv p x=4 from by unfold Jv; rw [if_neg h10,if_pos (by omega)]]
      exact Qk <| Qc rfl rfl rfl (.inr rfl)
     ·skip
      refine gR 9 rfl ?_
      rw [show Jv p x=0 from by unfold Jv; rw [if_neg h10,if_neg (by omega)]]
      exact Qk <| Qc rfl rfl rfl (.inr rfl)
def mcv107:MC:=(.seq (.reg [oN 2 (.box 144 6 (.t 0)) [],oN 4 (.mv (.c (.bool false))) []] false) (.seq (.reg [oA 5 0 2 [],oA 6 2 5 [0],oD 7 1 6 [1],oM 8 1 [],oN 9 (.ixsl 1 (.t 7) (.t 8)) [2,3],oD 10 1 9 [4],oN 11 (.bin .eql (.t 10) (.c (.int .i64 1))) [5],oM 12 11 [6],pA 13 0 2 12 true [7],pA 14 1 13 12 true [8,7],pD 15 1 14 12 true [9,7],pM 16 1 12 true [7],oG 17 (.ixsl 1 (.t 15) (.t 16)) 12 true [10,11,7],pD 18 1 17 12 true [12,7],pA 19 3 2 12 true [7],pA 20 2 19 12 true [14,7],pD 21 1 20 12 true [15,7],oG 22 (.call 86 [(.t 18),(.t 21)]) 12 true [13,16,7,7],oG 23 (.un .not (.t 22)) 12 true [17,7],oN 24 (.pick (.t 12) (.t 23) (.c (.bool false))) [7,18],oM 4 24 [19,17,0,1,2,3,4,5,6,7,8,9,10,11,12,13,14,15,16,17,18,19]] true) .ret))
theorem mcOkv107:okM Tryz.prog Tryz.f107 25=some mcv107:=by kernel_rfl
theorem vc107 (p:Pa) (x:Pc) (k:Nat) (w:Int) (c:List Pl) (hw:p.want[k]?=some w) (hc:p.cells[k]?=some c) (hx:∀ q∈x.cuts,OkA c q) (hn:x.cuts.length<=1000):FC Tryz.prog 107 [.agg (cJ p x),iv (k:Int)] [] (.bool (spoiltB p x k)) [] false:=by
 refine Qj (nt:=25) Tryz.func107 rfl rfl mcOkv107 (nL rfl) ?_
 delta mcv107
 refine gA 11 rfl (Qp (f:=civ) (y:=w) rfl rfl rfl (by omega) hw (gR 1 rfl (Q9 rfl rfl rfl rfl (fun h11=>?_) (fun h11=>?_))))
 ·skip
  refine gR 5 rfl (Qp (f:=cR) (y:=c) rfl rfl rfl (by omega) hc (gR 4 rfl (cN rfl rfl (vc86 c x.cuts hx hn) (gR 3 rfl (QJ (by kernel_rfl) (gP 1 rfl ?_))))))
  rw [show spoiltB p x k=(!sapartS c x.cuts) from by unfold spoiltB; rw [Xg hw,decide_eq_true h11,Xg hc]; rfl]
  exact Qk <| Qc rfl rfl rfl (.inr rfl)
 ·skip
  refine gR 14 rfl (QJ (by kernel_rfl) (gP 1 rfl ?_))
  rw [show spoiltB p x k=false from by unfold spoiltB; rw [Xg hw,decide_eq_false h11,Xg hc]; rfl]
  exact Qk <| Qc rfl rfl rfl (.inr rfl)
def mcv108:MC:=(.seq (.reg [oN 2 (.box 144 6 (.t 0)) [],oN 4 (.mv (.c (.bool false))) []] false) (.seq (.reg [oA 5 0 2 [],oA 6 2 5 [0],oD 7 1 6 [1],oM 8 1 [],oN 9 (.ixsl 1 (.t 7) (.t 8)) [2,3],oD 10 1 9 [4],oN 11 (.bin .eql (.t 10) (.c (.int .i64 1))) [5],oM 12 11 [6],pA 13 3 2 12 true [7],pA 14 1 13 12 true [8,7],pD 15 1 14 12 true [9,7],pM 16 1 12 true [7],oG 17 (.ixsl 1 (.t 15) (.t 16)) 12 true [10,11,7],pD 18 1 17 12 true [12,7],oN 19 (.pick (.t 12) (.t 18) (.c (.bool false))) [7,13],oM 4 19 [14,7,0,1,2,3,4,5,6,7,8,9,10,11,12,13,14]] false) .ret))
theorem mcOkv108:okM Tryz.prog Tryz.f108 20=some mcv108:=by kernel_rfl
theorem vc108 (p:Pa) (x:Pc) (k:Nat) (w:Int) (b:Bool) (hw:p.want[k]?=some w) (ht:x.touched[k]?=some b):FC Tryz.prog 108 [.agg (cJ p x),iv (k:Int)] [] (.bool (gougedB p x k)) [] false:=by
 refine Qj (nt:=20) Tryz.func108 rfl rfl mcOkv108 (nL rfl) ?_
 delta mcv108
 refine gA 11 rfl (Qp (f:=civ) (y:=w) rfl rfl rfl (by omega) hw (gR 1 rfl (Q9 rfl rfl rfl rfl (fun h11=>?_) (fun h11=>?_))))
 ·skip
  refine gR 5 rfl (Qp (f:=cB) (y:=b) rfl rfl rfl (by omega) ht (gR 5 rfl ?_))
  rw [show gougedB p x k=b from by unfold gougedB; rw [Xg hw,decide_eq_true h11,Xg ht]; rfl]
  exact Qk <| Qc rfl rfl rfl (.inr rfl)
 ·skip
  refine gR 11 rfl ?_
  rw [show gougedB p x k=false from by unfold gougedB; rw [Xg hw,decide_eq_false h11,Xg ht]; rfl]
  exact Qk <| Qc rfl rfl rfl (.inr rfl)
def mcv109:MC:=(.seq (.reg [oN 2 (.box 144 6 (.t 0)) [],oN 4 (.mv (.c (.bool false))) []] false) (.seq (.reg [oA 5 0 2 [],oA 6 2 5 [0],oD 7 1 6 [1],oM 8 1 [],oN 9 (.ixsl 1 (.t 7) (.t 8)) [2,3],oD 10 1 9 [4],oN 11 (.bin .eql (.t 10) (.c (.int .i64 2))) [5],oM 12 11 [6],pA 13 3 2 12 true [7],pA 14 0 13 12 true [8,7],pD 15 1 14 12 true [9,7],pM 16 1 12 true [7],oG 17 (.ixsl 1 (.t 15) (.t 16)) 12 true [10,11,7],pD 18 1 17 12 true [12,7],oG 19 (.un .not (.t 18)) 12 true [13,7],oN 20 (.pick (.t 12) (.t 19) (.c (.bool false))) [7,14],oM 4 20 [15,7,0,1,2,3,4,5,6,7,8,9,10,11,12,13,14,15]] false) .ret))
theorem mcOkv109:okM Tryz.prog Tryz.f109 21=some mcv109:=by kernel_rfl
theorem vc109 (p:Pa) (x:Pc) (k:Nat) (w:Int) (b:Bool) (hw:p.want[k]?=some w) (hs:x.sure[k]?=some b):FC Tryz.prog 109 [.agg (cJ p x),iv (k:Int)] [] (.bool (leftB p x k)) [] false:=by
 refine Qj (nt:=21) Tryz.func109 rfl rfl mcOkv109 (nL rfl) ?_
 delta mcv109
 refine gA 11 rfl (Qp (f:=civ) (y:=w) rfl rfl rfl (by omega) hw (gR 1 rfl (Q9 rfl rfl rfl rfl (fun h11=>?_) (fun h11=>?_))))
 ·skip
  refine gR 5 rfl (Qp (f:=cB) (y:=b) rfl rfl rfl (by omega) hs (gR 6 rfl ?_))
  rw [show leftB p x k=(!b) from by unfold leftB; rw [Xg hw,decide_eq_true h11,Xg hs]; rfl]
  exact Qk <| Qc rfl rfl rfl (.inr rfl)
 ·skip
  refine gR 12 rfl ?_
  rw [show leftB p x k=false from by unfold leftB; rw [Xg hw,decide_eq_false h11,Xg hs]; rfl]
  exact Qk <| Qc rfl rfl rfl (.inr rfl)
end Go.Proofs.YthfhaoogcpfboaaGreat
namespace Go.Proofs.YthfhaoogcpfboaaGreat
open Go.RowKit
set_option maxRecDepth 100000
set_option linter.unusedVariables false
theorem acc_sub {r:List Pl} {l:List Pt} {p q s:Pl} {x:Pt} (h:x∈l):x∈Jg r l p q s:=by
 unfold Jg
 split
 ·exact h
 ·split
  ·exact h
  ·split
   ·exact List.mem_append.2 (.inl h)
   ·exact h
theorem inn_sub {r:List Pl} {p q:Pl} {x:Pt}:∀ {t:List Pl} {l:List Pt},x∈l->x∈innS r p q l t
 | [],l,h=>h
 | s::t,l,h=>inn_sub (t:=t) (acc_sub h)
theorem mid_sub {r:List Pl} {p:Pl} {x:Pt}:∀ {t:List Pl} {l:List Pt},x∈l->x∈midS r p l t
 | [],l,h=>h
 | s::t,l,h=>mid_sub (t:=t) (inn_sub h)
theorem top_sub {r:List Pl} {x:Pt}:∀ {t:List Pl} {l:List Pt},x∈l->x∈topS r l t
 | [],l,h=>h
 | s::t,l,h=>top_sub (t:=t) (mid_sub h)
theorem ptK_inj {x y:Pt} (h:ptK x=ptK y):x=y:=by
 cases x; cases y; simp [ptK] at h; simp [h]
theorem acc_has {r:List Pl} {l:List Pt} {p q s:Pl} (h0:wd3 p q s≠0) (hw:XX r (mtP p q s)=true):mtP p q s∈Jg r l p q s:=by
 unfold Jg
 rw [if_neg h0]
 split
 ·rename_i h
  obtain ⟨y,hy,he⟩:=List.mem_map.1 h
  rw [ptK_inj he.symm]; exact hy
 ·first
  | exact List.mem_append.2 (.inr (List.mem_singleton.2 rfl))
  | (rw [if_pos hw]; exact List.mem_append.2 (.inr (List.mem_singleton.2 rfl)))
theorem inn_has {r:List Pl} {p q s:Pl} (h0:wd3 p q s≠0) (hw:XX r (mtP p q s)=true):∀ {t:List Pl} {l:List Pt},s∈t->mtP p q s∈innS r p q l t
 | [],l,h=>absurd h (by simp)
 | a::t,l,h=>by
  rcases List.mem_cons.1 h with rfl | h
  ·exact inn_sub (t:=t) (acc_has h0 hw)
  ·exact inn_has h0 hw (t:=t) h
theorem mid_has {r:List Pl} {p q s:Pl} (h0:wd3 p q s≠0) (hw:XX r (mtP p q s)=true):∀ {t:List Pl} {l:List Pt},[q,s].Sublist t->mtP p q s∈midS r p l t
 | [],l,h=>by cases h
 | a::t,l,h=>by
  cases h with
  | cons _ h=>exact mid_has h0 hw (t:=t) h
  | cons_cons _ h=>exact mid_sub (t:=t) (inn_has h0 hw (h.subset (List.mem_singleton.2 rfl)))
theorem top_has {r:List Pl} {p q s:Pl} (h0:wd3 p q s≠0) (hw:XX r (mtP p q s)=true):∀ {t:List Pl} {l:List Pt},[p,q,s].Sublist t->mtP p q s∈topS r l t
 | [],l,h=>by cases h
 | a::t,l,h=>by
  cases h with
  | cons _ h=>exact top_has h0 hw (t:=t) h
  | cons_cons _ h=>exact top_sub (t:=t) (mid_has h0 hw h)
theorem acc_P {r:List Pl} {Q:Pt->Prop} {l:List Pt} {p q s:Pl} (hl:∀ x∈l,Q x) (h:wd3 p q s≠0->XX r (mtP p q s)=true->Q (mtP p q s)):∀ x∈Jg r l p q s,Q x:=by
 unfold Jg
 split
 ·exact hl
 ·rename_i h0
  split
  ·exact hl
  ·split
   ·rename_i h1
    intro x hx
    rcases List.mem_append.1 hx with hx | hx
    ·exact hl x hx
    ·rw [List.mem_singleton.1 hx]; exact h h0 h1
   ·exact hl
theorem inn_P {r:List Pl} {Q:Pt->Prop} {p q:Pl}:∀ {t:List Pl} {l:List Pt},(∀ x∈l,Q x)->(∀ s∈t,wd3 p q s≠0->XX r (mtP p q s)=true->Q (mtP p q s))->∀ x∈innS r p q l t,Q x
 | [],l,hl,h=>hl
 | s::t,l,hl,h=>inn_P (t:=t) (acc_P hl (h s (List.mem_cons_self ..))) (fun a ha=>h a (List.mem_cons_of_mem _ ha))
theorem mid_P {r:List Pl} {Q:Pt->Prop} {p:Pl}:∀ {t:List Pl} {l:List Pt},(∀ x∈l,Q x)->(∀ q∈t,∀ s∈t,wd3 p q s≠0->XX r (mtP p q s)=true->Q (mtP p q s))->∀ x∈midS r p l t,Q x
 | [],l,hl,h=>hl
 | q::t,l,hl,h=>mid_P (t:=t) (inn_P hl (fun s hs=>h q (List.mem_cons_self ..) s (List.mem_cons_of_mem _ hs))) (fun a ha b hb=>h a (List.mem_cons_of_mem _ ha) b (List.mem_cons_of_mem _ hb))
theorem top_P {r:List Pl} {Q:Pt->Prop}:∀ {t:List Pl} {l:List Pt},(∀ x∈l,Q x)->(∀ p∈t,∀ q∈t,∀ s∈t,wd3 p q s≠0->XX r (mtP p q s)=true->Q (mtP p q s))->∀ x∈topS r l t,Q x
 | [],l,hl,h=>hl
 | p::t,l,hl,h=>top_P (t:=t) (mid_P hl (fun q hq s hs=>h p (List.mem_cons_self ..) q (List.mem_cons_of_mem _ hq) s (List.mem_cons_of_mem _ hs))) (fun a ha b hb c hc=>h a (List.mem_cons_of_mem _ ha) b (List.mem_cons_of_mem _ hb) c (List.mem_cons_of_mem _ hc))
structure PtB (v:Pt):Prop where
 x : -267181325549568<=v.x/\v.x<=267181325549568
 y : -267181325549568<=v.y/\v.y<=267181325549568
 z : -267181325549568<=v.z/\v.z<=267181325549568
 w:0<=v.w/\v.w<=1000000000000
theorem tdivB {a g B:Int} (h : -B<=a/\a<=B) : -B<=a.tdiv g/\a.tdiv g<=B:=by
 have h1:=Int.natAbs_tdiv a g
 have h2:(a.tdiv g).natAbs<=a.natAbs:=by rw [h1]; exact Nat.div_le_self _ _
 omega
theorem mtP_b {p q s:Pl} (hp:Q5 p=true) (hq:Q5 q=true) (hs:Q5 s=true):PtB (mtP p q s):=by
 obtain ⟨⟨hx,hy,hz⟩,hw⟩:=sum3_b hp hq hs
 have ax:=tdivB (g:=g3 p q s) hx
 have ay:=tdivB (g:=g3 p q s) hy
 have az:=tdivB (g:=g3 p q s) hz
 have aw:=tdivB (g:=g3 p q s) hw
 have nn:0<=(wd3 p q s).tdiv (g3 p q s):=by
  unfold g3
  split
  ·rename_i h
   have:=Int.tdiv_nonneg (a := -wd3 p q s) (b:=(gL [(Xw p q s).x,(Xw p q s).y,(Xw p q s).z,wd3 p q s]:Int)) (by omega) (by omega)
   rw [Int.neg_tdiv,← Int.tdiv_neg] at this
   exact this
  ·exact Int.tdiv_nonneg (by omega) (by omega)
 refine ⟨?_,?_,?_,?_⟩ <;> (unfold mtP; dsimp only; rw [Xk (by omega)]; omega)
theorem dotE {n v:V3} (hn:VB 4608 n) (hv:VB 267181325549568 v):dotW n v=n.x*v.x+n.y*v.y+n.z*v.z:=by
 obtain ⟨n1,n2,n3⟩:=hn
 obtain ⟨v1,v2,v3⟩:=hv
 have b1:=Jt n1 v1
 have b2:=Jt n2 v2
 have b3:=Jt n3 v3
 unfold dotW
 rw [Xk (n:=n.x*v.x) (by omega),Xk (n:=n.y*v.y) (by omega),Xk (n:=n.z*v.z) (by omega),Xk (n:=n.x*v.x+n.y*v.y) (by omega),Xk (by omega)]
theorem room_eq {p:Pl} {x:Pt} (hp:Q5 p=true) (hx:PtB x):JO p x=p.b*x.w-(p.n.x*x.x+p.n.y*x.y+p.n.z*x.z):=by
 obtain ⟨hn,hb⟩:=valid_b hp
 have e:=dotE (v:=⟨x.x,x.y,x.z⟩) hn ⟨hx.x,hx.y,hx.z⟩
 have b0:=Jt hb (B:=1000000000000) (b:=x.w) ⟨by have:=hx.w; omega,hx.w.2⟩
 have b1:=Jt hn.1 hx.x
 have b2:=Jt hn.2.1 hx.y
 have b3:=Jt hn.2.2 hx.z
 unfold JO
 dsimp only at e
 rw [e,Xk (n:=p.b*x.w) (by omega),Xk (by omega)]
theorem corn_b {r:List Pl} (hv:∀ p∈r,Q5 p=true):∀ x∈Xo r,PtB x/\XX r x=true :=
 top_P (Q:=fun x=>PtB x/\XX r x=true) (by simp) fun p hp q hq s hs h0 hw=>⟨mtP_b (hv p hp) (hv q hq) (hv s hs),hw⟩
theorem with_room {r:List Pl} {x:Pt} (h:XX r x=true) {p:Pl} (hp:p∈r):0<=JO p x:=by
 unfold XX at h
 have h2:r.any (outB x)=false:=by simpa using h
 have h3:=List.any_eq_false.1 h2 p hp
 have h4:¬ JO p x<0:=fun hc=>h3 (decide_eq_true hc)
 omega
def SepC (a b:List Pl):Prop:=∃ p∈a,∃ q∈b,(q.n.x = -p.n.x/\q.n.y = -p.n.y/\q.n.z = -p.n.z)/\p.b+q.b<=0
theorem SepC.symm {a b:List Pl} (h:SepC a b):SepC b a:=by
 obtain ⟨p,hp,q,hq,⟨h1,h2,h3⟩,h4⟩:=h
 exact ⟨q,hq,p,hp,⟨by omega,by omega,by omega⟩,by omega⟩
theorem SepC.mono {a b c d:List Pl} (h:SepC a b) (ha:∀ p∈a,p∈c) (hb:∀ p∈b,p∈d):SepC c d:=by
 obtain ⟨p,hp,q,hq,h⟩:=h
 exact ⟨p,ha p hp,q,hb q hq,h⟩
theorem sep_not_full {r:List Pl} (hv:∀ p∈r,Q5 p=true) {p q:Pl} (hp:p∈r) (hq:q∈r) (hn:q.n.x = -p.n.x/\q.n.y = -p.n.y/\q.n.z = -p.n.z) (hb:p.b+q.b<=0):fullS r=false:=by
 unfold fullS
 have:r.any (nonS (Xo r))=true:=List.any_eq_true.2 ⟨p,hp,by
  unfold nonS
  have:(Xo r).any (inB p)=false:=List.any_eq_false.2 fun x hx=>by
   obtain ⟨hB,hw⟩:=corn_b hv x hx
   have r1:=with_room hw hp
   have r2:=with_room hw hq
   have e1:=room_eq (hv p hp) hB
   have e2:=room_eq (hv q hq) hB
   rw [hn.1,hn.2.1,hn.2.2] at e2
   have hm:(p.b+q.b)*x.w<=0:=Int.mul_nonpos_of_nonpos_of_nonneg hb hB.w.1
   rw [Int.add_mul] at hm
   rw [Int.neg_mul,Int.neg_mul,Int.neg_mul] at e2
   have:¬ JO p x>0:=by omega
   unfold inB
   rw [decide_eq_false this]; decide
  rw [this]; rfl⟩
 rw [this]; rfl
theorem sep_apart {a b:List Pl} (h:SepC a b):Uh a b=true:=by
 unfold Uh
 cases hv:XQ [a,b]
 ·rfl
 ·obtain ⟨p,hp,q,hq,hn,hb⟩:=h
  have:fullS (ofS [a,b])=false:=sep_not_full (ofS_valid hv) (p:=p) (q:=q) (by unfold ofS; simp [hp]) (by unfold ofS; simp [hq]) hn hb
  rw [this]; rfl
theorem ckC_ok:∀ {l pre:List (List Pl)},(∀ c∈l,QX c=true)->l.Pairwise SepC->(∀ a∈pre,∀ c∈l,SepC a c)->ckC pre l=0
 | [],pre,_,_,_=>rfl
 | c::l,pre,hf,hp,hs=>by
  have h1:sapartS c pre=true:=by
   unfold sapartS
   have:pre.any (meetB c)=false:=List.any_eq_false.2 fun a ha=>by
    unfold meetB; rw [sep_apart (hs a ha c (List.mem_cons_self ..)).symm]; decide
   rw [this]; rfl
  have h2:=List.pairwise_cons.1 hp
  unfold ckC
  rw [hf c (List.mem_cons_self ..),h1]
  exact ckC_ok (fun a ha=>hf a (List.mem_cons_of_mem _ ha)) h2.2 fun a ha b hb=>by
   rcases List.mem_append.1 ha with ha | ha
   ·exact hs a ha b (List.mem_cons_of_mem _ hb)
   ·rw [List.mem_singleton.1 ha]; exact h2.1 b hb
theorem gL1 (l:List Int) {e:Int} (he:e=1\/e = -1):gL (l++[e])=1:=by
 unfold gL; rw [List.foldl_append]
 rcases he with rfl | rfl <;> simp
theorem timesE {v:V3} {n:Int} (h1:v.x=0\/v.x=1\/v.x = -1) (h2:v.y=0\/v.y=1\/v.y = -1) (h3:v.z=0\/v.z=1\/v.z = -1) (hn : -1000000000<=n/\n<=1000000000):QQ v n=⟨v.x*n,v.y*n,v.z*n⟩:=by
 have b:∀ a:Int,(a=0\/a=1\/a = -1)->W (a*n)=a*n:=fun a ha=>Xk (by rcases ha with rfl | rfl | rfl <;> omega)
 unfold QQ; rw [b _ h1,b _ h2,b _ h3]
theorem addE {a b:V3} (ha:VB 1000000000 a) (hb:VB 1000000000 b):addW a b=⟨a.x+b.x,a.y+b.y,a.z+b.z⟩:=by
 obtain ⟨a1,a2,a3⟩:=ha
 obtain ⟨b1,b2,b3⟩:=hb
 unfold addW; rw [Xk (by omega),Xk (by omega),Xk (by omega)]
theorem sum_axis {s:Int} (hs:s=1\/s = -1) {x y z:Int} (hx : -1000000<=x/\x<=1000000) (hy : -1000000<=y/\y<=1000000) (hz : -1000000<=z/\z<=1000000) :
  Xw ⟨⟨s,0,0⟩,x⟩ ⟨⟨0,s,0⟩,y⟩ ⟨⟨0,0,s⟩,z⟩=⟨x,y,z⟩/\wd3 ⟨⟨s,0,0⟩,x⟩ ⟨⟨0,s,0⟩,y⟩ ⟨⟨0,0,s⟩,z⟩=s:=by
 have c1:QC ⟨0,s,0⟩ ⟨0,0,s⟩=⟨1,0,0⟩:=by rcases hs with rfl | rfl <;> decide +kernel
 have c2:QC ⟨0,0,s⟩ ⟨s,0,0⟩=⟨0,1,0⟩:=by rcases hs with rfl | rfl <;> decide +kernel
 have c3:QC ⟨s,0,0⟩ ⟨0,s,0⟩=⟨0,0,1⟩:=by rcases hs with rfl | rfl <;> decide +kernel
 constructor
 ·unfold Xw sumS
  dsimp only
  rw [c1,c2,c3,timesE (by simp) (by simp) (by simp) (by omega),timesE (by simp) (by simp) (by simp) (by omega),timesE (by simp) (by simp) (by simp) (by omega)]
  rw [addE (a:=⟨0,0,0⟩) (by unfold VB; dsimp only; omega) (by unfold VB; dsimp only; omega)]
  rw [addE (a:=⟨_,_,_⟩) (b:=⟨_,_,_⟩) (by unfold VB; dsimp only; omega) (by unfold VB; dsimp only; omega)]
  rw [addE (a:=⟨_,_,_⟩) (b:=⟨_,_,_⟩) (by unfold VB; dsimp only; omega) (by unfold VB; dsimp only; omega)]
  simp
 ·unfold wd3 wdS
  dsimp only
  rw [c3]
  rcases hs with rfl | rfl <;> decide +kernel
theorem mt_axis {s:Int} (hs:s=1\/s = -1) {x y z:Int} (hx : -1000000<=x/\x<=1000000) (hy : -1000000<=y/\y<=1000000) (hz : -1000000<=z/\z<=1000000) :
  mtP ⟨⟨s,0,0⟩,x⟩ ⟨⟨0,s,0⟩,y⟩ ⟨⟨0,0,s⟩,z⟩=⟨s*x,s*y,s*z,1⟩:=by
 obtain ⟨e1,e2⟩:=sum_axis hs hx hy hz
 have eg:g3 ⟨⟨s,0,0⟩,x⟩ ⟨⟨0,s,0⟩,y⟩ ⟨⟨0,0,s⟩,z⟩=s:=by
  unfold g3; rw [e1,e2]
  have:=gL1 [x,y,z] hs
  rw [show [x,y,z]++[s]=[x,y,z,s] from rfl] at this
  dsimp only
  rw [this]
  rcases hs with rfl | rfl <;> rfl
 unfold mtP
 rw [eg,e1,e2]
 rcases hs with rfl | rfl
 ·simp only [Int.tdiv_one,Int.one_mul]
  rw [Xk (by omega),Xk (by omega),Xk (by omega),Xk (by omega)]
 ·simp only [Int.tdiv_neg,Int.tdiv_one,Int.neg_mul,Int.one_mul]
  rw [Xk (by omega),Xk (by omega),Xk (by omega),Xk (by omega)]
  simp
structure BoxB (lo hi:V3):Prop where
 x : -24<=lo.x/\lo.x<hi.x/\hi.x<=24
 y : -24<=lo.y/\lo.y<hi.y/\hi.y<=24
 z : -24<=lo.z/\lo.z<hi.z/\hi.z<=24
theorem val_of {n:V3} {b:Int} (hn:(Ji 4608 [n.x,n.y,n.z]&&decide ((gL [n.x,n.y,n.z]:Int)=1))=true) (hb : -2097152<=b/\b<=2097152):Q5 ⟨n,b⟩=true:=by
 unfold Q5; dsimp only; rw [hn]
 show (true&&(decide (-2097152<=b/\b<=2097152)&&true))=true
 rw [decide_eq_true hb]; rfl
theorem box_valid {lo hi:V3} (h1:VB 2097152 lo) (h2:VB 2097152 hi):∀ p∈JC lo hi,Q5 p=true:=by
 obtain ⟨a1,a2,a3⟩:=h1
 obtain ⟨b1,b2,b3⟩:=h2
 intro p hp
 simp only [JC,List.mem_cons,List.not_mem_nil,or_false] at hp
 rcases hp with rfl | rfl | rfl | rfl | rfl | rfl <;> exact val_of (by decide +kernel) (by omega)
theorem BoxB.v1 {lo hi:V3} (h:BoxB lo hi):VB 2097152 lo:=by
 have:=h.x; have:=h.y; have:=h.z; unfold VB; omega
theorem BoxB.v2 {lo hi:V3} (h:BoxB lo hi):VB 2097152 hi:=by
 have:=h.x; have:=h.y; have:=h.z; unfold VB; omega
theorem bad_of {c:List Pl} (hl:c.length<=48) (h:∀ p∈c,Q5 p=true):badC c=false:=by
 unfold badC ckS
 rw [if_neg (by omega),if_neg (by
  intro hc
  obtain ⟨p,hp,hb⟩:=List.any_eq_true.1 hc
  unfold badP at hb; rw [h p hp] at hb; exact absurd hb (by decide))]
 rfl
theorem val1 {c:List Pl} (h:badC c=false):XQ [c]=true:=by unfold XQ; simp [h]
theorem full_of {r:List Pl} {a b:Pt} (ha:a∈Xo r) (hb:b∈Xo r) (h:∀ p∈r,JO p a>0\/JO p b>0):fullS r=true:=by
 unfold fullS
 have:r.any (nonS (Xo r))=false:=List.any_eq_false.2 fun p hp=>by
  unfold nonS
  have:(Xo r).any (inB p)=true:=by
   rcases h p hp with h | h
   ·exact List.any_eq_true.2 ⟨a,ha,decide_eq_true h⟩
   ·exact List.any_eq_true.2 ⟨b,hb,decide_eq_true h⟩
  rw [this]; decide
 rw [this]; rfl
theorem with_of {r:List Pl} {x:Pt} (h:∀ p∈r,0<=JO p x):XX r x=true:=by
 unfold XX
 have:r.any (outB x)=false:=List.any_eq_false.2 fun p hp hc=>by
  have:=of_decide_eq_true hc; have:=h p hp; omega
 rw [this]; rfl
theorem box_of (lo hi:V3):ofS [JC lo hi]=[⟨⟨1,0,0⟩,hi.x⟩,⟨⟨-1,0,0⟩,-lo.x⟩,⟨⟨0,1,0⟩,hi.y⟩,⟨⟨0,-1,0⟩,-lo.y⟩,⟨⟨0,0,1⟩,hi.z⟩,⟨⟨0,0,-1⟩,-lo.z⟩,⟨⟨1,0,0⟩,24⟩,⟨⟨-1,0,0⟩,24⟩,⟨⟨0,1,0⟩,24⟩,⟨⟨0,-1,0⟩,24⟩,⟨⟨0,0,1⟩,24⟩,⟨⟨0,0,-1⟩,24⟩]:=rfl
theorem box_full {lo hi:V3} (h:BoxB lo hi):QX (JC lo hi)=true:=by
 have hv:=box_valid h.v1 h.v2
 have hb:=bad_of (c:=JC lo hi) (show 6<=48 by decide) hv
 have hv2:=ofS_valid (val1 hb)
 obtain ⟨x1,x2,x3⟩:=h.x
 obtain ⟨y1,y2,y3⟩:=h.y
 obtain ⟨z1,z2,z3⟩:=h.z
 have ma:=mt_axis (s:=1) (.inl rfl) (x:=hi.x) (y:=hi.y) (z:=hi.z) (by omega) (by omega) (by omega)
 have mb:=mt_axis (s := -1) (.inr rfl) (x := -lo.x) (y := -lo.y) (z := -lo.z) (by omega) (by omega) (by omega)
 have wa:=(sum_axis (s:=1) (.inl rfl) (x:=hi.x) (y:=hi.y) (z:=hi.z) (by omega) (by omega) (by omega)).2
 have wb:=(sum_axis (s := -1) (.inr rfl) (x := -lo.x) (y := -lo.y) (z := -lo.z) (by omega) (by omega) (by omega)).2
 simp only [Int.one_mul] at ma
 simp only [Int.neg_mul,Int.one_mul,Int.neg_neg] at mb
 have pa:PtB ⟨hi.x,hi.y,hi.z,1⟩:=⟨by dsimp only; omega,by dsimp only; omega,by dsimp only; omega,by dsimp only; omega⟩
 have pb:PtB ⟨lo.x,lo.y,lo.z,1⟩:=⟨by dsimp only; omega,by dsimp only; omega,by dsimp only; omega,by dsimp only; omega⟩
 have ra:∀ p∈ofS [JC lo hi],0<=JO p ⟨hi.x,hi.y,hi.z,1⟩/\0<=JO p ⟨lo.x,lo.y,lo.z,1⟩/\(JO p ⟨hi.x,hi.y,hi.z,1⟩>0\/JO p ⟨lo.x,lo.y,lo.z,1⟩>0):=by
  intro p hp
  rw [room_eq (hv2 p hp) pa,room_eq (hv2 p hp) pb]
  rw [box_of] at hp
  simp only [List.mem_cons,List.not_mem_nil,or_false] at hp
  rcases hp with rfl | rfl | rfl | rfl | rfl | rfl | rfl | rfl | rfl | rfl | rfl | rfl <;> (dsimp only; omega)
 have ha:(⟨hi.x,hi.y,hi.z,1⟩:Pt)∈Xo (ofS [JC lo hi]):=by
  rw [← ma]
  refine top_has (by rw [wa]; decide) (by rw [ma]; exact with_of fun p hp=>(ra p hp).1) ?_
  rw [box_of]
  exact .cons_cons _ (.cons _ (.cons_cons _ (.cons _ (.cons_cons _ (List.nil_sublist _)))))
 have hb':(⟨lo.x,lo.y,lo.z,1⟩:Pt)∈Xo (ofS [JC lo hi]):=by
  rw [← mb]
  refine top_has (by rw [wb]; decide) (by rw [mb]; exact with_of fun p hp=>(ra p hp).2.1) ?_
  rw [box_of]
  exact .cons _ (.cons_cons _ (.cons _ (.cons_cons _ (.cons _ (.cons_cons _ (List.nil_sublist _))))))
 unfold QX
 rw [val1 hb,full_of ha hb' fun p hp=>(ra p hp).2.2]; rfl
structure CellOK (c:List Pl):Prop where
 len:1<=c.length/\c.length<=7
 val:∀ p∈c,Q5 p=true
 full:QX c=true
theorem box_ok {lo hi:V3} (h:BoxB lo hi):CellOK (JC lo hi):=⟨by show 1<=6/\6<=7; omega,box_valid h.v1 h.v2,box_full h⟩
structure PtI (l:List (List Pl)) (x:Int):Prop where
 box:∀ c∈l,∃ lo hi,c=JC lo hi/\BoxB lo hi/\hi.x<=x
 pw:l.Pairwise SepC
theorem PtI.nil (x:Int):PtI [] x:=⟨by simp,.nil⟩
theorem sepX {lo hi lo' hi':V3} (h:hi.x<=lo'.x):SepC (JC lo hi) (JC lo' hi') :=
 ⟨⟨⟨1,0,0⟩,hi.x⟩,by simp [JC],⟨⟨-1,0,0⟩,-lo'.x⟩,by simp [JC],⟨rfl,rfl,rfl⟩,by dsimp only; omega⟩
theorem sepY {lo hi lo' hi':V3} (h:hi.y<=lo'.y):SepC (JC lo hi) (JC lo' hi') :=
 ⟨⟨⟨0,1,0⟩,hi.y⟩,by simp [JC],⟨⟨0,-1,0⟩,-lo'.y⟩,by simp [JC],⟨rfl,rfl,rfl⟩,by dsimp only; omega⟩
theorem PtI.push {l:List (List Pl)} {x x':Int} (h:PtI l x) {lo hi:V3} (hb:BoxB lo hi) (h1:lo.x=x) (h2:hi.x=x'):PtI (l++[JC lo hi]) x' where
 box:=fun c hc=>by
  have:=hb.x
  rcases List.mem_append.1 hc with hc | hc
  ·obtain ⟨a,b,e,h3,h4⟩:=h.box c hc; exact ⟨a,b,e,h3,by omega⟩
  ·exact ⟨lo,hi,List.mem_singleton.1 hc,hb,by omega⟩
 pw:=List.pairwise_append.2 ⟨h.pw,by simp,fun a ha b hb'=>by
  obtain ⟨lo',hi',e,h3,h4⟩:=h.box a ha
  rw [List.mem_singleton.1 hb',e]; exact sepX (by omega)⟩
theorem PtI.push2 {l:List (List Pl)} {x x':Int} (h:PtI l x) {lo hi lo2 hi2:V3} (hb:BoxB lo hi) (hb2:BoxB lo2 hi2) (h1:lo.x=x) (h2:hi.x=x') (h3:lo2.x=x) (h4:hi2.x=x') (hy:hi.y<=lo2.y):PtI (l++[JC lo hi,JC lo2 hi2]) x' where
 box:=fun c hc=>by
  have:=hb.x
  rcases List.mem_append.1 hc with hc | hc
  ·obtain ⟨a,b,e,h3,h4⟩:=h.box c hc; exact ⟨a,b,e,h3,by omega⟩
  ·rcases List.mem_cons.1 hc with rfl | hc
   ·exact ⟨lo,hi,rfl,hb,by omega⟩
   ·exact ⟨lo2,hi2,List.mem_singleton.1 hc,hb2,by omega⟩
 pw:=List.pairwise_append.2 ⟨h.pw,by simpa using sepY hy,fun a ha b hb'=>by
  obtain ⟨lo',hi',e,h5,h6⟩:=h.box a ha
  rcases List.mem_cons.1 hb' with rfl | hb'
  ·rw [e]; exact sepX (by omega)
  ·rw [List.mem_singleton.1 hb',e]; exact sepX (by omega)⟩
structure PtC (l:List (List Pl)):Prop where
 ok:∀ c∈l,CellOK c
 pw:l.Pairwise SepC
theorem PtI.all {l:List (List Pl)} {x:Int} (h:PtI l x):PtC l:=⟨fun c hc=>by
 obtain ⟨lo,hi,rfl,hb,_⟩:=h.box c hc; exact box_ok hb,h.pw⟩
theorem pw_set {l:List (List Pl)} {k:Nat} {c a:List Pl} (hp:l.Pairwise SepC) (hc:l[k]?=some c) (hs:∀ p∈c,p∈a):(l.set k a).Pairwise SepC:=by
 induction l generalizing k with
 | nil=>simp
 | cons x l ih =>
  have h2:=List.pairwise_cons.1 hp
  cases k with
  | zero =>
   simp at hc; subst hc
   exact List.pairwise_cons.2 ⟨fun b hb=>(h2.1 b hb).mono hs fun _ h=>h,h2.2⟩
  | succ k =>
   refine List.pairwise_cons.2 ⟨fun b hb=>?_,ih h2.2 (by simpa using hc)⟩
   rcases List.mem_or_eq_of_mem_set hb with hb | rfl
   ·exact h2.1 b hb
   ·exact (h2.1 c (JQ (by simpa using hc))).mono (fun _ h=>h) hs
theorem PtC.cut {l:List (List Pl)} (h:PtC l) {k:Nat} {c:List Pl} (hc:l[k]?=some c) (hl:c.length<=6) {p q:Pl} (hp:Q5 p=true) (hq:Q5 q=true) (hn:q.n.x = -p.n.x/\q.n.y = -p.n.y/\q.n.z = -p.n.z) (hb:p.b+q.b<=0) (h1:QX (c++[p])=true) (h2:QX (c++[q])=true):PtC (l.set k (c++[p])++[c++[q]]) where
 ok:=fun a ha=>by
  have hcc:=h.ok c (JQ hc)
  have mk:∀ {x:Pl},Q5 x=true->QX (c++[x])=true->CellOK (c++[x]):=fun hx hf=>⟨by rw [List.length_append,List.length_singleton]; omega,fun y hy=>by
   rcases List.mem_append.1 hy with hy | hy
   ·exact hcc.val y hy
   ·rw [List.mem_singleton.1 hy]; exact hx,hf⟩
  rcases List.mem_append.1 ha with ha | ha
  ·rcases List.mem_or_eq_of_mem_set ha with ha | rfl
   ·exact h.ok a ha
   ·exact mk hp h1
  ·rw [List.mem_singleton.1 ha]; exact mk hq h2
 pw:=by
  have hk:k<l.length:=by
   rcases Nat.lt_or_ge k l.length with h | h
   ·exact h
   ·rw [List.getElem?_eq_none h] at hc; exact absurd hc (by simp)
  refine List.pairwise_append.2 ⟨pw_set h.pw hc fun _ h=>List.mem_append.2 (.inl h),by simp,fun a ha b hb'=>?_⟩
  rw [List.mem_singleton.1 hb']
  obtain ⟨i,hi⟩:=List.mem_iff_getElem?.1 ha
  rw [List.getElem?_set] at hi
  by_cases e:k=i
  ·rw [if_pos e,if_pos (by omega)] at hi
   rw [← Option.some.inj hi]
   exact ⟨p,by simp,q,by simp,hn,hb⟩
  ·rw [if_neg e] at hi
   have hs:∀ y∈c,y∈c++[q]:=fun _ h=>List.mem_append.2 (.inl h)
   have hpw:=List.pairwise_iff_getElem.1 h.pw
   obtain ⟨hil,hie⟩:=List.getElem?_eq_some_iff.1 hi
   obtain ⟨hkl,hke⟩:=List.getElem?_eq_some_iff.1 hc
   rcases Nat.lt_or_gt_of_ne e with hlt | hgt
   ·have:=hpw k i hkl hil hlt
    rw [hie,hke] at this
    exact this.symm.mono (fun _ h=>h) hs
   ·have:=hpw i k hil hkl hgt
    rw [hie,hke] at this
    exact this.mono (fun _ h=>h) hs
structure GoodP (p:Pa):Prop where
 n:2<=p.cells.length/\p.cells.length<=6
 cells:PtC p.cells
 want:p.want.length=p.cells.length
 wants:∀ w∈p.want,1<=w/\w<=3
theorem GoodP.check {p:Pa} (h:GoodP p):ckP p=0:=by
 have:=h.n; have:=h.want
 unfold ckP
 rw [if_neg (by omega),if_neg (by
  rintro (hc | hc)
  ·exact hc h.want
  ·obtain ⟨w,hw,hb⟩:=List.any_eq_true.1 hc
   have:=h.wants w hw
   unfold XH at hb
   rw [decide_eq_false (by omega),decide_eq_false (by omega)] at hb
   exact absurd hb (by decide))]
 exact ckC_ok (fun c hc=>(h.cells.ok c hc).full) h.cells.pw (by simp)
end Go.Proofs.YthfhaoogcpfboaaGreat
