/-
  Parts of the proof: M0 V0 V1 V2 V3 V4 V5 V6 V7 V8 V9 VA VB VC VD VE.
-/
import Derived.Test.YthfhaoogcpfboaaGreatK2
import Derived.Test.YthfhaoogcpfboaaGreatProg
import Derived.Shelf.Pu.Clone
import Derived.Shelf.Strings.Builder1
set_option linter.unusedVariables false
set_option linter.unusedSimpArgs false
namespace Go.Proofs.YthfhaoogcpfboaaGreat
open Go.RowKit
theorem hmx:Tryz.prog.follows .mixedOrders=true:=by kernel_rfl
section
variable {N:Nat} {Z:List Nat} {rn:Option Nat} {Q:Post} {F:Fr} {H:Hp} {c:MC} {k:KS} {r:RG} {nx:Fr->Hp->Prop} {ml:List MOper} {ms:Option (List MOper)} {acc:List Fp} {x:Fp} {e:Exit}
theorem gA (n:Nat) (h:rn1 n (.aw c .nil F H)=some r) (h2:RGi Tryz.prog N Z rn Q r):AW Tryz.prog N Z rn c Q F H:=go_a hmx n h h2
theorem gK (n:Nat) (h:rn1 n (.aw c k F H)=some r) (h2:RGi Tryz.prog N Z rn Q r):AW Tryz.prog N Z rn c (KS.post Tryz.prog N Z rn Q k) F H:=go_k hmx n h h2
theorem gT (n:Nat) (h:rn1 n (.aw c (.th nx k) F H)=some r) (h2:RGi Tryz.prog N Z rn Q r):AW Tryz.prog N Z rn c (Then nx (KS.post Tryz.prog N Z rn Q k)) F H:=go_t hmx n h h2
theorem gP (n:Nat) (h:rn1 n (lv F H e k)=some r) (h2:RGi Tryz.prog N Z rn Q r):KS.post Tryz.prog N Z rn Q k e F H:=go_p hmx n h h2
theorem gR (n:Nat) (h:rn1 n (.rs ml ms (x::acc) k F H)=some r) (h2:RGi Tryz.prog N Z rn Q r):RS Tryz.prog N ml F H (fun fps=>Kd Z ms acc (KS.post Tryz.prog N Z rn Q k) (x::fps)):=go_r hmx n h h2
theorem gI {r0:RG} (n:Nat) (h:rn1 n r0=some r) (h2:RGi Tryz.prog N Z rn Q r):RGi Tryz.prog N Z rn Q r0:=go_i hmx n h h2
theorem cN {d:Nat} {g:Option (Nat×Bool)} {pre:List Nat} {K:List Fp->Fr->Hp->Prop} {f:Nat} {ar:List Arg} {vs:List AV} {r:AV} {H':Hp} (hv:JV F ar=some vs) (hg:(gOK F g&&(XP [] vs&&newOk H [] H'))=true) (hfc:FC Tryz.prog f vs [] r H' false)
  (h:RS Tryz.prog N ml ((d,r)::F) (H'++H) (fun fps=>K (([],Qf H')::fps))):RS Tryz.prog N (⟨some d,.call f ar,g,pre⟩::ml) F H K:=by
 simp only [Bool.and_eq_true] at hg
 exact Qx [] hg.1 hv hfc (hvs_same hg.2.1) hg.2.2 h
end
abbrev okM (P:Program) (f:Func) (n:Nat):Option MC:=match f.body with | some c=>X4 P n c | none=>none
theorem nz {p:Nat->Prop}:∀ i,i∈([]:List Nat)->p i:=fun i h=>by cases h
abbrev oM (d s:Nat) (pre:List Nat):MOper:=⟨some d,.mv (.t s),none,pre⟩
abbrev oA (d k s:Nat) (pre:List Nat):MOper:=⟨some d,.fa k (.t s),none,pre⟩
abbrev oD (d k s:Nat) (pre:List Nat):MOper:=⟨some d,.ld false k (.t s),none,pre⟩
abbrev pM (d s:Nat) (t:Nat) (b:Bool) (pre:List Nat):MOper:=⟨some d,.mv (.t s),some (t,b),pre⟩
abbrev pA (d k s:Nat) (t:Nat) (b:Bool) (pre:List Nat):MOper:=⟨some d,.fa k (.t s),some (t,b),pre⟩
abbrev pD (d k s:Nat) (t:Nat) (b:Bool) (pre:List Nat):MOper:=⟨some d,.ld false k (.t s),some (t,b),pre⟩
theorem KeptF.cs {H H0:Hp} {F F0:Fr} {t:Nat} {v:AV} (hs:KeptF H H0 F F0) (h:get F t=some v:=by exact rfl) (hv:Xa (Qf H0) v=true:=by exact rfl):KeptF H H0 F ((t,v)::F0):=.cons h (Q3 hv (.inl rfl)) hs
theorem nL {n m:Nat} (h:Nat.ble n m=true):n<=m:=Nat.le_of_ble_eq_true h
abbrev oN (d:Nat) (op:MOp) (pre:List Nat):MOper:=⟨some d,op,none,pre⟩
abbrev oG (d:Nat) (op:MOp) (t:Nat) (b:Bool) (pre:List Nat):MOper:=⟨some d,op,some (t,b),pre⟩
theorem sm {H H0:Hp} {v:AV} (hs:Xa (Qf H0) v=true:=by exact rfl):RC H H0 true v v:=Q3 hs (.inl rfl)
set_option maxRecDepth 100000
theorem hmix:Tryz.prog.follows .mixedOrders=true:=by kernel_rfl
section
variable {P:Program} {N:Nat} {Z:List Nat} {F:Fr} {H:Hp} {ml:List MOper} {K:List Fp->Fr->Hp->Prop} {d:Nat} {g:Option (Nat×Bool)} {pre:List Nat}
theorem rs_ld_g {α:Type} {f:α->List AV} {xs:List α} {t a n o e z:Nat} {fl:Bool} {x:Arg} {v:AV} {y:α} (hg:gOK F g=true) (hx:Ql F x=some (.ptr a t o)) (ha:get H a=some (.cells e z (xs.map f) fl)) (hy:xs[t]?=some y) (hv:(f y)[o]?=some v)
  (h:RS P N ml ((d,v)::F) H (fun fps=>K (([a],[])::fps))):RS P N (⟨some d,.ld false n x,g,pre⟩::ml) F H K:=JD hg hx ha (el:=f y) (by simp [hy]) hv h
theorem rs_ld_ga {α:Type} {f:α->List AV} {xs:List α} {t a n o e z:Nat} {fl:Bool} {x:Arg} {cs:List AV} {y:α} (hg:gOK F g=true) (hx:Ql F x=some (.ptr a t o)) (ha:get H a=some (.cells e z (xs.map f) fl)) (hy:xs[t]?=some y) (hn:o+n<=(f y).length) (hc:((f y).drop o).take n=cs)
  (h:RS P N ml ((d,.agg cs)::F) H (fun fps=>K (([a],[])::fps))):RS P N (⟨some d,.ld true n x,g,pre⟩::ml) F H K:=rs_ld_pa hg hx ha (el:=f y) (by simp [hy]) hn hc h
theorem Qp {α:Type} {f:α->List AV} {xs:List α} {z:Nat} {x i:Arg} {k:IntKind} {t:Int} {y:α} (hg:gOK F g=true) (hx:Ql F x=some (.rs z (xs.map f))) (hi:Ql F i=some (.int k t)) (h0:0<=t) (hy:xs[t.toNat]?=some y)
  (h:RS P N ml ((d,.rp (f y))::F) H (fun fps=>K (([],[])::fps))):RS P N (⟨some d,.ixsl z x i,g,pre⟩::ml) F H K :=
 rs_ix_r hg hx hi h0 (by have:=(List.getElem?_eq_some_iff.1 hy).1; simp; omega) (by simp [hy]) h
end
theorem Qo {α:Type} {L:List α} {k:Nat} (h:k<L.length):∃ a,L[k]?=some a/\a∈L:=⟨L[k],List.getElem?_eq_getElem h,List.getElem_mem h⟩
theorem lt_of_at {α:Type} {L:List α} {k:Nat} {a:α} (h:L[k]?=some a):k<L.length:=(List.getElem?_eq_some_iff.1 h).1
theorem JQ {α:Type} {L:List α} {k:Nat} {a:α} (h:L[k]?=some a):a∈L:=List.mem_of_getElem? h
theorem QL {α:Type} {f:α->List AV} {xs:List α} {H Hs:Hp} {rd:List Nat} {i e z n:Nat} (hi:i∈rd) (hg:get H i=some (.cells e z (xs.map f) true)) (hn:xs.length=n):HV H Hs rd false (.sl i 0 n) (.rs z (xs.map f)) :=
 hv_sl hi hg (by simp; omega) (by rw [List.drop_zero,List.take_of_length_le (by simp; omega)])
abbrev iv (n:Int):AV:=.int .i64 n
abbrev ints (xs:List Int):AV:=.rs 1 (xs.map ci)
abbrev cu8 (x:Int):List AV:=[.int .u8 x]
theorem tmod_range (n m:Int) (h:1<=m) : -m<n.tmod m/\n.tmod m<m:=by
 have h1:=Int.tmod_lt_of_pos n (show (0:Int)<m by omega)
 have h2:=Int.tmod_lt_of_pos (-n) (show (0:Int)<m by omega)
 rw [Int.neg_tmod] at h2
 omega
theorem mod_eq (n m:Int) (h:1<=m):(n.tmod m+m).tmod m=n % m:=by
 have h1:=tmod_range n m h
 rw [Int.tmod_eq_emod_of_nonneg (by omega),Int.add_emod_right,Int.tmod_eq_emod]
 split
 ·simp
 ·rw [Int.sub_emod]; simp [Int.natAbs_of_nonneg (show 0<=m by omega)]
def modS (n m:Int):Int:=if m<1 then 0 else n % m
theorem modS_range (x n:Int) (h:1<=n):0<=modS x n/\modS x n<n:=by
 unfold modS
 rw [if_neg (by omega)]
 exact ⟨Int.emod_nonneg _ (by omega),Int.emod_lt_of_pos _ (by omega)⟩
def QM (L:List Int) (k:Nat) (n:Int):Int:=match L[k]? with
 | some x=>modS x n
 | none=>0
def XT (L:List Int) (k:Nat):Nat:=if k<L.length then k+1 else k
abbrev QN (e:Nat) (L:List Int) (k:Nat):Ob:=.cells e 2 [[ints L,.int .i64 (k:Int)]] true
theorem Qu (L:List Int) (k:Nat) (n:Int) (h:1<=n):0<=QM L k n/\QM L k n<n:=by
 unfold QM
 split
 ·exact modS_range _ n h
 ·omega
structure V3 where
 (x y z:Int)
deriving DecidableEq
abbrev cV (v:V3):List AV:=[.int .i64 v.x,.int .i64 v.y,.int .i64 v.z]
abbrev aV (v:V3):AV:=.agg (cV v)
structure Mv where
 (kind:Int) (fr to co:V3) (feed:Int)
deriving DecidableEq
abbrev W (n:Int):Int:=IntKind.i64.wrap n
theorem Xk {n:Int} (h : -9223372036854775808<=n/\n<=9223372036854775807):W n=n:=wrap64_eq h
def addW (a b:V3):V3:=⟨W (a.x+b.x),W (a.y+b.y),W (a.z+b.z)⟩
def subW (a b:V3):V3:=⟨W (a.x-b.x),W (a.y-b.y),W (a.z-b.z)⟩
def dotW (a b:V3):Int:=W (W (W (a.x*b.x)+W (a.y*b.y))+W (a.z*b.z))
def QC (a b:V3):V3:=⟨W (W (a.y*b.z)-W (a.z*b.y)),W (W (a.z*b.x)-W (a.x*b.z)),W (W (a.x*b.y)-W (a.y*b.x))⟩
def add (a b:V3):V3:=⟨a.x+b.x,a.y+b.y,a.z+b.z⟩
def sub (a b:V3):V3:=⟨a.x-b.x,a.y-b.y,a.z-b.z⟩
structure Bd (n:Int) (v:V3):Prop where
 x : -n<=v.x/\v.x<=n
 y : -n<=v.y/\v.y<=n
 z : -n<=v.z/\v.z<=n
theorem Bd.mono {n m:Int} {v:V3} (h:Bd n v) (hn:n<=m):Bd m v:=by
 have:=h.x; have:=h.y; have:=h.z
 exact ⟨by omega,by omega,by omega⟩
theorem Bd.add {a b:V3} {n m:Int} (ha:Bd n a) (hb:Bd m b):Bd (n+m) (add a b):=by
 have:=ha.x; have:=ha.y; have:=ha.z; have:=hb.x; have:=hb.y; have:=hb.z
 exact ⟨by simp only [YthfhaoogcpfboaaGreat.add]; omega,by simp only [YthfhaoogcpfboaaGreat.add]; omega,by simp only [YthfhaoogcpfboaaGreat.add]; omega⟩
theorem Bd.sub {a b:V3} {n m:Int} (ha:Bd n a) (hb:Bd m b):Bd (n+m) (sub a b):=by
 have:=ha.x; have:=ha.y; have:=ha.z; have:=hb.x; have:=hb.y; have:=hb.z
 exact ⟨by simp only [YthfhaoogcpfboaaGreat.sub]; omega,by simp only [YthfhaoogcpfboaaGreat.sub]; omega,by simp only [YthfhaoogcpfboaaGreat.sub]; omega⟩
def gL (l:List Int):Nat:=l.foldl (fun g n=>Nat.gcd g n.natAbs) 0
theorem gL_succ {l:List Int} {k:Nat} {x:Int} (h:l[k]?=some x):gL (l.take (k+1))=Nat.gcd (gL (l.take k)) x.natAbs:=by
 obtain ⟨hk,rfl⟩:=List.getElem?_eq_some_iff.1 h
 unfold gL
 rw [List.take_succ_eq_append_getElem hk,List.foldl_append]; rfl
theorem gcd_step (g n:Nat):Nat.gcd n (g % n)=Nat.gcd g n:=by rw [Nat.gcd_comm n,← Nat.gcd_rec,Nat.gcd_comm]
theorem tmod_nat (g n:Nat):((g:Int)).tmod (n:Int)=((g % n:Nat):Int):=(Int.ofNat_tmod g n).symm
theorem abs_max (n:Int):max n (-n)=(n.natAbs:Int):=by omega
def Ji (m:Int) (l:List Int):Bool:=l.all fun n=>decide (-m<=n/\n<=m)
def mc16:MC:=(.seq (.reg [oN 4 (.mv (.c (.int .i64 0))) []] false) (.seq (.seq (.reg [oM 5 1 [],oN 6 (.bin .lss (.t 5) (.c (.int .i64 1))) [0]] false) (.cond (.t 6) (.seq (.reg [oN 4 (.mv (.c (.int .i64 0))) []] false) .ret) .skip)) (.seq (.reg [oM 7 0 [],oM 8 1 [],oN 9 (.bin .rem (.t 7) (.t 8)) [0,1],oM 10 1 [],oN 11 (.bin .add (.t 9) (.t 10)) [2,3],oM 12 1 [],oN 13 (.bin .rem (.t 11) (.t 12)) [4,5],oM 4 13 [6,0,1,2,3,4,5,6]] false) .ret)))
theorem mcOk16:(match Tryz.f57.body with | some c=>X4 Tryz.prog 14 c | none=>none)=some mc16:=by kernel_rfl
theorem fc16 (n m:Int) (hm:m<=4611686018427387904):FC Tryz.prog 57 [.int .i64 n,.int .i64 m] [] (.int .i64 (modS n m)) [] false:=by
 refine Qj (nt:=14) Tryz.func57 rfl rfl mcOk16 (nL rfl) ?_
 delta mc16
 refine gA 10 rfl (Qe rfl (fun h6=>?_) (fun h6=>?_))
 ·replace h6:=of_decide_eq_true h6
  have hr:modS n m=0:=if_pos h6
  refine gK 5 rfl ?_
  exact Qk <| Qc rfl (by rw [hr]; first | rfl | exact congrArg _ (mod_eq n m (by omega))) rfl (.inr rfl)
 ·replace h6:=of_decide_eq_false h6
  have hr:modS n m=n % m:=if_neg h6
  have ht:=tmod_range n m (by omega)
  refine gK 5 rfl (XO rfl rfl rfl (by omega) rfl (gR 1 rfl (Qg rfl rfl rfl (by omega) (gR 1 rfl (XO rfl rfl rfl (by omega) rfl (gR 3 rfl ?_))))))
  exact Qk <| Qc rfl (by rw [hr]; first | rfl | exact congrArg _ (mod_eq n m (by omega))) rfl (.inr rfl)
def mc35:MC:=(.seq (.reg [oN 4 (.mv (.c (.int .i64 0))) []] false) (.seq (.seq (.reg [oM 5 0 [],oN 6 (.nilc (.t 5)) [0],oA 7 1 6 [1],oD 8 1 7 [2],oM 9 0 [],oN 10 (.nilc (.t 9)) [4],oA 11 0 10 [5],oD 12 1 11 [6],oN 13 (.len (.t 12)) [7],oN 14 (.bin .geq (.t 8) (.t 13)) [3,8]] true) (.cond (.t 14) (.seq (.reg [oN 4 (.mv (.c (.int .i64 0))) []] false) .ret) .skip)) (.seq (.reg [oM 15 0 [],oN 16 (.nilc (.t 15)) [0],oA 17 1 16 [1],oD 18 1 17 [2],oN 19 (.bin .add (.t 18) (.c (.int .i64 1))) [3],oN 20 (.nilc (.t 15)) [0,0,1,2,3,4],oA 21 1 20 [5,0,1,2,3,4],⟨none,(.st 1 (.t 21) (.t 19)),none,[6,4,0,1,2,3,4]⟩] false) (.seq (.reg [oM 22 0 [],oN 23 (.nilc (.t 22)) [0],oA 24 0 23 [1],oD 25 1 24 [2],oM 26 0 [],oN 27 (.nilc (.t 26)) [4],oA 28 1 27 [5],oD 29 1 28 [6],oN 30 (.bin .sub (.t 29) (.c (.int .i64 1))) [7],oN 31 (.ixsl 1 (.t 25) (.t 30)) [3,8],oD 32 1 31 [9],oM 33 1 [],oN 34 (.call 57 [(.t 32),(.t 33)]) [10,11],oM 4 34 [12,12,0,1,2,3,4,5,6,7,8,9,10,11,12]] true) .ret))))
theorem mcOk35:(match Tryz.f46.body with | some c=>X4 Tryz.prog 35 c | none=>none)=some mc35:=by kernel_rfl
theorem fc35_ (e:Nat) (L:List Int) (k:Nat) (n:Int) (hn:n<=4611686018427387904) (hL:L.length<=4611686018427387904):FC Tryz.prog 46 [.ptr 1000 0 0,.int .i64 n] [(1000,QN e L k)] (.int .i64 (QM L k n)) [(1000,QN e L (XT L k))] true:=by
 refine Qj (nt:=35) Tryz.func46 rfl rfl mcOk35 (nL rfl) ?_
 delta mc35
 refine gA 8 rfl (rs_nilc_p rfl rfl (gR 3 rfl (rs_nilc_p rfl rfl (gR 2 rfl (Qh rfl rfl (gR 0 rfl (Jk rfl rfl rfl (gR 0 rfl (QJ (by kernel_rfl) (gP 0 rfl (Qe rfl (fun h14=>?_) (fun h14=>?_))))))))))))
 ·replace h14:=of_decide_eq_true h14
  have e1:QM L k n=0:=by unfold QM; rw [List.getElem?_eq_none (by omega)]
  have e2:XT L k=k:=if_neg (by omega)
  rw [e1,e2]
  refine gK 5 rfl ?_
  exact Qk <| ret_own rfl sm (.keep rfl rfl .nil) (.cons rfl rfl rfl .nil)
 ·replace h14:=of_decide_eq_false h14
  have hk:k<L.length:=by omega
  have e1:QM L k n=modS L[k] n:=by unfold QM; rw [List.getElem?_eq_getElem hk]
  have e2:XT L k=k+1:=if_pos hk
  rw [e1,e2]
  refine gK 4 rfl (rs_nilc_p rfl rfl (gR 2 rfl (Qg rfl rfl rfl (by omega) (gR 0 rfl (rs_nilc_p rfl rfl (gR 6 rfl (rs_nilc_p rfl rfl (gR 3 rfl (rs_nilc_p rfl rfl (gR 2 rfl (rs_sub (b:=1) (a:=((k+1:Nat):Int)) rfl rfl rfl (by omega) ?_)))))))))))
  refine gR 0 rfl (rs_ix_m (t:=k) rfl rfl (congrArg (fun x=>some (AV.int .i64 x)) (by omega)) (by omega) (gR 2 rfl (cN rfl rfl (fc16 L[k] n hn) (gR 1 rfl (QJ (by kernel_rfl) (gP 1 rfl ?_))))))
  exact Qk <| ret_own rfl sm (.keep rfl rfl .nil) (.cons rfl rfl rfl .nil)
theorem fc35 (i e:Nat) (L:List Int) (k:Nat) (n:Int) (hn:n<=4611686018427387904) (hL:L.length<=4611686018427387904):FC Tryz.prog 46 [.ptr i 0 0,.int .i64 n] [(i,QN e L k)] (.int .i64 (QM L k n)) [(i,QN e L (XT L k))] true :=
 fc_ren (swp 1000 i) (swp_swp _ _) (fc35_ e L k n hn hL) (.cons (.ptr (by simp [swp])) (.cons (.closed rfl) .nil)) (.cons (by simp [swp]) .flat .nil) (.closed rfl) (.cons (by simp [swp]) .flat .nil)
def mc27:MC:=(.seq (.reg [oN 2 (.box 88 3 (.t 0)) [],oN 3 (.box 88 3 (.t 1)) [],oN 4 (.alloc 88 3 [(.int .i64 0),(.int .i64 0),(.int .i64 0)]) []] false) (.seq (.reg [oA 5 0 2 [],oD 6 1 5 [0],oA 7 0 3 [],oD 8 1 7 [2],oN 9 (.bin .sub (.t 6) (.t 8)) [1,3],oA 10 1 2 [],oD 11 1 10 [5],oA 12 1 3 [],oD 13 1 12 [7],oN 14 (.bin .sub (.t 11) (.t 13)) [6,8],oA 15 2 2 [],oD 16 1 15 [10],oA 17 2 3 [],oD 18 1 17 [12],oN 19 (.bin .sub (.t 16) (.t 18)) [11,13],oN 20 (.build [(.int .i64 0),(.int .i64 0),(.int .i64 0)] [(0,(1,(.t 9))),(1,(1,(.t 14))),(2,(1,(.t 19)))]) [4,9,14],⟨none,(.st 3 (.t 4) (.t 20)),none,[15,0,1,2,3,4,5,6,7,8,9,10,11,12,13,14,15]⟩] false) .ret))
theorem mcOk27:(match Tryz.f227.body with | some c=>X4 Tryz.prog 21 c | none=>none)=some mc27:=by kernel_rfl
theorem fc27 (a b:V3):FC Tryz.prog 227 [aV a,aV b] [] (aV (subW a b)) [] false:=by
 refine Qj (nt:=21) Tryz.func227 rfl rfl mcOk27 (nL rfl) ?_
 delta mc27
 refine gA 12 rfl (Xl rfl rfl rfl rfl (gR 4 rfl (Xl rfl rfl rfl rfl (gR 4 rfl (Xl rfl rfl rfl rfl (gR 4 rfl ?_))))))
 exact Qk <| Qc rfl rfl rfl (.inr rfl)
def mc28:MC:=(.seq (.reg [oN 2 (.box 88 3 (.t 0)) [],oN 3 (.box 88 3 (.t 1)) [],oN 4 (.alloc 88 3 [(.int .i64 0),(.int .i64 0),(.int .i64 0)]) []] false) (.seq (.reg [oA 5 0 2 [],oD 6 1 5 [0],oA 7 0 3 [],oD 8 1 7 [2],oN 9 (.bin .add (.t 6) (.t 8)) [1,3],oA 10 1 2 [],oD 11 1 10 [5],oA 12 1 3 [],oD 13 1 12 [7],oN 14 (.bin .add (.t 11) (.t 13)) [6,8],oA 15 2 2 [],oD 16 1 15 [10],oA 17 2 3 [],oD 18 1 17 [12],oN 19 (.bin .add (.t 16) (.t 18)) [11,13],oN 20 (.build [(.int .i64 0),(.int .i64 0),(.int .i64 0)] [(0,(1,(.t 9))),(1,(1,(.t 14))),(2,(1,(.t 19)))]) [4,9,14],⟨none,(.st 3 (.t 4) (.t 20)),none,[15,0,1,2,3,4,5,6,7,8,9,10,11,12,13,14,15]⟩] false) .ret))
theorem mcOk28:(match Tryz.f210.body with | some c=>X4 Tryz.prog 21 c | none=>none)=some mc28:=by kernel_rfl
theorem fc28 (a b:V3):FC Tryz.prog 210 [aV a,aV b] [] (aV (addW a b)) [] false:=by
 refine Qj (nt:=21) Tryz.func210 rfl rfl mcOk28 (nL rfl) ?_
 delta mc28
 refine gA 12 rfl (QH rfl rfl rfl rfl (gR 4 rfl (QH rfl rfl rfl rfl (gR 4 rfl (QH rfl rfl rfl rfl (gR 4 rfl ?_))))))
 exact Qk <| Qc rfl rfl rfl (.inr rfl)
def mc31:MC:=(.seq (.reg [oN 2 (.box 88 3 (.t 0)) [],oN 3 (.box 88 3 (.t 1)) [],oN 4 (.alloc 88 3 [(.int .i64 0),(.int .i64 0),(.int .i64 0)]) []] false) (.seq (.reg [oA 5 1 2 [],oD 6 1 5 [0],oA 7 2 3 [],oD 8 1 7 [2],oN 9 (.bin .mul (.t 6) (.t 8)) [1,3],oA 10 2 2 [],oD 11 1 10 [5],oA 12 1 3 [],oD 13 1 12 [7],oN 14 (.bin .mul (.t 11) (.t 13)) [6,8],oN 15 (.bin .sub (.t 9) (.t 14)) [4,9],oA 16 2 2 [],oD 17 1 16 [11],oA 18 0 3 [],oD 19 1 18 [13],oN 20 (.bin .mul (.t 17) (.t 19)) [12,14],oA 21 0 2 [],oD 22 1 21 [16],oA 23 2 3 [],oD 24 1 23 [18],oN 25 (.bin .mul (.t 22) (.t 24)) [17,19],oN 26 (.bin .sub (.t 20) (.t 25)) [15,20],oA 27 0 2 [],oD 28 1 27 [22],oA 29 1 3 [],oD 30 1 29 [24],oN 31 (.bin .mul (.t 28) (.t 30)) [23,25],oA 32 1 2 [],oD 33 1 32 [27],oA 34 0 3 [],oD 35 1 34 [29],oN 36 (.bin .mul (.t 33) (.t 35)) [28,30],oN 37 (.bin .sub (.t 31) (.t 36)) [26,31],oN 38 (.build [(.int .i64 0),(.int .i64 0),(.int .i64 0)] [(0,(1,(.t 15))),(1,(1,(.t 26))),(2,(1,(.t 37)))]) [10,21,32],⟨none,(.st 3 (.t 4) (.t 38)),none,[33,0,1,2,3,4,5,6,7,8,9,10,11,12,13,14,15,16,17,18,19,20,21,22,23,24,25,26,27,28,29,30,31,32,33]⟩] false) .ret))
theorem mcOk31:(match Tryz.f209.body with | some c=>X4 Tryz.prog 39 c | none=>none)=some mc31:=by kernel_rfl
theorem fc31 (a b:V3):FC Tryz.prog 209 [aV a,aV b] [] (aV (QC a b)) [] false:=by
 refine Qj (nt:=39) Tryz.func209 rfl rfl mcOk31 (nL rfl) ?_
 delta mc31
 refine gA 12 rfl (QA rfl rfl rfl rfl (gR 4 rfl (QA rfl rfl rfl rfl (gR 0 rfl (Xl rfl rfl rfl rfl (gR 4 rfl (QA rfl rfl rfl rfl (gR 4 rfl (QA rfl rfl rfl rfl (gR 0 rfl (Xl rfl rfl rfl rfl ?_)))))))))))
 refine gR 4 rfl (QA rfl rfl rfl rfl (gR 4 rfl (QA rfl rfl rfl rfl (gR 0 rfl (Xl rfl rfl rfl rfl (gR 4 rfl ?_))))))
 exact Qk <| Qc rfl rfl rfl (.inr rfl)
def mc30:MC:=(.seq (.reg [oN 2 (.box 88 3 (.t 0)) [],oN 3 (.box 88 3 (.t 1)) [],oN 4 (.mv (.c (.int .i64 0))) []] false) (.seq (.reg [oA 5 0 2 [],oD 6 1 5 [0],oA 7 0 3 [],oD 8 1 7 [2],oN 9 (.bin .mul (.t 6) (.t 8)) [1,3],oA 10 1 2 [],oD 11 1 10 [5],oA 12 1 3 [],oD 13 1 12 [7],oN 14 (.bin .mul (.t 11) (.t 13)) [6,8],oN 15 (.bin .add (.t 9) (.t 14)) [4,9],oA 16 2 2 [],oD 17 1 16 [11],oA 18 2 3 [],oD 19 1 18 [13],oN 20 (.bin .mul (.t 17) (.t 19)) [12,14],oN 21 (.bin .add (.t 15) (.t 20)) [10,15],oM 4 21 [16,0,1,2,3,4,5,6,7,8,9,10,11,12,13,14,15,16]] false) .ret))
theorem mcOk30:(match Tryz.f190.body with | some c=>X4 Tryz.prog 22 c | none=>none)=some mc30:=by kernel_rfl
theorem fc30 (a b:V3):FC Tryz.prog 190 [aV a,aV b] [] (iv (dotW a b)) [] false:=by
 refine Qj (nt:=22) Tryz.func190 rfl rfl mcOk30 (nL rfl) ?_
 delta mc30
 refine gA 12 rfl (QA rfl rfl rfl rfl (gR 4 rfl (QA rfl rfl rfl rfl (gR 0 rfl (QH rfl rfl rfl rfl (gR 4 rfl (QA rfl rfl rfl rfl (gR 0 rfl (QH rfl rfl rfl rfl (gR 3 rfl ?_))))))))))
 exact Qk <| Qc rfl rfl rfl (.inr rfl)
def mc55:MC:=(.seq (.reg [oN 2 (.mv (.c (.int .i64 0))) []] false) (.seq (.reg [oM 3 0 [],oM 4 0 [],oN 5 (.un .neg (.t 4)) [1],oN 6 (.mx (.t 3) (.t 5)) [0,2],oM 2 6 [3,0,1,2,3]] false) .ret))
theorem mcOk55:(match Tryz.f207.body with | some c=>X4 Tryz.prog 7 c | none=>none)=some mc55:=by kernel_rfl
theorem fc55 (n:Int) (h : -1000000<=n/\n<=1000000):FC Tryz.prog 207 [iv n] [] (iv (n.natAbs:Int)) [] false:=by
 refine Qj (nt:=7) Tryz.func207 rfl rfl mcOk55 (nL rfl) ?_
 delta mc55
 refine gA 8 rfl (Jz rfl rfl (by omega) (gR 0 rfl (rs_mx rfl rfl rfl (abs_max n) (gR 3 rfl ?_))))
 exact Qk <| Qc rfl rfl rfl (.inr rfl)
def mc46:MC:=(.seq (.reg [oN 2 (.mv (.c (.int .i64 0))) []] false) (.seq (.reg [oN 3 (.mv (.c (.int .i64 0))) []] false) (.seq (.seq (.reg [oM 6 0 [],oN 7 (.len (.t 6)) [0],oN 8 (.mv (.c (.int .i64 0))) []] false) (.block 0 (.loop (.seq (.reg [oN 9 (.bin .lss (.t 8) (.t 7)) []] false) (.seq (.cond (.t 9) .skip (.exit 0)) (.seq (.block 1 (.seq (.reg [oN 10 (.ixsl 1 (.t 6) (.t 8)) [],oD 11 1 10 [0],oM 5 11 [1,0,1]] false) (.seq (.seq (.reg [oM 12 5 [],oN 13 (.bin .eql (.t 12) (.c (.int .i64 (-9223372036854775808)))) [0]] false) (.cond (.t 13) (.seq (.reg [oN 2 (.mv (.c (.int .i64 0))) []] false) .ret) .skip)) (.seq (.reg [oM 14 5 [],oN 15 (.call 207 [(.t 14)]) [0],oM 5 15 [1,1,0,1]] false) (.block 2 (.loop (.seq (.seq (.reg [oM 16 5 [],oN 17 (.bin .gtr (.t 16) (.c (.int .i64 0))) [0]] false) (.cond (.t 17) .skip (.exit 2))) (.block 3 (.reg [oM 18 5 [],oM 19 3 [],oM 20 5 [],oN 21 (.bin .rem (.t 19) (.t 20)) [1,2],oM 3 18 [0,0,1],oM 5 21 [3,4,0,1,2,3,4]] true))))))))) (.reg [oN 22 (.bin .add (.t 8) (.c (.int .i64 1))) [],oM 8 22 [0]] false))))))) (.seq (.reg [oM 23 3 [],oM 2 23 [0,0]] false) .ret))))
theorem mcOk46:(match Tryz.f183.body with | some c=>X4 Tryz.prog 24 c | none=>none)=some mc46:=by kernel_rfl
theorem fc46 (l:List Int) (hl:∀ x∈l,-1000000<=x/\x<=1000000) (hn:l.length<=1000):FC Tryz.prog 183 [ints l] [] (iv (gL l:Int)) [] false:=by
 refine Qj (nt:=24) Tryz.func183 rfl rfl mcOk46 (nL rfl) ?_
 delta mc46
 refine gA 12 rfl (Qh rfl rfl (gR 3 rfl ?_))
 refine Qr (α:=Nat) (fun k=>l.length-k) (fun k=>[(6,ints l),(7,iv (l.length:Int)),(8,iv (((k):Nat):Int)),(3,iv ((gL (l.take k):Nat):Int))]) (fun k=>[]) (fun k=>k<=l.length) 0 (by omega)
  (Qa (Qb rfl rfl) (.nil) (fun i h=>by cases h)) ?_
 intro k hk
 refine gT 5 rfl (Qe rfl (fun h9=>?_) (fun h9=>?_))
 ·replace h9:=of_decide_eq_true h9
  refine gK 5 rfl ?_
  obtain ⟨x,hx,hxm⟩:=Qo (L:=l) (k:=k) (by omega)
  have hb:=hl x hxm
  refine Qp rfl rfl rfl (by omega) hx (gR 7 rfl (rs_eql rfl rfl rfl (gR 1 rfl (Qe rfl (fun h13=>?_) (fun h13=>?_)))))
  ·replace h13:=of_decide_eq_true h13
   refine gK 5 rfl ?_
   (exfalso; omega)
  ·replace h13:=of_decide_eq_false h13
   refine gK 4 rfl (cN rfl rfl (fc55 x (hl x hxm)) (gR 3 rfl ?_))
   refine Qr (α:=Nat×Nat) (fun a=>a.2) (fun a=>[(6,ints l),(7,iv (l.length:Int)),(8,iv (((k):Nat):Int)),(3,iv (a.1:Int)),(5,iv (a.2:Int))]) (fun a=>[]) (fun a=>Nat.gcd a.1 a.2=gL (l.take (k+1))) (gL (l.take k),x.natAbs) ((gL_succ hx).symm)
    (Qa (Qb rfl rfl) (.nil) (fun i h=>by cases h)) ?_
   rintro ⟨g,n⟩ hg
   dsimp only at hg ⊢
   refine gT 4 rfl (rs_gtr rfl rfl rfl (gR 1 rfl (Qe rfl (fun h17=>?_) (fun h17=>?_))))
   ·replace h17:=of_decide_eq_true h17
    refine gK 6 rfl (XO rfl rfl rfl (by omega) (tmod_nat g n) (gR 2 rfl (QJ (by kernel_rfl) (gP 0 rfl ?_))))
    exact Q8 <| ⟨(n,g % n),by rw [← hg]; exact gcd_step g n,Nat.mod_lt _ (by omega),Qa (Qb rfl rfl) (.nil) (fun i h=>by cases h)⟩
   ·replace h17:=of_decide_eq_false h17
    refine gK 2 rfl (Qg rfl rfl rfl (by omega) (gR 2 rfl ?_))
    have hn0:n=0:=by omega
    rw [hn0,Nat.gcd_zero_right] at hg
    subst hg
    exact Q8 <| ⟨k+1,by omega,by omega,Qa (Qb rfl rfl) (.nil) (fun i h=>by cases h)⟩
 ·replace h9:=of_decide_eq_false h9
  refine gK 7 rfl ?_
  (have hk2:k=l.length:=by omega
   rw [hk2,List.take_length]; exact Qc rfl rfl rfl (.inr rfl))
end Go.Proofs.YthfhaoogcpfboaaGreat
namespace Go.Proofs.YthfhaoogcpfboaaGreat
open Go.RowKit
set_option maxRecDepth 100000
set_option linter.unusedVariables false
open Go.Shelf
theorem Qv {α:Type} {l:List α} {k:Nat} {x:α} (h:l[k]?=some x):l.take (k+1)=l.take k++[x]:=by rw [List.take_add_one,h]; rfl
theorem fc_of_calls {P:Program} {f:FuncId} {args:List AV} {r:AV} {c:Value} (hr:∀ w S,CR w S r c) (h:∀ (w:World) (S:Nat->Prop) (ρ:Rho) (cargs:Array Value),VRs w S ρ args cargs->Calls P f cargs w fun e w'=>e = .returned c/\Below w.heap.size w w'):FC P f args [] r [] false:=fun w S ρ cargs hH hv =>
 (h w S ρ cargs hv).mono fun e w' ⟨he,hb⟩=>⟨c,fun _=>False,fun _=>none,he,.cl (hr _ _),⟨fun b hb=>hb.elim,fun _ _=>rfl,⟨fun i o _ ho=>by simp [get] at ho,fun i j oi oj b z z' c c' _ _ _ hi=>by simp [get] at hi⟩⟩,
  ⟨hb.os,hb.tape,hb.output,hb.size,fun k hk _=>hb.block k hk⟩,fun b hb=>hb.elim,fun b ⟨i,ob,z,cap,_,h1,_⟩=>by simp [get] at h1,fun i hi=>absurd rfl hi,fun i hi=>absurd rfl hi⟩
def renC:Go.Shelf.Ren:={ f:=fun _=>170,t:=fun n=>if n=37 then 116 else if n=47 then 226 else n,g:=fun n=>n }
theorem laysC:LaysPu.n25 Tryz.prog renC:=by
 constructor
 all_goals first | kernel_rfl | (intro _; kernel_rfl)
theorem vc170 (l:List Int) (hl:l.length<=281474976710656):FC Tryz.prog 170 [.str (Qm l)] [] (.str (Qm l)) [] false :=
 fc_of_calls (c:=.string (Qm l)) (fun _ _=>.str _) fun w S ρ cargs hv=>by
  have h0:=(hv.2 0 _ rfl).str_inv'
  have e:cargs = #[.string (Qm l)]:=by
   obtain ⟨L⟩:=cargs
   have h1:=hv.1
   match L,h1,h0 with
   | [x],_,h0=>simp at h0; subst h0; rfl
  rw [e]
  exact AnyPu.stringslite_Clone laysC (Qm l) w (by rw [strN_size]; exact hl)
abbrev cS (p:List Int):List AV:=[.str (Qm p)]
def dstep (s:Int×Int) (c:Int):Int×Int:=((48271*s.1+c+1) % 2147483629,(69621*s.2+c+1) % 2147483587)
def Ue (l:List Int):Int×Int:=l.foldl dstep (17,29)
theorem dfold_app (a:List Int) (c:Int):Ue (a++[c])=dstep (Ue a) c:=by simp [Ue]
theorem dfold_bd (l:List Int):(0<=(Ue l).1/\(Ue l).1<2147483648)/\(0<=(Ue l).2/\(Ue l).2<2147483648):=by
 have key:∀ (l:List Int) (s:Int×Int),((0<=s.1/\s.1<2147483648)/\(0<=s.2/\s.2<2147483648))->((0<=(l.foldl dstep s).1/\(l.foldl dstep s).1<2147483648)/\(0<=(l.foldl dstep s).2/\(l.foldl dstep s).2<2147483648)):=by
  intro l
  induction l with
  | nil=>intro s h; exact h
  | cons c l ih =>
   intro s h
   refine ih _ ?_
   unfold dstep
   dsimp only
   omega
 exact key l (17,29) (by decide)
def b8 (n:Int):Int:=IntKind.u8.wrap n
def dg8 (s:Int×Int):List Int:=[b8 (s.1.fdiv (2^24)),b8 (s.1.fdiv (2^16)),b8 (s.1.fdiv (2^8)),b8 (s.1.fdiv (2^0)),b8 (s.2.fdiv (2^24)),b8 (s.2.fdiv (2^16)),b8 (s.2.fdiv (2^8)),b8 (s.2.fdiv (2^0))]
def digB (l:List Int):List Int:=dg8 (Ue l)
theorem b8_bd (n:Int):0<=b8 n/\b8 n<256:=by
 unfold b8
 rw [IntKind.wrap_u8]; omega
theorem digB_8 (l:List Int):B8 (digB l):=by
 intro x hx
 simp only [digB,dg8,List.mem_cons,List.not_mem_nil,or_false] at hx
 rcases hx with rfl | rfl | rfl | rfl | rfl | rfl | rfl | rfl <;> exact b8_bd _
theorem take_flat {ps:List (List Int)} {k:Nat} {p:List Int} (h:ps[k]?=some p):(ps.take (k+1)).flatten=(ps.take k).flatten++p.take p.length:=by
 rw [Qv h]; simp
def dgK (s:Int×Int):Nat->List AV
 | 0=>[.int .u8 0,.int .u8 0,.int .u8 0,.int .u8 0,.int .u8 0,.int .u8 0,.int .u8 0,.int .u8 0]
 | 1=>[.int .u8 (b8 (s.1.fdiv (2^24))),.int .u8 0,.int .u8 0,.int .u8 0,.int .u8 (b8 (s.2.fdiv (2^24))),.int .u8 0,.int .u8 0,.int .u8 0]
 | 2=>[.int .u8 (b8 (s.1.fdiv (2^24))),.int .u8 (b8 (s.1.fdiv (2^16))),.int .u8 0,.int .u8 0,.int .u8 (b8 (s.2.fdiv (2^24))),.int .u8 (b8 (s.2.fdiv (2^16))),.int .u8 0,.int .u8 0]
 | 3=>[.int .u8 (b8 (s.1.fdiv (2^24))),.int .u8 (b8 (s.1.fdiv (2^16))),.int .u8 (b8 (s.1.fdiv (2^8))),.int .u8 0,.int .u8 (b8 (s.2.fdiv (2^24))),.int .u8 (b8 (s.2.fdiv (2^16))),.int .u8 (b8 (s.2.fdiv (2^8))),.int .u8 0]
 | 4=>[.int .u8 (b8 (s.1.fdiv (2^24))),.int .u8 (b8 (s.1.fdiv (2^16))),.int .u8 (b8 (s.1.fdiv (2^8))),.int .u8 (b8 (s.1.fdiv (2^0))),.int .u8 (b8 (s.2.fdiv (2^24))),.int .u8 (b8 (s.2.fdiv (2^16))),.int .u8 (b8 (s.2.fdiv (2^8))),.int .u8 (b8 (s.2.fdiv (2^0)))]
 | _=>[]
def mcv138:MC:=(.seq (.reg [oN 2 (.mv (.c (.str (Qm [])))) []] false) (.seq (.reg [oM 3 0 [],oN 4 (.call 170 [(.t 3)]) [0],oM 2 4 [1,1,0,1]] false) .ret))
theorem mcOkv138:okM Tryz.prog Tryz.f138 5=some mcv138:=by kernel_rfl
theorem vc138 (l:List Int) (hl:l.length<=281474976710656):FC Tryz.prog 138 [.str (Qm l)] [] (.str (Qm l)) [] false:=by
 refine Qj (nt:=5) Tryz.func138 rfl rfl mcOkv138 (nL rfl) ?_
 delta mcv138
 refine gA 7 rfl (cN rfl rfl (vc170 l hl) (gR 3 rfl ?_))
 exact Qk <| Qc rfl rfl rfl (.inr rfl)
def mcv94:MC:=(.seq (.reg [oN 2 (.alloc 130 8 [(.int .u8 0),(.int .u8 0),(.int .u8 0),(.int .u8 0),(.int .u8 0),(.int .u8 0),(.int .u8 0),(.int .u8 0)]) []] false) (.seq (.reg [oN 3 (.mv (.c (.int .u64 17))) [],oN 4 (.mv (.c (.int .u64 29))) [0,0]] false) (.seq (.seq (.reg [oM 11 0 [],oN 12 (.len (.t 11)) [0],oN 13 (.mv (.c (.int .i64 0))) []] false) (.block 0 (.loop (.seq (.reg [oN 14 (.bin .lss (.t 13) (.t 12)) []] false) (.seq (.cond (.t 14) .skip (.exit 0)) (.seq (.block 1 (.seq (.reg [oN 15 (.ixsl 1 (.t 11) (.t 13)) [],oD 16 1 15 [0],oM 6 16 [1,0,1]] false) (.seq (.reg [oM 17 6 [],oN 18 (.s2b (.t 17)) [0],oN 19 (.len (.t 18)) [1],oN 20 (.mv (.c (.int .i64 0))) []] false) (.block 2 (.loop (.seq (.reg [oN 21 (.bin .lss (.t 20) (.t 19)) []] false) (.seq (.cond (.t 21) .skip (.exit 2)) (.seq (.block 3 (.seq (.reg [oN 22 (.ixsl 1 (.t 18) (.t 20)) [],oD 23 1 22 [0],oM 8 23 [1,0,1]] false) (.seq (.reg [oM 24 3 [],oN 25 (.bin .mul (.c (.int .u64 48271)) (.t 24)) [0],oM 26 8 [],oN 27 (.cvt .u64 (.t 26)) [2],oN 28 (.bin .add (.t 25) (.t 27)) [1,3],oN 29 (.bin .add (.t 28) (.c (.int .u64 1))) [4],oN 30 (.bin .rem (.t 29) (.c (.int .u64 2147483629))) [5],oM 3 30 [6,0,1,2,3,4,5,6]] false) (.reg [oM 31 4 [],oN 32 (.bin .mul (.c (.int .u64 69621)) (.t 31)) [0],oM 33 8 [],oN 34 (.cvt .u64 (.t 33)) [2],oN 35 (.bin .add (.t 32) (.t 34)) [1,3],oN 36 (.bin .add (.t 35) (.c (.int .u64 1))) [4],oN 37 (.bin .rem (.t 36) (.c (.int .u64 2147483587))) [5],oM 4 37 [6,0,1,2,3,4,5,6]] false)))) (.reg [oN 38 (.bin .add (.t 20) (.c (.int .i64 1))) [],oM 20 38 [0]] false))))))))) (.reg [oN 39 (.bin .add (.t 13) (.c (.int .i64 1))) [],oM 13 39 [0]] false))))))) (.seq (.reg [oN 9 (.alloc 130 8 [(.int .u8 0),(.int .u8 0),(.int .u8 0),(.int .u8 0),(.int .u8 0),(.int .u8 0),(.int .u8 0),(.int .u8 0)]) []] false) (.seq (.seq (.reg [oN 40 (.mv (.c (.int .i64 0))) []] false) (.block 4 (.loop (.seq (.reg [oN 41 (.bin .lss (.t 40) (.c (.int .i64 4))) []] false) (.seq (.cond (.t 41) .skip (.exit 4)) (.seq (.block 5 (.seq (.reg [oM 42 40 [],oM 10 42 [0,0]] false) (.reg [oM 43 10 [],oM 44 10 [],oN 45 (.bin .add (.c (.int .i64 4)) (.t 44)) [1],oM 46 3 [],oM 47 10 [],oN 48 (.bin .mul (.c (.int .i64 8)) (.t 47)) [4],oN 49 (.bin .sub (.c (.int .i64 24)) (.t 48)) [5],oN 50 (.bin .shr (.t 46) (.t 49)) [3,6],oN 51 (.cvt .u8 (.t 50)) [7],oM 52 4 [],oM 53 10 [],oN 54 (.bin .mul (.c (.int .i64 8)) (.t 53)) [10],oN 55 (.bin .sub (.c (.int .i64 24)) (.t 54)) [11],oN 56 (.bin .shr (.t 52) (.t 55)) [9,12],oN 57 (.cvt .u8 (.t 56)) [13],oN 58 (.ixarr 8 1 (.t 9) (.t 43)) [0,0,3,4,5,6,7,8],⟨none,(.st 1 (.t 58) (.t 51)),none,[15,8,0,3,4,5,6,7,8]⟩,oN 59 (.ixarr 8 1 (.t 9) (.t 45)) [2,0,1,2,3,4,5,6,7,8,9,10,11,12,13,14,15,16],⟨none,(.st 1 (.t 59) (.t 57)),none,[17,14,16,0,1,2,3,4,5,6,7,8,9,10,11,12,13,14,15,16]⟩] true))) (.reg [oN 60 (.bin .add (.t 40) (.c (.int .i64 1))) [],oM 40 60 [0]] false))))))) (.seq (.reg [oN 61 (.ld true 8 (.t 9)) [],⟨none,(.st 8 (.t 2) (.t 61)),none,[0,0]⟩] false) .ret))))))
theorem mcOkv94:okM Tryz.prog Tryz.f94 62=some mcv94:=by kernel_rfl
set_option maxHeartbeats 1000000 in
theorem vc94 (ps:List (List Int)) (hp:∀ p∈ps,B8 p/\p.length<=4611686018427387904) (hl:ps.length<=4611686018427387904):FC Tryz.prog 94 [.rs 1 (ps.map cS)] [] (.agg ((digB ps.flatten).map (AV.int .u8 ·))) [] false:=by
 refine Qj (nt:=62) Tryz.func94 rfl rfl mcOkv94 (nL rfl) ?_
 delta mcv94
 refine gA 13 rfl (Qh rfl rfl (gR 3 rfl ?_))
 refine Qr (α:=Nat) (fun k=>ps.length-k) (fun k=>[(2,.ptr 2 0 0),(3,.int .u64 (Ue ((ps.take (k)).flatten)).1),(4,.int .u64 (Ue ((ps.take (k)).flatten)).2),(11,.rs 1 (ps.map cS)),(12,iv (ps.length:Int)),(13,iv (((k):Nat):Int))]) (fun k=>[(2,.cells 130 8 [[.int .u8 0,.int .u8 0,.int .u8 0,.int .u8 0,.int .u8 0,.int .u8 0,.int .u8 0,.int .u8 0]] true)]) (fun k=>k<=ps.length) 0 (by omega)
  (Qa (.cs (.cons rfl (Ua rfl rfl) (.cons rfl (Ua rfl rfl) (.cs (.cs (.cs (.nil))))))) (.keep rfl rfl .nil) nz) ?_
 intro k hk
 refine gT 5 rfl (Qe rfl (fun h14=>?_) (fun h14=>?_))
 ·replace h14:=of_decide_eq_true h14
  refine gK 5 rfl ?_
  obtain ⟨p,hpk,hpm⟩:=Qo (L:=ps) (k:=k) (by omega)
  have hpb:=hp p hpm
  refine Qp (f:=cS) (y:=p) rfl rfl rfl (by omega) hpk (gR 6 rfl (rs_s2b rfl rfl hpb.1 (gR 0 rfl (Qh rfl rfl (gR 3 rfl ?_)))))
  refine Qr (α:=Nat) (fun j=>p.length-j) (fun j=>[(2,.ptr 2 0 0),(3,.int .u64 (Ue ((ps.take k).flatten++p.take (j))).1),(4,.int .u64 (Ue ((ps.take k).flatten++p.take (j))).2),(11,.rs 1 (ps.map cS)),(12,iv (ps.length:Int)),(13,iv (((k):Nat):Int)),(18,.rs 1 (p.map cu8)),(19,iv (p.length:Int)),(20,iv (((j):Nat):Int))]) (fun j=>[(2,.cells 130 8 [[.int .u8 0,.int .u8 0,.int .u8 0,.int .u8 0,.int .u8 0,.int .u8 0,.int .u8 0,.int .u8 0]] true)]) (fun j=>j<=p.length) 0 (by omega)
   (Qa (.cs (.cons rfl (Ua (by simp) rfl) (.cons rfl (Ua (by simp) rfl) (.cs (.cs (.cs (.cs (.cs (.cs (.nil)))))))))) (.keep rfl rfl .nil) nz) ?_
  intro j hj
  refine gT 5 rfl (Qe rfl (fun h21=>?_) (fun h21=>?_))
  ·replace h21:=of_decide_eq_true h21
   refine gK 5 rfl ?_
   obtain ⟨b,hb,hbm⟩:=Qo (L:=p) (k:=j) (by omega)
   have hb8:=hpb.1 b hbm
   have hbd:=dfold_bd ((ps.take k).flatten++p.take (j))
   have hst:=dfold_app ((ps.take k).flatten++p.take (j)) b
   rw [List.append_assoc,← Qv hb] at hst
   generalize Ue ((ps.take k).flatten++p.take (j))=s at hbd hst ⊢
   obtain ⟨x,y⟩:=s
   dsimp only at hbd hst ⊢
   refine Qp (f:=cu8) (y:=b) rfl rfl rfl (by omega) hb (gR 6 rfl (QA (c:=48271*x) rfl rfl rfl (by rw [IntKind.wrap_u64]; omega) (gR 1 rfl (QY (m:=b) rfl rfl (by rw [IntKind.wrap_u64]; omega) (gR 0 rfl (QH (c:=48271*x+b) rfl rfl rfl (by rw [IntKind.wrap_u64]; omega) (gR 0 rfl (QH (c:=48271*x+b+1) rfl rfl rfl (by rw [IntKind.wrap_u64]; omega) (gR 0 rfl (XO (c:=(48271*x+b+1) % 2147483629) rfl rfl rfl (by decide) (Int.tmod_eq_emod_of_nonneg (by omega)) (gR 4 rfl ?_)))))))))))
   refine QA (c:=69621*y) rfl rfl rfl (by rw [IntKind.wrap_u64]; omega) (gR 1 rfl (QY (m:=b) rfl rfl (by rw [IntKind.wrap_u64]; omega) (gR 0 rfl (QH (c:=69621*y+b) rfl rfl rfl (by rw [IntKind.wrap_u64]; omega) (gR 0 rfl (QH (c:=69621*y+b+1) rfl rfl rfl (by rw [IntKind.wrap_u64]; omega) (gR 0 rfl (XO (c:=(69621*y+b+1) % 2147483587) rfl rfl rfl (by decide) (Int.tmod_eq_emod_of_nonneg (by omega)) (gR 3 rfl (Qg rfl rfl rfl (by omega) (gR 2 rfl ?_)))))))))))
   exact Q8 <| ⟨j+1,by omega,by omega,Qa (.cs (.cons rfl (Ua (by rw [hst]; rfl) rfl) (.cons rfl (Ua (by rw [hst]; rfl) rfl) (.cs (.cs (.cs (.cs (.cs (.cs (.nil)))))))))) (.keep rfl rfl .nil) nz⟩
  ·replace h21:=of_decide_eq_false h21
   refine gK 2 rfl (Qg rfl rfl rfl (by omega) (gR 2 rfl ?_))
   have hj2:j=p.length:=by omega
   subst hj2
   refine ⟨k+1,by omega,by omega,?_⟩
   rw [take_flat hpk]
   exact Qa (Qb rfl rfl) (.keep rfl rfl .nil) nz
 ·replace h14:=of_decide_eq_false h14
  refine gK 2 rfl ?_
  obtain rfl:k=ps.length:=by omega
  rw [List.take_length]
  generalize hsd:Ue ps.flatten=s
  refine gI 9 rfl ?_
  refine Qr (α:=Nat) (fun m=>4-m) (fun m=>[(2,.ptr 2 0 0),(3,.int .u64 s.1),(4,.int .u64 s.2),(9,.ptr 9 0 0),(40,iv (((m):Nat):Int))]) (fun m=>[(2,.cells 130 8 [[.int .u8 0,.int .u8 0,.int .u8 0,.int .u8 0,.int .u8 0,.int .u8 0,.int .u8 0,.int .u8 0]] true),(9,.cells 130 8 [dgK s (m)] true)]) (fun m=>m<=4) 0 (by omega)
   (Qa (Qb rfl rfl) (.keep (rfl) rfl (.keep (rfl) rfl (.nil))) (fun i h=>by cases h)) ?_
  intro m hm
  refine gT 5 rfl (Qe rfl (fun h41=>?_) (fun h41=>?_))
  ·replace h41:=of_decide_eq_true h41
   refine gK 5 rfl ?_
   obtain rfl | rfl | rfl | rfl:m=0\/m=1\/m=2\/m=3:=by omega
   ·skip
    refine gI 6 rfl (QH rfl rfl rfl rfl (gR 2 rfl (QA rfl rfl rfl rfl (gR 0 rfl (Xl rfl rfl rfl rfl (gR 0 rfl (XW rfl rfl rfl (by decide) rfl (gR 0 rfl (QY rfl rfl rfl (gR 2 rfl (QA rfl rfl rfl rfl ?_)))))))))))
    refine gR 0 rfl (Xl rfl rfl rfl rfl (gR 0 rfl (XW rfl rfl rfl (by decide) rfl (gR 0 rfl (QY rfl rfl rfl (gR 0 rfl (Q0 rfl rfl rfl (by decide) (by decide) (gR 1 rfl (Q0 rfl rfl rfl (by decide) (by decide) (gR 1 rfl (QJ (by kernel_rfl) ?_)))))))))))
    refine gP 1 rfl (Qg rfl rfl rfl (by omega) (gR 2 rfl ?_))
    exact Q8 <| ⟨0+1,by omega,by omega,Qa (Qb rfl rfl) (.keep (rfl) rfl (.keep (rfl) rfl (.nil))) (fun i h=>by cases h)⟩
   ·skip
    refine gI 6 rfl (QH rfl rfl rfl rfl (gR 2 rfl (QA rfl rfl rfl rfl (gR 0 rfl (Xl rfl rfl rfl rfl (gR 0 rfl (XW rfl rfl rfl (by decide) rfl (gR 0 rfl (QY rfl rfl rfl (gR 2 rfl (QA rfl rfl rfl rfl ?_)))))))))))
    refine gR 0 rfl (Xl rfl rfl rfl rfl (gR 0 rfl (XW rfl rfl rfl (by decide) rfl (gR 0 rfl (QY rfl rfl rfl (gR 0 rfl (Q0 rfl rfl rfl (by decide) (by decide) (gR 1 rfl (Q0 rfl rfl rfl (by decide) (by decide) (gR 1 rfl (QJ (by kernel_rfl) ?_)))))))))))
    refine gP 1 rfl (Qg rfl rfl rfl (by omega) (gR 2 rfl ?_))
    exact Q8 <| ⟨1+1,by omega,by omega,Qa (Qb rfl rfl) (.keep (rfl) rfl (.keep (rfl) rfl (.nil))) (fun i h=>by cases h)⟩
   ·skip
    refine gI 6 rfl (QH rfl rfl rfl rfl (gR 2 rfl (QA rfl rfl rfl rfl (gR 0 rfl (Xl rfl rfl rfl rfl (gR 0 rfl (XW rfl rfl rfl (by decide) rfl (gR 0 rfl (QY rfl rfl rfl (gR 2 rfl (QA rfl rfl rfl rfl ?_)))))))))))
    refine gR 0 rfl (Xl rfl rfl rfl rfl (gR 0 rfl (XW rfl rfl rfl (by decide) rfl (gR 0 rfl (QY rfl rfl rfl (gR 0 rfl (Q0 rfl rfl rfl (by decide) (by decide) (gR 1 rfl (Q0 rfl rfl rfl (by decide) (by decide) (gR 1 rfl (QJ (by kernel_rfl) ?_)))))))))))
    refine gP 1 rfl (Qg rfl rfl rfl (by omega) (gR 2 rfl ?_))
    exact Q8 <| ⟨2+1,by omega,by omega,Qa (Qb rfl rfl) (.keep (rfl) rfl (.keep (rfl) rfl (.nil))) (fun i h=>by cases h)⟩
   ·skip
    refine gI 6 rfl (QH rfl rfl rfl rfl (gR 2 rfl (QA rfl rfl rfl rfl (gR 0 rfl (Xl rfl rfl rfl rfl (gR 0 rfl (XW rfl rfl rfl (by decide) rfl (gR 0 rfl (QY rfl rfl rfl (gR 2 rfl (QA rfl rfl rfl rfl ?_)))))))))))
    refine gR 0 rfl (Xl rfl rfl rfl rfl (gR 0 rfl (XW rfl rfl rfl (by decide) rfl (gR 0 rfl (QY rfl rfl rfl (gR 0 rfl (Q0 rfl rfl rfl (by decide) (by decide) (gR 1 rfl (Q0 rfl rfl rfl (by decide) (by decide) (gR 1 rfl (QJ (by kernel_rfl) ?_)))))))))))
    refine gP 1 rfl (Qg rfl rfl rfl (by omega) (gR 2 rfl ?_))
    exact Q8 <| ⟨3+1,by omega,by omega,Qa (Qb rfl rfl) (.keep (rfl) rfl (.keep (rfl) rfl (.nil))) (fun i h=>by cases h)⟩
  ·replace h41:=of_decide_eq_false h41
   refine gK 2 rfl ?_
   obtain rfl:m=4:=by omega
   refine gI 5 rfl ?_
   unfold digB
   rw [hsd]
   exact Qk <| Qc rfl rfl rfl (.inr rfl)
end Go.Proofs.YthfhaoogcpfboaaGreat
namespace Go.Proofs.YthfhaoogcpfboaaGreat
open Go.RowKit
set_option maxRecDepth 100000
set_option linter.unusedVariables false
def Jd (n:Int):List Int:=[b8 n,b8 (n.fdiv (2^8)),b8 (n.fdiv (2^16)),b8 (n.fdiv (2^24))]
theorem len4_8 (n:Int):B8 (Jd n):=by
 intro x hx
 simp only [Jd,List.mem_cons,List.not_mem_nil,or_false] at hx
 rcases hx with rfl | rfl | rfl | rfl <;> exact b8_bd _
theorem digB_len (l:List Int):(digB l).length=8:=rfl
abbrev aB (l:List Int):AV:=.agg (l.map (AV.int .u8 ·))
abbrev LIM:Nat:=140737488355328
def Xn (k m:List Int):List Int:=digB ([[5],Jd (k.length:Int),k,Jd (m.length:Int),m,k].flatten)
def leafS (t:List Int):List Int:=digB ([[1],t].flatten)
def JM (a b:List Int):List Int:=digB ([[2],a,b].flatten)
def missS:List Int:=digB ([[3]].flatten)
theorem b8_c {c:Int} (h:0<=c/\c<256:=by decide):B8 [c]:=fun x hx=>by
 have e:x=c:=List.mem_singleton.1 hx
 rw [e]; exact h
theorem len4_len (n:Int):(Jd n).length<=4611686018427387904:=by show 4<=_; omega
def mcv93:MC:=(.seq (.reg [oN 1 (.box 130 8 (.t 0)) [],oN 2 (.mv (.c (.str (Qm [])))) []] false) (.seq (.reg [oN 3 (.slarr 8 (.t 1) none none) [],oN 4 (.b2s (.t 3)) [0],oN 5 (.call 138 [(.t 4)]) [1],oM 2 5 [2,2,0,1,2]] false) .ret))
theorem mcOkv93:okM Tryz.prog Tryz.f93 6=some mcv93:=by kernel_rfl
theorem vc93 (l:List Int):FC Tryz.prog 93 [aB (digB l)] [] (.str (Qm (digB l))) [] false:=by
 refine Qj (nt:=6) Tryz.func93 rfl rfl mcOkv93 (nL rfl) ?_
 delta mcv93
 refine gA 7 rfl (rs_slarr rfl rfl rfl rfl (by decide) (.inl rfl) (by decide) (by decide) (gR 0 rfl (rs_b2s (l:=digB l) (rd:=[1]) rfl rfl rfl (gR 0 rfl (cN rfl rfl (vc138 (digB l) (by rw [digB_len]; decide)) (gR 3 rfl ?_))))))
 exact Qk <| Qc rfl rfl rfl (.inr rfl)
def mcv137:MC:=(.seq (.reg [oN 2 (.mv (.c (.str (Qm [])))) []] false) (.seq (.reg [oM 4 0 [],oN 5 (.slen (.t 4)) [0],oM 3 5 [1,0,1]] false) (.seq (.reg [oM 6 3 [],oN 7 (.cvt .u8 (.t 6)) [0],oM 8 3 [],oN 9 (.bin .shr (.t 8) (.c (.int .u64 8))) [2],oN 10 (.cvt .u8 (.t 9)) [3],oM 11 3 [],oN 12 (.bin .shr (.t 11) (.c (.int .u64 16))) [5],oN 13 (.cvt .u8 (.t 12)) [6],oM 14 3 [],oN 15 (.bin .shr (.t 14) (.c (.int .u64 24))) [8],oN 16 (.cvt .u8 (.t 15)) [9],oN 17 (.bslice 5 1 [(.int .u8 0)] 4 [(0,(.t 7)),(1,(.t 10)),(2,(.t 13)),(3,(.t 16))]) [1,4,7,10],oN 18 (.b2s (.t 17)) [11],oM 2 18 [12,0,1,2,3,4,5,6,7,8,9,10,11,12]] false) .ret)))
theorem mcOkv137:okM Tryz.prog Tryz.f137 19=some mcv137:=by kernel_rfl
theorem vc137 (l:List Int) (hl:l.length<=LIM):FC Tryz.prog 137 [.str (Qm l)] [] (.str (Qm (Jd (l.length:Int)))) [] false:=by
 refine Qj (nt:=19) Tryz.func137 rfl rfl mcOkv137 (nL rfl) ?_
 delta mcv137
 refine gA 7 rfl (rs_slen rfl rfl (gR 5 rfl (QY rfl rfl rfl (gR 1 rfl (XW rfl rfl rfl (by decide) rfl (gR 0 rfl (QY rfl rfl rfl (gR 1 rfl (XW rfl rfl rfl (by decide) rfl (gR 0 rfl (QY rfl rfl rfl ?_)))))))))))
 refine gR 1 rfl (XW rfl rfl rfl (by decide) rfl (gR 0 rfl (QY rfl rfl rfl (gR 0 rfl (Qi (l:=((Jd (l.length:Int))).flatMap cu8) (els:=((Jd (l.length:Int))).map cu8) (fl:=true) rfl (by kernel_rfl) rfl rfl (by kernel_rfl) (by kernel_rfl) (gR 0 rfl (rs_b2s (l:=Jd (l.length:Int)) (rd:=[17]) rfl rfl (bytesV_sl rfl rfl) (gR 3 rfl ?_))))))))
 exact Qk <| Qc rfl rfl rfl (.inr rfl)
def mcv91:MC:=(.seq (.reg [oN 4 (.alloc 130 8 [(.int .u8 0),(.int .u8 0),(.int .u8 0),(.int .u8 0),(.int .u8 0),(.int .u8 0),(.int .u8 0),(.int .u8 0)]) []] false) (.seq (.reg [oM 5 0 [],oN 6 (.call 137 [(.t 5)]) [0],oM 7 0 [],oM 8 1 [],oN 9 (.call 137 [(.t 8)]) [3,1],oM 10 1 [],oM 11 0 [],oN 12 (.bslice 9 1 [(.str (Qm []))] 6 [(0,(.c (.str (Qm [5])))),(1,(.t 6)),(2,(.t 7)),(3,(.t 9)),(4,(.t 10)),(5,(.t 11))]) [1,2,4,5,6],oN 13 (.call 94 [(.t 12)]) [7,4],⟨none,(.st 8 (.t 4) (.t 13)),none,[8,8,0,1,2,3,4,5,6,7,8]⟩] false) .ret))
theorem mcOkv91:okM Tryz.prog Tryz.f91 14=some mcv91:=by kernel_rfl
theorem vc91 (k m:List Int) (hk:B8 k/\k.length<=LIM) (hm:B8 m/\m.length<=LIM):FC Tryz.prog 91 [.str (Qm k),.str (Qm m)] [] (aB (Xn k m)) [] false:=by
 have hps:∀ p∈([[5],Jd (k.length:Int),k,Jd (m.length:Int),m,k]:List (List Int)),B8 p/\p.length<=4611686018427387904:=fun p hp=>by
  simp only [List.mem_cons,List.not_mem_nil,or_false] at hp
  rcases hp with rfl | rfl | rfl | rfl | rfl | rfl
  ·exact ⟨b8_c,by decide⟩
  ·exact ⟨len4_8 _,len4_len _⟩
  ·exact ⟨hk.1,Nat.le_trans hk.2 (by decide)⟩
  ·exact ⟨len4_8 _,len4_len _⟩
  ·exact ⟨hm.1,Nat.le_trans hm.2 (by decide)⟩
  ·exact ⟨hk.1,Nat.le_trans hk.2 (by decide)⟩
 refine Qj (nt:=14) Tryz.func91 rfl rfl mcOkv91 (nL rfl) ?_
 delta mcv91
 refine gA 7 rfl (cN rfl rfl (vc137 k hk.2) (gR 2 rfl (cN rfl rfl (vc137 m hm.2) (gR 2 rfl (Qi (l:=(([[5],Jd (k.length:Int),k,Jd (m.length:Int),m,k]:List (List Int))).flatMap cS) (els:=(([[5],Jd (k.length:Int),k,Jd (m.length:Int),m,k]:List (List Int))).map cS) (fl:=true) rfl (by kernel_rfl) rfl rfl (by kernel_rfl) (by kernel_rfl) (gR 0 rfl (Qx [12] rfl rfl (vc94 [[5],Jd (k.length:Int),k,Jd (m.length:Int),m,k] hps (by simp)) (.cons (QL (f:=cS) (xs:=[[5],Jd (k.length:Int),k,Jd (m.length:Int),m,k]) (by simp) rfl rfl) (.nil)) rfl (gR 3 rfl ?_))))))))
 exact Qk <| Qc rfl rfl rfl (.inr rfl)
def mcv40:MC:=(.seq (.reg [oN 4 (.mv (.c (.str (Qm [])))) []] false) (.seq (.reg [oM 5 0 [],oM 6 1 [],oN 7 (.call 91 [(.t 5),(.t 6)]) [0,1],oN 8 (.call 93 [(.t 7)]) [2,2],oM 4 8 [3,3,0,1,2,3]] false) .ret))
theorem mcOkv40:okM Tryz.prog Tryz.f40 9=some mcv40:=by kernel_rfl
theorem vc40 (k m:List Int) (hk:B8 k/\k.length<=LIM) (hm:B8 m/\m.length<=LIM):FC Tryz.prog 40 [.str (Qm k),.str (Qm m)] [] (.str (Qm (Xn k m))) [] false:=by
 refine Qj (nt:=9) Tryz.func40 rfl rfl mcOkv40 (nL rfl) ?_
 delta mcv40
 refine gA 8 rfl (cN rfl rfl (vc91 k m hk hm) (gR 0 rfl (cN rfl rfl (vc93 ([[5],Jd (k.length:Int),k,Jd (m.length:Int),m,k].flatten)) (gR 3 rfl ?_))))
 exact Qk <| Qc rfl rfl rfl (.inr rfl)
def mcv41:MC:=(.seq (.reg [oN 2 (.mv (.c (.str (Qm [])))) []] false) (.seq (.reg [oM 3 0 [],oN 4 (.bslice 9 1 [(.str (Qm []))] 2 [(0,(.c (.str (Qm [1])))),(1,(.t 3))]) [0],oN 5 (.call 94 [(.t 4)]) [1],oN 6 (.call 93 [(.t 5)]) [2,2],oM 2 6 [3,3,0,1,2,3]] false) .ret))
theorem mcOkv41:okM Tryz.prog Tryz.f41 7=some mcv41:=by kernel_rfl
theorem vc41 (t:List Int) (ht:B8 t/\t.length<=LIM):FC Tryz.prog 41 [.str (Qm t)] [] (.str (Qm (leafS t))) [] false:=by
 have hps:∀ p∈([[1],t]:List (List Int)),B8 p/\p.length<=4611686018427387904:=fun p hp=>by
  simp only [List.mem_cons,List.not_mem_nil,or_false] at hp
  rcases hp with rfl | rfl
  ·exact ⟨b8_c,by decide⟩
  ·exact ⟨ht.1,Nat.le_trans ht.2 (by decide)⟩
 refine Qj (nt:=7) Tryz.func41 rfl rfl mcOkv41 (nL rfl) ?_
 delta mcv41
 refine gA 7 rfl (Qi (l:=(([[1],t]:List (List Int))).flatMap cS) (els:=(([[1],t]:List (List Int))).map cS) (fl:=true) rfl (by kernel_rfl) rfl rfl (by kernel_rfl) (by kernel_rfl) (gR 0 rfl (Qx [4] rfl rfl (vc94 ([[1],t]:List (List Int)) hps (by simp)) (.cons (QL (f:=cS) (xs:=([[1],t]:List (List Int))) (by simp) rfl rfl) (.nil)) rfl (gR 0 rfl (cN rfl rfl (vc93 (([[1],t]:List (List Int)).flatten)) (gR 3 rfl ?_))))))
 exact Qk <| Qc rfl rfl rfl (.inr rfl)
def mcv43:MC:=(.seq (.reg [oN 4 (.mv (.c (.str (Qm [])))) []] false) (.seq (.reg [oM 5 0 [],oM 6 1 [],oN 7 (.bslice 9 1 [(.str (Qm []))] 3 [(0,(.c (.str (Qm [2])))),(1,(.t 5)),(2,(.t 6))]) [0,1],oN 8 (.call 94 [(.t 7)]) [2],oN 9 (.call 93 [(.t 8)]) [3,3],oM 4 9 [4,4,0,1,2,3,4]] false) .ret))
theorem mcOkv43:okM Tryz.prog Tryz.f43 10=some mcv43:=by kernel_rfl
theorem vc43 (a b:List Int) (ha:B8 a/\a.length<=LIM) (hb:B8 b/\b.length<=LIM):FC Tryz.prog 43 [.str (Qm a),.str (Qm b)] [] (.str (Qm (JM a b))) [] false:=by
 have hps:∀ p∈([[2],a,b]:List (List Int)),B8 p/\p.length<=4611686018427387904:=fun p hp=>by
  simp only [List.mem_cons,List.not_mem_nil,or_false] at hp
  rcases hp with rfl | rfl | rfl
  ·exact ⟨b8_c,by decide⟩
  ·exact ⟨ha.1,Nat.le_trans ha.2 (by decide)⟩
  ·exact ⟨hb.1,Nat.le_trans hb.2 (by decide)⟩
 refine Qj (nt:=10) Tryz.func43 rfl rfl mcOkv43 (nL rfl) ?_
 delta mcv43
 refine gA 8 rfl (Qi (l:=(([[2],a,b]:List (List Int))).flatMap cS) (els:=(([[2],a,b]:List (List Int))).map cS) (fl:=true) rfl (by kernel_rfl) rfl rfl (by kernel_rfl) (by kernel_rfl) (gR 0 rfl (Qx [7] rfl rfl (vc94 ([[2],a,b]:List (List Int)) hps (by simp)) (.cons (QL (f:=cS) (xs:=([[2],a,b]:List (List Int))) (by simp) rfl rfl) (.nil)) rfl (gR 0 rfl (cN rfl rfl (vc93 (([[2],a,b]:List (List Int)).flatten)) (gR 3 rfl ?_))))))
 exact Qk <| Qc rfl rfl rfl (.inr rfl)
def mcv44:MC:=(.seq (.reg [oN 0 (.mv (.c (.str (Qm [])))) []] false) (.seq (.reg [oN 1 (.bslice 9 1 [(.str (Qm []))] 1 [(0,(.c (.str (Qm [3]))))]) [],oN 2 (.call 94 [(.t 1)]) [0],oN 3 (.call 93 [(.t 2)]) [1,1],oM 0 3 [2,2,0,1,2]] false) .ret))
theorem mcOkv44:okM Tryz.prog Tryz.f44 4=some mcv44:=by kernel_rfl
theorem vc44  : FC Tryz.prog 44 [] [] (.str (Qm missS)) [] false:=by
 have hps:∀ p∈([[3]]:List (List Int)),B8 p/\p.length<=4611686018427387904:=fun p hp=>by
  simp only [List.mem_cons,List.not_mem_nil,or_false] at hp
  rcases hp with rfl
  ·exact ⟨b8_c,by decide⟩
 refine Qj (nt:=4) Tryz.func44 rfl rfl mcOkv44 (nL rfl) ?_
 delta mcv44
 refine gA 6 rfl (Qi (l:=(([[3]]:List (List Int))).flatMap cS) (els:=(([[3]]:List (List Int))).map cS) (fl:=true) rfl (by kernel_rfl) rfl rfl (by kernel_rfl) (by kernel_rfl) (gR 0 rfl (Qx [1] rfl rfl (vc94 ([[3]]:List (List Int)) hps (by simp)) (.cons (QL (f:=cS) (xs:=([[3]]:List (List Int))) (by simp) rfl rfl) (.nil)) rfl (gR 0 rfl (cN rfl rfl (vc93 (([[3]]:List (List Int)).flatten)) (gR 3 rfl ?_))))))
 exact Qk <| Qc rfl rfl rfl (.inr rfl)
end Go.Proofs.YthfhaoogcpfboaaGreat
namespace Go.Proofs.YthfhaoogcpfboaaGreat
open Go.RowKit
set_option maxRecDepth 100000
set_option linter.unusedVariables false
section
variable {P:Program} {N:Nat} {F:Fr} {H:Hp} {ml:List MOper} {K:List Fp->Fr->Hp->Prop} {d:Nat} {g:Option (Nat×Bool)} {pre:List Nat} {x y:Arg} {k:IntKind} {a b c:Int}
theorem rs_xor (hg:gOK F g=true) (hx:Ql F x=some (.int k a)) (hy:Ql F y=some (.int k b)) (hc:bits .xor k a b=c) (h:RS P N ml ((d,.int k c)::F) H (fun fps=>K (([],[])::fps))):RS P N (⟨some d,.bin .xor x y,g,pre⟩::ml) F H K:=Jl hg hx hy ⟨rfl,by rw [hc]; exact h⟩
end
def zig (n:Int):Int:=if 0<=n then 2*n else -2*n-1
theorem zig_bd {n:Int} (h : -9223372036854775808<=n/\n<9223372036854775808):0<=zig n/\zig n<18446744073709551616:=by unfold zig; split <;> omega
def vmax:Nat->Int
 | 0=>2
 | k+1=>128*vmax k
def vfuel:Nat->Int->List Int
 | 0,c=>[b8 c]
 | k+1,c=>if 128<=c then b8 (c % 128+128)::vfuel k (c / 128) else [b8 c]
theorem vfuel_lt {k:Nat} {c:Int} (h:c<128):vfuel k c=[b8 c]:=by
 cases k with
 | zero=>rfl
 | succ k=>unfold vfuel; rw [if_neg (by omega)]
theorem vfuel_ge {k:Nat} {c:Int} (h:128<=c):vfuel (k+1) c=b8 (c % 128+128)::vfuel k (c / 128):=by
 rw [vfuel,if_pos h]
theorem vfuel_8:∀ (k:Nat) (c:Int),B8 (vfuel k c)/\(vfuel k c).length<=k+1
 | 0,c=>⟨fun x hx=>by rw [List.mem_singleton.1 hx]; exact b8_bd _,Nat.le_refl _⟩
 | k+1,c=>by
  unfold vfuel
  split
  ·have:=vfuel_8 k (c / 128)
   exact ⟨fun x hx=>by rcases List.mem_cons.1 hx with rfl | hx; exact b8_bd _; exact this.1 x hx,by simpa using this.2⟩
  ·exact ⟨fun x hx=>by rw [List.mem_singleton.1 hx]; exact b8_bd _,by simp⟩
def XK (n:Int):List Int:=vfuel 9 (zig n)
theorem vint_8 (n:Int):B8 (XK n):=(vfuel_8 9 _).1
theorem Xv (n:Int):(XK n).length<=10:=(vfuel_8 9 _).2
structure VI (n:Int) (k:Nat) (L:List Int) (c:Int):Prop where
 e:XK n=L++vfuel k c
 l:L.length+k=9
 p:0<=c
 m:c<vmax k
theorem VI.start {n:Int} (h : -9223372036854775808<=n/\n<9223372036854775808):VI n 9 [] (zig n) :=
 ⟨rfl,rfl,(zig_bd h).1,(zig_bd h).2⟩
theorem VI.pos {n c:Int} {k:Nat} {L:List Int} (h:VI n k L c) (hc:128<=c):∃ k',k=k'+1:=by
 have:=h.m
 cases k with
 | zero=>simp [vmax] at this; omega
 | succ k=>exact ⟨k,rfl⟩
theorem VI.step {n c:Int} {k:Nat} {L:List Int} (h:VI n (k+1) L c) (hc:128<=c):VI n k (L++[b8 (c % 128+128)]) (c / 128):=by
 refine ⟨by rw [h.e,vfuel_ge hc]; simp,by have:=h.l; simp; omega,by omega,?_⟩
 have:=h.m
 simp only [vmax] at this
 omega
theorem VI.done {n c:Int} {k:Nat} {L:List Int} (h:VI n k L c) (hc:c<128):XK n=L++[b8 c]:=by rw [h.e,vfuel_lt hc]
abbrev I64 (n:Int):Prop := -9223372036854775808<=n/\n<9223372036854775808
theorem or128:∀ c:Fin 256,bits .or .u8 (c.val:Int) 128=((c.val % 128+128:Nat):Int):=by decide
theorem or128b (c:Int):bits .or .u8 (b8 c) 128=b8 (c % 128+128):=by
 have h:=b8_bd c
 have e:=or128 ⟨(b8 c).toNat,by omega⟩
 have e1:(((b8 c).toNat:Nat):Int)=b8 c:=by omega
 simp only [e1] at e
 rw [e]
 unfold b8
 rw [IntKind.wrap_u8,IntKind.wrap_u8]
 omega
theorem xor_zig {n:Int} (h:I64 n):bits .xor .u64 (IntKind.u64.wrap (IntKind.u64.wrap n*2)) (IntKind.u64.wrap (n.fdiv (2^63)))=zig n:=by
 by_cases h0:0<=n
 ·have e1:n.fdiv (2^63)=0:=by rw [Int.fdiv_eq_ediv_of_nonneg _ (by decide)]; omega
  have e2:IntKind.u64.wrap (IntKind.u64.wrap n*2)=2*n:=by rw [IntKind.wrap_u64,IntKind.wrap_u64]; omega
  rw [e1,e2]
  unfold bits zig
  simp only [show IntKind.u64.wrap 0=0 from rfl,if_pos h0]
  have e3:(BitVec.ofInt IntKind.u64.bits (2*n) ^^^ BitVec.ofInt IntKind.u64.bits 0)=BitVec.ofInt IntKind.u64.bits (2*n):=by
   rw [show BitVec.ofInt IntKind.u64.bits 0=0#_ from rfl]; simp
  rw [e3,BitVec.toNat_ofInt,IntKind.wrap_u64]
  simp only [IntKind.bits]
  omega
 ·have e1:n.fdiv (2^63) = -1:=by rw [Int.fdiv_eq_ediv_of_nonneg _ (by decide)]; omega
  have e2:IntKind.u64.wrap (IntKind.u64.wrap n*2)=2*n+18446744073709551616:=by rw [IntKind.wrap_u64,IntKind.wrap_u64]; omega
  rw [e1,e2]
  unfold bits zig
  simp only [if_neg h0]
  have e3:(BitVec.ofInt IntKind.u64.bits (2*n+18446744073709551616) ^^^ BitVec.ofInt IntKind.u64.bits (IntKind.u64.wrap (-1))) = ~~~ BitVec.ofInt IntKind.u64.bits (2*n+18446744073709551616):=by
   rw [show BitVec.ofInt IntKind.u64.bits (IntKind.u64.wrap (-1))=BitVec.allOnes _ from rfl]; simp
  rw [e3,BitVec.toNat_not,BitVec.toNat_ofInt,IntKind.wrap_u64]
  simp only [IntKind.bits]
  omega
theorem vmax_mono {k:Nat} (h:k<=9):vmax k<=vmax 9:=by
 have:∀ j:Fin 10,vmax j.val<=vmax 9:=by decide
 exact this ⟨k,by omega⟩
theorem vmax_le {k:Nat} (h:k<=9):vmax k<=18446744073709551616:=vmax_mono h
def mcv92:MC:=(.seq (.reg [oN 2 (.mv (.c (.int .u64 0))) []] false) (.seq (.seq (.reg [oM 3 0 [],oN 4 (.bin .geq (.t 3) (.c (.int .i64 0))) [0]] false) (.cond (.t 4) (.seq (.reg [oM 5 0 [],oN 6 (.cvt .u64 (.t 5)) [0],oN 7 (.bin .mul (.c (.int .u64 2)) (.t 6)) [1],oM 2 7 [2,0,1,2]] false) .ret) .skip)) (.seq (.reg [oM 8 0 [],oN 9 (.bin .add (.t 8) (.c (.int .i64 1))) [0],oN 10 (.un .neg (.t 9)) [1],oN 11 (.cvt .u64 (.t 10)) [2],oN 12 (.bin .mul (.c (.int .u64 2)) (.t 11)) [3],oN 13 (.bin .add (.t 12) (.c (.int .u64 1))) [4],oM 2 13 [5,0,1,2,3,4,5]] false) .ret)))
theorem mcOkv92:okM Tryz.prog Tryz.f92 14=some mcv92:=by kernel_rfl
theorem vc92 (n:Int) (hn:I64 n):FC Tryz.prog 92 [iv n] [] (.int .u64 (zig n)) [] false:=by
 refine Qj (nt:=14) Tryz.func92 rfl rfl mcOkv92 (nL rfl) ?_
 delta mcv92
 refine gA 8 rfl (Jk rfl rfl rfl (gR 1 rfl (Qe rfl (fun h4=>?_) (fun h4=>?_))))
 ·replace h4:=of_decide_eq_true h4
  refine gK 2 rfl ?_
  rw [show zig n=2*n from if_pos h4]
  refine gI 1 rfl (QY (m:=n) rfl rfl (by rw [IntKind.wrap_u64]; omega) (gR 0 rfl (QA (c:=2*n) rfl rfl rfl (by rw [IntKind.wrap_u64]; omega) (gR 3 rfl ?_))))
  exact Qk <| Qc rfl rfl rfl (.inr rfl)
 ·replace h4:=of_decide_eq_false h4
  refine gK 3 rfl ?_
  rw [show zig n=2*(-(n+1))+1 by unfold zig; rw [if_neg (by omega)]; omega]
  refine gI 1 rfl (Qg rfl rfl rfl (by omega) (gR 0 rfl (Jz rfl rfl (by omega) (gR 0 rfl (QY (m := -(n+1)) rfl rfl (by rw [IntKind.wrap_u64]; omega) (gR 0 rfl (QA (c:=2*(-(n+1))) rfl rfl rfl (by rw [IntKind.wrap_u64]; omega) (gR 0 rfl (QH (c:=2*(-(n+1))+1) rfl rfl rfl (by rw [IntKind.wrap_u64]; omega) (gR 3 rfl ?_))))))))))
  exact Qk <| Qc rfl rfl rfl (.inr rfl)
def mcv38:MC:=(.seq (.reg [oN 2 (.mv (.c (.str (Qm [])))) []] false) (.seq (.reg [oN 3 (.mv (.c (.str (Qm [])))) []] false) (.seq (.reg [oM 5 0 [],oN 6 (.call 92 [(.t 5)]) [0],oM 4 6 [1,1,0,1]] false) (.seq (.block 0 (.loop (.seq (.seq (.reg [oM 7 4 [],oN 8 (.bin .geq (.t 7) (.c (.int .u64 128))) [0]] false) (.cond (.t 8) .skip (.exit 0))) (.block 1 (.seq (.reg [oM 9 3 [],oM 10 4 [],oN 11 (.bin .rem (.t 10) (.c (.int .u64 128))) [1],oN 12 (.bin .add (.t 11) (.c (.int .u64 128))) [2],oN 13 (.cvt .u8 (.t 12)) [3],oN 14 (.bslice 5 1 [(.int .u8 0)] 1 [(0,(.t 13))]) [4],oN 15 (.b2s (.t 14)) [5],oN 16 (.scat (.t 9) (.t 15)) [0,6],oM 3 16 [7,0,1,2,3,4,5,6,7]] false) (.reg [oM 17 4 [],oN 18 (.bin .quo (.t 17) (.c (.int .u64 128))) [0],oM 4 18 [1,0,1]] false)))))) (.seq (.reg [oM 19 3 [],oM 20 4 [],oN 21 (.cvt .u8 (.t 20)) [1],oN 22 (.bslice 5 1 [(.int .u8 0)] 1 [(0,(.t 21))]) [2],oN 23 (.b2s (.t 22)) [3],oN 24 (.scat (.t 19) (.t 23)) [0,4],oM 2 24 [5,0,1,2,3,4,5]] false) .ret)))))
theorem mcOkv38:okM Tryz.prog Tryz.f38 25=some mcv38:=by kernel_rfl
theorem vc38 (n:Int) (hn:I64 n):FC Tryz.prog 38 [iv n] [] (.str (Qm (XK n))) [] false:=by
 refine Qj (nt:=25) Tryz.func38 rfl rfl mcOkv38 (nL rfl) ?_
 delta mcv38
 refine gA 11 rfl (cN rfl rfl (vc92 n hn) (gR 4 rfl ?_))
 refine Qr (α:=Nat×List Int×Int) (fun q=>q.1) (fun q=>[(3,.str (Qm q.2.1)),(4,.int .u64 q.2.2)]) (fun q=>[]) (fun q=>VI n q.1 q.2.1 q.2.2) (9,[],zig n) (VI.start hn)
  (Qa (Qb rfl rfl) (.nil) (fun i h=>by cases h)) ?_
 rintro ⟨k,L,c⟩ hv
 dsimp only at hv ⊢
 have hvl:=hv.l
 have hvp:=hv.p
 refine gT 4 rfl (Jk rfl rfl rfl (gR 1 rfl (Qe rfl (fun h8=>?_) (fun h8=>?_))))
 ·replace h8:=of_decide_eq_true h8
  refine gK 4 rfl ?_
  obtain ⟨k,rfl⟩:=hv.pos h8
  refine gI 2 rfl (XO (c:=c % 128) rfl rfl rfl (by decide) (Int.tmod_eq_emod_of_nonneg (by omega)) (gR 0 rfl (QH (c:=c % 128+128) rfl rfl rfl (by rw [IntKind.wrap_u64]; omega) (gR 0 rfl (QY rfl rfl rfl (gR 0 rfl (Qi (l:=(([b8 (c % 128+128)]:List Int)).flatMap cu8) (els:=(([b8 (c % 128+128)]:List Int)).map cu8) (fl:=true) rfl (by kernel_rfl) rfl rfl (by kernel_rfl) (by kernel_rfl) (gR 0 rfl (rs_b2s (l:=[b8 (c % 128+128)]) (rd:=[14]) rfl rfl (bytesV_sl rfl rfl) (gR 0 rfl (J3 (c:=L++[b8 (c % 128+128)]) rfl rfl rfl (by simp; omega) rfl ?_)))))))))))
  refine gR 4 rfl (Xm (c:=c / 128) rfl rfl rfl (by decide) (by rw [IntKind.wrap_u64,Int.tdiv_eq_ediv_of_nonneg hvp]; have:=hv.m; have hm:vmax (k+1)<=18446744073709551616:=vmax_le (by omega); omega) (gR 2 rfl ?_))
  exact Q8 <| ⟨(k,L++[b8 (c % 128+128)],c / 128),hv.step h8,Nat.lt_succ_self _,Qa (Qb rfl rfl) (.nil) (fun i h=>by cases h)⟩
 ·replace h8:=of_decide_eq_false h8
  refine gK 3 rfl ?_
  rw [hv.done (by omega)]
  refine gI 2 rfl (QY rfl rfl rfl (gR 0 rfl (Qi (l:=(([b8 c]:List Int)).flatMap cu8) (els:=(([b8 c]:List Int)).map cu8) (fl:=true) rfl (by kernel_rfl) rfl rfl (by kernel_rfl) (by kernel_rfl) (gR 0 rfl (rs_b2s (l:=[b8 c]) (rd:=[22]) rfl rfl (bytesV_sl rfl rfl) (gR 0 rfl (J3 (c:=L++[b8 c]) rfl rfl rfl (by simp; omega) rfl (gR 3 rfl ?_))))))))
  exact Qk <| Qc rfl rfl rfl (.inr rfl)
def mcv61:MC:=(.seq (.reg [oN 2 (.mv (.c (.str (Qm [])))) []] false) (.seq (.reg [oM 5 0 [],oN 6 (.cvt .u64 (.t 5)) [0],oN 7 (.bin .shl (.t 6) (.c (.int .u64 1))) [1],oM 8 0 [],oN 9 (.bin .shr (.t 8) (.c (.int .u64 63))) [3],oN 10 (.cvt .u64 (.t 9)) [4],oN 11 (.bin .xor (.t 7) (.t 10)) [2,5],oM 3 11 [6,0,1,2,3,4,5,6]] false) (.seq (.reg [oN 4 (.mv (.c .nils)) []] false) (.seq (.block 0 (.loop (.seq (.seq (.reg [oM 12 3 [],oN 13 (.bin .geq (.t 12) (.c (.int .u64 128))) [0]] false) (.cond (.t 13) .skip (.exit 0))) (.seq (.block 1 (.reg [oM 16 4 [],oM 17 3 [],oN 18 (.cvt .u8 (.t 17)) [1],oN 19 (.bin .or (.t 18) (.c (.int .u8 128))) [2],oN 20 (.bslice 5 1 [(.int .u8 0)] 1 [(0,(.t 19))]) [3],oN 21 (.app 5 1 1 [(.int .u8 0)] (.t 16) (.t 20)) [0,4],oM 4 21 [5,5,0,1,2,3,4,5]] false)) (.reg [oM 14 3 [],oN 15 (.bin .shr (.t 14) (.c (.int .u64 7))) [0],oM 3 15 [1,0,1]] false))))) (.seq (.reg [oM 22 4 [],oM 23 3 [],oN 24 (.cvt .u8 (.t 23)) [1],oN 25 (.bslice 5 1 [(.int .u8 0)] 1 [(0,(.t 24))]) [2],oN 26 (.app 5 1 1 [(.int .u8 0)] (.t 22) (.t 25)) [0,3],oN 27 (.b2s (.t 26)) [4],oM 2 27 [5,4,0,1,2,3,4,5]] false) .ret)))))
theorem mcOkv61:okM Tryz.prog Tryz.f61 28=some mcv61:=by kernel_rfl
theorem vc61 (n:Int) (hn:I64 n):FC Tryz.prog 61 [iv n] [] (.str (Qm (XK n))) [] false:=by
 refine Qj (nt:=28) Tryz.func61 rfl rfl mcOkv61 (nL rfl) ?_
 delta mcv61
 refine gA 7 rfl (QY rfl rfl rfl (gR 0 rfl (rs_shl (c:=IntKind.u64.wrap (IntKind.u64.wrap n*2)) rfl rfl rfl (by decide) rfl (gR 1 rfl (XW (c:=n.fdiv (2^63)) rfl rfl rfl (by decide) rfl (gR 0 rfl (QY rfl rfl rfl (gR 0 rfl (rs_xor (c:=zig n) rfl rfl rfl (xor_zig hn) (gR 8 rfl ?_))))))))))
 refine Qr (α:=Nat×List Int×Int) (fun q=>q.1) (fun q=>[(3,.int .u64 q.2.2),(4,.sl 1005 0 q.2.1.length)]) (fun q=>[(1005,.cells 5 1 (q.2.1.map cu8) true)]) (fun q=>VI n q.1 q.2.1 q.2.2) (9,[],zig n) (VI.start hn)
  (Qa (.cs (.cons rfl (J4 rfl rfl) (.nil))) (.virt rfl (.nil)) (fun i h=>by cases h)) ?_
 rintro ⟨k,L,c⟩ hv
 dsimp only at hv ⊢
 have hvl:=hv.l
 have hvp:=hv.p
 refine gT 4 rfl (Jk rfl rfl rfl (gR 1 rfl (Qe rfl (fun h13=>?_) (fun h13=>?_))))
 ·replace h13:=of_decide_eq_true h13
  refine gK 4 rfl ?_
  obtain ⟨k,rfl⟩:=hv.pos h13
  refine gI 2 rfl (QY (m:=b8 c) rfl rfl rfl (gR 0 rfl (rs_or (c:=b8 (c % 128+128)) rfl rfl rfl (or128b c) (gR 0 rfl (Qi (l:=(([b8 (c % 128+128)]:List Int)).flatMap cu8) (els:=(([b8 (c % 128+128)]:List Int)).map cu8) (fl:=true) rfl (by kernel_rfl) rfl rfl (by kernel_rfl) (by kernel_rfl) (gR 0 rfl (QB (f:=cu8) (xs:=L) (y:=b8 (c % 128+128)) rfl rfl rfl rfl rfl rfl rfl rfl (by decide) rfl (by omega) (by omega) rfl (gR 4 rfl (XW (c:=c / 128) rfl rfl rfl (by decide) (show c.fdiv (2^7)=c / 128 by rw [Int.fdiv_eq_ediv_of_nonneg _ (by decide)]; omega) (gR 2 rfl ?_))))))))))
  exact Q8 <| ⟨(k,L++[b8 (c % 128+128)],c / 128),hv.step h13,Nat.lt_succ_self _,Q6 (i:=21) (i':=1005) (F1:=[(3,.int .u64 (c / 128)),(4,.sl 21 0 (L++[b8 (c % 128+128)]).length)]) (H1:=[(21,.cells 5 1 ((L++[b8 (c % 128+128)]).map cu8) true)]) (.cs (.cons rfl (Ua (by simp) rfl) (.nil))) (.keep rfl rfl .nil) nz rfl rfl (.cons rfl (.same _) (.cons rfl (.sl _ _) (.nil))) (Qb rfl rfl) (.keep rfl rfl .nil) nz⟩
 ·replace h13:=of_decide_eq_false h13
  refine gK 3 rfl ?_
  rw [hv.done (by omega)]
  refine gI 2 rfl (QY (m:=b8 c) rfl rfl rfl (gR 0 rfl (Qi (l:=(([b8 c]:List Int)).flatMap cu8) (els:=(([b8 c]:List Int)).map cu8) (fl:=true) rfl (by kernel_rfl) rfl rfl (by kernel_rfl) (by kernel_rfl) (gR 0 rfl (QB (f:=cu8) (xs:=L) (y:=b8 c) rfl rfl rfl rfl rfl rfl rfl rfl (by decide) rfl (by omega) (by omega) rfl (gR 0 rfl (rs_b2s (l:=L++[b8 c]) (rd:=[26]) rfl rfl (bytesV_sl rfl (by simp)) (gR 3 rfl ?_))))))))
  exact Qk <| Qc rfl rfl rfl (.inr rfl)
end Go.Proofs.YthfhaoogcpfboaaGreat
namespace Go.Proofs.YthfhaoogcpfboaaGreat
open Go.RowKit
set_option maxRecDepth 100000
set_option linter.unusedVariables false
abbrev civ (n:Int):List AV:=[.int .i64 n]
def vints (l:List Int):List Int:=XK (l.length:Int)++(l.map XK).flatten
theorem vflat_len (l:List Int):((l.map XK).flatten).length<=10*l.length:=by
 induction l with
 | nil=>simp
 | cons a l ih=>have:=Xv a; simp only [List.map_cons,List.flatten_cons,List.length_append,List.length_cons]; omega
theorem vflat_8 (l:List Int):B8 (l.map XK).flatten:=by
 intro x hx
 simp only [List.mem_flatten,List.mem_map] at hx
 obtain ⟨_,⟨a,_,rfl⟩,hx⟩:=hx
 exact vint_8 a x hx
theorem vints_8 (l:List Int):B8 (vints l):=by
 intro x hx
 rcases List.mem_append.1 hx with hx | hx
 ·exact vint_8 _ x hx
 ·exact vflat_8 l x hx
theorem vints_len (l:List Int):(vints l).length<=10*l.length+10:=by
 have:=vflat_len l
 have h2:=Xv (l.length:Int)
 simp only [vints,List.length_append]; omega
theorem vflat_succ {l:List Int} {k:Nat} {x:Int} (h:l[k]?=some x):(((l.take (k+1)).map XK).flatten)=((l.take k).map XK).flatten++XK x:=by
 rw [Qv h]; simp
def flg (b:Bool):Int:=if b=true then 1 else 0
theorem flg_bd (b:Bool):0<=flg b/\flg b<=1:=by cases b <;> decide
structure Lf where
 ix:Int
 want:Int
 sure:Bool
 touched:Bool
 salt:List Int
 deriving DecidableEq
abbrev cLf (l:Lf):List AV:=[.int .i64 l.ix,.int .i64 l.want,.bool l.sure,.bool l.touched,.str (Qm l.salt)]
structure Lf.OK (l:Lf):Prop where
 i:I64 l.ix
 w:I64 l.want
 b:B8 l.salt
 n:l.salt.length<=1000000000
def vtext (s:List Int):List Int:=XK (s.length:Int)++s
def XN (l:Lf):List Int:=vints [l.ix,l.want,flg l.sure,flg l.touched]++vtext l.salt
theorem textS_8 {l:Lf} (h:B8 l.salt):B8 (XN l):=by
 intro x hx
 rcases List.mem_append.1 hx with hx | hx
 ·exact vints_8 _ x hx
 ·rcases List.mem_append.1 hx with hx | hx
  ·exact vint_8 _ x hx
  ·exact h x hx
theorem textS_len {l:Lf} (h:l.salt.length<=1000000000):(XN l).length<=2000000000:=by
 have h1:=vints_len [l.ix,l.want,flg l.sure,flg l.touched]
 have h2:=Xv (l.salt.length:Int)
 simp only [XN,vtext,List.length_append,List.length_cons,List.length_nil] at h1 ⊢
 omega
def mst4 (n:Int):List Int:=[b8 (n.fdiv (2^24)),b8 (n.fdiv (2^16)),b8 (n.fdiv (2^8)),b8 (n.fdiv (2^0))]
theorem b8_app {a b:List Int} (ha:B8 a) (hb:B8 b):B8 (a++b):=fun x hx=>by
 rcases List.mem_append.1 hx with h | h
 ·exact ha x h
 ·exact hb x h
def mcv95:MC:=(.seq (.reg [oN 2 (.mv (.c (.str (Qm [])))) []] false) (.seq (.reg [oM 5 0 [],oN 6 (.len (.t 5)) [0],oN 7 (.call 38 [(.t 6)]) [1],oM 3 7 [2,2,0,1,2]] false) (.seq (.seq (.reg [oN 4 (.mv (.c (.int .i64 0))) []] false) (.block 0 (.loop (.seq (.seq (.reg [oM 8 4 [],oM 9 0 [],oN 10 (.len (.t 9)) [1],oN 11 (.bin .lss (.t 8) (.t 10)) [0,2]] false) (.cond (.t 11) .skip (.exit 0))) (.seq (.block 1 (.reg [oM 14 3 [],oM 15 0 [],oM 16 4 [],oN 17 (.ixsl 1 (.t 15) (.t 16)) [1,2],oD 18 1 17 [3],oN 19 (.call 38 [(.t 18)]) [4],oN 20 (.scat (.t 14) (.t 19)) [0,5],oM 3 20 [6,5,0,1,2,3,4,5,6]] false)) (.reg [oM 12 4 [],oN 13 (.bin .add (.t 12) (.c (.int .i64 1))) [0],oM 4 13 [1,0,1]] false)))))) (.seq (.reg [oM 21 3 [],oM 2 21 [0,0]] false) .ret))))
theorem mcOkv95:okM Tryz.prog Tryz.f95 22=some mcv95:=by kernel_rfl
theorem vc95 (l:List Int) (hl:l.length<=LIM) (hx:∀ x∈l,I64 x):FC Tryz.prog 95 [.rs 1 (l.map civ)] [] (.str (Qm (vints l))) [] false:=by
 have hll:=hl
 simp only [LIM] at hll
 refine Qj (nt:=22) Tryz.func95 rfl rfl mcOkv95 (nL rfl) ?_
 delta mcv95
 refine gA 7 rfl (Qh rfl rfl (gR 0 rfl (cN rfl rfl (vc38 (l.length:Int) (by have:=hl; simp only [LIM] at this; exact ⟨by omega,by omega⟩)) (gR 8 rfl ?_))))
 refine Qr (α:=Nat) (fun k=>l.length-k) (fun k=>[(0,.rs 1 (l.map civ)),(3,.str (Qm (XK (l.length:Int)++((l.take (k)).map XK).flatten))),(4,iv (((k):Nat):Int))]) (fun k=>[]) (fun k=>k<=l.length) 0 (by omega)
  (Qa (.cs (.cons rfl (Ua (by simp) rfl) (.cs (.nil)))) (.nil) (fun i h=>by cases h)) ?_
 intro k hk
 refine gT 5 rfl (Qh rfl rfl (gR 2 rfl (Qe rfl (fun h11=>?_) (fun h11=>?_))))
 ·replace h11:=of_decide_eq_true h11
  refine gK 4 rfl ?_
  obtain ⟨x,hxk,hxm⟩:=Qo (L:=l) (k:=k) (by omega)
  have hlen:(XK (l.length:Int)++((l.take k).map XK).flatten).length+(XK x).length<=9223372036854775807:=by
   have h1:=Xv (l.length:Int)
   have h2:=Xv x
   have h3:=vflat_len (l.take k)
   have h4:=hl
   simp only [LIM] at h4
   simp only [List.length_append]
   rw [List.length_take] at h3
   omega
  refine gI 3 rfl (Qp (f:=civ) (y:=x) rfl rfl rfl (by omega) hxk (gR 1 rfl (cN rfl rfl (vc38 x (hx x hxm)) (gR 0 rfl (J3 (c:=XK (l.length:Int)++((l.take (k+1)).map XK).flatten) rfl rfl rfl hlen (by rw [vflat_succ hxk,List.append_assoc]) (gR 4 rfl (Qg rfl rfl rfl (by omega) (gR 2 rfl ?_))))))))
  exact Q8 <| ⟨k+1,by omega,by omega,Qa (Qb rfl rfl) (.nil) (fun i h=>by cases h)⟩
 ·replace h11:=of_decide_eq_false h11
  refine gK 2 rfl ?_
  obtain rfl:k=l.length:=by omega
  rw [List.take_length]
  refine gI 5 rfl ?_
  exact Qk <| Qc rfl rfl rfl (.inr rfl)
def mcv97:MC:=(.seq (.reg [oN 2 (.mv (.c (.str (Qm [])))) []] false) (.seq (.reg [oM 3 0 [],oN 4 (.slen (.t 3)) [0],oN 5 (.call 38 [(.t 4)]) [1],oM 6 0 [],oN 7 (.scat (.t 5) (.t 6)) [2,3],oM 2 7 [4,2,0,1,2,3,4]] false) .ret))
theorem mcOkv97:okM Tryz.prog Tryz.f97 8=some mcv97:=by kernel_rfl
theorem vc97 (s:List Int) (hs:s.length<=LIM):FC Tryz.prog 97 [.str (Qm s)] [] (.str (Qm (vtext s))) [] false:=by
 refine Qj (nt:=8) Tryz.func97 rfl rfl mcOkv97 (nL rfl) ?_
 delta mcv97
 refine gA 7 rfl (rs_slen rfl rfl (gR 0 rfl (cN rfl rfl (vc38 (s.length:Int) (by have:=hs; simp only [LIM] at this; exact ⟨by omega,by omega⟩)) (gR 1 rfl (J3 (c:=vtext s) rfl rfl rfl (by have:=Xv (s.length:Int); have h:=hs; simp only [LIM] at h; omega) rfl (gR 3 rfl ?_))))))
 exact Qk <| Qc rfl rfl rfl (.inr rfl)
def mcv111:MC:=(.seq (.reg [oN 2 (.mv (.c (.str (Qm [])))) []] false) (.seq (.reg [oM 3 0 [],oN 4 (.slen (.t 3)) [0],oN 5 (.call 61 [(.t 4)]) [1],oM 6 0 [],oN 7 (.scat (.t 5) (.t 6)) [2,3],oM 2 7 [4,2,0,1,2,3,4]] false) .ret))
theorem mcOkv111:okM Tryz.prog Tryz.f111 8=some mcv111:=by kernel_rfl
theorem vc111 (s:List Int) (hs:s.length<=LIM):FC Tryz.prog 111 [.str (Qm s)] [] (.str (Qm (vtext s))) [] false:=by
 refine Qj (nt:=8) Tryz.func111 rfl rfl mcOkv111 (nL rfl) ?_
 delta mcv111
 refine gA 7 rfl (rs_slen rfl rfl (gR 0 rfl (cN rfl rfl (vc61 (s.length:Int) (by have:=hs; simp only [LIM] at this; exact ⟨by omega,by omega⟩)) (gR 1 rfl (J3 (c:=vtext s) rfl rfl rfl (by have:=Xv (s.length:Int); have h:=hs; simp only [LIM] at h; omega) rfl (gR 3 rfl ?_))))))
 exact Qk <| Qc rfl rfl rfl (.inr rfl)
def mcv96:MC:=(.seq (.reg [oN 2 (.mv (.c (.int .i64 0))) []] false) (.seq (.seq (.reg [oM 3 0 []] false) (.cond (.t 3) (.seq (.reg [oN 2 (.mv (.c (.int .i64 1))) []] false) .ret) .skip)) (.seq (.reg [oN 2 (.mv (.c (.int .i64 0))) []] false) .ret)))
theorem mcOkv96:okM Tryz.prog Tryz.f96 4=some mcv96:=by kernel_rfl
theorem vc96 (b:Bool):FC Tryz.prog 96 [.bool b] [] (iv (flg b)) [] false:=by
 refine Qj (nt:=4) Tryz.func96 rfl rfl mcOkv96 (nL rfl) ?_
 delta mcv96
 refine gA 9 rfl (Qe rfl (fun h3=>?_) (fun h3=>?_))
 ·skip
  subst h3
  refine gK 5 rfl ?_
  exact Qk <| Qc rfl rfl rfl (.inr rfl)
 ·skip
  subst h3
  refine gK 6 rfl ?_
  exact Qk <| Qc rfl rfl rfl (.inr rfl)
def mcv42:MC:=(.seq (.reg [oN 1 (.box 51 5 (.t 0)) [],oN 2 (.mv (.c (.str (Qm [])))) []] false) (.seq (.reg [oA 3 0 1 [],oD 4 1 3 [0],oA 5 1 1 [],oD 6 1 5 [2],oA 7 2 1 [],oD 8 1 7 [4],oN 9 (.call 96 [(.t 8)]) [5],oA 10 3 1 [],oD 11 1 10 [7],oN 12 (.call 96 [(.t 11)]) [8,6],oN 13 (.bslice 3 1 [(.int .i64 0)] 4 [(0,(.t 4)),(1,(.t 6)),(2,(.t 9)),(3,(.t 12))]) [1,3,6,9],oN 14 (.call 95 [(.t 13)]) [10,9],oA 15 4 1 [],oD 16 1 15 [12],oN 17 (.call 97 [(.t 16)]) [13,11],oN 18 (.scat (.t 14) (.t 17)) [11,14],oM 2 18 [15,14,0,1,2,3,4,5,6,7,8,9,10,11,12,13,14,15]] true) .ret))
theorem mcOkv42:okM Tryz.prog Tryz.f42 19=some mcv42:=by kernel_rfl
theorem vc42 (x:Lf) (hx:x.OK):FC Tryz.prog 42 [.agg (cLf x)] [] (.str (Qm (XN x))) [] false:=by
 refine Qj (nt:=19) Tryz.func42 rfl rfl mcOkv42 (nL rfl) ?_
 delta mcv42
 refine Q4 (QF (QO 2 rfl (Qz fun _=>QK (Q4 (aw_draw hmix (QO 6 rfl (Qx [] rfl rfl (vc96 x.sure) (.cons (Qd rfl) (.nil)) rfl (QO 2 rfl (Qx [] rfl rfl (vc96 x.touched) (.cons (Qd rfl) (.nil)) rfl (Qi (l:=(([x.ix,x.want,flg x.sure,flg x.touched]:List Int)).flatMap civ) (els:=(([x.ix,x.want,flg x.sure,flg x.touched]:List Int)).map civ) (fl:=true) rfl (by kernel_rfl) rfl rfl (by kernel_rfl) (by kernel_rfl) ?_))))))))))
 refine Qx [13] rfl rfl (vc95 [x.ix,x.want,flg x.sure,flg x.touched] (show 4<=LIM by decide) (by
   intro y hy
   have h1:=flg_bd x.sure
   have h2:=flg_bd x.touched
   simp only [List.mem_cons,List.not_mem_nil,or_false] at hy
   rcases hy with rfl | rfl | rfl | rfl
   ·exact hx.i
   ·exact hx.w
   ·exact ⟨by omega,by omega⟩
   ·exact ⟨by omega,by omega⟩)) (.cons (QL (f:=civ) (xs:=[x.ix,x.want,flg x.sure,flg x.touched]) (by simp) rfl rfl) (.nil)) rfl ?_
 refine QO 2 rfl (Qx [] rfl rfl (vc97 x.salt (Nat.le_trans hx.n (by decide))) (.cons (Qd rfl) (.nil)) rfl (J3 (c:=XN x) rfl rfl rfl (by have h1:=vints_len [x.ix,x.want,flg x.sure,flg x.touched]; have h2:=Xv (x.salt.length:Int); have h3:=hx.n; simp only [vtext,List.length_append,List.length_cons,List.length_nil] at h1 ⊢; omega) rfl (Xp rfl rfl (Qz ⟨by kernel_rfl,fun _=>?_⟩))))
 refine QK (J2 ?_)
 exact Qc rfl rfl rfl (.inr rfl)
def mcv106:MC:=(.seq (.reg [oN 2 (.mv (.c (.str (Qm [])))) []] false) (.seq (.reg [oM 3 0 [],oN 4 (.cvt .u8 (.t 3)) [0],oM 5 0 [],oN 6 (.bin .shr (.t 5) (.c (.int .u64 8))) [2],oN 7 (.cvt .u8 (.t 6)) [3],oM 8 0 [],oN 9 (.bin .shr (.t 8) (.c (.int .u64 16))) [5],oN 10 (.cvt .u8 (.t 9)) [6],oM 11 0 [],oN 12 (.bin .shr (.t 11) (.c (.int .u64 24))) [8],oN 13 (.cvt .u8 (.t 12)) [9],oN 14 (.bslice 5 1 [(.int .u8 0)] 4 [(0,(.t 4)),(1,(.t 7)),(2,(.t 10)),(3,(.t 13))]) [1,4,7,10],oN 15 (.b2s (.t 14)) [11],oM 2 15 [12,0,1,2,3,4,5,6,7,8,9,10,11,12]] false) .ret))
theorem mcOkv106:okM Tryz.prog Tryz.f106 16=some mcv106:=by kernel_rfl
theorem vc106 (n:Int):FC Tryz.prog 106 [iv n] [] (.str (Qm (Jd n))) [] false:=by
 refine Qj (nt:=16) Tryz.func106 rfl rfl mcOkv106 (nL rfl) ?_
 delta mcv106
 refine gA 7 rfl (QY rfl rfl rfl (gR 1 rfl (XW rfl rfl rfl (by decide) rfl (gR 0 rfl (QY rfl rfl rfl (gR 1 rfl (XW rfl rfl rfl (by decide) rfl (gR 0 rfl (QY rfl rfl rfl (gR 1 rfl (XW rfl rfl rfl (by decide) rfl ?_)))))))))))
 refine gR 0 rfl (QY rfl rfl rfl (gR 0 rfl (Qi (l:=((Jd n)).flatMap cu8) (els:=((Jd n)).map cu8) (fl:=true) rfl (by kernel_rfl) rfl rfl (by kernel_rfl) (by kernel_rfl) (gR 0 rfl (rs_b2s (l:=Jd n) (rd:=[14]) rfl rfl (bytesV_sl rfl rfl) (gR 3 rfl ?_))))))
 exact Qk <| Qc rfl rfl rfl (.inr rfl)
def mcv145:MC:=(.seq (.reg [oN 2 (.mv (.c (.str (Qm [])))) []] false) (.seq (.reg [oM 3 0 [],oN 4 (.bin .shr (.t 3) (.c (.int .u64 24))) [0],oN 5 (.cvt .u8 (.t 4)) [1],oM 6 0 [],oN 7 (.bin .shr (.t 6) (.c (.int .u64 16))) [3],oN 8 (.cvt .u8 (.t 7)) [4],oM 9 0 [],oN 10 (.bin .shr (.t 9) (.c (.int .u64 8))) [6],oN 11 (.cvt .u8 (.t 10)) [7],oM 12 0 [],oN 13 (.cvt .u8 (.t 12)) [9],oN 14 (.bslice 5 1 [(.int .u8 0)] 4 [(0,(.t 5)),(1,(.t 8)),(2,(.t 11)),(3,(.t 13))]) [2,5,8,10],oN 15 (.b2s (.t 14)) [11],oM 2 15 [12,0,1,2,3,4,5,6,7,8,9,10,11,12]] false) .ret))
theorem mcOkv145:okM Tryz.prog Tryz.f145 16=some mcv145:=by kernel_rfl
theorem vc145 (n:Int):FC Tryz.prog 145 [iv n] [] (.str (Qm (mst4 n))) [] false:=by
 refine Qj (nt:=16) Tryz.func145 rfl rfl mcOkv145 (nL rfl) ?_
 delta mcv145
 refine gA 7 rfl (XW rfl rfl rfl (by decide) rfl (gR 0 rfl (QY rfl rfl rfl (gR 1 rfl (XW rfl rfl rfl (by decide) rfl (gR 0 rfl (QY rfl rfl rfl (gR 1 rfl (XW rfl rfl rfl (by decide) rfl (gR 0 rfl (QY rfl rfl rfl ?_)))))))))))
 refine gR 1 rfl (QY (m:=b8 (n.fdiv (2^0))) rfl rfl (by unfold b8; rw [show n.fdiv (2^0)=n from Int.fdiv_one n]) (gR 0 rfl (Qi (l:=((mst4 n)).flatMap cu8) (els:=((mst4 n)).map cu8) (fl:=true) rfl (by kernel_rfl) rfl rfl (by kernel_rfl) (by kernel_rfl) (gR 0 rfl (rs_b2s (l:=mst4 n) (rd:=[14]) rfl rfl (bytesV_sl rfl rfl) (gR 3 rfl ?_))))))
 exact Qk <| Qc rfl rfl rfl (.inr rfl)
def mcv105:MC:=(.seq (.reg [oN 2 (.mv (.c (.str (Qm [])))) []] false) (.seq (.reg [oN 3 (.mv (.c (.int .i64 17))) []] false) (.seq (.reg [oN 4 (.mv (.c (.int .i64 29))) []] false) (.seq (.seq (.reg [oN 5 (.mv (.c (.int .i64 0))) []] false) (.block 0 (.loop (.seq (.seq (.reg [oM 6 5 [],oM 7 0 [],oN 8 (.slen (.t 7)) [1],oN 9 (.bin .lss (.t 6) (.t 8)) [0,2]] false) (.cond (.t 9) .skip (.exit 0))) (.seq (.block 1 (.seq (.reg [oM 12 3 [],oN 13 (.bin .mul (.c (.int .i64 48271)) (.t 12)) [0],oM 14 0 [],oM 15 5 [],oN 16 (.sidx (.t 14) (.t 15)) [2,3],oN 17 (.cvt .i64 (.t 16)) [4],oN 18 (.bin .add (.t 13) (.t 17)) [1,5],oN 19 (.bin .add (.t 18) (.c (.int .i64 1))) [6],oN 20 (.bin .rem (.t 19) (.c (.int .i64 2147483629))) [7],oM 3 20 [8,0,1,2,3,4,5,6,7,8]] false) (.reg [oM 21 4 [],oN 22 (.bin .mul (.c (.int .i64 69621)) (.t 21)) [0],oM 23 0 [],oM 24 5 [],oN 25 (.sidx (.t 23) (.t 24)) [2,3],oN 26 (.cvt .i64 (.t 25)) [4],oN 27 (.bin .add (.t 22) (.t 26)) [1,5],oN 28 (.bin .add (.t 27) (.c (.int .i64 1))) [6],oN 29 (.bin .rem (.t 28) (.c (.int .i64 2147483587))) [7],oM 4 29 [8,0,1,2,3,4,5,6,7,8]] false))) (.reg [oM 10 5 [],oN 11 (.bin .add (.t 10) (.c (.int .i64 1))) [0],oM 5 11 [1,0,1]] false)))))) (.seq (.reg [oM 30 3 [],oN 31 (.call 145 [(.t 30)]) [0],oM 32 4 [],oN 33 (.call 145 [(.t 32)]) [2,1],oN 34 (.scat (.t 31) (.t 33)) [1,3],oM 2 34 [4,3,0,1,2,3,4]] false) .ret)))))
theorem mcOkv105:okM Tryz.prog Tryz.f105 35=some mcv105:=by kernel_rfl
theorem vc105 (l:List Int) (h8:B8 l) (hl:l.length<=4611686018427387904):FC Tryz.prog 105 [.str (Qm l)] [] (.str (Qm (digB l))) [] false:=by
 refine Qj (nt:=35) Tryz.func105 rfl rfl mcOkv105 (nL rfl) ?_
 delta mcv105
 refine gA 18 rfl ?_
 refine Qr (α:=Nat) (fun k=>l.length-k) (fun k=>[(0,.str (Qm l)),(3,iv (Ue (l.take (k))).1),(4,iv (Ue (l.take (k))).2),(5,iv (((k):Nat):Int))]) (fun k=>[]) (fun k=>k<=l.length) 0 (by omega)
  (Qa (.cs (.cons rfl (Ua rfl rfl) (.cons rfl (Ua rfl rfl) (.cs (.nil))))) (.nil) (fun i h=>by cases h)) ?_
 intro k hk
 refine gT 5 rfl (rs_slen rfl rfl (gR 2 rfl (Qe rfl (fun h9=>?_) (fun h9=>?_))))
 ·replace h9:=of_decide_eq_true h9
  refine gK 5 rfl ?_
  obtain ⟨b,hb,hbm⟩:=Qo (L:=l) (k:=k) (by omega)
  have hb8:=h8 b hbm
  have hbd:=dfold_bd (l.take k)
  have hst:=dfold_app (l.take k) b
  rw [← Qv hb] at hst
  generalize Ue (l.take k)=s at hbd hst ⊢
  obtain ⟨x,y⟩:=s
  dsimp only at hbd hst ⊢
  refine gI 1 rfl (QA (c:=48271*x) rfl rfl rfl (by rw [IntKind.wrap_i64]; omega) (gR 2 rfl (rs_sidx (y:=b) rfl rfl rfl (by omega) (by simpa using hb) hb8 (gR 0 rfl (QY (m:=b) rfl rfl (by rw [IntKind.wrap_i64]; omega) (gR 0 rfl (Qg rfl rfl rfl (by omega) (gR 0 rfl (Qg rfl rfl rfl (by omega) (gR 0 rfl (XO (c:=(48271*x+b+1) % 2147483629) rfl rfl rfl (by decide) (Int.tmod_eq_emod_of_nonneg (by omega)) ?_)))))))))))
  refine gR 4 rfl (QA (c:=69621*y) rfl rfl rfl (by rw [IntKind.wrap_i64]; omega) (gR 2 rfl (rs_sidx (y:=b) rfl rfl rfl (by omega) (by simpa using hb) hb8 (gR 0 rfl (QY (m:=b) rfl rfl (by rw [IntKind.wrap_i64]; omega) (gR 0 rfl (Qg rfl rfl rfl (by omega) (gR 0 rfl (Qg rfl rfl rfl (by omega) (gR 0 rfl (XO (c:=(69621*y+b+1) % 2147483587) rfl rfl rfl (by decide) (Int.tmod_eq_emod_of_nonneg (by omega)) ?_)))))))))))
  refine gR 4 rfl (Qg rfl rfl rfl (by omega) (gR 2 rfl ?_))
  exact Q8 <| ⟨k+1,by omega,by omega,Qa (.cs (.cons rfl (Ua (by rw [hst]; rfl) rfl) (.cons rfl (Ua (by rw [hst]; rfl) rfl) (.cs (.nil))))) (.nil) (fun i h=>by cases h)⟩
 ·replace h9:=of_decide_eq_false h9
  refine gK 2 rfl ?_
  obtain rfl:k=l.length:=by omega
  rw [List.take_length]
  refine gI 2 rfl (cN rfl rfl (vc145 (Ue l).1) (gR 1 rfl (cN rfl rfl (vc145 (Ue l).2) (gR 0 rfl (J3 (c:=digB l) rfl rfl rfl (show 4+4<=_ by decide) rfl (gR 3 rfl ?_))))))
  exact Qk <| Qc rfl rfl rfl (.inr rfl)
def mcv59:MC:=(.seq (.reg [oN 4 (.mv (.c (.str (Qm [])))) []] false) (.seq (.reg [oM 5 0 [],oN 6 (.slen (.t 5)) [0],oN 7 (.call 106 [(.t 6)]) [1],oN 8 (.scat (.c (.str (Qm [5]))) (.t 7)) [2],oM 9 0 [],oN 10 (.scat (.t 8) (.t 9)) [3,4],oM 11 1 [],oN 12 (.slen (.t 11)) [6],oN 13 (.call 106 [(.t 12)]) [7,2],oN 14 (.scat (.t 10) (.t 13)) [5,8],oM 15 1 [],oN 16 (.scat (.t 14) (.t 15)) [9,10],oM 17 0 [],oN 18 (.scat (.t 16) (.t 17)) [11,12],oN 19 (.call 105 [(.t 18)]) [13,8],oM 4 19 [14,14,0,1,2,3,4,5,6,7,8,9,10,11,12,13,14]] false) .ret))
theorem mcOkv59:okM Tryz.prog Tryz.f59 20=some mcv59:=by kernel_rfl
theorem vc59 (k m:List Int) (hk:B8 k/\k.length<=LIM) (hm:B8 m/\m.length<=LIM):FC Tryz.prog 59 [.str (Qm k),.str (Qm m)] [] (.str (Qm (Xn k m))) [] false:=by
 have hkl:=hk.2
 have hml:=hm.2
 simp only [LIM] at hkl hml
 have h5:B8 [5]:=b8_c
 have hl1:=len4_8 (k.length:Int)
 have hl2:=len4_8 (m.length:Int)
 have hq:B8 (([5]++Jd (k.length:Int)++k++Jd (m.length:Int)++m++k)):=b8_app (b8_app (b8_app (b8_app (b8_app h5 hl1) hk.1) hl2) hm.1) hk.1
 have hz1:(Jd (k.length:Int)).length=4:=rfl
 have hz2:(Jd (m.length:Int)).length=4:=rfl
 have he:Xn k m=digB ([5]++Jd (k.length:Int)++k++Jd (m.length:Int)++m++k):=by simp [Xn]
 refine Qj (nt:=20) Tryz.func59 rfl rfl mcOkv59 (nL rfl) ?_
 delta mcv59
 refine gA 7 rfl (rs_slen rfl rfl (gR 0 rfl (cN rfl rfl (vc106 (k.length:Int)) (gR 0 rfl (J3 (c:=[5]++Jd (k.length:Int)) rfl rfl rfl (by simp only [List.length_append,List.length_cons,List.length_nil,hz1,hz2]; omega) rfl (gR 1 rfl (J3 (c:=[5]++Jd (k.length:Int)++k) rfl rfl rfl (by simp only [List.length_append,List.length_cons,List.length_nil,hz1,hz2]; omega) rfl (gR 1 rfl (rs_slen rfl rfl (gR 0 rfl (cN rfl rfl (vc106 (m.length:Int)) ?_)))))))))))
 refine gR 0 rfl (J3 (c:=[5]++Jd (k.length:Int)++k++Jd (m.length:Int)) rfl rfl rfl (by simp only [List.length_append,List.length_cons,List.length_nil,hz1,hz2]; omega) rfl (gR 1 rfl (J3 (c:=[5]++Jd (k.length:Int)++k++Jd (m.length:Int)++m) rfl rfl rfl (by simp only [List.length_append,List.length_cons,List.length_nil,hz1,hz2]; omega) rfl (gR 1 rfl (J3 (c:=[5]++Jd (k.length:Int)++k++Jd (m.length:Int)++m++k) rfl rfl rfl (by simp only [List.length_append,List.length_cons,List.length_nil,hz1,hz2]; omega) rfl (gR 0 rfl (cN rfl rfl (vc105 ([5]++Jd (k.length:Int)++k++Jd (m.length:Int)++m++k) hq (by simp only [List.length_append,List.length_cons,List.length_nil,hz1,hz2]; omega)) (gR 3 rfl ?_))))))))
 rw [he]
 exact Qk <| Qc rfl rfl rfl (.inr rfl)
end Go.Proofs.YthfhaoogcpfboaaGreat
namespace Go.Proofs.YthfhaoogcpfboaaGreat
open Go.RowKit
set_option maxRecDepth 100000
set_option linter.unusedVariables false
open Go.Shelf
def renB:Go.Shelf.Ren:={ f:=fun n=>if n=166 then 179 else if n=240 then 206 else if n=276 then 218 else if n=169 then 180 else n,t:=fun n=>if n=72 then 202 else if n=70 then 200 else if n=37 then 116 else if n=127 then 226 else if n=164 then 233 else if n=75 then 204 else if n=80 then 79 else n,g:=fun n=>n }
theorem laysW:Lays.n166 Tryz.prog renB:=by
 constructor
 all_goals first | kernel_rfl | (intro _; kernel_rfl)
theorem laysS:Lays.n169 Tryz.prog renB:=by
 constructor
 all_goals first | kernel_rfl | (intro _; kernel_rfl)
theorem laysX:Builder.Extra Tryz.prog renB:=by
 constructor
 ·constructor <;> kernel_rfl
 all_goals first | kernel_rfl | (intro _; kernel_rfl) | decide
theorem calls61 (n:Int) (hn:I64 n) (w:World):Calls Tryz.prog 61 #[.int .i64 n] w fun e w'=>e = .returned (.string (Qm (XK n)))/\Below w.heap.size w w':=by
 refine (vc61 n hn w (fun _=>False) (fun _=>none) #[.int .i64 n] ⟨fun b h=>h.elim,fun _ _=>rfl,⟨fun i o _ ho=>by simp [get] at ho,fun i j oi oj b z z' c c' _ _ _ hi=>by simp [get] at hi⟩⟩
  ⟨rfl,fun j v hj=>?_⟩).mono ?_
 ·cases j with
  | zero=>simp at hj; subst hj; exact .cl (.int _ _)
  | succ j=>simp at hj
 ·rintro e w' ⟨cv,S',ρ',rfl,hv,_,hk,_⟩
  have:=hv.str_inv'
  subst this
  exact ⟨rfl,hk.os,hk.tape,hk.output,hk.size,fun k hk2=>hk.block k hk2 fun ⟨i,ob,z,cap,_,h1,_⟩=>by simp [get] at h1⟩
def bsV (l:List Int) (k:Nat):List Int:=XK (l.length:Int)++((l.take k).map XK).flatten
theorem strCells_strN (l:List Int):Lib.strCells (Qm l)=Lib.byteCells (l.map fun n=>UInt8.ofNat n.toNat):=by simp [Lib.strCells,Lib.byteCells,Qm]
def bcV (l:List Int):List Value:=Lib.byteCells (l.map fun n=>UInt8.ofNat n.toNat)
theorem bcV_app (a b:List Int):bcV (a++b)=bcV a++bcV b:=by simp [bcV,Lib.byteCells]
theorem bcV_len (l:List Int):(bcV l).length=l.length:=by simp [bcV,Lib.byteCells]
theorem write179 (B b:Nat) (p s:List Int) (w:World) (h:Lib.IsBuilder 202 5 B b (bcV p) w) (hl:p.length+s.length<=140737488355328) (hBw:B<=w.heap.size) :
  Calls Tryz.prog 179 #[.pointer (some ⟨b,0,none⟩),.string (Qm s)] w fun e w'=>e = .returned (.tuple #[.int .i64 s.length,.nilIface])/\Lib.IsBuilder 202 5 B b (bcV (p++s)) w'/\Below B w w':=by
 refine (Any.Builder_WriteString laysW laysX B b (bcV p) (Qm s) w h (by rw [bcV_len,strN_size]; exact hl) hBw).mono ?_
 rintro e w' ⟨rfl,h1,h2⟩
 refine ⟨by rw [strN_size],.inr ?_,h2⟩
 rw [strCells_strN] at h1
 rw [bcV_app]; exact h1
theorem str180 (B b:Nat) (p:List Int) (w:World) (h:Lib.IsBuilder 202 5 B b (bcV p) w) (hBw:B<=w.heap.size) :
  Calls Tryz.prog 180 #[.pointer (some ⟨b,0,none⟩)] w fun e w'=>e = .returned (.string (Qm p))/\Below B w w':=by
 refine (Any.Builder_String_any laysS laysX B b _ w h hBw).mono ?_
 rintro e w' ⟨rfl,h2⟩
 exact ⟨rfl,h2⟩
theorem bsV_len (l:List Int) (k:Nat):(bsV l k).length<=10+10*k:=by
 have h1:=Xv (l.length:Int)
 have h2:=vflat_len (l.take k)
 have h3:(l.take k).length<=k:=List.length_take_le _ _
 simp only [bsV,List.length_append]; omega
theorem bsV_succ {l:List Int} {k:Nat} {x:Int} (h:l[k]?=some x):bsV l (k+1)=bsV l k++XK x:=by
 unfold bsV; rw [vflat_succ h,List.append_assoc]
theorem bsV_all (l:List Int):bsV l l.length=vints l:=by unfold bsV vints; rw [List.take_length]
theorem isB_below {T e:TypeId} {B b:Nat} {bs:List Value} {w w':World} (h:Lib.IsBuilder T e B b bs w) (hb:Below w.heap.size w w'):Lib.IsBuilder T e B b bs w':=by
 have key:∀ p,Lib.BuilderAt T e B b p bs w->Lib.BuilderAt T e B b p bs w':=fun p ⟨h1,v,h2,h3,h4⟩=>by
  have lt:∀ {k:Nat} {o:Obj},w.heap[k]?=some o->k<w.heap.size:=fun {k o} h=>by
   rcases Nat.lt_or_ge k w.heap.size with h' | h'
   ·exact h'
   ·simp [Array.getElem?_eq_none h'] at h
  refine ⟨h1,v,(hb.block b (lt h2)).trans h2,⟨h3.1,?_⟩,h4⟩
  rcases h3.2 with h | ⟨g,cap,cur,q1,q2,q3,q4⟩
  ·exact .inl h
  ·exact .inr ⟨g,cap,cur,q1,q2,(hb.block g (lt q3)).trans q3,q4⟩
 exact h.imp (key _) (key _)
theorem raw146 (l:List Int) (hl:l.length<=1000000000) (hx:∀ x∈l,I64 x) (b off cap:Nat) (w:World) (hcell:∀ k x,l[k]?=some x->w.cell? ⟨b,off+k,none⟩=some (.int .i64 x)) (hb:b<w.heap.size) :
  Calls Tryz.prog 146 #[.slice (some ⟨b,off,none⟩) l.length cap,.func (.func 61) #[] #[]] w fun e w'=>e = .returned (.string (Qm (vints l)))/\Below w.heap.size w w':=by
 have hlen:=Xv (l.length:Int)
 go_enter Tryz.func146,Tryz.ntmps146
 go_wp2_with (go_at_call 61; refine (calls61 _ ⟨by omega,by omega⟩ _).mono ?_)
 rintro e w1 ⟨rfl,hb1⟩
 have hB0:Lib.IsBuilder 202 5 w.heap.size w.heap.size (bcV []) w1:=by
  left
  refine ⟨Nat.le_refl _,.slice none 0 0,?_,World.ownsRow_nil _ _ _ _,by simp [Value.ownBlock]⟩
  rw [hb1.block _ (by simp)]
  exact heap_alloc_new w _
 have hsz1:=hb1.size
 have hc1:∀ k x,l[k]?=some x->w1.cell? ⟨b,off+k,none⟩=some (.int .i64 x):=fun k x hk=>by
  rw [World.cell?_of_block (w:=w) ((hb1.block b (by simp; omega)).trans (heap_alloc_old w _ hb))]; exact hcell k x hk
 go_wp2_with (go_at_call 179; refine (write179 w.heap.size w.heap.size [] (XK (l.length:Int)) _ hB0 (by simp; omega) (by simp at hsz1; omega)).mono ?_)
 rintro e w2 ⟨rfl,hB2,hb2⟩
 have hbw2:Below w.heap.size w w2:=(((Below.refl _ w).alloc (Nat.le_refl _) _).trans (hb1.mono (by simp))).trans hb2
 have hB2':Lib.IsBuilder 202 5 w.heap.size w.heap.size (bcV (bsV l 0)) w2:=by simpa [bsV] using hB2
 clear hB2 hb1 hb2 hB0 hc1 hsz1
 go_wp2
 go_loopw [14] (fun i wr=>∃ k:Nat,k<=l.length/\i = .int .i64 k/\Lib.IsBuilder 202 5 w.heap.size w.heap.size (bcV (bsV l k)) wr/\Below w.heap.size w wr) (fun i _=>l.length-(Lib.intOf i).toNat)
 case atStart=>exact ⟨0,Nat.zero_le _,rfl,hB2',hbw2⟩
 case round =>
  obtain ⟨k,hk,rfl,hBk,hbk⟩:=hrel
  by_cases hlt:k<l.length
  ·obtain ⟨x,hxk,hxm⟩:=Qo (L:=l) (k:=k) hlt
   have hxw:wr.cell? ⟨b,off+k,none⟩=some (.int .i64 x):=by
    rw [World.cell?_of_block (w:=w) (hbk.block b hb)]; exact hcell k x hxk
   have hvx:=Xv x
   have hxi:=hx x hxm
   have hbl:=bsV_len l k
   have hszr:=hbk.size
   go_wp2_with (first
    | (go_at_call 61; refine (calls61 x hxi _).mono ?_; rintro e w3 ⟨rfl,hb3⟩; have hB3:=isB_below hBk hb3; have hsz3:=hb3.size)
    | (go_at_call 179; refine (write179 w.heap.size w.heap.size (bsV l k) (XK x) _ hB3 (by omega) (by omega)).mono ?_; rintro e w4 ⟨rfl,hB4,hb4⟩))
   go_roundw
   case rel=>exact ⟨k+1,by omega,by go_num,by rw [bsV_succ hxk]; exact hB4,(hbk.trans (hb3.mono hszr)).trans hb4⟩
   case measure=>simp [Lib.intOf]; omega
  ·have hszr:=hbk.size
   have hfin:Hid (bsV l k=vints l):=by
    rw [show k=l.length by omega]; exact bsV_all l
   go_wp2_with (go_at_call 180; refine (str180 w.heap.size w.heap.size (bsV l k) _ hBk (by omega)).mono ?_; rintro e w4 ⟨rfl,hb4⟩)
   go_ret
   exact ⟨by rw [show bsV l k=vints l from hfin]; rfl,hbk.trans hb4⟩
theorem fc_of_callsS {P:Program} {f:FuncId} {args:List AV} {r:AV} {c:Value} (hr:∀ w S,CR w S r c) (h:∀ (w:World) (S:Nat->Prop) (ρ:Rho) (cargs:Array Value),(∀ b,S b->b<w.heap.size)->VRs w S ρ args cargs->Calls P f cargs w fun e w'=>e = .returned c/\Below w.heap.size w w'):FC P f args [] r [] false:=fun w S ρ cargs hH hv =>
 (h w S ρ cargs hH.hS hv).mono fun e w' ⟨he,hb⟩=>⟨c,fun _=>False,fun _=>none,he,.cl (hr _ _),⟨fun b hb=>hb.elim,fun _ _=>rfl,⟨fun i o _ ho=>by simp [get] at ho,fun i j oi oj b z z' c c' _ _ _ hi=>by simp [get] at hi⟩⟩,
  ⟨hb.os,hb.tape,hb.output,hb.size,fun k hk _=>hb.block k hk⟩,fun b hb=>hb.elim,fun b ⟨i,ob,z,cap,_,h1,_⟩=>by simp [get] at h1,fun i hi=>absurd rfl hi,fun i hi=>absurd rfl hi⟩
theorem vc146 (l:List Int) (hl:l.length<=1000000000) (hx:∀ x∈l,I64 x) (h0:l≠[]):FC Tryz.prog 146 [.rs 1 (l.map civ),.fn (.func 61) []] [] (.str (Qm (vints l))) [] false :=
 fc_of_callsS (c:=.string (Qm (vints l))) (fun _ _=>.str _) fun w S ρ cargs hS hv=>by
  obtain ⟨L⟩:=cargs
  have h1:=hv.1
  have hv0:=hv.2 0 _ rfl
  have hv1:=hv.2 1 _ rfl
  match L,h1,hv0,hv1 with
  | [x,y],_,hv0,hv1 =>
   replace hv0:VR w S ρ (.rs 1 (l.map civ)) x:=hv0
   replace hv1:VR w S ρ (.fn (.func 61) []) y:=hv1
   obtain ⟨C,rfl,hC,_⟩:=hv1.fn_inv
   obtain rfl:C = #[]:=Array.eq_empty_of_size_eq_zero hC
   rcases hv0.rs_inv with ⟨h,_⟩ | ⟨b,off,cap,cf,rfl,hb,_,q1,q2⟩
   ·exact absurd (List.map_eq_nil_iff.1 h) h0
   ·rw [List.length_map]
    refine raw146 l hl hx b off cap w (fun k n hk=>?_) (hS b hb)
    have e:(l.map civ)[k]?=some [.int .i64 n]:=by rw [List.getElem?_map,hk]; rfl
    have h2:=q1 k _ 0 _ e rfl
    have h3:=q2 k _ 0 _ e rfl
    generalize cf k 0=c at h2 h3
    cases h3
    rw [Nat.mul_one,Nat.add_zero] at h2
    exact h2.1
def fI (x:Lf):Nat->List Int
 | 0=>[x.ix,x.want,0,0]
 | 1=>[x.ix,x.want,flg x.sure,0]
 | _=>[x.ix,x.want,flg x.sure,flg x.touched]
theorem fI_len (x:Lf) (k:Nat):(fI x k).length=4:=by unfold fI; split <;> rfl
def mcv110:MC:=(.seq (.reg [oN 2 (.mv (.c (.str (Qm [])))) []] false) (.seq (.reg [oM 3 0 [],oN 4 (.call 146 [(.t 3),(.c (.fn (.func 61) []))]) [0],oM 2 4 [1,1,0,1]] false) .ret))
theorem mcOkv110:okM Tryz.prog Tryz.f110 5=some mcv110:=by kernel_rfl
theorem vc110 (l:List Int) (hl:l.length<=1000000000) (hx:∀ x∈l,I64 x) (h0:l≠[]):FC Tryz.prog 110 [.rs 1 (l.map civ)] [] (.str (Qm (vints l))) [] false:=by
 refine Qj (nt:=5) Tryz.func110 rfl rfl mcOkv110 (nL rfl) ?_
 delta mcv110
 refine gA 7 rfl (cN rfl rfl (vc146 l hl hx h0) (gR 3 rfl ?_))
 exact Qk <| Qc rfl rfl rfl (.inr rfl)
def mcv62:MC:=(.seq (.reg [oN 1 (.box 51 5 (.t 0)) [],oN 2 (.mv (.c (.str (Qm [])))) []] false) (.seq (.reg [oA 6 0 1 [],oD 7 1 6 [0],oA 8 1 1 [],oD 9 1 8 [2],oN 10 (.bslice 3 1 [(.int .i64 0)] 4 [(0,(.t 7)),(1,(.t 9)),(2,(.c (.int .i64 0))),(3,(.c (.int .i64 0)))]) [1,3],oM 3 10 [4,0,1,2,3,4]] false) (.seq (.seq (.reg [oA 11 2 1 [],oD 12 1 11 [0],oA 13 3 1 [],oD 14 1 13 [2],oN 15 (.bslice 4 1 [(.bool false)] 2 [(0,(.t 12)),(1,(.t 14))]) [1,3],oN 16 (.len (.t 15)) [4],oN 17 (.mv (.c (.int .i64 0))) []] false) (.block 0 (.loop (.seq (.reg [oN 18 (.bin .lss (.t 17) (.t 16)) []] false) (.seq (.cond (.t 18) .skip (.exit 0)) (.seq (.block 1 (.seq (.reg [oM 19 17 [],oN 20 (.ixsl 1 (.t 15) (.t 17)) [],oD 21 1 20 [1],oM 4 19 [0,0,1,2],oM 5 21 [2,3,0,1,2,3]] false) (.seq (.reg [oM 22 5 []] false) (.cond (.t 22) (.reg [oM 23 3 [],oM 24 4 [],oN 25 (.bin .add (.c (.int .i64 2)) (.t 24)) [1],oN 26 (.ixsl 1 (.t 23) (.t 25)) [0,2,0,1,2],⟨none,(.st 1 (.t 26) (.c (.int .i64 1))),none,[3,0,1,2]⟩] false) .skip)))) (.reg [oN 27 (.bin .add (.t 17) (.c (.int .i64 1))) [],oM 17 27 [0]] false))))))) (.seq (.reg [oM 28 3 [],oN 29 (.call 110 [(.t 28)]) [0],oA 30 4 1 [],oD 31 1 30 [2],oN 32 (.call 111 [(.t 31)]) [3,1],oN 33 (.scat (.t 29) (.t 32)) [1,4],oM 2 33 [5,4,0,1,2,3,4,5]] true) .ret))))
theorem mcOkv62:okM Tryz.prog Tryz.f62 34=some mcv62:=by kernel_rfl
theorem vc62 (x:Lf) (hx:x.OK):FC Tryz.prog 62 [.agg (cLf x)] [] (.str (Qm (XN x))) [] false:=by
 have hfx:∀ y∈fI x 2,I64 y:=by
  intro y hy
  have h1:=flg_bd x.sure
  have h2:=flg_bd x.touched
  simp only [fI,List.mem_cons,List.not_mem_nil,or_false] at hy
  rcases hy with rfl | rfl | rfl | rfl
  ·exact hx.i
  ·exact hx.w
  ·exact ⟨by omega,by omega⟩
  ·exact ⟨by omega,by omega⟩
 refine Qj (nt:=34) Tryz.func62 rfl rfl mcOkv62 (nL rfl) ?_
 delta mcv62
 refine gA 11 rfl (Qi (l:=(([x.ix,x.want,0,0]:List Int)).flatMap civ) (els:=(([x.ix,x.want,0,0]:List Int)).map civ) (fl:=true) rfl (by kernel_rfl) rfl rfl (by kernel_rfl) (by kernel_rfl) (gR 9 rfl (Qi (l:=(([x.sure,x.touched]:List Bool)).flatMap (fun b=>[AV.bool b])) (els:=(([x.sure,x.touched]:List Bool)).map (fun b=>[AV.bool b])) (fl:=true) rfl (by kernel_rfl) rfl rfl (by kernel_rfl) (by kernel_rfl) (gR 0 rfl (Xi rfl rfl (gR 3 rfl ?_))))))
 refine Qr (α:=Nat) (fun k=>2-k) (fun k=>[(1,.ptr 1 0 0),(3,.sl 10 0 4),(15,.sl 15 0 2),(16,iv 2),(17,iv (((k):Nat):Int))]) (fun k=>[(1,.cells 51 5 [cLf x] true),(10,.cells 3 1 ((fI x (k)).map civ) true),(15,.cells 4 1 [[.bool x.sure],[.bool x.touched]] true)]) (fun k=>k<=2) 0 (by omega)
  (Qa (Qb rfl rfl) (.keep (rfl) rfl (.keep (rfl) rfl (.keep (rfl) rfl (.nil)))) (fun i h=>by cases h)) ?_
 intro k hk
 refine gT 5 rfl (Qe rfl (fun h18=>?_) (fun h18=>?_))
 ·replace h18:=of_decide_eq_true h18
  refine gK 5 rfl ?_
  obtain rfl | rfl:k=0\/k=1:=by omega
  ·skip
   refine gI 1 rfl (XS rfl rfl rfl rfl (by decide) (by decide) (gR 8 rfl (Qe rfl (fun h22=>?_) (fun h22=>?_))))
   ·skip
    refine gK 3 rfl (Qg rfl rfl rfl (by omega) (gR 0 rfl (XS rfl rfl rfl rfl (by decide) (by decide) (gR 3 rfl (Qg rfl rfl rfl (by omega) (gR 2 rfl ?_))))))
    exact Q8 <| ⟨0+1,by omega,by omega,Qa (Qb rfl rfl) (.keep (rfl) rfl (.keep (by simp only [fI,show flg x.sure=1 by rw [h22]; rfl]; rfl) rfl (.keep (rfl) rfl (.nil)))) (fun i h=>by cases h)⟩
   ·skip
    refine gK 2 rfl (Qg rfl rfl rfl (by omega) (gR 2 rfl ?_))
    exact Q8 <| ⟨0+1,by omega,by omega,Qa (Qb rfl rfl) (.keep (rfl) rfl (.keep (by simp only [fI,show flg x.sure=0 by rw [h22]; rfl]; rfl) rfl (.keep (rfl) rfl (.nil)))) (fun i h=>by cases h)⟩
  ·skip
   refine gI 1 rfl (XS rfl rfl rfl rfl (by decide) (by decide) (gR 8 rfl (Qe rfl (fun h22=>?_) (fun h22=>?_))))
   ·skip
    refine gK 3 rfl (Qg rfl rfl rfl (by omega) (gR 0 rfl (XS rfl rfl rfl rfl (by decide) (by decide) (gR 3 rfl (Qg rfl rfl rfl (by omega) (gR 2 rfl ?_))))))
    exact Q8 <| ⟨1+1,by omega,by omega,Qa (Qb rfl rfl) (.keep (rfl) rfl (.keep (by simp only [fI,show flg x.touched=1 by rw [h22]; rfl]; rfl) rfl (.keep (rfl) rfl (.nil)))) (fun i h=>by cases h)⟩
   ·skip
    refine gK 2 rfl (Qg rfl rfl rfl (by omega) (gR 2 rfl ?_))
    exact Q8 <| ⟨1+1,by omega,by omega,Qa (Qb rfl rfl) (.keep (rfl) rfl (.keep (by simp only [fI,show flg x.touched=0 by rw [h22]; rfl]; rfl) rfl (.keep (rfl) rfl (.nil)))) (fun i h=>by cases h)⟩
 ·replace h18:=of_decide_eq_false h18
  refine gK 2 rfl ?_
  obtain rfl:k=2:=by omega
  refine gI 2 rfl (Qx [10] rfl rfl (vc110 (fI x 2) (by rw [fI_len]; decide) hfx (by simp [fI])) (.cons (QL (f:=civ) (xs:=fI x 2) (by simp) rfl rfl) (.nil)) rfl (gR 2 rfl (cN rfl rfl (vc111 x.salt (Nat.le_trans hx.n (by decide))) (gR 0 rfl (J3 (c:=XN x) rfl rfl rfl (by have h1:=vints_len (fI x 2); have h2:=Xv (x.salt.length:Int); have h3:=hx.n; rw [fI_len] at h1; simp only [vtext,List.length_append]; omega) rfl (gR 1 rfl (QJ (by kernel_rfl) (gP 1 rfl ?_))))))))
  exact Qk <| Qc rfl rfl rfl (.inr rfl)
end Go.Proofs.YthfhaoogcpfboaaGreat
namespace Go.Proofs.YthfhaoogcpfboaaGreat
open Go.RowKit
set_option maxRecDepth 100000
set_option linter.unusedVariables false
theorem XL {P:Program} {F:Fr} {H H':Hp} {Z:List Nat} {rs:List ResultVar} {r:AV} {vs:List AV} {e:Exit} (he:e = .normal\/e = .ret) (h:resVs P F H rs=some vs) (hr:RC H H' true (resOne vs) r) (hk:KeptHs H (Qf H') H') (hz:ZL H H' Z):RetQ P Z rs r H' true e F H :=
 ⟨he,vs,h,hr,hk.keptH,hz.at_⟩
abbrev cD (d:List Int):List AV:=d.map (AV.int .u8 ·)
theorem closedD (d:List Int):QD (cD d)=true:=by
 induction d with
 | nil=>rfl
 | cons a d ih=>simp only [cD,List.map_cons,QD,Xt,Bool.true_and] at ih ⊢; exact ih
theorem noROLD (d:List Int):noROL (cD d)=true:=by
 induction d with
 | nil=>rfl
 | cons a d ih=>simp only [cD,List.map_cons,noROL,noRO,Bool.true_and] at ih ⊢; exact ih
theorem setAt_mid:∀ (x pre suf:List AV),x.length=suf.length->Jr (pre++suf) pre.length x=pre++x
 | [],pre,suf,h=>by
  obtain rfl:=List.eq_nil_of_length_eq_zero h.symm
  simp [Jr]
 | c::x,pre,suf,h=>by
  obtain ⟨s,suf,rfl⟩:∃ s l,suf=s::l:=by cases suf with | nil=>simp at h | cons s l=>exact ⟨s,l,rfl⟩
  unfold Jr
  have e:(pre++s::suf).set pre.length c=(pre++[c])++suf:=by simp
  rw [e]
  have:=setAt_mid x (pre++[c]) suf (by simpa using h)
  simp only [List.length_append,List.length_cons,List.length_nil] at this
  rw [this]; simp
theorem setAt_all (d x:List AV) (h:x.length=d.length):Jr d 0 x=x:=setAt_mid x [] d h
def Z8:List Int:=List.replicate 8 0
def lg (n:Nat):Nat:=if n<=1 then 0 else if n<=2 then 1 else if n<=4 then 2 else if n<=8 then 3 else if n<=16 then 4 else if n<=32 then 5 else 6
def padS (ps:List (List Int)) (j:Nat):List (List Int):=ps.map leafS++List.replicate j missS
def pr (lv:List (List Int)) (i:Nat):List Int:=JM (lv.getD (2*i) []) (lv.getD (2*i+1) [])
def upS (lv:List (List Int)):List (List Int):=(List.range (lv.length / 2)).map (pr lv)
def rootL:Nat->List (List Int)->List Int
 | 0,lv=>lv.getD 0 []
 | j+1,lv=>rootL j (upS lv)
def rootS (ps:List (List Int)):List Int:=rootL (lg ps.length) (padS ps (2^lg ps.length-ps.length))
structure LvOK (j:Nat) (lv:List (List Int)):Prop where
 len:lv.length=2^j
 ok:∀ d∈lv,B8 d/\d.length=8
theorem Jh (l:List Int):B8 (digB l)/\(digB l).length=8:=⟨digB_8 l,rfl⟩
theorem lg_fit (n:Nat) (h:n<=64):n<=2^lg n/\2^lg n<=64:=by
 have:∀ n:Fin 65,n.val<=2^lg n.val/\2^lg n.val<=64:=by decide
 exact this ⟨n,by omega⟩
theorem pad_go:∀ n:Fin 65,∀ m:Fin 65,n.val<=m.val->m.val<=2^lg n.val->(m.val=0\/bits .and .i64 (m.val:Int) ((m.val:Int)-1)≠0)->m.val<2^lg n.val:=by decide +kernel
theorem pad_stop:∀ n:Fin 65,∀ m:Fin 65,n.val<=m.val->m.val<=2^lg n.val->m.val≠0->bits .and .i64 (m.val:Int) ((m.val:Int)-1)=0->m.val=2^lg n.val:=by decide +kernel
theorem padS_len (ps:List (List Int)) (j:Nat):(padS ps j).length=ps.length+j:=by simp [padS]
theorem padS_succ (ps:List (List Int)) (j:Nat):padS ps (j+1)=padS ps j++[missS]:=by unfold padS; rw [List.replicate_succ',List.append_assoc]
theorem padS_ok (ps:List (List Int)) (h:ps.length<=64):LvOK (lg ps.length) (padS ps (2^lg ps.length-ps.length)):=by
 refine ⟨by rw [padS_len]; have:=lg_fit _ h; omega,fun d hd=>?_⟩
 rcases List.mem_append.1 hd with hd | hd
 ·obtain ⟨p,_,rfl⟩:=List.mem_map.1 hd; exact Jh _
 ·rw [(List.mem_replicate.1 hd).2]; exact Jh _
theorem upS_len (lv:List (List Int)):(upS lv).length=lv.length / 2:=by simp [upS]
theorem LvOK.up {j:Nat} {lv:List (List Int)} (h:LvOK (j+1) lv):LvOK j (upS lv):=by
 refine ⟨by rw [upS_len,h.len,Nat.pow_succ]; omega,fun d hd=>?_⟩
 obtain ⟨p,_,rfl⟩:=List.mem_map.1 hd
 exact Jh _
def upR (lv:List (List Int)) (m k:Nat):List (List Int):=(List.range m).map fun i=>if i<k then pr lv i else Z8
theorem upR_len (lv:List (List Int)) (m k:Nat):(upR lv m k).length=m:=by simp [upR]
theorem upR_0 (lv:List (List Int)) (m:Nat):List.replicate m (cD Z8)=(upR lv m 0).map cD:=by
 apply List.ext_getElem?
 intro i
 simp [upR,List.getElem?_replicate,List.getElem?_map,List.getElem?_range]
 split <;> rename_i h <;> simp [h]
theorem upR_set (lv:List (List Int)) {m k:Nat} (h:k<m):(upR lv m k).set k (pr lv k)=upR lv m (k+1):=by
 apply List.ext_getElem?
 intro i
 rw [List.getElem?_set]
 simp only [upR,List.length_map,List.length_range,List.getElem?_map]
 by_cases hi:k=i
 ·subst hi; simp [h]
 ·rw [if_neg hi]
  by_cases him:i<m
  ·rw [List.getElem?_range him]
   simp only [Option.map_some]
   congr 1
   by_cases h1:i<k
   ·rw [if_pos h1,if_pos (by omega)]
   ·rw [if_neg h1,if_neg (by omega)]
  ·simp [him]
theorem upR_all (lv:List (List Int)) (m:Nat) (h:lv.length / 2=m):upR lv m m=upS lv:=by
 unfold upR upS
 rw [h]
 refine List.map_congr_left fun i hi=>?_
 rw [if_pos (List.mem_range.1 hi)]
theorem getD_at {lv:List (List Int)} {i:Nat} {a:List Int} (h:lv[i]?=some a):lv.getD i []=a:=by rw [List.getD_eq_getElem?_getD,h]; rfl
theorem pr_at {lv:List (List Int)} {i:Nat} {a b:List Int} (ha:lv[2*i]?=some a) (hb:lv[2*i+1]?=some b):pr lv i=JM a b:=by unfold pr; rw [getD_at ha,getD_at hb]
theorem el1 (d:List Int):(d.map fun n=>[AV.int .u8 n])=(d.map (AV.int .u8 ·)).map fun c=>[c]:=by simp
def as63:MC:=(.reg [oM 4 7 []] false)
def bd63:MC:=(.block 1 (.reg [oM 8 4 [],oN 9 (.ixsl 8 (.t 8) (.c (.int .i64 0))) [0],oN 10 (.ld true 8 (.t 9)) [1],⟨none,(.st 8 (.t 3) (.t 10)),none,[2,0,1,2]⟩] false))
theorem as63w (ps lv:List (List Int)) (x d:List Int) (hx:lv[0]?=some x) (hx8:x.length=8) (hd8:d.length=8) (o:Loop) (lb:Nat):AW Tryz.prog 13 [900,3] (some lb) as63 (fun e F' H'=>e = .normal/\Weak 13 [900,3] F' H' [(4,.rs 8 (lv.map cD)),(3,.ptr 3 0 0)] [(900,.lp o [(6,(.fn (.func 147) [.rp [.rs 1 (ps.map cS)]])),(3,.ptr 3 0 0)]),(3,.cells 130 8 [cD d] true)]) [(7,.rs 8 (lv.map cD)),(6,(.fn (.func 147) [.rp [.rs 1 (ps.map cS)]])),(3,.ptr 3 0 0)] [(900,.lp o [(6,(.fn (.func 147) [.rp [.rs 1 (ps.map cS)]])),(3,.ptr 3 0 0)]),(3,.cells 130 8 [cD d] true)]:=by
 delta as63
 refine gA 3 rfl ?_
 exact Qk <| ⟨rfl,Qa (Qb rfl rfl) (.keep (rfl) rfl (.keep (rfl) rfl (.nil))) (fun i hi=>by simp [Qf] at hi ⊢; omega)⟩
theorem bd63w (ps lv:List (List Int)) (x d:List Int) (hx:lv[0]?=some x) (hx8:x.length=8) (hd8:d.length=8) (o:Loop) (lb:Nat):AW Tryz.prog 13 [900,3] (some lb) bd63 (fun e F' H'=>e = .normal/\Weak 13 [900,3] F' H' [] [(900,.lp o [(6,(.fn (.func 147) [.rp [.rs 1 (ps.map cS)]])),(3,.ptr 3 0 0)]),(3,.cells 130 8 [cD x] true)]) [(4,.rs 8 (lv.map cD)),(3,.ptr 3 0 0)] [(900,.lp o [(6,(.fn (.func 147) [.rp [.rs 1 (ps.map cS)]])),(3,.ptr 3 0 0)]),(3,.cells 130 8 [cD d] true)]:=by
 have e1:(cD x).take 8=cD x:=List.take_of_length_le (by simp [hx8])
 have e2:Jr (cD d) 0 (cD x)=cD x:=setAt_all _ _ (by simp [hx8,hd8])
 delta bd63
 refine gA 3 rfl (Qp (f:=cD) (y:=x) rfl rfl rfl (by decide) hx (gR 0 rfl (QG rfl rfl (by simp [hx8]) e1 (gR 0 rfl (rs_st rfl rfl rfl rfl rfl rfl (by simp [hx8]) (by simp [hd8]) (show [Jr (cD d) 0 (cD x)]=[cD x] by rw [e2]) (show (true&&QD (cD x))=true by rw [closedD]; rfl) (gR 1 rfl ?_))))))
 exact Qk <| ⟨rfl,Qa (.nil) (.keep (rfl) rfl (.keep (rfl) rfl (.nil))) (fun i hi=>by simp [Qf] at hi ⊢; omega)⟩
theorem y63 (ps lv:List (List Int)) (x d:List Int) (hx:lv[0]?=some x) (hx8:x.length=8) (hd8:d.length=8) (r0:Loop) (h:Rec0 Tryz.prog 13 [7] as63 bd63 r0) :
  FCg (XM Tryz.prog) [.yl 900,.rs 8 (lv.map cD)] [(900,.lp r0 [(6,(.fn (.func 147) [.rp [.rs 1 (ps.map cS)]])),(3,.ptr 3 0 0)]),(3,.cells 130 8 [cD d] true)] (.bool true) [(900,.lp r0 [(6,(.fn (.func 147) [.rp [.rs 1 (ps.map cS)]])),(3,.ptr 3 0 0)]),(3,.cells 130 8 [cD x] true)] true:=by
 have:=J9 (P:=Tryz.prog) (F:=[(6,(.fn (.func 147) [.rp [.rs 1 (ps.map cS)]])),(3,.ptr 3 0 0)]) (N:=13) (x:=as63) (y:=bd63) h.ca h.cb (li:=900) (ps:=[7]) (vs:=[.rs 8 (lv.map cD)]) (J:=[(3,.cells 130 8 [cD d] true)]) (J1:=[(3,.cells 130 8 [cD d] true)]) (J':=[(3,.cells 130 8 [cD x] true)]) (Fb:=[(4,.rs 8 (lv.map cD)),(3,.ptr 3 0 0)]) (Z0:=[900,3]) .normal none (.inl ⟨rfl,rfl⟩)
  rfl rfl (fun i hi=>Q7.1 hi) (by simp) (fun i h=>Q7.2 h) (fun i hi=>Q7.1 (by simp [Qf] at hi ⊢; omega)) h.state h.params rfl rfl h.size (fun t v h=>get_mem h) (fun lb o=>as63w ps lv x d hx hx8 hd8 o lb) (fun lb o=>bd63w ps lv x d hx hx8 hd8 o lb)
 rw [rec_same h.state h.pending] at this
 exact this
end Go.Proofs.YthfhaoogcpfboaaGreat
namespace Go.Proofs.YthfhaoogcpfboaaGreat
open Go.RowKit
set_option maxRecDepth 100000
set_option linter.unusedVariables false
theorem padS_0 (ps:List (List Int)):padS ps 0=(ps.take ps.length).map leafS:=by simp [padS]
theorem leaf_succ {ps:List (List Int)} {k:Nat} {p:List Int} (h:ps[k]?=some p):(ps.take (k+1)).map leafS=(ps.take k).map leafS++[leafS p]:=by rw [Qv h,List.map_append]; rfl
theorem upR_8 {lv:List (List Int)} {m k:Nat} {d:List Int} (h:d∈upR lv m k):d.length=8:=by
 obtain ⟨i,_,rfl⟩:=List.mem_map.1 h
 split
 ·exact (Jh _).2
 ·rfl
theorem mul2W {k:Nat} (h:k<=64):W (2*(k:Int))=((2*k:Nat):Int):=by rw [Xk (by omega)]; omega
theorem quo2W {n m:Nat} (h:n=2*m) (hn:n<=64):W ((n:Int).tdiv 2)=(m:Int):=by
 rw [Int.tdiv_eq_ediv_of_nonneg (by omega),Xk (by omega)]; omega
def mcv147:MC:=(.seq (.reg [oD 8 1 1 [],oN 9 (.len (.t 8)) [0],oN 10 (.mksl 130 8 8 [(.int .u8 0),(.int .u8 0),(.int .u8 0),(.int .u8 0),(.int .u8 0),(.int .u8 0),(.int .u8 0),(.int .u8 0)] (.c (.int .i64 0)) (.t 9)) [1],oM 3 10 [2,0,1,2]] false) (.seq (.seq (.reg [oD 11 1 1 [],oN 12 (.len (.t 11)) [0],oN 13 (.mv (.c (.int .i64 0))) []] false) (.block 0 (.loop (.seq (.reg [oN 14 (.bin .lss (.t 13) (.t 12)) []] false) (.seq (.cond (.t 14) .skip (.exit 0)) (.seq (.block 1 (.seq (.reg [oN 15 (.ixsl 1 (.t 11) (.t 13)) [],oD 16 1 15 [0],oM 5 16 [1,0,1]] false) (.reg [oM 17 3 [],oM 18 5 [],oN 19 (.bslice 9 1 [(.str (Qm []))] 2 [(0,(.c (.str (Qm [1])))),(1,(.t 18))]) [1],oN 20 (.call 94 [(.t 19)]) [2],oN 21 (.bslice 130 8 [(.int .u8 0),(.int .u8 0),(.int .u8 0),(.int .u8 0),(.int .u8 0),(.int .u8 0),(.int .u8 0),(.int .u8 0)] 1 [(0,(.t 20))]) [3],oN 22 (.app 130 8 8 [(.int .u8 0),(.int .u8 0),(.int .u8 0),(.int .u8 0),(.int .u8 0),(.int .u8 0),(.int .u8 0),(.int .u8 0)] (.t 17) (.t 21)) [0,4,3],oM 3 22 [5,5,0,1,2,3,4,5]] false))) (.reg [oN 23 (.bin .add (.t 13) (.c (.int .i64 1))) [],oM 13 23 [0]] false))))))) (.seq (.block 2 (.loop (.seq (.seq (.reg [oM 24 3 [],oN 25 (.len (.t 24)) [0],oN 26 (.bin .eql (.t 25) (.c (.int .i64 0))) [1],oM 27 26 [2],pM 28 3 27 false [3],oG 29 (.len (.t 28)) 27 false [4,3],pM 30 3 27 false [3],oG 31 (.len (.t 30)) 27 false [6,3],oG 32 (.bin .sub (.t 31) (.c (.int .i64 1))) 27 false [7,3],oG 33 (.bin .and (.t 29) (.t 32)) 27 false [5,8,3],oG 34 (.bin .neq (.t 33) (.c (.int .i64 0))) 27 false [9,3],oN 35 (.pick (.t 27) (.c (.bool true)) (.t 34)) [3,10]] false) (.cond (.t 35) .skip (.exit 2))) (.block 3 (.reg [oM 36 3 [],oN 37 (.bslice 9 1 [(.str (Qm []))] 1 [(0,(.c (.str (Qm [3]))))]) [],oN 38 (.call 94 [(.t 37)]) [1],oN 39 (.bslice 130 8 [(.int .u8 0),(.int .u8 0),(.int .u8 0),(.int .u8 0),(.int .u8 0),(.int .u8 0),(.int .u8 0),(.int .u8 0)] 1 [(0,(.t 38))]) [2],oN 40 (.app 130 8 8 [(.int .u8 0),(.int .u8 0),(.int .u8 0),(.int .u8 0),(.int .u8 0),(.int .u8 0),(.int .u8 0),(.int .u8 0)] (.t 36) (.t 39)) [0,3,2],oM 3 40 [4,4,0,1,2,3,4]] false))))) (.block 4 (.loop (.seq (.seq (.reg [oM 41 0 [],oM 42 3 [],oN 43 (.callv (.t 41) [(.t 42)]) [0,1],oM 44 43 [2,2],pM 45 3 44 true [3],oG 46 (.len (.t 45)) 44 true [4,3],oG 47 (.bin .gtr (.t 46) (.c (.int .i64 1))) 44 true [5,3],oN 48 (.pick (.t 44) (.t 47) (.c (.bool false))) [3,6]] false) (.cond (.t 48) .skip (.exit 4))) (.block 5 (.seq (.reg [oM 49 3 [],oN 50 (.len (.t 49)) [0],oN 51 (.bin .quo (.t 50) (.c (.int .i64 2))) [1],oN 52 (.mksl 130 8 8 [(.int .u8 0),(.int .u8 0),(.int .u8 0),(.int .u8 0),(.int .u8 0),(.int .u8 0),(.int .u8 0),(.int .u8 0)] (.t 51) (.t 51)) [2,2],oM 6 52 [3,0,1,2,3]] false) (.seq (.seq (.reg [oM 53 6 [],oN 54 (.len (.t 53)) [0],oN 55 (.mv (.c (.int .i64 0))) []] false) (.block 6 (.loop (.seq (.reg [oN 56 (.bin .lss (.t 55) (.t 54)) []] false) (.seq (.cond (.t 56) .skip (.exit 6)) (.seq (.block 7 (.seq (.reg [oM 57 55 [],oM 7 57 [0,0]] false) (.reg [oM 58 6 [],oM 59 7 [],oM 60 3 [],oM 61 7 [],oN 62 (.bin .mul (.c (.int .i64 2)) (.t 61)) [3],oN 63 (.ixsl 8 (.t 60) (.t 62)) [2,4],oN 64 (.slarr 8 (.t 63) none none) [5],oN 65 (.b2s (.t 64)) [6],oM 66 3 [],oM 67 7 [],oN 68 (.bin .mul (.c (.int .i64 2)) (.t 67)) [9],oN 69 (.bin .add (.t 68) (.c (.int .i64 1))) [10],oN 70 (.ixsl 8 (.t 66) (.t 69)) [8,11],oN 71 (.slarr 8 (.t 70) none none) [12],oN 72 (.b2s (.t 71)) [13],oN 73 (.bslice 9 1 [(.str (Qm []))] 3 [(0,(.c (.str (Qm [2])))),(1,(.t 65)),(2,(.t 72))]) [7,14],oN 74 (.call 94 [(.t 73)]) [15],oN 75 (.ixsl 8 (.t 58) (.t 59)) [0,1,0,1,2,3,4,5,6,7,8,9,10,11,12,13,14,15,16],⟨none,(.st 8 (.t 75) (.t 74)),none,[17,16,16,0,1,2,3,4,5,6,7,8,9,10,11,12,13,14,15,16]⟩] true))) (.reg [oN 76 (.bin .add (.t 55) (.c (.int .i64 1))) [],oM 55 76 [0]] false))))))) (.reg [oM 77 6 [],oM 3 77 [0,0]] false))))))))))
theorem mcOkv147:okM Tryz.prog Tryz.f147 78=some mcv147:=by kernel_rfl
set_option maxHeartbeats 2000000 in
theorem vc147 (ps:List (List Int)) (hp:∀ p∈ps,B8 p/\p.length<=LIM) (hn:ps.length<=64) (d:List Int) (hd8:d.length=8) (r0:Loop) (h:Rec0 Tryz.prog 13 [7] as63 bd63 r0):FC Tryz.prog 147 [.yl 900,.rp [.rs 1 (ps.map cS)]] [(900,.lp r0 [(6,(.fn (.func 147) [.rp [.rs 1 (ps.map cS)]])),(3,.ptr 3 0 0)]),(3,.cells 130 8 [cD d] true)] (.tup []) [(900,.lp r0 [(6,(.fn (.func 147) [.rp [.rs 1 (ps.map cS)]])),(3,.ptr 3 0 0)]),(3,.cells 130 8 [cD (rootS ps)] true)] true:=by
 have hlg:=lg_fit _ hn
 refine Qj (nt:=78) Tryz.func147 rfl rfl mcOkv147 (nL rfl) ?_
 delta mcv147
 refine Q4 (QF (rs_ld_r rfl rfl rfl (Qh rfl rfl (rs_mkslc rfl rfl rfl rfl rfl (by decide) (by omega) (by omega) (by omega) (Xp rfl rfl (Qz fun _=>QK (Q4 (Q4 (QF (rs_ld_r rfl rfl rfl ?_))))))))))
 refine Qh rfl rfl (Xp rfl rfl (Qz fun _=>QK (XI ?_)))
 refine Qr (α:=Nat) (fun k=>ps.length-k) (fun k=>[(0,.yl 900),(1,.rp [.rs 1 (ps.map cS)]),(3,.sl 10 0 (k)),(11,.rs 1 (ps.map cS)),(12,iv (ps.length:Int)),(13,iv (((k):Nat):Int))]) (fun k=>[(900,.lp r0 [(6,(.fn (.func 147) [.rp [.rs 1 (ps.map cS)]])),(3,.ptr 3 0 0)]),(3,.cells 130 8 [cD d] true),(10,.cells 130 8 (((ps.take (k)).map leafS).map cD) true)]) (fun k=>k<=ps.length) 0 (by omega)
  (Qa (.cs (.cs (.cs (.cs (.cs (.cs (.nil))))))) (.keep (rfl) rfl (.keep (rfl) rfl (.keep (rfl) rfl (.nil)))) (fun i hi=>by simp [Qf] at hi ⊢; omega)) ?_
 intro k hk
 refine Q4 (QF (rs_lss rfl rfl rfl (Qz fun _=>QK (Q4 (Qe rfl (fun h14=>?_) (fun h14=>?_))))))
 ·replace h14:=of_decide_eq_true h14
  refine Jp (QK (Q4 (XI (Q4 (QF ?_)))))
  obtain ⟨p,hpk,hpm⟩:=Qo (L:=ps) (k:=k) (by omega)
  have hps:∀ q∈([[1],p]:List (List Int)),B8 q/\q.length<=4611686018427387904:=by
   intro q hq
   simp only [List.mem_cons,List.not_mem_nil,or_false] at hq
   rcases hq with e0 | e1
   ·rw [e0]; exact ⟨b8_c,by decide⟩
   ·rw [e1]; exact ⟨(hp p hpm).1,Nat.le_trans (hp p hpm).2 (by decide)⟩
  refine Qp (f:=cS) (y:=p) rfl rfl rfl (by omega) hpk (QO 2 rfl (Qz fun _=>QK (QF (QO 2 rfl (Qi (l:=(([[1],p]:List (List Int))).flatMap cS) (els:=(([[1],p]:List (List Int))).map cS) (fl:=true) rfl (by kernel_rfl) rfl rfl (by kernel_rfl) (by kernel_rfl) (Qx [19] rfl rfl (vc94 [[1],p] hps (by simp)) (.cons (QL (f:=cS) (xs:=[[1],p]) (by simp) rfl rfl) (.nil)) rfl (Qi (l:=(([leafS p]:List (List Int))).flatMap cD) (els:=(([leafS p]:List (List Int))).map cD) (fl:=true) rfl (by kernel_rfl) rfl rfl (by kernel_rfl) (by kernel_rfl) (QB (f:=cD) (xs:=(ps.take k).map leafS) (y:=leafS p) (fl':=true) rfl rfl rfl rfl (by simp; omega) rfl rfl rfl (by decide) rfl (by omega) (by omega) (by kernel_rfl) (Xp rfl rfl (Qz fun _=>?_))))))))))
  refine in_n (QK (QF (Qg rfl rfl rfl (by omega) (Xp rfl rfl (Qz fun _=>QK ?_)))))
  exact ⟨k+1,by omega,by omega,Q6 (i:=22) (i':=10) (F1:=[(0,.yl 900),(1,.rp [.rs 1 (ps.map cS)]),(3,.sl 22 0 (k+1)),(11,.rs 1 (ps.map cS)),(12,iv (ps.length:Int)),(13,iv (((k+1):Nat):Int))]) (H1:=[(900,.lp r0 [(6,(.fn (.func 147) [.rp [.rs 1 (ps.map cS)]])),(3,.ptr 3 0 0)]),(3,.cells 130 8 [cD d] true),(22,.cells 130 8 (((ps.take (k+1)).map leafS).map cD) true)]) (.cs (.cs (.cs (.cs (.cs (.cs (.nil))))))) (.keep (rfl) rfl (.keep (rfl) rfl (.keep (by rw [leaf_succ hpk]; rfl) rfl (.nil)))) ((fun i hi=>by simp [Qf] at hi ⊢; omega)) rfl rfl (.cons rfl (.same _) (.cons rfl (.same _) (.cons rfl (.sl _ _) (.cons rfl (.same _) (.cons rfl (.same _) (.cons rfl (.same _) (.nil))))))) (.cs (.cs (.cs (.cs (.cs (.cs (.nil))))))) (.keep (rfl) rfl (.keep (rfl) rfl (.keep (rfl) rfl (.nil)))) ((fun i hi=>by simp [Qf] at hi ⊢; omega))⟩
 ·replace h14:=of_decide_eq_false h14
  refine aw_exit (th_e (th_e (in_hit (QK (Q4 (XI ?_))))))
  refine Qr (α:=Nat) (fun j=>2^lg ps.length-(ps.length+j)) (fun j=>[(0,.yl 900),(1,.rp [.rs 1 (ps.map cS)]),(3,.sl 10 0 (ps.length+(j)))]) (fun j=>[(900,.lp r0 [(6,(.fn (.func 147) [.rp [.rs 1 (ps.map cS)]])),(3,.ptr 3 0 0)]),(3,.cells 130 8 [cD d] true),(10,.cells 130 8 ((padS ps (j)).map cD) true)]) (fun j=>ps.length+j<=2^lg ps.length) 0 (hlg.1)
   (by
    obtain rfl:k=ps.length:=by omega
    exact Qa (.cs (.cs (.cs (.nil)))) (.keep (rfl) rfl (.keep (rfl) rfl (.keep (by rw [padS_0]; rfl) rfl (.nil)))) (fun i hi=>by simp [Qf] at hi ⊢; omega)) ?_
  intro j hj
  refine Q4 (Q4 (QF (Xp rfl rfl (Xi rfl rfl (Q9 rfl rfl rfl rfl (fun h26=>?_) (fun h26=>?_))))))
  ·skip
   have hgo:ps.length+j<2^lg ps.length:=pad_go ⟨ps.length,by omega⟩ ⟨ps.length+j,by omega⟩ (Nat.le_add_right _ _) hj (.inl (show ps.length+j=0 by omega))
   refine QO 9 rfl (Qz fun _=>QK (Qe rfl (fun _=>?_) (fun h=>by cases h)))
   refine Jp (QK (XI (QF ?_)))
   have hps:∀ q∈([[3]]:List (List Int)),B8 q/\q.length<=4611686018427387904:=by
    intro q hq
    rw [List.mem_singleton.1 hq]
    exact ⟨b8_c,by decide⟩
   refine Xp rfl rfl (Qi (l:=(([[3]]:List (List Int))).flatMap cS) (els:=(([[3]]:List (List Int))).map cS) (fl:=true) rfl (by kernel_rfl) rfl rfl (by kernel_rfl) (by kernel_rfl) (Qx [37] rfl rfl (vc94 [[3]] hps (by simp)) (.cons (QL (f:=cS) (xs:=[[3]]) (by simp) rfl rfl) (.nil)) rfl (Qi (l:=(([missS]:List (List Int))).flatMap cD) (els:=(([missS]:List (List Int))).map cD) (fl:=true) rfl (by kernel_rfl) rfl rfl (by kernel_rfl) (by kernel_rfl) (QB (f:=cD) (xs:=padS ps j) (y:=missS) (fl':=true) rfl rfl rfl rfl (padS_len _ _) rfl rfl rfl (by decide) rfl (by omega) (by omega) (by kernel_rfl) (Xp rfl rfl (Qz fun _=>in_n (QK ?_)))))))
   exact ⟨j+1,by omega,by omega,Q6 (i:=40) (i':=10) (F1:=[(0,.yl 900),(1,.rp [.rs 1 (ps.map cS)]),(3,.sl 40 0 (ps.length+(j+1)))]) (H1:=[(900,.lp r0 [(6,(.fn (.func 147) [.rp [.rs 1 (ps.map cS)]])),(3,.ptr 3 0 0)]),(3,.cells 130 8 [cD d] true),(40,.cells 130 8 ((padS ps (j+1)).map cD) true)]) (.cs (.cs (.cs (.nil)))) (.keep (rfl) rfl (.keep (rfl) rfl (.keep (by rw [padS_succ]; rfl) rfl (.nil)))) ((fun i hi=>by simp [Qf] at hi ⊢; omega)) rfl rfl (.cons rfl (.same _) (.cons rfl (.same _) (.cons rfl (.sl _ _) (.nil)))) (.cs (.cs (.cs (.nil)))) (.keep (rfl) rfl (.keep (rfl) rfl (.keep (rfl) rfl (.nil)))) ((fun i hi=>by simp [Qf] at hi ⊢; omega))⟩
  ·skip
   refine QO 2 rfl (Xi rfl rfl (Xp rfl rfl (Xi rfl rfl (rs_sub rfl rfl rfl (by omega) (rs_and rfl rfl rfl rfl (Q9 rfl rfl rfl rfl (fun h34=>?_) (fun h34=>?_)))))))
   ·skip
    have hgo:ps.length+j<2^lg ps.length:=pad_go ⟨ps.length,by omega⟩ ⟨ps.length+j,by omega⟩ (Nat.le_add_right _ _) hj (.inr h34)
    refine rs_pick rfl rfl rfl (Qz fun _=>QK (Qe rfl (fun _=>?_) (fun h=>by cases h)))
    refine Jp (QK (XI (QF ?_)))
    have hps:∀ q∈([[3]]:List (List Int)),B8 q/\q.length<=4611686018427387904:=by
     intro q hq
     rw [List.mem_singleton.1 hq]
     exact ⟨b8_c,by decide⟩
    refine Xp rfl rfl (Qi (l:=(([[3]]:List (List Int))).flatMap cS) (els:=(([[3]]:List (List Int))).map cS) (fl:=true) rfl (by kernel_rfl) rfl rfl (by kernel_rfl) (by kernel_rfl) (Qx [37] rfl rfl (vc94 [[3]] hps (by simp)) (.cons (QL (f:=cS) (xs:=[[3]]) (by simp) rfl rfl) (.nil)) rfl (Qi (l:=(([missS]:List (List Int))).flatMap cD) (els:=(([missS]:List (List Int))).map cD) (fl:=true) rfl (by kernel_rfl) rfl rfl (by kernel_rfl) (by kernel_rfl) (QB (f:=cD) (xs:=padS ps j) (y:=missS) (fl':=true) rfl rfl rfl rfl (padS_len _ _) rfl rfl rfl (by decide) rfl (by omega) (by omega) (by kernel_rfl) (Xp rfl rfl (Qz fun _=>in_n (QK ?_)))))))
    exact ⟨j+1,by omega,by omega,Q6 (i:=40) (i':=10) (F1:=[(0,.yl 900),(1,.rp [.rs 1 (ps.map cS)]),(3,.sl 40 0 (ps.length+(j+1)))]) (H1:=[(900,.lp r0 [(6,(.fn (.func 147) [.rp [.rs 1 (ps.map cS)]])),(3,.ptr 3 0 0)]),(3,.cells 130 8 [cD d] true),(40,.cells 130 8 ((padS ps (j+1)).map cD) true)]) (.cs (.cs (.cs (.nil)))) (.keep (rfl) rfl (.keep (rfl) rfl (.keep (by rw [padS_succ]; rfl) rfl (.nil)))) ((fun i hi=>by simp [Qf] at hi ⊢; omega)) rfl rfl (.cons rfl (.same _) (.cons rfl (.same _) (.cons rfl (.sl _ _) (.nil)))) (.cs (.cs (.cs (.nil)))) (.keep (rfl) rfl (.keep (rfl) rfl (.keep (rfl) rfl (.nil)))) ((fun i hi=>by simp [Qf] at hi ⊢; omega))⟩
   ·skip
    have hst:ps.length+j=2^lg ps.length:=pad_stop ⟨ps.length,by omega⟩ ⟨ps.length+j,by omega⟩ (Nat.le_add_right _ _) hj (show ps.length+j≠0 by omega) (Decidable.byContradiction fun q=>h34 q)
    refine rs_pick rfl rfl rfl (Qz fun _=>QK (Qe rfl (fun h=>by cases h) (fun _=>?_)))
    refine aw_exit (th_e (th_e (in_hit (QK (XI ?_)))))
    refine Qr (α:=(Nat×List (List Int)×List Int)) (fun s=>s.1) (fun s=>[(0,.yl 900),(1,.rp [.rs 1 (ps.map cS)]),(3,.rs 8 ((s.2.1).map cD))]) (fun s=>[(900,.lp r0 [(6,(.fn (.func 147) [.rp [.rs 1 (ps.map cS)]])),(3,.ptr 3 0 0)]),(3,.cells 130 8 [cD s.2.2] true)]) (fun s=>LvOK s.1 s.2.1/\rootL s.1 s.2.1=rootS ps/\s.2.2.length=8/\s.2.1.length<=64) (lg ps.length,padS ps (2^lg ps.length-ps.length),d) (⟨padS_ok ps hn,rfl,hd8,by rw [padS_len]; omega⟩)
     (by
      obtain rfl:j=2^lg ps.length-ps.length:=by omega
      exact Qa (.cs (.cs (.cons rfl ((Xr (f:=cD) (xs:=padS ps (2^lg ps.length-ps.length)) rfl rfl (padS_len _ _) noROLD)) (.nil)))) (.keep (rfl) rfl (.keep (rfl) rfl (.nil))) (fun i hi=>by simp [Qf] at hi ⊢; omega)) ?_
    rintro ⟨j,lv,d⟩ ⟨hlv,hrt,hd8,hl64⟩
    dsimp only at hlv hrt hd8 hl64 ⊢
    refine Q4 (Q4 (QF ?_))
    obtain ⟨x,hx,hxm⟩:=Qo (L:=lv) (k:=0) (by rw [hlv.len]; exact Nat.two_pow_pos _)
    refine QO 2 rfl (JG [(900,.lp r0 [(6,(.fn (.func 147) [.rp [.rs 1 (ps.map cS)]])),(3,.ptr 3 0 0)]),(3,.cells 130 8 [cD d] true)] rfl rfl rfl (y63 ps lv x d hx (hlv.ok x hxm).2 hd8 r0 h) (.cons (Qd rfl) (.cons (Qd rfl) .nil)) (.cons rfl (.cons rfl (.nil))) rfl rfl rfl (QO 2 rfl (Qh rfl rfl (Q9 rfl rfl rfl rfl (fun h47=>?_) (fun h47=>?_)))))
    ·skip
     obtain ⟨i,rfl⟩:∃ i,j=i+1:=by
      rcases j with _ | i
      ·exfalso; have:=hlv.len; simp at this; omega
      ·exact ⟨i,rfl⟩
     obtain ⟨m,hm⟩:∃ m,lv.length=2*m:=⟨2^i,by rw [hlv.len,Nat.pow_succ]; omega⟩
     refine rs_pick rfl rfl rfl (Qz fun _=>QK (Qe rfl (fun _=>?_) (fun h=>by cases h)))
     refine Jp (QK (XI (Q4 (QF (Xp rfl rfl (Qh rfl rfl (Xm rfl rfl rfl (by decide) (quo2W hm hl64) (rs_mksl (n:=(m:Int)) rfl rfl rfl rfl rfl (by omega) (by omega) (by omega) (Xp rfl rfl (Qz fun _=>QK ?_))))))))))
     refine Q4 (Q4 (QF (Xp rfl rfl (Xi rfl rfl (Xp rfl rfl (Qz fun _=>QK (XI ?_)))))))
     refine Qr (α:=Nat) (fun k=>m-k) (fun k=>[(0,.yl 900),(1,.rp [.rs 1 (ps.map cS)]),(3,.rs 8 ((lv).map cD)),(6,.sl 904 0 m),(54,iv (m:Int)),(55,iv (((k):Nat):Int))]) (fun k=>[(900,.lp r0 [(6,(.fn (.func 147) [.rp [.rs 1 (ps.map cS)]])),(3,.ptr 3 0 0)]),(3,.cells 130 8 [cD x] true),(904,.cells 130 8 ((upR lv m (k)).map cD) true)]) (fun k=>k<=m) 0 (by omega)
      (Q6 (i:=52) (i':=904) (F1:=[(0,.yl 900),(1,.rp [.rs 1 (ps.map cS)]),(3,.rs 8 ((lv).map cD)),(6,.sl 52 0 m),(54,iv (m:Int)),(55,iv (((0):Nat):Int))]) (H1:=[(900,.lp r0 [(6,(.fn (.func 147) [.rp [.rs 1 (ps.map cS)]])),(3,.ptr 3 0 0)]),(3,.cells 130 8 [cD x] true),(52,.cells 130 8 ((upR lv m (0)).map cD) true)]) (.cs (.cs (.cs (.cs (.cs (.cs (.nil))))))) (.keep (rfl) rfl (.keep (rfl) rfl (.keep (by rw [← upR_0]; rfl) rfl (.nil)))) ((fun i hi=>by simp [Qf] at hi ⊢; omega)) rfl rfl (.cons rfl (.same _) (.cons rfl (.same _) (.cons rfl (.same _) (.cons rfl (.sl _ _) (.cons rfl (.same _) (.cons rfl (.same _) (.nil))))))) (.cs (.cs (.cs (.cs (.cs (.cs (.nil))))))) (.keep (rfl) rfl (.keep (rfl) rfl (.keep (rfl) rfl (.nil)))) ((fun i hi=>by simp [Qf] at hi ⊢; omega))) ?_
     intro k hk
     refine Q4 (QF (rs_lss rfl rfl rfl (Qz fun _=>QK (Q4 (Qe rfl (fun h56=>?_) (fun h56=>?_))))))
     ·replace h56:=of_decide_eq_true h56
      refine Jp (QK (Q4 (XI (Q4 (QF (QO 2 rfl (Qz fun _=>QK (aw_draw hmix ?_))))))))
      have hkm:k<m:=by omega
      have hkl:k<(upR lv m k).length:=by rw [upR_len]; exact hkm
      have h8k:((upR lv m k)[k]).length=8:=upR_8 (List.getElem_mem hkl)
      obtain ⟨a,ha,ham⟩:=Qo (L:=lv) (k:=2*k) (by omega)
      obtain ⟨b,hb,hbm⟩:=Qo (L:=lv) (k:=2*k+1) (by omega)
      have ha8:=(hlv.ok a ham).2
      have hb8:=(hlv.ok b hbm).2
      have hps:∀ q∈([[2],a,b]:List (List Int)),B8 q/\q.length<=4611686018427387904:=by
       intro q hq
       simp only [List.mem_cons,List.not_mem_nil,or_false] at hq
       rcases hq with e0 | e1 | e2
       ·rw [e0]; exact ⟨b8_c,by decide⟩
       ·rw [e1]; exact ⟨(hlv.ok _ ham).1,by rw [ha8]; decide⟩
       ·rw [e2]; exact ⟨(hlv.ok _ hbm).1,by rw [hb8]; decide⟩
      refine QO 4 rfl (QA rfl rfl rfl (mul2W (by omega)) (Qp (f:=cD) (y:=a) rfl rfl rfl (by omega) ha (rs_slarr_r (els:=a.map fun n=>[AV.int .u8 n]) rfl rfl rfl rfl (by simp [ha8]) (by decide) (by rw [List.take_of_length_le (by simp [ha8])]; exact (el1 a).symm) (rs_b2s (l:=a) (rd:=[]) rfl rfl (bytesV_rs a) (QO 2 rfl (QA rfl rfl rfl (mul2W (by omega)) (Qg rfl rfl rfl (by omega) (Qp (f:=cD) (y:=b) rfl rfl rfl (by omega) hb (rs_slarr_r (els:=b.map fun n=>[AV.int .u8 n]) rfl rfl rfl rfl (by simp [hb8]) (by decide) (by rw [List.take_of_length_le (by simp [hb8])]; exact (el1 b).symm) (rs_b2s (l:=b) (rd:=[]) rfl rfl (bytesV_rs b) (Qi (l:=(([[2],a,b]:List (List Int))).flatMap cS) (els:=(([[2],a,b]:List (List Int))).map cS) (fl:=true) rfl (by kernel_rfl) rfl rfl (by kernel_rfl) (by kernel_rfl) ?_)))))))))))
      refine Qx [73] rfl rfl (vc94 [[2],a,b] hps (by simp)) (.cons (QL (f:=cS) (xs:=[[2],a,b]) (by simp) rfl rfl) (.nil)) rfl (rs_ix_sm (f:=cD) (xs:=upR lv m k) rfl rfl rfl rfl (by omega) (rs_st_m (f:=cD) (xs:=upR lv m k) (t:=k) (v:=JM a b) (fl':=true) rfl rfl rfl rfl hkl rfl rfl (by simp [h8k]) (setAt_all _ _ (by simp [h8k,(Jh _).2,JM])) (by rw [closedD]; rfl) (Qz ⟨by kernel_rfl,fun _=>?_⟩)))
      refine in_n (QK (QF (Qg rfl rfl rfl (by omega) (Xp rfl rfl (Qz fun _=>QK ?_)))))
      exact ⟨k+1,by omega,by omega,Qa (.cs (.cs (.cs (.cs (.cs (.cs (.nil))))))) (.keep (rfl) rfl (.keep (rfl) rfl (.keep (by rw [← upR_set lv hkm,pr_at ha hb]; rfl) rfl (.nil)))) (fun i hi=>by simp [Qf] at hi ⊢; omega)⟩
     ·replace h56:=of_decide_eq_false h56
      refine aw_exit (th_e (th_e (in_hit (QK (QF (QO 2 rfl (Qz fun _=>in_n (QK (⟨(i,upS lv,x),⟨hlv.up,hrt,(hlv.ok x hxm).2,by rw [upS_len]; omega⟩,Nat.lt_succ_self _,?_⟩)))))))))
      obtain rfl:k=m:=by omega
      exact Qa (.cs (.cs (.cons rfl ((by rw [← upR_all lv k (by omega)]; exact Xr (f:=cD) (xs:=upR lv k k) rfl rfl (upR_len _ _ _) noROLD)) (.nil)))) (.keep (rfl) rfl (.keep (rfl) rfl (.nil))) (fun i hi=>by simp [Qf] at hi ⊢; omega)
    ·skip
     have hj0:j=0:=by
      rcases j with _ | i
      ·rfl
      ·exfalso; have:=hlv.len; rw [Nat.pow_succ] at this; have:=Nat.two_pow_pos i; omega
     subst hj0
     have hxr:x=rootS ps:=by rw [← hrt]; exact (getD_at hx).symm
     refine rs_pick rfl rfl rfl (Qz fun _=>QK (Qe rfl (fun h=>by cases h) (fun _=>?_)))
     refine aw_exit (th_e (th_e (in_hit ?_)))
     exact XL (by first | exact .inl rfl | exact .inr rfl) rfl sm (.keep (rfl) rfl (.keep (by rw [← hxr]; rfl) rfl (.nil))) (.cons rfl rfl rfl (.cons rfl rfl rfl (.nil)))
end Go.Proofs.YthfhaoogcpfboaaGreat
namespace Go.Proofs.YthfhaoogcpfboaaGreat
open Go.RowKit
set_option maxRecDepth 100000
set_option linter.unusedVariables false
theorem rootL_d:∀ (j:Nat) (lv:List (List Int)),LvOK j lv->(∀ d∈lv,∃ q,d=digB q)->∃ q,rootL j lv=digB q
 | 0,lv,h,hd=>by
  have h1:lv.length=1:=h.len
  obtain ⟨d,hd0,hm⟩:=Qo (L:=lv) (k:=0) (by omega)
  obtain ⟨q,e⟩:=hd d hm
  exact ⟨q,by rw [← e]; exact getD_at hd0⟩
 | j+1,lv,h,hd=>rootL_d j (upS lv) h.up fun d hd=>by
  obtain ⟨i,_,rfl⟩:=List.mem_map.1 hd
  exact ⟨_,rfl⟩
theorem padS_d {ps:List (List Int)} {m:Nat}:∀ d∈padS ps m,∃ q,d=digB q:=fun d hd=>by
 rcases List.mem_append.1 hd with hd | hd
 ·obtain ⟨p,_,rfl⟩:=List.mem_map.1 hd; exact ⟨_,rfl⟩
 ·rw [(List.mem_replicate.1 hd).2]; exact ⟨_,rfl⟩
theorem rootS_d {ps:List (List Int)} (h:ps.length<=64):∃ q,rootS ps=digB q:=rootL_d _ _ (padS_ok ps h) padS_d
theorem rootS_8 {ps:List (List Int)} (h:ps.length<=64):B8 (rootS ps)/\(rootS ps).length=8:=by
 obtain ⟨q,e⟩:=rootS_d h
 rw [e]; exact Jh q
def rootF (ls:List Lf):List Int:=rootS (ls.map XN)
structure LsOK (ls:List Lf):Prop where
 n:ls.length<=64
 ok:∀ x∈ls,x.OK
theorem LsOK.texts {ls:List Lf} (h:LsOK ls):∀ p∈ls.map XN,B8 p/\p.length<=LIM:=fun p hp=>by
 obtain ⟨x,hx,rfl⟩:=List.mem_map.1 hp
 exact ⟨textS_8 (h.ok x hx).b,Nat.le_trans (textS_len (h.ok x hx).n) (by decide)⟩
theorem text_succ {ls:List Lf} {k:Nat} {x:Lf} (h:ls[k]?=some x):(ls.take (k+1)).map XN=(ls.take k).map XN++[XN x]:=by rw [Qv h,List.map_append]; rfl
def mcv112:MC:=(.seq (.reg [oN 1 (.box 47 1 (.t 0)) [],oN 2 (.mv (.c .nilf)) []] false) (.seq (.reg [oN 3 (.mkfn (.func 147) [(.t 1)]) [],oM 2 3 [0,0]] false) .ret))
theorem mcOkv112:okM Tryz.prog Tryz.f112 4=some mcv112:=by kernel_rfl
theorem vc112 (ps:List (List Int)):FC Tryz.prog 112 [.rs 1 (ps.map cS)] [] (.fn (.func 147) [.rp [.rs 1 (ps.map cS)]]) [] true:=by
 refine Qj (nt:=4) Tryz.func112 rfl rfl mcOkv112 (nL rfl) ?_
 delta mcv112
 refine gA 11 rfl ?_
 exact Qk <| Qs rfl (rc_fnr (.cons (Xq rfl rfl (.inl rfl)) .nil)) .nil
def mcv63:MC:=(.seq (.reg [oN 2 (.mv (.c (.str (Qm [])))) []] false) (.seq (.reg [oN 3 (.alloc 130 8 [(.int .u8 0),(.int .u8 0),(.int .u8 0),(.int .u8 0),(.int .u8 0),(.int .u8 0),(.int .u8 0),(.int .u8 0)]) []] false) (.seq (.seq (.reg [oM 5 0 [],oN 6 (.call 112 [(.t 5)]) [0]] false) (.block 0 (.rfunc (.t 6) [7] (.reg [oM 4 7 []] false) (.block 1 (.reg [oM 8 4 [],oN 9 (.ixsl 8 (.t 8) (.c (.int .i64 0))) [0],oN 10 (.ld true 8 (.t 9)) [1],⟨none,(.st 8 (.t 3) (.t 10)),none,[2,0,1,2]⟩] false))))) (.seq (.reg [oN 11 (.ld true 8 (.t 3)) [],oN 12 (.call 93 [(.t 11)]) [0],oM 2 12 [1,1,0,1]] false) .ret))))
theorem mcOkv63:okM Tryz.prog Tryz.f63 13=some mcv63:=by kernel_rfl
theorem vc63 (ps:List (List Int)) (hp:∀ p∈ps,B8 p/\p.length<=LIM) (hn:ps.length<=64):FC Tryz.prog 63 [.rs 1 (ps.map cS)] [] (.str (Qm (rootS ps))) [] false:=by
 obtain ⟨q,hq⟩:=rootS_d hn
 have hr8:=(rootS_8 hn).2
 refine Qj (nt:=13) Tryz.func63 rfl rfl mcOkv63 (nL rfl) ?_
 delta mcv63
 refine gA 12 rfl (Q1 [] rfl rfl (vc112 ps) (.cons (Qd rfl) .nil) .nil rfl rfl rfl (gR 2 rfl (QE (F0:=[(6,(.fn (.func 147) [.rp [.rs 1 (ps.map cS)]])),(3,.ptr 3 0 0)]) (H0:=[(3,.cells 130 8 [cD Z8] true)]) (Qa (Qb rfl rfl) (.keep (rfl) rfl (.nil)) fun i h=>by cases h) (aw_rfunc 900 [(3,.cells 130 8 [cD Z8] true)] [(3,.cells 130 8 [cD (rootS ps)] true)] (.inl ⟨rfl,rfl⟩) rfl (by kernel_rfl) rfl rfl rfl (.cons rfl (.nil)) rfl rfl rfl rfl (fun r0 hrec=>⟨r0,(by rw [hrec.state]; intro h; cases h),hrec.pending,vc147 ps hp hn Z8 rfl r0 hrec⟩) (gP 2 rfl (rs_ld_pa (cs:=cD (rootS ps)) rfl rfl rfl rfl (by simp [hr8]) (List.take_of_length_le (by simp [hr8])) ?_))))))
 rw [hq]
 refine gR 0 rfl (cN rfl rfl (vc93 q) (gR 3 rfl ?_))
 exact Qk <| Qc rfl rfl rfl (.inr rfl)
def mcv19:MC:=(.seq (.reg [oN 2 (.mv (.c (.str (Qm [])))) []] false) (.seq (.reg [oN 3 (.mv (.c .nils)) []] false) (.seq (.seq (.reg [oM 6 0 [],oN 7 (.len (.t 6)) [0],oN 8 (.mv (.c (.int .i64 0))) []] false) (.block 0 (.loop (.seq (.reg [oN 9 (.bin .lss (.t 8) (.t 7)) []] false) (.seq (.cond (.t 9) .skip (.exit 0)) (.seq (.block 1 (.seq (.reg [oN 10 (.ixsl 5 (.t 6) (.t 8)) [],oN 11 (.ld true 5 (.t 10)) [0],oN 5 (.alloc 51 5 [(.int .i64 0),(.int .i64 0),(.bool false),(.bool false),(.str (Qm []))]) [],⟨none,(.st 5 (.t 5) (.t 11)),none,[2,1,0,1,2]⟩] false) (.reg [oM 12 3 [],oN 13 (.ld true 5 (.t 5)) [],oN 14 (.call 62 [(.t 13)]) [1],oN 15 (.bslice 9 1 [(.str (Qm []))] 1 [(0,(.t 14))]) [2],oN 16 (.app 9 1 16 [(.str (Qm []))] (.t 12) (.t 15)) [0,3,2],oM 3 16 [4,4,0,1,2,3,4]] false))) (.reg [oN 17 (.bin .add (.t 8) (.c (.int .i64 1))) [],oM 8 17 [0]] false))))))) (.seq (.reg [oM 18 3 [],oN 19 (.call 63 [(.t 18)]) [0],oM 2 19 [1,1,0,1]] false) .ret))))
theorem mcOkv19:okM Tryz.prog Tryz.f19 20=some mcv19:=by kernel_rfl
theorem vc19 (ls:List Lf) (hl:LsOK ls):FC Tryz.prog 19 [.rs 5 (ls.map cLf)] [] (.str (Qm (rootF ls))) [] false:=by
 have hn:=hl.n
 refine Qj (nt:=20) Tryz.func19 rfl rfl mcOkv19 (nL rfl) ?_
 delta mcv19
 refine gA 12 rfl (Qh rfl rfl (gR 3 rfl ?_))
 refine Qr (α:=Nat) (fun k=>ls.length-k) (fun k=>[(6,.rs 5 (ls.map cLf)),(7,iv (ls.length:Int)),(8,iv (((k):Nat):Int)),(3,.sl 901 0 (k))]) (fun k=>[(901,.cells 9 1 (((ls.take (k)).map XN).map cS) true)]) (fun k=>k<=ls.length) 0 (by omega)
  (Qa (.cs (.cs (.cs (.cons rfl (J4 rfl rfl) (.nil))))) (.virt rfl (.nil)) (fun i h=>by cases h)) ?_
 intro k hk
 refine gT 5 rfl (Qe rfl (fun h9=>?_) (fun h9=>?_))
 ·replace h9:=of_decide_eq_true h9
  refine gK 5 rfl ?_
  obtain ⟨x,hxk,hxm⟩:=Qo (L:=ls) (k:=k) (by omega)
  refine Qp (f:=cLf) (y:=x) rfl rfl rfl (by omega) hxk (gR 0 rfl (QG (cs:=cLf x) rfl rfl (nL rfl) rfl (gR 5 rfl (rs_ld_pa (cs:=cLf x) rfl rfl rfl rfl (nL rfl) rfl (gR 0 rfl (cN rfl rfl (vc62 x (hl.ok x hxm)) (gR 0 rfl (Qi (l:=(([XN x]:List (List Int))).flatMap cS) (els:=(([XN x]:List (List Int))).map cS) (fl:=true) rfl (by kernel_rfl) rfl rfl (by kernel_rfl) (by kernel_rfl) (gR 0 rfl (QB (f:=cS) (xs:=(ls.take k).map XN) (y:=XN x) (fl':=true) rfl rfl rfl rfl (by simp; omega) rfl rfl rfl (by decide) rfl (by omega) (by omega) rfl (gR 3 rfl ?_)))))))))))
  refine Qg rfl rfl rfl (by omega) (gR 2 rfl ?_)
  exact Q8 <| ⟨k+1,by omega,by omega,Q6 (i:=16) (i':=901) (F1:=[(6,.rs 5 (ls.map cLf)),(7,iv (ls.length:Int)),(8,iv (((k+1):Nat):Int)),(3,.sl 16 0 (k+1))]) (H1:=[(16,.cells 9 1 (((ls.take (k+1)).map XN).map cS) true)]) (Qb rfl rfl) (.keep (by rw [text_succ hxk]; rfl) rfl (.nil)) (fun i h=>by cases h) rfl rfl (.cons rfl (.same _) (.cons rfl (.same _) (.cons rfl (.same _) (.cons rfl (.sl _ _) (.nil))))) (Qb rfl rfl) (.keep rfl rfl .nil) nz⟩
 ·replace h9:=of_decide_eq_false h9
  refine gK 2 rfl ?_
  obtain rfl:k=ls.length:=by omega
  refine QE (F0:=[(3,.sl 901 0 ls.length)]) (H0:=[(901,.cells 9 1 ((ls.map XN).map cS) true)]) (Qa (Qb rfl rfl) (.keep (by rw [List.take_of_length_le (Nat.le_refl _)]; rfl) rfl (.nil)) (fun i h=>by cases h)) (gK 2 rfl (Qx [901] rfl rfl (vc63 (ls.map XN) hl.texts (by simpa using hn)) (.cons (QL (f:=cS) (xs:=ls.map XN) (by simp) rfl (by simp)) (.nil)) rfl (gR 3 rfl ?_)))
  exact Qk <| Qc rfl rfl rfl (.inr rfl)
end Go.Proofs.YthfhaoogcpfboaaGreat
namespace Go.Proofs.YthfhaoogcpfboaaGreat
open Go.RowKit
set_option maxRecDepth 100000
set_option linter.unusedVariables false
section
variable {P:Program} {N:Nat} {F:Fr} {H:Hp} {ml:List MOper} {K:List Fp->Fr->Hp->Prop} {g:Option (Nat×Bool)} {pre:List Nat}
theorem Xb {fa:Arg} {xs:List Arg} {vs cs vs':List AV} {f:FuncId} {dst:Option Nat} {r:AV} (Hs:Hp) {H':Hp} (hg:gOK F g=true) (hf:Ql F fa=some (.fn (.func f) cs)) (hent:entered P f=true) (hv:JV F xs=some vs) (hfc:FC P f vs' Hs r H' true)
  (hh:HVs H Hs [] true (vs++cs) vs') (hsub:SubH H Hs) (hsc:scopedHs Hs=true) (hnew:newOk H Hs H'=true) (hdom:domOk Hs H'=true)
  (h:RS P N ml (putF F dst r) (H'++H) (fun fps=>K (([],Qf H')::fps))):RS P N (⟨dst,.callv fa xs,g,pre⟩::ml) F H K :=
 rs_callv hg hf hent hv hfc hh hsub.at_ hsc (newOk_spec hnew) (domOk_spec hdom) h
end
theorem JI {P:Program} {f:FuncId} {args:List AV} {H H':Hp} {r:AV} (h:FC P f args H r H' false):FC P f args H r H' true:=fun w S ρ c hH hv =>
 (h w S ρ c hH hv).mono fun e w' ⟨cv,S',ρ',q1,q2,q3,q4,q5,q6⟩=>⟨cv,S',ρ',q1,q2,q3,q4,fun b hb=>(q5 b hb).elim (fun h=>by cases h.1) .inr,q6⟩
def Xs {α:Type} (p:α->Bool):List α->Nat->Int
 | [],_ => -1
 | x::l,k=>if p x=true then k else Xs p l (k+1)
theorem JK {α:Type} {p:α->Bool} {l:List α} {k:Nat} {x:α} (h:l[k]?=some x):Xs p (l.drop k) k=if p x=true then (k:Int) else Xs p (l.drop (k+1)) (k+1):=by
 obtain ⟨hk,e⟩:=List.getElem?_eq_some_iff.1 h
 rw [List.drop_eq_getElem_cons hk,e]; rfl
theorem Ju {α:Type} {p:α->Bool} {l:List α} {k:Nat} (h:l.length<=k):Xs p (l.drop k) k = -1:=by rw [List.drop_eq_nil_of_le h]; rfl
theorem idxS_any {α:Type} {p:α->Bool}:∀ (l:List α) (k:Nat),decide (0<=Xs p l k)=l.any p
 | [],k=>rfl
 | x::l,k=>by
  unfold Xs
  rw [List.any_cons]
  split
  ·rename_i h; rw [h]; simp
  ·rename_i h; rw [idxS_any l (k+1),Bool.eq_false_iff.2 h]; rfl
theorem Jy {α:Type} {p:α->Bool} (l:List α):decide (Xs p l 0 ≥ 0)=l.any p:=idxS_any l 0
theorem b8_id {n:Int} (h:0<=n/\n<256):IntKind.u8.wrap n=n:=by simp [IntKind.wrap,IntKind.bits,IntKind.signed]; omega
theorem u64_id {n:Int} (h:0<=n/\n<18446744073709551616):IntKind.u64.wrap n=n:=by simp [IntKind.wrap,IntKind.bits,IntKind.signed]; omega
def bl (n:Nat):Nat:=[0,1,2,2,3,3,3,3,4,4,4,4,4,4,4,4].getD n 0
abbrev cSp (s:Nat×Nat):List AV:=[.int .i64 (s.1:Int),.int .i64 (s.2:Int)]
def wS (n:Nat):Nat:=2^lg n
theorem bl_le (n:Nat) (h:n<16):bl n<=4:=by
 have:∀ n:Fin 16,bl n.val<=4:=by decide
 exact this ⟨n,h⟩
theorem whole_w {n:Nat} (h:1<=n/\n<=16):W ((1:Int)*2^min ((bl (n-1):Nat):Int).toNat 64)=((wS n:Nat):Int):=by
 have:∀ n:Fin 17,1<=n.val->W ((1:Int)*2^min ((bl (n.val-1):Nat):Int).toNat 64)=((wS n.val:Nat):Int):=by decide +kernel
 exact this ⟨n,by omega⟩ h.1
def mcv152:MC:=(.seq (.reg [oN 2 (.mv (.c (.int .i64 0))) []] false) (.seq (.seq (.reg [oM 3 0 [],oN 4 (.bin .geq (.t 3) (.c (.int .u64 4294967296))) [0]] false) (.cond (.t 4) (.seq (.reg [oM 5 0 [],oN 6 (.bin .shr (.t 5) (.c (.int .u64 32))) [0],oM 0 6 [1,0,1]] false) (.reg [oN 2 (.mv (.c (.int .i64 32))) []] false)) .skip)) (.seq (.seq (.reg [oM 7 0 [],oN 8 (.bin .geq (.t 7) (.c (.int .u64 65536))) [0]] false) (.cond (.t 8) (.seq (.reg [oM 9 0 [],oN 10 (.bin .shr (.t 9) (.c (.int .u64 16))) [0],oM 0 10 [1,0,1]] false) (.reg [oM 11 2 [],oN 12 (.bin .add (.t 11) (.c (.int .i64 16))) [0],oM 2 12 [1,0,1]] false)) .skip)) (.seq (.seq (.reg [oM 13 0 [],oN 14 (.bin .geq (.t 13) (.c (.int .u64 256))) [0]] false) (.cond (.t 14) (.seq (.reg [oM 15 0 [],oN 16 (.bin .shr (.t 15) (.c (.int .u64 8))) [0],oM 0 16 [1,0,1]] false) (.reg [oM 17 2 [],oN 18 (.bin .add (.t 17) (.c (.int .i64 8))) [0],oM 2 18 [1,0,1]] false)) .skip)) (.seq (.reg [oM 19 2 [],oM 20 0 [],oN 21 (.cvt .u8 (.t 20)) [1],oN 22 (.sidx (.c (.str (Qm [0,1,2,2,3,3,3,3,4,4,4,4,4,4,4,4,5,5,5,5,5,5,5,5,5,5,5,5,5,5,5,5,6,6,6,6,6,6,6,6,6,6,6,6,6,6,6,6,6,6,6,6,6,6,6,6,6,6,6,6,6,6,6,6,7,7,7,7,7,7,7,7,7,7,7,7,7,7,7,7,7,7,7,7,7,7,7,7,7,7,7,7,7,7,7,7,7,7,7,7,7,7,7,7,7,7,7,7,7,7,7,7,7,7,7,7,7,7,7,7,7,7,7,7,7,7,7,7,8,8,8,8,8,8,8,8,8,8,8,8,8,8,8,8,8,8,8,8,8,8,8,8,8,8,8,8,8,8,8,8,8,8,8,8,8,8,8,8,8,8,8,8,8,8,8,8,8,8,8,8,8,8,8,8,8,8,8,8,8,8,8,8,8,8,8,8,8,8,8,8,8,8,8,8,8,8,8,8,8,8,8,8,8,8,8,8,8,8,8,8,8,8,8,8,8,8,8,8,8,8,8,8,8,8,8,8,8,8,8,8,8,8,8,8,8,8,8,8,8,8,8,8,8,8,8,8]))) (.t 21)) [2],oN 23 (.cvt .i64 (.t 22)) [3],oN 24 (.bin .add (.t 19) (.t 23)) [0,4],oM 2 24 [5,0,1,2,3,4,5]] false) .ret)))))
theorem mcOkv152:okM Tryz.prog Tryz.f152 25=some mcv152:=by kernel_rfl
theorem vc152 (n:Nat) (hn:n<16):FC Tryz.prog 152 [.int .u64 (n:Int)] [] (.int .i64 ((bl n:Nat):Int)) [] false:=by
 have hb:∀ n:Fin 16,([0,1,2,2,3,3,3,3,4,4,4,4,4,4,4,4,5,5,5,5,5,5,5,5,5,5,5,5,5,5,5,5,6,6,6,6,6,6,6,6,6,6,6,6,6,6,6,6,6,6,6,6,6,6,6,6,6,6,6,6,6,6,6,6,7,7,7,7,7,7,7,7,7,7,7,7,7,7,7,7,7,7,7,7,7,7,7,7,7,7,7,7,7,7,7,7,7,7,7,7,7,7,7,7,7,7,7,7,7,7,7,7,7,7,7,7,7,7,7,7,7,7,7,7,7,7,7,7,8,8,8,8,8,8,8,8,8,8,8,8,8,8,8,8,8,8,8,8,8,8,8,8,8,8,8,8,8,8,8,8,8,8,8,8,8,8,8,8,8,8,8,8,8,8,8,8,8,8,8,8,8,8,8,8,8,8,8,8,8,8,8,8,8,8,8,8,8,8,8,8,8,8,8,8,8,8,8,8,8,8,8,8,8,8,8,8,8,8,8,8,8,8,8,8,8,8,8,8,8,8,8,8,8,8,8,8,8,8,8,8,8,8,8,8,8,8,8,8,8,8,8,8,8,8,8,8]:List Int)[n.val]?=some ((bl n.val:Nat):Int):=by decide +kernel
 have hbn:=hb ⟨n,hn⟩
 clear hb
 have hb4:=bl_le n hn
 refine Qj (nt:=25) Tryz.func152 rfl rfl mcOkv152 (nL rfl) ?_
 delta mcv152
 refine gA 8 rfl (Xd rfl rfl rfl rfl (by omega) (gR 7 rfl (Xd rfl rfl rfl rfl (by omega) (gR 7 rfl (Xd rfl rfl rfl rfl (by omega) (gR 7 rfl (QY (n:=(n:Int)) rfl rfl (b8_id (by omega)) (gR 0 rfl (rs_sidx (y:=((bl n:Nat):Int)) rfl rfl rfl (by omega) hbn (by omega) (gR 0 rfl (QY rfl rfl (Xk (by omega)) ?_)))))))))))
 refine gR 0 rfl (QH (c:=((bl n:Nat):Int)) rfl rfl rfl (by rw [show (0:Int)+((bl n:Nat):Int)=((bl n:Nat):Int) by omega]; exact Xk (by omega)) (gR 3 rfl ?_))
 exact Qk <| Qc rfl rfl rfl (.inr rfl)
def mcv124:MC:=(.seq (.reg [oN 2 (.mv (.c (.int .i64 0))) []] false) (.seq (.cond (.c (.bool false)) (.seq (.reg [oM 3 0 [],oN 4 (.cvt .u32 (.t 3)) [0],oN 5 (.call 151 [(.t 4)]) [1],oM 2 5 [2,2,0,1,2]] false) .ret) .skip) (.seq (.reg [oM 6 0 [],oN 7 (.call 152 [(.t 6)]) [0],oM 2 7 [1,1,0,1]] false) .ret)))
theorem mcOkv124:okM Tryz.prog Tryz.f124 8=some mcv124:=by kernel_rfl
theorem vc124 (n:Nat) (hn:n<16):FC Tryz.prog 124 [.int .u64 (n:Int)] [] (.int .i64 ((bl n:Nat):Int)) [] false:=by
 refine Qj (nt:=8) Tryz.func124 rfl rfl mcOkv124 (nL rfl) ?_
 delta mcv124
 refine gA 10 rfl (cN rfl rfl (vc152 n hn) (gR 3 rfl ?_))
 exact Qk <| Qc rfl rfl rfl (.inr rfl)
def mcv75:MC:=(.seq (.reg [oN 2 (.alloc 110 2 [(.int .i64 0),(.int .i64 0)]) []] false) (.seq (.reg [oM 3 0 [],oN 4 (.bin .sub (.t 3) (.c (.int .i64 1))) [0],oN 5 (.cvt .u64 (.t 4)) [1],oN 6 (.call 124 [(.t 5)]) [2],oN 7 (.bin .shl (.c (.int .i64 1)) (.t 6)) [3],oN 8 (.build [(.int .i64 0),(.int .i64 0)] [(0,(1,(.c (.int .i64 0)))),(1,(1,(.t 7)))]) [4],⟨none,(.st 2 (.t 2) (.t 8)),none,[5,3,0,1,2,3,4,5]⟩] false) .ret))
theorem mcOkv75:okM Tryz.prog Tryz.f75 9=some mcv75:=by kernel_rfl
theorem vc75 (n:Nat) (hn:1<=n/\n<=16):FC Tryz.prog 75 [.int .i64 (n:Int)] [] (.agg (cSp (0,wS n))) [] false:=by
 refine Qj (nt:=9) Tryz.func75 rfl rfl mcOkv75 (nL rfl) ?_
 delta mcv75
 refine gA 7 rfl (rs_sub rfl rfl rfl (by omega) (gR 0 rfl (QY (m:=((n-1:Nat):Int)) rfl rfl (by rw [u64_id (by omega)]; omega) (gR 0 rfl (cN rfl rfl (vc124 (n-1) (by omega)) (gR 0 rfl (rs_shl rfl rfl rfl (by omega) (whole_w hn) (gR 4 rfl ?_))))))))
 exact Qk <| Qc rfl rfl rfl (.inr rfl)
def mcv118:MC:=(.seq (.reg [oN 1 (.box 110 2 (.t 0)) [],oN 2 (.mv (.c .nilf)) []] false) (.seq (.reg [oN 3 (.mkfn (.func 149) [(.t 1)]) [],oM 2 3 [0,0]] false) .ret))
theorem mcOkv118:okM Tryz.prog Tryz.f118 4=some mcv118:=by kernel_rfl
theorem vc118 (s:Nat×Nat):FC Tryz.prog 118 [.agg (cSp s)] [] (.fn (.func 149) [.rp (cSp s)]) [] true:=by
 refine Qj (nt:=4) Tryz.func118 rfl rfl mcOkv118 (nL rfl) ?_
 delta mcv118
 refine gA 11 rfl ?_
 exact Qk <| Qs rfl (rc_fnr (.cons (Xq rfl rfl (.inl rfl)) .nil)) .nil
end Go.Proofs.YthfhaoogcpfboaaGreat
namespace Go.Proofs.YthfhaoogcpfboaaGreat
open Go.RowKit
set_option maxRecDepth 100000
set_option linter.unusedVariables false
abbrev cP (b m:Nat):List AV:=[.int .i64 (b:Int),.int .i64 (m:Int)]
theorem addNW {a b:Nat} (h:a+b<=1000):W ((a:Int)+(b:Int))=((a+b:Nat):Int):=by rw [Xk (by omega)]; omega
def XA (s:Nat×Nat) (k:Int):Bool:=decide ((s.1:Int)<=k)&&decide (k<((s.1+s.2:Nat):Int))
def outP (n:Nat) (k:Int):Bool:=decide (k<0)||decide ((n:Int)<=k)
def hid1 (n:Nat) (w:List Int) (b d:Nat) (rest:List (Nat×Nat)):List (Nat×Nat):=if n<=b then [] else if w.any (XA (b,2^d))=true then rest else [(b,2^d)]
def QW (n:Nat) (w:List Int):Nat->Nat->List (Nat×Nat)
 | 0,b=>hid1 n w b 0 []
 | d+1,b=>hid1 n w b (d+1) (QW n w d b++QW n w d (b+2^d))
theorem hid1_len {n:Nat} {w:List Int} {b d m:Nat} {r:List (Nat×Nat)} (h:r.length<=m) (hm:1<=m):(hid1 n w b d r).length<=m:=by
 unfold hid1
 split
 ·simp
 ·split
  ·exact h
  ·exact hm
theorem pow2 (d:Nat):2^(d+1)=2*2^d:=by rw [Nat.pow_succ,Nat.mul_comm]
theorem hidS_len (n:Nat) (w:List Int):∀ d b,(QW n w d b).length<=2^d
 | 0,b=>hid1_len (by simp) (Nat.le_refl _)
 | d+1,b=>hid1_len (by have h1:=hidS_len n w d b; have h2:=hidS_len n w d (b+2^d); have:=pow2 d; rw [List.length_append]; omega) (Nat.one_le_two_pow)
def mcv117:MC:=(.seq (.reg [oN 2 (.box 110 2 (.t 0)) [],oN 4 (.mv (.c (.bool false))) []] false) (.seq (.reg [oM 5 1 [],oA 6 0 2 [],oD 7 1 6 [1],oN 8 (.bin .geq (.t 5) (.t 7)) [0,2],oM 9 8 [3],pM 10 1 9 true [4],pA 11 0 2 9 true [4],pD 12 1 11 9 true [6,4],pA 13 1 2 9 true [4],pD 14 1 13 9 true [8,4],oG 15 (.bin .add (.t 12) (.t 14)) 9 true [7,9,4],oG 16 (.bin .lss (.t 10) (.t 15)) 9 true [5,10,4],oN 17 (.pick (.t 9) (.t 16) (.c (.bool false))) [4,11],oM 4 17 [12,4,0,1,2,3,4,5,6,7,8,9,10,11,12]] false) .ret))
theorem mcOkv117:okM Tryz.prog Tryz.f117 18=some mcv117:=by kernel_rfl
theorem vc117 (b m:Nat) (k:Int) (hs:b+m<=1000):FC Tryz.prog 117 [.agg (cP b m),.int .i64 k] [] (.bool (XA (b,m) k)) [] false:=by
 refine Qj (nt:=18) Tryz.func117 rfl rfl mcOkv117 (nL rfl) ?_
 delta mcv117
 refine gA 10 rfl (Q9 rfl rfl rfl rfl (fun h8=>?_) (fun h8=>?_))
 ·skip
  refine gR 6 rfl (Qg rfl rfl rfl (by omega) (gR 0 rfl (Q9 rfl rfl rfl rfl (fun h16=>?_) (fun h16=>?_))))
  ·skip
   refine gR 4 rfl ?_
   rw [show XA (b,m) k=true from by simp only [XA,Bool.and_eq_true,decide_eq_true_eq]; omega]
   exact Qk <| Qc rfl rfl rfl (.inr rfl)
  ·skip
   refine gR 4 rfl ?_
   rw [show XA (b,m) k=false from by simp only [XA,Bool.and_eq_false_iff,decide_eq_false_iff_not]; omega]
   exact Qk <| Qc rfl rfl rfl (.inr rfl)
 ·skip
  refine gR 12 rfl ?_
  rw [show XA (b,m) k=false from by simp only [XA,Bool.and_eq_false_iff,decide_eq_false_iff_not]; omega]
  exact Qk <| Qc rfl rfl rfl (.inr rfl)
def mcv66:MC:=(.seq (.reg [oN 3 (.mv (.c (.bool false))) []] false) (.seq (.reg [oM 4 0 [],oN 5 (.bin .lss (.t 4) (.c (.int .i64 0))) [0],oM 6 5 [1],pM 7 0 6 false [2],pD 8 1 1 6 false [2],oG 9 (.bin .geq (.t 7) (.t 8)) 6 false [3,4,2],oN 10 (.pick (.t 6) (.c (.bool true)) (.t 9)) [2,5],oM 3 10 [6,2,0,1,2,3,4,5,6]] false) .ret))
theorem mcOkv66:okM Tryz.prog Tryz.f66 11=some mcv66:=by kernel_rfl
theorem vc66 (n:Nat) (k:Int):FC Tryz.prog 66 [.int .i64 k,.rp [iv (n:Int)]] [] (.bool (outP n k)) [] false:=by
 refine Qj (nt:=11) Tryz.func66 rfl rfl mcOkv66 (nL rfl) ?_
 delta mcv66
 refine gA 7 rfl (Q9 rfl rfl rfl rfl (fun h5=>?_) (fun h5=>?_))
 ·skip
  refine gR 8 rfl ?_
  rw [show outP n k=true from by simp only [outP,Bool.or_eq_true,decide_eq_true_eq]; omega]
  exact Qk <| Qc rfl rfl rfl (.inr rfl)
 ·skip
  refine gR 3 rfl (Q9 rfl rfl rfl rfl (fun h9=>?_) (fun h9=>?_))
  ·skip
   refine gR 4 rfl ?_
   rw [show outP n k=true from by simp only [outP,Bool.or_eq_true,decide_eq_true_eq]; omega]
   exact Qk <| Qc rfl rfl rfl (.inr rfl)
  ·skip
   refine gR 4 rfl ?_
   rw [show outP n k=false from by simp only [outP,Bool.or_eq_false_iff,decide_eq_false_iff_not]; omega]
   exact Qk <| Qc rfl rfl rfl (.inr rfl)
def mcv115:MC:=(.seq (.reg [oN 4 (.mv (.c (.int .i64 0))) []] false) (.seq (.seq (.reg [oM 6 0 [],oN 7 (.len (.t 6)) [0],oN 8 (.mv (.c (.int .i64 0))) []] false) (.block 0 (.loop (.seq (.reg [oN 9 (.bin .lss (.t 8) (.t 7)) []] false) (.seq (.cond (.t 9) .skip (.exit 0)) (.seq (.block 1 (.seq (.reg [oM 10 8 [],oM 5 10 [0,0]] false) (.seq (.reg [oM 11 1 [],oM 12 0 [],oM 13 5 [],oN 14 (.ixsl 1 (.t 12) (.t 13)) [1,2],oD 15 1 14 [3],oN 16 (.callv (.t 11) [(.t 15)]) [0,4]] false) (.cond (.t 16) (.seq (.reg [oM 17 5 [],oM 4 17 [0,0]] false) .ret) .skip)))) (.reg [oN 18 (.bin .add (.t 8) (.c (.int .i64 1))) [],oM 8 18 [0]] false))))))) (.seq (.reg [oN 4 (.mv (.c (.int .i64 (-1)))) []] false) .ret)))
theorem mcOkv115:okM Tryz.prog Tryz.f115 19=some mcv115:=by kernel_rfl
theorem vcI_has (b m:Nat) (hs:b+m<=1000) (xs:List Int) (hxn:xs.length<=4611686018427387904):FC Tryz.prog 115 [.rs 1 (xs.map civ),(.bnd (.func 117) (.agg (cP b m)))] [] (.int .i64 (Xs (XA (b,m)) xs 0)) [] false:=by
 refine Qj (nt:=19) Tryz.func115 rfl rfl mcOkv115 (nL rfl) ?_
 delta mcv115
 refine gA 8 rfl (Qh rfl rfl (gR 3 rfl ?_))
 refine Qr (α:=Nat) (fun k=>xs.length-k) (fun k=>[(0,.rs 1 (xs.map civ)),(1,(.bnd (.func 117) (.agg (cP b m)))),(6,.rs 1 (xs.map civ)),(7,iv (xs.length:Int)),(8,iv (((k):Nat):Int))]) (fun k=>[]) (fun k=>k<=xs.length/\Xs (XA (b,m)) (xs.drop k) k=Xs (XA (b,m)) xs 0) 0 (⟨by omega,rfl⟩)
  (Qa (Qb rfl rfl) (.nil) (fun i h=>by cases h)) ?_
 rintro k ⟨hk,hinv⟩
 refine gT 5 rfl (Qe rfl (fun h9=>?_) (fun h9=>?_))
 ·replace h9:=of_decide_eq_true h9
  refine gK 13 rfl ?_
  obtain ⟨x,hxk,hxm⟩:=Qo (L:=xs) (k:=k) (by omega)
  rw [JK hxk] at hinv
  refine Qp (f:=civ) (y:=x) rfl rfl rfl (by omega) hxk (gR 1 rfl (rs_callb [] rfl rfl (by kernel_rfl) rfl (JI (vc117 b m x hs)) (.cons (Qd rfl) (.cons (Qd rfl) .nil)) .nil rfl rfl rfl ?_))
  cases h16:(XA (b,m)) x
  ·skip
   refine gR 4 rfl (Qg rfl rfl rfl (by omega) (gR 2 rfl ?_))
   rw [h16] at hinv
   exact Q8 <| ⟨k+1,⟨by omega,hinv⟩,by omega,Qa (Qb rfl rfl) (.nil) (fun i h=>by cases h)⟩
  ·skip
   refine gR 8 rfl ?_
   rw [h16] at hinv
   rw [← hinv]
   exact Qk <| Qc rfl rfl rfl (.inr rfl)
 ·replace h9:=of_decide_eq_false h9
  refine gK 6 rfl ?_
  rw [Ju (by omega)] at hinv
  rw [← hinv]
  exact Qk <| Qc rfl rfl rfl (.inr rfl)
def mcv65:MC:=(.seq (.reg [oN 4 (.mv (.c (.bool false))) []] false) (.seq (.reg [oM 5 0 [],oM 6 1 [],oN 7 (.call 115 [(.t 5),(.t 6)]) [0,1],oN 8 (.bin .geq (.t 7) (.c (.int .i64 0))) [2],oM 4 8 [3,2,0,1,2,3]] false) .ret))
theorem mcOkv65:okM Tryz.prog Tryz.f65 9=some mcv65:=by kernel_rfl
theorem vcC_has (b m:Nat) (hs:b+m<=1000) (xs:List Int) (hxn:xs.length<=4611686018427387904):FC Tryz.prog 65 [.rs 1 (xs.map civ),(.bnd (.func 117) (.agg (cP b m)))] [] (.bool (xs.any (XA (b,m)))) [] false:=by
 refine Qj (nt:=9) Tryz.func65 rfl rfl mcOkv65 (nL rfl) ?_
 delta mcv65
 refine gA 8 rfl (cN rfl rfl (vcI_has b m hs xs hxn) (gR 0 rfl (Jk rfl rfl rfl (gR 3 rfl ?_))))
 rw [← Jy]
 exact Qk <| Qc rfl rfl rfl (.inr rfl)
theorem vcI_out (n:Nat) (xs:List Int) (hxn:xs.length<=4611686018427387904):FC Tryz.prog 115 [.rs 1 (xs.map civ),(.fn (.func 66) [.rp [iv (n:Int)]])] [] (.int .i64 (Xs (outP n) xs 0)) [] false:=by
 refine Qj (nt:=19) Tryz.func115 rfl rfl mcOkv115 (nL rfl) ?_
 delta mcv115
 refine gA 8 rfl (Qh rfl rfl (gR 3 rfl ?_))
 refine Qr (α:=Nat) (fun k=>xs.length-k) (fun k=>[(0,.rs 1 (xs.map civ)),(1,(.fn (.func 66) [.rp [iv (n:Int)]])),(6,.rs 1 (xs.map civ)),(7,iv (xs.length:Int)),(8,iv (((k):Nat):Int))]) (fun k=>[]) (fun k=>k<=xs.length/\Xs (outP n) (xs.drop k) k=Xs (outP n) xs 0) 0 (⟨by omega,rfl⟩)
  (Qa (Qb rfl rfl) (.nil) (fun i h=>by cases h)) ?_
 rintro k ⟨hk,hinv⟩
 refine gT 5 rfl (Qe rfl (fun h9=>?_) (fun h9=>?_))
 ·replace h9:=of_decide_eq_true h9
  refine gK 13 rfl ?_
  obtain ⟨x,hxk,hxm⟩:=Qo (L:=xs) (k:=k) (by omega)
  rw [JK hxk] at hinv
  refine Qp (f:=civ) (y:=x) rfl rfl rfl (by omega) hxk (gR 1 rfl (Xb [] rfl rfl (by kernel_rfl) rfl (JI (vc66 n x)) (.cons (Qd rfl) (.cons (Qd rfl) (.nil))) .nil rfl rfl rfl ?_))
  cases h16:(outP n) x
  ·skip
   refine gR 4 rfl (Qg rfl rfl rfl (by omega) (gR 2 rfl ?_))
   rw [h16] at hinv
   exact Q8 <| ⟨k+1,⟨by omega,hinv⟩,by omega,Qa (Qb rfl rfl) (.nil) (fun i h=>by cases h)⟩
  ·skip
   refine gR 8 rfl ?_
   rw [h16] at hinv
   rw [← hinv]
   exact Qk <| Qc rfl rfl rfl (.inr rfl)
 ·replace h9:=of_decide_eq_false h9
  refine gK 6 rfl ?_
  rw [Ju (by omega)] at hinv
  rw [← hinv]
  exact Qk <| Qc rfl rfl rfl (.inr rfl)
theorem vcC_out (n:Nat) (xs:List Int) (hxn:xs.length<=4611686018427387904):FC Tryz.prog 65 [.rs 1 (xs.map civ),(.fn (.func 66) [.rp [iv (n:Int)]])] [] (.bool (xs.any (outP n))) [] false:=by
 refine Qj (nt:=9) Tryz.func65 rfl rfl mcOkv65 (nL rfl) ?_
 delta mcv65
 refine gA 8 rfl (cN rfl rfl (vcI_out n xs hxn) (gR 0 rfl (Jk rfl rfl rfl (gR 3 rfl ?_))))
 rw [← Jy]
 exact Qk <| Qc rfl rfl rfl (.inr rfl)
def as116:MC:=(.reg [oN 6 (.alloc 110 2 [(.int .i64 0),(.int .i64 0)]) [],⟨none,(.st 2 (.t 6) (.t 28)),none,[0,0]⟩] false)
def bd116:MC:=(.block 2 (.reg [oD 29 1 4 [],oN 30 (.ld true 2 (.t 6)) [],oN 31 (.callv (.t 29) [(.t 30)]) [0,1]] false))
theorem as116w (n:Nat) (hn:n<=16) (w:List Int) (hw:w.length<=4611686018427387904) (d b c:Nat) (l:List (Nat×Nat)) (hc:c+2^d<=64) (hl:l.length+2^d<=500) (o:Loop) (lb:Nat):AW Tryz.prog 32 [900,1005,903,1006] (some lb) as116 (fun e F' H'=>e = .normal/\Weak 32 [900,1005,903,1006] F' H' [(6,.ptr 6 0 0),(4,.ptr 1006 0 0)] [(900,.lp o [(27,.fn (.func 149) [.rp (cP b (2^(d+1)))]),(4,.ptr 1006 0 0)]),(1005,.cells 107 1 [[.sl 903 0 (l).length]] false),(903,.cells 110 2 ((l).map cSp) true),(1006,.cells 154 1 [[(.fn (.func 116) [.rp [iv (n:Int)],.rp [.rs 1 (w.map civ)],.ptr 1005 0 0,.ptr 1006 0 0])]] false),(6,.cells 110 2 [cP c (2^d)] true)]) [(28,.agg (cP c (2^d))),(27,.fn (.func 149) [.rp (cP b (2^(d+1)))]),(4,.ptr 1006 0 0)] [(900,.lp o [(27,.fn (.func 149) [.rp (cP b (2^(d+1)))]),(4,.ptr 1006 0 0)]),(1005,.cells 107 1 [[.sl 903 0 (l).length]] false),(903,.cells 110 2 ((l).map cSp) true),(1006,.cells 154 1 [[(.fn (.func 116) [.rp [iv (n:Int)],.rp [.rs 1 (w.map civ)],.ptr 1005 0 0,.ptr 1006 0 0])]] false)]:=by
 delta as116
 refine gA 4 rfl ?_
 exact Qk <| ⟨rfl,Qa (Qb rfl rfl) (.keep (rfl) rfl (.keep (rfl) rfl (.keep (rfl) rfl (.keep (rfl) rfl (.keep (rfl) rfl (.nil)))))) (fun i hi=>by simp [Qf] at hi ⊢; omega)⟩
theorem bd116w (n:Nat) (hn:n<=16) (w:List Int) (hw:w.length<=4611686018427387904) (d b c:Nat) (l:List (Nat×Nat)) (hc:c+2^d<=64) (hl:l.length+2^d<=500) (ih:∀ (c:Nat) (l:List (Nat×Nat)),c+2^d<=64->l.length+2^d<=500->FC Tryz.prog 116 [.agg (cP (c) (2^(d))),.rp [iv (n:Int)],.rp [.rs 1 (w.map civ)],.ptr 1005 0 0,.ptr 1006 0 0] [(1005,.cells 107 1 [[.sl 905 0 (l).length]] false),(905,.cells 110 2 ((l).map cSp) true),(1006,.cells 154 1 [[(.fn (.func 116) [.rp [iv (n:Int)],.rp [.rs 1 (w.map civ)],.ptr 1005 0 0,.ptr 1006 0 0])]] false)] (.tup []) [(1005,.cells 107 1 [[.sl 906 0 (l++QW n w d c).length]] false),(906,.cells 110 2 ((l++QW n w d c).map cSp) true),(1006,.cells 154 1 [[(.fn (.func 116) [.rp [iv (n:Int)],.rp [.rs 1 (w.map civ)],.ptr 1005 0 0,.ptr 1006 0 0])]] false),(905,.dead)] true) (o:Loop) (lb:Nat):AW Tryz.prog 32 [900,1005,903,1006] (some lb) bd116 (fun e F' H'=>e = .normal/\Weak 32 [900,1005,903,1006] F' H' [] [(900,.lp o [(27,.fn (.func 149) [.rp (cP b (2^(d+1)))]),(4,.ptr 1006 0 0)]),(1005,.cells 107 1 [[.sl 904 0 (l++QW n w d c).length]] false),(904,.cells 110 2 ((l++QW n w d c).map cSp) true),(1006,.cells 154 1 [[(.fn (.func 116) [.rp [iv (n:Int)],.rp [.rs 1 (w.map civ)],.ptr 1005 0 0,.ptr 1006 0 0])]] false),(903,.dead)]) [(6,.ptr 6 0 0),(4,.ptr 1006 0 0)] [(900,.lp o [(27,.fn (.func 149) [.rp (cP b (2^(d+1)))]),(4,.ptr 1006 0 0)]),(1005,.cells 107 1 [[.sl 903 0 (l).length]] false),(903,.cells 110 2 ((l).map cSp) true),(1006,.cells 154 1 [[(.fn (.func 116) [.rp [iv (n:Int)],.rp [.rs 1 (w.map civ)],.ptr 1005 0 0,.ptr 1006 0 0])]] false),(6,.cells 110 2 [cP c (2^d)] true)]:=by
 delta bd116
 refine gA 1 rfl (QE (F0:=[(6,.ptr 6 0 0),(4,.ptr 1006 0 0)]) (H0:=[(900,.lp o [(27,.fn (.func 149) [.rp (cP b (2^(d+1)))]),(4,.ptr 1006 0 0)]),(1005,.cells 107 1 [[.sl 905 0 (l).length]] false),(905,.cells 110 2 ((l).map cSp) true),(1006,.cells 154 1 [[(.fn (.func 116) [.rp [iv (n:Int)],.rp [.rs 1 (w.map civ)],.ptr 1005 0 0,.ptr 1006 0 0])]] false),(6,.cells 110 2 [cP c (2^d)] true),(903,.dead)]) (Weak.trans (F1:=[(6,.ptr 6 0 0),(4,.ptr 1006 0 0)]) (H1:=[(900,.lp o [(27,.fn (.func 149) [.rp (cP b (2^(d+1)))]),(4,.ptr 1006 0 0)]),(1005,.cells 107 1 [[.sl 903 0 (l).length]] false),(903,.cells 110 2 ((l).map cSp) true),(1006,.cells 154 1 [[(.fn (.func 116) [.rp [iv (n:Int)],.rp [.rs 1 (w.map civ)],.ptr 1005 0 0,.ptr 1006 0 0])]] false),(6,.cells 110 2 [cP c (2^d)] true)]) (Qa (Qb rfl rfl) (.keep (rfl) rfl (.keep (rfl) rfl (.keep (rfl) rfl (.keep (rfl) rfl (.keep (rfl) rfl (.nil)))))) (fun i hi=>by simp [Qf] at hi ⊢; omega)) (Weak.trans (F1:=[(6,.ptr 6 0 0),(4,.ptr 1006 0 0)]) (Qt (i:=903) (i':=905) (k:=1005) rfl rfl (.cons rfl (.same _) (.cons rfl (.same _) (.nil))) (by decide) rfl (.sl _ _)) (Qa (Qb rfl rfl) (.keep (rfl) rfl (.keep (rfl) rfl (.keep (rfl) rfl (.keep (rfl) rfl (.keep (rfl) rfl (.keep (rfl) rfl (.nil))))))) (fun i hi=>by simp [Qf] at hi ⊢; omega)))) (gK 3 rfl (Xb [(1005,.cells 107 1 [[.sl 905 0 (l).length]] false),(905,.cells 110 2 ((l).map cSp) true),(1006,.cells 154 1 [[(.fn (.func 116) [.rp [iv (n:Int)],.rp [.rs 1 (w.map civ)],.ptr 1005 0 0,.ptr 1006 0 0])]] false)] rfl rfl (by kernel_rfl) rfl (ih c l hc hl) (.cons (Qd rfl) (.cons (Qd rfl) (.cons (Qd rfl) (.cons (Qd rfl) (.cons (Qd rfl) (.nil)))))) (.cons rfl (.cons rfl (.cons rfl .nil))) rfl rfl rfl (gR 1 rfl ?_))))
 exact Qk <| ⟨rfl,(Weak.trans (F1:=[]) (H1:=[(900,.lp o [(27,.fn (.func 149) [.rp (cP b (2^(d+1)))]),(4,.ptr 1006 0 0)]),(1005,.cells 107 1 [[.sl 906 0 (l++QW n w d c).length]] false),(906,.cells 110 2 ((l++QW n w d c).map cSp) true),(1006,.cells 154 1 [[(.fn (.func 116) [.rp [iv (n:Int)],.rp [.rs 1 (w.map civ)],.ptr 1005 0 0,.ptr 1006 0 0])]] false),(903,.dead)]) (Qa (.nil) (.keep (rfl) rfl (.keep (rfl) rfl (.keep (rfl) rfl (.keep (rfl) rfl (.keep (rfl) rfl (.nil)))))) (fun i hi=>by simp [Qf] at hi ⊢; omega)) (Weak.trans (F1:=[]) (Qt (i:=906) (i':=904) (k:=1005) rfl rfl (.nil) (by decide) rfl (.sl _ _)) (Qa (.nil) (.keep (rfl) rfl (.keep (rfl) rfl (.keep (rfl) rfl (.keep (rfl) rfl (.keep (rfl) rfl (.nil)))))) (fun i hi=>by simp [Qf] at hi ⊢; omega))))⟩
theorem y116 (n:Nat) (hn:n<=16) (w:List Int) (hw:w.length<=4611686018427387904) (d b c:Nat) (l:List (Nat×Nat)) (hc:c+2^d<=64) (hl:l.length+2^d<=500) (ih:∀ (c:Nat) (l:List (Nat×Nat)),c+2^d<=64->l.length+2^d<=500->FC Tryz.prog 116 [.agg (cP (c) (2^(d))),.rp [iv (n:Int)],.rp [.rs 1 (w.map civ)],.ptr 1005 0 0,.ptr 1006 0 0] [(1005,.cells 107 1 [[.sl 905 0 (l).length]] false),(905,.cells 110 2 ((l).map cSp) true),(1006,.cells 154 1 [[(.fn (.func 116) [.rp [iv (n:Int)],.rp [.rs 1 (w.map civ)],.ptr 1005 0 0,.ptr 1006 0 0])]] false)] (.tup []) [(1005,.cells 107 1 [[.sl 906 0 (l++QW n w d c).length]] false),(906,.cells 110 2 ((l++QW n w d c).map cSp) true),(1006,.cells 154 1 [[(.fn (.func 116) [.rp [iv (n:Int)],.rp [.rs 1 (w.map civ)],.ptr 1005 0 0,.ptr 1006 0 0])]] false),(905,.dead)] true) (r0:Loop) (h:Rec0 Tryz.prog 32 [28] as116 bd116 r0) :
  FCg (XM Tryz.prog) [.yl 900,.agg (cP c (2^d))] [(900,.lp r0 [(27,.fn (.func 149) [.rp (cP b (2^(d+1)))]),(4,.ptr 1006 0 0)]),(1005,.cells 107 1 [[.sl 903 0 (l).length]] false),(903,.cells 110 2 ((l).map cSp) true),(1006,.cells 154 1 [[(.fn (.func 116) [.rp [iv (n:Int)],.rp [.rs 1 (w.map civ)],.ptr 1005 0 0,.ptr 1006 0 0])]] false)] (.bool true) [(900,.lp r0 [(27,.fn (.func 149) [.rp (cP b (2^(d+1)))]),(4,.ptr 1006 0 0)]),(1005,.cells 107 1 [[.sl 904 0 (l++QW n w d c).length]] false),(904,.cells 110 2 ((l++QW n w d c).map cSp) true),(1006,.cells 154 1 [[(.fn (.func 116) [.rp [iv (n:Int)],.rp [.rs 1 (w.map civ)],.ptr 1005 0 0,.ptr 1006 0 0])]] false),(903,.dead)] true:=by
 have:=J9 (P:=Tryz.prog) (F:=[(27,.fn (.func 149) [.rp (cP b (2^(d+1)))]),(4,.ptr 1006 0 0)]) (N:=32) (x:=as116) (y:=bd116) h.ca h.cb (li:=900) (ps:=[28]) (vs:=[.agg (cP c (2^d))]) (J:=[(1005,.cells 107 1 [[.sl 903 0 (l).length]] false),(903,.cells 110 2 ((l).map cSp) true),(1006,.cells 154 1 [[(.fn (.func 116) [.rp [iv (n:Int)],.rp [.rs 1 (w.map civ)],.ptr 1005 0 0,.ptr 1006 0 0])]] false)]) (J1:=[(1005,.cells 107 1 [[.sl 903 0 (l).length]] false),(903,.cells 110 2 ((l).map cSp) true),(1006,.cells 154 1 [[(.fn (.func 116) [.rp [iv (n:Int)],.rp [.rs 1 (w.map civ)],.ptr 1005 0 0,.ptr 1006 0 0])]] false),(6,.cells 110 2 [cP c (2^d)] true)]) (J':=[(1005,.cells 107 1 [[.sl 904 0 (l++QW n w d c).length]] false),(904,.cells 110 2 ((l++QW n w d c).map cSp) true),(1006,.cells 154 1 [[(.fn (.func 116) [.rp [iv (n:Int)],.rp [.rs 1 (w.map civ)],.ptr 1005 0 0,.ptr 1006 0 0])]] false),(903,.dead)]) (Fb:=[(6,.ptr 6 0 0),(4,.ptr 1006 0 0)]) (Z0:=[900,1005,903,1006]) .normal none (.inl ⟨rfl,rfl⟩)
  rfl rfl (fun i hi=>Q7.1 hi) (by simp) (fun i h=>Q7.2 h) (fun i hi=>Q7.1 (by simp [Qf] at hi ⊢; omega)) h.state h.params rfl rfl h.size (fun t v h=>get_mem h) (fun lb o=>as116w n hn w hw d b c l hc hl o lb) (fun lb o=>bd116w n hn w hw d b c l hc hl ih o lb)
 rw [rec_same h.state h.pending] at this
 exact this
def mcv149:MC:=(.seq (.reg [oA 4 1 1 [],oD 5 1 4 [0],oN 6 (.bin .quo (.t 5) (.c (.int .i64 2))) [1],oM 3 6 [2,0,1,2]] false) (.seq (.reg [oM 7 0 [],oA 8 0 1 [],oD 9 1 8 [1],oM 10 3 [],oN 11 (.build [(.int .i64 0),(.int .i64 0)] [(0,(1,(.t 9))),(1,(1,(.t 10)))]) [2,3],oN 12 (.callv (.t 7) [(.t 11)]) [0,4]] false) (.cond (.t 12) (.reg [oM 13 0 [],oA 14 0 1 [],oD 15 1 14 [1],oM 16 3 [],oN 17 (.bin .add (.t 15) (.t 16)) [2,3],oM 18 3 [],oN 19 (.build [(.int .i64 0),(.int .i64 0)] [(0,(1,(.t 17))),(1,(1,(.t 18)))]) [4,5],oN 20 (.callv (.t 13) [(.t 19)]) [0,6]] false) .skip)))
theorem mcOkv149:okM Tryz.prog Tryz.f149 21=some mcv149:=by kernel_rfl
theorem vc149h (n:Nat) (hn:n<=16) (w:List Int) (hw:w.length<=4611686018427387904) (d b:Nat) (l:List (Nat×Nat)) (hb:b+2^(d+1)<=64) (hl:l.length+2^(d+1)<=500) (r0:Loop) (hy:∀ (c:Nat) (l:List (Nat×Nat)),c+2^d<=64->l.length+2^d<=500->FCg (XM Tryz.prog) [.yl 900,.agg (cP c (2^d))] [(900,.lp r0 [(27,.fn (.func 149) [.rp (cP b (2^(d+1)))]),(4,.ptr 1006 0 0)]),(1005,.cells 107 1 [[.sl 903 0 (l).length]] false),(903,.cells 110 2 ((l).map cSp) true),(1006,.cells 154 1 [[(.fn (.func 116) [.rp [iv (n:Int)],.rp [.rs 1 (w.map civ)],.ptr 1005 0 0,.ptr 1006 0 0])]] false)] (.bool true) [(900,.lp r0 [(27,.fn (.func 149) [.rp (cP b (2^(d+1)))]),(4,.ptr 1006 0 0)]),(1005,.cells 107 1 [[.sl 904 0 (l++QW n w d c).length]] false),(904,.cells 110 2 ((l++QW n w d c).map cSp) true),(1006,.cells 154 1 [[(.fn (.func 116) [.rp [iv (n:Int)],.rp [.rs 1 (w.map civ)],.ptr 1005 0 0,.ptr 1006 0 0])]] false),(903,.dead)] true):FC Tryz.prog 149 [.yl 900,.rp (cP b (2^(d+1)))] [(900,.lp r0 [(27,.fn (.func 149) [.rp (cP b (2^(d+1)))]),(4,.ptr 1006 0 0)]),(1005,.cells 107 1 [[.sl 901 0 (l).length]] false),(901,.cells 110 2 ((l).map cSp) true),(1006,.cells 154 1 [[(.fn (.func 116) [.rp [iv (n:Int)],.rp [.rs 1 (w.map civ)],.ptr 1005 0 0,.ptr 1006 0 0])]] false)] (.tup []) [(900,.lp r0 [(27,.fn (.func 149) [.rp (cP b (2^(d+1)))]),(4,.ptr 1006 0 0)]),(1005,.cells 107 1 [[.sl 903 0 (l++QW n w d b++QW n w d (b+2^d)).length]] false),(903,.cells 110 2 ((l++QW n w d b++QW n w d (b+2^d)).map cSp) true),(1006,.cells 154 1 [[(.fn (.func 116) [.rp [iv (n:Int)],.rp [.rs 1 (w.map civ)],.ptr 1005 0 0,.ptr 1006 0 0])]] false),(901,.dead)] true:=by
 have hpw:=pow2 d
 have h1l:=hidS_len n w d b
 have h2l:(l++QW n w d b).length=l.length+(QW n w d b).length:=List.length_append
 refine Qj (nt:=21) Tryz.func149 rfl rfl mcOkv149 (nL rfl) ?_
 delta mcv149
 refine aw_post (gA 4 rfl (Xm rfl rfl rfl (by decide) (quo2W hpw (by omega)) (gR 3 rfl (QE (F0:=[(0,.yl 900),(1,.rp (cP b (2^(d+1)))),(3,iv ((2^d:Nat):Int))]) (H0:=[(900,.lp r0 [(27,.fn (.func 149) [.rp (cP b (2^(d+1)))]),(4,.ptr 1006 0 0)]),(1005,.cells 107 1 [[.sl 903 0 (l).length]] false),(903,.cells 110 2 ((l).map cSp) true),(1006,.cells 154 1 [[(.fn (.func 116) [.rp [iv (n:Int)],.rp [.rs 1 (w.map civ)],.ptr 1005 0 0,.ptr 1006 0 0])]] false),(901,.dead)]) (Weak.trans (F1:=[(0,.yl 900),(1,.rp (cP b (2^(d+1)))),(3,iv ((2^d:Nat):Int))]) (H1:=[(900,.lp r0 [(27,.fn (.func 149) [.rp (cP b (2^(d+1)))]),(4,.ptr 1006 0 0)]),(1005,.cells 107 1 [[.sl 901 0 (l).length]] false),(901,.cells 110 2 ((l).map cSp) true),(1006,.cells 154 1 [[(.fn (.func 116) [.rp [iv (n:Int)],.rp [.rs 1 (w.map civ)],.ptr 1005 0 0,.ptr 1006 0 0])]] false)]) (Qa (Qb rfl rfl) (.keep (rfl) rfl (.keep (rfl) rfl (.keep (rfl) rfl (.keep (rfl) rfl (.nil))))) (fun i hi=>by simp [Qf] at hi ⊢; omega)) (Weak.trans (F1:=[(0,.yl 900),(1,.rp (cP b (2^(d+1)))),(3,iv ((2^d:Nat):Int))]) (Qt (i:=901) (i':=903) (k:=1005) rfl rfl (.cons rfl (.same _) (.cons rfl (.same _) (.cons rfl (.same _) (.nil)))) (by decide) rfl (.sl _ _)) (Qa (Qb rfl rfl) (.keep (rfl) rfl (.keep (rfl) rfl (.keep (rfl) rfl (.keep (rfl) rfl (.keep (rfl) rfl (.nil)))))) (fun i hi=>by simp [Qf] at hi ⊢; omega)))) (gK 6 rfl (JG [(900,.lp r0 [(27,.fn (.func 149) [.rp (cP b (2^(d+1)))]),(4,.ptr 1006 0 0)]),(1005,.cells 107 1 [[.sl 903 0 (l).length]] false),(903,.cells 110 2 ((l).map cSp) true),(1006,.cells 154 1 [[(.fn (.func 116) [.rp [iv (n:Int)],.rp [.rs 1 (w.map civ)],.ptr 1005 0 0,.ptr 1006 0 0])]] false)] rfl rfl rfl (hy b l (by omega) (by omega)) (.cons (Qd rfl) (.cons (Qd rfl) (.nil))) (.cons rfl (.cons rfl (.cons rfl (.cons rfl (.nil))))) rfl rfl rfl (gR 2 rfl (QE (F0:=[(0,.yl 900),(1,.rp (cP b (2^(d+1)))),(3,iv ((2^d:Nat):Int))]) (H0:=[(900,.lp r0 [(27,.fn (.func 149) [.rp (cP b (2^(d+1)))]),(4,.ptr 1006 0 0)]),(1005,.cells 107 1 [[.sl 903 0 (l++QW n w d b).length]] false),(903,.cells 110 2 ((l++QW n w d b).map cSp) true),(1006,.cells 154 1 [[(.fn (.func 116) [.rp [iv (n:Int)],.rp [.rs 1 (w.map civ)],.ptr 1005 0 0,.ptr 1006 0 0])]] false),(901,.dead)]) (Weak.trans (F1:=[(0,.yl 900),(1,.rp (cP b (2^(d+1)))),(3,iv ((2^d:Nat):Int))]) (H1:=[(900,.lp r0 [(27,.fn (.func 149) [.rp (cP b (2^(d+1)))]),(4,.ptr 1006 0 0)]),(1005,.cells 107 1 [[.sl 904 0 (l++QW n w d b).length]] false),(904,.cells 110 2 ((l++QW n w d b).map cSp) true),(1006,.cells 154 1 [[(.fn (.func 116) [.rp [iv (n:Int)],.rp [.rs 1 (w.map civ)],.ptr 1005 0 0,.ptr 1006 0 0])]] false),(901,.dead)]) (Qa (Qb rfl rfl) (.keep (rfl) rfl (.keep (rfl) rfl (.keep (rfl) rfl (.keep (rfl) rfl (.keep (rfl) rfl (.nil)))))) (fun i hi=>by simp [Qf] at hi ⊢; omega)) (Weak.trans (F1:=[(0,.yl 900),(1,.rp (cP b (2^(d+1)))),(3,iv ((2^d:Nat):Int))]) (Qt (i:=904) (i':=903) (k:=1005) rfl rfl (.cons rfl (.same _) (.cons rfl (.same _) (.cons rfl (.same _) (.nil)))) (by decide) rfl (.sl _ _)) (Qa (Qb rfl rfl) (.keep (rfl) rfl (.keep (rfl) rfl (.keep (rfl) rfl (.keep (rfl) rfl (.keep (rfl) rfl (.nil)))))) (fun i hi=>by simp [Qf] at hi ⊢; omega)))) (gK 5 rfl (QH (c:=((b+2^d:Nat):Int)) rfl rfl rfl (addNW (by omega)) (gR 2 rfl ?_)))))))))))
 refine JG [(900,.lp r0 [(27,.fn (.func 149) [.rp (cP b (2^(d+1)))]),(4,.ptr 1006 0 0)]),(1005,.cells 107 1 [[.sl 903 0 (l++QW n w d b).length]] false),(903,.cells 110 2 ((l++QW n w d b).map cSp) true),(1006,.cells 154 1 [[(.fn (.func 116) [.rp [iv (n:Int)],.rp [.rs 1 (w.map civ)],.ptr 1005 0 0,.ptr 1006 0 0])]] false)] rfl rfl rfl (hy (b+2^d) (l++QW n w d b) (by omega) (by omega)) (.cons (Qd rfl) (.cons (Qd rfl) (.nil))) (.cons rfl (.cons rfl (.cons rfl (.cons rfl (.nil))))) rfl rfl rfl (gR 1 rfl ?_)
 exact Qk <| ⟨[],[(900,.lp r0 [(27,.fn (.func 149) [.rp (cP b (2^(d+1)))]),(4,.ptr 1006 0 0)]),(1005,.cells 107 1 [[.sl 903 0 (l++QW n w d b++QW n w d (b+2^d)).length]] false),(903,.cells 110 2 ((l++QW n w d b++QW n w d (b+2^d)).map cSp) true),(1006,.cells 154 1 [[(.fn (.func 116) [.rp [iv (n:Int)],.rp [.rs 1 (w.map civ)],.ptr 1005 0 0,.ptr 1006 0 0])]] false),(901,.dead)],(Weak.trans (F1:=[]) (H1:=[(900,.lp r0 [(27,.fn (.func 149) [.rp (cP b (2^(d+1)))]),(4,.ptr 1006 0 0)]),(1005,.cells 107 1 [[.sl 904 0 (l++QW n w d b++QW n w d (b+2^d)).length]] false),(904,.cells 110 2 ((l++QW n w d b++QW n w d (b+2^d)).map cSp) true),(1006,.cells 154 1 [[(.fn (.func 116) [.rp [iv (n:Int)],.rp [.rs 1 (w.map civ)],.ptr 1005 0 0,.ptr 1006 0 0])]] false),(901,.dead)]) (Qa (.nil) (.keep (rfl) rfl (.keep (rfl) rfl (.keep (rfl) rfl (.keep (rfl) rfl (.keep (rfl) rfl (.nil)))))) (fun i hi=>by simp [Qf] at hi ⊢; omega)) (Weak.trans (F1:=[]) (Qt (i:=904) (i':=903) (k:=1005) rfl rfl (.nil) (by decide) rfl (.sl _ _)) (Qa (.nil) (.keep (rfl) rfl (.keep (rfl) rfl (.keep (rfl) rfl (.keep (rfl) rfl (.keep (rfl) rfl (.nil)))))) (fun i hi=>by simp [Qf] at hi ⊢; omega)))),XL (.inl rfl) rfl sm (.keep (rfl) rfl (.keep (rfl) rfl (.keep (rfl) rfl (.keep (rfl) rfl (.keep (rfl) rfl (.nil)))))) (.cons rfl rfl rfl (.cons rfl rfl rfl (.dead rfl rfl (.cons rfl rfl rfl (.nil)))))⟩
end Go.Proofs.YthfhaoogcpfboaaGreat
namespace Go.Proofs.YthfhaoogcpfboaaGreat
open Go.RowKit
set_option maxRecDepth 100000
set_option linter.unusedVariables false
theorem hid_0 {n:Nat} {w:List Int} {d b:Nat} (h:n<=b):QW n w d b=[]:=by cases d <;> simp [QW,hid1,h]
theorem hid_1 {n:Nat} {w:List Int} {d b:Nat} (h:¬ n<=b) (hw:w.any (XA (b,2^d))=false):QW n w d b=[(b,2^d)]:=by cases d <;> simp only [QW,hid1,if_neg h,hw] <;> rfl
theorem hid_2 {n:Nat} {w:List Int} {b:Nat} (h:¬ n<=b) (hw:w.any (XA (b,2^0))=true):QW n w 0 b=[]:=by simp only [QW,hid1,if_neg h,hw]; rfl
theorem hid_3 {n:Nat} {w:List Int} {d b:Nat} (h:¬ n<=b) (hw:w.any (XA (b,2^(d+1)))=true):QW n w (d+1) b=QW n w d b++QW n w d (b+2^d):=by simp only [QW,hid1,if_neg h,hw]; rfl
theorem Xz {α:Type} (l:List α) (x:α):(l++[x]).length=l.length+1:=by simp
theorem app_nil_c {α:Type} (l:List α):l++[]=l:=List.append_nil l
def mcv116:MC:=(.seq (.reg [oN 5 (.box 110 2 (.t 0)) []] false) (.block 0 (.seq (.reg [oA 8 0 5 [],oD 9 1 8 [0],oD 10 1 1 [],oN 11 (.bin .geq (.t 9) (.t 10)) [1,2],oM 7 11 [3]] false) (.cond (.t 7) .skip (.seq (.reg [oD 13 1 2 [],oN 14 (.ld true 2 (.t 5)) [],oN 15 (.mkbnd 117 (.t 14)) [1],oN 16 (.call 65 [(.t 13),(.t 15)]) [0,2],oN 17 (.un .not (.t 16)) [3],oM 12 17 [4,3]] false) (.cond (.t 12) (.reg [oD 18 1 3 [],oN 19 (.ld true 2 (.t 5)) [],oN 20 (.bslice 110 2 [(.int .i64 0),(.int .i64 0)] 1 [(0,(.t 19))]) [1],oN 21 (.app 110 2 16 [(.int .i64 0),(.int .i64 0)] (.t 18) (.t 20)) [0,2],⟨none,(.st 1 (.t 3) (.t 21)),none,[3,3,0,1,2,3]⟩] false) (.seq (.reg [oA 23 1 5 [],oD 24 1 23 [0],oN 25 (.bin .gtr (.t 24) (.c (.int .i64 1))) [1],oM 22 25 [2]] false) (.cond (.t 22) (.seq (.reg [oN 26 (.ld true 2 (.t 5)) [],oN 27 (.call 118 [(.t 26)]) [0]] false) (.block 1 (.rfunc (.t 27) [28] (.reg [oN 6 (.alloc 110 2 [(.int .i64 0),(.int .i64 0)]) [],⟨none,(.st 2 (.t 6) (.t 28)),none,[0,0]⟩] false) (.block 2 (.reg [oD 29 1 4 [],oN 30 (.ld true 2 (.t 6)) [],oN 31 (.callv (.t 29) [(.t 30)]) [0,1]] false))))) .skip))))))))
theorem mcOkv116:okM Tryz.prog Tryz.f116 32=some mcv116:=by kernel_rfl
theorem vc116_0 (n:Nat) (hn:n<=16) (w:List Int) (hw:w.length<=4611686018427387904) (b:Nat) (l:List (Nat×Nat)) (hb:b+2^0<=64) (hl:l.length+2^0<=500):FC Tryz.prog 116 [.agg (cP (b) (2^(0))),.rp [iv (n:Int)],.rp [.rs 1 (w.map civ)],.ptr 1005 0 0,.ptr 1006 0 0] [(1005,.cells 107 1 [[.sl 905 0 (l).length]] false),(905,.cells 110 2 ((l).map cSp) true),(1006,.cells 154 1 [[(.fn (.func 116) [.rp [iv (n:Int)],.rp [.rs 1 (w.map civ)],.ptr 1005 0 0,.ptr 1006 0 0])]] false)] (.tup []) [(1005,.cells 107 1 [[.sl 906 0 (l++QW n w (0) b).length]] false),(906,.cells 110 2 ((l++QW n w (0) b).map cSp) true),(1006,.cells 154 1 [[(.fn (.func 116) [.rp [iv (n:Int)],.rp [.rs 1 (w.map civ)],.ptr 1005 0 0,.ptr 1006 0 0])]] false),(905,.dead)] true:=by
 refine Qj (nt:=32) Tryz.func116 rfl rfl mcOkv116 (nL rfl) ?_
 delta mcv116
 refine aw_post (gA 10 rfl (Jk rfl rfl rfl (gR 2 rfl (Qe rfl (fun h7=>?_) (fun h7=>?_)))))
 ·replace h7:=of_decide_eq_true h7
  refine gK 1 rfl ?_
  rw [hid_0 (d:=0) (by omega),app_nil_c]
  exact Qk <| ⟨[],[(1005,.cells 107 1 [[.sl 906 0 (l).length]] false),(906,.cells 110 2 ((l).map cSp) true),(1006,.cells 154 1 [[(.fn (.func 116) [.rp [iv (n:Int)],.rp [.rs 1 (w.map civ)],.ptr 1005 0 0,.ptr 1006 0 0])]] false),(905,.dead)],(Weak.trans (F1:=[]) (H1:=[(1005,.cells 107 1 [[.sl 905 0 (l).length]] false),(905,.cells 110 2 ((l).map cSp) true),(1006,.cells 154 1 [[(.fn (.func 116) [.rp [iv (n:Int)],.rp [.rs 1 (w.map civ)],.ptr 1005 0 0,.ptr 1006 0 0])]] false)]) (Qa (.nil) (.keep (rfl) rfl (.keep (rfl) rfl (.keep (rfl) rfl (.nil)))) (fun i hi=>by simp [Qf] at hi ⊢; omega)) (Weak.trans (F1:=[]) (Qt (i:=905) (i':=906) (k:=1005) rfl rfl (.nil) (by decide) rfl (.sl _ _)) (Qa (.nil) (.keep (rfl) rfl (.keep (rfl) rfl (.keep (rfl) rfl (.keep (rfl) rfl (.nil))))) (fun i hi=>by simp [Qf] at hi ⊢; omega)))),XL (.inl rfl) rfl sm (.keep (rfl) rfl (.keep (rfl) rfl (.keep (rfl) rfl (.keep (rfl) rfl (.nil))))) (.cons rfl rfl rfl (.dead rfl rfl (.cons rfl rfl rfl (.nil))))⟩
 ·replace h7:=of_decide_eq_false h7
  refine gK 4 rfl (rs_mkbnd rfl rfl (gR 0 rfl (cN rfl rfl (vcC_has b (2^(0)) (by omega) w hw) ?_)))
  cases h16:w.any (XA (b,2^(0)))
  ·skip
   refine gR 7 rfl (Qi (l:=(([(b,2^(0))]:List (Nat×Nat))).flatMap cSp) (els:=(([(b,2^(0))]:List (Nat×Nat))).map cSp) (fl:=true) rfl (by kernel_rfl) rfl rfl (by kernel_rfl) (by kernel_rfl) (gR 0 rfl (QB (f:=cSp) (xs:=l) (y:=(b,2^(0))) (fl':=true) rfl rfl rfl rfl rfl rfl rfl rfl (by decide) rfl (by omega) (by omega) rfl (gR 2 rfl ?_))))
   rw [hid_1 (d:=0) (by omega) h16]
   exact Qk <| ⟨[],[(1005,.cells 107 1 [[.sl 906 0 (l++[(b,2^(0))]).length]] false),(906,.cells 110 2 ((l++[(b,2^(0))]).map cSp) true),(1006,.cells 154 1 [[(.fn (.func 116) [.rp [iv (n:Int)],.rp [.rs 1 (w.map civ)],.ptr 1005 0 0,.ptr 1006 0 0])]] false),(905,.dead)],(Weak.trans (F1:=[]) (H1:=[(1005,.cells 107 1 [[.sl 21 0 (l++[(b,2^(0))]).length]] false),(21,.cells 110 2 ((l++[(b,2^(0))]).map cSp) true),(1006,.cells 154 1 [[(.fn (.func 116) [.rp [iv (n:Int)],.rp [.rs 1 (w.map civ)],.ptr 1005 0 0,.ptr 1006 0 0])]] false),(905,.dead)]) (Qa (.nil) (.keep (by rw [Xz]; rfl) rfl (.keep (rfl) rfl (.keep (rfl) rfl (.keep (rfl) rfl (.nil))))) (fun i hi=>by simp [Qf] at hi ⊢; omega)) (Weak.trans (F1:=[]) (Qt (i:=21) (i':=906) (k:=1005) rfl rfl (.nil) (by decide) rfl (.sl _ _)) (Qa (.nil) (.keep (rfl) rfl (.keep (rfl) rfl (.keep (rfl) rfl (.keep (rfl) rfl (.nil))))) (fun i hi=>by simp [Qf] at hi ⊢; omega)))),XL (.inl rfl) rfl sm (.keep (rfl) rfl (.keep (rfl) rfl (.keep (rfl) rfl (.keep (rfl) rfl (.nil))))) (.cons rfl rfl rfl (.dead rfl rfl (.cons rfl rfl rfl (.nil))))⟩
  ·skip
   refine gR 8 rfl (Xd rfl rfl rfl rfl (by decide) (gR 4 rfl ?_))
   rw [hid_2 (by omega) h16,app_nil_c]
   exact Qk <| ⟨[],[(1005,.cells 107 1 [[.sl 906 0 (l).length]] false),(906,.cells 110 2 ((l).map cSp) true),(1006,.cells 154 1 [[(.fn (.func 116) [.rp [iv (n:Int)],.rp [.rs 1 (w.map civ)],.ptr 1005 0 0,.ptr 1006 0 0])]] false),(905,.dead)],(Weak.trans (F1:=[]) (H1:=[(1005,.cells 107 1 [[.sl 905 0 (l).length]] false),(905,.cells 110 2 ((l).map cSp) true),(1006,.cells 154 1 [[(.fn (.func 116) [.rp [iv (n:Int)],.rp [.rs 1 (w.map civ)],.ptr 1005 0 0,.ptr 1006 0 0])]] false)]) (Qa (.nil) (.keep (rfl) rfl (.keep (rfl) rfl (.keep (rfl) rfl (.nil)))) (fun i hi=>by simp [Qf] at hi ⊢; omega)) (Weak.trans (F1:=[]) (Qt (i:=905) (i':=906) (k:=1005) rfl rfl (.nil) (by decide) rfl (.sl _ _)) (Qa (.nil) (.keep (rfl) rfl (.keep (rfl) rfl (.keep (rfl) rfl (.keep (rfl) rfl (.nil))))) (fun i hi=>by simp [Qf] at hi ⊢; omega)))),XL (.inl rfl) rfl sm (.keep (rfl) rfl (.keep (rfl) rfl (.keep (rfl) rfl (.keep (rfl) rfl (.nil))))) (.cons rfl rfl rfl (.dead rfl rfl (.cons rfl rfl rfl (.nil))))⟩
theorem vc116_s (n:Nat) (hn:n<=16) (w:List Int) (hw:w.length<=4611686018427387904) (d b:Nat) (l:List (Nat×Nat)) (hb:b+2^(d+1)<=64) (hl:l.length+2^(d+1)<=500) (ih:∀ (c:Nat) (l:List (Nat×Nat)),c+2^d<=64->l.length+2^d<=500->FC Tryz.prog 116 [.agg (cP (c) (2^(d))),.rp [iv (n:Int)],.rp [.rs 1 (w.map civ)],.ptr 1005 0 0,.ptr 1006 0 0] [(1005,.cells 107 1 [[.sl 905 0 (l).length]] false),(905,.cells 110 2 ((l).map cSp) true),(1006,.cells 154 1 [[(.fn (.func 116) [.rp [iv (n:Int)],.rp [.rs 1 (w.map civ)],.ptr 1005 0 0,.ptr 1006 0 0])]] false)] (.tup []) [(1005,.cells 107 1 [[.sl 906 0 (l++QW n w d c).length]] false),(906,.cells 110 2 ((l++QW n w d c).map cSp) true),(1006,.cells 154 1 [[(.fn (.func 116) [.rp [iv (n:Int)],.rp [.rs 1 (w.map civ)],.ptr 1005 0 0,.ptr 1006 0 0])]] false),(905,.dead)] true):FC Tryz.prog 116 [.agg (cP (b) (2^(d+1))),.rp [iv (n:Int)],.rp [.rs 1 (w.map civ)],.ptr 1005 0 0,.ptr 1006 0 0] [(1005,.cells 107 1 [[.sl 905 0 (l).length]] false),(905,.cells 110 2 ((l).map cSp) true),(1006,.cells 154 1 [[(.fn (.func 116) [.rp [iv (n:Int)],.rp [.rs 1 (w.map civ)],.ptr 1005 0 0,.ptr 1006 0 0])]] false)] (.tup []) [(1005,.cells 107 1 [[.sl 906 0 (l++QW n w (d+1) b).length]] false),(906,.cells 110 2 ((l++QW n w (d+1) b).map cSp) true),(1006,.cells 154 1 [[(.fn (.func 116) [.rp [iv (n:Int)],.rp [.rs 1 (w.map civ)],.ptr 1005 0 0,.ptr 1006 0 0])]] false),(905,.dead)] true:=by
 have hpw:=pow2 d
 have hp1:=Nat.two_pow_pos d
 refine Qj (nt:=32) Tryz.func116 rfl rfl mcOkv116 (nL rfl) ?_
 delta mcv116
 refine aw_post (gA 10 rfl (Jk rfl rfl rfl (gR 2 rfl (Qe rfl (fun h7=>?_) (fun h7=>?_)))))
 ·replace h7:=of_decide_eq_true h7
  refine gK 1 rfl ?_
  rw [hid_0 (d:=d+1) (by omega),app_nil_c]
  exact Qk <| ⟨[],[(1005,.cells 107 1 [[.sl 906 0 (l).length]] false),(906,.cells 110 2 ((l).map cSp) true),(1006,.cells 154 1 [[(.fn (.func 116) [.rp [iv (n:Int)],.rp [.rs 1 (w.map civ)],.ptr 1005 0 0,.ptr 1006 0 0])]] false),(905,.dead)],(Weak.trans (F1:=[]) (H1:=[(1005,.cells 107 1 [[.sl 905 0 (l).length]] false),(905,.cells 110 2 ((l).map cSp) true),(1006,.cells 154 1 [[(.fn (.func 116) [.rp [iv (n:Int)],.rp [.rs 1 (w.map civ)],.ptr 1005 0 0,.ptr 1006 0 0])]] false)]) (Qa (.nil) (.keep (rfl) rfl (.keep (rfl) rfl (.keep (rfl) rfl (.nil)))) (fun i hi=>by simp [Qf] at hi ⊢; omega)) (Weak.trans (F1:=[]) (Qt (i:=905) (i':=906) (k:=1005) rfl rfl (.nil) (by decide) rfl (.sl _ _)) (Qa (.nil) (.keep (rfl) rfl (.keep (rfl) rfl (.keep (rfl) rfl (.keep (rfl) rfl (.nil))))) (fun i hi=>by simp [Qf] at hi ⊢; omega)))),XL (.inl rfl) rfl sm (.keep (rfl) rfl (.keep (rfl) rfl (.keep (rfl) rfl (.keep (rfl) rfl (.nil))))) (.cons rfl rfl rfl (.dead rfl rfl (.cons rfl rfl rfl (.nil))))⟩
 ·replace h7:=of_decide_eq_false h7
  refine gK 4 rfl (rs_mkbnd rfl rfl (gR 0 rfl (cN rfl rfl (vcC_has b (2^(d+1)) (by omega) w hw) ?_)))
  cases h16:w.any (XA (b,2^(d+1)))
  ·skip
   refine gR 7 rfl (Qi (l:=(([(b,2^(d+1))]:List (Nat×Nat))).flatMap cSp) (els:=(([(b,2^(d+1))]:List (Nat×Nat))).map cSp) (fl:=true) rfl (by kernel_rfl) rfl rfl (by kernel_rfl) (by kernel_rfl) (gR 0 rfl (QB (f:=cSp) (xs:=l) (y:=(b,2^(d+1))) (fl':=true) rfl rfl rfl rfl rfl rfl rfl rfl (by decide) rfl (by omega) (by omega) rfl (gR 2 rfl ?_))))
   rw [hid_1 (d:=d+1) (by omega) h16]
   exact Qk <| ⟨[],[(1005,.cells 107 1 [[.sl 906 0 (l++[(b,2^(d+1))]).length]] false),(906,.cells 110 2 ((l++[(b,2^(d+1))]).map cSp) true),(1006,.cells 154 1 [[(.fn (.func 116) [.rp [iv (n:Int)],.rp [.rs 1 (w.map civ)],.ptr 1005 0 0,.ptr 1006 0 0])]] false),(905,.dead)],(Weak.trans (F1:=[]) (H1:=[(1005,.cells 107 1 [[.sl 21 0 (l++[(b,2^(d+1))]).length]] false),(21,.cells 110 2 ((l++[(b,2^(d+1))]).map cSp) true),(1006,.cells 154 1 [[(.fn (.func 116) [.rp [iv (n:Int)],.rp [.rs 1 (w.map civ)],.ptr 1005 0 0,.ptr 1006 0 0])]] false),(905,.dead)]) (Qa (.nil) (.keep (by rw [Xz]; rfl) rfl (.keep (rfl) rfl (.keep (rfl) rfl (.keep (rfl) rfl (.nil))))) (fun i hi=>by simp [Qf] at hi ⊢; omega)) (Weak.trans (F1:=[]) (Qt (i:=21) (i':=906) (k:=1005) rfl rfl (.nil) (by decide) rfl (.sl _ _)) (Qa (.nil) (.keep (rfl) rfl (.keep (rfl) rfl (.keep (rfl) rfl (.keep (rfl) rfl (.nil))))) (fun i hi=>by simp [Qf] at hi ⊢; omega)))),XL (.inl rfl) rfl sm (.keep (rfl) rfl (.keep (rfl) rfl (.keep (rfl) rfl (.keep (rfl) rfl (.nil))))) (.cons rfl rfl rfl (.dead rfl rfl (.cons rfl rfl rfl (.nil))))⟩
  ·skip
   refine gR 8 rfl (Js rfl rfl rfl rfl (by omega) (gR 6 rfl (Q1 [] rfl rfl (vc118 (b,2^(d+1))) (.cons (Qd rfl) .nil) .nil rfl rfl rfl (gR 2 rfl (QE (F0:=[(27,.fn (.func 149) [.rp (cP b (2^(d+1)))]),(4,.ptr 1006 0 0)]) (H0:=[(1005,.cells 107 1 [[.sl 901 0 (l).length]] false),(901,.cells 110 2 ((l).map cSp) true),(1006,.cells 154 1 [[(.fn (.func 116) [.rp [iv (n:Int)],.rp [.rs 1 (w.map civ)],.ptr 1005 0 0,.ptr 1006 0 0])]] false),(905,.dead)]) (Weak.trans (F1:=[(27,.fn (.func 149) [.rp (cP b (2^(d+1)))]),(4,.ptr 1006 0 0)]) (H1:=[(1005,.cells 107 1 [[.sl 905 0 (l).length]] false),(905,.cells 110 2 ((l).map cSp) true),(1006,.cells 154 1 [[(.fn (.func 116) [.rp [iv (n:Int)],.rp [.rs 1 (w.map civ)],.ptr 1005 0 0,.ptr 1006 0 0])]] false)]) (Qa (Qb rfl rfl) (.keep (rfl) rfl (.keep (rfl) rfl (.keep (rfl) rfl (.nil)))) (fun i hi=>by simp [Qf] at hi ⊢; omega)) (Weak.trans (F1:=[(27,.fn (.func 149) [.rp (cP b (2^(d+1)))]),(4,.ptr 1006 0 0)]) (Qt (i:=905) (i':=901) (k:=1005) rfl rfl (.cons rfl (.same _) (.cons rfl (.same _) (.nil))) (by decide) rfl (.sl _ _)) (Qa (Qb rfl rfl) (.keep (rfl) rfl (.keep (rfl) rfl (.keep (rfl) rfl (.keep (rfl) rfl (.nil))))) (fun i hi=>by simp [Qf] at hi ⊢; omega)))) (aw_rfunc 900 [(1005,.cells 107 1 [[.sl 901 0 (l).length]] false),(901,.cells 110 2 ((l).map cSp) true),(1006,.cells 154 1 [[(.fn (.func 116) [.rp [iv (n:Int)],.rp [.rs 1 (w.map civ)],.ptr 1005 0 0,.ptr 1006 0 0])]] false)] [(1005,.cells 107 1 [[.sl 903 0 (l++QW n w d b++QW n w d (b+2^d)).length]] false),(903,.cells 110 2 ((l++QW n w d b++QW n w d (b+2^d)).map cSp) true),(1006,.cells 154 1 [[(.fn (.func 116) [.rp [iv (n:Int)],.rp [.rs 1 (w.map civ)],.ptr 1005 0 0,.ptr 1006 0 0])]] false),(901,.dead)] (.inl ⟨rfl,rfl⟩) rfl (by kernel_rfl) rfl rfl rfl (.cons rfl (.cons rfl (.cons rfl (.nil)))) rfl rfl rfl rfl (fun r0 hrec=>⟨r0,(by rw [hrec.state]; intro h; cases h),hrec.pending,vc149h n hn w hw d b l hb hl r0 (fun c l hc hl=>y116 n hn w hw d b c l hc hl ih r0 hrec)⟩) (gP 0 rfl ?_)))))))
   rw [hid_3 (by omega) h16,← List.append_assoc]
   exact Qk <| ⟨[],[(1005,.cells 107 1 [[.sl 906 0 (l++QW n w d b++QW n w d (b+2^d)).length]] false),(906,.cells 110 2 ((l++QW n w d b++QW n w d (b+2^d)).map cSp) true),(1006,.cells 154 1 [[(.fn (.func 116) [.rp [iv (n:Int)],.rp [.rs 1 (w.map civ)],.ptr 1005 0 0,.ptr 1006 0 0])]] false),(905,.dead)],(Weak.trans (F1:=[]) (H1:=[(1005,.cells 107 1 [[.sl 903 0 (l++QW n w d b++QW n w d (b+2^d)).length]] false),(903,.cells 110 2 ((l++QW n w d b++QW n w d (b+2^d)).map cSp) true),(1006,.cells 154 1 [[(.fn (.func 116) [.rp [iv (n:Int)],.rp [.rs 1 (w.map civ)],.ptr 1005 0 0,.ptr 1006 0 0])]] false),(905,.dead)]) (Qa (.nil) (.keep (rfl) rfl (.keep (rfl) rfl (.keep (rfl) rfl (.keep (rfl) rfl (.nil))))) (fun i hi=>by simp [Qf] at hi ⊢; omega)) (Weak.trans (F1:=[]) (Qt (i:=903) (i':=906) (k:=1005) rfl rfl (.nil) (by decide) rfl (.sl _ _)) (Qa (.nil) (.keep (rfl) rfl (.keep (rfl) rfl (.keep (rfl) rfl (.keep (rfl) rfl (.nil))))) (fun i hi=>by simp [Qf] at hi ⊢; omega)))),XL (.inl rfl) rfl sm (.keep (rfl) rfl (.keep (rfl) rfl (.keep (rfl) rfl (.keep (rfl) rfl (.nil))))) (.cons rfl rfl rfl (.dead rfl rfl (.cons rfl rfl rfl (.nil))))⟩
theorem vc116 (n:Nat) (hn:n<=16) (w:List Int) (hw:w.length<=4611686018427387904):∀ (d b:Nat) (l:List (Nat×Nat)),b+2^d<=64->l.length+2^d<=500->FC Tryz.prog 116 [.agg (cP (b) (2^(d))),.rp [iv (n:Int)],.rp [.rs 1 (w.map civ)],.ptr 1005 0 0,.ptr 1006 0 0] [(1005,.cells 107 1 [[.sl 905 0 (l).length]] false),(905,.cells 110 2 ((l).map cSp) true),(1006,.cells 154 1 [[(.fn (.func 116) [.rp [iv (n:Int)],.rp [.rs 1 (w.map civ)],.ptr 1005 0 0,.ptr 1006 0 0])]] false)] (.tup []) [(1005,.cells 107 1 [[.sl 906 0 (l++QW n w d b).length]] false),(906,.cells 110 2 ((l++QW n w d b).map cSp) true),(1006,.cells 154 1 [[(.fn (.func 116) [.rp [iv (n:Int)],.rp [.rs 1 (w.map civ)],.ptr 1005 0 0,.ptr 1006 0 0])]] false),(905,.dead)] true
 | 0,b,l,hb,hl=>vc116_0 n hn w hw b l hb hl
 | d+1,b,l,hb,hl=>vc116_s n hn w hw d b l hb hl fun c l hc hl=>vc116 n hn w hw d c l hc hl
end Go.Proofs.YthfhaoogcpfboaaGreat
namespace Go.Proofs.YthfhaoogcpfboaaGreat
open Go.RowKit
set_option maxRecDepth 100000
set_option linter.unusedVariables false
theorem lg16 {n:Nat} (h:n<=16):2^lg n<=16:=by
 have:∀ n:Fin 17,2^lg n.val<=16:=by decide
 exact this ⟨n,by omega⟩
def X0 (n:Nat) (w:List Int):List (Nat×Nat):=QW n w (lg n) 0
theorem hidA_len {n:Nat} {w:List Int} (h:n<=16):(X0 n w).length<=16:=Nat.le_trans (hidS_len n w _ _) (lg16 h)
def mcv67:MC:=(.seq (.reg [oN 2 (.box 3 1 (.t 0)) [],oN 3 (.box 22 1 (.t 1)) [],oN 4 (.mv (.c .nils)) []] false) (.seq (.reg [oN 5 (.alloc 107 1 [.nils]) []] false) (.seq (.reg [oN 6 (.alloc 154 1 [.nilf]) []] false) (.seq (.reg [oN 7 (.mkfn (.func 116) [(.t 2),(.t 3),(.t 5),(.t 6)]) [],⟨none,(.st 1 (.t 6) (.t 7)),none,[0,0]⟩] false) (.seq (.reg [oD 8 1 6 [],oD 9 1 2 [],oN 10 (.call 75 [(.t 9)]) [1],oN 11 (.callv (.t 8) [(.t 10)]) [0,2,2]] true) (.seq (.reg [oD 12 1 5 [],oM 4 12 [0,0]] false) .ret))))))
theorem mcOkv67:okM Tryz.prog Tryz.f67 13=some mcv67:=by kernel_rfl
theorem vc67 (n:Nat) (hn:1<=n/\n<=16) (w:List Int) (hw:w.length<=4611686018427387904):FC Tryz.prog 67 [iv (n:Int),.rs 1 (w.map civ)] [] (.rs 2 ((X0 n w).map cSp)) [] false:=by
 have hlg:=lg16 hn.2
 refine Qj (nt:=13) Tryz.func67 rfl rfl mcOkv67 (nL rfl) ?_
 delta mcv67
 refine gA 15 rfl (QE (F0:=[(2,.rp [iv (n:Int)]),(3,.rp [.rs 1 (w.map civ)]),(5,.ptr 1005 0 0),(6,.ptr 1006 0 0)]) (H0:=[(1005,.cells 107 1 [[.sl 905 0 0]] false),(905,.cells 110 2 (([]:List (Nat×Nat)).map cSp) true),(1006,.cells 154 1 [[.nilf]] true)]) (Weak.trans (F1:=[(2,.rp [iv (n:Int)]),(3,.rp [.rs 1 (w.map civ)]),(5,.ptr 1005 0 0),(6,.ptr 1006 0 0)]) (H1:=[(1005,.cells 107 1 [[.nils]] true),(1006,.cells 154 1 [[.nilf]] true)]) (Weak.trans (F1:=[(2,.rp [iv (n:Int)]),(3,.rp [.rs 1 (w.map civ)]),(5,.ptr 1005 0 0),(6,.ptr 6 0 0)]) (H1:=[(1005,.cells 107 1 [[.nils]] true),(6,.cells 154 1 [[.nilf]] true)]) (Q6 (i:=5) (i':=1005) (F1:=[(2,.rp [iv (n:Int)]),(3,.rp [.rs 1 (w.map civ)]),(5,.ptr 5 0 0),(6,.ptr 6 0 0)]) (H1:=[(5,.cells 107 1 [[.nils]] true),(6,.cells 154 1 [[.nilf]] true)]) (.cons rfl (Xq rfl rfl (.inl rfl)) (.cons rfl (Xq rfl rfl (.inl rfl)) (Qb rfl rfl))) (.keep (rfl) rfl (.keep (rfl) rfl (.nil))) (fun i h=>by cases h) rfl rfl (.cons rfl (.same _) (.cons rfl (.same _) (.cons rfl (.ptr _ _) (.cons rfl (.same _) (.nil))))) (Qb rfl rfl) (.keep (rfl) rfl (.keep (rfl) rfl (.nil))) (fun i h=>by cases h)) (Q6 (i:=6) (i':=1006) (F1:=[(2,.rp [iv (n:Int)]),(3,.rp [.rs 1 (w.map civ)]),(5,.ptr 1005 0 0),(6,.ptr 6 0 0)]) (H1:=[(1005,.cells 107 1 [[.nils]] true),(6,.cells 154 1 [[.nilf]] true)]) (Qb rfl rfl) (.keep (rfl) rfl (.keep (rfl) rfl (.nil))) (fun i h=>by cases h) rfl rfl (.cons rfl (.same _) (.cons rfl (.same _) (.cons rfl (.same _) (.cons rfl (.ptr _ _) (.nil))))) (Qb rfl rfl) (.keep (rfl) rfl (.keep (rfl) rfl (.nil))) (fun i h=>by cases h))) (Weak.trans (F1:=[(2,.rp [iv (n:Int)]),(3,.rp [.rs 1 (w.map civ)]),(5,.ptr 1005 0 0),(6,.ptr 1006 0 0)]) (weak_seed (i:=905) (k:=1005) (e:=107) (z:=1) (e2:=110) (z2:=2) (fl:=true) (fl2:=true) rfl rfl) (Qa (Qb rfl rfl) (.keep (rfl) rfl (.keep (rfl) rfl (.keep (rfl) rfl (.nil)))) (fun i h=>by cases h)))) (gK 8 rfl (cN rfl rfl (vc75 n hn) (gR 0 rfl (Xb [(1005,.cells 107 1 [[.sl 905 0 (([]:List (Nat×Nat))).length]] false),(905,.cells 110 2 ((([]:List (Nat×Nat))).map cSp) true),(1006,.cells 154 1 [[(.fn (.func 116) [.rp [iv (n:Int)],.rp [.rs 1 (w.map civ)],.ptr 1005 0 0,.ptr 1006 0 0])]] false)] rfl rfl (by kernel_rfl) rfl (vc116 n hn.2 w hw (lg n) 0 [] (by omega) (by simp only [List.length_nil]; omega)) (.cons (Qd rfl) (.cons (Qd rfl) (.cons (Qd rfl) (.cons (Qd rfl) (.cons (Qd rfl) (.nil)))))) (.cons rfl (.cons rfl (.cons rfl .nil))) rfl rfl rfl (gR 0 rfl (QJ (by kernel_rfl) (gP 6 rfl ?_))))))))
 exact Qk <| Qs rfl (Xr rfl rfl rfl (fun _=>rfl)) .nil
end Go.Proofs.YthfhaoogcpfboaaGreat
namespace Go.Proofs.YthfhaoogcpfboaaGreat
open Go.RowKit
set_option maxRecDepth 100000
set_option linter.unusedVariables false
def Qw (kn:Nat->Nat->Option (List Int)):Nat->Nat->List Int
 | 0,b=>(kn b 1).getD []
 | d+1,b=>if (kn b (2^(d+1))).isSome=true then (kn b (2^(d+1))).getD [] else JM (Qw kn d b) (Qw kn d (b+2^d))
theorem treeD_t {kn:Nat->Nat->Option (List Int)} {d b:Nat} (h:(kn b (2^d)).isSome=true):Qw kn d b=(kn b (2^d)).getD []:=by
 cases d with
 | zero=>rfl
 | succ d=>unfold Qw; rw [if_pos h]
theorem treeD_f {kn:Nat->Nat->Option (List Int)} {d b:Nat} (h:(kn b (2^(d+1))).isSome=false):Qw kn (d+1) b=JM (Qw kn d b) (Qw kn d (b+2^d)):=by
 conv=>lhs; unfold Qw
 rw [if_neg (by rw [h]; decide)]
structure KnOK (kn:Nat->Nat->Option (List Int)):Prop where
 one:∀ b,(kn b 1).isSome=true
 ok:∀ b m x,kn b m=some x->B8 x/\x.length<=LIM
theorem KnOK.get {kn:Nat->Nat->Option (List Int)} (h:KnOK kn) {b m:Nat} (hs:(kn b m).isSome=true):B8 ((kn b m).getD [])/\((kn b m).getD []).length<=LIM:=by
 obtain ⟨x,e⟩:=Option.isSome_iff_exists.1 hs
 rw [e]; exact h.ok b m x e
theorem KnOK.tree {kn:Nat->Nat->Option (List Int)} (h:KnOK kn):∀ d b,B8 (Qw kn d b)/\(Qw kn d b).length<=LIM
 | 0,b=>h.get (h.one b)
 | d+1,b=>by
  cases hs:(kn b (2^(d+1))).isSome with
  | true=>rw [treeD_t hs]; exact h.get hs
  | false=>rw [treeD_f hs]; exact ⟨(Jh _).1,by rw [show (JM _ _).length=8 from (Jh _).2]; decide⟩
def ofK (ls:List Lf) (b m:Nat):Option (List Int):=if 1<m then none else match ls[b]? with
 | some x=>some (leafS (XN x))
 | none=>some missS
theorem ofK_1 {ls:List Lf} {b m:Nat} (h:1<m):ofK ls b m=none:=by unfold ofK; rw [if_pos h]
theorem ofK_2 {ls:List Lf} {b m:Nat} (h:¬ 1<m) (hb:ls.length<=b):ofK ls b m=some missS:=by unfold ofK; rw [if_neg h,List.getElem?_eq_none hb]
theorem ofK_3 {ls:List Lf} {b m:Nat} {x:Lf} (h:¬ 1<m) (hb:ls[b]?=some x):ofK ls b m=some (leafS (XN x)):=by unfold ofK; rw [if_neg h,hb]
theorem ofK_ok (ls:List Lf):KnOK (ofK ls) where
 one b:=by unfold ofK; rw [if_neg (by decide)]; split <;> rfl
 ok b m x h:=by
  have key:∀ l,B8 (digB l)/\(digB l).length<=LIM:=fun l=>⟨(Jh l).1,by rw [(Jh l).2]; decide⟩
  unfold ofK at h
  split at h
  ·cases h
  ·split at h <;> (injection h with h; rw [← h]; exact key _)
def mcv68:MC:=(.seq (.reg [oN 1 (.box 27 1 (.t 0)) [],oN 2 (.mv (.c .nilf)) []] false) (.seq (.reg [oN 3 (.mkfn (.func 119) [(.t 1)]) [],oM 2 3 [0,0]] false) .ret))
theorem mcOkv68:okM Tryz.prog Tryz.f68 4=some mcv68:=by kernel_rfl
theorem vc68 (ls:List Lf):FC Tryz.prog 68 [.rs 5 (ls.map cLf)] [] (.fn (.func 119) [.rp [.rs 5 (ls.map cLf)]]) [] true:=by
 refine Qj (nt:=4) Tryz.func68 rfl rfl mcOkv68 (nL rfl) ?_
 delta mcv68
 refine gA 11 rfl ?_
 exact Qk <| Qs rfl (rc_fnr (.cons (Xq rfl rfl (.inl rfl)) .nil)) .nil
def mcv119:MC:=(.seq (.reg [oN 2 (.box 110 2 (.t 0)) [],oN 3 (.mv (.c (.str (Qm [])))) [],oN 4 (.mv (.c (.bool false))) [1]] false) (.seq (.block 0 (.seq (.reg [oA 6 1 2 [],oD 7 1 6 [0],oN 8 (.bin .gtr (.t 7) (.c (.int .i64 1))) [1],oM 5 8 [2]] false) (.cond (.t 5) (.seq (.reg [oN 3 (.mv (.c (.str (Qm [])))) [],oN 4 (.mv (.c (.bool false))) [0,0]] false) .ret) (.seq (.reg [oA 10 0 2 [],oD 11 1 10 [0],oD 12 1 1 [],oN 13 (.len (.t 12)) [2],oN 14 (.bin .geq (.t 11) (.t 13)) [1,3],oM 9 14 [4]] false) (.cond (.t 9) (.seq (.reg [oN 15 (.call 44 []) [],oM 3 15 [0,0,0],oN 4 (.mv (.c (.bool true))) [1,0,1]] false) .ret) .skip))))) (.seq (.reg [oD 16 1 1 [],oA 17 0 2 [],oD 18 1 17 [1],oN 19 (.ixsl 5 (.t 16) (.t 18)) [0,2],oN 20 (.ld true 5 (.t 19)) [3],oN 21 (.call 62 [(.t 20)]) [4],oN 22 (.call 41 [(.t 21)]) [5,5],oM 3 22 [6,6,0,1,2,3,4,5,6],oN 4 (.mv (.c (.bool true))) [7,0,1,2,3,4,5,6,7]] false) .ret)))
theorem mcOkv119:okM Tryz.prog Tryz.f119 23=some mcv119:=by kernel_rfl
theorem vc119 (ls:List Lf) (hl:LsOK ls) (b m:Nat):FC Tryz.prog 119 [.agg (cP b m),.rp [.rs 5 (ls.map cLf)]] [] (.tup [.str (Qm ((ofK ls (b) (m)).getD [])),.bool (ofK ls (b) (m)).isSome]) [] false:=by
 refine Qj (nt:=23) Tryz.func119 rfl rfl mcOkv119 (nL rfl) ?_
 delta mcv119
 refine gA 12 rfl (rs_gtr rfl rfl rfl (gR 2 rfl (Qe rfl (fun h5=>?_) (fun h5=>?_))))
 ·replace h5:=of_decide_eq_true h5
  refine gK 6 rfl ?_
  rw [ofK_1 (by omega)]
  exact Qk <| Qc rfl rfl rfl (.inr rfl)
 ·replace h5:=of_decide_eq_false h5
  refine gK 5 rfl (Qh rfl rfl (gR 0 rfl (Jk rfl rfl rfl (gR 2 rfl (Qe rfl (fun h9=>?_) (fun h9=>?_))))))
  ·replace h9:=of_decide_eq_true h9
   refine gK 2 rfl (cN rfl rfl (vc44) (gR 4 rfl ?_))
   rw [ofK_2 (by omega) (by omega)]
   exact Qk <| Qc rfl rfl rfl (.inr rfl)
  ·replace h9:=of_decide_eq_false h9
   refine gK 2 rfl ?_
   obtain ⟨x,hx,hxm⟩:=Qo (L:=ls) (k:=b) (by omega)
   refine gI 4 rfl (Qp (f:=cLf) (y:=x) rfl rfl rfl (by omega) hx (gR 0 rfl (QG (cs:=cLf x) rfl rfl (nL rfl) rfl (gR 0 rfl (cN rfl rfl (vc62 x (hl.ok x hxm)) (gR 0 rfl (cN rfl rfl (vc41 (XN x) ⟨textS_8 (hl.ok x hxm).b,Nat.le_trans (textS_len (hl.ok x hxm).n) (by decide)⟩) (gR 4 rfl ?_))))))))
   rw [ofK_3 (by omega) hx]
   exact Qk <| Qc rfl rfl rfl (.inr rfl)
def as69:MC:=(.reg [oN 8 (.alloc 110 2 [(.int .i64 0),(.int .i64 0)]) [],⟨none,(.st 2 (.t 8) (.t 19)),none,[0,0]⟩] false)
def bd69:MC:=(.block 1 (.reg [oD 20 1 7 [],oD 21 1 2 [],oN 22 (.ld true 2 (.t 8)) [],oN 23 (.call 69 [(.t 21),(.t 22)]) [1,2],oN 24 (.bslice 9 1 [(.str (Qm []))] 1 [(0,(.t 23))]) [3],oN 25 (.app 9 1 16 [(.str (Qm []))] (.t 20) (.t 24)) [0,4,3],⟨none,(.st 1 (.t 7) (.t 25)),none,[5,5,0,1,2,3,4,5]⟩] true))
theorem as69w1 (ls:List Lf) (kn:Nat->Nat->Option (List Int)) (d b c:Nat) (l:List (List Int)) (hc:c+2^d<=64) (hl:l.length<=1) (o:Loop) (lb:Nat):AW Tryz.prog 33 [900,7,903] (some lb) as69 (fun e F' H'=>e = .normal/\Weak 33 [900,7,903] F' H' [(8,.ptr 8 0 0),(7,.ptr 7 0 0),(2,.rp [(.fn (.func 119) [.rp [.rs 5 (ls.map cLf)]])])] [(900,.lp o [(18,.fn (.func 149) [.rp (cP b (2^(d+1)))]),(7,.ptr 7 0 0),(2,.rp [(.fn (.func 119) [.rp [.rs 5 (ls.map cLf)]])])]),(7,.cells 47 1 [[.sl 903 0 (l).length]] false),(903,.cells 9 1 ((l).map cS) true),(8,.cells 110 2 [cP c (2^d)] true)]) [(19,.agg (cP c (2^d))),(18,.fn (.func 149) [.rp (cP b (2^(d+1)))]),(7,.ptr 7 0 0),(2,.rp [(.fn (.func 119) [.rp [.rs 5 (ls.map cLf)]])])] [(900,.lp o [(18,.fn (.func 149) [.rp (cP b (2^(d+1)))]),(7,.ptr 7 0 0),(2,.rp [(.fn (.func 119) [.rp [.rs 5 (ls.map cLf)]])])]),(7,.cells 47 1 [[.sl 903 0 (l).length]] false),(903,.cells 9 1 ((l).map cS) true)]:=by
 delta as69
 refine gA 4 rfl ?_
 exact Qk <| ⟨rfl,Qa (Qb rfl rfl) (.keep (rfl) rfl (.keep (rfl) rfl (.keep (rfl) rfl (.keep (rfl) rfl (.nil))))) (fun i hi=>by simp [Qf] at hi ⊢; omega)⟩
theorem bd69w1 (ls:List Lf) (kn:Nat->Nat->Option (List Int)) (d b c:Nat) (l:List (List Int)) (hc:c+2^d<=64) (hl:l.length<=1) (ih:∀ c,c+2^d<=64->FC Tryz.prog 69 [(.fn (.func 119) [.rp [.rs 5 (ls.map cLf)]]),.agg (cP c (2^d))] [] (.str (Qm (Qw kn d c))) [] false) (o:Loop) (lb:Nat):AW Tryz.prog 33 [900,7,903] (some lb) bd69 (fun e F' H'=>e = .normal/\Weak 33 [900,7,903] F' H' [] [(900,.lp o [(18,.fn (.func 149) [.rp (cP b (2^(d+1)))]),(7,.ptr 7 0 0),(2,.rp [(.fn (.func 119) [.rp [.rs 5 (ls.map cLf)]])])]),(7,.cells 47 1 [[.sl 25 0 (l++[Qw kn d c]).length]] false),(25,.cells 9 1 ((l++[Qw kn d c]).map cS) true),(903,.dead)]) [(8,.ptr 8 0 0),(7,.ptr 7 0 0),(2,.rp [(.fn (.func 119) [.rp [.rs 5 (ls.map cLf)]])])] [(900,.lp o [(18,.fn (.func 149) [.rp (cP b (2^(d+1)))]),(7,.ptr 7 0 0),(2,.rp [(.fn (.func 119) [.rp [.rs 5 (ls.map cLf)]])])]),(7,.cells 47 1 [[.sl 903 0 (l).length]] false),(903,.cells 9 1 ((l).map cS) true),(8,.cells 110 2 [cP c (2^d)] true)]:=by
 delta bd69
 refine gA 5 rfl (cN rfl rfl (ih c hc) (gR 0 rfl (Qi (l:=(([Qw kn d c]:List (List Int))).flatMap cS) (els:=(([Qw kn d c]:List (List Int))).map cS) (fl:=true) rfl (by kernel_rfl) rfl rfl (by kernel_rfl) (by kernel_rfl) (gR 0 rfl (QB (f:=cS) (xs:=l) (y:=Qw kn d c) (fl':=true) rfl rfl rfl rfl rfl rfl rfl rfl (by decide) rfl (by omega) (by omega) rfl (gR 1 rfl (QJ (by kernel_rfl) (gP 0 rfl ?_))))))))
 exact Qk <| ⟨rfl,Qa (.nil) (.keep (rfl) rfl (.keep (by rw [Xz]; rfl) rfl (.keep (rfl) rfl (.keep (rfl) rfl (.nil))))) (fun i hi=>by simp [Qf] at hi ⊢; omega)⟩
theorem y69_1 (ls:List Lf) (kn:Nat->Nat->Option (List Int)) (d b c:Nat) (l:List (List Int)) (hc:c+2^d<=64) (hl:l.length<=1) (ih:∀ c,c+2^d<=64->FC Tryz.prog 69 [(.fn (.func 119) [.rp [.rs 5 (ls.map cLf)]]),.agg (cP c (2^d))] [] (.str (Qm (Qw kn d c))) [] false) (r0:Loop) (h:Rec0 Tryz.prog 33 [19] as69 bd69 r0) :
  FCg (XM Tryz.prog) [.yl 900,.agg (cP c (2^d))] [(900,.lp r0 [(18,.fn (.func 149) [.rp (cP b (2^(d+1)))]),(7,.ptr 7 0 0),(2,.rp [(.fn (.func 119) [.rp [.rs 5 (ls.map cLf)]])])]),(7,.cells 47 1 [[.sl 903 0 (l).length]] false),(903,.cells 9 1 ((l).map cS) true)] (.bool true) [(900,.lp r0 [(18,.fn (.func 149) [.rp (cP b (2^(d+1)))]),(7,.ptr 7 0 0),(2,.rp [(.fn (.func 119) [.rp [.rs 5 (ls.map cLf)]])])]),(7,.cells 47 1 [[.sl 25 0 (l++[Qw kn d c]).length]] false),(25,.cells 9 1 ((l++[Qw kn d c]).map cS) true),(903,.dead)] true:=by
 have:=J9 (P:=Tryz.prog) (F:=[(18,.fn (.func 149) [.rp (cP b (2^(d+1)))]),(7,.ptr 7 0 0),(2,.rp [(.fn (.func 119) [.rp [.rs 5 (ls.map cLf)]])])]) (N:=33) (x:=as69) (y:=bd69) h.ca h.cb (li:=900) (ps:=[19]) (vs:=[.agg (cP c (2^d))]) (J:=[(7,.cells 47 1 [[.sl 903 0 (l).length]] false),(903,.cells 9 1 ((l).map cS) true)]) (J1:=[(7,.cells 47 1 [[.sl 903 0 (l).length]] false),(903,.cells 9 1 ((l).map cS) true),(8,.cells 110 2 [cP c (2^d)] true)]) (J':=[(7,.cells 47 1 [[.sl 25 0 (l++[Qw kn d c]).length]] false),(25,.cells 9 1 ((l++[Qw kn d c]).map cS) true),(903,.dead)]) (Fb:=[(8,.ptr 8 0 0),(7,.ptr 7 0 0),(2,.rp [(.fn (.func 119) [.rp [.rs 5 (ls.map cLf)]])])]) (Z0:=[900,7,903]) .normal none (.inl ⟨rfl,rfl⟩)
  rfl rfl (fun i hi=>Q7.1 hi) (by simp) (fun i h=>Q7.2 h) (fun i hi=>Q7.1 (by simp [Qf] at hi ⊢; omega)) h.state h.params rfl rfl h.size (fun t v h=>get_mem h) (fun lb o=>as69w1 ls kn d b c l hc hl o lb) (fun lb o=>bd69w1 ls kn d b c l hc hl ih o lb)
 rw [rec_same h.state h.pending] at this
 exact this
theorem vc149d1 (ls:List Lf) (kn:Nat->Nat->Option (List Int)) (d b:Nat) (hb:b+2^(d+1)<=64) (r0:Loop) (hy:∀ (c:Nat) (l:List (List Int)),c+2^d<=64->l.length<=1->FCg (XM Tryz.prog) [.yl 900,.agg (cP c (2^d))] [(900,.lp r0 [(18,.fn (.func 149) [.rp (cP b (2^(d+1)))]),(7,.ptr 7 0 0),(2,.rp [(.fn (.func 119) [.rp [.rs 5 (ls.map cLf)]])])]),(7,.cells 47 1 [[.sl 903 0 (l).length]] false),(903,.cells 9 1 ((l).map cS) true)] (.bool true) [(900,.lp r0 [(18,.fn (.func 149) [.rp (cP b (2^(d+1)))]),(7,.ptr 7 0 0),(2,.rp [(.fn (.func 119) [.rp [.rs 5 (ls.map cLf)]])])]),(7,.cells 47 1 [[.sl 25 0 (l++[Qw kn d c]).length]] false),(25,.cells 9 1 ((l++[Qw kn d c]).map cS) true),(903,.dead)] true):FC Tryz.prog 149 [.yl 900,.rp (cP b (2^(d+1)))] [(900,.lp r0 [(18,.fn (.func 149) [.rp (cP b (2^(d+1)))]),(7,.ptr 7 0 0),(2,.rp [(.fn (.func 119) [.rp [.rs 5 (ls.map cLf)]])])]),(7,.cells 47 1 [[.sl 901 0 (([]:List (List Int))).length]] false),(901,.cells 9 1 ((([]:List (List Int))).map cS) true)] (.tup []) [(900,.lp r0 [(18,.fn (.func 149) [.rp (cP b (2^(d+1)))]),(7,.ptr 7 0 0),(2,.rp [(.fn (.func 119) [.rp [.rs 5 (ls.map cLf)]])])]),(7,.cells 47 1 [[.sl 903 0 (([]++[Qw kn d b]++[Qw kn d (b+2^d)]:List (List Int))).length]] false),(903,.cells 9 1 ((([]++[Qw kn d b]++[Qw kn d (b+2^d)]:List (List Int))).map cS) true),(901,.dead)] true:=by
 have hpw:=pow2 d
 refine Qj (nt:=21) Tryz.func149 rfl rfl mcOkv149 (nL rfl) ?_
 delta mcv149
 refine aw_post (gA 4 rfl (Xm rfl rfl rfl (by decide) (quo2W hpw (by omega)) (gR 3 rfl (QE (F0:=[(0,.yl 900),(1,.rp (cP b (2^(d+1)))),(3,iv ((2^d:Nat):Int))]) (H0:=[(900,.lp r0 [(18,.fn (.func 149) [.rp (cP b (2^(d+1)))]),(7,.ptr 7 0 0),(2,.rp [(.fn (.func 119) [.rp [.rs 5 (ls.map cLf)]])])]),(7,.cells 47 1 [[.sl 903 0 (([]:List (List Int))).length]] false),(903,.cells 9 1 ((([]:List (List Int))).map cS) true),(901,.dead)]) (Weak.trans (F1:=[(0,.yl 900),(1,.rp (cP b (2^(d+1)))),(3,iv ((2^d:Nat):Int))]) (H1:=[(900,.lp r0 [(18,.fn (.func 149) [.rp (cP b (2^(d+1)))]),(7,.ptr 7 0 0),(2,.rp [(.fn (.func 119) [.rp [.rs 5 (ls.map cLf)]])])]),(7,.cells 47 1 [[.sl 901 0 (([]:List (List Int))).length]] false),(901,.cells 9 1 ((([]:List (List Int))).map cS) true)]) (Qa (Qb rfl rfl) (.keep (rfl) rfl (.keep (rfl) rfl (.keep (rfl) rfl (.nil)))) (fun i hi=>by simp [Qf] at hi ⊢; omega)) (Weak.trans (F1:=[(0,.yl 900),(1,.rp (cP b (2^(d+1)))),(3,iv ((2^d:Nat):Int))]) (Qt (i:=901) (i':=903) (k:=7) rfl rfl (.cons rfl (.same _) (.cons rfl (.same _) (.cons rfl (.same _) (.nil)))) (by decide) rfl (.sl _ _)) (Qa (Qb rfl rfl) (.keep (rfl) rfl (.keep (rfl) rfl (.keep (rfl) rfl (.keep (rfl) rfl (.nil))))) (fun i hi=>by simp [Qf] at hi ⊢; omega)))) (gK 6 rfl (JG [(900,.lp r0 [(18,.fn (.func 149) [.rp (cP b (2^(d+1)))]),(7,.ptr 7 0 0),(2,.rp [(.fn (.func 119) [.rp [.rs 5 (ls.map cLf)]])])]),(7,.cells 47 1 [[.sl 903 0 (([]:List (List Int))).length]] false),(903,.cells 9 1 ((([]:List (List Int))).map cS) true)] rfl rfl rfl (hy b [] (by omega) (by simp)) (.cons (Qd rfl) (.cons (Qd rfl) (.nil))) (.cons rfl (.cons rfl (.cons rfl (.nil)))) rfl rfl rfl (gR 2 rfl (QE (F0:=[(0,.yl 900),(1,.rp (cP b (2^(d+1)))),(3,iv ((2^d:Nat):Int))]) (H0:=[(900,.lp r0 [(18,.fn (.func 149) [.rp (cP b (2^(d+1)))]),(7,.ptr 7 0 0),(2,.rp [(.fn (.func 119) [.rp [.rs 5 (ls.map cLf)]])])]),(7,.cells 47 1 [[.sl 903 0 (([]++[Qw kn d b]:List (List Int))).length]] false),(903,.cells 9 1 ((([]++[Qw kn d b]:List (List Int))).map cS) true),(901,.dead)]) (Weak.trans (F1:=[(0,.yl 900),(1,.rp (cP b (2^(d+1)))),(3,iv ((2^d:Nat):Int))]) (H1:=[(900,.lp r0 [(18,.fn (.func 149) [.rp (cP b (2^(d+1)))]),(7,.ptr 7 0 0),(2,.rp [(.fn (.func 119) [.rp [.rs 5 (ls.map cLf)]])])]),(7,.cells 47 1 [[.sl 25 0 (([]++[Qw kn d b]:List (List Int))).length]] false),(25,.cells 9 1 ((([]++[Qw kn d b]:List (List Int))).map cS) true),(901,.dead)]) (Qa (Qb rfl rfl) (.keep (rfl) rfl (.keep (rfl) rfl (.keep (rfl) rfl (.keep (rfl) rfl (.nil))))) (fun i hi=>by simp [Qf] at hi ⊢; omega)) (Weak.trans (F1:=[(0,.yl 900),(1,.rp (cP b (2^(d+1)))),(3,iv ((2^d:Nat):Int))]) (Qt (i:=25) (i':=903) (k:=7) rfl rfl (.cons rfl (.same _) (.cons rfl (.same _) (.cons rfl (.same _) (.nil)))) (by decide) rfl (.sl _ _)) (Qa (Qb rfl rfl) (.keep (rfl) rfl (.keep (rfl) rfl (.keep (rfl) rfl (.keep (rfl) rfl (.nil))))) (fun i hi=>by simp [Qf] at hi ⊢; omega)))) (gK 5 rfl (QH (c:=((b+2^d:Nat):Int)) rfl rfl rfl (addNW (by omega)) (gR 2 rfl ?_)))))))))))
 refine JG [(900,.lp r0 [(18,.fn (.func 149) [.rp (cP b (2^(d+1)))]),(7,.ptr 7 0 0),(2,.rp [(.fn (.func 119) [.rp [.rs 5 (ls.map cLf)]])])]),(7,.cells 47 1 [[.sl 903 0 (([]++[Qw kn d b]:List (List Int))).length]] false),(903,.cells 9 1 ((([]++[Qw kn d b]:List (List Int))).map cS) true)] rfl rfl rfl (hy (b+2^d) ([]++[Qw kn d b]:List (List Int)) (by omega) (by simp)) (.cons (Qd rfl) (.cons (Qd rfl) (.nil))) (.cons rfl (.cons rfl (.cons rfl (.nil)))) rfl rfl rfl (gR 1 rfl ?_)
 exact Qk <| ⟨[],[(900,.lp r0 [(18,.fn (.func 149) [.rp (cP b (2^(d+1)))]),(7,.ptr 7 0 0),(2,.rp [(.fn (.func 119) [.rp [.rs 5 (ls.map cLf)]])])]),(7,.cells 47 1 [[.sl 903 0 (([]++[Qw kn d b]++[Qw kn d (b+2^d)]:List (List Int))).length]] false),(903,.cells 9 1 ((([]++[Qw kn d b]++[Qw kn d (b+2^d)]:List (List Int))).map cS) true),(901,.dead)],(Weak.trans (F1:=[]) (H1:=[(900,.lp r0 [(18,.fn (.func 149) [.rp (cP b (2^(d+1)))]),(7,.ptr 7 0 0),(2,.rp [(.fn (.func 119) [.rp [.rs 5 (ls.map cLf)]])])]),(7,.cells 47 1 [[.sl 25 0 (([]++[Qw kn d b]++[Qw kn d (b+2^d)]:List (List Int))).length]] false),(25,.cells 9 1 ((([]++[Qw kn d b]++[Qw kn d (b+2^d)]:List (List Int))).map cS) true),(901,.dead)]) (Qa (.nil) (.keep (rfl) rfl (.keep (rfl) rfl (.keep (rfl) rfl (.keep (rfl) rfl (.nil))))) (fun i hi=>by simp [Qf] at hi ⊢; omega)) (Weak.trans (F1:=[]) (Qt (i:=25) (i':=903) (k:=7) rfl rfl (.nil) (by decide) rfl (.sl _ _)) (Qa (.nil) (.keep (rfl) rfl (.keep (rfl) rfl (.keep (rfl) rfl (.keep (rfl) rfl (.nil))))) (fun i hi=>by simp [Qf] at hi ⊢; omega)))),XL (.inl rfl) rfl sm (.keep (rfl) rfl (.keep (rfl) rfl (.keep (rfl) rfl (.keep (rfl) rfl (.nil))))) (.cons rfl rfl rfl (.cons rfl rfl rfl (.dead rfl rfl (.nil))))⟩
def mcv69:MC:=(.seq (.reg [oN 2 (.box 112 1 (.t 0)) [],oN 3 (.box 110 2 (.t 1)) [],oN 4 (.mv (.c (.str (Qm [])))) []] false) (.seq (.seq (.reg [oD 10 1 2 [],oN 11 (.ld true 2 (.t 3)) [],oN 12 (.callv (.t 10) [(.t 11)]) [0,1],oM 9 12 [2],oN 13 (.ext (.t 9) 0) [3],oN 14 (.ext (.t 9) 1) [3],oM 5 13 [4,2,0,1,2,3,4],oM 6 14 [5,6,0,1,2,3,4,5,6]] false) (.seq (.reg [oM 15 6 []] false) (.cond (.t 15) (.seq (.reg [oM 16 5 [],oM 4 16 [0,0]] false) .ret) .skip))) (.seq (.reg [oN 7 (.alloc 47 1 [.nils]) []] false) (.seq (.seq (.reg [oN 17 (.ld true 2 (.t 3)) [],oN 18 (.call 118 [(.t 17)]) [0]] false) (.block 0 (.rfunc (.t 18) [19] (.reg [oN 8 (.alloc 110 2 [(.int .i64 0),(.int .i64 0)]) [],⟨none,(.st 2 (.t 8) (.t 19)),none,[0,0]⟩] false) (.block 1 (.reg [oD 20 1 7 [],oD 21 1 2 [],oN 22 (.ld true 2 (.t 8)) [],oN 23 (.call 69 [(.t 21),(.t 22)]) [1,2],oN 24 (.bslice 9 1 [(.str (Qm []))] 1 [(0,(.t 23))]) [3],oN 25 (.app 9 1 16 [(.str (Qm []))] (.t 20) (.t 24)) [0,4,3],⟨none,(.st 1 (.t 7) (.t 25)),none,[5,5,0,1,2,3,4,5]⟩] true))))) (.seq (.reg [oD 26 1 7 [],oN 27 (.ixsl 1 (.t 26) (.c (.int .i64 0))) [0],oD 28 1 27 [1],oD 29 1 7 [],oN 30 (.ixsl 1 (.t 29) (.c (.int .i64 1))) [3],oD 31 1 30 [4],oN 32 (.call 43 [(.t 28),(.t 31)]) [2,5],oM 4 32 [6,6,0,1,2,3,4,5,6]] true) .ret)))))
theorem mcOkv69:okM Tryz.prog Tryz.f69 33=some mcv69:=by kernel_rfl
theorem vc69_01 (ls:List Lf) (kn:Nat->Nat->Option (List Int)) (hkn:KnOK kn) (hkf:∀ b m,b+m<=64->FC Tryz.prog 119 [.agg (cP b m),.rp [.rs 5 (ls.map cLf)]] [] (.tup [.str (Qm ((kn (b) (m)).getD [])),.bool (kn (b) (m)).isSome]) [] false) (b:Nat) (hb:b+2^0<=64):FC Tryz.prog 69 [(.fn (.func 119) [.rp [.rs 5 (ls.map cLf)]]),.agg (cP b (2^0))] [] (.str (Qm (Qw kn 0 b))) [] false:=by
 have hs:=hkn.one b
 refine Qj (nt:=33) Tryz.func69 rfl rfl mcOkv69 (nL rfl) ?_
 delta mcv69
 refine gA 11 rfl (Xb [] rfl rfl (by kernel_rfl) rfl (JI (hkf b (2^(0)) (by omega))) (.cons (Qd rfl) (.cons (Qd rfl) (.nil))) .nil rfl rfl rfl (gR 3 rfl ?_))
 rw [show kn b (2^0)=kn b 1 from rfl,hs]
 refine gI 14 rfl ?_
 exact Qk <| Qc rfl rfl rfl (.inr rfl)
theorem vc69_s1 (ls:List Lf) (kn:Nat->Nat->Option (List Int)) (hkn:KnOK kn) (hkf:∀ b m,b+m<=64->FC Tryz.prog 119 [.agg (cP b m),.rp [.rs 5 (ls.map cLf)]] [] (.tup [.str (Qm ((kn (b) (m)).getD [])),.bool (kn (b) (m)).isSome]) [] false) (d b:Nat) (hb:b+2^(d+1)<=64) (ih:∀ c,c+2^d<=64->FC Tryz.prog 69 [(.fn (.func 119) [.rp [.rs 5 (ls.map cLf)]]),.agg (cP c (2^d))] [] (.str (Qm (Qw kn d c))) [] false):FC Tryz.prog 69 [(.fn (.func 119) [.rp [.rs 5 (ls.map cLf)]]),.agg (cP b (2^(d+1)))] [] (.str (Qm (Qw kn (d+1) b))) [] false:=by
 have h8a:=hkn.tree d b
 have h8b:=hkn.tree d (b+2^d)
 refine Qj (nt:=33) Tryz.func69 rfl rfl mcOkv69 (nL rfl) ?_
 delta mcv69
 refine gA 11 rfl (Xb [] rfl rfl (by kernel_rfl) rfl (JI (hkf b (2^(d+1)) (by omega))) (.cons (Qd rfl) (.cons (Qd rfl) (.nil))) .nil rfl rfl rfl (gR 3 rfl ?_))
 cases h14:(kn b (2^(d+1))).isSome
 ·skip
  refine gI 17 rfl (Q1 [] rfl rfl (vc118 (b,2^(d+1))) (.cons (Qd rfl) .nil) .nil rfl rfl rfl (gR 2 rfl (QE (F0:=[(18,.fn (.func 149) [.rp (cP b (2^(d+1)))]),(7,.ptr 7 0 0),(2,.rp [(.fn (.func 119) [.rp [.rs 5 (ls.map cLf)]])])]) (H0:=[(7,.cells 47 1 [[.sl 901 0 (([]:List (List Int))).length]] false),(901,.cells 9 1 ((([]:List (List Int))).map cS) true)]) (Weak.trans (F1:=[(18,.fn (.func 149) [.rp (cP b (2^(d+1)))]),(7,.ptr 7 0 0),(2,.rp [(.fn (.func 119) [.rp [.rs 5 (ls.map cLf)]])])]) (H1:=[(7,.cells 47 1 [[.nils]] true)]) (Qa (.cs (.cs (.cons rfl (Xq rfl rfl (.inl rfl)) (.nil)))) (.keep rfl rfl .nil) nz) (Weak.trans (F1:=[(18,.fn (.func 149) [.rp (cP b (2^(d+1)))]),(7,.ptr 7 0 0),(2,.rp [(.fn (.func 119) [.rp [.rs 5 (ls.map cLf)]])])]) (weak_seed (i:=901) (k:=7) (e:=47) (z:=1) (e2:=9) (z2:=1) (fl:=true) (fl2:=true) rfl rfl) (Qa (Qb rfl rfl) (.keep (rfl) rfl (.keep (rfl) rfl (.nil))) (fun i h=>by cases h)))) (aw_rfunc 900 [(7,.cells 47 1 [[.sl 901 0 (([]:List (List Int))).length]] false),(901,.cells 9 1 ((([]:List (List Int))).map cS) true)] [(7,.cells 47 1 [[.sl 903 0 (([]++[Qw kn d b]++[Qw kn d (b+2^d)]:List (List Int))).length]] false),(903,.cells 9 1 ((([]++[Qw kn d b]++[Qw kn d (b+2^d)]:List (List Int))).map cS) true),(901,.dead)] (.inl ⟨rfl,rfl⟩) rfl (by kernel_rfl) rfl rfl rfl (.cons rfl (.cons rfl (.nil))) rfl rfl rfl rfl (fun r0 hrec=>⟨r0,(by rw [hrec.state]; intro h; cases h),hrec.pending,vc149d1 ls kn d b hb r0 (fun c l hc hl=>y69_1 ls kn d b c l hc hl ih r0 hrec)⟩) (gP 3 rfl (XS rfl rfl rfl rfl (by decide) (by simp) (gR 2 rfl (XS rfl rfl rfl rfl (by decide) (by simp) (gR 1 rfl (cN rfl rfl (vc43 (Qw kn d b) (Qw kn d (b+2^d)) h8a h8b) (gR 1 rfl ?_)))))))))))
  refine QJ (by kernel_rfl) (gP 1 rfl ?_)
  rw [treeD_f h14]
  exact Qk <| Qc rfl rfl rfl (.inr rfl)
 ·skip
  refine gI 14 rfl ?_
  rw [treeD_t h14]
  exact Qk <| Qc rfl rfl rfl (.inr rfl)
theorem vc69_1 (ls:List Lf) (kn:Nat->Nat->Option (List Int)) (hkn:KnOK kn) (hkf:∀ b m,b+m<=64->FC Tryz.prog 119 [.agg (cP b m),.rp [.rs 5 (ls.map cLf)]] [] (.tup [.str (Qm ((kn (b) (m)).getD [])),.bool (kn (b) (m)).isSome]) [] false):∀ (d b:Nat),b+2^d<=64->FC Tryz.prog 69 [(.fn (.func 119) [.rp [.rs 5 (ls.map cLf)]]),.agg (cP b (2^d))] [] (.str (Qm (Qw kn d b))) [] false
 | 0,b,hb=>vc69_01 ls kn hkn hkf b hb
 | d+1,b,hb=>vc69_s1 ls kn hkn hkf d b hb fun c hc=>vc69_1 ls kn hkn hkf d c hc
end Go.Proofs.YthfhaoogcpfboaaGreat
namespace Go.Proofs.YthfhaoogcpfboaaGreat
open Go.RowKit
set_option maxRecDepth 100000
set_option linter.unusedVariables false
instance:Inhabited Lf:=⟨⟨0,0,false,false,[]⟩⟩
structure Shn where
 size:Int
 leaves:List Lf
 hid:List (List Int)
 deriving DecidableEq
abbrev cSh (s:Shn):List AV:=[.int .i64 s.size,.rs 5 (s.leaves.map cLf),.rs 1 (s.hid.map cS)]
def Jj (ls:List Lf) (i:Int):Lf:=ls.getD i.toNat default
theorem selF_at {ls:List Lf} {i:Int} {x:Lf} (h:ls[i.toNat]?=some x):Jj ls i=x:=by unfold Jj; rw [List.getD_eq_getElem?_getD,h]; rfl
def JH (ls:List Lf) (s:Nat×Nat):List Int:=Qw (ofK ls) (lg s.2) s.1
def showS (ls:List Lf) (w:List Int):Shn:=⟨ls.length,w.map (Jj ls),(X0 ls.length w).map (JH ls)⟩
theorem lg_pow {e:Nat} (h:e<=6):lg (2^e)=e:=by
 have:∀ e:Fin 7,lg (2^e.val)=e.val:=by decide
 exact this ⟨e,by omega⟩
theorem lg_6 (n:Nat):lg n<=6:=by
 unfold lg
 (repeat' split) <;> decide
theorem hid1_mem {n:Nat} {w:List Int} {b d:Nat} {r:List (Nat×Nat)} {s:Nat×Nat} (h:s∈hid1 n w b d r):s∈r\/(s=(b,2^d)/\b<n):=by
 unfold hid1 at h
 split at h
 ·cases h
 ·split at h
  ·exact .inl h
  ·exact .inr ⟨List.mem_singleton.1 h,by omega⟩
theorem hidS_mem {n:Nat} {w:List Int}:∀ {d b:Nat} {s:Nat×Nat},s∈QW n w d b->∃ c e,s=(c,2^e)/\e<=d/\b<=c/\c+2^e<=b+2^d/\c<n
 | 0,b,s,h=>(hid1_mem h).elim (fun h=>by cases h) fun h=>⟨b,0,h.1,Nat.le_refl _,Nat.le_refl _,Nat.le_refl _,h.2⟩
 | d+1,b,s,h=>by
  have:=pow2 d
  rcases hid1_mem h with h | h
  ·rcases List.mem_append.1 h with h | h
   ·obtain ⟨c,e,h1,h2,h3,h4,h5⟩:=hidS_mem h
    exact ⟨c,e,h1,by omega,h3,by omega,h5⟩
   ·obtain ⟨c,e,h1,h2,h3,h4,h5⟩:=hidS_mem h
    exact ⟨c,e,h1,by omega,by omega,by omega,h5⟩
  ·exact ⟨b,d+1,h.1,Nat.le_refl _,Nat.le_refl _,Nat.le_refl _,h.2⟩
theorem hidA_mem {n:Nat} {w:List Int} (hn:n<=16) {s:Nat×Nat} (h:s∈X0 n w):∃ c e,s=(c,2^e)/\e<=6/\c+2^e<=16/\c<n:=by
 obtain ⟨c,e,h1,h2,_,h4,h5⟩:=hidS_mem h
 have:=lg16 hn
 exact ⟨c,e,h1,Nat.le_trans h2 (lg_6 n),by omega,h5⟩
structure LvsOK (ls:List Lf):Prop where
 n:1<=ls.length/\ls.length<=16
 ix:∀ (k:Nat) (x:Lf),ls[k]?=some x->x.ix=(k:Int)
 ok:∀ x∈ls,x.OK
theorem LvsOK.ls {ls:List Lf} (h:LvsOK ls):LsOK ls:=⟨by have:=h.n; omega,h.ok⟩
structure IxOK (n:Nat) (w:List Int):Prop where
 bd:∀ x∈w,0<=x/\x<(n:Int)
 inc:∀ (k:Nat) (a b:Int),w[k]?=some a->w[k+1]?=some b->a<b
 n:w.length<=16
theorem IxOK.out {n:Nat} {w:List Int} (h:∀ x∈w,0<=x/\x<(n:Int)):w.any (outP n)=false:=by
 rw [List.any_eq_false]
 intro x hx
 have:=h x hx
 simp only [outP,Bool.or_eq_true,decide_eq_true_eq]
 omega
theorem sel_succ {ls:List Lf} {w:List Int} {k:Nat} {i:Int} {x:Lf} (h:w[k]?=some i) (hx:ls[i.toNat]?=some x):(w.take (k+1)).map (Jj ls)=(w.take k).map (Jj ls)++[x]:=by
 rw [Qv h,List.map_append]
 show _++[Jj ls i]=_
 rw [selF_at hx]
theorem hidT_succ {ls:List Lf} {l:List (Nat×Nat)} {k c e:Nat} (h:l[k]?=some (c,2^e)) (he:e<=6):(l.take (k+1)).map (JH ls)=(l.take k).map (JH ls)++[Qw (ofK ls) e c]:=by
 rw [Qv h,List.map_append]
 show _++[Qw (ofK ls) (lg (2^e)) c]=_
 rw [lg_pow he]
def mcv22:MC:=(.seq (.reg [oN 4 (.alloc 55 3 [(.int .i64 0),.nils,.nils]) [],oN 5 (.mv (.c (.int .i64 0))) []] false) (.seq (.reg [oM 14 0 [],oN 15 (.len (.t 14)) [0],oN 6 (.alloc 3 1 [(.int .i64 0)]) [],⟨none,(.st 1 (.t 6) (.t 15)),none,[2,1,0,1,2]⟩] false) (.seq (.seq (.reg [oD 16 1 6 [],oN 17 (.bin .eql (.t 16) (.c (.int .i64 0))) [0],oM 18 17 [1],pD 19 1 6 18 false [2],oG 20 (.bin .gtr (.t 19) (.c (.int .i64 16))) 18 false [3,2],oN 21 (.pick (.t 18) (.c (.bool true)) (.t 20)) [2,4]] false) (.cond (.t 21) (.seq (.reg [oN 22 (.build [(.int .i64 0),.nils,.nils] []) [],⟨none,(.st 3 (.t 4) (.t 22)),none,[0,0]⟩,oN 5 (.mv (.c (.int .i64 2))) [1,0,1]] false) .ret) .skip)) (.seq (.seq (.reg [oM 23 0 [],oN 24 (.len (.t 23)) [0],oN 25 (.mv (.c (.int .i64 0))) []] false) (.block 0 (.loop (.seq (.reg [oN 26 (.bin .lss (.t 25) (.t 24)) []] false) (.seq (.cond (.t 26) .skip (.exit 0)) (.seq (.block 1 (.seq (.reg [oM 27 25 [],oN 28 (.ixsl 5 (.t 23) (.t 25)) [],oN 29 (.ld true 5 (.t 28)) [1],oN 8 (.alloc 51 5 [(.int .i64 0),(.int .i64 0),(.bool false),(.bool false),(.str (Qm []))]) [],oM 7 27 [0,0,1,2,3],⟨none,(.st 5 (.t 8) (.t 29)),none,[3,2,4,0,1,2,3,4]⟩] false) (.seq (.reg [oA 30 0 8 [],oD 31 1 30 [0],oM 32 7 [],oN 33 (.bin .neq (.t 31) (.t 32)) [1,2]] false) (.cond (.t 33) (.seq (.reg [oN 34 (.build [(.int .i64 0),.nils,.nils] []) [],⟨none,(.st 3 (.t 4) (.t 34)),none,[0,0]⟩,oN 5 (.mv (.c (.int .i64 4))) [1,0,1]] false) .ret) .skip)))) (.reg [oN 35 (.bin .add (.t 25) (.c (.int .i64 1))) [],oM 25 35 [0]] false))))))) (.seq (.seq (.reg [oM 36 1 [],oN 37 (.mkfn (.func 66) [(.t 6)]) [],oN 38 (.call 65 [(.t 36),(.t 37)]) [0,1]] false) (.cond (.t 38) (.seq (.reg [oN 39 (.build [(.int .i64 0),.nils,.nils] []) [],⟨none,(.st 3 (.t 4) (.t 39)),none,[0,0]⟩,oN 5 (.mv (.c (.int .i64 5))) [1,0,1]] false) .ret) .skip)) (.seq (.reg [oD 40 1 6 [],oN 41 (.build [(.int .i64 0),.nils,.nils] [(0,(1,(.t 40)))]) [0],oN 9 (.alloc 55 3 [(.int .i64 0),.nils,.nils]) [],⟨none,(.st 3 (.t 9) (.t 41)),none,[2,1,0,1,2]⟩] false) (.seq (.seq (.reg [oM 42 1 [],oN 43 (.len (.t 42)) [0],oN 44 (.mv (.c (.int .i64 0))) []] false) (.block 2 (.loop (.seq (.reg [oN 45 (.bin .lss (.t 44) (.t 43)) []] false) (.seq (.cond (.t 45) .skip (.exit 2)) (.seq (.block 3 (.seq (.reg [oM 46 44 [],oN 47 (.ixsl 1 (.t 42) (.t 44)) [],oD 48 1 47 [1],oM 10 46 [0,0,1,2],oM 11 48 [2,3,0,1,2,3]] false) (.seq (.seq (.reg [oM 49 10 [],oN 50 (.bin .gtr (.t 49) (.c (.int .i64 0))) [0],oM 51 50 [1],pM 52 1 51 true [2],pM 53 10 51 true [2],oG 54 (.bin .sub (.t 53) (.c (.int .i64 1))) 51 true [4,2],oG 55 (.ixsl 1 (.t 52) (.t 54)) 51 true [3,5,2],pD 56 1 55 51 true [6,2],pM 57 11 51 true [2],oG 58 (.bin .geq (.t 56) (.t 57)) 51 true [7,8,2],oN 59 (.pick (.t 51) (.t 58) (.c (.bool false))) [2,9]] false) (.cond (.t 59) (.seq (.reg [oN 60 (.build [(.int .i64 0),.nils,.nils] []) [],⟨none,(.st 3 (.t 4) (.t 60)),none,[0,0]⟩,oN 5 (.mv (.c (.int .i64 7))) [1,0,1]] false) .ret) .skip)) (.reg [oA 61 1 9 [],oD 62 1 61 [0],oM 63 0 [],oM 64 11 [],oN 65 (.ixsl 5 (.t 63) (.t 64)) [2,3],oN 66 (.ld true 5 (.t 65)) [4],oN 67 (.bslice 51 5 [(.int .i64 0),(.int .i64 0),(.bool false),(.bool false),(.str (Qm []))] 1 [(0,(.t 66))]) [5],oN 68 (.app 51 5 40 [(.int .i64 0),(.int .i64 0),(.bool false),(.bool false),(.str (Qm []))] (.t 62) (.t 67)) [1,6],oA 69 1 9 [0,1,2,3,4,5,6,7],⟨none,(.st 1 (.t 69) (.t 68)),none,[8,7,7,0,1,2,3,4,5,6,7]⟩] true)))) (.reg [oN 70 (.bin .add (.t 44) (.c (.int .i64 1))) [],oM 44 70 [0]] false))))))) (.seq (.seq (.reg [oD 71 1 6 [],oM 72 1 [],oN 73 (.call 67 [(.t 71),(.t 72)]) [0,1],oN 74 (.len (.t 73)) [2],oN 75 (.mv (.c (.int .i64 0))) []] false) (.block 4 (.loop (.seq (.reg [oN 76 (.bin .lss (.t 75) (.t 74)) []] false) (.seq (.cond (.t 76) .skip (.exit 4)) (.seq (.block 5 (.seq (.reg [oN 77 (.ixsl 2 (.t 73) (.t 75)) [],oN 78 (.ld true 2 (.t 77)) [0],oN 13 (.alloc 110 2 [(.int .i64 0),(.int .i64 0)]) [],⟨none,(.st 2 (.t 13) (.t 78)),none,[2,1,0,1,2]⟩] false) (.reg [oA 79 2 9 [],oD 80 1 79 [0],oM 81 0 [],oN 82 (.call 68 [(.t 81)]) [2],oN 83 (.ld true 2 (.t 13)) [],oN 84 (.call 69 [(.t 82),(.t 83)]) [3,4,3],oN 85 (.bslice 9 1 [(.str (Qm []))] 1 [(0,(.t 84))]) [5],oN 86 (.app 9 1 16 [(.str (Qm []))] (.t 80) (.t 85)) [1,6,5],oA 87 2 9 [0,1,2,3,4,5,6,7],⟨none,(.st 1 (.t 87) (.t 86)),none,[8,7,7,0,1,2,3,4,5,6,7]⟩] true))) (.reg [oN 88 (.bin .add (.t 75) (.c (.int .i64 1))) [],oM 75 88 [0]] false))))))) (.seq (.reg [oN 89 (.ld true 3 (.t 9)) [],⟨none,(.st 3 (.t 4) (.t 89)),none,[0,0]⟩,oN 5 (.mv (.c (.int .i64 0))) [1,0,1]] false) .ret)))))))))
theorem mcOkv22:okM Tryz.prog Tryz.f22 90=some mcv22:=by kernel_rfl
end Go.Proofs.YthfhaoogcpfboaaGreat
namespace Go.Proofs.YthfhaoogcpfboaaGreat
open Go.RowKit
set_option maxRecDepth 100000
set_option linter.unusedVariables false
section
variable {P:Program} {N:Nat} {F:Fr} {H:Hp} {ml:List MOper} {K:List Fp->Fr->Hp->Prop} {g:Option (Nat×Bool)} {pre:List Nat} {d:Nat}
theorem Xf {a n e z:Nat} {x i:Arg} {k:IntKind} {t:Int} {els:List (List AV)} {fl:Bool} (hg:gOK F g=true) (hx:Ql F x=some (.sl a 0 n)) (hi:Ql F i=some (.int k t)) (ha:get H a=some (.cells e z els fl)) (h0:0<=t) (h1:t<n)
  (h:RS P N ml ((d,.ptr a t.toNat 0)::F) H (fun fps=>K (([a],[])::fps))):RS P N (⟨some d,.ixsl z x i,g,pre⟩::ml) F H K:=XS hg hx hi ha h0 h1 (by simpa using h)
end
theorem hv_int {H Hs:Hp} {rd:List Nat} {al:Bool} {k:IntKind} {a b:Int} (h:a=b):HV H Hs rd al (.int k a) (.int k b):=by subst h; exact Qd rfl
abbrev Xx (lv:List Lf):List Int:=lv.map Lf.ix
theorem ixs_succ {lv:List Lf} {k:Nat} {x:Lf} (h:lv[k]?=some x):Xx (lv.take (k+1))=Xx (lv.take k)++[x.ix]:=by unfold Xx; rw [Qv h,List.map_append]; rfl
def JL (d:List Int):Bool:=decide ((d.length:Int)≠8)
def spEq (b m:Nat) (x:Nat×Nat):Bool:=decide (x=(b,m))
theorem spEq_aeq (b m:Nat) (x:Nat×Nat):(false != decide ([(b:Int),(m:Int)]=[(x.1:Int),(x.2:Int)]))=spEq b m x:=by
 obtain ⟨c,e⟩:=x
 by_cases h:(c,e)=(b,m)
 ·injection h with h1 h2; subst h1 h2; simp [spEq]
 ·have h2:¬ ([(b:Int),(m:Int)]=[(c:Int),(e:Int)]):=fun q=>h (by
   simp only [List.cons.injEq,and_true] at q
   have h1:=Int.ofNat_inj.1 q.1
   have h2:=Int.ofNat_inj.1 q.2
   rw [h1,h2])
  simp [spEq,h,h2]
def incF (z:Int):Int->List Int->Bool
 | _,[]=>true
 | p,x::l=>decide (0<=x)&&decide (x<z)&&decide (p<x)&&incF z x l
theorem incF_at {z p x:Int} {l:List Int} {k:Nat} (h:l[k]?=some x):incF z p (l.drop k)=(decide (0<=x)&&decide (x<z)&&decide (p<x)&&incF z x (l.drop (k+1))):=by
 obtain ⟨hk,e⟩:=List.getElem?_eq_some_iff.1 h
 rw [List.drop_eq_getElem_cons hk,e]; rfl
theorem incF_bd {z:Int}:∀ {l:List Int} {p:Int},incF z p l=true->∀ x∈l,0<=x/\x<z/\p<x
 | [],_,_,x,hx=>by cases hx
 | y::l,p,h,x,hx=>by
  simp only [incF,Bool.and_eq_true,decide_eq_true_eq] at h
  obtain ⟨⟨⟨h1,h2⟩,h3⟩,h4⟩:=h
  rcases List.mem_cons.1 hx with rfl | hx
  ·exact ⟨h1,h2,h3⟩
  ·have:=incF_bd h4 x hx; exact ⟨this.1,this.2.1,by omega⟩
def fmS (z:Int) (lv:List Lf) (hd:List (List Int)):Option (List (Nat×Nat)) :=
 if z<1\/z>16 then none else if incF z (-1) (Xx lv)=false then none else if ((X0 z.toNat (Xx lv)).length:Int)≠hd.length then none else if hd.any JL=true then none else some (X0 z.toNat (Xx lv))
theorem fm_1 {z:Int} {lv:List Lf} {hd:List (List Int)} (h:z<1\/z>16):fmS z lv hd=none:=if_pos h
theorem fm_2 {z:Int} {lv:List Lf} {hd:List (List Int)} (h:¬ (z<1\/z>16)) (h2:incF z (-1) (Xx lv)=false):fmS z lv hd=none:=by unfold fmS; rw [if_neg h,if_pos h2]
theorem fm_3 {z:Int} {lv:List Lf} {hd:List (List Int)} (h:¬ (z<1\/z>16)) (h2:incF z (-1) (Xx lv)=true) (h3:((X0 z.toNat (Xx lv)).length:Int)≠hd.length):fmS z lv hd=none:=by unfold fmS; rw [if_neg h,if_neg (by rw [h2]; decide),if_pos h3]
theorem fm_4 {z:Int} {lv:List Lf} {hd:List (List Int)} (h:¬ (z<1\/z>16)) (h2:incF z (-1) (Xx lv)=true) (h3:¬ ((X0 z.toNat (Xx lv)).length:Int)≠hd.length) (h4:hd.any JL=true):fmS z lv hd=none:=by unfold fmS; rw [if_neg h,if_neg (by rw [h2]; decide),if_neg h3,if_pos h4]
theorem fm_5 {z:Int} {lv:List Lf} {hd:List (List Int)} (h:¬ (z<1\/z>16)) (h2:incF z (-1) (Xx lv)=true) (h3:¬ ((X0 z.toNat (Xx lv)).length:Int)≠hd.length) (h4:hd.any JL=false):fmS z lv hd=some (X0 z.toNat (Xx lv)):=by unfold fmS; rw [if_neg h,if_neg (by rw [h2]; decide),if_neg h3,if_neg (by rw [h4]; decide)]
def mcv80:MC:=(.seq (.reg [oN 1 (.box 55 3 (.t 0)) [],oN 2 (.mv (.c .nils)) []] false) (.seq (.reg [oN 3 (.mv (.c .nils)) []] false) (.seq (.seq (.reg [oA 6 1 1 [],oD 7 1 6 [0],oN 8 (.len (.t 7)) [1],oN 9 (.mv (.c (.int .i64 0))) []] false) (.block 0 (.loop (.seq (.reg [oN 10 (.bin .lss (.t 9) (.t 8)) []] false) (.seq (.cond (.t 10) .skip (.exit 0)) (.seq (.block 1 (.seq (.reg [oN 11 (.ixsl 5 (.t 7) (.t 9)) [],oN 12 (.ld true 5 (.t 11)) [0],oN 5 (.alloc 51 5 [(.int .i64 0),(.int .i64 0),(.bool false),(.bool false),(.str (Qm []))]) [],⟨none,(.st 5 (.t 5) (.t 12)),none,[2,1,0,1,2]⟩] false) (.reg [oM 13 3 [],oA 14 0 5 [],oD 15 1 14 [1],oN 16 (.bslice 3 1 [(.int .i64 0)] 1 [(0,(.t 15))]) [2],oN 17 (.app 3 1 8 [(.int .i64 0)] (.t 13) (.t 16)) [0,3],oM 3 17 [4,4,0,1,2,3,4]] false))) (.reg [oN 18 (.bin .add (.t 9) (.c (.int .i64 1))) [],oM 9 18 [0]] false))))))) (.seq (.reg [oM 19 3 [],oM 2 19 [0,0]] false) .ret))))
theorem mcOkv80:okM Tryz.prog Tryz.f80 20=some mcv80:=by kernel_rfl
theorem vc80 (z:Int) (lv:List Lf) (hd:List (List Int)) (hlv:lv.length<=64):FC Tryz.prog 80 [.agg [.int .i64 z,.rs 5 (lv.map cLf),.rs 1 (hd.map cS)]] [] (.rs 1 ((Xx lv).map civ)) [] false:=by
 refine Qj (nt:=20) Tryz.func80 rfl rfl mcOkv80 (nL rfl) ?_
 delta mcv80
 refine gA 14 rfl (Qh rfl rfl (gR 3 rfl ?_))
 refine Qr (α:=Nat) (fun k=>lv.length-k) (fun k=>[(7,.rs 5 (lv.map cLf)),(8,iv (lv.length:Int)),(9,iv (((k):Nat):Int)),(3,.sl 901 0 (k))]) (fun k=>[(901,.cells 3 1 ((Xx (lv.take (k))).map civ) true)]) (fun k=>k<=lv.length) 0 (by omega)
  (Qa (.cs (.cs (.cs (.cons rfl (J4 rfl rfl) (.nil))))) (.virt rfl (.nil)) (fun i h=>by cases h)) ?_
 intro k hk
 refine gT 5 rfl (Qe rfl (fun h10=>?_) (fun h10=>?_))
 ·replace h10:=of_decide_eq_true h10
  refine gK 5 rfl ?_
  obtain ⟨x,hxk,hxm⟩:=Qo (L:=lv) (k:=k) (by omega)
  refine Qp (f:=cLf) (y:=x) rfl rfl rfl (by omega) hxk (gR 0 rfl (QG (cs:=cLf x) rfl rfl (nL rfl) rfl (gR 7 rfl (Qi (l:=(([x.ix]:List Int)).flatMap civ) (els:=(([x.ix]:List Int)).map civ) (fl:=true) rfl (by kernel_rfl) rfl rfl (by kernel_rfl) (by kernel_rfl) (gR 0 rfl (QB (f:=civ) (xs:=Xx (lv.take k)) (y:=x.ix) (fl':=true) rfl rfl rfl rfl (by simp; omega) rfl rfl rfl (by decide) rfl (by omega) (by omega) rfl (gR 3 rfl (Qg rfl rfl rfl (by omega) (gR 2 rfl ?_)))))))))
  exact Q8 <| ⟨k+1,by omega,by omega,Q6 (i:=17) (i':=901) (F1:=[(7,.rs 5 (lv.map cLf)),(8,iv (lv.length:Int)),(9,iv (((k+1):Nat):Int)),(3,.sl 17 0 (k+1))]) (H1:=[(17,.cells 3 1 ((Xx (lv.take (k+1))).map civ) true)]) (Qb rfl rfl) (.keep (by rw [ixs_succ hxk]; rfl) rfl (.nil)) (fun i h=>by cases h) rfl rfl (.cons rfl (.same _) (.cons rfl (.same _) (.cons rfl (.same _) (.cons rfl (.sl _ _) (.nil))))) (Qb rfl rfl) (.keep rfl rfl .nil) nz⟩
 ·replace h10:=of_decide_eq_false h10
  refine gK 7 rfl ?_
  obtain rfl:k=lv.length:=by omega
  rw [show Xx lv=Xx (lv.take lv.length) by rw [List.take_of_length_le (Nat.le_refl _)]]
  exact Qk <| Qs rfl (Xr rfl rfl (by simp) (fun _=>rfl)) .nil
def mcv122:MC:=(.seq (.reg [oN 2 (.mv (.c (.bool false))) []] false) (.seq (.reg [oM 3 0 [],oN 4 (.slen (.t 3)) [0],oN 5 (.call 44 []) [],oN 6 (.slen (.t 5)) [2],oN 7 (.bin .neq (.t 4) (.t 6)) [1,3],oM 2 7 [4,2,0,1,2,3,4]] false) .ret))
theorem mcOkv122:okM Tryz.prog Tryz.f122 8=some mcv122:=by kernel_rfl
theorem vc122 (d:List Int):FC Tryz.prog 122 [.str (Qm d)] [] (.bool (JL d)) [] false:=by
 refine Qj (nt:=8) Tryz.func122 rfl rfl mcOkv122 (nL rfl) ?_
 delta mcv122
 refine gA 7 rfl (rs_slen rfl rfl (gR 0 rfl (cN rfl rfl (vc44) (gR 0 rfl (rs_slen rfl rfl (gR 0 rfl (Ja rfl rfl rfl (gR 3 rfl ?_))))))))
 exact Qk <| Qc rfl rfl rfl (.inr rfl)
def mcv150:MC:=(.seq (.reg [oN 4 (.mv (.c (.int .i64 0))) []] false) (.seq (.seq (.reg [oM 6 0 [],oN 7 (.len (.t 6)) [0],oN 8 (.mv (.c (.int .i64 0))) []] false) (.block 0 (.loop (.seq (.reg [oN 9 (.bin .lss (.t 8) (.t 7)) []] false) (.seq (.cond (.t 9) .skip (.exit 0)) (.seq (.block 1 (.seq (.reg [oM 10 8 [],oM 5 10 [0,0]] false) (.seq (.reg [oM 11 1 [],oM 12 0 [],oM 13 5 [],oN 14 (.ixsl 1 (.t 12) (.t 13)) [1,2],oD 15 1 14 [3],oN 16 (.callv (.t 11) [(.t 15)]) [0,4]] false) (.cond (.t 16) (.seq (.reg [oM 17 5 [],oM 4 17 [0,0]] false) .ret) .skip)))) (.reg [oN 18 (.bin .add (.t 8) (.c (.int .i64 1))) [],oM 8 18 [0]] false))))))) (.seq (.reg [oN 4 (.mv (.c (.int .i64 (-1)))) []] false) .ret)))
theorem mcOkv150:okM Tryz.prog Tryz.f150 19=some mcv150:=by kernel_rfl
theorem vcI_short (xs:List (List Int)) (hxn:xs.length<=4611686018427387904):FC Tryz.prog 150 [.rs 1 (xs.map cS),(.fn (.func 122) [])] [] (.int .i64 (Xs JL xs 0)) [] false:=by
 refine Qj (nt:=19) Tryz.func150 rfl rfl mcOkv150 (nL rfl) ?_
 delta mcv150
 refine gA 8 rfl (Qh rfl rfl (gR 3 rfl ?_))
 refine Qr (α:=Nat) (fun k=>xs.length-k) (fun k=>[(0,.rs 1 (xs.map cS)),(1,(.fn (.func 122) [])),(6,.rs 1 (xs.map cS)),(7,iv (xs.length:Int)),(8,iv (((k):Nat):Int))]) (fun k=>[]) (fun k=>k<=xs.length/\Xs JL (xs.drop k) k=Xs JL xs 0) 0 (⟨by omega,rfl⟩)
  (Qa (Qb rfl rfl) (.nil) (fun i h=>by cases h)) ?_
 rintro k ⟨hk,hinv⟩
 refine gT 5 rfl (Qe rfl (fun h9=>?_) (fun h9=>?_))
 ·replace h9:=of_decide_eq_true h9
  refine gK 13 rfl ?_
  obtain ⟨x,hxk,hxm⟩:=Qo (L:=xs) (k:=k) (by omega)
  rw [JK hxk] at hinv
  refine Qp (f:=cS) (y:=x) rfl rfl rfl (by omega) hxk (gR 1 rfl (Xb [] rfl rfl (by kernel_rfl) rfl (JI (vc122 x)) (.cons (Qd rfl) (.nil)) .nil rfl rfl rfl ?_))
  cases h16:JL x
  ·skip
   refine gR 4 rfl (Qg rfl rfl rfl (by omega) (gR 2 rfl ?_))
   rw [h16] at hinv
   exact Q8 <| ⟨k+1,⟨by omega,hinv⟩,by omega,Qa (Qb rfl rfl) (.nil) (fun i h=>by cases h)⟩
  ·skip
   refine gR 8 rfl ?_
   rw [h16] at hinv
   rw [← hinv]
   exact Qk <| Qc rfl rfl rfl (.inr rfl)
 ·replace h9:=of_decide_eq_false h9
  refine gK 6 rfl ?_
  rw [Ju (by omega)] at hinv
  rw [← hinv]
  exact Qk <| Qc rfl rfl rfl (.inr rfl)
def mcv123:MC:=(.seq (.reg [oN 4 (.mv (.c (.bool false))) []] false) (.seq (.reg [oM 5 0 [],oM 6 1 [],oN 7 (.call 150 [(.t 5),(.t 6)]) [0,1],oN 8 (.bin .geq (.t 7) (.c (.int .i64 0))) [2],oM 4 8 [3,2,0,1,2,3]] false) .ret))
theorem mcOkv123:okM Tryz.prog Tryz.f123 9=some mcv123:=by kernel_rfl
theorem vcC_short (xs:List (List Int)) (hxn:xs.length<=4611686018427387904):FC Tryz.prog 123 [.rs 1 (xs.map cS),(.fn (.func 122) [])] [] (.bool (xs.any JL)) [] false:=by
 refine Qj (nt:=9) Tryz.func123 rfl rfl mcOkv123 (nL rfl) ?_
 delta mcv123
 refine gA 8 rfl (cN rfl rfl (vcI_short xs hxn) (gR 0 rfl (Jk rfl rfl rfl (gR 3 rfl ?_))))
 rw [← Jy]
 exact Qk <| Qc rfl rfl rfl (.inr rfl)
def mcv72:MC:=(.seq (.reg [oN 1 (.box 55 3 (.t 0)) [],oN 2 (.mv (.c .nils)) [],oN 3 (.mv (.c (.bool false))) [1]] false) (.seq (.seq (.reg [oA 9 0 1 [],oD 10 1 9 [0],oN 11 (.bin .lss (.t 10) (.c (.int .i64 1))) [1],oM 12 11 [2],pA 13 0 1 12 false [3],pD 14 1 13 12 false [4,3],oG 15 (.bin .gtr (.t 14) (.c (.int .i64 16))) 12 false [5,3],oN 16 (.pick (.t 12) (.c (.bool true)) (.t 15)) [3,6]] false) (.cond (.t 16) (.seq (.reg [oN 2 (.mv (.c .nils)) [],oN 3 (.mv (.c (.bool false))) [0,0]] false) .ret) .skip)) (.seq (.reg [oN 17 (.ld true 3 (.t 1)) [],oN 18 (.call 80 [(.t 17)]) [0],oM 4 18 [1,1,0,1]] false) (.seq (.seq (.reg [oM 19 4 [],oN 20 (.len (.t 19)) [0],oN 21 (.mv (.c (.int .i64 0))) []] false) (.block 0 (.loop (.seq (.reg [oN 22 (.bin .lss (.t 21) (.t 20)) []] false) (.seq (.cond (.t 22) .skip (.exit 0)) (.seq (.block 1 (.seq (.reg [oM 23 21 [],oN 24 (.ixsl 1 (.t 19) (.t 21)) [],oD 25 1 24 [1],oM 5 23 [0,0,1,2],oM 6 25 [2,3,0,1,2,3]] false) (.seq (.reg [oM 26 6 [],oN 27 (.bin .lss (.t 26) (.c (.int .i64 0))) [0],oM 28 27 [1],pM 29 6 28 false [2],pA 30 0 1 28 false [2],pD 31 1 30 28 false [4,2],oG 32 (.bin .geq (.t 29) (.t 31)) 28 false [3,5,2],oN 33 (.pick (.t 28) (.c (.bool true)) (.t 32)) [2,6],oM 34 33 [7,2],pM 35 5 34 false [8],oG 36 (.bin .gtr (.t 35) (.c (.int .i64 0))) 34 false [9,8],pM 37 36 34 false [10,8,8],pM 38 4 37 true [11],pM 39 5 37 true [11],oG 40 (.bin .sub (.t 39) (.c (.int .i64 1))) 37 true [13,11],oG 41 (.ixsl 1 (.t 38) (.t 40)) 37 true [12,14,11],pD 42 1 41 37 true [15,11],pM 43 6 37 true [11],oG 44 (.bin .geq (.t 42) (.t 43)) 37 true [16,17,11],oG 45 (.pick (.t 37) (.t 44) (.c (.bool false))) 34 false [11,18,8],oN 46 (.pick (.t 34) (.c (.bool true)) (.t 45)) [8,19]] false) (.cond (.t 46) (.seq (.reg [oN 2 (.mv (.c .nils)) [],oN 3 (.mv (.c (.bool false))) [0,0]] false) .ret) .skip)))) (.reg [oN 47 (.bin .add (.t 21) (.c (.int .i64 1))) [],oM 21 47 [0]] false))))))) (.seq (.reg [oA 48 0 1 [],oD 49 1 48 [0],oM 50 4 [],oN 51 (.call 67 [(.t 49),(.t 50)]) [1,2],oM 7 51 [3,3,0,1,2,3]] false) (.seq (.reg [oN 8 (.mv (.c (.fn (.func 122) []))) []] false) (.seq (.seq (.reg [oM 52 7 [],oN 53 (.len (.t 52)) [0],oA 54 2 1 [],oD 55 1 54 [2],oN 56 (.len (.t 55)) [3],oN 57 (.bin .neq (.t 53) (.t 56)) [1,4],oM 58 57 [5],pA 59 2 1 58 false [6],pD 60 1 59 58 false [7,6],pM 61 8 58 false [6],oG 62 (.call 123 [(.t 60),(.t 61)]) 58 false [8,9,6,6],oN 63 (.pick (.t 58) (.c (.bool true)) (.t 62)) [6,10]] false) (.cond (.t 63) (.seq (.reg [oN 2 (.mv (.c .nils)) [],oN 3 (.mv (.c (.bool false))) [0,0]] false) .ret) .skip)) (.seq (.reg [oM 64 7 [],oM 2 64 [0,0],oN 3 (.mv (.c (.bool true))) [1,0,1]] false) .ret))))))))
theorem mcOkv72:okM Tryz.prog Tryz.f72 65=some mcv72:=by kernel_rfl
theorem vc72 (z:Int) (lv:List Lf) (hd:List (List Int)) (hlv:lv.length<=64) (hhd:hd.length<=64):FC Tryz.prog 72 [.agg [.int .i64 z,.rs 5 (lv.map cLf),.rs 1 (hd.map cS)]] [] (.tup [.rs 2 (((fmS z lv hd).getD []).map cSp),.bool (fmS z lv hd).isSome]) [] true:=by
 have hil:(Xx lv).length=lv.length:=by simp
 refine Qj (nt:=65) Tryz.func72 rfl rfl mcOkv72 (nL rfl) ?_
 delta mcv72
 refine Q4 (QF (QO 3 rfl (Qz fun _=>QK (Q4 (Q4 (QF (QO 2 rfl (Q9 rfl rfl rfl rfl (fun h11=>?_) (fun h11=>?_)))))))))
 ·skip
  refine QO 5 rfl (Qz fun _=>QK (Qe rfl (fun _=>?_) (fun h=>by cases h)))
  refine Q4 (QF (QO 2 rfl (Qz fun _=>QK (J2 (th_r ?_)))))
  rw [fm_1 (by omega)]
  exact Qs rfl (Xc (.cons QI (.cons (Q3 rfl (.inr rfl)) .nil))) .nil
 ·skip
  refine QO 3 rfl (Q9 rfl rfl rfl rfl (fun h15=>?_) (fun h15=>?_))
  ·skip
   refine rs_pick rfl rfl rfl (Qz fun _=>QK (Qe rfl (fun _=>?_) (fun h=>by cases h)))
   refine Q4 (QF (QO 2 rfl (Qz fun _=>QK (J2 (th_r ?_)))))
   rw [fm_1 (by omega)]
   exact Qs rfl (Xc (.cons QI (.cons (Q3 rfl (.inr rfl)) .nil))) .nil
  ·skip
   refine rs_pick rfl rfl rfl (Qz fun _=>QK (Qe rfl (fun h=>by cases h) (fun _=>?_)))
   refine Jp (QK (Q4 (QF (rs_ld_pa rfl rfl rfl rfl (nL rfl) rfl (Qx [] rfl rfl (vc80 z lv hd hlv) (.cons (Qd rfl) (.nil)) rfl (Xp rfl rfl (Qz fun _=>QK (Q4 (Q4 (QF ?_))))))))))
   refine Xp rfl rfl (Qh rfl rfl (Xp rfl rfl (Qz fun _=>QK (XI ?_))))
   refine Qr (α:=Nat×Int) (fun s=>(Xx lv).length-s.1) (fun s=>[(1,.ptr 1 0 0),(4,.rs 1 ((Xx lv).map civ)),(19,.rs 1 ((Xx lv).map civ)),(20,iv ((Xx lv).length:Int)),(21,iv (((s.1):Nat):Int))]) (fun s=>[(1,.cells 55 3 [[.int .i64 z,.rs 5 (lv.map cLf),.rs 1 (hd.map cS)]] true)]) (fun s=>s.1<=(Xx lv).length/\(s.1=0/\s.2 = -1\/1<=s.1/\(Xx lv)[s.1-1]?=some s.2)/\incF z s.2 ((Xx lv).drop s.1)=incF z (-1) (Xx lv)) (0,-1) (⟨by omega,.inl ⟨rfl,rfl⟩,rfl⟩)
    (Qa (.cs (.cs (.cs (.cs (.cs (.nil)))))) (.keep (rfl) rfl (.nil)) (fun i h=>by cases h)) ?_
   rintro ⟨k,p⟩ ⟨hk,hp,hinv⟩
   dsimp only at hk hp hinv ⊢
   refine Q4 (QF (rs_lss rfl rfl rfl (Qz fun _=>QK (Q4 (Qe rfl (fun h22=>?_) (fun h22=>?_))))))
   ·replace h22:=of_decide_eq_true h22
    refine Jp (QK (Q4 (XI (Q4 (QF (Xp rfl rfl ?_))))))
    obtain ⟨x,hxk,hxm⟩:=Qo (L:=Xx lv) (k:=k) (by omega)
    rw [incF_at hxk] at hinv
    refine Qp (f:=civ) (y:=x) rfl rfl rfl (by omega) hxk (QO 3 rfl (Qz fun _=>QK (Q4 (QF (Xp rfl rfl (Q9 rfl rfl rfl rfl (fun h27=>?_) (fun h27=>?_)))))))
    ·skip
     refine QO 19 rfl (Qz fun _=>QK (Qe rfl (fun _=>?_) (fun h=>by cases h)))
     refine Q4 (QF (QO 2 rfl (Qz fun _=>QK (J2 (in_r (th_r (th_r (in_r (th_r ?_)))))))))
     rw [fm_2 (by omega) (by rw [← hinv]; simp only [Bool.and_eq_false_iff,decide_eq_false_iff_not]; omega)]
     exact Qs rfl (Xc (.cons QI (.cons (Q3 rfl (.inr rfl)) .nil))) .nil
    ·skip
     refine QO 4 rfl (Q9 rfl rfl rfl rfl (fun h32=>?_) (fun h32=>?_))
     ·skip
      refine QO 14 rfl (Qz fun _=>QK (Qe rfl (fun _=>?_) (fun h=>by cases h)))
      refine Q4 (QF (QO 2 rfl (Qz fun _=>QK (J2 (in_r (th_r (th_r (in_r (th_r ?_)))))))))
      rw [fm_2 (by omega) (by rw [← hinv]; simp only [Bool.and_eq_false_iff,decide_eq_false_iff_not]; omega)]
      exact Qs rfl (Xc (.cons QI (.cons (Q3 rfl (.inr rfl)) .nil))) .nil
     ·skip
      refine QO 3 rfl (Q9 rfl rfl rfl rfl (fun h36=>?_) (fun h36=>?_))
      ·skip
       refine QO 3 rfl (rs_sub rfl rfl rfl (by omega) ?_)
       have ha:(Xx lv)[k-1]?=some p:=by
        rcases hp with ⟨h0,_⟩ | hp
        ·omega
        ·exact hp.2
       refine Qp (f:=civ) (y:=p) rfl rfl rfl (by omega) (by rw [show ((k:Int)-1).toNat=k-1 by omega]; exact ha) (QO 2 rfl (Q9 rfl rfl rfl rfl (fun h44=>?_) (fun h44=>?_)))
       ·skip
        refine QO 2 rfl (Qz fun _=>QK (Qe rfl (fun _=>?_) (fun h=>by cases h)))
        refine Q4 (QF (QO 2 rfl (Qz fun _=>QK (J2 (in_r (th_r (th_r (in_r (th_r ?_)))))))))
        rw [fm_2 (by omega) (by rw [← hinv]; simp only [Bool.and_eq_false_iff,decide_eq_false_iff_not]; omega)]
        exact Qs rfl (Xc (.cons QI (.cons (Q3 rfl (.inr rfl)) .nil))) .nil
       ·skip
        refine QO 2 rfl (Qz fun _=>QK (Qe rfl (fun h=>by cases h) (fun _=>?_)))
        refine Jp (in_n (QK (QF (Qg rfl rfl rfl (by omega) (Xp rfl rfl (Qz fun _=>QK ?_))))))
        rw [show (decide (0<=x)&&decide (x<z)&&decide (p<x))=true from by simp only [Bool.and_eq_true,decide_eq_true_eq]; exact ⟨⟨by omega,by omega⟩,by omega⟩,Bool.true_and] at hinv
        exact ⟨(k+1,x),⟨by show k+1<=_; omega,.inr ⟨by show 1<=k+1; omega,hxk⟩,hinv⟩,by show _-(k+1)<_; omega,Qa (.cs (.cs (.cs (.cs (.cs (.nil)))))) (.keep (rfl) rfl (.nil)) (fun i h=>by cases h)⟩
      ·skip
       refine QO 10 rfl (Qz fun _=>QK (Qe rfl (fun h=>by cases h) (fun _=>?_)))
       refine Jp (in_n (QK (QF (Qg rfl rfl rfl (by omega) (Xp rfl rfl (Qz fun _=>QK ?_))))))
       rw [show (decide (0<=x)&&decide (x<z)&&decide (p<x))=true from by simp only [Bool.and_eq_true,decide_eq_true_eq]; exact ⟨⟨by omega,by omega⟩,hp.elim (fun h=>by omega) (fun h=>by omega)⟩,Bool.true_and] at hinv
       exact ⟨(k+1,x),⟨by show k+1<=_; omega,.inr ⟨by show 1<=k+1; omega,hxk⟩,hinv⟩,by show _-(k+1)<_; omega,Qa (.cs (.cs (.cs (.cs (.cs (.nil)))))) (.keep (rfl) rfl (.nil)) (fun i h=>by cases h)⟩
   ·replace h22:=of_decide_eq_false h22
    refine aw_exit (th_e (th_e (in_hit (QK (Q4 ?_)))))
    obtain rfl:k=(Xx lv).length:=by omega
    replace hinv:incF z (-1) (Xx lv)=true:=by rw [← hinv,List.drop_eq_nil_of_le (Nat.le_refl _)]; rfl
    refine QF (rs_fa_p rfl rfl ?_)
    have hzn:((z.toNat:Nat):Int)=z:=by omega
    refine QO 2 rfl (Qx [] rfl rfl (vc67 z.toNat (by omega) (Xx lv) (by omega)) (.cons (hv_int hzn.symm) (.cons (Qd rfl) (.nil))) rfl (Xp rfl rfl (Qz fun _=>QK (Q4 (QF (Xp rfl rfl (Qz fun _=>QK (Q4 (Q4 ?_)))))))))
    refine QF (Xp rfl rfl (Qh rfl rfl (QO 2 rfl (Qh rfl rfl (Q9 rfl rfl rfl rfl (fun h57=>?_) (fun h57=>?_))))))
    ·skip
     refine QO 6 rfl (Qz fun _=>QK (Qe rfl (fun _=>?_) (fun h=>by cases h)))
     refine Q4 (QF (QO 2 rfl (Qz fun _=>QK (J2 (th_r ?_)))))
     rw [fm_3 (by omega) hinv h57]
     exact Qs rfl (Xc (.cons QI (.cons (Q3 rfl (.inr rfl)) .nil))) .nil
    ·skip
     refine QO 4 rfl (Qx [] rfl rfl (vcC_short hd (by omega)) (.cons (Qd rfl) (.cons (Qd rfl) (.nil))) rfl ?_)
     cases h62:hd.any JL
     ·skip
      refine rs_pick rfl rfl rfl (Qz fun _=>QK (Qe rfl (fun h=>by cases h) (fun _=>?_)))
      refine Jp (QK (Q4 (QF (QO 3 rfl (Qz fun _=>QK (J2 ?_))))))
      rw [fm_5 (by omega) hinv h57 h62]
      exact Qs rfl (Xc (.cons sm (.cons (Q3 rfl (.inr rfl)) .nil))) .nil
     ·skip
      refine rs_pick rfl rfl rfl (Qz fun _=>QK (Qe rfl (fun _=>?_) (fun h=>by cases h)))
      refine Q4 (QF (QO 2 rfl (Qz fun _=>QK (J2 (th_r ?_)))))
      rw [fm_4 (by omega) hinv h57 h62]
      exact Qs rfl (Xc (.cons QI (.cons (Q3 rfl (.inr rfl)) .nil))) .nil
end Go.Proofs.YthfhaoogcpfboaaGreat
