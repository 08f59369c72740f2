/-
  Parts of the proof: M0 V0 V1 V2 V3 V4 V5 V6 V7 V8 V9 VA VB VC VD VE VF VG.
-/
import Derived.Test.YthfhaoogcpfboaaGreatK2
import Derived.Test.YthfhaoogcpfboaaGreatProg
import Derived.Shelf.Pu.Clone
import Derived.Shelf.Strings.Builder1
set_option linter.unusedVariables false
set_option linter.unusedSimpArgs false
namespace Go.Proofs.YthfhaoogcpfboaaGreat
open Go.RowKit
theorem hmx:Tryz.prog.follows .mixedOrders=true:=by kernel_rfl
section
variable {N:Nat} {Z:List Nat} {rn:Option Nat} {Q:Post} {F:Fr} {H:Hp} {c:MC} {k:KS} {r:RG} {nx:Fr->Hp->Prop} {ml:List MOper} {ms:Option (List MOper)} {acc:List Fp} {x:Fp} {e:Exit}
theorem gA (n:Nat) (h:rn1 n (.aw c .nil F H)=some r) (h2:RGi Tryz.prog N Z rn Q r):AW Tryz.prog N Z rn c Q F H:=go_a hmx n h h2
theorem gK (n:Nat) (h:rn1 n (.aw c k F H)=some r) (h2:RGi Tryz.prog N Z rn Q r):AW Tryz.prog N Z rn c (KS.post Tryz.prog N Z rn Q k) F H:=go_k hmx n h h2
theorem gT (n:Nat) (h:rn1 n (.aw c (.th nx k) F H)=some r) (h2:RGi Tryz.prog N Z rn Q r):AW Tryz.prog N Z rn c (Then nx (KS.post Tryz.prog N Z rn Q k)) F H:=go_t hmx n h h2
theorem gP (n:Nat) (h:rn1 n (lv F H e k)=some r) (h2:RGi Tryz.prog N Z rn Q r):KS.post Tryz.prog N Z rn Q k e F H:=go_p hmx n h h2
theorem gR (n:Nat) (h:rn1 n (.rs ml ms (x::acc) k F H)=some r) (h2:RGi Tryz.prog N Z rn Q r):RS Tryz.prog N ml F H (fun fps=>Kd Z ms acc (KS.post Tryz.prog N Z rn Q k) (x::fps)):=go_r hmx n h h2
theorem gI {r0:RG} (n:Nat) (h:rn1 n r0=some r) (h2:RGi Tryz.prog N Z rn Q r):RGi Tryz.prog N Z rn Q r0:=go_i hmx n h h2
theorem cN {d:Nat} {g:Option (Nat×Bool)} {pre:List Nat} {K:List Fp->Fr->Hp->Prop} {f:Nat} {ar:List Arg} {vs:List AV} {r:AV} {H':Hp} (hv:Ul F ar=some vs) (hg:(gOK F g&&(XX [] vs&&newOk H [] H'))=true) (hfc:FC Tryz.prog f vs [] r H' false)
  (h:RS Tryz.prog N ml ((d,r)::F) (H'++H) (fun fps=>K (([],Qh H')::fps))):RS Tryz.prog N (⟨some d,.call f ar,g,pre⟩::ml) F H K:=by
 simp only [Bool.and_eq_true] at hg
 exact QD [] hg.1 hv hfc (hvs_same hg.2.1) hg.2.2 h
end
abbrev okM (P:Program) (f:Func) (n:Nat):Option MC:=match f.body with | some c=>XW P n c | none=>none
theorem nz {p:Nat->Prop}:∀ i,i∈([]:List Nat)->p i:=fun i h=>by cases h
abbrev oM (d s:Nat) (pre:List Nat):MOper:=⟨some d,.mv (.t s),none,pre⟩
abbrev oA (d k s:Nat) (pre:List Nat):MOper:=⟨some d,.fa k (.t s),none,pre⟩
abbrev oD (d k s:Nat) (pre:List Nat):MOper:=⟨some d,.ld false k (.t s),none,pre⟩
abbrev pM (d s:Nat) (t:Nat) (b:Bool) (pre:List Nat):MOper:=⟨some d,.mv (.t s),some (t,b),pre⟩
abbrev pA (d k s:Nat) (t:Nat) (b:Bool) (pre:List Nat):MOper:=⟨some d,.fa k (.t s),some (t,b),pre⟩
abbrev pD (d k s:Nat) (t:Nat) (b:Bool) (pre:List Nat):MOper:=⟨some d,.ld false k (.t s),some (t,b),pre⟩
theorem KeptF.cs {H H0:Hp} {F F0:Fr} {t:Nat} {v:AV} (hs:KeptF H H0 F F0) (h:get F t=some v:=by exact rfl) (hv:QY (Qh H0) v=true:=by exact rfl):KeptF H H0 F ((t,v)::F0):=.cons h (Qs hv (.inl rfl)) hs
theorem nL {n m:Nat} (h:Nat.ble n m=true):n<=m:=Nat.le_of_ble_eq_true h
abbrev oN (d:Nat) (op:MOp) (pre:List Nat):MOper:=⟨some d,op,none,pre⟩
instance instArg (n:Nat):OfNat Arg n:=⟨.t n⟩
abbrev cI (n:Int):Arg:=.c (.int .i64 n)
abbrev sq (l:List MOper) (y:MC):MC:=.seq (.reg l false) y
abbrev dq (l:List MOper) (y:MC):MC:=.seq (.reg l true) y
abbrev rg (l:List MOper):MC:=.reg l false
abbrev dg (l:List MOper):MC:=.reg l true
abbrev oB (d:Nat) (op:BinOp) (a b:Arg) (pre:List Nat):MOper:=⟨some d,.bin op a b,none,pre⟩
abbrev oL (d n:Nat) (a:Arg) (pre:List Nat):MOper:=⟨some d,.ld true n a,none,pre⟩
abbrev oE (d:Nat) (a:Arg) (pre:List Nat):MOper:=⟨some d,.len a,none,pre⟩
abbrev oX (d z:Nat) (a b:Arg) (pre:List Nat):MOper:=⟨some d,.ixsl z a b,none,pre⟩
abbrev oC (d f:Nat) (l:List Arg) (pre:List Nat):MOper:=⟨some d,.call f l,none,pre⟩
abbrev oS (n:Nat) (a b:Arg) (pre:List Nat):MOper:=⟨none,.st n a b,none,pre⟩
abbrev up (n:Nat):List Nat:=List.range n
abbrev iz (n:Nat):List AV:=List.replicate n (.int .i64 0)
theorem bM {N:Nat} {F:Fr} {H:Hp} {ml:List MOper} {K:List Fp->Fr->Hp->Prop} {d:Nat} {g:Option (Nat×Bool)} {pre:List Nat} {e z len:Nat} {zero:List AV} {ps:List (Nat×Arg)} {α:Type} (f:α->List AV) (xs:List α) (hc:(gOK F g,fillS F z (reps len zero) ps,zero.length,get H d,chunks z len (xs.flatMap f),Q7 (xs.flatMap f))=(true,some (xs.flatMap f),z,none,xs.map f,true))
  (h:RS Tryz.prog N ml ((d,.sl d 0 len)::F) ((d,.cells e z (xs.map f) true)::H) (fun fps=>K (([],[d])::fps))):RS Tryz.prog N (⟨some d,.bslice e z zero len ps,g,pre⟩::ml) F H K:=bT hc h
theorem rQ {N:Nat} {Z:List Nat} {rn:Option Nat} {F:Fr} {H:Hp} {rs:List ResultVar} {r:AV} {al:Bool} (h:(resVs Tryz.prog F H rs).map resOne=some r:=by exact rfl) (hs:QY [] r=true:=by exact rfl) (hn:noRO r=true:=by exact rfl):RGi Tryz.prog N Z rn (RetQ Tryz.prog [] rs r [] al) (.ex .ret F H):=ret_pureM h hs hn
abbrev oG (d:Nat) (op:MOp) (t:Nat) (b:Bool) (pre:List Nat):MOper:=⟨some d,op,some (t,b),pre⟩
theorem sm {H H0:Hp} {v:AV} (hs:QY (Qh H0) v=true:=by exact rfl):RC H H0 true v v:=Qs hs (.inl rfl)
set_option maxRecDepth 100000
section
variable {P:Program} {N:Nat} {Z:List Nat} {F:Fr} {H:Hp} {ml:List MOper} {K:List Fp->Fr->Hp->Prop} {d:Nat} {g:Option (Nat×Bool)} {pre:List Nat}
theorem JS {α:Type} {f:α->List AV} {xs:List α} {t a n o e z:Nat} {fl:Bool} {x:Arg} {v:AV} {y:α} (hg:gOK F g=true) (hx:Qj F x=some (.ptr a t o)) (ha:get H a=some (.cells e z (xs.map f) fl)) (hy:xs[t]?=some y) (hv:(f y)[o]?=some v)
  (h:RS P N ml ((d,v)::F) H (fun fps=>K (([a],[])::fps))):RS P N (⟨some d,.ld false n x,g,pre⟩::ml) F H K:=rs_ld_p hg hx ha (el:=f y) (by simp [hy]) hv h
theorem rs_ld_ga {α:Type} {f:α->List AV} {xs:List α} {t a n o e z:Nat} {fl:Bool} {x:Arg} {cs:List AV} {y:α} (hg:gOK F g=true) (hx:Qj F x=some (.ptr a t o)) (ha:get H a=some (.cells e z (xs.map f) fl)) (hy:xs[t]?=some y) (hn:o+n<=(f y).length) (hc:((f y).drop o).take n=cs)
  (h:RS P N ml ((d,.agg cs)::F) H (fun fps=>K (([a],[])::fps))):RS P N (⟨some d,.ld true n x,g,pre⟩::ml) F H K:=rs_ld_pa hg hx ha (el:=f y) (by simp [hy]) hn hc h
theorem Qi {α:Type} {f:α->List AV} {xs:List α} {z:Nat} {x i:Arg} {k:IntKind} {t:Int} {y:α} (hg:gOK F g=true) (hx:Qj F x=some (.rs z (xs.map f))) (hi:Qj F i=some (.int k t)) (h0:0<=t) (hy:xs[t.toNat]?=some y)
  (h:RS P N ml ((d,.rp (f y))::F) H (fun fps=>K (([],[])::fps))):RS P N (⟨some d,.ixsl z x i,g,pre⟩::ml) F H K :=
 rs_ix_r hg hx hi h0 (by have:=(List.getElem?_eq_some_iff.1 hy).1; simp; omega) (by simp [hy]) h
end
theorem Qk {α:Type} {L:List α} {k:Nat} (h:k<L.length):∃ a,L[k]?=some a/\a∈L:=⟨L[k],List.getElem?_eq_getElem h,List.getElem_mem h⟩
theorem lt_of_at {α:Type} {L:List α} {k:Nat} {a:α} (h:L[k]?=some a):k<L.length:=(List.getElem?_eq_some_iff.1 h).1
theorem Xr {α:Type} {L:List α} {k:Nat} {a:α} (h:L[k]?=some a):a∈L:=List.mem_of_getElem? h
theorem QW {α:Type} {f:α->List AV} {xs:List α} {H Hs:Hp} {rd:List Nat} {i e z n:Nat} (hi:i∈rd) (hg:get H i=some (.cells e z (xs.map f) true)) (hn:xs.length=n):HV H Hs rd false (.sl i 0 n) (.rs z (xs.map f)) :=
 hv_sl hi hg (by simp; omega) (by rw [List.drop_zero,List.take_of_length_le (by simp; omega)])
abbrev iv (n:Int):AV:=.int .i64 n
abbrev ints (xs:List Int):AV:=.rs 1 (xs.map ci)
abbrev cu8 (x:Int):List AV:=[.int .u8 x]
theorem tmod_range (n m:Int) (h:1<=m) : -m<n.tmod m/\n.tmod m<m:=by
 have h1:=Int.tmod_lt_of_pos n (show (0:Int)<m by omega)
 have h2:=Int.tmod_lt_of_pos (-n) (show (0:Int)<m by omega)
 rw [Int.neg_tmod] at h2
 omega
theorem mod_eq (n m:Int) (h:1<=m):(n.tmod m+m).tmod m=n % m:=by
 have h1:=tmod_range n m h
 rw [Int.tmod_eq_emod_of_nonneg (by omega),Int.add_emod_right,Int.tmod_eq_emod]
 split
 ·simp
 ·rw [Int.sub_emod]; simp [Int.natAbs_of_nonneg (show 0<=m by omega)]
def Ja (n m:Int):Int:=if m<1 then 0 else n % m
theorem QJ (x n:Int) (h:1<=n):0<=Ja x n/\Ja x n<n:=by
 unfold Ja
 rw [if_neg (by omega)]
 exact ⟨Int.emod_nonneg _ (by omega),Int.emod_lt_of_pos _ (by omega)⟩
def QQ (L:List Int) (k:Nat) (n:Int):Int:=match L[k]? with
 | some x=>Ja x n
 | none=>0
def XV (L:List Int) (k:Nat):Nat:=if k<L.length then k+1 else k
abbrev QL (e:Nat) (L:List Int) (k:Nat):Ob:=.cells e 2 [[ints L,.int .i64 (k:Int)]] true
theorem Qv (L:List Int) (k:Nat) (n:Int) (h:1<=n):0<=QQ L k n/\QQ L k n<n:=by
 unfold QQ
 split
 ·exact QJ _ n h
 ·omega
structure V3 where
 (x y z:Int)
deriving DecidableEq
abbrev cV (v:V3):List AV:=[.int .i64 v.x,.int .i64 v.y,.int .i64 v.z]
abbrev aV (v:V3):AV:=.agg (cV v)
structure Mv where
 (kind:Int) (fr to co:V3) (feed:Int)
deriving DecidableEq
abbrev W (n:Int):Int:=IntKind.i64.wrap n
theorem QU {n:Int} (h : -9223372036854775808<=n/\n<=9223372036854775807):W n=n:=wrap64_eq h
def Un (a b:V3):V3:=⟨W (a.x+b.x),W (a.y+b.y),W (a.z+b.z)⟩
def subW (a b:V3):V3:=⟨W (a.x-b.x),W (a.y-b.y),W (a.z-b.z)⟩
def dotW (a b:V3):Int:=W (W (W (a.x*b.x)+W (a.y*b.y))+W (a.z*b.z))
def Q6 (a b:V3):V3:=⟨W (W (a.y*b.z)-W (a.z*b.y)),W (W (a.z*b.x)-W (a.x*b.z)),W (W (a.x*b.y)-W (a.y*b.x))⟩
def add (a b:V3):V3:=⟨a.x+b.x,a.y+b.y,a.z+b.z⟩
def sub (a b:V3):V3:=⟨a.x-b.x,a.y-b.y,a.z-b.z⟩
def dot (a b:V3):Int:=a.x*b.x+a.y*b.y+a.z*b.z
def cross (a b:V3):V3:=⟨a.y*b.z-a.z*b.y,a.z*b.x-a.x*b.z,a.x*b.y-a.y*b.x⟩
structure Bd (n:Int) (v:V3):Prop where
 x : -n<=v.x/\v.x<=n
 y : -n<=v.y/\v.y<=n
 z : -n<=v.z/\v.z<=n
theorem Bd.mono {n m:Int} {v:V3} (h:Bd n v) (hn:n<=m):Bd m v:=by
 have:=h.x; have:=h.y; have:=h.z
 exact ⟨by omega,by omega,by omega⟩
theorem Bd.add {a b:V3} {n m:Int} (ha:Bd n a) (hb:Bd m b):Bd (n+m) (add a b):=by
 have:=ha.x; have:=ha.y; have:=ha.z; have:=hb.x; have:=hb.y; have:=hb.z
 exact ⟨by simp only [YthfhaoogcpfboaaGreat.add]; omega,by simp only [YthfhaoogcpfboaaGreat.add]; omega,by simp only [YthfhaoogcpfboaaGreat.add]; omega⟩
theorem Bd.sub {a b:V3} {n m:Int} (ha:Bd n a) (hb:Bd m b):Bd (n+m) (sub a b):=by
 have:=ha.x; have:=ha.y; have:=ha.z; have:=hb.x; have:=hb.y; have:=hb.z
 exact ⟨by simp only [YthfhaoogcpfboaaGreat.sub]; omega,by simp only [YthfhaoogcpfboaaGreat.sub]; omega,by simp only [YthfhaoogcpfboaaGreat.sub]; omega⟩
def gL (l:List Int):Nat:=l.foldl (fun g n=>Nat.gcd g n.natAbs) 0
theorem gL_succ {l:List Int} {k:Nat} {x:Int} (h:l[k]?=some x):gL (l.take (k+1))=Nat.gcd (gL (l.take k)) x.natAbs:=by
 obtain ⟨hk,rfl⟩:=List.getElem?_eq_some_iff.1 h
 unfold gL
 rw [List.take_succ_eq_append_getElem hk,List.foldl_append]; rfl
theorem gcd_step (g n:Nat):Nat.gcd n (g % n)=Nat.gcd g n:=by rw [Nat.gcd_comm n,← Nat.gcd_rec,Nat.gcd_comm]
theorem tmod_nat (g n:Nat):((g:Int)).tmod (n:Int)=((g % n:Nat):Int):=(Int.ofNat_tmod g n).symm
theorem abs_max (n:Int):max n (-n)=(n.natAbs:Int):=by omega
def J4 (m:Int) (l:List Int):Bool:=l.all fun n=>decide (-m<=n/\n<=m)
def mc16:MC:=(sq [oN 4 (.mv (cI 0)) []] (.seq (sq [oM 5 1 [],oB 6 .lss 5 (cI 1) [0]] (.cond 6 (sq [oN 4 (.mv (cI 0)) []] .ret) .skip)) (sq [oM 7 0 [],oM 8 1 [],oB 9 .rem 7 8 [0,1],oM 10 1 [],oB 11 .add 9 10 [2,3],oM 12 1 [],oB 13 .rem 11 12 [4,5],oM 4 13 (6::up 7)] .ret)))
theorem mcOk16:(match Tryz.f57.body with | some c=>XW Tryz.prog 14 c | none=>none)=some mc16:=by kernel_rfl
theorem JP (n m:Int) (hm:m<=4611686018427387904):FC Tryz.prog 57 [.int .i64 n,.int .i64 m] [] (.int .i64 (Ja n m)) [] false:=by
 refine Qg (nt:=14) Tryz.func57 rfl rfl mcOk16 (nL rfl) ?_
 delta mc16
 refine gA 10 rfl (Qc rfl (fun h6=>?_) (fun h6=>?_))
 ·replace h6:=of_decide_eq_true h6
  have hr:Ja n m=0:=if_pos h6
  refine gK 5 rfl ?_
  exact Qt <| Jk rfl (by rw [hr]; first | rfl | exact congrArg _ (mod_eq n m (by omega))) rfl (.inr rfl)
 ·replace h6:=of_decide_eq_false h6
  have hr:Ja n m=n % m:=if_neg h6
  have ht:=tmod_range n m (by omega)
  refine gK 5 rfl (XA rfl rfl rfl (by omega) rfl (gR 1 rfl (Qf rfl rfl rfl (by omega) (gR 1 rfl (XA rfl rfl rfl (by omega) rfl (gR 3 rfl ?_))))))
  exact Qt <| Jk rfl (by rw [hr]; first | rfl | exact congrArg _ (mod_eq n m (by omega))) rfl (.inr rfl)
def mc35:MC:=(sq [oN 4 (.mv (cI 0)) []] (.seq (dq [oM 5 0 [],oN 6 (.nilc 5) [0],oA 7 1 6 [1],oD 8 1 7 [2],oM 9 0 [],oN 10 (.nilc 9) [4],oA 11 0 10 [5],oD 12 1 11 [6],oE 13 12 [7],oB 14 .geq 8 13 [3,8]] (.cond 14 (sq [oN 4 (.mv (cI 0)) []] .ret) .skip)) (sq [oM 15 0 [],oN 16 (.nilc 15) [0],oA 17 1 16 [1],oD 18 1 17 [2],oB 19 .add 18 (cI 1) [3],oN 20 (.nilc 15) (0::up 5),oA 21 1 20 (5::up 5),oS 1 21 19 (6::4::up 5)] (dq [oM 22 0 [],oN 23 (.nilc 22) [0],oA 24 0 23 [1],oD 25 1 24 [2],oM 26 0 [],oN 27 (.nilc 26) [4],oA 28 1 27 [5],oD 29 1 28 [6],oB 30 .sub 29 (cI 1) [7],oX 31 1 25 30 [3,8],oD 32 1 31 [9],oM 33 1 [],oC 34 57 [32,33] [10,11],oM 4 34 (12::12::up 13)] .ret))))
theorem mcOk35:(match Tryz.f46.body with | some c=>XW Tryz.prog 35 c | none=>none)=some mc35:=by kernel_rfl
theorem fc35_ (e:Nat) (L:List Int) (k:Nat) (n:Int) (hn:n<=4611686018427387904) (hL:L.length<=4611686018427387904):FC Tryz.prog 46 [.ptr 1000 0 0,.int .i64 n] [(1000,QL e L k)] (.int .i64 (QQ L k n)) [(1000,QL e L (XV L k))] true:=by
 refine Qg (nt:=35) Tryz.func46 rfl rfl mcOk35 (nL rfl) ?_
 delta mc35
 refine gA 8 rfl (rs_nilc_p rfl rfl (gR 3 rfl (rs_nilc_p rfl rfl (gR 2 rfl (Qe rfl rfl (gR 0 rfl (XZ rfl rfl rfl (gR 0 rfl (Q9 (by kernel_rfl) (gP 0 rfl (Qc rfl (fun h14=>?_) (fun h14=>?_))))))))))))
 ·replace h14:=of_decide_eq_true h14
  have e1:QQ L k n=0:=by unfold QQ; rw [List.getElem?_eq_none (by omega)]
  have e2:XV L k=k:=if_neg (by omega)
  rw [e1,e2]
  refine gK 5 rfl ?_
  exact Qt <| ret_own rfl sm (.keep rfl rfl .nil) (.cons rfl rfl rfl .nil)
 ·replace h14:=of_decide_eq_false h14
  have hk:k<L.length:=by omega
  have e1:QQ L k n=Ja L[k] n:=by unfold QQ; rw [List.getElem?_eq_getElem hk]
  have e2:XV L k=k+1:=if_pos hk
  rw [e1,e2]
  refine gK 4 rfl (rs_nilc_p rfl rfl (gR 2 rfl (Qf rfl rfl rfl (by omega) (gR 0 rfl (rs_nilc_p rfl rfl (gR 6 rfl (rs_nilc_p rfl rfl (gR 3 rfl (rs_nilc_p rfl rfl (gR 2 rfl (rs_sub (b:=1) (a:=((k+1:Nat):Int)) rfl rfl rfl (by omega) ?_)))))))))))
  refine gR 0 rfl (rs_ix_m (t:=k) rfl rfl (congrArg (fun x=>some (AV.int .i64 x)) (by omega)) (by omega) (gR 2 rfl (cN rfl rfl (JP L[k] n hn) (gR 1 rfl (Q9 (by kernel_rfl) (gP 1 rfl ?_))))))
  exact Qt <| ret_own rfl sm (.keep rfl rfl .nil) (.cons rfl rfl rfl .nil)
theorem fc35 (i e:Nat) (L:List Int) (k:Nat) (n:Int) (hn:n<=4611686018427387904) (hL:L.length<=4611686018427387904):FC Tryz.prog 46 [.ptr i 0 0,.int .i64 n] [(i,QL e L k)] (.int .i64 (QQ L k n)) [(i,QL e L (XV L k))] true :=
 fc_ren (swp 1000 i) (swp_swp _ _) (fc35_ e L k n hn hL) (.cons (.ptr (by simp [swp])) (.cons (.closed rfl) .nil)) (.cons (by simp [swp]) .flat .nil) (.closed rfl) (.cons (by simp [swp]) .flat .nil)
def mc28:MC:=(sq [oN 2 (.box 88 3 0) [],oN 3 (.box 88 3 1) [],oN 4 (.alloc 88 3 (iz 3)) []] (sq [oA 5 0 2 [],oD 6 1 5 [0],oA 7 0 3 [],oD 8 1 7 [2],oB 9 .add 6 8 [1,3],oA 10 1 2 [],oD 11 1 10 [5],oA 12 1 3 [],oD 13 1 12 [7],oB 14 .add 11 13 [6,8],oA 15 2 2 [],oD 16 1 15 [10],oA 17 2 3 [],oD 18 1 17 [12],oB 19 .add 16 18 [11,13],oN 20 (.build (iz 3) [(0,1,9),(1,1,14),(2,1,19)]) [4,9,14],oS 3 4 20 (15::up 16)] .ret))
theorem mcOk28:(match Tryz.f210.body with | some c=>XW Tryz.prog 21 c | none=>none)=some mc28:=by kernel_rfl
theorem fc28 (a b:V3):FC Tryz.prog 210 [aV a,aV b] [] (aV (Un a b)) [] false:=by
 refine Qg (nt:=21) Tryz.func210 rfl rfl mcOk28 (nL rfl) ?_
 delta mc28
 refine gA 12 rfl (QS rfl rfl rfl rfl (gR 4 rfl (QS rfl rfl rfl rfl (gR 4 rfl (QS rfl rfl rfl rfl (gR 4 rfl ?_))))))
 exact rQ
def mc31:MC:=(sq [oN 2 (.box 88 3 0) [],oN 3 (.box 88 3 1) [],oN 4 (.alloc 88 3 (iz 3)) []] (sq [oA 5 1 2 [],oD 6 1 5 [0],oA 7 2 3 [],oD 8 1 7 [2],oB 9 .mul 6 8 [1,3],oA 10 2 2 [],oD 11 1 10 [5],oA 12 1 3 [],oD 13 1 12 [7],oB 14 .mul 11 13 [6,8],oB 15 .sub 9 14 [4,9],oA 16 2 2 [],oD 17 1 16 [11],oA 18 0 3 [],oD 19 1 18 [13],oB 20 .mul 17 19 [12,14],oA 21 0 2 [],oD 22 1 21 [16],oA 23 2 3 [],oD 24 1 23 [18],oB 25 .mul 22 24 [17,19],oB 26 .sub 20 25 [15,20],oA 27 0 2 [],oD 28 1 27 [22],oA 29 1 3 [],oD 30 1 29 [24],oB 31 .mul 28 30 [23,25],oA 32 1 2 [],oD 33 1 32 [27],oA 34 0 3 [],oD 35 1 34 [29],oB 36 .mul 33 35 [28,30],oB 37 .sub 31 36 [26,31],oN 38 (.build (iz 3) [(0,1,15),(1,1,26),(2,1,37)]) [10,21,32],oS 3 4 38 (33::up 34)] .ret))
theorem mcOk31:(match Tryz.f209.body with | some c=>XW Tryz.prog 39 c | none=>none)=some mc31:=by kernel_rfl
theorem fc31 (a b:V3):FC Tryz.prog 209 [aV a,aV b] [] (aV (Q6 a b)) [] false:=by
 refine Qg (nt:=39) Tryz.func209 rfl rfl mcOk31 (nL rfl) ?_
 delta mc31
 refine gA 12 rfl (Q4 rfl rfl rfl rfl (gR 4 rfl (Q4 rfl rfl rfl rfl (gR 0 rfl (Xt rfl rfl rfl rfl (gR 4 rfl (Q4 rfl rfl rfl rfl (gR 4 rfl (Q4 rfl rfl rfl rfl (gR 0 rfl (Xt rfl rfl rfl rfl ?_)))))))))))
 refine gR 4 rfl (Q4 rfl rfl rfl rfl (gR 4 rfl (Q4 rfl rfl rfl rfl (gR 0 rfl (Xt rfl rfl rfl rfl (gR 4 rfl ?_))))))
 exact rQ
def mc30:MC:=(sq [oN 2 (.box 88 3 0) [],oN 3 (.box 88 3 1) [],oN 4 (.mv (cI 0)) []] (sq [oA 5 0 2 [],oD 6 1 5 [0],oA 7 0 3 [],oD 8 1 7 [2],oB 9 .mul 6 8 [1,3],oA 10 1 2 [],oD 11 1 10 [5],oA 12 1 3 [],oD 13 1 12 [7],oB 14 .mul 11 13 [6,8],oB 15 .add 9 14 [4,9],oA 16 2 2 [],oD 17 1 16 [11],oA 18 2 3 [],oD 19 1 18 [13],oB 20 .mul 17 19 [12,14],oB 21 .add 15 20 [10,15],oM 4 21 (16::up 17)] .ret))
theorem mcOk30:(match Tryz.f190.body with | some c=>XW Tryz.prog 22 c | none=>none)=some mc30:=by kernel_rfl
theorem fc30 (a b:V3):FC Tryz.prog 190 [aV a,aV b] [] (iv (dotW a b)) [] false:=by
 refine Qg (nt:=22) Tryz.func190 rfl rfl mcOk30 (nL rfl) ?_
 delta mc30
 refine gA 12 rfl (Q4 rfl rfl rfl rfl (gR 4 rfl (Q4 rfl rfl rfl rfl (gR 0 rfl (QS rfl rfl rfl rfl (gR 4 rfl (Q4 rfl rfl rfl rfl (gR 0 rfl (QS rfl rfl rfl rfl (gR 3 rfl ?_))))))))))
 exact rQ
def mc55:MC:=(sq [oN 2 (.mv (cI 0)) []] (sq [oM 3 0 [],oM 4 0 [],oN 5 (.un .neg 4) [1],oN 6 (.mx 3 5) [0,2],oM 2 6 (3::up 4)] .ret))
theorem mcOk55:(match Tryz.f207.body with | some c=>XW Tryz.prog 7 c | none=>none)=some mc55:=by kernel_rfl
theorem fc55 (n:Int) (h : -1000000<=n/\n<=1000000):FC Tryz.prog 207 [iv n] [] (iv (n.natAbs:Int)) [] false:=by
 refine Qg (nt:=7) Tryz.func207 rfl rfl mcOk55 (nL rfl) ?_
 delta mc55
 refine gA 8 rfl (JM rfl rfl (by omega) (gR 0 rfl (rs_mx rfl rfl rfl (abs_max n) (gR 3 rfl ?_))))
 exact rQ
def mc46:MC:=(sq [oN 2 (.mv (cI 0)) []] (sq [oN 3 (.mv (cI 0)) []] (.seq (sq [oM 6 0 [],oE 7 6 [0],oN 8 (.mv (cI 0)) []] (.block 0 (.loop (sq [oB 9 .lss 8 7 []] (.seq (.cond 9 .skip (.exit 0)) (.seq (.block 1 (sq [oX 10 1 6 8 [],oD 11 1 10 [0],oM 5 11 [1,0,1]] (.seq (sq [oM 12 5 [],oB 13 .eql 12 (cI (-9223372036854775808)) [0]] (.cond 13 (sq [oN 2 (.mv (cI 0)) []] .ret) .skip)) (sq [oM 14 5 [],oC 15 207 [14] [0],oM 5 15 [1,1,0,1]] (.block 2 (.loop (.seq (sq [oM 16 5 [],oB 17 .gtr 16 (cI 0) [0]] (.cond 17 .skip (.exit 2))) (.block 3 (dg [oM 18 5 [],oM 19 3 [],oM 20 5 [],oB 21 .rem 19 20 [1,2],oM 3 18 [0,0,1],oM 5 21 (3::4::up 5)]))))))))) (rg [oB 22 .add 8 (cI 1) [],oM 8 22 [0]]))))))) (sq [oM 23 3 [],oM 2 23 [0,0]] .ret))))
theorem mcOk46:(match Tryz.f183.body with | some c=>XW Tryz.prog 24 c | none=>none)=some mc46:=by kernel_rfl
theorem fc46 (l:List Int) (hl:∀ x∈l,-1000000<=x/\x<=1000000) (hn:l.length<=1000):FC Tryz.prog 183 [ints l] [] (iv (gL l:Int)) [] false:=by
 refine Qg (nt:=24) Tryz.func183 rfl rfl mcOk46 (nL rfl) ?_
 delta mc46
 refine gA 12 rfl (Qe rfl rfl (gR 3 rfl ?_))
 refine Qo (α:=Nat) (fun k=>l.length-k) (fun k=>[(6,ints l),(7,iv (l.length:Int)),(8,iv (((k):Nat):Int)),(3,iv ((gL (l.take k):Nat):Int))]) (fun k=>[]) (fun k=>k<=l.length) 0 (by omega)
  (Qb (Qa rfl rfl) (.nil) (fun i h=>by cases h)) ?_
 intro k hk
 refine gT 5 rfl (Qc rfl (fun h9=>?_) (fun h9=>?_))
 ·replace h9:=of_decide_eq_true h9
  refine gK 5 rfl ?_
  obtain ⟨x,hx,hxm⟩:=Qk (L:=l) (k:=k) (by omega)
  have hb:=hl x hxm
  refine Qi rfl rfl rfl (by omega) hx (gR 7 rfl (Ub rfl rfl rfl (gR 1 rfl (Qc rfl (fun h13=>?_) (fun h13=>?_)))))
  ·replace h13:=of_decide_eq_true h13
   refine gK 5 rfl ?_
   (exfalso; omega)
  ·replace h13:=of_decide_eq_false h13
   refine gK 4 rfl (cN rfl rfl (fc55 x (hl x hxm)) (gR 3 rfl ?_))
   refine Qo (α:=Nat×Nat) (fun a=>a.2) (fun a=>[(6,ints l),(7,iv (l.length:Int)),(8,iv (((k):Nat):Int)),(3,iv (a.1:Int)),(5,iv (a.2:Int))]) (fun a=>[]) (fun a=>Nat.gcd a.1 a.2=gL (l.take (k+1))) (gL (l.take k),x.natAbs) ((gL_succ hx).symm)
    (Qb (Qa rfl rfl) (.nil) (fun i h=>by cases h)) ?_
   rintro ⟨g,n⟩ hg
   dsimp only at hg ⊢
   refine gT 4 rfl (Ua rfl rfl rfl (gR 1 rfl (Qc rfl (fun h17=>?_) (fun h17=>?_))))
   ·replace h17:=of_decide_eq_true h17
    refine gK 6 rfl (XA rfl rfl rfl (by omega) (tmod_nat g n) (gR 2 rfl (Q9 (by kernel_rfl) (gP 0 rfl ?_))))
    exact Qz <| ⟨(n,g % n),by rw [← hg]; exact gcd_step g n,Nat.mod_lt _ (by omega),Qb (Qa rfl rfl) (.nil) (fun i h=>by cases h)⟩
   ·replace h17:=of_decide_eq_false h17
    refine gK 2 rfl (Qf rfl rfl rfl (by omega) (gR 2 rfl ?_))
    have hn0:n=0:=by omega
    rw [hn0,Nat.gcd_zero_right] at hg
    subst hg
    exact Qz <| ⟨k+1,by omega,by omega,Qb (Qa rfl rfl) (.nil) (fun i h=>by cases h)⟩
 ·replace h9:=of_decide_eq_false h9
  refine gK 7 rfl ?_
  (have hk2:k=l.length:=by omega
   rw [hk2,List.take_length]; exact Jk rfl rfl rfl (.inr rfl))
end Go.Proofs.YthfhaoogcpfboaaGreat
namespace Go.Proofs.YthfhaoogcpfboaaGreat
open Go.RowKit
set_option maxRecDepth 100000
set_option linter.unusedVariables false
open Go.Shelf
theorem Q3 {α:Type} {l:List α} {k:Nat} {x:α} (h:l[k]?=some x):l.take (k+1)=l.take k++[x]:=by rw [List.take_add_one,h]; rfl
theorem fc_of_calls {P:Program} {f:FuncId} {args:List AV} {r:AV} {c:Value} (hr:∀ w S,CR w S r c) (h:∀ (w:World) (S:Nat->Prop) (ρ:Rho) (cargs:Array Value),VRs w S ρ args cargs->Calls P f cargs w fun e w'=>e = .returned c/\Below w.heap.size w w'):FC P f args [] r [] false:=fun w S ρ cargs hH hv =>
 (h w S ρ cargs hv).mono fun e w' ⟨he,hb⟩=>⟨c,fun _=>False,fun _=>none,he,.cl (hr _ _),⟨fun b hb=>hb.elim,fun _ _=>rfl,⟨fun i o _ ho=>by simp [get] at ho,fun i j oi oj b z z' c c' _ _ _ hi=>by simp [get] at hi⟩⟩,
  ⟨hb.os,hb.tape,hb.output,hb.size,fun k hk _=>hb.block k hk⟩,fun b hb=>hb.elim,fun b ⟨i,ob,z,cap,_,h1,_⟩=>by simp [get] at h1,fun i hi=>absurd rfl hi,fun i hi=>absurd rfl hi⟩
def renC:Go.Shelf.Ren:={ f:=fun _=>170,t:=fun n=>if n=37 then 116 else if n=47 then 226 else n,g:=fun n=>n }
theorem laysC:LaysPu.n25 Tryz.prog renC:=by
 constructor
 all_goals first | kernel_rfl | (intro _; kernel_rfl)
theorem vc170 (l:List Int) (hl:l.length<=281474976710656):FC Tryz.prog 170 [.str (strN l)] [] (.str (strN l)) [] false :=
 fc_of_calls (c:=.string (strN l)) (fun _ _=>.str _) fun w S ρ cargs hv=>by
  have h0:=(hv.2 0 _ rfl).str_inv'
  have e:cargs = #[.string (strN l)]:=by
   obtain ⟨L⟩:=cargs
   have h1:=hv.1
   match L,h1,h0 with
   | [x],_,h0=>simp at h0; subst h0; rfl
  rw [e]
  exact AnyPu.stringslite_Clone laysC (strN l) w (by rw [strN_size]; exact hl)
abbrev cS (p:List Int):List AV:=[.str (strN p)]
def dstep (s:Int×Int) (c:Int):Int×Int:=((48271*s.1+c+1) % 2147483629,(69621*s.2+c+1) % 2147483587)
def Uv (l:List Int):Int×Int:=l.foldl dstep (17,29)
theorem dfold_app (a:List Int) (c:Int):Uv (a++[c])=dstep (Uv a) c:=by simp [Uv]
theorem dfold_bd (l:List Int):(0<=(Uv l).1/\(Uv l).1<2147483648)/\(0<=(Uv l).2/\(Uv l).2<2147483648):=by
 have key:∀ (l:List Int) (s:Int×Int),((0<=s.1/\s.1<2147483648)/\(0<=s.2/\s.2<2147483648))->((0<=(l.foldl dstep s).1/\(l.foldl dstep s).1<2147483648)/\(0<=(l.foldl dstep s).2/\(l.foldl dstep s).2<2147483648)):=by
  intro l
  induction l with
  | nil=>intro s h; exact h
  | cons c l ih =>
   intro s h
   refine ih _ ?_
   unfold dstep
   dsimp only
   omega
 exact key l (17,29) (by decide)
def b8 (n:Int):Int:=IntKind.u8.wrap n
def dg8 (s:Int×Int):List Int:=[b8 (s.1.fdiv (2^24)),b8 (s.1.fdiv (2^16)),b8 (s.1.fdiv (2^8)),b8 (s.1.fdiv (2^0)),b8 (s.2.fdiv (2^24)),b8 (s.2.fdiv (2^16)),b8 (s.2.fdiv (2^8)),b8 (s.2.fdiv (2^0))]
def digB (l:List Int):List Int:=dg8 (Uv l)
theorem b8_bd (n:Int):0<=b8 n/\b8 n<256:=by
 unfold b8
 rw [IntKind.wrap_u8]; omega
theorem digB_8 (l:List Int):B8 (digB l):=by
 intro x hx
 simp only [digB,dg8,List.mem_cons,List.not_mem_nil,or_false] at hx
 rcases hx with rfl | rfl | rfl | rfl | rfl | rfl | rfl | rfl <;> exact b8_bd _
theorem take_flat {ps:List (List Int)} {k:Nat} {p:List Int} (h:ps[k]?=some p):(ps.take (k+1)).flatten=(ps.take k).flatten++p.take p.length:=by
 rw [Q3 h]; simp
def dgK (s:Int×Int):Nat->List AV
 | 0=>[.int .u8 0,.int .u8 0,.int .u8 0,.int .u8 0,.int .u8 0,.int .u8 0,.int .u8 0,.int .u8 0]
 | 1=>[.int .u8 (b8 (s.1.fdiv (2^24))),.int .u8 0,.int .u8 0,.int .u8 0,.int .u8 (b8 (s.2.fdiv (2^24))),.int .u8 0,.int .u8 0,.int .u8 0]
 | 2=>[.int .u8 (b8 (s.1.fdiv (2^24))),.int .u8 (b8 (s.1.fdiv (2^16))),.int .u8 0,.int .u8 0,.int .u8 (b8 (s.2.fdiv (2^24))),.int .u8 (b8 (s.2.fdiv (2^16))),.int .u8 0,.int .u8 0]
 | 3=>[.int .u8 (b8 (s.1.fdiv (2^24))),.int .u8 (b8 (s.1.fdiv (2^16))),.int .u8 (b8 (s.1.fdiv (2^8))),.int .u8 0,.int .u8 (b8 (s.2.fdiv (2^24))),.int .u8 (b8 (s.2.fdiv (2^16))),.int .u8 (b8 (s.2.fdiv (2^8))),.int .u8 0]
 | 4=>[.int .u8 (b8 (s.1.fdiv (2^24))),.int .u8 (b8 (s.1.fdiv (2^16))),.int .u8 (b8 (s.1.fdiv (2^8))),.int .u8 (b8 (s.1.fdiv (2^0))),.int .u8 (b8 (s.2.fdiv (2^24))),.int .u8 (b8 (s.2.fdiv (2^16))),.int .u8 (b8 (s.2.fdiv (2^8))),.int .u8 (b8 (s.2.fdiv (2^0)))]
 | _=>[]
def mcv138:MC:=(sq [oN 2 (.mv (.c (.str (strN [])))) []] (sq [oM 3 0 [],oC 4 170 [3] [0],oM 2 4 [1,1,0,1]] .ret))
theorem mcOkv138:okM Tryz.prog Tryz.f138 5=some mcv138:=by kernel_rfl
theorem vc138 (l:List Int) (hl:l.length<=281474976710656):FC Tryz.prog 138 [.str (strN l)] [] (.str (strN l)) [] false:=by
 refine Qg (nt:=5) Tryz.func138 rfl rfl mcOkv138 (nL rfl) ?_
 delta mcv138
 refine gA 7 rfl (cN rfl rfl (vc170 l hl) (gR 3 rfl ?_))
 exact rQ
def mcv94:MC:=(sq [oN 2 (.alloc 130 8 [(.int .u8 0),(.int .u8 0),(.int .u8 0),(.int .u8 0),(.int .u8 0),(.int .u8 0),(.int .u8 0),(.int .u8 0)]) []] (sq [oN 3 (.mv (.c (.int .u64 17))) [],oN 4 (.mv (.c (.int .u64 29))) [0,0]] (.seq (sq [oM 11 0 [],oE 12 11 [0],oN 13 (.mv (cI 0)) []] (.block 0 (.loop (sq [oB 14 .lss 13 12 []] (.seq (.cond 14 .skip (.exit 0)) (.seq (.block 1 (sq [oX 15 1 11 13 [],oD 16 1 15 [0],oM 6 16 [1,0,1]] (sq [oM 17 6 [],oN 18 (.s2b 17) [0],oE 19 18 [1],oN 20 (.mv (cI 0)) []] (.block 2 (.loop (sq [oB 21 .lss 20 19 []] (.seq (.cond 21 .skip (.exit 2)) (.seq (.block 3 (sq [oX 22 1 18 20 [],oD 23 1 22 [0],oM 8 23 [1,0,1]] (sq [oM 24 3 [],oB 25 .mul (.c (.int .u64 48271)) 24 [0],oM 26 8 [],oN 27 (.cvt .u64 26) [2],oB 28 .add 25 27 [1,3],oB 29 .add 28 (.c (.int .u64 1)) [4],oB 30 .rem 29 (.c (.int .u64 2147483629)) [5],oM 3 30 (6::up 7)] (rg [oM 31 4 [],oB 32 .mul (.c (.int .u64 69621)) 31 [0],oM 33 8 [],oN 34 (.cvt .u64 33) [2],oB 35 .add 32 34 [1,3],oB 36 .add 35 (.c (.int .u64 1)) [4],oB 37 .rem 36 (.c (.int .u64 2147483587)) [5],oM 4 37 (6::up 7)])))) (rg [oB 38 .add 20 (cI 1) [],oM 20 38 [0]]))))))))) (rg [oB 39 .add 13 (cI 1) [],oM 13 39 [0]]))))))) (sq [oN 9 (.alloc 130 8 [(.int .u8 0),(.int .u8 0),(.int .u8 0),(.int .u8 0),(.int .u8 0),(.int .u8 0),(.int .u8 0),(.int .u8 0)]) []] (.seq (sq [oN 40 (.mv (cI 0)) []] (.block 4 (.loop (sq [oB 41 .lss 40 (cI 4) []] (.seq (.cond 41 .skip (.exit 4)) (.seq (.block 5 (sq [oM 42 40 [],oM 10 42 [0,0]] (dg [oM 43 10 [],oM 44 10 [],oB 45 .add (cI 4) 44 [1],oM 46 3 [],oM 47 10 [],oB 48 .mul (cI 8) 47 [4],oB 49 .sub (cI 24) 48 [5],oB 50 .shr 46 49 [3,6],oN 51 (.cvt .u8 50) [7],oM 52 4 [],oM 53 10 [],oB 54 .mul (cI 8) 53 [10],oB 55 .sub (cI 24) 54 [11],oB 56 .shr 52 55 [9,12],oN 57 (.cvt .u8 56) [13],oN 58 (.ixarr 8 1 9 43) [0,0,3,4,5,6,7,8],oS 1 58 51 [15,8,0,3,4,5,6,7,8],oN 59 (.ixarr 8 1 9 45) (2::up 17),oS 1 59 57 (17::14::16::up 17)]))) (rg [oB 60 .add 40 (cI 1) [],oM 40 60 [0]]))))))) (sq [oL 61 8 9 [],oS 8 2 61 [0,0]] .ret))))))
theorem mcOkv94:okM Tryz.prog Tryz.f94 62=some mcv94:=by kernel_rfl
set_option maxHeartbeats 1000000 in
theorem vc94 (ps:List (List Int)) (hp:∀ p∈ps,B8 p/\p.length<=4611686018427387904) (hl:ps.length<=4611686018427387904):FC Tryz.prog 94 [.rs 1 (ps.map cS)] [] (.agg ((digB ps.flatten).map (AV.int .u8 ·))) [] false:=by
 refine Qg (nt:=62) Tryz.func94 rfl rfl mcOkv94 (nL rfl) ?_
 delta mcv94
 refine gA 13 rfl (Qe rfl rfl (gR 3 rfl ?_))
 refine Qo (α:=Nat) (fun k=>ps.length-k) (fun k=>[(2,.ptr 2 0 0),(3,.int .u64 (Uv ((ps.take (k)).flatten)).1),(4,.int .u64 (Uv ((ps.take (k)).flatten)).2),(11,.rs 1 (ps.map cS)),(12,iv (ps.length:Int)),(13,iv (((k):Nat):Int))]) (fun k=>[(2,.cells 130 8 [[.int .u8 0,.int .u8 0,.int .u8 0,.int .u8 0,.int .u8 0,.int .u8 0,.int .u8 0,.int .u8 0]] true)]) (fun k=>k<=ps.length) 0 (by omega)
  (Qb (.cs (.cons rfl (JU rfl rfl) (.cons rfl (JU rfl rfl) (.cs (.cs (.cs (.nil))))))) (.keep rfl rfl .nil) nz) ?_
 intro k hk
 refine gT 5 rfl (Qc rfl (fun h14=>?_) (fun h14=>?_))
 ·replace h14:=of_decide_eq_true h14
  refine gK 5 rfl ?_
  obtain ⟨p,hpk,hpm⟩:=Qk (L:=ps) (k:=k) (by omega)
  have hpb:=hp p hpm
  refine Qi (f:=cS) (y:=p) rfl rfl rfl (by omega) hpk (gR 6 rfl (rs_s2b rfl rfl hpb.1 (gR 0 rfl (Qe rfl rfl (gR 3 rfl ?_)))))
  refine Qo (α:=Nat) (fun j=>p.length-j) (fun j=>[(2,.ptr 2 0 0),(3,.int .u64 (Uv ((ps.take k).flatten++p.take (j))).1),(4,.int .u64 (Uv ((ps.take k).flatten++p.take (j))).2),(11,.rs 1 (ps.map cS)),(12,iv (ps.length:Int)),(13,iv (((k):Nat):Int)),(18,.rs 1 (p.map cu8)),(19,iv (p.length:Int)),(20,iv (((j):Nat):Int))]) (fun j=>[(2,.cells 130 8 [[.int .u8 0,.int .u8 0,.int .u8 0,.int .u8 0,.int .u8 0,.int .u8 0,.int .u8 0,.int .u8 0]] true)]) (fun j=>j<=p.length) 0 (by omega)
   (Qb (.cs (.cons rfl (JU (by simp) rfl) (.cons rfl (JU (by simp) rfl) (.cs (.cs (.cs (.cs (.cs (.cs (.nil)))))))))) (.keep rfl rfl .nil) nz) ?_
  intro j hj
  refine gT 5 rfl (Qc rfl (fun h21=>?_) (fun h21=>?_))
  ·replace h21:=of_decide_eq_true h21
   refine gK 5 rfl ?_
   obtain ⟨b,hb,hbm⟩:=Qk (L:=p) (k:=j) (by omega)
   have hb8:=hpb.1 b hbm
   have hbd:=dfold_bd ((ps.take k).flatten++p.take (j))
   have hst:=dfold_app ((ps.take k).flatten++p.take (j)) b
   rw [List.append_assoc,← Q3 hb] at hst
   generalize Uv ((ps.take k).flatten++p.take (j))=s at hbd hst ⊢
   obtain ⟨x,y⟩:=s
   dsimp only at hbd hst ⊢
   refine Qi (f:=cu8) (y:=b) rfl rfl rfl (by omega) hb (gR 6 rfl (Q4 (c:=48271*x) rfl rfl rfl (by rw [IntKind.wrap_u64]; omega) (gR 1 rfl (Xc (m:=b) rfl rfl (by rw [IntKind.wrap_u64]; omega) (gR 0 rfl (QS (c:=48271*x+b) rfl rfl rfl (by rw [IntKind.wrap_u64]; omega) (gR 0 rfl (QS (c:=48271*x+b+1) rfl rfl rfl (by rw [IntKind.wrap_u64]; omega) (gR 0 rfl (XA (c:=(48271*x+b+1) % 2147483629) rfl rfl rfl (by decide) (Int.tmod_eq_emod_of_nonneg (by omega)) (gR 4 rfl ?_)))))))))))
   refine Q4 (c:=69621*y) rfl rfl rfl (by rw [IntKind.wrap_u64]; omega) (gR 1 rfl (Xc (m:=b) rfl rfl (by rw [IntKind.wrap_u64]; omega) (gR 0 rfl (QS (c:=69621*y+b) rfl rfl rfl (by rw [IntKind.wrap_u64]; omega) (gR 0 rfl (QS (c:=69621*y+b+1) rfl rfl rfl (by rw [IntKind.wrap_u64]; omega) (gR 0 rfl (XA (c:=(69621*y+b+1) % 2147483587) rfl rfl rfl (by decide) (Int.tmod_eq_emod_of_nonneg (by omega)) (gR 3 rfl (Qf rfl rfl rfl (by omega) (gR 2 rfl ?_)))))))))))
   exact Qz <| ⟨j+1,by omega,by omega,Qb (.cs (.cons rfl (JU (by rw [hst]; rfl) rfl) (.cons rfl (JU (by rw [hst]; rfl) rfl) (.cs (.cs (.cs (.cs (.cs (.cs (.nil)))))))))) (.keep rfl rfl .nil) nz⟩
  ·replace h21:=of_decide_eq_false h21
   refine gK 2 rfl (Qf rfl rfl rfl (by omega) (gR 2 rfl ?_))
   have hj2:j=p.length:=by omega
   subst hj2
   refine ⟨k+1,by omega,by omega,?_⟩
   rw [take_flat hpk]
   exact Qb (Qa rfl rfl) (.keep rfl rfl .nil) nz
 ·replace h14:=of_decide_eq_false h14
  refine gK 2 rfl ?_
  obtain rfl:k=ps.length:=by omega
  rw [List.take_length]
  generalize hsd:Uv ps.flatten=s
  refine gI 9 rfl ?_
  refine Qo (α:=Nat) (fun m=>4-m) (fun m=>[(2,.ptr 2 0 0),(3,.int .u64 s.1),(4,.int .u64 s.2),(9,.ptr 9 0 0),(40,iv (((m):Nat):Int))]) (fun m=>[(2,.cells 130 8 [[.int .u8 0,.int .u8 0,.int .u8 0,.int .u8 0,.int .u8 0,.int .u8 0,.int .u8 0,.int .u8 0]] true),(9,.cells 130 8 [dgK s (m)] true)]) (fun m=>m<=4) 0 (by omega)
   (Qb (Qa rfl rfl) (kS rfl rfl) (fun i h=>by cases h)) ?_
  intro m hm
  refine gT 5 rfl (Qc rfl (fun h41=>?_) (fun h41=>?_))
  ·replace h41:=of_decide_eq_true h41
   refine gK 5 rfl ?_
   obtain rfl | rfl | rfl | rfl:m=0\/m=1\/m=2\/m=3:=by omega
   ·skip
    refine gI 6 rfl (QS rfl rfl rfl rfl (gR 2 rfl (Q4 rfl rfl rfl rfl (gR 0 rfl (Xt rfl rfl rfl rfl (gR 0 rfl (Jt rfl rfl rfl (by decide) rfl (gR 0 rfl (Xc rfl rfl rfl (gR 2 rfl (Q4 rfl rfl rfl rfl ?_)))))))))))
    refine gR 0 rfl (Xt rfl rfl rfl rfl (gR 0 rfl (Jt rfl rfl rfl (by decide) rfl (gR 0 rfl (Xc rfl rfl rfl (gR 0 rfl (Qm rfl rfl rfl (by decide) (by decide) (gR 1 rfl (Qm rfl rfl rfl (by decide) (by decide) (gR 1 rfl (Q9 (by kernel_rfl) ?_)))))))))))
    refine gP 1 rfl (Qf rfl rfl rfl (by omega) (gR 2 rfl ?_))
    exact Qz <| ⟨0+1,by omega,by omega,Qb (Qa rfl rfl) (kS rfl rfl) (fun i h=>by cases h)⟩
   ·skip
    refine gI 6 rfl (QS rfl rfl rfl rfl (gR 2 rfl (Q4 rfl rfl rfl rfl (gR 0 rfl (Xt rfl rfl rfl rfl (gR 0 rfl (Jt rfl rfl rfl (by decide) rfl (gR 0 rfl (Xc rfl rfl rfl (gR 2 rfl (Q4 rfl rfl rfl rfl ?_)))))))))))
    refine gR 0 rfl (Xt rfl rfl rfl rfl (gR 0 rfl (Jt rfl rfl rfl (by decide) rfl (gR 0 rfl (Xc rfl rfl rfl (gR 0 rfl (Qm rfl rfl rfl (by decide) (by decide) (gR 1 rfl (Qm rfl rfl rfl (by decide) (by decide) (gR 1 rfl (Q9 (by kernel_rfl) ?_)))))))))))
    refine gP 1 rfl (Qf rfl rfl rfl (by omega) (gR 2 rfl ?_))
    exact Qz <| ⟨1+1,by omega,by omega,Qb (Qa rfl rfl) (kS rfl rfl) (fun i h=>by cases h)⟩
   ·skip
    refine gI 6 rfl (QS rfl rfl rfl rfl (gR 2 rfl (Q4 rfl rfl rfl rfl (gR 0 rfl (Xt rfl rfl rfl rfl (gR 0 rfl (Jt rfl rfl rfl (by decide) rfl (gR 0 rfl (Xc rfl rfl rfl (gR 2 rfl (Q4 rfl rfl rfl rfl ?_)))))))))))
    refine gR 0 rfl (Xt rfl rfl rfl rfl (gR 0 rfl (Jt rfl rfl rfl (by decide) rfl (gR 0 rfl (Xc rfl rfl rfl (gR 0 rfl (Qm rfl rfl rfl (by decide) (by decide) (gR 1 rfl (Qm rfl rfl rfl (by decide) (by decide) (gR 1 rfl (Q9 (by kernel_rfl) ?_)))))))))))
    refine gP 1 rfl (Qf rfl rfl rfl (by omega) (gR 2 rfl ?_))
    exact Qz <| ⟨2+1,by omega,by omega,Qb (Qa rfl rfl) (kS rfl rfl) (fun i h=>by cases h)⟩
   ·skip
    refine gI 6 rfl (QS rfl rfl rfl rfl (gR 2 rfl (Q4 rfl rfl rfl rfl (gR 0 rfl (Xt rfl rfl rfl rfl (gR 0 rfl (Jt rfl rfl rfl (by decide) rfl (gR 0 rfl (Xc rfl rfl rfl (gR 2 rfl (Q4 rfl rfl rfl rfl ?_)))))))))))
    refine gR 0 rfl (Xt rfl rfl rfl rfl (gR 0 rfl (Jt rfl rfl rfl (by decide) rfl (gR 0 rfl (Xc rfl rfl rfl (gR 0 rfl (Qm rfl rfl rfl (by decide) (by decide) (gR 1 rfl (Qm rfl rfl rfl (by decide) (by decide) (gR 1 rfl (Q9 (by kernel_rfl) ?_)))))))))))
    refine gP 1 rfl (Qf rfl rfl rfl (by omega) (gR 2 rfl ?_))
    exact Qz <| ⟨3+1,by omega,by omega,Qb (Qa rfl rfl) (kS rfl rfl) (fun i h=>by cases h)⟩
  ·replace h41:=of_decide_eq_false h41
   refine gK 2 rfl ?_
   obtain rfl:m=4:=by omega
   refine gI 5 rfl ?_
   unfold digB
   rw [hsd]
   exact rQ
end Go.Proofs.YthfhaoogcpfboaaGreat
namespace Go.Proofs.YthfhaoogcpfboaaGreat
open Go.RowKit
set_option maxRecDepth 100000
set_option linter.unusedVariables false
def JC (n:Int):List Int:=[b8 n,b8 (n.fdiv (2^8)),b8 (n.fdiv (2^16)),b8 (n.fdiv (2^24))]
theorem len4_8 (n:Int):B8 (JC n):=by
 intro x hx
 simp only [JC,List.mem_cons,List.not_mem_nil,or_false] at hx
 rcases hx with rfl | rfl | rfl | rfl <;> exact b8_bd _
theorem digB_len (l:List Int):(digB l).length=8:=rfl
abbrev aB (l:List Int):AV:=.agg (l.map (AV.int .u8 ·))
abbrev LIM:Nat:=140737488355328
def Jl (k m:List Int):List Int:=digB ([[5],JC (k.length:Int),k,JC (m.length:Int),m,k].flatten)
def J2 (t:List Int):List Int:=digB ([[1],t].flatten)
def JD (a b:List Int):List Int:=digB ([[2],a,b].flatten)
def missS:List Int:=digB ([[3]].flatten)
theorem b8_c {c:Int} (h:0<=c/\c<256:=by decide):B8 [c]:=fun x hx=>by
 have e:x=c:=List.mem_singleton.1 hx
 rw [e]; exact h
theorem len4_len (n:Int):(JC n).length<=4611686018427387904:=by show 4<=_; omega
def mcv93:MC:=(sq [oN 1 (.box 130 8 0) [],oN 2 (.mv (.c (.str (strN [])))) []] (sq [oN 3 (.slarr 8 1 none none) [],oN 4 (.b2s 3) [0],oC 5 138 [4] [1],oM 2 5 [2,2,0,1,2]] .ret))
theorem mcOkv93:okM Tryz.prog Tryz.f93 6=some mcv93:=by kernel_rfl
theorem vc93 (l:List Int):FC Tryz.prog 93 [aB (digB l)] [] (.str (strN (digB l))) [] false:=by
 refine Qg (nt:=6) Tryz.func93 rfl rfl mcOkv93 (nL rfl) ?_
 delta mcv93
 refine gA 7 rfl (rs_slarr rfl rfl rfl rfl (by decide) (.inl rfl) (by decide) (by decide) (gR 0 rfl (rs_b2s (l:=digB l) (rd:=[1]) rfl rfl rfl (gR 0 rfl (cN rfl rfl (vc138 (digB l) (by rw [digB_len]; decide)) (gR 3 rfl ?_))))))
 exact rQ
def mcv137:MC:=(sq [oN 2 (.mv (.c (.str (strN [])))) []] (sq [oM 4 0 [],oN 5 (.slen 4) [0],oM 3 5 [1,0,1]] (sq [oM 6 3 [],oN 7 (.cvt .u8 6) [0],oM 8 3 [],oB 9 .shr 8 (.c (.int .u64 8)) [2],oN 10 (.cvt .u8 9) [3],oM 11 3 [],oB 12 .shr 11 (.c (.int .u64 16)) [5],oN 13 (.cvt .u8 12) [6],oM 14 3 [],oB 15 .shr 14 (.c (.int .u64 24)) [8],oN 16 (.cvt .u8 15) [9],oN 17 (.bslice 5 1 [(.int .u8 0)] 4 [(0,7),(1,10),(2,13),(3,16)]) [1,4,7,10],oN 18 (.b2s 17) [11],oM 2 18 (12::up 13)] .ret)))
theorem mcOkv137:okM Tryz.prog Tryz.f137 19=some mcv137:=by kernel_rfl
theorem vc137 (l:List Int) (hl:l.length<=LIM):FC Tryz.prog 137 [.str (strN l)] [] (.str (strN (JC (l.length:Int)))) [] false:=by
 refine Qg (nt:=19) Tryz.func137 rfl rfl mcOkv137 (nL rfl) ?_
 delta mcv137
 refine gA 7 rfl (rs_slen rfl rfl (gR 5 rfl (Xc rfl rfl rfl (gR 1 rfl (Jt rfl rfl rfl (by decide) rfl (gR 0 rfl (Xc rfl rfl rfl (gR 1 rfl (Jt rfl rfl rfl (by decide) rfl (gR 0 rfl (Xc rfl rfl rfl ?_)))))))))))
 refine gR 1 rfl (Jt rfl rfl rfl (by decide) rfl (gR 0 rfl (Xc rfl rfl rfl (gR 0 rfl (bM cu8 ((JC (l.length:Int))) (by kernel_rfl) (gR 0 rfl (rs_b2s (l:=JC (l.length:Int)) (rd:=[17]) rfl rfl (bytesV_sl rfl rfl) (gR 3 rfl ?_))))))))
 exact rQ
def mcv91:MC:=(sq [oN 4 (.alloc 130 8 [(.int .u8 0),(.int .u8 0),(.int .u8 0),(.int .u8 0),(.int .u8 0),(.int .u8 0),(.int .u8 0),(.int .u8 0)]) []] (sq [oM 5 0 [],oC 6 137 [5] [0],oM 7 0 [],oM 8 1 [],oC 9 137 [8] [3,1],oM 10 1 [],oM 11 0 [],oN 12 (.bslice 9 1 [(.str (strN []))] 6 [(0,(.c (.str (strN [5])))),(1,6),(2,7),(3,9),(4,10),(5,11)]) [1,2,4,5,6],oC 13 94 [12] [7,4],oS 8 4 13 (8::8::up 9)] .ret))
theorem mcOkv91:okM Tryz.prog Tryz.f91 14=some mcv91:=by kernel_rfl
theorem vc91 (k m:List Int) (hk:B8 k/\k.length<=LIM) (hm:B8 m/\m.length<=LIM):FC Tryz.prog 91 [.str (strN k),.str (strN m)] [] (aB (Jl k m)) [] false:=by
 have hps:∀ p∈([[5],JC (k.length:Int),k,JC (m.length:Int),m,k]:List (List Int)),B8 p/\p.length<=4611686018427387904:=fun p hp=>by
  simp only [List.mem_cons,List.not_mem_nil,or_false] at hp
  rcases hp with rfl | rfl | rfl | rfl | rfl | rfl
  ·exact ⟨b8_c,by decide⟩
  ·exact ⟨len4_8 _,len4_len _⟩
  ·exact ⟨hk.1,Nat.le_trans hk.2 (by decide)⟩
  ·exact ⟨len4_8 _,len4_len _⟩
  ·exact ⟨hm.1,Nat.le_trans hm.2 (by decide)⟩
  ·exact ⟨hk.1,Nat.le_trans hk.2 (by decide)⟩
 refine Qg (nt:=14) Tryz.func91 rfl rfl mcOkv91 (nL rfl) ?_
 delta mcv91
 refine gA 7 rfl (cN rfl rfl (vc137 k hk.2) (gR 2 rfl (cN rfl rfl (vc137 m hm.2) (gR 2 rfl (bM cS (([[5],JC (k.length:Int),k,JC (m.length:Int),m,k]:List (List Int))) (by kernel_rfl) (gR 0 rfl (QD [12] rfl rfl (vc94 [[5],JC (k.length:Int),k,JC (m.length:Int),m,k] hps (by simp)) (.cons (QW (f:=cS) (xs:=[[5],JC (k.length:Int),k,JC (m.length:Int),m,k]) (by simp) rfl rfl) (.nil)) rfl (gR 3 rfl ?_))))))))
 exact rQ
def mcv40:MC:=(sq [oN 4 (.mv (.c (.str (strN [])))) []] (sq [oM 5 0 [],oM 6 1 [],oC 7 91 [5,6] [0,1],oC 8 93 [7] [2,2],oM 4 8 (3::3::up 4)] .ret))
theorem mcOkv40:okM Tryz.prog Tryz.f40 9=some mcv40:=by kernel_rfl
theorem vc40 (k m:List Int) (hk:B8 k/\k.length<=LIM) (hm:B8 m/\m.length<=LIM):FC Tryz.prog 40 [.str (strN k),.str (strN m)] [] (.str (strN (Jl k m))) [] false:=by
 refine Qg (nt:=9) Tryz.func40 rfl rfl mcOkv40 (nL rfl) ?_
 delta mcv40
 refine gA 8 rfl (cN rfl rfl (vc91 k m hk hm) (gR 0 rfl (cN rfl rfl (vc93 ([[5],JC (k.length:Int),k,JC (m.length:Int),m,k].flatten)) (gR 3 rfl ?_))))
 exact rQ
def mcv41:MC:=(sq [oN 2 (.mv (.c (.str (strN [])))) []] (sq [oM 3 0 [],oN 4 (.bslice 9 1 [(.str (strN []))] 2 [(0,(.c (.str (strN [1])))),(1,3)]) [0],oC 5 94 [4] [1],oC 6 93 [5] [2,2],oM 2 6 (3::3::up 4)] .ret))
theorem mcOkv41:okM Tryz.prog Tryz.f41 7=some mcv41:=by kernel_rfl
theorem vc41 (t:List Int) (ht:B8 t/\t.length<=LIM):FC Tryz.prog 41 [.str (strN t)] [] (.str (strN (J2 t))) [] false:=by
 have hps:∀ p∈([[1],t]:List (List Int)),B8 p/\p.length<=4611686018427387904:=fun p hp=>by
  simp only [List.mem_cons,List.not_mem_nil,or_false] at hp
  rcases hp with rfl | rfl
  ·exact ⟨b8_c,by decide⟩
  ·exact ⟨ht.1,Nat.le_trans ht.2 (by decide)⟩
 refine Qg (nt:=7) Tryz.func41 rfl rfl mcOkv41 (nL rfl) ?_
 delta mcv41
 refine gA 7 rfl (bM cS (([[1],t]:List (List Int))) (by kernel_rfl) (gR 0 rfl (QD [4] rfl rfl (vc94 ([[1],t]:List (List Int)) hps (by simp)) (.cons (QW (f:=cS) (xs:=([[1],t]:List (List Int))) (by simp) rfl rfl) (.nil)) rfl (gR 0 rfl (cN rfl rfl (vc93 (([[1],t]:List (List Int)).flatten)) (gR 3 rfl ?_))))))
 exact rQ
def mcv43:MC:=(sq [oN 4 (.mv (.c (.str (strN [])))) []] (sq [oM 5 0 [],oM 6 1 [],oN 7 (.bslice 9 1 [(.str (strN []))] 3 [(0,(.c (.str (strN [2])))),(1,5),(2,6)]) [0,1],oC 8 94 [7] [2],oC 9 93 [8] [3,3],oM 4 9 (4::4::up 5)] .ret))
theorem mcOkv43:okM Tryz.prog Tryz.f43 10=some mcv43:=by kernel_rfl
theorem vc43 (a b:List Int) (ha:B8 a/\a.length<=LIM) (hb:B8 b/\b.length<=LIM):FC Tryz.prog 43 [.str (strN a),.str (strN b)] [] (.str (strN (JD a b))) [] false:=by
 have hps:∀ p∈([[2],a,b]:List (List Int)),B8 p/\p.length<=4611686018427387904:=fun p hp=>by
  simp only [List.mem_cons,List.not_mem_nil,or_false] at hp
  rcases hp with rfl | rfl | rfl
  ·exact ⟨b8_c,by decide⟩
  ·exact ⟨ha.1,Nat.le_trans ha.2 (by decide)⟩
  ·exact ⟨hb.1,Nat.le_trans hb.2 (by decide)⟩
 refine Qg (nt:=10) Tryz.func43 rfl rfl mcOkv43 (nL rfl) ?_
 delta mcv43
 refine gA 8 rfl (bM cS (([[2],a,b]:List (List Int))) (by kernel_rfl) (gR 0 rfl (QD [7] rfl rfl (vc94 ([[2],a,b]:List (List Int)) hps (by simp)) (.cons (QW (f:=cS) (xs:=([[2],a,b]:List (List Int))) (by simp) rfl rfl) (.nil)) rfl (gR 0 rfl (cN rfl rfl (vc93 (([[2],a,b]:List (List Int)).flatten)) (gR 3 rfl ?_))))))
 exact rQ
def mcv44:MC:=(sq [oN 0 (.mv (.c (.str (strN [])))) []] (sq [oN 1 (.bslice 9 1 [(.str (strN []))] 1 [(0,(.c (.str (strN [3]))))]) [],oC 2 94 [1] [0],oC 3 93 [2] [1,1],oM 0 3 [2,2,0,1,2]] .ret))
theorem mcOkv44:okM Tryz.prog Tryz.f44 4=some mcv44:=by kernel_rfl
theorem vc44  : FC Tryz.prog 44 [] [] (.str (strN missS)) [] false:=by
 have hps:∀ p∈([[3]]:List (List Int)),B8 p/\p.length<=4611686018427387904:=fun p hp=>by
  simp only [List.mem_cons,List.not_mem_nil,or_false] at hp
  rcases hp with rfl
  ·exact ⟨b8_c,by decide⟩
 refine Qg (nt:=4) Tryz.func44 rfl rfl mcOkv44 (nL rfl) ?_
 delta mcv44
 refine gA 6 rfl (bM cS (([[3]]:List (List Int))) (by kernel_rfl) (gR 0 rfl (QD [1] rfl rfl (vc94 ([[3]]:List (List Int)) hps (by simp)) (.cons (QW (f:=cS) (xs:=([[3]]:List (List Int))) (by simp) rfl rfl) (.nil)) rfl (gR 0 rfl (cN rfl rfl (vc93 (([[3]]:List (List Int)).flatten)) (gR 3 rfl ?_))))))
 exact rQ
end Go.Proofs.YthfhaoogcpfboaaGreat
namespace Go.Proofs.YthfhaoogcpfboaaGreat
open Go.RowKit
set_option maxRecDepth 100000
set_option linter.unusedVariables false
section
variable {P:Program} {N:Nat} {F:Fr} {H:Hp} {ml:List MOper} {K:List Fp->Fr->Hp->Prop} {d:Nat} {g:Option (Nat×Bool)} {pre:List Nat} {x y:Arg} {k:IntKind} {a b c:Int}
theorem rs_xor (hg:gOK F g=true) (hx:Qj F x=some (.int k a)) (hy:Qj F y=some (.int k b)) (hc:bits .xor k a b=c) (h:RS P N ml ((d,.int k c)::F) H (fun fps=>K (([],[])::fps))):RS P N (⟨some d,.bin .xor x y,g,pre⟩::ml) F H K:=J5 hg hx hy ⟨rfl,by rw [hc]; exact h⟩
end
def zig (n:Int):Int:=if 0<=n then 2*n else -2*n-1
theorem zig_bd {n:Int} (h : -9223372036854775808<=n/\n<9223372036854775808):0<=zig n/\zig n<18446744073709551616:=by unfold zig; split <;> omega
def vmax:Nat->Int
 | 0=>2
 | k+1=>128*vmax k
def vfuel:Nat->Int->List Int
 | 0,c=>[b8 c]
 | k+1,c=>if 128<=c then b8 (c % 128+128)::vfuel k (c / 128) else [b8 c]
theorem vfuel_lt {k:Nat} {c:Int} (h:c<128):vfuel k c=[b8 c]:=by
 cases k with
 | zero=>rfl
 | succ k=>unfold vfuel; rw [if_neg (by omega)]
theorem vfuel_ge {k:Nat} {c:Int} (h:128<=c):vfuel (k+1) c=b8 (c % 128+128)::vfuel k (c / 128):=by
 rw [vfuel,if_pos h]
theorem vfuel_8:∀ (k:Nat) (c:Int),B8 (vfuel k c)/\(vfuel k c).length<=k+1
 | 0,c=>⟨fun x hx=>by rw [List.mem_singleton.1 hx]; exact b8_bd _,Nat.le_refl _⟩
 | k+1,c=>by
  unfold vfuel
  split
  ·have:=vfuel_8 k (c / 128)
   exact ⟨fun x hx=>by rcases List.mem_cons.1 hx with rfl | hx; exact b8_bd _; exact this.1 x hx,by simpa using this.2⟩
  ·exact ⟨fun x hx=>by rw [List.mem_singleton.1 hx]; exact b8_bd _,by simp⟩
def Jd (n:Int):List Int:=vfuel 9 (zig n)
theorem vint_8 (n:Int):B8 (Jd n):=(vfuel_8 9 _).1
theorem Xl (n:Int):(Jd n).length<=10:=(vfuel_8 9 _).2
structure VI (n:Int) (k:Nat) (L:List Int) (c:Int):Prop where
 e:Jd n=L++vfuel k c
 l:L.length+k=9
 p:0<=c
 m:c<vmax k
theorem VI.start {n:Int} (h : -9223372036854775808<=n/\n<9223372036854775808):VI n 9 [] (zig n) :=
 ⟨rfl,rfl,(zig_bd h).1,(zig_bd h).2⟩
theorem VI.pos {n c:Int} {k:Nat} {L:List Int} (h:VI n k L c) (hc:128<=c):∃ k',k=k'+1:=by
 have:=h.m
 cases k with
 | zero=>simp [vmax] at this; omega
 | succ k=>exact ⟨k,rfl⟩
theorem VI.step {n c:Int} {k:Nat} {L:List Int} (h:VI n (k+1) L c) (hc:128<=c):VI n k (L++[b8 (c % 128+128)]) (c / 128):=by
 refine ⟨by rw [h.e,vfuel_ge hc]; simp,by have:=h.l; simp; omega,by omega,?_⟩
 have:=h.m
 simp only [vmax] at this
 omega
theorem VI.done {n c:Int} {k:Nat} {L:List Int} (h:VI n k L c) (hc:c<128):Jd n=L++[b8 c]:=by rw [h.e,vfuel_lt hc]
abbrev I64 (n:Int):Prop := -9223372036854775808<=n/\n<9223372036854775808
theorem or128:∀ c:Fin 256,bits .or .u8 (c.val:Int) 128=((c.val % 128+128:Nat):Int):=by decide
theorem or128b (c:Int):bits .or .u8 (b8 c) 128=b8 (c % 128+128):=by
 have h:=b8_bd c
 have e:=or128 ⟨(b8 c).toNat,by omega⟩
 have e1:(((b8 c).toNat:Nat):Int)=b8 c:=by omega
 simp only [e1] at e
 rw [e]
 unfold b8
 rw [IntKind.wrap_u8,IntKind.wrap_u8]
 omega
theorem xor_zig {n:Int} (h:I64 n):bits .xor .u64 (IntKind.u64.wrap (IntKind.u64.wrap n*2)) (IntKind.u64.wrap (n.fdiv (2^63)))=zig n:=by
 by_cases h0:0<=n
 ·have e1:n.fdiv (2^63)=0:=by rw [Int.fdiv_eq_ediv_of_nonneg _ (by decide)]; omega
  have e2:IntKind.u64.wrap (IntKind.u64.wrap n*2)=2*n:=by rw [IntKind.wrap_u64,IntKind.wrap_u64]; omega
  rw [e1,e2]
  unfold bits zig
  simp only [show IntKind.u64.wrap 0=0 from rfl,if_pos h0]
  have e3:(BitVec.ofInt IntKind.u64.bits (2*n) ^^^ BitVec.ofInt IntKind.u64.bits 0)=BitVec.ofInt IntKind.u64.bits (2*n):=by
   rw [show BitVec.ofInt IntKind.u64.bits 0=0#_ from rfl]; simp
  rw [e3,BitVec.toNat_ofInt,IntKind.wrap_u64]
  simp only [IntKind.bits]
  omega
 ·have e1:n.fdiv (2^63) = -1:=by rw [Int.fdiv_eq_ediv_of_nonneg _ (by decide)]; omega
  have e2:IntKind.u64.wrap (IntKind.u64.wrap n*2)=2*n+18446744073709551616:=by rw [IntKind.wrap_u64,IntKind.wrap_u64]; omega
  rw [e1,e2]
  unfold bits zig
  simp only [if_neg h0]
  have e3:(BitVec.ofInt IntKind.u64.bits (2*n+18446744073709551616) ^^^ BitVec.ofInt IntKind.u64.bits (IntKind.u64.wrap (-1))) = ~~~ BitVec.ofInt IntKind.u64.bits (2*n+18446744073709551616):=by
   rw [show BitVec.ofInt IntKind.u64.bits (IntKind.u64.wrap (-1))=BitVec.allOnes _ from rfl]; simp
  rw [e3,BitVec.toNat_not,BitVec.toNat_ofInt,IntKind.wrap_u64]
  simp only [IntKind.bits]
  omega
theorem vmax_mono {k:Nat} (h:k<=9):vmax k<=vmax 9:=by
 have:∀ j:Fin 10,vmax j.val<=vmax 9:=by decide
 exact this ⟨k,by omega⟩
theorem vmax_le {k:Nat} (h:k<=9):vmax k<=18446744073709551616:=vmax_mono h
def mcv92:MC:=(sq [oN 2 (.mv (.c (.int .u64 0))) []] (.seq (sq [oM 3 0 [],oB 4 .geq 3 (cI 0) [0]] (.cond 4 (sq [oM 5 0 [],oN 6 (.cvt .u64 5) [0],oB 7 .mul (.c (.int .u64 2)) 6 [1],oM 2 7 [2,0,1,2]] .ret) .skip)) (sq [oM 8 0 [],oB 9 .add 8 (cI 1) [0],oN 10 (.un .neg 9) [1],oN 11 (.cvt .u64 10) [2],oB 12 .mul (.c (.int .u64 2)) 11 [3],oB 13 .add 12 (.c (.int .u64 1)) [4],oM 2 13 (5::up 6)] .ret)))
theorem mcOkv92:okM Tryz.prog Tryz.f92 14=some mcv92:=by kernel_rfl
theorem vc92 (n:Int) (hn:I64 n):FC Tryz.prog 92 [iv n] [] (.int .u64 (zig n)) [] false:=by
 refine Qg (nt:=14) Tryz.func92 rfl rfl mcOkv92 (nL rfl) ?_
 delta mcv92
 refine gA 8 rfl (XZ rfl rfl rfl (gR 1 rfl (Qc rfl (fun h4=>?_) (fun h4=>?_))))
 ·replace h4:=of_decide_eq_true h4
  refine gK 2 rfl ?_
  rw [show zig n=2*n from if_pos h4]
  refine gI 1 rfl (Xc (m:=n) rfl rfl (by rw [IntKind.wrap_u64]; omega) (gR 0 rfl (Q4 (c:=2*n) rfl rfl rfl (by rw [IntKind.wrap_u64]; omega) (gR 3 rfl ?_))))
  exact rQ
 ·replace h4:=of_decide_eq_false h4
  refine gK 3 rfl ?_
  rw [show zig n=2*(-(n+1))+1 by unfold zig; rw [if_neg (by omega)]; omega]
  refine gI 1 rfl (Qf rfl rfl rfl (by omega) (gR 0 rfl (JM rfl rfl (by omega) (gR 0 rfl (Xc (m := -(n+1)) rfl rfl (by rw [IntKind.wrap_u64]; omega) (gR 0 rfl (Q4 (c:=2*(-(n+1))) rfl rfl rfl (by rw [IntKind.wrap_u64]; omega) (gR 0 rfl (QS (c:=2*(-(n+1))+1) rfl rfl rfl (by rw [IntKind.wrap_u64]; omega) (gR 3 rfl ?_))))))))))
  exact rQ
def mcv38:MC:=(sq [oN 2 (.mv (.c (.str (strN [])))) []] (sq [oN 3 (.mv (.c (.str (strN [])))) []] (sq [oM 5 0 [],oC 6 92 [5] [0],oM 4 6 [1,1,0,1]] (.seq (.block 0 (.loop (.seq (sq [oM 7 4 [],oB 8 .geq 7 (.c (.int .u64 128)) [0]] (.cond 8 .skip (.exit 0))) (.block 1 (sq [oM 9 3 [],oM 10 4 [],oB 11 .rem 10 (.c (.int .u64 128)) [1],oB 12 .add 11 (.c (.int .u64 128)) [2],oN 13 (.cvt .u8 12) [3],oN 14 (.bslice 5 1 [(.int .u8 0)] 1 [(0,13)]) [4],oN 15 (.b2s 14) [5],oN 16 (.scat 9 15) [0,6],oM 3 16 (7::up 8)] (rg [oM 17 4 [],oB 18 .quo 17 (.c (.int .u64 128)) [0],oM 4 18 [1,0,1]])))))) (sq [oM 19 3 [],oM 20 4 [],oN 21 (.cvt .u8 20) [1],oN 22 (.bslice 5 1 [(.int .u8 0)] 1 [(0,21)]) [2],oN 23 (.b2s 22) [3],oN 24 (.scat 19 23) [0,4],oM 2 24 (5::up 6)] .ret)))))
theorem mcOkv38:okM Tryz.prog Tryz.f38 25=some mcv38:=by kernel_rfl
theorem vc38 (n:Int) (hn:I64 n):FC Tryz.prog 38 [iv n] [] (.str (strN (Jd n))) [] false:=by
 refine Qg (nt:=25) Tryz.func38 rfl rfl mcOkv38 (nL rfl) ?_
 delta mcv38
 refine gA 11 rfl (cN rfl rfl (vc92 n hn) (gR 4 rfl ?_))
 refine Qo (α:=Nat×List Int×Int) (fun q=>q.1) (fun q=>[(3,.str (strN q.2.1)),(4,.int .u64 q.2.2)]) (fun q=>[]) (fun q=>VI n q.1 q.2.1 q.2.2) (9,[],zig n) (VI.start hn)
  (Qb (Qa rfl rfl) (.nil) (fun i h=>by cases h)) ?_
 rintro ⟨k,L,c⟩ hv
 dsimp only at hv ⊢
 have hvl:=hv.l
 have hvp:=hv.p
 refine gT 4 rfl (XZ rfl rfl rfl (gR 1 rfl (Qc rfl (fun h8=>?_) (fun h8=>?_))))
 ·replace h8:=of_decide_eq_true h8
  refine gK 4 rfl ?_
  obtain ⟨k,rfl⟩:=hv.pos h8
  refine gI 2 rfl (XA (c:=c % 128) rfl rfl rfl (by decide) (Int.tmod_eq_emod_of_nonneg (by omega)) (gR 0 rfl (QS (c:=c % 128+128) rfl rfl rfl (by rw [IntKind.wrap_u64]; omega) (gR 0 rfl (Xc rfl rfl rfl (gR 0 rfl (bM cu8 (([b8 (c % 128+128)]:List Int)) (by kernel_rfl) (gR 0 rfl (rs_b2s (l:=[b8 (c % 128+128)]) (rd:=[14]) rfl rfl (bytesV_sl rfl rfl) (gR 0 rfl (Jj (c:=L++[b8 (c % 128+128)]) rfl rfl rfl (by simp; omega) rfl ?_)))))))))))
  refine gR 4 rfl (QR (c:=c / 128) rfl rfl rfl (by decide) (by rw [IntKind.wrap_u64,Int.tdiv_eq_ediv_of_nonneg hvp]; have:=hv.m; have hm:vmax (k+1)<=18446744073709551616:=vmax_le (by omega); omega) (gR 2 rfl ?_))
  exact Qz <| ⟨(k,L++[b8 (c % 128+128)],c / 128),hv.step h8,Nat.lt_succ_self _,Qb (Qa rfl rfl) (.nil) (fun i h=>by cases h)⟩
 ·replace h8:=of_decide_eq_false h8
  refine gK 3 rfl ?_
  rw [hv.done (by omega)]
  refine gI 2 rfl (Xc rfl rfl rfl (gR 0 rfl (bM cu8 (([b8 c]:List Int)) (by kernel_rfl) (gR 0 rfl (rs_b2s (l:=[b8 c]) (rd:=[22]) rfl rfl (bytesV_sl rfl rfl) (gR 0 rfl (Jj (c:=L++[b8 c]) rfl rfl rfl (by simp; omega) rfl (gR 3 rfl ?_))))))))
  exact rQ
def mcv61:MC:=(sq [oN 2 (.mv (.c (.str (strN [])))) []] (sq [oM 5 0 [],oN 6 (.cvt .u64 5) [0],oB 7 .shl 6 (.c (.int .u64 1)) [1],oM 8 0 [],oB 9 .shr 8 (.c (.int .u64 63)) [3],oN 10 (.cvt .u64 9) [4],oB 11 .xor 7 10 [2,5],oM 3 11 (6::up 7)] (sq [oN 4 (.mv (.c .nils)) []] (.seq (.block 0 (.loop (.seq (sq [oM 12 3 [],oB 13 .geq 12 (.c (.int .u64 128)) [0]] (.cond 13 .skip (.exit 0))) (.seq (.block 1 (rg [oM 16 4 [],oM 17 3 [],oN 18 (.cvt .u8 17) [1],oB 19 .or 18 (.c (.int .u8 128)) [2],oN 20 (.bslice 5 1 [(.int .u8 0)] 1 [(0,19)]) [3],oN 21 (.app 5 1 1 [(.int .u8 0)] 16 20) [0,4],oM 4 21 (5::5::up 6)])) (rg [oM 14 3 [],oB 15 .shr 14 (.c (.int .u64 7)) [0],oM 3 15 [1,0,1]]))))) (sq [oM 22 4 [],oM 23 3 [],oN 24 (.cvt .u8 23) [1],oN 25 (.bslice 5 1 [(.int .u8 0)] 1 [(0,24)]) [2],oN 26 (.app 5 1 1 [(.int .u8 0)] 22 25) [0,3],oN 27 (.b2s 26) [4],oM 2 27 (5::4::up 6)] .ret)))))
theorem mcOkv61:okM Tryz.prog Tryz.f61 28=some mcv61:=by kernel_rfl
theorem vc61 (n:Int) (hn:I64 n):FC Tryz.prog 61 [iv n] [] (.str (strN (Jd n))) [] false:=by
 refine Qg (nt:=28) Tryz.func61 rfl rfl mcOkv61 (nL rfl) ?_
 delta mcv61
 refine gA 7 rfl (Xc rfl rfl rfl (gR 0 rfl (rs_shl (c:=IntKind.u64.wrap (IntKind.u64.wrap n*2)) rfl rfl rfl (by decide) rfl (gR 1 rfl (Jt (c:=n.fdiv (2^63)) rfl rfl rfl (by decide) rfl (gR 0 rfl (Xc rfl rfl rfl (gR 0 rfl (rs_xor (c:=zig n) rfl rfl rfl (xor_zig hn) (gR 8 rfl ?_))))))))))
 refine Qo (α:=Nat×List Int×Int) (fun q=>q.1) (fun q=>[(3,.int .u64 q.2.2),(4,.sl 1005 0 q.2.1.length)]) (fun q=>[(1005,.cells 5 1 (q.2.1.map cu8) true)]) (fun q=>VI n q.1 q.2.1 q.2.2) (9,[],zig n) (VI.start hn)
  (Qb (.cs (.cons rfl (Xj rfl rfl) (.nil))) (.virt rfl (.nil)) (fun i h=>by cases h)) ?_
 rintro ⟨k,L,c⟩ hv
 dsimp only at hv ⊢
 have hvl:=hv.l
 have hvp:=hv.p
 refine gT 4 rfl (XZ rfl rfl rfl (gR 1 rfl (Qc rfl (fun h13=>?_) (fun h13=>?_))))
 ·replace h13:=of_decide_eq_true h13
  refine gK 4 rfl ?_
  obtain ⟨k,rfl⟩:=hv.pos h13
  refine gI 2 rfl (Xc (m:=b8 c) rfl rfl rfl (gR 0 rfl (rs_or (c:=b8 (c % 128+128)) rfl rfl rfl (or128b c) (gR 0 rfl (bM cu8 (([b8 (c % 128+128)]:List Int)) (by kernel_rfl) (gR 0 rfl (Qq (f:=cu8) (xs:=L) (y:=b8 (c % 128+128)) rfl rfl rfl rfl rfl rfl rfl rfl (by decide) rfl (by omega) (by omega) rfl (gR 4 rfl (Jt (c:=c / 128) rfl rfl rfl (by decide) (show c.fdiv (2^7)=c / 128 by rw [Int.fdiv_eq_ediv_of_nonneg _ (by decide)]; omega) (gR 2 rfl ?_))))))))))
  exact Qz <| ⟨(k,L++[b8 (c % 128+128)],c / 128),hv.step h13,Nat.lt_succ_self _,QB (i:=21) (i':=1005) (F1:=[(3,.int .u64 (c / 128)),(4,.sl 21 0 (L++[b8 (c % 128+128)]).length)]) (H1:=[(21,.cells 5 1 ((L++[b8 (c % 128+128)]).map cu8) true)]) (.cs (.cons rfl (JU (by simp) rfl) (.nil))) (.keep rfl rfl .nil) nz rfl rfl (.cons rfl (.same _) (.cons rfl (.sl _ _) (.nil))) (Qa rfl rfl) (.keep rfl rfl .nil) nz⟩
 ·replace h13:=of_decide_eq_false h13
  refine gK 3 rfl ?_
  rw [hv.done (by omega)]
  refine gI 2 rfl (Xc (m:=b8 c) rfl rfl rfl (gR 0 rfl (bM cu8 (([b8 c]:List Int)) (by kernel_rfl) (gR 0 rfl (Qq (f:=cu8) (xs:=L) (y:=b8 c) rfl rfl rfl rfl rfl rfl rfl rfl (by decide) rfl (by omega) (by omega) rfl (gR 0 rfl (rs_b2s (l:=L++[b8 c]) (rd:=[26]) rfl rfl (bytesV_sl rfl (by simp)) (gR 3 rfl ?_))))))))
  exact rQ
end Go.Proofs.YthfhaoogcpfboaaGreat
namespace Go.Proofs.YthfhaoogcpfboaaGreat
open Go.RowKit
set_option maxRecDepth 100000
set_option linter.unusedVariables false
abbrev civ (n:Int):List AV:=[.int .i64 n]
def vints (l:List Int):List Int:=Jd (l.length:Int)++(l.map Jd).flatten
theorem vflat_len (l:List Int):((l.map Jd).flatten).length<=10*l.length:=by
 induction l with
 | nil=>simp
 | cons a l ih=>have:=Xl a; simp only [List.map_cons,List.flatten_cons,List.length_append,List.length_cons]; omega
theorem vflat_8 (l:List Int):B8 (l.map Jd).flatten:=by
 intro x hx
 simp only [List.mem_flatten,List.mem_map] at hx
 obtain ⟨_,⟨a,_,rfl⟩,hx⟩:=hx
 exact vint_8 a x hx
theorem vints_8 (l:List Int):B8 (vints l):=by
 intro x hx
 rcases List.mem_append.1 hx with hx | hx
 ·exact vint_8 _ x hx
 ·exact vflat_8 l x hx
theorem vints_len (l:List Int):(vints l).length<=10*l.length+10:=by
 have:=vflat_len l
 have h2:=Xl (l.length:Int)
 simp only [vints,List.length_append]; omega
theorem vflat_succ {l:List Int} {k:Nat} {x:Int} (h:l[k]?=some x):(((l.take (k+1)).map Jd).flatten)=((l.take k).map Jd).flatten++Jd x:=by
 rw [Q3 h]; simp
def flg (b:Bool):Int:=if b=true then 1 else 0
theorem flg_bd (b:Bool):0<=flg b/\flg b<=1:=by cases b <;> decide
structure Lf where
 ix:Int
 want:Int
 sure:Bool
 touched:Bool
 salt:List Int
 deriving DecidableEq
abbrev cLf (l:Lf):List AV:=[.int .i64 l.ix,.int .i64 l.want,.bool l.sure,.bool l.touched,.str (strN l.salt)]
structure Lf.OK (l:Lf):Prop where
 i:I64 l.ix
 w:I64 l.want
 b:B8 l.salt
 n:l.salt.length<=1000000000
def vtext (s:List Int):List Int:=Jd (s.length:Int)++s
def Xn (l:Lf):List Int:=vints [l.ix,l.want,flg l.sure,flg l.touched]++vtext l.salt
theorem textS_8 {l:Lf} (h:B8 l.salt):B8 (Xn l):=by
 intro x hx
 rcases List.mem_append.1 hx with hx | hx
 ·exact vints_8 _ x hx
 ·rcases List.mem_append.1 hx with hx | hx
  ·exact vint_8 _ x hx
  ·exact h x hx
theorem textS_len {l:Lf} (h:l.salt.length<=1000000000):(Xn l).length<=2000000000:=by
 have h1:=vints_len [l.ix,l.want,flg l.sure,flg l.touched]
 have h2:=Xl (l.salt.length:Int)
 simp only [Xn,vtext,List.length_append,List.length_cons,List.length_nil] at h1 ⊢
 omega
def mst4 (n:Int):List Int:=[b8 (n.fdiv (2^24)),b8 (n.fdiv (2^16)),b8 (n.fdiv (2^8)),b8 (n.fdiv (2^0))]
theorem b8_app {a b:List Int} (ha:B8 a) (hb:B8 b):B8 (a++b):=fun x hx=>by
 rcases List.mem_append.1 hx with h | h
 ·exact ha x h
 ·exact hb x h
def mcv95:MC:=(sq [oN 2 (.mv (.c (.str (strN [])))) []] (sq [oM 5 0 [],oE 6 5 [0],oC 7 38 [6] [1],oM 3 7 [2,2,0,1,2]] (.seq (sq [oN 4 (.mv (cI 0)) []] (.block 0 (.loop (.seq (sq [oM 8 4 [],oM 9 0 [],oE 10 9 [1],oB 11 .lss 8 10 [0,2]] (.cond 11 .skip (.exit 0))) (.seq (.block 1 (rg [oM 14 3 [],oM 15 0 [],oM 16 4 [],oX 17 1 15 16 [1,2],oD 18 1 17 [3],oC 19 38 [18] [4],oN 20 (.scat 14 19) [0,5],oM 3 20 (6::5::up 7)])) (rg [oM 12 4 [],oB 13 .add 12 (cI 1) [0],oM 4 13 [1,0,1]])))))) (sq [oM 21 3 [],oM 2 21 [0,0]] .ret))))
theorem mcOkv95:okM Tryz.prog Tryz.f95 22=some mcv95:=by kernel_rfl
theorem vc95 (l:List Int) (hl:l.length<=LIM) (hx:∀ x∈l,I64 x):FC Tryz.prog 95 [.rs 1 (l.map civ)] [] (.str (strN (vints l))) [] false:=by
 have hll:=hl
 simp only [LIM] at hll
 refine Qg (nt:=22) Tryz.func95 rfl rfl mcOkv95 (nL rfl) ?_
 delta mcv95
 refine gA 7 rfl (Qe rfl rfl (gR 0 rfl (cN rfl rfl (vc38 (l.length:Int) (by have:=hl; simp only [LIM] at this; exact ⟨by omega,by omega⟩)) (gR 8 rfl ?_))))
 refine Qo (α:=Nat) (fun k=>l.length-k) (fun k=>[(0,.rs 1 (l.map civ)),(3,.str (strN (Jd (l.length:Int)++((l.take (k)).map Jd).flatten))),(4,iv (((k):Nat):Int))]) (fun k=>[]) (fun k=>k<=l.length) 0 (by omega)
  (Qb (.cs (.cons rfl (JU (by simp) rfl) (.cs (.nil)))) (.nil) (fun i h=>by cases h)) ?_
 intro k hk
 refine gT 5 rfl (Qe rfl rfl (gR 2 rfl (Qc rfl (fun h11=>?_) (fun h11=>?_))))
 ·replace h11:=of_decide_eq_true h11
  refine gK 4 rfl ?_
  obtain ⟨x,hxk,hxm⟩:=Qk (L:=l) (k:=k) (by omega)
  have hlen:(Jd (l.length:Int)++((l.take k).map Jd).flatten).length+(Jd x).length<=9223372036854775807:=by
   have h1:=Xl (l.length:Int)
   have h2:=Xl x
   have h3:=vflat_len (l.take k)
   have h4:=hl
   simp only [LIM] at h4
   simp only [List.length_append]
   rw [List.length_take] at h3
   omega
  refine gI 3 rfl (Qi (f:=civ) (y:=x) rfl rfl rfl (by omega) hxk (gR 1 rfl (cN rfl rfl (vc38 x (hx x hxm)) (gR 0 rfl (Jj (c:=Jd (l.length:Int)++((l.take (k+1)).map Jd).flatten) rfl rfl rfl hlen (by rw [vflat_succ hxk,List.append_assoc]) (gR 4 rfl (Qf rfl rfl rfl (by omega) (gR 2 rfl ?_))))))))
  exact Qz <| ⟨k+1,by omega,by omega,Qb (Qa rfl rfl) (.nil) (fun i h=>by cases h)⟩
 ·replace h11:=of_decide_eq_false h11
  refine gK 2 rfl ?_
  obtain rfl:k=l.length:=by omega
  rw [List.take_length]
  refine gI 5 rfl ?_
  exact rQ
def mcv97:MC:=(sq [oN 2 (.mv (.c (.str (strN [])))) []] (sq [oM 3 0 [],oN 4 (.slen 3) [0],oC 5 38 [4] [1],oM 6 0 [],oN 7 (.scat 5 6) [2,3],oM 2 7 (4::2::up 5)] .ret))
theorem mcOkv97:okM Tryz.prog Tryz.f97 8=some mcv97:=by kernel_rfl
theorem vc97 (s:List Int) (hs:s.length<=LIM):FC Tryz.prog 97 [.str (strN s)] [] (.str (strN (vtext s))) [] false:=by
 refine Qg (nt:=8) Tryz.func97 rfl rfl mcOkv97 (nL rfl) ?_
 delta mcv97
 refine gA 7 rfl (rs_slen rfl rfl (gR 0 rfl (cN rfl rfl (vc38 (s.length:Int) (by have:=hs; simp only [LIM] at this; exact ⟨by omega,by omega⟩)) (gR 1 rfl (Jj (c:=vtext s) rfl rfl rfl (by have:=Xl (s.length:Int); have h:=hs; simp only [LIM] at h; omega) rfl (gR 3 rfl ?_))))))
 exact rQ
def mcv111:MC:=(sq [oN 2 (.mv (.c (.str (strN [])))) []] (sq [oM 3 0 [],oN 4 (.slen 3) [0],oC 5 61 [4] [1],oM 6 0 [],oN 7 (.scat 5 6) [2,3],oM 2 7 (4::2::up 5)] .ret))
theorem mcOkv111:okM Tryz.prog Tryz.f111 8=some mcv111:=by kernel_rfl
theorem vc111 (s:List Int) (hs:s.length<=LIM):FC Tryz.prog 111 [.str (strN s)] [] (.str (strN (vtext s))) [] false:=by
 refine Qg (nt:=8) Tryz.func111 rfl rfl mcOkv111 (nL rfl) ?_
 delta mcv111
 refine gA 7 rfl (rs_slen rfl rfl (gR 0 rfl (cN rfl rfl (vc61 (s.length:Int) (by have:=hs; simp only [LIM] at this; exact ⟨by omega,by omega⟩)) (gR 1 rfl (Jj (c:=vtext s) rfl rfl rfl (by have:=Xl (s.length:Int); have h:=hs; simp only [LIM] at h; omega) rfl (gR 3 rfl ?_))))))
 exact rQ
def mcv96:MC:=(sq [oN 2 (.mv (cI 0)) []] (.seq (sq [oM 3 0 []] (.cond 3 (sq [oN 2 (.mv (cI 1)) []] .ret) .skip)) (sq [oN 2 (.mv (cI 0)) []] .ret)))
theorem mcOkv96:okM Tryz.prog Tryz.f96 4=some mcv96:=by kernel_rfl
theorem vc96 (b:Bool):FC Tryz.prog 96 [.bool b] [] (iv (flg b)) [] false:=by
 refine Qg (nt:=4) Tryz.func96 rfl rfl mcOkv96 (nL rfl) ?_
 delta mcv96
 refine gA 9 rfl (Qc rfl (fun h3=>?_) (fun h3=>?_))
 ·skip
  subst h3
  refine gK 5 rfl ?_
  exact rQ
 ·skip
  subst h3
  refine gK 6 rfl ?_
  exact rQ
def mcv42:MC:=(sq [oN 1 (.box 51 5 0) [],oN 2 (.mv (.c (.str (strN [])))) []] (dq [oA 3 0 1 [],oD 4 1 3 [0],oA 5 1 1 [],oD 6 1 5 [2],oA 7 2 1 [],oD 8 1 7 [4],oC 9 96 [8] [5],oA 10 3 1 [],oD 11 1 10 [7],oC 12 96 [11] [8,6],oN 13 (.bslice 3 1 [(iv 0)] 4 [(0,4),(1,6),(2,9),(3,12)]) [1,3,6,9],oC 14 95 [13] [10,9],oA 15 4 1 [],oD 16 1 15 [12],oC 17 97 [16] [13,11],oN 18 (.scat 14 17) [11,14],oM 2 18 (15::14::up 16)] .ret))
theorem mcOkv42:okM Tryz.prog Tryz.f42 19=some mcv42:=by kernel_rfl
theorem vc42 (x:Lf) (hx:x.OK):FC Tryz.prog 42 [.agg (cLf x)] [] (.str (strN (Xn x))) [] false:=by
 refine Qg (nt:=19) Tryz.func42 rfl rfl mcOkv42 (nL rfl) ?_
 delta mcv42
 refine gA 13 rfl (cN rfl rfl (vc96 x.sure) (gR 2 rfl (cN rfl rfl (vc96 x.touched) (gR 0 rfl (bM civ (([x.ix,x.want,flg x.sure,flg x.touched]:List Int)) (by kernel_rfl) (gR 0 rfl ?_))))))
 refine QD [13] rfl rfl (vc95 [x.ix,x.want,flg x.sure,flg x.touched] (show 4<=LIM by decide) (by
   intro y hy
   have h1:=flg_bd x.sure
   have h2:=flg_bd x.touched
   simp only [List.mem_cons,List.not_mem_nil,or_false] at hy
   rcases hy with rfl | rfl | rfl | rfl
   ·exact hx.i
   ·exact hx.w
   ·exact ⟨by omega,by omega⟩
   ·exact ⟨by omega,by omega⟩)) (.cons (QW (f:=civ) (xs:=[x.ix,x.want,flg x.sure,flg x.touched]) (by simp) rfl rfl) (.nil)) rfl ?_
 refine gR 2 rfl (cN rfl rfl (vc97 x.salt (Nat.le_trans hx.n (by decide))) (gR 0 rfl (Jj (c:=Xn x) rfl rfl rfl (by have h1:=vints_len [x.ix,x.want,flg x.sure,flg x.touched]; have h2:=Xl (x.salt.length:Int); have h3:=hx.n; simp only [vtext,List.length_append,List.length_cons,List.length_nil] at h1 ⊢; omega) rfl (gR 1 rfl (Q9 (by kernel_rfl) (gP 1 rfl ?_))))))
 exact rQ
def mcv106:MC:=(sq [oN 2 (.mv (.c (.str (strN [])))) []] (sq [oM 3 0 [],oN 4 (.cvt .u8 3) [0],oM 5 0 [],oB 6 .shr 5 (.c (.int .u64 8)) [2],oN 7 (.cvt .u8 6) [3],oM 8 0 [],oB 9 .shr 8 (.c (.int .u64 16)) [5],oN 10 (.cvt .u8 9) [6],oM 11 0 [],oB 12 .shr 11 (.c (.int .u64 24)) [8],oN 13 (.cvt .u8 12) [9],oN 14 (.bslice 5 1 [(.int .u8 0)] 4 [(0,4),(1,7),(2,10),(3,13)]) [1,4,7,10],oN 15 (.b2s 14) [11],oM 2 15 (12::up 13)] .ret))
theorem mcOkv106:okM Tryz.prog Tryz.f106 16=some mcv106:=by kernel_rfl
theorem vc106 (n:Int):FC Tryz.prog 106 [iv n] [] (.str (strN (JC n))) [] false:=by
 refine Qg (nt:=16) Tryz.func106 rfl rfl mcOkv106 (nL rfl) ?_
 delta mcv106
 refine gA 7 rfl (Xc rfl rfl rfl (gR 1 rfl (Jt rfl rfl rfl (by decide) rfl (gR 0 rfl (Xc rfl rfl rfl (gR 1 rfl (Jt rfl rfl rfl (by decide) rfl (gR 0 rfl (Xc rfl rfl rfl (gR 1 rfl (Jt rfl rfl rfl (by decide) rfl ?_)))))))))))
 refine gR 0 rfl (Xc rfl rfl rfl (gR 0 rfl (bM cu8 ((JC n)) (by kernel_rfl) (gR 0 rfl (rs_b2s (l:=JC n) (rd:=[14]) rfl rfl (bytesV_sl rfl rfl) (gR 3 rfl ?_))))))
 exact rQ
def mcv145:MC:=(sq [oN 2 (.mv (.c (.str (strN [])))) []] (sq [oM 3 0 [],oB 4 .shr 3 (.c (.int .u64 24)) [0],oN 5 (.cvt .u8 4) [1],oM 6 0 [],oB 7 .shr 6 (.c (.int .u64 16)) [3],oN 8 (.cvt .u8 7) [4],oM 9 0 [],oB 10 .shr 9 (.c (.int .u64 8)) [6],oN 11 (.cvt .u8 10) [7],oM 12 0 [],oN 13 (.cvt .u8 12) [9],oN 14 (.bslice 5 1 [(.int .u8 0)] 4 [(0,5),(1,8),(2,11),(3,13)]) [2,5,8,10],oN 15 (.b2s 14) [11],oM 2 15 (12::up 13)] .ret))
theorem mcOkv145:okM Tryz.prog Tryz.f145 16=some mcv145:=by kernel_rfl
theorem vc145 (n:Int):FC Tryz.prog 145 [iv n] [] (.str (strN (mst4 n))) [] false:=by
 refine Qg (nt:=16) Tryz.func145 rfl rfl mcOkv145 (nL rfl) ?_
 delta mcv145
 refine gA 7 rfl (Jt rfl rfl rfl (by decide) rfl (gR 0 rfl (Xc rfl rfl rfl (gR 1 rfl (Jt rfl rfl rfl (by decide) rfl (gR 0 rfl (Xc rfl rfl rfl (gR 1 rfl (Jt rfl rfl rfl (by decide) rfl (gR 0 rfl (Xc rfl rfl rfl ?_)))))))))))
 refine gR 1 rfl (Xc (m:=b8 (n.fdiv (2^0))) rfl rfl (by unfold b8; rw [show n.fdiv (2^0)=n from Int.fdiv_one n]) (gR 0 rfl (bM cu8 ((mst4 n)) (by kernel_rfl) (gR 0 rfl (rs_b2s (l:=mst4 n) (rd:=[14]) rfl rfl (bytesV_sl rfl rfl) (gR 3 rfl ?_))))))
 exact rQ
def mcv105:MC:=(sq [oN 2 (.mv (.c (.str (strN [])))) []] (sq [oN 3 (.mv (cI 17)) []] (sq [oN 4 (.mv (cI 29)) []] (.seq (sq [oN 5 (.mv (cI 0)) []] (.block 0 (.loop (.seq (sq [oM 6 5 [],oM 7 0 [],oN 8 (.slen 7) [1],oB 9 .lss 6 8 [0,2]] (.cond 9 .skip (.exit 0))) (.seq (.block 1 (sq [oM 12 3 [],oB 13 .mul (cI 48271) 12 [0],oM 14 0 [],oM 15 5 [],oN 16 (.sidx 14 15) [2,3],oN 17 (.cvt .i64 16) [4],oB 18 .add 13 17 [1,5],oB 19 .add 18 (cI 1) [6],oB 20 .rem 19 (cI 2147483629) [7],oM 3 20 (8::up 9)] (rg [oM 21 4 [],oB 22 .mul (cI 69621) 21 [0],oM 23 0 [],oM 24 5 [],oN 25 (.sidx 23 24) [2,3],oN 26 (.cvt .i64 25) [4],oB 27 .add 22 26 [1,5],oB 28 .add 27 (cI 1) [6],oB 29 .rem 28 (cI 2147483587) [7],oM 4 29 (8::up 9)]))) (rg [oM 10 5 [],oB 11 .add 10 (cI 1) [0],oM 5 11 [1,0,1]])))))) (sq [oM 30 3 [],oC 31 145 [30] [0],oM 32 4 [],oC 33 145 [32] [2,1],oN 34 (.scat 31 33) [1,3],oM 2 34 (4::3::up 5)] .ret)))))
theorem mcOkv105:okM Tryz.prog Tryz.f105 35=some mcv105:=by kernel_rfl
theorem vc105 (l:List Int) (h8:B8 l) (hl:l.length<=4611686018427387904):FC Tryz.prog 105 [.str (strN l)] [] (.str (strN (digB l))) [] false:=by
 refine Qg (nt:=35) Tryz.func105 rfl rfl mcOkv105 (nL rfl) ?_
 delta mcv105
 refine gA 18 rfl ?_
 refine Qo (α:=Nat) (fun k=>l.length-k) (fun k=>[(0,.str (strN l)),(3,iv (Uv (l.take (k))).1),(4,iv (Uv (l.take (k))).2),(5,iv (((k):Nat):Int))]) (fun k=>[]) (fun k=>k<=l.length) 0 (by omega)
  (Qb (.cs (.cons rfl (JU rfl rfl) (.cons rfl (JU rfl rfl) (.cs (.nil))))) (.nil) (fun i h=>by cases h)) ?_
 intro k hk
 refine gT 5 rfl (rs_slen rfl rfl (gR 2 rfl (Qc rfl (fun h9=>?_) (fun h9=>?_))))
 ·replace h9:=of_decide_eq_true h9
  refine gK 5 rfl ?_
  obtain ⟨b,hb,hbm⟩:=Qk (L:=l) (k:=k) (by omega)
  have hb8:=h8 b hbm
  have hbd:=dfold_bd (l.take k)
  have hst:=dfold_app (l.take k) b
  rw [← Q3 hb] at hst
  generalize Uv (l.take k)=s at hbd hst ⊢
  obtain ⟨x,y⟩:=s
  dsimp only at hbd hst ⊢
  refine gI 1 rfl (Q4 (c:=48271*x) rfl rfl rfl (by rw [IntKind.wrap_i64]; omega) (gR 2 rfl (rs_sidx (y:=b) rfl rfl rfl (by omega) (by simpa using hb) hb8 (gR 0 rfl (Xc (m:=b) rfl rfl (by rw [IntKind.wrap_i64]; omega) (gR 0 rfl (Qf rfl rfl rfl (by omega) (gR 0 rfl (Qf rfl rfl rfl (by omega) (gR 0 rfl (XA (c:=(48271*x+b+1) % 2147483629) rfl rfl rfl (by decide) (Int.tmod_eq_emod_of_nonneg (by omega)) ?_)))))))))))
  refine gR 4 rfl (Q4 (c:=69621*y) rfl rfl rfl (by rw [IntKind.wrap_i64]; omega) (gR 2 rfl (rs_sidx (y:=b) rfl rfl rfl (by omega) (by simpa using hb) hb8 (gR 0 rfl (Xc (m:=b) rfl rfl (by rw [IntKind.wrap_i64]; omega) (gR 0 rfl (Qf rfl rfl rfl (by omega) (gR 0 rfl (Qf rfl rfl rfl (by omega) (gR 0 rfl (XA (c:=(69621*y+b+1) % 2147483587) rfl rfl rfl (by decide) (Int.tmod_eq_emod_of_nonneg (by omega)) ?_)))))))))))
  refine gR 4 rfl (Qf rfl rfl rfl (by omega) (gR 2 rfl ?_))
  exact Qz <| ⟨k+1,by omega,by omega,Qb (.cs (.cons rfl (JU (by rw [hst]; rfl) rfl) (.cons rfl (JU (by rw [hst]; rfl) rfl) (.cs (.nil))))) (.nil) (fun i h=>by cases h)⟩
 ·replace h9:=of_decide_eq_false h9
  refine gK 2 rfl ?_
  obtain rfl:k=l.length:=by omega
  rw [List.take_length]
  refine gI 2 rfl (cN rfl rfl (vc145 (Uv l).1) (gR 1 rfl (cN rfl rfl (vc145 (Uv l).2) (gR 0 rfl (Jj (c:=digB l) rfl rfl rfl (show 4+4<=_ by decide) rfl (gR 3 rfl ?_))))))
  exact rQ
def mcv59:MC:=(sq [oN 4 (.mv (.c (.str (strN [])))) []] (sq [oM 5 0 [],oN 6 (.slen 5) [0],oC 7 106 [6] [1],oN 8 (.scat (.c (.str (strN [5]))) 7) [2],oM 9 0 [],oN 10 (.scat 8 9) [3,4],oM 11 1 [],oN 12 (.slen 11) [6],oC 13 106 [12] [7,2],oN 14 (.scat 10 13) [5,8],oM 15 1 [],oN 16 (.scat 14 15) [9,10],oM 17 0 [],oN 18 (.scat 16 17) [11,12],oC 19 105 [18] [13,8],oM 4 19 (14::14::up 15)] .ret))
theorem mcOkv59:okM Tryz.prog Tryz.f59 20=some mcv59:=by kernel_rfl
theorem vc59 (k m:List Int) (hk:B8 k/\k.length<=LIM) (hm:B8 m/\m.length<=LIM):FC Tryz.prog 59 [.str (strN k),.str (strN m)] [] (.str (strN (Jl k m))) [] false:=by
 have hkl:=hk.2
 have hml:=hm.2
 simp only [LIM] at hkl hml
 have h5:B8 [5]:=b8_c
 have hl1:=len4_8 (k.length:Int)
 have hl2:=len4_8 (m.length:Int)
 have hq:B8 (([5]++JC (k.length:Int)++k++JC (m.length:Int)++m++k)):=b8_app (b8_app (b8_app (b8_app (b8_app h5 hl1) hk.1) hl2) hm.1) hk.1
 have hz1:(JC (k.length:Int)).length=4:=rfl
 have hz2:(JC (m.length:Int)).length=4:=rfl
 have he:Jl k m=digB ([5]++JC (k.length:Int)++k++JC (m.length:Int)++m++k):=by simp [Jl]
 refine Qg (nt:=20) Tryz.func59 rfl rfl mcOkv59 (nL rfl) ?_
 delta mcv59
 refine gA 7 rfl (rs_slen rfl rfl (gR 0 rfl (cN rfl rfl (vc106 (k.length:Int)) (gR 0 rfl (Jj (c:=[5]++JC (k.length:Int)) rfl rfl rfl (by simp only [List.length_append,List.length_cons,List.length_nil,hz1,hz2]; omega) rfl (gR 1 rfl (Jj (c:=[5]++JC (k.length:Int)++k) rfl rfl rfl (by simp only [List.length_append,List.length_cons,List.length_nil,hz1,hz2]; omega) rfl (gR 1 rfl (rs_slen rfl rfl (gR 0 rfl (cN rfl rfl (vc106 (m.length:Int)) ?_)))))))))))
 refine gR 0 rfl (Jj (c:=[5]++JC (k.length:Int)++k++JC (m.length:Int)) rfl rfl rfl (by simp only [List.length_append,List.length_cons,List.length_nil,hz1,hz2]; omega) rfl (gR 1 rfl (Jj (c:=[5]++JC (k.length:Int)++k++JC (m.length:Int)++m) rfl rfl rfl (by simp only [List.length_append,List.length_cons,List.length_nil,hz1,hz2]; omega) rfl (gR 1 rfl (Jj (c:=[5]++JC (k.length:Int)++k++JC (m.length:Int)++m++k) rfl rfl rfl (by simp only [List.length_append,List.length_cons,List.length_nil,hz1,hz2]; omega) rfl (gR 0 rfl (cN rfl rfl (vc105 ([5]++JC (k.length:Int)++k++JC (m.length:Int)++m++k) hq (by simp only [List.length_append,List.length_cons,List.length_nil,hz1,hz2]; omega)) (gR 3 rfl ?_))))))))
 rw [he]
 exact rQ
def mcv125:MC:=(sq [oN 2 (.mv (.c (.str (strN [])))) []] (sq [oM 3 0 [],oN 4 (.scat (.c (.str (strN [1]))) 3) [0],oC 5 105 [4] [1],oM 2 5 [2,2,0,1,2]] .ret))
theorem mcOkv125:okM Tryz.prog Tryz.f125 6=some mcv125:=by kernel_rfl
theorem vc125 (t:List Int) (ht:B8 t/\t.length<=LIM):FC Tryz.prog 125 [.str (strN t)] [] (.str (strN (J2 t))) [] false:=by
 have htl:=ht.2
 simp only [LIM] at htl
 have he:J2 t=digB ([1]++t):=by simp [J2]
 refine Qg (nt:=6) Tryz.func125 rfl rfl mcOkv125 (nL rfl) ?_
 delta mcv125
 refine gA 7 rfl (Jj (c:=[1]++t) rfl rfl rfl (by simp only [List.length_cons,List.length_nil]; omega) rfl (gR 0 rfl (cN rfl rfl (vc105 ([1]++t) (b8_app b8_c ht.1) (by simp only [List.length_append,List.length_cons,List.length_nil]; omega)) (gR 3 rfl ?_))))
 rw [he]
 exact rQ
def mcv126:MC:=(sq [oN 4 (.mv (.c (.str (strN [])))) []] (sq [oM 5 0 [],oN 6 (.scat (.c (.str (strN [2]))) 5) [0],oM 7 1 [],oN 8 (.scat 6 7) [1,2],oC 9 105 [8] [3],oM 4 9 (4::4::up 5)] .ret))
theorem mcOkv126:okM Tryz.prog Tryz.f126 10=some mcv126:=by kernel_rfl
theorem vc126 (a b:List Int) (ha:B8 a/\a.length<=LIM) (hb:B8 b/\b.length<=LIM):FC Tryz.prog 126 [.str (strN a),.str (strN b)] [] (.str (strN (JD a b))) [] false:=by
 have hal:=ha.2
 have hbl:=hb.2
 simp only [LIM] at hal hbl
 have he:JD a b=digB ([2]++a++b):=by simp [JD]
 refine Qg (nt:=10) Tryz.func126 rfl rfl mcOkv126 (nL rfl) ?_
 delta mcv126
 refine gA 7 rfl (Jj (c:=[2]++a) rfl rfl rfl (by simp only [List.length_cons,List.length_nil]; omega) rfl (gR 1 rfl (Jj (c:=[2]++a++b) rfl rfl rfl (by simp only [List.length_append,List.length_cons,List.length_nil]; omega) rfl (gR 0 rfl (cN rfl rfl (vc105 ([2]++a++b) (b8_app (b8_app b8_c ha.1) hb.1) (by simp only [List.length_append,List.length_cons,List.length_nil]; omega)) (gR 3 rfl ?_))))))
 rw [he]
 exact rQ
def mcv148:MC:=(sq [oN 0 (.mv (.c (.str (strN [])))) []] (sq [oC 1 105 [(.c (.str (strN [3])))] [],oM 0 1 [0,0,0]] .ret))
theorem mcOkv148:okM Tryz.prog Tryz.f148 2=some mcv148:=by kernel_rfl
theorem vc148  : FC Tryz.prog 148 [] [] (.str (strN missS)) [] false:=by
 refine Qg (nt:=2) Tryz.func148 rfl rfl mcOkv148 (nL rfl) ?_
 delta mcv148
 refine gA 6 rfl (cN rfl rfl (vc105 [3] b8_c (by decide)) (gR 3 rfl ?_))
 exact rQ
end Go.Proofs.YthfhaoogcpfboaaGreat
namespace Go.Proofs.YthfhaoogcpfboaaGreat
open Go.RowKit
set_option maxRecDepth 100000
set_option linter.unusedVariables false
open Go.Shelf
def renB:Go.Shelf.Ren:={ f:=fun n=>if n=166 then 179 else if n=240 then 206 else if n=276 then 218 else if n=169 then 180 else n,t:=fun n=>if n=72 then 202 else if n=70 then 200 else if n=37 then 116 else if n=127 then 226 else if n=164 then 233 else if n=75 then 204 else if n=80 then 79 else n,g:=fun n=>n }
theorem laysW:Lays.n166 Tryz.prog renB:=by
 constructor
 all_goals first | kernel_rfl | (intro _; kernel_rfl)
theorem laysS:Lays.n169 Tryz.prog renB:=by
 constructor
 all_goals first | kernel_rfl | (intro _; kernel_rfl)
theorem laysX:Builder.Extra Tryz.prog renB:=by
 constructor
 ·constructor <;> kernel_rfl
 all_goals first | kernel_rfl | (intro _; kernel_rfl) | decide
theorem calls61 (n:Int) (hn:I64 n) (w:World):Calls Tryz.prog 61 #[.int .i64 n] w fun e w'=>e = .returned (.string (strN (Jd n)))/\Below w.heap.size w w':=by
 refine (vc61 n hn w (fun _=>False) (fun _=>none) #[.int .i64 n] ⟨fun b h=>h.elim,fun _ _=>rfl,⟨fun i o _ ho=>by simp [get] at ho,fun i j oi oj b z z' c c' _ _ _ hi=>by simp [get] at hi⟩⟩
  ⟨rfl,fun j v hj=>?_⟩).mono ?_
 ·cases j with
  | zero=>simp at hj; subst hj; exact .cl (.int _ _)
  | succ j=>simp at hj
 ·rintro e w' ⟨cv,S',ρ',rfl,hv,_,hk,_⟩
  have:=hv.str_inv'
  subst this
  exact ⟨rfl,hk.os,hk.tape,hk.output,hk.size,fun k hk2=>hk.block k hk2 fun ⟨i,ob,z,cap,_,h1,_⟩=>by simp [get] at h1⟩
def bsV (l:List Int) (k:Nat):List Int:=Jd (l.length:Int)++((l.take k).map Jd).flatten
theorem strCells_strN (l:List Int):Lib.strCells (strN l)=Lib.byteCells (l.map fun n=>UInt8.ofNat n.toNat):=by simp [Lib.strCells,Lib.byteCells,strN]
def bcV (l:List Int):List Value:=Lib.byteCells (l.map fun n=>UInt8.ofNat n.toNat)
theorem bcV_app (a b:List Int):bcV (a++b)=bcV a++bcV b:=by simp [bcV,Lib.byteCells]
theorem bcV_len (l:List Int):(bcV l).length=l.length:=by simp [bcV,Lib.byteCells]
theorem write179 (B b:Nat) (p s:List Int) (w:World) (h:Lib.IsBuilder 202 5 B b (bcV p) w) (hl:p.length+s.length<=140737488355328) (hBw:B<=w.heap.size) :
  Calls Tryz.prog 179 #[.pointer (some ⟨b,0,none⟩),.string (strN s)] w fun e w'=>e = .returned (.tuple #[.int .i64 s.length,.nilIface])/\Lib.IsBuilder 202 5 B b (bcV (p++s)) w'/\Below B w w':=by
 refine (Any.Builder_WriteString laysW laysX B b (bcV p) (strN s) w h (by rw [bcV_len,strN_size]; exact hl) hBw).mono ?_
 rintro e w' ⟨rfl,h1,h2⟩
 refine ⟨by rw [strN_size],.inr ?_,h2⟩
 rw [strCells_strN] at h1
 rw [bcV_app]; exact h1
theorem str180 (B b:Nat) (p:List Int) (w:World) (h:Lib.IsBuilder 202 5 B b (bcV p) w) (hBw:B<=w.heap.size) :
  Calls Tryz.prog 180 #[.pointer (some ⟨b,0,none⟩)] w fun e w'=>e = .returned (.string (strN p))/\Below B w w':=by
 refine (Any.Builder_String_any laysS laysX B b _ w h hBw).mono ?_
 rintro e w' ⟨rfl,h2⟩
 exact ⟨rfl,h2⟩
theorem bsV_len (l:List Int) (k:Nat):(bsV l k).length<=10+10*k:=by
 have h1:=Xl (l.length:Int)
 have h2:=vflat_len (l.take k)
 have h3:(l.take k).length<=k:=List.length_take_le _ _
 simp only [bsV,List.length_append]; omega
theorem bsV_succ {l:List Int} {k:Nat} {x:Int} (h:l[k]?=some x):bsV l (k+1)=bsV l k++Jd x:=by
 unfold bsV; rw [vflat_succ h,List.append_assoc]
theorem bsV_all (l:List Int):bsV l l.length=vints l:=by unfold bsV vints; rw [List.take_length]
theorem isB_below {T e:TypeId} {B b:Nat} {bs:List Value} {w w':World} (h:Lib.IsBuilder T e B b bs w) (hb:Below w.heap.size w w'):Lib.IsBuilder T e B b bs w':=by
 have key:∀ p,Lib.BuilderAt T e B b p bs w->Lib.BuilderAt T e B b p bs w':=fun p ⟨h1,v,h2,h3,h4⟩=>by
  have lt:∀ {k:Nat} {o:Obj},w.heap[k]?=some o->k<w.heap.size:=fun {k o} h=>by
   rcases Nat.lt_or_ge k w.heap.size with h' | h'
   ·exact h'
   ·simp [Array.getElem?_eq_none h'] at h
  refine ⟨h1,v,(hb.block b (lt h2)).trans h2,⟨h3.1,?_⟩,h4⟩
  rcases h3.2 with h | ⟨g,cap,cur,q1,q2,q3,q4⟩
  ·exact .inl h
  ·exact .inr ⟨g,cap,cur,q1,q2,(hb.block g (lt q3)).trans q3,q4⟩
 exact h.imp (key _) (key _)
theorem raw146 (l:List Int) (hl:l.length<=1000000000) (hx:∀ x∈l,I64 x) (b off cap:Nat) (w:World) (hcell:∀ k x,l[k]?=some x->w.cell? ⟨b,off+k,none⟩=some (.int .i64 x)) (hb:b<w.heap.size) :
  Calls Tryz.prog 146 #[.slice (some ⟨b,off,none⟩) l.length cap,.func (.func 61) #[] #[]] w fun e w'=>e = .returned (.string (strN (vints l)))/\Below w.heap.size w w':=by
 have hlen:=Xl (l.length:Int)
 go_enter Tryz.func146,Tryz.ntmps146
 go_wp2_with (go_at_call 61; refine (calls61 _ ⟨by omega,by omega⟩ _).mono ?_)
 rintro e w1 ⟨rfl,hb1⟩
 have hB0:Lib.IsBuilder 202 5 w.heap.size w.heap.size (bcV []) w1:=by
  left
  refine ⟨Nat.le_refl _,.slice none 0 0,?_,World.ownsRow_nil _ _ _ _,by simp [Value.ownBlock]⟩
  rw [hb1.block _ (by simp)]
  exact heap_alloc_new w _
 have hsz1:=hb1.size
 have hc1:∀ k x,l[k]?=some x->w1.cell? ⟨b,off+k,none⟩=some (.int .i64 x):=fun k x hk=>by
  rw [World.cell?_of_block (w:=w) ((hb1.block b (by simp; omega)).trans (heap_alloc_old w _ hb))]; exact hcell k x hk
 go_wp2_with (go_at_call 179; refine (write179 w.heap.size w.heap.size [] (Jd (l.length:Int)) _ hB0 (by simp; omega) (by simp at hsz1; omega)).mono ?_)
 rintro e w2 ⟨rfl,hB2,hb2⟩
 have hbw2:Below w.heap.size w w2:=(((Below.refl _ w).alloc (Nat.le_refl _) _).trans (hb1.mono (by simp))).trans hb2
 have hB2':Lib.IsBuilder 202 5 w.heap.size w.heap.size (bcV (bsV l 0)) w2:=by simpa [bsV] using hB2
 clear hB2 hb1 hb2 hB0 hc1 hsz1
 go_wp2
 go_loopw [14] (fun i wr=>∃ k:Nat,k<=l.length/\i = .int .i64 k/\Lib.IsBuilder 202 5 w.heap.size w.heap.size (bcV (bsV l k)) wr/\Below w.heap.size w wr) (fun i _=>l.length-(Lib.intOf i).toNat)
 case atStart=>exact ⟨0,Nat.zero_le _,rfl,hB2',hbw2⟩
 case round =>
  obtain ⟨k,hk,rfl,hBk,hbk⟩:=hrel
  by_cases hlt:k<l.length
  ·obtain ⟨x,hxk,hxm⟩:=Qk (L:=l) (k:=k) hlt
   have hxw:wr.cell? ⟨b,off+k,none⟩=some (.int .i64 x):=by
    rw [World.cell?_of_block (w:=w) (hbk.block b hb)]; exact hcell k x hxk
   have hvx:=Xl x
   have hxi:=hx x hxm
   have hbl:=bsV_len l k
   have hszr:=hbk.size
   go_wp2_with (first
    | (go_at_call 61; refine (calls61 x hxi _).mono ?_; rintro e w3 ⟨rfl,hb3⟩; have hB3:=isB_below hBk hb3; have hsz3:=hb3.size)
    | (go_at_call 179; refine (write179 w.heap.size w.heap.size (bsV l k) (Jd x) _ hB3 (by omega) (by omega)).mono ?_; rintro e w4 ⟨rfl,hB4,hb4⟩))
   go_roundw
   case rel=>exact ⟨k+1,by omega,by go_num,by rw [bsV_succ hxk]; exact hB4,(hbk.trans (hb3.mono hszr)).trans hb4⟩
   case measure=>simp [Lib.intOf]; omega
  ·have hszr:=hbk.size
   have hfin:Hid (bsV l k=vints l):=by
    rw [show k=l.length by omega]; exact bsV_all l
   go_wp2_with (go_at_call 180; refine (str180 w.heap.size w.heap.size (bsV l k) _ hBk (by omega)).mono ?_; rintro e w4 ⟨rfl,hb4⟩)
   go_ret
   exact ⟨by rw [show bsV l k=vints l from hfin]; rfl,hbk.trans hb4⟩
theorem fc_of_callsS {P:Program} {f:FuncId} {args:List AV} {r:AV} {c:Value} (hr:∀ w S,CR w S r c) (h:∀ (w:World) (S:Nat->Prop) (ρ:Rho) (cargs:Array Value),(∀ b,S b->b<w.heap.size)->VRs w S ρ args cargs->Calls P f cargs w fun e w'=>e = .returned c/\Below w.heap.size w w'):FC P f args [] r [] false:=fun w S ρ cargs hH hv =>
 (h w S ρ cargs hH.hS hv).mono fun e w' ⟨he,hb⟩=>⟨c,fun _=>False,fun _=>none,he,.cl (hr _ _),⟨fun b hb=>hb.elim,fun _ _=>rfl,⟨fun i o _ ho=>by simp [get] at ho,fun i j oi oj b z z' c c' _ _ _ hi=>by simp [get] at hi⟩⟩,
  ⟨hb.os,hb.tape,hb.output,hb.size,fun k hk _=>hb.block k hk⟩,fun b hb=>hb.elim,fun b ⟨i,ob,z,cap,_,h1,_⟩=>by simp [get] at h1,fun i hi=>absurd rfl hi,fun i hi=>absurd rfl hi⟩
theorem vc146 (l:List Int) (hl:l.length<=1000000000) (hx:∀ x∈l,I64 x) (h0:l≠[]):FC Tryz.prog 146 [.rs 1 (l.map civ),.fn (.func 61) []] [] (.str (strN (vints l))) [] false :=
 fc_of_callsS (c:=.string (strN (vints l))) (fun _ _=>.str _) fun w S ρ cargs hS hv=>by
  obtain ⟨L⟩:=cargs
  have h1:=hv.1
  have hv0:=hv.2 0 _ rfl
  have hv1:=hv.2 1 _ rfl
  match L,h1,hv0,hv1 with
  | [x,y],_,hv0,hv1 =>
   replace hv0:VR w S ρ (.rs 1 (l.map civ)) x:=hv0
   replace hv1:VR w S ρ (.fn (.func 61) []) y:=hv1
   obtain ⟨C,rfl,hC,_⟩:=hv1.fn_inv
   obtain rfl:C = #[]:=Array.eq_empty_of_size_eq_zero hC
   rcases hv0.rs_inv with ⟨h,_⟩ | ⟨b,off,cap,cf,rfl,hb,_,q1,q2⟩
   ·exact absurd (List.map_eq_nil_iff.1 h) h0
   ·rw [List.length_map]
    refine raw146 l hl hx b off cap w (fun k n hk=>?_) (hS b hb)
    have e:(l.map civ)[k]?=some [.int .i64 n]:=by rw [List.getElem?_map,hk]; rfl
    have h2:=q1 k _ 0 _ e rfl
    have h3:=q2 k _ 0 _ e rfl
    generalize cf k 0=c at h2 h3
    cases h3
    rw [Nat.mul_one,Nat.add_zero] at h2
    exact h2.1
def fI (x:Lf):Nat->List Int
 | 0=>[x.ix,x.want,0,0]
 | 1=>[x.ix,x.want,flg x.sure,0]
 | _=>[x.ix,x.want,flg x.sure,flg x.touched]
theorem fI_len (x:Lf) (k:Nat):(fI x k).length=4:=by unfold fI; split <;> rfl
def mcv110:MC:=(sq [oN 2 (.mv (.c (.str (strN [])))) []] (sq [oM 3 0 [],oC 4 146 [3,(.c (.fn (.func 61) []))] [0],oM 2 4 [1,1,0,1]] .ret))
theorem mcOkv110:okM Tryz.prog Tryz.f110 5=some mcv110:=by kernel_rfl
theorem vc110 (l:List Int) (hl:l.length<=1000000000) (hx:∀ x∈l,I64 x) (h0:l≠[]):FC Tryz.prog 110 [.rs 1 (l.map civ)] [] (.str (strN (vints l))) [] false:=by
 refine Qg (nt:=5) Tryz.func110 rfl rfl mcOkv110 (nL rfl) ?_
 delta mcv110
 refine gA 7 rfl (cN rfl rfl (vc146 l hl hx h0) (gR 3 rfl ?_))
 exact rQ
def mcv62:MC:=(sq [oN 1 (.box 51 5 0) [],oN 2 (.mv (.c (.str (strN [])))) []] (sq [oA 6 0 1 [],oD 7 1 6 [0],oA 8 1 1 [],oD 9 1 8 [2],oN 10 (.bslice 3 1 [(iv 0)] 4 [(0,7),(1,9),(2,(cI 0)),(3,(cI 0))]) [1,3],oM 3 10 (4::up 5)] (.seq (sq [oA 11 2 1 [],oD 12 1 11 [0],oA 13 3 1 [],oD 14 1 13 [2],oN 15 (.bslice 4 1 [(.bool false)] 2 [(0,12),(1,14)]) [1,3],oE 16 15 [4],oN 17 (.mv (cI 0)) []] (.block 0 (.loop (sq [oB 18 .lss 17 16 []] (.seq (.cond 18 .skip (.exit 0)) (.seq (.block 1 (sq [oM 19 17 [],oX 20 1 15 17 [],oD 21 1 20 [1],oM 4 19 [0,0,1,2],oM 5 21 (2::3::up 4)] (sq [oM 22 5 []] (.cond 22 (rg [oM 23 3 [],oM 24 4 [],oB 25 .add (cI 2) 24 [1],oX 26 1 23 25 [0,2,0,1,2],oS 1 26 (cI 1) [3,0,1,2]]) .skip)))) (rg [oB 27 .add 17 (cI 1) [],oM 17 27 [0]]))))))) (dq [oM 28 3 [],oC 29 110 [28] [0],oA 30 4 1 [],oD 31 1 30 [2],oC 32 111 [31] [3,1],oN 33 (.scat 29 32) [1,4],oM 2 33 (5::4::up 6)] .ret))))
theorem mcOkv62:okM Tryz.prog Tryz.f62 34=some mcv62:=by kernel_rfl
theorem vc62 (x:Lf) (hx:x.OK):FC Tryz.prog 62 [.agg (cLf x)] [] (.str (strN (Xn x))) [] false:=by
 have hfx:∀ y∈fI x 2,I64 y:=by
  intro y hy
  have h1:=flg_bd x.sure
  have h2:=flg_bd x.touched
  simp only [fI,List.mem_cons,List.not_mem_nil,or_false] at hy
  rcases hy with rfl | rfl | rfl | rfl
  ·exact hx.i
  ·exact hx.w
  ·exact ⟨by omega,by omega⟩
  ·exact ⟨by omega,by omega⟩
 refine Qg (nt:=34) Tryz.func62 rfl rfl mcOkv62 (nL rfl) ?_
 delta mcv62
 refine gA 11 rfl (bM civ (([x.ix,x.want,0,0]:List Int)) (by kernel_rfl) (gR 9 rfl (bT (l:=(([x.sure,x.touched]:List Bool)).flatMap (fun b=>[AV.bool b])) (els:=(([x.sure,x.touched]:List Bool)).map (fun b=>[AV.bool b])) (by kernel_rfl) (gR 0 rfl (QC rfl rfl (gR 3 rfl ?_))))))
 refine Qo (α:=Nat) (fun k=>2-k) (fun k=>[(1,.ptr 1 0 0),(3,.sl 10 0 4),(15,.sl 15 0 2),(16,iv 2),(17,iv (((k):Nat):Int))]) (fun k=>[(1,.cells 51 5 [cLf x] true),(10,.cells 3 1 ((fI x (k)).map civ) true),(15,.cells 4 1 [[.bool x.sure],[.bool x.touched]] true)]) (fun k=>k<=2) 0 (by omega)
  (Qb (Qa rfl rfl) (kS rfl rfl) (fun i h=>by cases h)) ?_
 intro k hk
 refine gT 5 rfl (Qc rfl (fun h18=>?_) (fun h18=>?_))
 ·replace h18:=of_decide_eq_true h18
  refine gK 5 rfl ?_
  obtain rfl | rfl:k=0\/k=1:=by omega
  ·skip
   refine gI 1 rfl (JG rfl rfl rfl rfl (by decide) (by decide) (gR 8 rfl (Qc rfl (fun h22=>?_) (fun h22=>?_))))
   ·skip
    refine gK 3 rfl (Qf rfl rfl rfl (by omega) (gR 0 rfl (JG rfl rfl rfl rfl (by decide) (by decide) (gR 3 rfl (Qf rfl rfl rfl (by omega) (gR 2 rfl ?_))))))
    exact Qz <| ⟨0+1,by omega,by omega,Qb (Qa rfl rfl) (.keep (rfl) rfl (.keep (by simp only [fI,show flg x.sure=1 by rw [h22]; rfl]; rfl) rfl (kS rfl rfl))) (fun i h=>by cases h)⟩
   ·skip
    refine gK 2 rfl (Qf rfl rfl rfl (by omega) (gR 2 rfl ?_))
    exact Qz <| ⟨0+1,by omega,by omega,Qb (Qa rfl rfl) (.keep (rfl) rfl (.keep (by simp only [fI,show flg x.sure=0 by rw [h22]; rfl]; rfl) rfl (kS rfl rfl))) (fun i h=>by cases h)⟩
  ·skip
   refine gI 1 rfl (JG rfl rfl rfl rfl (by decide) (by decide) (gR 8 rfl (Qc rfl (fun h22=>?_) (fun h22=>?_))))
   ·skip
    refine gK 3 rfl (Qf rfl rfl rfl (by omega) (gR 0 rfl (JG rfl rfl rfl rfl (by decide) (by decide) (gR 3 rfl (Qf rfl rfl rfl (by omega) (gR 2 rfl ?_))))))
    exact Qz <| ⟨1+1,by omega,by omega,Qb (Qa rfl rfl) (.keep (rfl) rfl (.keep (by simp only [fI,show flg x.touched=1 by rw [h22]; rfl]; rfl) rfl (kS rfl rfl))) (fun i h=>by cases h)⟩
   ·skip
    refine gK 2 rfl (Qf rfl rfl rfl (by omega) (gR 2 rfl ?_))
    exact Qz <| ⟨1+1,by omega,by omega,Qb (Qa rfl rfl) (.keep (rfl) rfl (.keep (by simp only [fI,show flg x.touched=0 by rw [h22]; rfl]; rfl) rfl (kS rfl rfl))) (fun i h=>by cases h)⟩
 ·replace h18:=of_decide_eq_false h18
  refine gK 2 rfl ?_
  obtain rfl:k=2:=by omega
  refine gI 2 rfl (QD [10] rfl rfl (vc110 (fI x 2) (by rw [fI_len]; decide) hfx (by simp [fI])) (.cons (QW (f:=civ) (xs:=fI x 2) (by simp) rfl rfl) (.nil)) rfl (gR 2 rfl (cN rfl rfl (vc111 x.salt (Nat.le_trans hx.n (by decide))) (gR 0 rfl (Jj (c:=Xn x) rfl rfl rfl (by have h1:=vints_len (fI x 2); have h2:=Xl (x.salt.length:Int); have h3:=hx.n; rw [fI_len] at h1; simp only [vtext,List.length_append]; omega) rfl (gR 1 rfl (Q9 (by kernel_rfl) (gP 1 rfl ?_))))))))
  exact rQ
end Go.Proofs.YthfhaoogcpfboaaGreat
namespace Go.Proofs.YthfhaoogcpfboaaGreat
open Go.RowKit
set_option maxRecDepth 100000
set_option linter.unusedVariables false
theorem Jv {P:Program} {F:Fr} {H H':Hp} {Z:List Nat} {rs:List ResultVar} {r:AV} {vs:List AV} {e:Exit} (he:e = .normal\/e = .ret) (h:resVs P F H rs=some vs) (hr:RC H H' true (resOne vs) r) (hk:KeptHs H (Qh H') H') (hz:ZL H H' Z):RetQ P Z rs r H' true e F H :=
 ⟨he,vs,h,hr,hk.keptH,hz.at_⟩
abbrev cD (d:List Int):List AV:=d.map (AV.int .u8 ·)
theorem closedD (d:List Int):Q7 (cD d)=true:=by
 induction d with
 | nil=>rfl
 | cons a d ih=>simp only [cD,List.map_cons,Q7,Xp,Bool.true_and] at ih ⊢; exact ih
theorem noROLD (d:List Int):noROL (cD d)=true:=by
 induction d with
 | nil=>rfl
 | cons a d ih=>simp only [cD,List.map_cons,noROL,noRO,Bool.true_and] at ih ⊢; exact ih
theorem setAt_mid:∀ (x pre suf:List AV),x.length=suf.length->J9 (pre++suf) pre.length x=pre++x
 | [],pre,suf,h=>by
  obtain rfl:=List.eq_nil_of_length_eq_zero h.symm
  simp [J9]
 | c::x,pre,suf,h=>by
  obtain ⟨s,suf,rfl⟩:∃ s l,suf=s::l:=by cases suf with | nil=>simp at h | cons s l=>exact ⟨s,l,rfl⟩
  unfold J9
  have e:(pre++s::suf).set pre.length c=(pre++[c])++suf:=by simp
  rw [e]
  have:=setAt_mid x (pre++[c]) suf (by simpa using h)
  simp only [List.length_append,List.length_cons,List.length_nil] at this
  rw [this]; simp
theorem setAt_all (d x:List AV) (h:x.length=d.length):J9 d 0 x=x:=setAt_mid x [] d h
def Z8:List Int:=List.replicate 8 0
def lg (n:Nat):Nat:=if n<=1 then 0 else if n<=2 then 1 else if n<=4 then 2 else if n<=8 then 3 else if n<=16 then 4 else if n<=32 then 5 else 6
def padS (ps:List (List Int)) (j:Nat):List (List Int):=ps.map J2++List.replicate j missS
def pr (lv:List (List Int)) (i:Nat):List Int:=JD (lv.getD (2*i) []) (lv.getD (2*i+1) [])
def upS (lv:List (List Int)):List (List Int):=(List.range (lv.length / 2)).map (pr lv)
def rootL:Nat->List (List Int)->List Int
 | 0,lv=>lv.getD 0 []
 | j+1,lv=>rootL j (upS lv)
def rootS (ps:List (List Int)):List Int:=rootL (lg ps.length) (padS ps (2^lg ps.length-ps.length))
structure LvOK (j:Nat) (lv:List (List Int)):Prop where
 len:lv.length=2^j
 ok:∀ d∈lv,B8 d/\d.length=8
theorem JA (l:List Int):B8 (digB l)/\(digB l).length=8:=⟨digB_8 l,rfl⟩
theorem lg_fit (n:Nat) (h:n<=64):n<=2^lg n/\2^lg n<=64:=by
 have:∀ n:Fin 65,n.val<=2^lg n.val/\2^lg n.val<=64:=by decide
 exact this ⟨n,by omega⟩
theorem pad_go:∀ n:Fin 65,∀ m:Fin 65,n.val<=m.val->m.val<=2^lg n.val->(m.val=0\/bits .and .i64 (m.val:Int) ((m.val:Int)-1)≠0)->m.val<2^lg n.val:=by decide +kernel
theorem pad_stop:∀ n:Fin 65,∀ m:Fin 65,n.val<=m.val->m.val<=2^lg n.val->m.val≠0->bits .and .i64 (m.val:Int) ((m.val:Int)-1)=0->m.val=2^lg n.val:=by decide +kernel
theorem padS_len (ps:List (List Int)) (j:Nat):(padS ps j).length=ps.length+j:=by simp [padS]
theorem padS_succ (ps:List (List Int)) (j:Nat):padS ps (j+1)=padS ps j++[missS]:=by unfold padS; rw [List.replicate_succ',List.append_assoc]
theorem padS_ok (ps:List (List Int)) (h:ps.length<=64):LvOK (lg ps.length) (padS ps (2^lg ps.length-ps.length)):=by
 refine ⟨by rw [padS_len]; have:=lg_fit _ h; omega,fun d hd=>?_⟩
 rcases List.mem_append.1 hd with hd | hd
 ·obtain ⟨p,_,rfl⟩:=List.mem_map.1 hd; exact JA _
 ·rw [(List.mem_replicate.1 hd).2]; exact JA _
theorem upS_len (lv:List (List Int)):(upS lv).length=lv.length / 2:=by simp [upS]
theorem LvOK.up {j:Nat} {lv:List (List Int)} (h:LvOK (j+1) lv):LvOK j (upS lv):=by
 refine ⟨by rw [upS_len,h.len,Nat.pow_succ]; omega,fun d hd=>?_⟩
 obtain ⟨p,_,rfl⟩:=List.mem_map.1 hd
 exact JA _
def upR (lv:List (List Int)) (m k:Nat):List (List Int):=(List.range m).map fun i=>if i<k then pr lv i else Z8
theorem upR_len (lv:List (List Int)) (m k:Nat):(upR lv m k).length=m:=by simp [upR]
theorem upR_0 (lv:List (List Int)) (m:Nat):List.replicate m (cD Z8)=(upR lv m 0).map cD:=by
 apply List.ext_getElem?
 intro i
 simp [upR,List.getElem?_replicate,List.getElem?_map,List.getElem?_range]
 split <;> rename_i h <;> simp [h]
theorem upR_set (lv:List (List Int)) {m k:Nat} (h:k<m):(upR lv m k).set k (pr lv k)=upR lv m (k+1):=by
 apply List.ext_getElem?
 intro i
 rw [List.getElem?_set]
 simp only [upR,List.length_map,List.length_range,List.getElem?_map]
 by_cases hi:k=i
 ·subst hi; simp [h]
 ·rw [if_neg hi]
  by_cases him:i<m
  ·rw [List.getElem?_range him]
   simp only [Option.map_some]
   congr 1
   by_cases h1:i<k
   ·rw [if_pos h1,if_pos (by omega)]
   ·rw [if_neg h1,if_neg (by omega)]
  ·simp [him]
theorem upR_all (lv:List (List Int)) (m:Nat) (h:lv.length / 2=m):upR lv m m=upS lv:=by
 unfold upR upS
 rw [h]
 refine List.map_congr_left fun i hi=>?_
 rw [if_pos (List.mem_range.1 hi)]
theorem getD_at {lv:List (List Int)} {i:Nat} {a:List Int} (h:lv[i]?=some a):lv.getD i []=a:=by rw [List.getD_eq_getElem?_getD,h]; rfl
theorem pr_at {lv:List (List Int)} {i:Nat} {a b:List Int} (ha:lv[2*i]?=some a) (hb:lv[2*i+1]?=some b):pr lv i=JD a b:=by unfold pr; rw [getD_at ha,getD_at hb]
theorem el1 (d:List Int):(d.map fun n=>[AV.int .u8 n])=(d.map (AV.int .u8 ·)).map fun c=>[c]:=by simp
def as63:MC:=(rg [oM 4 7 []])
def bd63:MC:=(.block 1 (rg [oM 8 4 [],oX 9 8 8 (cI 0) [0],oL 10 8 9 [1],oS 8 3 10 [2,0,1,2]]))
theorem as63w (ps lv:List (List Int)) (x d:List Int) (hx:lv[0]?=some x) (hx8:x.length=8) (hd8:d.length=8) (o:Loop) (lb:Nat):AW Tryz.prog 13 [900,3] (some lb) as63 (fun e F' H'=>e = .normal/\Weak 13 [900,3] F' H' [(4,.rs 8 (lv.map cD)),(3,.ptr 3 0 0)] [(900,.lp o [(6,(.fn (.func 147) [.rp [.rs 1 (ps.map cS)]])),(3,.ptr 3 0 0)]),(3,.cells 130 8 [cD d] true)]) [(7,.rs 8 (lv.map cD)),(6,(.fn (.func 147) [.rp [.rs 1 (ps.map cS)]])),(3,.ptr 3 0 0)] [(900,.lp o [(6,(.fn (.func 147) [.rp [.rs 1 (ps.map cS)]])),(3,.ptr 3 0 0)]),(3,.cells 130 8 [cD d] true)]:=by
 delta as63
 refine gA 3 rfl ?_
 exact Qt <| ⟨rfl,Qb (Qa rfl rfl) (kS rfl rfl) (fun i hi=>by simp [Qh] at hi ⊢; omega)⟩
theorem bd63w (ps lv:List (List Int)) (x d:List Int) (hx:lv[0]?=some x) (hx8:x.length=8) (hd8:d.length=8) (o:Loop) (lb:Nat):AW Tryz.prog 13 [900,3] (some lb) bd63 (fun e F' H'=>e = .normal/\Weak 13 [900,3] F' H' [] [(900,.lp o [(6,(.fn (.func 147) [.rp [.rs 1 (ps.map cS)]])),(3,.ptr 3 0 0)]),(3,.cells 130 8 [cD x] true)]) [(4,.rs 8 (lv.map cD)),(3,.ptr 3 0 0)] [(900,.lp o [(6,(.fn (.func 147) [.rp [.rs 1 (ps.map cS)]])),(3,.ptr 3 0 0)]),(3,.cells 130 8 [cD d] true)]:=by
 have e1:(cD x).take 8=cD x:=List.take_of_length_le (by simp [hx8])
 have e2:J9 (cD d) 0 (cD x)=cD x:=setAt_all _ _ (by simp [hx8,hd8])
 delta bd63
 refine gA 3 rfl (Qi (f:=cD) (y:=x) rfl rfl rfl (by decide) hx (gR 0 rfl (Q8 rfl rfl (by simp [hx8]) e1 (gR 0 rfl (rs_st rfl rfl rfl rfl rfl rfl (by simp [hx8]) (by simp [hd8]) (show [J9 (cD d) 0 (cD x)]=[cD x] by rw [e2]) (show (true&&Q7 (cD x))=true by rw [closedD]; rfl) (gR 1 rfl ?_))))))
 exact Qt <| ⟨rfl,Qb (.nil) (kS rfl rfl) (fun i hi=>by simp [Qh] at hi ⊢; omega)⟩
theorem y63 (ps lv:List (List Int)) (x d:List Int) (hx:lv[0]?=some x) (hx8:x.length=8) (hd8:d.length=8) (r0:Loop) (h:Rec0 Tryz.prog 13 [7] as63 bd63 r0) :
  FCg (Js Tryz.prog) [.yl 900,.rs 8 (lv.map cD)] [(900,.lp r0 [(6,(.fn (.func 147) [.rp [.rs 1 (ps.map cS)]])),(3,.ptr 3 0 0)]),(3,.cells 130 8 [cD d] true)] (.bool true) [(900,.lp r0 [(6,(.fn (.func 147) [.rp [.rs 1 (ps.map cS)]])),(3,.ptr 3 0 0)]),(3,.cells 130 8 [cD x] true)] true:=by
 have:=round_yield (P:=Tryz.prog) (F:=[(6,(.fn (.func 147) [.rp [.rs 1 (ps.map cS)]])),(3,.ptr 3 0 0)]) (N:=13) (x:=as63) (y:=bd63) h.ca h.cb (li:=900) (ps:=[7]) (vs:=[.rs 8 (lv.map cD)]) (J:=[(3,.cells 130 8 [cD d] true)]) (J1:=[(3,.cells 130 8 [cD d] true)]) (J':=[(3,.cells 130 8 [cD x] true)]) (Fb:=[(4,.rs 8 (lv.map cD)),(3,.ptr 3 0 0)]) (Z0:=[900,3]) .normal none (.inl ⟨rfl,rfl⟩)
  rfl rfl (fun i hi=>QE.1 hi) (by simp) (fun i h=>QE.2 h) (fun i hi=>QE.1 (by simp [Qh] at hi ⊢; omega)) h.state h.params rfl rfl h.size (fun t v h=>get_mem h) (fun lb o=>as63w ps lv x d hx hx8 hd8 o lb) (fun lb o=>bd63w ps lv x d hx hx8 hd8 o lb)
 rw [rec_same h.state h.pending] at this
 exact this
end Go.Proofs.YthfhaoogcpfboaaGreat
namespace Go.Proofs.YthfhaoogcpfboaaGreat
open Go.RowKit
set_option maxRecDepth 100000
set_option linter.unusedVariables false
theorem padS_0 (ps:List (List Int)):padS ps 0=(ps.take ps.length).map J2:=by simp [padS]
theorem leaf_succ {ps:List (List Int)} {k:Nat} {p:List Int} (h:ps[k]?=some p):(ps.take (k+1)).map J2=(ps.take k).map J2++[J2 p]:=by rw [Q3 h,List.map_append]; rfl
theorem upR_8 {lv:List (List Int)} {m k:Nat} {d:List Int} (h:d∈upR lv m k):d.length=8:=by
 obtain ⟨i,_,rfl⟩:=List.mem_map.1 h
 split
 ·exact (JA _).2
 ·rfl
theorem mul2W {k:Nat} (h:k<=64):W (2*(k:Int))=((2*k:Nat):Int):=by rw [QU (by omega)]; omega
theorem quo2W {n m:Nat} (h:n=2*m) (hn:n<=64):W ((n:Int).tdiv 2)=(m:Int):=by
 rw [Int.tdiv_eq_ediv_of_nonneg (by omega),QU (by omega)]; omega
def mcv147:MC:=(sq [oD 8 1 1 [],oE 9 8 [0],oN 10 (.mksl 130 8 8 [(.int .u8 0),(.int .u8 0),(.int .u8 0),(.int .u8 0),(.int .u8 0),(.int .u8 0),(.int .u8 0),(.int .u8 0)] (cI 0) 9) [1],oM 3 10 [2,0,1,2]] (.seq (sq [oD 11 1 1 [],oE 12 11 [0],oN 13 (.mv (cI 0)) []] (.block 0 (.loop (sq [oB 14 .lss 13 12 []] (.seq (.cond 14 .skip (.exit 0)) (.seq (.block 1 (sq [oX 15 1 11 13 [],oD 16 1 15 [0],oM 5 16 [1,0,1]] (rg [oM 17 3 [],oM 18 5 [],oN 19 (.bslice 9 1 [(.str (strN []))] 2 [(0,(.c (.str (strN [1])))),(1,18)]) [1],oC 20 94 [19] [2],oN 21 (.bslice 130 8 [(.int .u8 0),(.int .u8 0),(.int .u8 0),(.int .u8 0),(.int .u8 0),(.int .u8 0),(.int .u8 0),(.int .u8 0)] 1 [(0,20)]) [3],oN 22 (.app 130 8 8 [(.int .u8 0),(.int .u8 0),(.int .u8 0),(.int .u8 0),(.int .u8 0),(.int .u8 0),(.int .u8 0),(.int .u8 0)] 17 21) [0,4,3],oM 3 22 (5::5::up 6)]))) (rg [oB 23 .add 13 (cI 1) [],oM 13 23 [0]]))))))) (.seq (.block 2 (.loop (.seq (sq [oM 24 3 [],oE 25 24 [0],oB 26 .eql 25 (cI 0) [1],oM 27 26 [2],pM 28 3 27 false [3],oG 29 (.len 28) 27 false [4,3],pM 30 3 27 false [3],oG 31 (.len 30) 27 false [6,3],oG 32 (.bin .sub 31 (cI 1)) 27 false [7,3],oG 33 (.bin .and 29 32) 27 false [5,8,3],oG 34 (.bin .neq 33 (cI 0)) 27 false [9,3],oN 35 (.pick 27 (.c (.bool true)) 34) [3,10]] (.cond 35 .skip (.exit 2))) (.block 3 (rg [oM 36 3 [],oN 37 (.bslice 9 1 [(.str (strN []))] 1 [(0,(.c (.str (strN [3]))))]) [],oC 38 94 [37] [1],oN 39 (.bslice 130 8 [(.int .u8 0),(.int .u8 0),(.int .u8 0),(.int .u8 0),(.int .u8 0),(.int .u8 0),(.int .u8 0),(.int .u8 0)] 1 [(0,38)]) [2],oN 40 (.app 130 8 8 [(.int .u8 0),(.int .u8 0),(.int .u8 0),(.int .u8 0),(.int .u8 0),(.int .u8 0),(.int .u8 0),(.int .u8 0)] 36 39) [0,3,2],oM 3 40 (4::4::up 5)]))))) (.block 4 (.loop (.seq (sq [oM 41 0 [],oM 42 3 [],oN 43 (.callv 41 [42]) [0,1],oM 44 43 [2,2],pM 45 3 44 true [3],oG 46 (.len 45) 44 true [4,3],oG 47 (.bin .gtr 46 (cI 1)) 44 true [5,3],oN 48 (.pick 44 47 (.c (.bool false))) [3,6]] (.cond 48 .skip (.exit 4))) (.block 5 (sq [oM 49 3 [],oE 50 49 [0],oB 51 .quo 50 (cI 2) [1],oN 52 (.mksl 130 8 8 [(.int .u8 0),(.int .u8 0),(.int .u8 0),(.int .u8 0),(.int .u8 0),(.int .u8 0),(.int .u8 0),(.int .u8 0)] 51 51) [2,2],oM 6 52 (3::up 4)] (.seq (sq [oM 53 6 [],oE 54 53 [0],oN 55 (.mv (cI 0)) []] (.block 6 (.loop (sq [oB 56 .lss 55 54 []] (.seq (.cond 56 .skip (.exit 6)) (.seq (.block 7 (sq [oM 57 55 [],oM 7 57 [0,0]] (dg [oM 58 6 [],oM 59 7 [],oM 60 3 [],oM 61 7 [],oB 62 .mul (cI 2) 61 [3],oX 63 8 60 62 [2,4],oN 64 (.slarr 8 63 none none) [5],oN 65 (.b2s 64) [6],oM 66 3 [],oM 67 7 [],oB 68 .mul (cI 2) 67 [9],oB 69 .add 68 (cI 1) [10],oX 70 8 66 69 [8,11],oN 71 (.slarr 8 70 none none) [12],oN 72 (.b2s 71) [13],oN 73 (.bslice 9 1 [(.str (strN []))] 3 [(0,(.c (.str (strN [2])))),(1,65),(2,72)]) [7,14],oC 74 94 [73] [15],oX 75 8 58 59 (0::1::up 17),oS 8 75 74 (17::16::16::up 17)]))) (rg [oB 76 .add 55 (cI 1) [],oM 55 76 [0]]))))))) (rg [oM 77 6 [],oM 3 77 [0,0]]))))))))))
theorem mcOkv147:okM Tryz.prog Tryz.f147 78=some mcv147:=by kernel_rfl
set_option maxHeartbeats 2000000 in
theorem vc147 (ps:List (List Int)) (hp:∀ p∈ps,B8 p/\p.length<=LIM) (hn:ps.length<=64) (d:List Int) (hd8:d.length=8) (r0:Loop) (h:Rec0 Tryz.prog 13 [7] as63 bd63 r0):FC Tryz.prog 147 [.yl 900,.rp [.rs 1 (ps.map cS)]] [(900,.lp r0 [(6,(.fn (.func 147) [.rp [.rs 1 (ps.map cS)]])),(3,.ptr 3 0 0)]),(3,.cells 130 8 [cD d] true)] (.tup []) [(900,.lp r0 [(6,(.fn (.func 147) [.rp [.rs 1 (ps.map cS)]])),(3,.ptr 3 0 0)]),(3,.cells 130 8 [cD (rootS ps)] true)] true:=by
 have hlg:=lg_fit _ hn
 refine Qg (nt:=78) Tryz.func147 rfl rfl mcOkv147 (nL rfl) ?_
 delta mcv147
 refine gA 3 rfl (Qe rfl rfl (gR 0 rfl (rs_mkslc rfl rfl rfl rfl rfl (by decide) (by omega) (by omega) (by omega) (gR 6 rfl (Qe rfl rfl (gR 3 rfl ?_))))))
 refine Qo (α:=Nat) (fun k=>ps.length-k) (fun k=>[(0,.yl 900),(1,.rp [.rs 1 (ps.map cS)]),(3,.sl 10 0 (k)),(11,.rs 1 (ps.map cS)),(12,iv (ps.length:Int)),(13,iv (((k):Nat):Int))]) (fun k=>[(900,.lp r0 [(6,(.fn (.func 147) [.rp [.rs 1 (ps.map cS)]])),(3,.ptr 3 0 0)]),(3,.cells 130 8 [cD d] true),(10,.cells 130 8 (((ps.take (k)).map J2).map cD) true)]) (fun k=>k<=ps.length) 0 (by omega)
  (Qb (Qa rfl rfl) (kS rfl rfl) (fun i hi=>by simp [Qh] at hi ⊢; omega)) ?_
 intro k hk
 refine gT 5 rfl (Qc rfl (fun h14=>?_) (fun h14=>?_))
 ·replace h14:=of_decide_eq_true h14
  refine gK 5 rfl ?_
  obtain ⟨p,hpk,hpm⟩:=Qk (L:=ps) (k:=k) (by omega)
  have hps:∀ q∈([[1],p]:List (List Int)),B8 q/\q.length<=4611686018427387904:=by
   intro q hq
   simp only [List.mem_cons,List.not_mem_nil,or_false] at hq
   rcases hq with e0 | e1
   ·rw [e0]; exact ⟨b8_c,by decide⟩
   ·rw [e1]; exact ⟨(hp p hpm).1,Nat.le_trans (hp p hpm).2 (by decide)⟩
  refine Qi (f:=cS) (y:=p) rfl rfl rfl (by omega) hpk (gR 6 rfl (bM cS (([[1],p]:List (List Int))) (by kernel_rfl) (gR 0 rfl (QD [19] rfl rfl (vc94 [[1],p] hps (by simp)) (.cons (QW (f:=cS) (xs:=[[1],p]) (by simp) rfl rfl) (.nil)) rfl (gR 0 rfl (bM cD (([J2 p]:List (List Int))) (by kernel_rfl) (gR 0 rfl (Qq (f:=cD) (xs:=(ps.take k).map J2) (y:=J2 p) (fl':=true) rfl rfl rfl rfl (by simp; omega) rfl rfl rfl (by decide) rfl (by omega) (by omega) (by kernel_rfl) (gR 3 rfl (Qf rfl rfl rfl (by omega) (gR 2 rfl ?_)))))))))))
  exact Qz <| ⟨k+1,by omega,by omega,QB (i:=22) (i':=10) (F1:=[(0,.yl 900),(1,.rp [.rs 1 (ps.map cS)]),(3,.sl 22 0 (k+1)),(11,.rs 1 (ps.map cS)),(12,iv (ps.length:Int)),(13,iv (((k+1):Nat):Int))]) (H1:=[(900,.lp r0 [(6,(.fn (.func 147) [.rp [.rs 1 (ps.map cS)]])),(3,.ptr 3 0 0)]),(3,.cells 130 8 [cD d] true),(22,.cells 130 8 (((ps.take (k+1)).map J2).map cD) true)]) (Qa rfl rfl) (.keep (rfl) rfl (.keep (rfl) rfl (.keep (by rw [leaf_succ hpk]; rfl) rfl (.nil)))) ((fun i hi=>by simp [Qh] at hi ⊢; omega)) rfl rfl (.cons rfl (.same _) (.cons rfl (.same _) (.cons rfl (.sl _ _) (.cons rfl (.same _) (.cons rfl (.same _) (.cons rfl (.same _) (.nil))))))) (Qa rfl rfl) (kS rfl rfl) ((fun i hi=>by simp [Qh] at hi ⊢; omega))⟩
 ·replace h14:=of_decide_eq_false h14
  refine gK 3 rfl ?_
  refine Qo (α:=Nat) (fun j=>2^lg ps.length-(ps.length+j)) (fun j=>[(0,.yl 900),(1,.rp [.rs 1 (ps.map cS)]),(3,.sl 10 0 (ps.length+(j)))]) (fun j=>[(900,.lp r0 [(6,(.fn (.func 147) [.rp [.rs 1 (ps.map cS)]])),(3,.ptr 3 0 0)]),(3,.cells 130 8 [cD d] true),(10,.cells 130 8 ((padS ps (j)).map cD) true)]) (fun j=>ps.length+j<=2^lg ps.length) 0 (hlg.1)
   (by
    obtain rfl:k=ps.length:=by omega
    exact Qb (Qa rfl rfl) (.keep (rfl) rfl (.keep (rfl) rfl (.keep (by rw [padS_0]; rfl) rfl (.nil)))) (fun i hi=>by simp [Qh] at hi ⊢; omega)) ?_
  intro j hj
  refine gT 4 rfl (QC rfl rfl (gR 0 rfl (Qx rfl rfl rfl rfl (fun h26=>?_) (fun h26=>?_))))
  ·skip
   have hgo:ps.length+j<2^lg ps.length:=pad_go ⟨ps.length,by omega⟩ ⟨ps.length+j,by omega⟩ (Nat.le_add_right _ _) hj (.inl (show ps.length+j=0 by omega))
   refine gR 14 rfl ?_
   have hps:∀ q∈([[3]]:List (List Int)),B8 q/\q.length<=4611686018427387904:=by
    intro q hq
    rw [List.mem_singleton.1 hq]
    exact ⟨b8_c,by decide⟩
   refine gI 1 rfl (bM cS (([[3]]:List (List Int))) (by kernel_rfl) (gR 0 rfl (QD [37] rfl rfl (vc94 [[3]] hps (by simp)) (.cons (QW (f:=cS) (xs:=[[3]]) (by simp) rfl rfl) (.nil)) rfl (gR 0 rfl (bM cD (([missS]:List (List Int))) (by kernel_rfl) (gR 0 rfl (Qq (f:=cD) (xs:=padS ps j) (y:=missS) (fl':=true) rfl rfl rfl rfl (padS_len _ _) rfl rfl rfl (by decide) rfl (by omega) (by omega) (by kernel_rfl) (gR 2 rfl ?_))))))))
   exact Qz <| ⟨j+1,by omega,by omega,QB (i:=40) (i':=10) (F1:=[(0,.yl 900),(1,.rp [.rs 1 (ps.map cS)]),(3,.sl 40 0 (ps.length+(j+1)))]) (H1:=[(900,.lp r0 [(6,(.fn (.func 147) [.rp [.rs 1 (ps.map cS)]])),(3,.ptr 3 0 0)]),(3,.cells 130 8 [cD d] true),(40,.cells 130 8 ((padS ps (j+1)).map cD) true)]) (Qa rfl rfl) (.keep (rfl) rfl (.keep (rfl) rfl (.keep (by rw [padS_succ]; rfl) rfl (.nil)))) ((fun i hi=>by simp [Qh] at hi ⊢; omega)) rfl rfl (.cons rfl (.same _) (.cons rfl (.same _) (.cons rfl (.sl _ _) (.nil)))) (Qa rfl rfl) (kS rfl rfl) ((fun i hi=>by simp [Qh] at hi ⊢; omega))⟩
  ·skip
   refine gR 2 rfl (QC rfl rfl (gR 1 rfl (QC rfl rfl (gR 0 rfl (rs_sub rfl rfl rfl (by omega) (gR 0 rfl (rs_and rfl rfl rfl rfl (gR 0 rfl (Qx rfl rfl rfl rfl (fun h34=>?_) (fun h34=>?_))))))))))
   ·skip
    have hgo:ps.length+j<2^lg ps.length:=pad_go ⟨ps.length,by omega⟩ ⟨ps.length+j,by omega⟩ (Nat.le_add_right _ _) hj (.inr h34)
    refine gR 6 rfl ?_
    have hps:∀ q∈([[3]]:List (List Int)),B8 q/\q.length<=4611686018427387904:=by
     intro q hq
     rw [List.mem_singleton.1 hq]
     exact ⟨b8_c,by decide⟩
    refine gI 1 rfl (bM cS (([[3]]:List (List Int))) (by kernel_rfl) (gR 0 rfl (QD [37] rfl rfl (vc94 [[3]] hps (by simp)) (.cons (QW (f:=cS) (xs:=[[3]]) (by simp) rfl rfl) (.nil)) rfl (gR 0 rfl (bM cD (([missS]:List (List Int))) (by kernel_rfl) (gR 0 rfl (Qq (f:=cD) (xs:=padS ps j) (y:=missS) (fl':=true) rfl rfl rfl rfl (padS_len _ _) rfl rfl rfl (by decide) rfl (by omega) (by omega) (by kernel_rfl) (gR 2 rfl ?_))))))))
    exact Qz <| ⟨j+1,by omega,by omega,QB (i:=40) (i':=10) (F1:=[(0,.yl 900),(1,.rp [.rs 1 (ps.map cS)]),(3,.sl 40 0 (ps.length+(j+1)))]) (H1:=[(900,.lp r0 [(6,(.fn (.func 147) [.rp [.rs 1 (ps.map cS)]])),(3,.ptr 3 0 0)]),(3,.cells 130 8 [cD d] true),(40,.cells 130 8 ((padS ps (j+1)).map cD) true)]) (Qa rfl rfl) (.keep (rfl) rfl (.keep (rfl) rfl (.keep (by rw [padS_succ]; rfl) rfl (.nil)))) ((fun i hi=>by simp [Qh] at hi ⊢; omega)) rfl rfl (.cons rfl (.same _) (.cons rfl (.same _) (.cons rfl (.sl _ _) (.nil)))) (Qa rfl rfl) (kS rfl rfl) ((fun i hi=>by simp [Qh] at hi ⊢; omega))⟩
   ·skip
    have hst:ps.length+j=2^lg ps.length:=pad_stop ⟨ps.length,by omega⟩ ⟨ps.length+j,by omega⟩ (Nat.le_add_right _ _) hj (show ps.length+j≠0 by omega) (Decidable.byContradiction fun q=>h34 q)
    refine gR 5 rfl ?_
    refine Qo (α:=(Nat×List (List Int)×List Int)) (fun s=>s.1) (fun s=>[(0,.yl 900),(1,.rp [.rs 1 (ps.map cS)]),(3,.rs 8 ((s.2.1).map cD))]) (fun s=>[(900,.lp r0 [(6,(.fn (.func 147) [.rp [.rs 1 (ps.map cS)]])),(3,.ptr 3 0 0)]),(3,.cells 130 8 [cD s.2.2] true)]) (fun s=>LvOK s.1 s.2.1/\rootL s.1 s.2.1=rootS ps/\s.2.2.length=8/\s.2.1.length<=64) (lg ps.length,padS ps (2^lg ps.length-ps.length),d) (⟨padS_ok ps hn,rfl,hd8,by rw [padS_len]; omega⟩)
     (by
      obtain rfl:j=2^lg ps.length-ps.length:=by omega
      exact Qb (.cs (.cs (.cons rfl ((Q5 (f:=cD) (xs:=padS ps (2^lg ps.length-ps.length)) rfl rfl (padS_len _ _) noROLD)) (.nil)))) (kS rfl rfl) (fun i hi=>by simp [Qh] at hi ⊢; omega)) ?_
    rintro ⟨j,lv,d⟩ ⟨hlv,hrt,hd8,hl64⟩
    dsimp only at hlv hrt hd8 hl64 ⊢
    refine gT 3 rfl ?_
    obtain ⟨x,hx,hxm⟩:=Qk (L:=lv) (k:=0) (by rw [hlv.len]; exact Nat.two_pow_pos _)
    refine gI 2 rfl (rs_yield [(900,.lp r0 [(6,(.fn (.func 147) [.rp [.rs 1 (ps.map cS)]])),(3,.ptr 3 0 0)]),(3,.cells 130 8 [cD d] true)] rfl rfl rfl (y63 ps lv x d hx (hlv.ok x hxm).2 hd8 r0 h) (.cons (Qd rfl) (.cons (Qd rfl) .nil)) (.cons rfl (.cons rfl (.nil))) rfl rfl rfl (gR 2 rfl (Qe rfl rfl (gR 0 rfl (Qx rfl rfl rfl rfl (fun h47=>?_) (fun h47=>?_))))))
    ·skip
     obtain ⟨i,rfl⟩:∃ i,j=i+1:=by
      rcases j with _ | i
      ·exfalso; have:=hlv.len; simp at this; omega
      ·exact ⟨i,rfl⟩
     obtain ⟨m,hm⟩:∃ m,lv.length=2*m:=⟨2^i,by rw [hlv.len,Nat.pow_succ]; omega⟩
     refine gR 8 rfl (Qe rfl rfl (gR 0 rfl (QR rfl rfl rfl (by decide) (quo2W hm hl64) (gR 0 rfl (rs_mksl (n:=(m:Int)) rfl rfl rfl rfl rfl (by omega) (by omega) (by omega) (gR 6 rfl (QC rfl rfl (gR 3 rfl ?_))))))))
     refine Qo (α:=Nat) (fun k=>m-k) (fun k=>[(0,.yl 900),(1,.rp [.rs 1 (ps.map cS)]),(3,.rs 8 ((lv).map cD)),(6,.sl 904 0 m),(54,iv (m:Int)),(55,iv (((k):Nat):Int))]) (fun k=>[(900,.lp r0 [(6,(.fn (.func 147) [.rp [.rs 1 (ps.map cS)]])),(3,.ptr 3 0 0)]),(3,.cells 130 8 [cD x] true),(904,.cells 130 8 ((upR lv m (k)).map cD) true)]) (fun k=>k<=m) 0 (by omega)
      (QB (i:=52) (i':=904) (F1:=[(0,.yl 900),(1,.rp [.rs 1 (ps.map cS)]),(3,.rs 8 ((lv).map cD)),(6,.sl 52 0 m),(54,iv (m:Int)),(55,iv (((0):Nat):Int))]) (H1:=[(900,.lp r0 [(6,(.fn (.func 147) [.rp [.rs 1 (ps.map cS)]])),(3,.ptr 3 0 0)]),(3,.cells 130 8 [cD x] true),(52,.cells 130 8 ((upR lv m (0)).map cD) true)]) (Qa rfl rfl) (.keep (rfl) rfl (.keep (rfl) rfl (.keep (by rw [← upR_0]; rfl) rfl (.nil)))) ((fun i hi=>by simp [Qh] at hi ⊢; omega)) rfl rfl (.cons rfl (.same _) (.cons rfl (.same _) (.cons rfl (.same _) (.cons rfl (.sl _ _) (.cons rfl (.same _) (.cons rfl (.same _) (.nil))))))) (Qa rfl rfl) (kS rfl rfl) ((fun i hi=>by simp [Qh] at hi ⊢; omega))) ?_
     intro k hk
     refine gT 5 rfl (Qc rfl (fun h56=>?_) (fun h56=>?_))
     ·replace h56:=of_decide_eq_true h56
      refine gK 9 rfl ?_
      have hkm:k<m:=by omega
      have hkl:k<(upR lv m k).length:=by rw [upR_len]; exact hkm
      have h8k:((upR lv m k)[k]).length=8:=upR_8 (List.getElem_mem hkl)
      obtain ⟨a,ha,ham⟩:=Qk (L:=lv) (k:=2*k) (by omega)
      obtain ⟨b,hb,hbm⟩:=Qk (L:=lv) (k:=2*k+1) (by omega)
      have ha8:=(hlv.ok a ham).2
      have hb8:=(hlv.ok b hbm).2
      have hps:∀ q∈([[2],a,b]:List (List Int)),B8 q/\q.length<=4611686018427387904:=by
       intro q hq
       simp only [List.mem_cons,List.not_mem_nil,or_false] at hq
       rcases hq with e0 | e1 | e2
       ·rw [e0]; exact ⟨b8_c,by decide⟩
       ·rw [e1]; exact ⟨(hlv.ok _ ham).1,by rw [ha8]; decide⟩
       ·rw [e2]; exact ⟨(hlv.ok _ hbm).1,by rw [hb8]; decide⟩
      refine gI 4 rfl (Q4 rfl rfl rfl (mul2W (by omega)) (gR 0 rfl (Qi (f:=cD) (y:=a) rfl rfl rfl (by omega) ha (gR 0 rfl (rs_slarr_r (els:=a.map fun n=>[AV.int .u8 n]) rfl rfl rfl rfl (by simp [ha8]) (by decide) (by rw [List.take_of_length_le (by simp [ha8])]; exact (el1 a).symm) (gR 0 rfl (rs_b2s (l:=a) (rd:=[]) rfl rfl (bytesV_rs a) (gR 2 rfl (Q4 rfl rfl rfl (mul2W (by omega)) (gR 0 rfl (Qf rfl rfl rfl (by omega) ?_)))))))))))
      refine gR 0 rfl (Qi (f:=cD) (y:=b) rfl rfl rfl (by omega) hb (gR 0 rfl (rs_slarr_r (els:=b.map fun n=>[AV.int .u8 n]) rfl rfl rfl rfl (by simp [hb8]) (by decide) (by rw [List.take_of_length_le (by simp [hb8])]; exact (el1 b).symm) (gR 0 rfl (rs_b2s (l:=b) (rd:=[]) rfl rfl (bytesV_rs b) (gR 0 rfl (bM cS (([[2],a,b]:List (List Int))) (by kernel_rfl) (gR 0 rfl (QD [73] rfl rfl (vc94 [[2],a,b] hps (by simp)) (.cons (QW (f:=cS) (xs:=[[2],a,b]) (by simp) rfl rfl) (.nil)) rfl (gR 0 rfl (rs_ix_sm (f:=cD) (xs:=upR lv m k) rfl rfl rfl rfl (by omega) ?_)))))))))))
      refine gR 0 rfl (rs_st_m (f:=cD) (xs:=upR lv m k) (t:=k) (v:=JD a b) (fl':=true) rfl rfl rfl rfl hkl rfl rfl (by simp [h8k]) (setAt_all _ _ (by simp [h8k,(JA _).2,JD])) (by rw [closedD]; rfl) (gR 0 rfl (Q9 (by kernel_rfl) (gP 1 rfl (Qf rfl rfl rfl (by omega) (gR 2 rfl ?_))))))
      exact Qz <| ⟨k+1,by omega,by omega,Qb (Qa rfl rfl) (.keep (rfl) rfl (.keep (rfl) rfl (.keep (by rw [← upR_set lv hkm,pr_at ha hb]; rfl) rfl (.nil)))) (fun i hi=>by simp [Qh] at hi ⊢; omega)⟩
     ·replace h56:=of_decide_eq_false h56
      refine gK 5 rfl (⟨(i,upS lv,x),⟨hlv.up,hrt,(hlv.ok x hxm).2,by rw [upS_len]; omega⟩,Nat.lt_succ_self _,?_⟩)
      obtain rfl:k=m:=by omega
      exact Qb (.cs (.cs (.cons rfl ((by rw [← upR_all lv k (by omega)]; exact Q5 (f:=cD) (xs:=upR lv k k) rfl rfl (upR_len _ _ _) noROLD)) (.nil)))) (kS rfl rfl) (fun i hi=>by simp [Qh] at hi ⊢; omega)
    ·skip
     have hj0:j=0:=by
      rcases j with _ | i
      ·rfl
      ·exfalso; have:=hlv.len; rw [Nat.pow_succ] at this; have:=Nat.two_pow_pos i; omega
     subst hj0
     have hxr:x=rootS ps:=by rw [← hrt]; exact (getD_at hx).symm
     refine gR 4 rfl ?_
     exact Qt <| Jv (by first | exact .inl rfl | exact .inr rfl) rfl sm (.keep (rfl) rfl (.keep (by rw [← hxr]; rfl) rfl (.nil))) (.cons rfl rfl rfl (.cons rfl rfl rfl (.nil)))
end Go.Proofs.YthfhaoogcpfboaaGreat
namespace Go.Proofs.YthfhaoogcpfboaaGreat
open Go.RowKit
set_option maxRecDepth 100000
set_option linter.unusedVariables false
theorem rootL_d:∀ (j:Nat) (lv:List (List Int)),LvOK j lv->(∀ d∈lv,∃ q,d=digB q)->∃ q,rootL j lv=digB q
 | 0,lv,h,hd=>by
  have h1:lv.length=1:=h.len
  obtain ⟨d,hd0,hm⟩:=Qk (L:=lv) (k:=0) (by omega)
  obtain ⟨q,e⟩:=hd d hm
  exact ⟨q,by rw [← e]; exact getD_at hd0⟩
 | j+1,lv,h,hd=>rootL_d j (upS lv) h.up fun d hd=>by
  obtain ⟨i,_,rfl⟩:=List.mem_map.1 hd
  exact ⟨_,rfl⟩
theorem padS_d {ps:List (List Int)} {m:Nat}:∀ d∈padS ps m,∃ q,d=digB q:=fun d hd=>by
 rcases List.mem_append.1 hd with hd | hd
 ·obtain ⟨p,_,rfl⟩:=List.mem_map.1 hd; exact ⟨_,rfl⟩
 ·rw [(List.mem_replicate.1 hd).2]; exact ⟨_,rfl⟩
theorem rootS_d {ps:List (List Int)} (h:ps.length<=64):∃ q,rootS ps=digB q:=rootL_d _ _ (padS_ok ps h) padS_d
theorem rootS_8 {ps:List (List Int)} (h:ps.length<=64):B8 (rootS ps)/\(rootS ps).length=8:=by
 obtain ⟨q,e⟩:=rootS_d h
 rw [e]; exact JA q
def rootF (ls:List Lf):List Int:=rootS (ls.map Xn)
structure LsOK (ls:List Lf):Prop where
 n:ls.length<=64
 ok:∀ x∈ls,x.OK
theorem LsOK.texts {ls:List Lf} (h:LsOK ls):∀ p∈ls.map Xn,B8 p/\p.length<=LIM:=fun p hp=>by
 obtain ⟨x,hx,rfl⟩:=List.mem_map.1 hp
 exact ⟨textS_8 (h.ok x hx).b,Nat.le_trans (textS_len (h.ok x hx).n) (by decide)⟩
theorem text_succ {ls:List Lf} {k:Nat} {x:Lf} (h:ls[k]?=some x):(ls.take (k+1)).map Xn=(ls.take k).map Xn++[Xn x]:=by rw [Q3 h,List.map_append]; rfl
def mcv112:MC:=(sq [oN 1 (.box 47 1 0) [],oN 2 (.mv (.c .nilf)) []] (sq [oN 3 (.mkfn (.func 147) [1]) [],oM 2 3 [0,0]] .ret))
theorem mcOkv112:okM Tryz.prog Tryz.f112 4=some mcv112:=by kernel_rfl
theorem vc112 (ps:List (List Int)):FC Tryz.prog 112 [.rs 1 (ps.map cS)] [] (.fn (.func 147) [.rp [.rs 1 (ps.map cS)]]) [] true:=by
 refine Qg (nt:=4) Tryz.func112 rfl rfl mcOkv112 (nL rfl) ?_
 delta mcv112
 refine gA 11 rfl ?_
 exact Qt <| Ql rfl (rc_fnr (.cons (Jc rfl rfl (.inl rfl)) .nil)) .nil
def mcv63:MC:=(sq [oN 2 (.mv (.c (.str (strN [])))) []] (sq [oN 3 (.alloc 130 8 [(.int .u8 0),(.int .u8 0),(.int .u8 0),(.int .u8 0),(.int .u8 0),(.int .u8 0),(.int .u8 0),(.int .u8 0)]) []] (.seq (sq [oM 5 0 [],oC 6 112 [5] [0]] (.block 0 (.rfunc 6 [7] (rg [oM 4 7 []]) (.block 1 (rg [oM 8 4 [],oX 9 8 8 (cI 0) [0],oL 10 8 9 [1],oS 8 3 10 [2,0,1,2]]))))) (sq [oL 11 8 3 [],oC 12 93 [11] [0],oM 2 12 [1,1,0,1]] .ret))))
theorem mcOkv63:okM Tryz.prog Tryz.f63 13=some mcv63:=by kernel_rfl
theorem vc63 (ps:List (List Int)) (hp:∀ p∈ps,B8 p/\p.length<=LIM) (hn:ps.length<=64):FC Tryz.prog 63 [.rs 1 (ps.map cS)] [] (.str (strN (rootS ps))) [] false:=by
 obtain ⟨q,hq⟩:=rootS_d hn
 have hr8:=(rootS_8 hn).2
 refine Qg (nt:=13) Tryz.func63 rfl rfl mcOkv63 (nL rfl) ?_
 delta mcv63
 refine gA 12 rfl (Qr [] rfl rfl (vc112 ps) (.cons (Qd rfl) .nil) .nil rfl rfl rfl (gR 2 rfl (QH (F0:=[(6,(.fn (.func 147) [.rp [.rs 1 (ps.map cS)]])),(3,.ptr 3 0 0)]) (H0:=[(3,.cells 130 8 [cD Z8] true)]) (Qb (Qa rfl rfl) (kS rfl rfl) fun i h=>by cases h) (aw_rfunc 900 [(3,.cells 130 8 [cD Z8] true)] [(3,.cells 130 8 [cD (rootS ps)] true)] (.inl ⟨rfl,rfl⟩) rfl (by kernel_rfl) rfl rfl rfl (.cons rfl (.nil)) rfl rfl rfl rfl (fun r0 hrec=>⟨r0,(by rw [hrec.state]; intro h; cases h),hrec.pending,vc147 ps hp hn Z8 rfl r0 hrec⟩) (gP 2 rfl (rs_ld_pa (cs:=cD (rootS ps)) rfl rfl rfl rfl (by simp [hr8]) (List.take_of_length_le (by simp [hr8])) ?_))))))
 rw [hq]
 refine gR 0 rfl (cN rfl rfl (vc93 q) (gR 3 rfl ?_))
 exact rQ
def mcv19:MC:=(sq [oN 2 (.mv (.c (.str (strN [])))) []] (sq [oN 3 (.mv (.c .nils)) []] (.seq (sq [oM 6 0 [],oE 7 6 [0],oN 8 (.mv (cI 0)) []] (.block 0 (.loop (sq [oB 9 .lss 8 7 []] (.seq (.cond 9 .skip (.exit 0)) (.seq (.block 1 (sq [oX 10 5 6 8 [],oL 11 5 10 [0],oN 5 (.alloc 51 5 [(iv 0),(iv 0),(.bool false),(.bool false),(.str (strN []))]) [],oS 5 5 11 [2,1,0,1,2]] (rg [oM 12 3 [],oL 13 5 5 [],oC 14 62 [13] [1],oN 15 (.bslice 9 1 [(.str (strN []))] 1 [(0,14)]) [2],oN 16 (.app 9 1 16 [(.str (strN []))] 12 15) [0,3,2],oM 3 16 (4::4::up 5)]))) (rg [oB 17 .add 8 (cI 1) [],oM 8 17 [0]]))))))) (sq [oM 18 3 [],oC 19 63 [18] [0],oM 2 19 [1,1,0,1]] .ret))))
theorem mcOkv19:okM Tryz.prog Tryz.f19 20=some mcv19:=by kernel_rfl
theorem vc19 (ls:List Lf) (hl:LsOK ls):FC Tryz.prog 19 [.rs 5 (ls.map cLf)] [] (.str (strN (rootF ls))) [] false:=by
 have hn:=hl.n
 refine Qg (nt:=20) Tryz.func19 rfl rfl mcOkv19 (nL rfl) ?_
 delta mcv19
 refine gA 12 rfl (Qe rfl rfl (gR 3 rfl ?_))
 refine Qo (α:=Nat) (fun k=>ls.length-k) (fun k=>[(6,.rs 5 (ls.map cLf)),(7,iv (ls.length:Int)),(8,iv (((k):Nat):Int)),(3,.sl 901 0 (k))]) (fun k=>[(901,.cells 9 1 (((ls.take (k)).map Xn).map cS) true)]) (fun k=>k<=ls.length) 0 (by omega)
  (Qb (.cs (.cs (.cs (.cons rfl (Xj rfl rfl) (.nil))))) (.virt rfl (.nil)) (fun i h=>by cases h)) ?_
 intro k hk
 refine gT 5 rfl (Qc rfl (fun h9=>?_) (fun h9=>?_))
 ·replace h9:=of_decide_eq_true h9
  refine gK 5 rfl ?_
  obtain ⟨x,hxk,hxm⟩:=Qk (L:=ls) (k:=k) (by omega)
  refine Qi (f:=cLf) (y:=x) rfl rfl rfl (by omega) hxk (gR 0 rfl (Q8 (cs:=cLf x) rfl rfl (nL rfl) rfl (gR 5 rfl (rs_ld_pa (cs:=cLf x) rfl rfl rfl rfl (nL rfl) rfl (gR 0 rfl (cN rfl rfl (vc62 x (hl.ok x hxm)) (gR 0 rfl (bM cS (([Xn x]:List (List Int))) (by kernel_rfl) (gR 0 rfl (Qq (f:=cS) (xs:=(ls.take k).map Xn) (y:=Xn x) (fl':=true) rfl rfl rfl rfl (by simp; omega) rfl rfl rfl (by decide) rfl (by omega) (by omega) rfl (gR 3 rfl ?_)))))))))))
  refine Qf rfl rfl rfl (by omega) (gR 2 rfl ?_)
  exact Qz <| ⟨k+1,by omega,by omega,QB (i:=16) (i':=901) (F1:=[(6,.rs 5 (ls.map cLf)),(7,iv (ls.length:Int)),(8,iv (((k+1):Nat):Int)),(3,.sl 16 0 (k+1))]) (H1:=[(16,.cells 9 1 (((ls.take (k+1)).map Xn).map cS) true)]) (Qa rfl rfl) (.keep (by rw [text_succ hxk]; rfl) rfl (.nil)) (fun i h=>by cases h) rfl rfl (.cons rfl (.same _) (.cons rfl (.same _) (.cons rfl (.same _) (.cons rfl (.sl _ _) (.nil))))) (Qa rfl rfl) (.keep rfl rfl .nil) nz⟩
 ·replace h9:=of_decide_eq_false h9
  refine gK 2 rfl ?_
  obtain rfl:k=ls.length:=by omega
  refine QH (F0:=[(3,.sl 901 0 ls.length)]) (H0:=[(901,.cells 9 1 ((ls.map Xn).map cS) true)]) (Qb (Qa rfl rfl) (.keep (by rw [List.take_of_length_le (Nat.le_refl _)]; rfl) rfl (.nil)) (fun i h=>by cases h)) (gK 2 rfl (QD [901] rfl rfl (vc63 (ls.map Xn) hl.texts (by simpa using hn)) (.cons (QW (f:=cS) (xs:=ls.map Xn) (by simp) rfl (by simp)) (.nil)) rfl (gR 3 rfl ?_)))
  exact rQ
end Go.Proofs.YthfhaoogcpfboaaGreat
namespace Go.Proofs.YthfhaoogcpfboaaGreat
open Go.RowKit
set_option maxRecDepth 100000
set_option linter.unusedVariables false
section
variable {P:Program} {N:Nat} {F:Fr} {H:Hp} {ml:List MOper} {K:List Fp->Fr->Hp->Prop} {g:Option (Nat×Bool)} {pre:List Nat}
theorem Xq {fa:Arg} {xs:List Arg} {vs cs vs':List AV} {f:FuncId} {dst:Option Nat} {r:AV} (Hs:Hp) {H':Hp} (hg:gOK F g=true) (hf:Qj F fa=some (.fn (.func f) cs)) (hent:entered P f=true) (hv:Ul F xs=some vs) (hfc:FC P f vs' Hs r H' true)
  (hh:HVs H Hs [] true (vs++cs) vs') (hsub:SubH H Hs) (hsc:scopedHs Hs=true) (hnew:newOk H Hs H'=true) (hdom:domOk Hs H'=true)
  (h:RS P N ml (putF F dst r) (H'++H) (fun fps=>K (([],Qh H')::fps))):RS P N (⟨dst,.callv fa xs,g,pre⟩::ml) F H K :=
 rs_callv hg hf hent hv hfc hh hsub.at_ hsc (newOk_spec hnew) (domOk_spec hdom) h
end
theorem fc_up {P:Program} {f:FuncId} {args:List AV} {H H':Hp} {r:AV} (h:FC P f args H r H' false):FC P f args H r H' true:=fun w S ρ c hH hv =>
 (h w S ρ c hH hv).mono fun e w' ⟨cv,S',ρ',q1,q2,q3,q4,q5,q6⟩=>⟨cv,S',ρ',q1,q2,q3,q4,fun b hb=>(q5 b hb).elim (fun h=>by cases h.1) .inr,q6⟩
def XY {α:Type} (p:α->Bool):List α->Nat->Int
 | [],_ => -1
 | x::l,k=>if p x=true then k else XY p l (k+1)
theorem Ut {α:Type} {p:α->Bool} {l:List α} {k:Nat} {x:α} (h:l[k]?=some x):XY p (l.drop k) k=if p x=true then (k:Int) else XY p (l.drop (k+1)) (k+1):=by
 obtain ⟨hk,e⟩:=List.getElem?_eq_some_iff.1 h
 rw [List.drop_eq_getElem_cons hk,e]; rfl
theorem JN {α:Type} {p:α->Bool} {l:List α} {k:Nat} (h:l.length<=k):XY p (l.drop k) k = -1:=by rw [List.drop_eq_nil_of_le h]; rfl
theorem idxS_any {α:Type} {p:α->Bool}:∀ (l:List α) (k:Nat),decide (0<=XY p l k)=l.any p
 | [],k=>rfl
 | x::l,k=>by
  unfold XY
  rw [List.any_cons]
  split
  ·rename_i h; rw [h]; simp
  ·rename_i h; rw [idxS_any l (k+1),Bool.eq_false_iff.2 h]; rfl
theorem JB {α:Type} {p:α->Bool} (l:List α):decide (XY p l 0 ≥ 0)=l.any p:=idxS_any l 0
theorem b8_id {n:Int} (h:0<=n/\n<256):IntKind.u8.wrap n=n:=by simp [IntKind.wrap,IntKind.bits,IntKind.signed]; omega
theorem u64_id {n:Int} (h:0<=n/\n<18446744073709551616):IntKind.u64.wrap n=n:=by simp [IntKind.wrap,IntKind.bits,IntKind.signed]; omega
def bl (n:Nat):Nat:=[0,1,2,2,3,3,3,3,4,4,4,4,4,4,4,4].getD n 0
abbrev cSp (s:Nat×Nat):List AV:=[.int .i64 (s.1:Int),.int .i64 (s.2:Int)]
def wS (n:Nat):Nat:=2^lg n
theorem bl_le (n:Nat) (h:n<16):bl n<=4:=by
 have:∀ n:Fin 16,bl n.val<=4:=by decide
 exact this ⟨n,h⟩
theorem whole_w {n:Nat} (h:1<=n/\n<=16):W ((1:Int)*2^min ((bl (n-1):Nat):Int).toNat 64)=((wS n:Nat):Int):=by
 have:∀ n:Fin 17,1<=n.val->W ((1:Int)*2^min ((bl (n.val-1):Nat):Int).toNat 64)=((wS n.val:Nat):Int):=by decide +kernel
 exact this ⟨n,by omega⟩ h.1
def mcv152:MC:=(sq [oN 2 (.mv (cI 0)) []] (.seq (sq [oM 3 0 [],oB 4 .geq 3 (.c (.int .u64 4294967296)) [0]] (.cond 4 (sq [oM 5 0 [],oB 6 .shr 5 (.c (.int .u64 32)) [0],oM 0 6 [1,0,1]] (rg [oN 2 (.mv (cI 32)) []])) .skip)) (.seq (sq [oM 7 0 [],oB 8 .geq 7 (.c (.int .u64 65536)) [0]] (.cond 8 (sq [oM 9 0 [],oB 10 .shr 9 (.c (.int .u64 16)) [0],oM 0 10 [1,0,1]] (rg [oM 11 2 [],oB 12 .add 11 (cI 16) [0],oM 2 12 [1,0,1]])) .skip)) (.seq (sq [oM 13 0 [],oB 14 .geq 13 (.c (.int .u64 256)) [0]] (.cond 14 (sq [oM 15 0 [],oB 16 .shr 15 (.c (.int .u64 8)) [0],oM 0 16 [1,0,1]] (rg [oM 17 2 [],oB 18 .add 17 (cI 8) [0],oM 2 18 [1,0,1]])) .skip)) (sq [oM 19 2 [],oM 20 0 [],oN 21 (.cvt .u8 20) [1],oN 22 (.sidx (.c (.str (strN [0,1,2,2,3,3,3,3,4,4,4,4,4,4,4,4,5,5,5,5,5,5,5,5,5,5,5,5,5,5,5,5,6,6,6,6,6,6,6,6,6,6,6,6,6,6,6,6,6,6,6,6,6,6,6,6,6,6,6,6,6,6,6,6,7,7,7,7,7,7,7,7,7,7,7,7,7,7,7,7,7,7,7,7,7,7,7,7,7,7,7,7,7,7,7,7,7,7,7,7,7,7,7,7,7,7,7,7,7,7,7,7,7,7,7,7,7,7,7,7,7,7,7,7,7,7,7,7,8,8,8,8,8,8,8,8,8,8,8,8,8,8,8,8,8,8,8,8,8,8,8,8,8,8,8,8,8,8,8,8,8,8,8,8,8,8,8,8,8,8,8,8,8,8,8,8,8,8,8,8,8,8,8,8,8,8,8,8,8,8,8,8,8,8,8,8,8,8,8,8,8,8,8,8,8,8,8,8,8,8,8,8,8,8,8,8,8,8,8,8,8,8,8,8,8,8,8,8,8,8,8,8,8,8,8,8,8,8,8,8,8,8,8,8,8,8,8,8,8,8,8,8,8,8,8,8]))) 21) [2],oN 23 (.cvt .i64 22) [3],oB 24 .add 19 23 [0,4],oM 2 24 (5::up 6)] .ret)))))
theorem mcOkv152:okM Tryz.prog Tryz.f152 25=some mcv152:=by kernel_rfl
theorem vc152 (n:Nat) (hn:n<16):FC Tryz.prog 152 [.int .u64 (n:Int)] [] (.int .i64 ((bl n:Nat):Int)) [] false:=by
 have hb:∀ n:Fin 16,([0,1,2,2,3,3,3,3,4,4,4,4,4,4,4,4,5,5,5,5,5,5,5,5,5,5,5,5,5,5,5,5,6,6,6,6,6,6,6,6,6,6,6,6,6,6,6,6,6,6,6,6,6,6,6,6,6,6,6,6,6,6,6,6,7,7,7,7,7,7,7,7,7,7,7,7,7,7,7,7,7,7,7,7,7,7,7,7,7,7,7,7,7,7,7,7,7,7,7,7,7,7,7,7,7,7,7,7,7,7,7,7,7,7,7,7,7,7,7,7,7,7,7,7,7,7,7,7,8,8,8,8,8,8,8,8,8,8,8,8,8,8,8,8,8,8,8,8,8,8,8,8,8,8,8,8,8,8,8,8,8,8,8,8,8,8,8,8,8,8,8,8,8,8,8,8,8,8,8,8,8,8,8,8,8,8,8,8,8,8,8,8,8,8,8,8,8,8,8,8,8,8,8,8,8,8,8,8,8,8,8,8,8,8,8,8,8,8,8,8,8,8,8,8,8,8,8,8,8,8,8,8,8,8,8,8,8,8,8,8,8,8,8,8,8,8,8,8,8,8,8,8,8,8,8,8]:List Int)[n.val]?=some ((bl n.val:Nat):Int):=by decide +kernel
 have hbn:=hb ⟨n,hn⟩
 clear hb
 have hb4:=bl_le n hn
 refine Qg (nt:=25) Tryz.func152 rfl rfl mcOkv152 (nL rfl) ?_
 delta mcv152
 refine gA 8 rfl (Qp rfl rfl rfl rfl (by omega) (gR 7 rfl (Qp rfl rfl rfl rfl (by omega) (gR 7 rfl (Qp rfl rfl rfl rfl (by omega) (gR 7 rfl (Xc (n:=(n:Int)) rfl rfl (b8_id (by omega)) (gR 0 rfl (rs_sidx (y:=((bl n:Nat):Int)) rfl rfl rfl (by omega) hbn (by omega) (gR 0 rfl (Xc rfl rfl (QU (by omega)) ?_)))))))))))
 refine gR 0 rfl (QS (c:=((bl n:Nat):Int)) rfl rfl rfl (by rw [show (0:Int)+((bl n:Nat):Int)=((bl n:Nat):Int) by omega]; exact QU (by omega)) (gR 3 rfl ?_))
 exact rQ
def mcv124:MC:=(sq [oN 2 (.mv (cI 0)) []] (.seq (.cond (.c (.bool false)) (sq [oM 3 0 [],oN 4 (.cvt .u32 3) [0],oC 5 151 [4] [1],oM 2 5 [2,2,0,1,2]] .ret) .skip) (sq [oM 6 0 [],oC 7 152 [6] [0],oM 2 7 [1,1,0,1]] .ret)))
theorem mcOkv124:okM Tryz.prog Tryz.f124 8=some mcv124:=by kernel_rfl
theorem vc124 (n:Nat) (hn:n<16):FC Tryz.prog 124 [.int .u64 (n:Int)] [] (.int .i64 ((bl n:Nat):Int)) [] false:=by
 refine Qg (nt:=8) Tryz.func124 rfl rfl mcOkv124 (nL rfl) ?_
 delta mcv124
 refine gA 10 rfl (cN rfl rfl (vc152 n hn) (gR 3 rfl ?_))
 exact rQ
def mcv75:MC:=(sq [oN 2 (.alloc 110 2 (iz 2)) []] (sq [oM 3 0 [],oB 4 .sub 3 (cI 1) [0],oN 5 (.cvt .u64 4) [1],oC 6 124 [5] [2],oB 7 .shl (cI 1) 6 [3],oN 8 (.build (iz 2) [(0,1,(cI 0)),(1,1,7)]) [4],oS 2 2 8 (5::3::up 6)] .ret))
theorem mcOkv75:okM Tryz.prog Tryz.f75 9=some mcv75:=by kernel_rfl
theorem vc75 (n:Nat) (hn:1<=n/\n<=16):FC Tryz.prog 75 [.int .i64 (n:Int)] [] (.agg (cSp (0,wS n))) [] false:=by
 refine Qg (nt:=9) Tryz.func75 rfl rfl mcOkv75 (nL rfl) ?_
 delta mcv75
 refine gA 7 rfl (rs_sub rfl rfl rfl (by omega) (gR 0 rfl (Xc (m:=((n-1:Nat):Int)) rfl rfl (by rw [u64_id (by omega)]; omega) (gR 0 rfl (cN rfl rfl (vc124 (n-1) (by omega)) (gR 0 rfl (rs_shl rfl rfl rfl (by omega) (whole_w hn) (gR 4 rfl ?_))))))))
 exact rQ
def mcv118:MC:=(sq [oN 1 (.box 110 2 0) [],oN 2 (.mv (.c .nilf)) []] (sq [oN 3 (.mkfn (.func 149) [1]) [],oM 2 3 [0,0]] .ret))
theorem mcOkv118:okM Tryz.prog Tryz.f118 4=some mcv118:=by kernel_rfl
theorem vc118 (s:Nat×Nat):FC Tryz.prog 118 [.agg (cSp s)] [] (.fn (.func 149) [.rp (cSp s)]) [] true:=by
 refine Qg (nt:=4) Tryz.func118 rfl rfl mcOkv118 (nL rfl) ?_
 delta mcv118
 refine gA 11 rfl ?_
 exact Qt <| Ql rfl (rc_fnr (.cons (Jc rfl rfl (.inl rfl)) .nil)) .nil
end Go.Proofs.YthfhaoogcpfboaaGreat
namespace Go.Proofs.YthfhaoogcpfboaaGreat
open Go.RowKit
set_option maxRecDepth 100000
set_option linter.unusedVariables false
abbrev cP (b m:Nat):List AV:=[.int .i64 (b:Int),.int .i64 (m:Int)]
theorem addNW {a b:Nat} (h:a+b<=1000):W ((a:Int)+(b:Int))=((a+b:Nat):Int):=by rw [QU (by omega)]; omega
def inSp (s:Nat×Nat) (k:Int):Bool:=decide ((s.1:Int)<=k)&&decide (k<((s.1+s.2:Nat):Int))
def Um (n:Nat) (k:Int):Bool:=decide (k<0)||decide ((n:Int)<=k)
def hid1 (n:Nat) (w:List Int) (b d:Nat) (rest:List (Nat×Nat)):List (Nat×Nat):=if n<=b then [] else if w.any (inSp (b,2^d))=true then rest else [(b,2^d)]
def QG (n:Nat) (w:List Int):Nat->Nat->List (Nat×Nat)
 | 0,b=>hid1 n w b 0 []
 | d+1,b=>hid1 n w b (d+1) (QG n w d b++QG n w d (b+2^d))
theorem hid1_len {n:Nat} {w:List Int} {b d m:Nat} {r:List (Nat×Nat)} (h:r.length<=m) (hm:1<=m):(hid1 n w b d r).length<=m:=by
 unfold hid1
 split
 ·simp
 ·split
  ·exact h
  ·exact hm
theorem pow2 (d:Nat):2^(d+1)=2*2^d:=by rw [Nat.pow_succ,Nat.mul_comm]
theorem hidS_len (n:Nat) (w:List Int):∀ d b,(QG n w d b).length<=2^d
 | 0,b=>hid1_len (by simp) (Nat.le_refl _)
 | d+1,b=>hid1_len (by have h1:=hidS_len n w d b; have h2:=hidS_len n w d (b+2^d); have:=pow2 d; rw [List.length_append]; omega) (Nat.one_le_two_pow)
def mcv117:MC:=(sq [oN 2 (.box 110 2 0) [],oN 4 (.mv (.c (.bool false))) []] (sq [oM 5 1 [],oA 6 0 2 [],oD 7 1 6 [1],oB 8 .geq 5 7 [0,2],oM 9 8 [3],pM 10 1 9 true [4],pA 11 0 2 9 true [4],pD 12 1 11 9 true [6,4],pA 13 1 2 9 true [4],pD 14 1 13 9 true [8,4],oG 15 (.bin .add 12 14) 9 true [7,9,4],oG 16 (.bin .lss 10 15) 9 true [5,10,4],oN 17 (.pick 9 16 (.c (.bool false))) [4,11],oM 4 17 (12::4::up 13)] .ret))
theorem mcOkv117:okM Tryz.prog Tryz.f117 18=some mcv117:=by kernel_rfl
theorem vc117 (b m:Nat) (k:Int) (hs:b+m<=1000):FC Tryz.prog 117 [.agg (cP b m),.int .i64 k] [] (.bool (inSp (b,m) k)) [] false:=by
 refine Qg (nt:=18) Tryz.func117 rfl rfl mcOkv117 (nL rfl) ?_
 delta mcv117
 refine gA 10 rfl (Qx rfl rfl rfl rfl (fun h8=>?_) (fun h8=>?_))
 ·skip
  refine gR 6 rfl (Qf rfl rfl rfl (by omega) (gR 0 rfl (Qx rfl rfl rfl rfl (fun h16=>?_) (fun h16=>?_))))
  ·skip
   refine gR 4 rfl ?_
   rw [show inSp (b,m) k=true from by simp only [inSp,Bool.and_eq_true,decide_eq_true_eq]; omega]
   exact rQ
  ·skip
   refine gR 4 rfl ?_
   rw [show inSp (b,m) k=false from by simp only [inSp,Bool.and_eq_false_iff,decide_eq_false_iff_not]; omega]
   exact rQ
 ·skip
  refine gR 12 rfl ?_
  rw [show inSp (b,m) k=false from by simp only [inSp,Bool.and_eq_false_iff,decide_eq_false_iff_not]; omega]
  exact rQ
def mcv66:MC:=(sq [oN 3 (.mv (.c (.bool false))) []] (sq [oM 4 0 [],oB 5 .lss 4 (cI 0) [0],oM 6 5 [1],pM 7 0 6 false [2],pD 8 1 1 6 false [2],oG 9 (.bin .geq 7 8) 6 false [3,4,2],oN 10 (.pick 6 (.c (.bool true)) 9) [2,5],oM 3 10 (6::2::up 7)] .ret))
theorem mcOkv66:okM Tryz.prog Tryz.f66 11=some mcv66:=by kernel_rfl
theorem vc66 (n:Nat) (k:Int):FC Tryz.prog 66 [.int .i64 k,.rp [iv (n:Int)]] [] (.bool (Um n k)) [] false:=by
 refine Qg (nt:=11) Tryz.func66 rfl rfl mcOkv66 (nL rfl) ?_
 delta mcv66
 refine gA 7 rfl (Qx rfl rfl rfl rfl (fun h5=>?_) (fun h5=>?_))
 ·skip
  refine gR 8 rfl ?_
  rw [show Um n k=true from by simp only [Um,Bool.or_eq_true,decide_eq_true_eq]; omega]
  exact rQ
 ·skip
  refine gR 3 rfl (Qx rfl rfl rfl rfl (fun h9=>?_) (fun h9=>?_))
  ·skip
   refine gR 4 rfl ?_
   rw [show Um n k=true from by simp only [Um,Bool.or_eq_true,decide_eq_true_eq]; omega]
   exact rQ
  ·skip
   refine gR 4 rfl ?_
   rw [show Um n k=false from by simp only [Um,Bool.or_eq_false_iff,decide_eq_false_iff_not]; omega]
   exact rQ
def mcv115:MC:=(sq [oN 4 (.mv (cI 0)) []] (.seq (sq [oM 6 0 [],oE 7 6 [0],oN 8 (.mv (cI 0)) []] (.block 0 (.loop (sq [oB 9 .lss 8 7 []] (.seq (.cond 9 .skip (.exit 0)) (.seq (.block 1 (sq [oM 10 8 [],oM 5 10 [0,0]] (sq [oM 11 1 [],oM 12 0 [],oM 13 5 [],oX 14 1 12 13 [1,2],oD 15 1 14 [3],oN 16 (.callv 11 [15]) [0,4]] (.cond 16 (sq [oM 17 5 [],oM 4 17 [0,0]] .ret) .skip)))) (rg [oB 18 .add 8 (cI 1) [],oM 8 18 [0]]))))))) (sq [oN 4 (.mv (cI (-1))) []] .ret)))
theorem mcOkv115:okM Tryz.prog Tryz.f115 19=some mcv115:=by kernel_rfl
theorem vcI_has (b m:Nat) (hs:b+m<=1000) (xs:List Int) (hxn:xs.length<=4611686018427387904):FC Tryz.prog 115 [.rs 1 (xs.map civ),(.bnd (.func 117) (.agg (cP b m)))] [] (.int .i64 (XY (inSp (b,m)) xs 0)) [] false:=by
 refine Qg (nt:=19) Tryz.func115 rfl rfl mcOkv115 (nL rfl) ?_
 delta mcv115
 refine gA 8 rfl (Qe rfl rfl (gR 3 rfl ?_))
 refine Qo (α:=Nat) (fun k=>xs.length-k) (fun k=>[(0,.rs 1 (xs.map civ)),(1,(.bnd (.func 117) (.agg (cP b m)))),(6,.rs 1 (xs.map civ)),(7,iv (xs.length:Int)),(8,iv (((k):Nat):Int))]) (fun k=>[]) (fun k=>k<=xs.length/\XY (inSp (b,m)) (xs.drop k) k=XY (inSp (b,m)) xs 0) 0 (⟨by omega,rfl⟩)
  (Qb (Qa rfl rfl) (.nil) (fun i h=>by cases h)) ?_
 rintro k ⟨hk,hinv⟩
 refine gT 5 rfl (Qc rfl (fun h9=>?_) (fun h9=>?_))
 ·replace h9:=of_decide_eq_true h9
  refine gK 13 rfl ?_
  obtain ⟨x,hxk,hxm⟩:=Qk (L:=xs) (k:=k) (by omega)
  rw [Ut hxk] at hinv
  refine Qi (f:=civ) (y:=x) rfl rfl rfl (by omega) hxk (gR 1 rfl (rs_callb [] rfl rfl (by kernel_rfl) rfl (fc_up (vc117 b m x hs)) (.cons (Qd rfl) (.cons (Qd rfl) .nil)) .nil rfl rfl rfl ?_))
  cases h16:(inSp (b,m)) x
  ·skip
   refine gR 4 rfl (Qf rfl rfl rfl (by omega) (gR 2 rfl ?_))
   rw [h16] at hinv
   exact Qz <| ⟨k+1,⟨by omega,hinv⟩,by omega,Qb (Qa rfl rfl) (.nil) (fun i h=>by cases h)⟩
  ·skip
   refine gR 8 rfl ?_
   rw [h16] at hinv
   rw [← hinv]
   exact rQ
 ·replace h9:=of_decide_eq_false h9
  refine gK 6 rfl ?_
  rw [JN (by omega)] at hinv
  rw [← hinv]
  exact rQ
def mcv65:MC:=(sq [oN 4 (.mv (.c (.bool false))) []] (sq [oM 5 0 [],oM 6 1 [],oC 7 115 [5,6] [0,1],oB 8 .geq 7 (cI 0) [2],oM 4 8 (3::2::up 4)] .ret))
theorem mcOkv65:okM Tryz.prog Tryz.f65 9=some mcv65:=by kernel_rfl
theorem vcC_has (b m:Nat) (hs:b+m<=1000) (xs:List Int) (hxn:xs.length<=4611686018427387904):FC Tryz.prog 65 [.rs 1 (xs.map civ),(.bnd (.func 117) (.agg (cP b m)))] [] (.bool (xs.any (inSp (b,m)))) [] false:=by
 refine Qg (nt:=9) Tryz.func65 rfl rfl mcOkv65 (nL rfl) ?_
 delta mcv65
 refine gA 8 rfl (cN rfl rfl (vcI_has b m hs xs hxn) (gR 0 rfl (XZ rfl rfl rfl (gR 3 rfl ?_))))
 rw [← JB]
 exact rQ
theorem vcI_out (n:Nat) (xs:List Int) (hxn:xs.length<=4611686018427387904):FC Tryz.prog 115 [.rs 1 (xs.map civ),(.fn (.func 66) [.rp [iv (n:Int)]])] [] (.int .i64 (XY (Um n) xs 0)) [] false:=by
 refine Qg (nt:=19) Tryz.func115 rfl rfl mcOkv115 (nL rfl) ?_
 delta mcv115
 refine gA 8 rfl (Qe rfl rfl (gR 3 rfl ?_))
 refine Qo (α:=Nat) (fun k=>xs.length-k) (fun k=>[(0,.rs 1 (xs.map civ)),(1,(.fn (.func 66) [.rp [iv (n:Int)]])),(6,.rs 1 (xs.map civ)),(7,iv (xs.length:Int)),(8,iv (((k):Nat):Int))]) (fun k=>[]) (fun k=>k<=xs.length/\XY (Um n) (xs.drop k) k=XY (Um n) xs 0) 0 (⟨by omega,rfl⟩)
  (Qb (Qa rfl rfl) (.nil) (fun i h=>by cases h)) ?_
 rintro k ⟨hk,hinv⟩
 refine gT 5 rfl (Qc rfl (fun h9=>?_) (fun h9=>?_))
 ·replace h9:=of_decide_eq_true h9
  refine gK 13 rfl ?_
  obtain ⟨x,hxk,hxm⟩:=Qk (L:=xs) (k:=k) (by omega)
  rw [Ut hxk] at hinv
  refine Qi (f:=civ) (y:=x) rfl rfl rfl (by omega) hxk (gR 1 rfl (Xq [] rfl rfl (by kernel_rfl) rfl (fc_up (vc66 n x)) (.cons (Qd rfl) (.cons (Qd rfl) (.nil))) .nil rfl rfl rfl ?_))
  cases h16:(Um n) x
  ·skip
   refine gR 4 rfl (Qf rfl rfl rfl (by omega) (gR 2 rfl ?_))
   rw [h16] at hinv
   exact Qz <| ⟨k+1,⟨by omega,hinv⟩,by omega,Qb (Qa rfl rfl) (.nil) (fun i h=>by cases h)⟩
  ·skip
   refine gR 8 rfl ?_
   rw [h16] at hinv
   rw [← hinv]
   exact rQ
 ·replace h9:=of_decide_eq_false h9
  refine gK 6 rfl ?_
  rw [JN (by omega)] at hinv
  rw [← hinv]
  exact rQ
theorem vcC_out (n:Nat) (xs:List Int) (hxn:xs.length<=4611686018427387904):FC Tryz.prog 65 [.rs 1 (xs.map civ),(.fn (.func 66) [.rp [iv (n:Int)]])] [] (.bool (xs.any (Um n))) [] false:=by
 refine Qg (nt:=9) Tryz.func65 rfl rfl mcOkv65 (nL rfl) ?_
 delta mcv65
 refine gA 8 rfl (cN rfl rfl (vcI_out n xs hxn) (gR 0 rfl (XZ rfl rfl rfl (gR 3 rfl ?_))))
 rw [← JB]
 exact rQ
def as116:MC:=(rg [oN 6 (.alloc 110 2 (iz 2)) [],oS 2 6 28 [0,0]])
def bd116:MC:=(.block 2 (rg [oD 29 1 4 [],oL 30 2 6 [],oN 31 (.callv 29 [30]) [0,1]]))
theorem as116w (n:Nat) (hn:n<=16) (w:List Int) (hw:w.length<=4611686018427387904) (d b c:Nat) (l:List (Nat×Nat)) (hc:c+2^d<=64) (hl:l.length+2^d<=500) (o:Loop) (lb:Nat):AW Tryz.prog 32 [900,1005,903,1006] (some lb) as116 (fun e F' H'=>e = .normal/\Weak 32 [900,1005,903,1006] F' H' [(6,.ptr 6 0 0),(4,.ptr 1006 0 0)] [(900,.lp o [(27,.fn (.func 149) [.rp (cP b (2^(d+1)))]),(4,.ptr 1006 0 0)]),(1005,.cells 107 1 [[.sl 903 0 (l).length]] false),(903,.cells 110 2 ((l).map cSp) true),(1006,.cells 154 1 [[(.fn (.func 116) [.rp [iv (n:Int)],.rp [.rs 1 (w.map civ)],.ptr 1005 0 0,.ptr 1006 0 0])]] false),(6,.cells 110 2 [cP c (2^d)] true)]) [(28,.agg (cP c (2^d))),(27,.fn (.func 149) [.rp (cP b (2^(d+1)))]),(4,.ptr 1006 0 0)] [(900,.lp o [(27,.fn (.func 149) [.rp (cP b (2^(d+1)))]),(4,.ptr 1006 0 0)]),(1005,.cells 107 1 [[.sl 903 0 (l).length]] false),(903,.cells 110 2 ((l).map cSp) true),(1006,.cells 154 1 [[(.fn (.func 116) [.rp [iv (n:Int)],.rp [.rs 1 (w.map civ)],.ptr 1005 0 0,.ptr 1006 0 0])]] false)]:=by
 delta as116
 refine gA 4 rfl ?_
 exact Qt <| ⟨rfl,Qb (Qa rfl rfl) (kS rfl rfl) (fun i hi=>by simp [Qh] at hi ⊢; omega)⟩
theorem bd116w (n:Nat) (hn:n<=16) (w:List Int) (hw:w.length<=4611686018427387904) (d b c:Nat) (l:List (Nat×Nat)) (hc:c+2^d<=64) (hl:l.length+2^d<=500) (ih:∀ (c:Nat) (l:List (Nat×Nat)),c+2^d<=64->l.length+2^d<=500->FC Tryz.prog 116 [.agg (cP (c) (2^(d))),.rp [iv (n:Int)],.rp [.rs 1 (w.map civ)],.ptr 1005 0 0,.ptr 1006 0 0] [(1005,.cells 107 1 [[.sl 905 0 (l).length]] false),(905,.cells 110 2 ((l).map cSp) true),(1006,.cells 154 1 [[(.fn (.func 116) [.rp [iv (n:Int)],.rp [.rs 1 (w.map civ)],.ptr 1005 0 0,.ptr 1006 0 0])]] false)] (.tup []) [(1005,.cells 107 1 [[.sl 906 0 (l++QG n w d c).length]] false),(906,.cells 110 2 ((l++QG n w d c).map cSp) true),(1006,.cells 154 1 [[(.fn (.func 116) [.rp [iv (n:Int)],.rp [.rs 1 (w.map civ)],.ptr 1005 0 0,.ptr 1006 0 0])]] false),(905,.dead)] true) (o:Loop) (lb:Nat):AW Tryz.prog 32 [900,1005,903,1006] (some lb) bd116 (fun e F' H'=>e = .normal/\Weak 32 [900,1005,903,1006] F' H' [] [(900,.lp o [(27,.fn (.func 149) [.rp (cP b (2^(d+1)))]),(4,.ptr 1006 0 0)]),(1005,.cells 107 1 [[.sl 904 0 (l++QG n w d c).length]] false),(904,.cells 110 2 ((l++QG n w d c).map cSp) true),(1006,.cells 154 1 [[(.fn (.func 116) [.rp [iv (n:Int)],.rp [.rs 1 (w.map civ)],.ptr 1005 0 0,.ptr 1006 0 0])]] false),(903,.dead)]) [(6,.ptr 6 0 0),(4,.ptr 1006 0 0)] [(900,.lp o [(27,.fn (.func 149) [.rp (cP b (2^(d+1)))]),(4,.ptr 1006 0 0)]),(1005,.cells 107 1 [[.sl 903 0 (l).length]] false),(903,.cells 110 2 ((l).map cSp) true),(1006,.cells 154 1 [[(.fn (.func 116) [.rp [iv (n:Int)],.rp [.rs 1 (w.map civ)],.ptr 1005 0 0,.ptr 1006 0 0])]] false),(6,.cells 110 2 [cP c (2^d)] true)]:=by
 delta bd116
 refine gA 1 rfl (QH (F0:=[(6,.ptr 6 0 0),(4,.ptr 1006 0 0)]) (H0:=[(900,.lp o [(27,.fn (.func 149) [.rp (cP b (2^(d+1)))]),(4,.ptr 1006 0 0)]),(1005,.cells 107 1 [[.sl 905 0 (l).length]] false),(905,.cells 110 2 ((l).map cSp) true),(1006,.cells 154 1 [[(.fn (.func 116) [.rp [iv (n:Int)],.rp [.rs 1 (w.map civ)],.ptr 1005 0 0,.ptr 1006 0 0])]] false),(6,.cells 110 2 [cP c (2^d)] true),(903,.dead)]) (Weak.trans (F1:=[(6,.ptr 6 0 0),(4,.ptr 1006 0 0)]) (H1:=[(900,.lp o [(27,.fn (.func 149) [.rp (cP b (2^(d+1)))]),(4,.ptr 1006 0 0)]),(1005,.cells 107 1 [[.sl 903 0 (l).length]] false),(903,.cells 110 2 ((l).map cSp) true),(1006,.cells 154 1 [[(.fn (.func 116) [.rp [iv (n:Int)],.rp [.rs 1 (w.map civ)],.ptr 1005 0 0,.ptr 1006 0 0])]] false),(6,.cells 110 2 [cP c (2^d)] true)]) (Qb (Qa rfl rfl) (kS rfl rfl) (fun i hi=>by simp [Qh] at hi ⊢; omega)) (Weak.trans (F1:=[(6,.ptr 6 0 0),(4,.ptr 1006 0 0)]) (Q2 (i:=903) (i':=905) (k:=1005) rfl rfl (.cons rfl (.same _) (.cons rfl (.same _) (.nil))) (by decide) rfl (.sl _ _)) (Qb (Qa rfl rfl) (kS rfl rfl) (fun i hi=>by simp [Qh] at hi ⊢; omega)))) (gK 3 rfl (Xq [(1005,.cells 107 1 [[.sl 905 0 (l).length]] false),(905,.cells 110 2 ((l).map cSp) true),(1006,.cells 154 1 [[(.fn (.func 116) [.rp [iv (n:Int)],.rp [.rs 1 (w.map civ)],.ptr 1005 0 0,.ptr 1006 0 0])]] false)] rfl rfl (by kernel_rfl) rfl (ih c l hc hl) (.cons (Qd rfl) (.cons (Qd rfl) (.cons (Qd rfl) (.cons (Qd rfl) (.cons (Qd rfl) (.nil)))))) (.cons rfl (.cons rfl (.cons rfl .nil))) rfl rfl rfl (gR 1 rfl ?_))))
 exact Qt <| ⟨rfl,(Weak.trans (F1:=[]) (H1:=[(900,.lp o [(27,.fn (.func 149) [.rp (cP b (2^(d+1)))]),(4,.ptr 1006 0 0)]),(1005,.cells 107 1 [[.sl 906 0 (l++QG n w d c).length]] false),(906,.cells 110 2 ((l++QG n w d c).map cSp) true),(1006,.cells 154 1 [[(.fn (.func 116) [.rp [iv (n:Int)],.rp [.rs 1 (w.map civ)],.ptr 1005 0 0,.ptr 1006 0 0])]] false),(903,.dead)]) (Qb (.nil) (kS rfl rfl) (fun i hi=>by simp [Qh] at hi ⊢; omega)) (Weak.trans (F1:=[]) (Q2 (i:=906) (i':=904) (k:=1005) rfl rfl (.nil) (by decide) rfl (.sl _ _)) (Qb (.nil) (kS rfl rfl) (fun i hi=>by simp [Qh] at hi ⊢; omega))))⟩
theorem y116 (n:Nat) (hn:n<=16) (w:List Int) (hw:w.length<=4611686018427387904) (d b c:Nat) (l:List (Nat×Nat)) (hc:c+2^d<=64) (hl:l.length+2^d<=500) (ih:∀ (c:Nat) (l:List (Nat×Nat)),c+2^d<=64->l.length+2^d<=500->FC Tryz.prog 116 [.agg (cP (c) (2^(d))),.rp [iv (n:Int)],.rp [.rs 1 (w.map civ)],.ptr 1005 0 0,.ptr 1006 0 0] [(1005,.cells 107 1 [[.sl 905 0 (l).length]] false),(905,.cells 110 2 ((l).map cSp) true),(1006,.cells 154 1 [[(.fn (.func 116) [.rp [iv (n:Int)],.rp [.rs 1 (w.map civ)],.ptr 1005 0 0,.ptr 1006 0 0])]] false)] (.tup []) [(1005,.cells 107 1 [[.sl 906 0 (l++QG n w d c).length]] false),(906,.cells 110 2 ((l++QG n w d c).map cSp) true),(1006,.cells 154 1 [[(.fn (.func 116) [.rp [iv (n:Int)],.rp [.rs 1 (w.map civ)],.ptr 1005 0 0,.ptr 1006 0 0])]] false),(905,.dead)] true) (r0:Loop) (h:Rec0 Tryz.prog 32 [28] as116 bd116 r0) :
  FCg (Js Tryz.prog) [.yl 900,.agg (cP c (2^d))] [(900,.lp r0 [(27,.fn (.func 149) [.rp (cP b (2^(d+1)))]),(4,.ptr 1006 0 0)]),(1005,.cells 107 1 [[.sl 903 0 (l).length]] false),(903,.cells 110 2 ((l).map cSp) true),(1006,.cells 154 1 [[(.fn (.func 116) [.rp [iv (n:Int)],.rp [.rs 1 (w.map civ)],.ptr 1005 0 0,.ptr 1006 0 0])]] false)] (.bool true) [(900,.lp r0 [(27,.fn (.func 149) [.rp (cP b (2^(d+1)))]),(4,.ptr 1006 0 0)]),(1005,.cells 107 1 [[.sl 904 0 (l++QG n w d c).length]] false),(904,.cells 110 2 ((l++QG n w d c).map cSp) true),(1006,.cells 154 1 [[(.fn (.func 116) [.rp [iv (n:Int)],.rp [.rs 1 (w.map civ)],.ptr 1005 0 0,.ptr 1006 0 0])]] false),(903,.dead)] true:=by
 have:=round_yield (P:=Tryz.prog) (F:=[(27,.fn (.func 149) [.rp (cP b (2^(d+1)))]),(4,.ptr 1006 0 0)]) (N:=32) (x:=as116) (y:=bd116) h.ca h.cb (li:=900) (ps:=[28]) (vs:=[.agg (cP c (2^d))]) (J:=[(1005,.cells 107 1 [[.sl 903 0 (l).length]] false),(903,.cells 110 2 ((l).map cSp) true),(1006,.cells 154 1 [[(.fn (.func 116) [.rp [iv (n:Int)],.rp [.rs 1 (w.map civ)],.ptr 1005 0 0,.ptr 1006 0 0])]] false)]) (J1:=[(1005,.cells 107 1 [[.sl 903 0 (l).length]] false),(903,.cells 110 2 ((l).map cSp) true),(1006,.cells 154 1 [[(.fn (.func 116) [.rp [iv (n:Int)],.rp [.rs 1 (w.map civ)],.ptr 1005 0 0,.ptr 1006 0 0])]] false),(6,.cells 110 2 [cP c (2^d)] true)]) (J':=[(1005,.cells 107 1 [[.sl 904 0 (l++QG n w d c).length]] false),(904,.cells 110 2 ((l++QG n w d c).map cSp) true),(1006,.cells 154 1 [[(.fn (.func 116) [.rp [iv (n:Int)],.rp [.rs 1 (w.map civ)],.ptr 1005 0 0,.ptr 1006 0 0])]] false),(903,.dead)]) (Fb:=[(6,.ptr 6 0 0),(4,.ptr 1006 0 0)]) (Z0:=[900,1005,903,1006]) .normal none (.inl ⟨rfl,rfl⟩)
  rfl rfl (fun i hi=>QE.1 hi) (by simp) (fun i h=>QE.2 h) (fun i hi=>QE.1 (by simp [Qh] at hi ⊢; omega)) h.state h.params rfl rfl h.size (fun t v h=>get_mem h) (fun lb o=>as116w n hn w hw d b c l hc hl o lb) (fun lb o=>bd116w n hn w hw d b c l hc hl ih o lb)
 rw [rec_same h.state h.pending] at this
 exact this
def mcv149:MC:=(sq [oA 4 1 1 [],oD 5 1 4 [0],oB 6 .quo 5 (cI 2) [1],oM 3 6 [2,0,1,2]] (sq [oM 7 0 [],oA 8 0 1 [],oD 9 1 8 [1],oM 10 3 [],oN 11 (.build (iz 2) [(0,1,9),(1,1,10)]) [2,3],oN 12 (.callv 7 [11]) [0,4]] (.cond 12 (rg [oM 13 0 [],oA 14 0 1 [],oD 15 1 14 [1],oM 16 3 [],oB 17 .add 15 16 [2,3],oM 18 3 [],oN 19 (.build (iz 2) [(0,1,17),(1,1,18)]) [4,5],oN 20 (.callv 13 [19]) [0,6]]) .skip)))
theorem mcOkv149:okM Tryz.prog Tryz.f149 21=some mcv149:=by kernel_rfl
theorem vc149h (n:Nat) (hn:n<=16) (w:List Int) (hw:w.length<=4611686018427387904) (d b:Nat) (l:List (Nat×Nat)) (hb:b+2^(d+1)<=64) (hl:l.length+2^(d+1)<=500) (r0:Loop) (hy:∀ (c:Nat) (l:List (Nat×Nat)),c+2^d<=64->l.length+2^d<=500->FCg (Js Tryz.prog) [.yl 900,.agg (cP c (2^d))] [(900,.lp r0 [(27,.fn (.func 149) [.rp (cP b (2^(d+1)))]),(4,.ptr 1006 0 0)]),(1005,.cells 107 1 [[.sl 903 0 (l).length]] false),(903,.cells 110 2 ((l).map cSp) true),(1006,.cells 154 1 [[(.fn (.func 116) [.rp [iv (n:Int)],.rp [.rs 1 (w.map civ)],.ptr 1005 0 0,.ptr 1006 0 0])]] false)] (.bool true) [(900,.lp r0 [(27,.fn (.func 149) [.rp (cP b (2^(d+1)))]),(4,.ptr 1006 0 0)]),(1005,.cells 107 1 [[.sl 904 0 (l++QG n w d c).length]] false),(904,.cells 110 2 ((l++QG n w d c).map cSp) true),(1006,.cells 154 1 [[(.fn (.func 116) [.rp [iv (n:Int)],.rp [.rs 1 (w.map civ)],.ptr 1005 0 0,.ptr 1006 0 0])]] false),(903,.dead)] true):FC Tryz.prog 149 [.yl 900,.rp (cP b (2^(d+1)))] [(900,.lp r0 [(27,.fn (.func 149) [.rp (cP b (2^(d+1)))]),(4,.ptr 1006 0 0)]),(1005,.cells 107 1 [[.sl 901 0 (l).length]] false),(901,.cells 110 2 ((l).map cSp) true),(1006,.cells 154 1 [[(.fn (.func 116) [.rp [iv (n:Int)],.rp [.rs 1 (w.map civ)],.ptr 1005 0 0,.ptr 1006 0 0])]] false)] (.tup []) [(900,.lp r0 [(27,.fn (.func 149) [.rp (cP b (2^(d+1)))]),(4,.ptr 1006 0 0)]),(1005,.cells 107 1 [[.sl 903 0 (l++QG n w d b++QG n w d (b+2^d)).length]] false),(903,.cells 110 2 ((l++QG n w d b++QG n w d (b+2^d)).map cSp) true),(1006,.cells 154 1 [[(.fn (.func 116) [.rp [iv (n:Int)],.rp [.rs 1 (w.map civ)],.ptr 1005 0 0,.ptr 1006 0 0])]] false),(901,.dead)] true:=by
 have hpw:=pow2 d
 have h1l:=hidS_len n w d b
 have h2l:(l++QG n w d b).length=l.length+(QG n w d b).length:=List.length_append
 refine Qg (nt:=21) Tryz.func149 rfl rfl mcOkv149 (nL rfl) ?_
 delta mcv149
 refine aw_post (gA 4 rfl (QR rfl rfl rfl (by decide) (quo2W hpw (by omega)) (gR 3 rfl (QH (F0:=[(0,.yl 900),(1,.rp (cP b (2^(d+1)))),(3,iv ((2^d:Nat):Int))]) (H0:=[(900,.lp r0 [(27,.fn (.func 149) [.rp (cP b (2^(d+1)))]),(4,.ptr 1006 0 0)]),(1005,.cells 107 1 [[.sl 903 0 (l).length]] false),(903,.cells 110 2 ((l).map cSp) true),(1006,.cells 154 1 [[(.fn (.func 116) [.rp [iv (n:Int)],.rp [.rs 1 (w.map civ)],.ptr 1005 0 0,.ptr 1006 0 0])]] false),(901,.dead)]) (Weak.trans (F1:=[(0,.yl 900),(1,.rp (cP b (2^(d+1)))),(3,iv ((2^d:Nat):Int))]) (H1:=[(900,.lp r0 [(27,.fn (.func 149) [.rp (cP b (2^(d+1)))]),(4,.ptr 1006 0 0)]),(1005,.cells 107 1 [[.sl 901 0 (l).length]] false),(901,.cells 110 2 ((l).map cSp) true),(1006,.cells 154 1 [[(.fn (.func 116) [.rp [iv (n:Int)],.rp [.rs 1 (w.map civ)],.ptr 1005 0 0,.ptr 1006 0 0])]] false)]) (Qb (Qa rfl rfl) (kS rfl rfl) (fun i hi=>by simp [Qh] at hi ⊢; omega)) (Weak.trans (F1:=[(0,.yl 900),(1,.rp (cP b (2^(d+1)))),(3,iv ((2^d:Nat):Int))]) (Q2 (i:=901) (i':=903) (k:=1005) rfl rfl (.cons rfl (.same _) (.cons rfl (.same _) (.cons rfl (.same _) (.nil)))) (by decide) rfl (.sl _ _)) (Qb (Qa rfl rfl) (kS rfl rfl) (fun i hi=>by simp [Qh] at hi ⊢; omega)))) (gK 6 rfl (rs_yield [(900,.lp r0 [(27,.fn (.func 149) [.rp (cP b (2^(d+1)))]),(4,.ptr 1006 0 0)]),(1005,.cells 107 1 [[.sl 903 0 (l).length]] false),(903,.cells 110 2 ((l).map cSp) true),(1006,.cells 154 1 [[(.fn (.func 116) [.rp [iv (n:Int)],.rp [.rs 1 (w.map civ)],.ptr 1005 0 0,.ptr 1006 0 0])]] false)] rfl rfl rfl (hy b l (by omega) (by omega)) (.cons (Qd rfl) (.cons (Qd rfl) (.nil))) (.cons rfl (.cons rfl (.cons rfl (.cons rfl (.nil))))) rfl rfl rfl (gR 2 rfl (QH (F0:=[(0,.yl 900),(1,.rp (cP b (2^(d+1)))),(3,iv ((2^d:Nat):Int))]) (H0:=[(900,.lp r0 [(27,.fn (.func 149) [.rp (cP b (2^(d+1)))]),(4,.ptr 1006 0 0)]),(1005,.cells 107 1 [[.sl 903 0 (l++QG n w d b).length]] false),(903,.cells 110 2 ((l++QG n w d b).map cSp) true),(1006,.cells 154 1 [[(.fn (.func 116) [.rp [iv (n:Int)],.rp [.rs 1 (w.map civ)],.ptr 1005 0 0,.ptr 1006 0 0])]] false),(901,.dead)]) (Weak.trans (F1:=[(0,.yl 900),(1,.rp (cP b (2^(d+1)))),(3,iv ((2^d:Nat):Int))]) (H1:=[(900,.lp r0 [(27,.fn (.func 149) [.rp (cP b (2^(d+1)))]),(4,.ptr 1006 0 0)]),(1005,.cells 107 1 [[.sl 904 0 (l++QG n w d b).length]] false),(904,.cells 110 2 ((l++QG n w d b).map cSp) true),(1006,.cells 154 1 [[(.fn (.func 116) [.rp [iv (n:Int)],.rp [.rs 1 (w.map civ)],.ptr 1005 0 0,.ptr 1006 0 0])]] false),(901,.dead)]) (Qb (Qa rfl rfl) (kS rfl rfl) (fun i hi=>by simp [Qh] at hi ⊢; omega)) (Weak.trans (F1:=[(0,.yl 900),(1,.rp (cP b (2^(d+1)))),(3,iv ((2^d:Nat):Int))]) (Q2 (i:=904) (i':=903) (k:=1005) rfl rfl (.cons rfl (.same _) (.cons rfl (.same _) (.cons rfl (.same _) (.nil)))) (by decide) rfl (.sl _ _)) (Qb (Qa rfl rfl) (kS rfl rfl) (fun i hi=>by simp [Qh] at hi ⊢; omega)))) (gK 5 rfl (QS (c:=((b+2^d:Nat):Int)) rfl rfl rfl (addNW (by omega)) (gR 2 rfl ?_)))))))))))
 refine rs_yield [(900,.lp r0 [(27,.fn (.func 149) [.rp (cP b (2^(d+1)))]),(4,.ptr 1006 0 0)]),(1005,.cells 107 1 [[.sl 903 0 (l++QG n w d b).length]] false),(903,.cells 110 2 ((l++QG n w d b).map cSp) true),(1006,.cells 154 1 [[(.fn (.func 116) [.rp [iv (n:Int)],.rp [.rs 1 (w.map civ)],.ptr 1005 0 0,.ptr 1006 0 0])]] false)] rfl rfl rfl (hy (b+2^d) (l++QG n w d b) (by omega) (by omega)) (.cons (Qd rfl) (.cons (Qd rfl) (.nil))) (.cons rfl (.cons rfl (.cons rfl (.cons rfl (.nil))))) rfl rfl rfl (gR 1 rfl ?_)
 exact Qt <| ⟨[],[(900,.lp r0 [(27,.fn (.func 149) [.rp (cP b (2^(d+1)))]),(4,.ptr 1006 0 0)]),(1005,.cells 107 1 [[.sl 903 0 (l++QG n w d b++QG n w d (b+2^d)).length]] false),(903,.cells 110 2 ((l++QG n w d b++QG n w d (b+2^d)).map cSp) true),(1006,.cells 154 1 [[(.fn (.func 116) [.rp [iv (n:Int)],.rp [.rs 1 (w.map civ)],.ptr 1005 0 0,.ptr 1006 0 0])]] false),(901,.dead)],(Weak.trans (F1:=[]) (H1:=[(900,.lp r0 [(27,.fn (.func 149) [.rp (cP b (2^(d+1)))]),(4,.ptr 1006 0 0)]),(1005,.cells 107 1 [[.sl 904 0 (l++QG n w d b++QG n w d (b+2^d)).length]] false),(904,.cells 110 2 ((l++QG n w d b++QG n w d (b+2^d)).map cSp) true),(1006,.cells 154 1 [[(.fn (.func 116) [.rp [iv (n:Int)],.rp [.rs 1 (w.map civ)],.ptr 1005 0 0,.ptr 1006 0 0])]] false),(901,.dead)]) (Qb (.nil) (kS rfl rfl) (fun i hi=>by simp [Qh] at hi ⊢; omega)) (Weak.trans (F1:=[]) (Q2 (i:=904) (i':=903) (k:=1005) rfl rfl (.nil) (by decide) rfl (.sl _ _)) (Qb (.nil) (kS rfl rfl) (fun i hi=>by simp [Qh] at hi ⊢; omega)))),Jv (.inl rfl) rfl sm (kS rfl rfl) (.cons rfl rfl rfl (.cons rfl rfl rfl (.dead rfl rfl (.cons rfl rfl rfl (.nil)))))⟩
end Go.Proofs.YthfhaoogcpfboaaGreat
namespace Go.Proofs.YthfhaoogcpfboaaGreat
open Go.RowKit
set_option maxRecDepth 100000
set_option linter.unusedVariables false
theorem hid_0 {n:Nat} {w:List Int} {d b:Nat} (h:n<=b):QG n w d b=[]:=by cases d <;> simp [QG,hid1,h]
theorem hid_1 {n:Nat} {w:List Int} {d b:Nat} (h:¬ n<=b) (hw:w.any (inSp (b,2^d))=false):QG n w d b=[(b,2^d)]:=by cases d <;> simp only [QG,hid1,if_neg h,hw] <;> rfl
theorem hid_2 {n:Nat} {w:List Int} {b:Nat} (h:¬ n<=b) (hw:w.any (inSp (b,2^0))=true):QG n w 0 b=[]:=by simp only [QG,hid1,if_neg h,hw]; rfl
theorem hid_3 {n:Nat} {w:List Int} {d b:Nat} (h:¬ n<=b) (hw:w.any (inSp (b,2^(d+1)))=true):QG n w (d+1) b=QG n w d b++QG n w d (b+2^d):=by simp only [QG,hid1,if_neg h,hw]; rfl
theorem Xo {α:Type} (l:List α) (x:α):(l++[x]).length=l.length+1:=by simp
theorem app_nil_c {α:Type} (l:List α):l++[]=l:=List.append_nil l
def mcv116:MC:=(sq [oN 5 (.box 110 2 0) []] (.block 0 (sq [oA 8 0 5 [],oD 9 1 8 [0],oD 10 1 1 [],oB 11 .geq 9 10 [1,2],oM 7 11 [3]] (.cond 7 .skip (sq [oD 13 1 2 [],oL 14 2 5 [],oN 15 (.mkbnd 117 14) [1],oC 16 65 [13,15] [0,2],oN 17 (.un .not 16) [3],oM 12 17 [4,3]] (.cond 12 (rg [oD 18 1 3 [],oL 19 2 5 [],oN 20 (.bslice 110 2 (iz 2) 1 [(0,19)]) [1],oN 21 (.app 110 2 16 (iz 2) 18 20) [0,2],oS 1 3 21 (3::3::up 4)]) (sq [oA 23 1 5 [],oD 24 1 23 [0],oB 25 .gtr 24 (cI 1) [1],oM 22 25 [2]] (.cond 22 (sq [oL 26 2 5 [],oC 27 118 [26] [0]] (.block 1 (.rfunc 27 [28] (rg [oN 6 (.alloc 110 2 (iz 2)) [],oS 2 6 28 [0,0]]) (.block 2 (rg [oD 29 1 4 [],oL 30 2 6 [],oN 31 (.callv 29 [30]) [0,1]]))))) .skip))))))))
theorem mcOkv116:okM Tryz.prog Tryz.f116 32=some mcv116:=by kernel_rfl
theorem vc116_0 (n:Nat) (hn:n<=16) (w:List Int) (hw:w.length<=4611686018427387904) (b:Nat) (l:List (Nat×Nat)) (hb:b+2^0<=64) (hl:l.length+2^0<=500):FC Tryz.prog 116 [.agg (cP (b) (2^(0))),.rp [iv (n:Int)],.rp [.rs 1 (w.map civ)],.ptr 1005 0 0,.ptr 1006 0 0] [(1005,.cells 107 1 [[.sl 905 0 (l).length]] false),(905,.cells 110 2 ((l).map cSp) true),(1006,.cells 154 1 [[(.fn (.func 116) [.rp [iv (n:Int)],.rp [.rs 1 (w.map civ)],.ptr 1005 0 0,.ptr 1006 0 0])]] false)] (.tup []) [(1005,.cells 107 1 [[.sl 906 0 (l++QG n w (0) b).length]] false),(906,.cells 110 2 ((l++QG n w (0) b).map cSp) true),(1006,.cells 154 1 [[(.fn (.func 116) [.rp [iv (n:Int)],.rp [.rs 1 (w.map civ)],.ptr 1005 0 0,.ptr 1006 0 0])]] false),(905,.dead)] true:=by
 refine Qg (nt:=32) Tryz.func116 rfl rfl mcOkv116 (nL rfl) ?_
 delta mcv116
 refine aw_post (gA 10 rfl (XZ rfl rfl rfl (gR 2 rfl (Qc rfl (fun h7=>?_) (fun h7=>?_)))))
 ·replace h7:=of_decide_eq_true h7
  refine gK 1 rfl ?_
  rw [hid_0 (d:=0) (by omega),app_nil_c]
  exact Qt <| ⟨[],[(1005,.cells 107 1 [[.sl 906 0 (l).length]] false),(906,.cells 110 2 ((l).map cSp) true),(1006,.cells 154 1 [[(.fn (.func 116) [.rp [iv (n:Int)],.rp [.rs 1 (w.map civ)],.ptr 1005 0 0,.ptr 1006 0 0])]] false),(905,.dead)],(Weak.trans (F1:=[]) (H1:=[(1005,.cells 107 1 [[.sl 905 0 (l).length]] false),(905,.cells 110 2 ((l).map cSp) true),(1006,.cells 154 1 [[(.fn (.func 116) [.rp [iv (n:Int)],.rp [.rs 1 (w.map civ)],.ptr 1005 0 0,.ptr 1006 0 0])]] false)]) (Qb (.nil) (kS rfl rfl) (fun i hi=>by simp [Qh] at hi ⊢; omega)) (Weak.trans (F1:=[]) (Q2 (i:=905) (i':=906) (k:=1005) rfl rfl (.nil) (by decide) rfl (.sl _ _)) (Qb (.nil) (kS rfl rfl) (fun i hi=>by simp [Qh] at hi ⊢; omega)))),Jv (.inl rfl) rfl sm (kS rfl rfl) (.cons rfl rfl rfl (.dead rfl rfl (.cons rfl rfl rfl (.nil))))⟩
 ·replace h7:=of_decide_eq_false h7
  refine gK 4 rfl (rs_mkbnd rfl rfl (gR 0 rfl (cN rfl rfl (vcC_has b (2^(0)) (by omega) w hw) ?_)))
  cases h16:w.any (inSp (b,2^(0)))
  ·skip
   refine gR 7 rfl (bM cSp (([(b,2^(0))]:List (Nat×Nat))) (by kernel_rfl) (gR 0 rfl (Qq (f:=cSp) (xs:=l) (y:=(b,2^(0))) (fl':=true) rfl rfl rfl rfl rfl rfl rfl rfl (by decide) rfl (by omega) (by omega) rfl (gR 2 rfl ?_))))
   rw [hid_1 (d:=0) (by omega) h16]
   exact Qt <| ⟨[],[(1005,.cells 107 1 [[.sl 906 0 (l++[(b,2^(0))]).length]] false),(906,.cells 110 2 ((l++[(b,2^(0))]).map cSp) true),(1006,.cells 154 1 [[(.fn (.func 116) [.rp [iv (n:Int)],.rp [.rs 1 (w.map civ)],.ptr 1005 0 0,.ptr 1006 0 0])]] false),(905,.dead)],(Weak.trans (F1:=[]) (H1:=[(1005,.cells 107 1 [[.sl 21 0 (l++[(b,2^(0))]).length]] false),(21,.cells 110 2 ((l++[(b,2^(0))]).map cSp) true),(1006,.cells 154 1 [[(.fn (.func 116) [.rp [iv (n:Int)],.rp [.rs 1 (w.map civ)],.ptr 1005 0 0,.ptr 1006 0 0])]] false),(905,.dead)]) (Qb (.nil) (.keep (by rw [Xo]; rfl) rfl (kS rfl rfl)) (fun i hi=>by simp [Qh] at hi ⊢; omega)) (Weak.trans (F1:=[]) (Q2 (i:=21) (i':=906) (k:=1005) rfl rfl (.nil) (by decide) rfl (.sl _ _)) (Qb (.nil) (kS rfl rfl) (fun i hi=>by simp [Qh] at hi ⊢; omega)))),Jv (.inl rfl) rfl sm (kS rfl rfl) (.cons rfl rfl rfl (.dead rfl rfl (.cons rfl rfl rfl (.nil))))⟩
  ·skip
   refine gR 8 rfl (Qp rfl rfl rfl rfl (by decide) (gR 4 rfl ?_))
   rw [hid_2 (by omega) h16,app_nil_c]
   exact Qt <| ⟨[],[(1005,.cells 107 1 [[.sl 906 0 (l).length]] false),(906,.cells 110 2 ((l).map cSp) true),(1006,.cells 154 1 [[(.fn (.func 116) [.rp [iv (n:Int)],.rp [.rs 1 (w.map civ)],.ptr 1005 0 0,.ptr 1006 0 0])]] false),(905,.dead)],(Weak.trans (F1:=[]) (H1:=[(1005,.cells 107 1 [[.sl 905 0 (l).length]] false),(905,.cells 110 2 ((l).map cSp) true),(1006,.cells 154 1 [[(.fn (.func 116) [.rp [iv (n:Int)],.rp [.rs 1 (w.map civ)],.ptr 1005 0 0,.ptr 1006 0 0])]] false)]) (Qb (.nil) (kS rfl rfl) (fun i hi=>by simp [Qh] at hi ⊢; omega)) (Weak.trans (F1:=[]) (Q2 (i:=905) (i':=906) (k:=1005) rfl rfl (.nil) (by decide) rfl (.sl _ _)) (Qb (.nil) (kS rfl rfl) (fun i hi=>by simp [Qh] at hi ⊢; omega)))),Jv (.inl rfl) rfl sm (kS rfl rfl) (.cons rfl rfl rfl (.dead rfl rfl (.cons rfl rfl rfl (.nil))))⟩
theorem vc116_s (n:Nat) (hn:n<=16) (w:List Int) (hw:w.length<=4611686018427387904) (d b:Nat) (l:List (Nat×Nat)) (hb:b+2^(d+1)<=64) (hl:l.length+2^(d+1)<=500) (ih:∀ (c:Nat) (l:List (Nat×Nat)),c+2^d<=64->l.length+2^d<=500->FC Tryz.prog 116 [.agg (cP (c) (2^(d))),.rp [iv (n:Int)],.rp [.rs 1 (w.map civ)],.ptr 1005 0 0,.ptr 1006 0 0] [(1005,.cells 107 1 [[.sl 905 0 (l).length]] false),(905,.cells 110 2 ((l).map cSp) true),(1006,.cells 154 1 [[(.fn (.func 116) [.rp [iv (n:Int)],.rp [.rs 1 (w.map civ)],.ptr 1005 0 0,.ptr 1006 0 0])]] false)] (.tup []) [(1005,.cells 107 1 [[.sl 906 0 (l++QG n w d c).length]] false),(906,.cells 110 2 ((l++QG n w d c).map cSp) true),(1006,.cells 154 1 [[(.fn (.func 116) [.rp [iv (n:Int)],.rp [.rs 1 (w.map civ)],.ptr 1005 0 0,.ptr 1006 0 0])]] false),(905,.dead)] true):FC Tryz.prog 116 [.agg (cP (b) (2^(d+1))),.rp [iv (n:Int)],.rp [.rs 1 (w.map civ)],.ptr 1005 0 0,.ptr 1006 0 0] [(1005,.cells 107 1 [[.sl 905 0 (l).length]] false),(905,.cells 110 2 ((l).map cSp) true),(1006,.cells 154 1 [[(.fn (.func 116) [.rp [iv (n:Int)],.rp [.rs 1 (w.map civ)],.ptr 1005 0 0,.ptr 1006 0 0])]] false)] (.tup []) [(1005,.cells 107 1 [[.sl 906 0 (l++QG n w (d+1) b).length]] false),(906,.cells 110 2 ((l++QG n w (d+1) b).map cSp) true),(1006,.cells 154 1 [[(.fn (.func 116) [.rp [iv (n:Int)],.rp [.rs 1 (w.map civ)],.ptr 1005 0 0,.ptr 1006 0 0])]] false),(905,.dead)] true:=by
 have hpw:=pow2 d
 have hp1:=Nat.two_pow_pos d
 refine Qg (nt:=32) Tryz.func116 rfl rfl mcOkv116 (nL rfl) ?_
 delta mcv116
 refine aw_post (gA 10 rfl (XZ rfl rfl rfl (gR 2 rfl (Qc rfl (fun h7=>?_) (fun h7=>?_)))))
 ·replace h7:=of_decide_eq_true h7
  refine gK 1 rfl ?_
  rw [hid_0 (d:=d+1) (by omega),app_nil_c]
  exact Qt <| ⟨[],[(1005,.cells 107 1 [[.sl 906 0 (l).length]] false),(906,.cells 110 2 ((l).map cSp) true),(1006,.cells 154 1 [[(.fn (.func 116) [.rp [iv (n:Int)],.rp [.rs 1 (w.map civ)],.ptr 1005 0 0,.ptr 1006 0 0])]] false),(905,.dead)],(Weak.trans (F1:=[]) (H1:=[(1005,.cells 107 1 [[.sl 905 0 (l).length]] false),(905,.cells 110 2 ((l).map cSp) true),(1006,.cells 154 1 [[(.fn (.func 116) [.rp [iv (n:Int)],.rp [.rs 1 (w.map civ)],.ptr 1005 0 0,.ptr 1006 0 0])]] false)]) (Qb (.nil) (kS rfl rfl) (fun i hi=>by simp [Qh] at hi ⊢; omega)) (Weak.trans (F1:=[]) (Q2 (i:=905) (i':=906) (k:=1005) rfl rfl (.nil) (by decide) rfl (.sl _ _)) (Qb (.nil) (kS rfl rfl) (fun i hi=>by simp [Qh] at hi ⊢; omega)))),Jv (.inl rfl) rfl sm (kS rfl rfl) (.cons rfl rfl rfl (.dead rfl rfl (.cons rfl rfl rfl (.nil))))⟩
 ·replace h7:=of_decide_eq_false h7
  refine gK 4 rfl (rs_mkbnd rfl rfl (gR 0 rfl (cN rfl rfl (vcC_has b (2^(d+1)) (by omega) w hw) ?_)))
  cases h16:w.any (inSp (b,2^(d+1)))
  ·skip
   refine gR 7 rfl (bM cSp (([(b,2^(d+1))]:List (Nat×Nat))) (by kernel_rfl) (gR 0 rfl (Qq (f:=cSp) (xs:=l) (y:=(b,2^(d+1))) (fl':=true) rfl rfl rfl rfl rfl rfl rfl rfl (by decide) rfl (by omega) (by omega) rfl (gR 2 rfl ?_))))
   rw [hid_1 (d:=d+1) (by omega) h16]
   exact Qt <| ⟨[],[(1005,.cells 107 1 [[.sl 906 0 (l++[(b,2^(d+1))]).length]] false),(906,.cells 110 2 ((l++[(b,2^(d+1))]).map cSp) true),(1006,.cells 154 1 [[(.fn (.func 116) [.rp [iv (n:Int)],.rp [.rs 1 (w.map civ)],.ptr 1005 0 0,.ptr 1006 0 0])]] false),(905,.dead)],(Weak.trans (F1:=[]) (H1:=[(1005,.cells 107 1 [[.sl 21 0 (l++[(b,2^(d+1))]).length]] false),(21,.cells 110 2 ((l++[(b,2^(d+1))]).map cSp) true),(1006,.cells 154 1 [[(.fn (.func 116) [.rp [iv (n:Int)],.rp [.rs 1 (w.map civ)],.ptr 1005 0 0,.ptr 1006 0 0])]] false),(905,.dead)]) (Qb (.nil) (.keep (by rw [Xo]; rfl) rfl (kS rfl rfl)) (fun i hi=>by simp [Qh] at hi ⊢; omega)) (Weak.trans (F1:=[]) (Q2 (i:=21) (i':=906) (k:=1005) rfl rfl (.nil) (by decide) rfl (.sl _ _)) (Qb (.nil) (kS rfl rfl) (fun i hi=>by simp [Qh] at hi ⊢; omega)))),Jv (.inl rfl) rfl sm (kS rfl rfl) (.cons rfl rfl rfl (.dead rfl rfl (.cons rfl rfl rfl (.nil))))⟩
  ·skip
   refine gR 8 rfl (QA rfl rfl rfl rfl (by omega) (gR 6 rfl (Qr [] rfl rfl (vc118 (b,2^(d+1))) (.cons (Qd rfl) .nil) .nil rfl rfl rfl (gR 2 rfl (QH (F0:=[(27,.fn (.func 149) [.rp (cP b (2^(d+1)))]),(4,.ptr 1006 0 0)]) (H0:=[(1005,.cells 107 1 [[.sl 901 0 (l).length]] false),(901,.cells 110 2 ((l).map cSp) true),(1006,.cells 154 1 [[(.fn (.func 116) [.rp [iv (n:Int)],.rp [.rs 1 (w.map civ)],.ptr 1005 0 0,.ptr 1006 0 0])]] false),(905,.dead)]) (Weak.trans (F1:=[(27,.fn (.func 149) [.rp (cP b (2^(d+1)))]),(4,.ptr 1006 0 0)]) (H1:=[(1005,.cells 107 1 [[.sl 905 0 (l).length]] false),(905,.cells 110 2 ((l).map cSp) true),(1006,.cells 154 1 [[(.fn (.func 116) [.rp [iv (n:Int)],.rp [.rs 1 (w.map civ)],.ptr 1005 0 0,.ptr 1006 0 0])]] false)]) (Qb (Qa rfl rfl) (kS rfl rfl) (fun i hi=>by simp [Qh] at hi ⊢; omega)) (Weak.trans (F1:=[(27,.fn (.func 149) [.rp (cP b (2^(d+1)))]),(4,.ptr 1006 0 0)]) (Q2 (i:=905) (i':=901) (k:=1005) rfl rfl (.cons rfl (.same _) (.cons rfl (.same _) (.nil))) (by decide) rfl (.sl _ _)) (Qb (Qa rfl rfl) (kS rfl rfl) (fun i hi=>by simp [Qh] at hi ⊢; omega)))) (aw_rfunc 900 [(1005,.cells 107 1 [[.sl 901 0 (l).length]] false),(901,.cells 110 2 ((l).map cSp) true),(1006,.cells 154 1 [[(.fn (.func 116) [.rp [iv (n:Int)],.rp [.rs 1 (w.map civ)],.ptr 1005 0 0,.ptr 1006 0 0])]] false)] [(1005,.cells 107 1 [[.sl 903 0 (l++QG n w d b++QG n w d (b+2^d)).length]] false),(903,.cells 110 2 ((l++QG n w d b++QG n w d (b+2^d)).map cSp) true),(1006,.cells 154 1 [[(.fn (.func 116) [.rp [iv (n:Int)],.rp [.rs 1 (w.map civ)],.ptr 1005 0 0,.ptr 1006 0 0])]] false),(901,.dead)] (.inl ⟨rfl,rfl⟩) rfl (by kernel_rfl) rfl rfl rfl (.cons rfl (.cons rfl (.cons rfl (.nil)))) rfl rfl rfl rfl (fun r0 hrec=>⟨r0,(by rw [hrec.state]; intro h; cases h),hrec.pending,vc149h n hn w hw d b l hb hl r0 (fun c l hc hl=>y116 n hn w hw d b c l hc hl ih r0 hrec)⟩) (gP 0 rfl ?_)))))))
   rw [hid_3 (by omega) h16,← List.append_assoc]
   exact Qt <| ⟨[],[(1005,.cells 107 1 [[.sl 906 0 (l++QG n w d b++QG n w d (b+2^d)).length]] false),(906,.cells 110 2 ((l++QG n w d b++QG n w d (b+2^d)).map cSp) true),(1006,.cells 154 1 [[(.fn (.func 116) [.rp [iv (n:Int)],.rp [.rs 1 (w.map civ)],.ptr 1005 0 0,.ptr 1006 0 0])]] false),(905,.dead)],(Weak.trans (F1:=[]) (H1:=[(1005,.cells 107 1 [[.sl 903 0 (l++QG n w d b++QG n w d (b+2^d)).length]] false),(903,.cells 110 2 ((l++QG n w d b++QG n w d (b+2^d)).map cSp) true),(1006,.cells 154 1 [[(.fn (.func 116) [.rp [iv (n:Int)],.rp [.rs 1 (w.map civ)],.ptr 1005 0 0,.ptr 1006 0 0])]] false),(905,.dead)]) (Qb (.nil) (kS rfl rfl) (fun i hi=>by simp [Qh] at hi ⊢; omega)) (Weak.trans (F1:=[]) (Q2 (i:=903) (i':=906) (k:=1005) rfl rfl (.nil) (by decide) rfl (.sl _ _)) (Qb (.nil) (kS rfl rfl) (fun i hi=>by simp [Qh] at hi ⊢; omega)))),Jv (.inl rfl) rfl sm (kS rfl rfl) (.cons rfl rfl rfl (.dead rfl rfl (.cons rfl rfl rfl (.nil))))⟩
theorem vc116 (n:Nat) (hn:n<=16) (w:List Int) (hw:w.length<=4611686018427387904):∀ (d b:Nat) (l:List (Nat×Nat)),b+2^d<=64->l.length+2^d<=500->FC Tryz.prog 116 [.agg (cP (b) (2^(d))),.rp [iv (n:Int)],.rp [.rs 1 (w.map civ)],.ptr 1005 0 0,.ptr 1006 0 0] [(1005,.cells 107 1 [[.sl 905 0 (l).length]] false),(905,.cells 110 2 ((l).map cSp) true),(1006,.cells 154 1 [[(.fn (.func 116) [.rp [iv (n:Int)],.rp [.rs 1 (w.map civ)],.ptr 1005 0 0,.ptr 1006 0 0])]] false)] (.tup []) [(1005,.cells 107 1 [[.sl 906 0 (l++QG n w d b).length]] false),(906,.cells 110 2 ((l++QG n w d b).map cSp) true),(1006,.cells 154 1 [[(.fn (.func 116) [.rp [iv (n:Int)],.rp [.rs 1 (w.map civ)],.ptr 1005 0 0,.ptr 1006 0 0])]] false),(905,.dead)] true
 | 0,b,l,hb,hl=>vc116_0 n hn w hw b l hb hl
 | d+1,b,l,hb,hl=>vc116_s n hn w hw d b l hb hl fun c l hc hl=>vc116 n hn w hw d c l hc hl
end Go.Proofs.YthfhaoogcpfboaaGreat
namespace Go.Proofs.YthfhaoogcpfboaaGreat
open Go.RowKit
set_option maxRecDepth 100000
set_option linter.unusedVariables false
theorem lg16 {n:Nat} (h:n<=16):2^lg n<=16:=by
 have:∀ n:Fin 17,2^lg n.val<=16:=by decide
 exact this ⟨n,by omega⟩
def JE (n:Nat) (w:List Int):List (Nat×Nat):=QG n w (lg n) 0
theorem hidA_len {n:Nat} {w:List Int} (h:n<=16):(JE n w).length<=16:=Nat.le_trans (hidS_len n w _ _) (lg16 h)
def mcv67:MC:=(sq [oN 2 (.box 3 1 0) [],oN 3 (.box 22 1 1) [],oN 4 (.mv (.c .nils)) []] (sq [oN 5 (.alloc 107 1 [.nils]) []] (sq [oN 6 (.alloc 154 1 [.nilf]) []] (sq [oN 7 (.mkfn (.func 116) [2,3,5,6]) [],oS 1 6 7 [0,0]] (dq [oD 8 1 6 [],oD 9 1 2 [],oC 10 75 [9] [1],oN 11 (.callv 8 [10]) [0,2,2]] (sq [oD 12 1 5 [],oM 4 12 [0,0]] .ret))))))
theorem mcOkv67:okM Tryz.prog Tryz.f67 13=some mcv67:=by kernel_rfl
theorem vc67 (n:Nat) (hn:1<=n/\n<=16) (w:List Int) (hw:w.length<=4611686018427387904):FC Tryz.prog 67 [iv (n:Int),.rs 1 (w.map civ)] [] (.rs 2 ((JE n w).map cSp)) [] false:=by
 have hlg:=lg16 hn.2
 refine Qg (nt:=13) Tryz.func67 rfl rfl mcOkv67 (nL rfl) ?_
 delta mcv67
 refine gA 15 rfl (QH (F0:=[(2,.rp [iv (n:Int)]),(3,.rp [.rs 1 (w.map civ)]),(5,.ptr 1005 0 0),(6,.ptr 1006 0 0)]) (H0:=[(1005,.cells 107 1 [[.sl 905 0 0]] false),(905,.cells 110 2 (([]:List (Nat×Nat)).map cSp) true),(1006,.cells 154 1 [[.nilf]] true)]) (Weak.trans (F1:=[(2,.rp [iv (n:Int)]),(3,.rp [.rs 1 (w.map civ)]),(5,.ptr 1005 0 0),(6,.ptr 1006 0 0)]) (H1:=[(1005,.cells 107 1 [[.nils]] true),(1006,.cells 154 1 [[.nilf]] true)]) (Weak.trans (F1:=[(2,.rp [iv (n:Int)]),(3,.rp [.rs 1 (w.map civ)]),(5,.ptr 1005 0 0),(6,.ptr 6 0 0)]) (H1:=[(1005,.cells 107 1 [[.nils]] true),(6,.cells 154 1 [[.nilf]] true)]) (wR 5 1005 (.cons rfl (Jc rfl rfl (.inl rfl)) (.cons rfl (Jc rfl rfl (.inl rfl)) (Qa rfl rfl))) (kS rfl rfl) rfl) (wR 6 1006 (Qa rfl rfl) (kS rfl rfl) rfl)) (Weak.trans (F1:=[(2,.rp [iv (n:Int)]),(3,.rp [.rs 1 (w.map civ)]),(5,.ptr 1005 0 0),(6,.ptr 1006 0 0)]) (weak_seed (i:=905) (k:=1005) (e:=107) (z:=1) (e2:=110) (z2:=2) (fl:=true) (fl2:=true) rfl rfl) (Qb (Qa rfl rfl) (kS rfl rfl) (fun i h=>by cases h)))) (gK 8 rfl (cN rfl rfl (vc75 n hn) (gR 0 rfl (Xq [(1005,.cells 107 1 [[.sl 905 0 (([]:List (Nat×Nat))).length]] false),(905,.cells 110 2 ((([]:List (Nat×Nat))).map cSp) true),(1006,.cells 154 1 [[(.fn (.func 116) [.rp [iv (n:Int)],.rp [.rs 1 (w.map civ)],.ptr 1005 0 0,.ptr 1006 0 0])]] false)] rfl rfl (by kernel_rfl) rfl (vc116 n hn.2 w hw (lg n) 0 [] (by omega) (by simp only [List.length_nil]; omega)) (.cons (Qd rfl) (.cons (Qd rfl) (.cons (Qd rfl) (.cons (Qd rfl) (.cons (Qd rfl) (.nil)))))) (.cons rfl (.cons rfl (.cons rfl .nil))) rfl rfl rfl (gR 0 rfl (Q9 (by kernel_rfl) (gP 6 rfl ?_))))))))
 exact Qt <| Ql rfl (Q5 rfl rfl rfl (fun _=>rfl)) .nil
end Go.Proofs.YthfhaoogcpfboaaGreat
namespace Go.Proofs.YthfhaoogcpfboaaGreat
open Go.RowKit
set_option maxRecDepth 100000
set_option linter.unusedVariables false
def Qu (kn:Nat->Nat->Option (List Int)):Nat->Nat->List Int
 | 0,b=>(kn b 1).getD []
 | d+1,b=>if (kn b (2^(d+1))).isSome=true then (kn b (2^(d+1))).getD [] else JD (Qu kn d b) (Qu kn d (b+2^d))
theorem treeD_t {kn:Nat->Nat->Option (List Int)} {d b:Nat} (h:(kn b (2^d)).isSome=true):Qu kn d b=(kn b (2^d)).getD []:=by
 cases d with
 | zero=>rfl
 | succ d=>unfold Qu; rw [if_pos h]
theorem treeD_f {kn:Nat->Nat->Option (List Int)} {d b:Nat} (h:(kn b (2^(d+1))).isSome=false):Qu kn (d+1) b=JD (Qu kn d b) (Qu kn d (b+2^d)):=by
 conv=>lhs; unfold Qu
 rw [if_neg (by rw [h]; decide)]
structure KnOK (kn:Nat->Nat->Option (List Int)):Prop where
 one:∀ b,(kn b 1).isSome=true
 ok:∀ b m x,kn b m=some x->B8 x/\x.length<=LIM
theorem KnOK.get {kn:Nat->Nat->Option (List Int)} (h:KnOK kn) {b m:Nat} (hs:(kn b m).isSome=true):B8 ((kn b m).getD [])/\((kn b m).getD []).length<=LIM:=by
 obtain ⟨x,e⟩:=Option.isSome_iff_exists.1 hs
 rw [e]; exact h.ok b m x e
theorem KnOK.tree {kn:Nat->Nat->Option (List Int)} (h:KnOK kn):∀ d b,B8 (Qu kn d b)/\(Qu kn d b).length<=LIM
 | 0,b=>h.get (h.one b)
 | d+1,b=>by
  cases hs:(kn b (2^(d+1))).isSome with
  | true=>rw [treeD_t hs]; exact h.get hs
  | false=>rw [treeD_f hs]; exact ⟨(JA _).1,by rw [show (JD _ _).length=8 from (JA _).2]; decide⟩
def ofK (ls:List Lf) (b m:Nat):Option (List Int):=if 1<m then none else match ls[b]? with
 | some x=>some (J2 (Xn x))
 | none=>some missS
theorem ofK_1 {ls:List Lf} {b m:Nat} (h:1<m):ofK ls b m=none:=by unfold ofK; rw [if_pos h]
theorem ofK_2 {ls:List Lf} {b m:Nat} (h:¬ 1<m) (hb:ls.length<=b):ofK ls b m=some missS:=by unfold ofK; rw [if_neg h,List.getElem?_eq_none hb]
theorem ofK_3 {ls:List Lf} {b m:Nat} {x:Lf} (h:¬ 1<m) (hb:ls[b]?=some x):ofK ls b m=some (J2 (Xn x)):=by unfold ofK; rw [if_neg h,hb]
theorem ofK_ok (ls:List Lf):KnOK (ofK ls) where
 one b:=by unfold ofK; rw [if_neg (by decide)]; split <;> rfl
 ok b m x h:=by
  have key:∀ l,B8 (digB l)/\(digB l).length<=LIM:=fun l=>⟨(JA l).1,by rw [(JA l).2]; decide⟩
  unfold ofK at h
  split at h
  ·cases h
  ·split at h <;> (injection h with h; rw [← h]; exact key _)
def mcv68:MC:=(sq [oN 1 (.box 27 1 0) [],oN 2 (.mv (.c .nilf)) []] (sq [oN 3 (.mkfn (.func 119) [1]) [],oM 2 3 [0,0]] .ret))
theorem mcOkv68:okM Tryz.prog Tryz.f68 4=some mcv68:=by kernel_rfl
theorem vc68 (ls:List Lf):FC Tryz.prog 68 [.rs 5 (ls.map cLf)] [] (.fn (.func 119) [.rp [.rs 5 (ls.map cLf)]]) [] true:=by
 refine Qg (nt:=4) Tryz.func68 rfl rfl mcOkv68 (nL rfl) ?_
 delta mcv68
 refine gA 11 rfl ?_
 exact Qt <| Ql rfl (rc_fnr (.cons (Jc rfl rfl (.inl rfl)) .nil)) .nil
def mcv119:MC:=(sq [oN 2 (.box 110 2 0) [],oN 3 (.mv (.c (.str (strN [])))) [],oN 4 (.mv (.c (.bool false))) [1]] (.seq (.block 0 (sq [oA 6 1 2 [],oD 7 1 6 [0],oB 8 .gtr 7 (cI 1) [1],oM 5 8 [2]] (.cond 5 (sq [oN 3 (.mv (.c (.str (strN [])))) [],oN 4 (.mv (.c (.bool false))) [0,0]] .ret) (sq [oA 10 0 2 [],oD 11 1 10 [0],oD 12 1 1 [],oE 13 12 [2],oB 14 .geq 11 13 [1,3],oM 9 14 [4]] (.cond 9 (sq [oC 15 44 [] [],oM 3 15 [0,0,0],oN 4 (.mv (.c (.bool true))) [1,0,1]] .ret) .skip))))) (sq [oD 16 1 1 [],oA 17 0 2 [],oD 18 1 17 [1],oX 19 5 16 18 [0,2],oL 20 5 19 [3],oC 21 62 [20] [4],oC 22 41 [21] [5,5],oM 3 22 (6::6::up 7),oN 4 (.mv (.c (.bool true))) (7::up 8)] .ret)))
theorem mcOkv119:okM Tryz.prog Tryz.f119 23=some mcv119:=by kernel_rfl
theorem vc119 (ls:List Lf) (hl:LsOK ls) (b m:Nat):FC Tryz.prog 119 [.agg (cP b m),.rp [.rs 5 (ls.map cLf)]] [] (.tup [.str (strN ((ofK ls (b) (m)).getD [])),.bool (ofK ls (b) (m)).isSome]) [] false:=by
 refine Qg (nt:=23) Tryz.func119 rfl rfl mcOkv119 (nL rfl) ?_
 delta mcv119
 refine gA 12 rfl (Ua rfl rfl rfl (gR 2 rfl (Qc rfl (fun h5=>?_) (fun h5=>?_))))
 ·replace h5:=of_decide_eq_true h5
  refine gK 6 rfl ?_
  rw [ofK_1 (by omega)]
  exact rQ
 ·replace h5:=of_decide_eq_false h5
  refine gK 5 rfl (Qe rfl rfl (gR 0 rfl (XZ rfl rfl rfl (gR 2 rfl (Qc rfl (fun h9=>?_) (fun h9=>?_))))))
  ·replace h9:=of_decide_eq_true h9
   refine gK 2 rfl (cN rfl rfl (vc44) (gR 4 rfl ?_))
   rw [ofK_2 (by omega) (by omega)]
   exact rQ
  ·replace h9:=of_decide_eq_false h9
   refine gK 2 rfl ?_
   obtain ⟨x,hx,hxm⟩:=Qk (L:=ls) (k:=b) (by omega)
   refine gI 4 rfl (Qi (f:=cLf) (y:=x) rfl rfl rfl (by omega) hx (gR 0 rfl (Q8 (cs:=cLf x) rfl rfl (nL rfl) rfl (gR 0 rfl (cN rfl rfl (vc62 x (hl.ok x hxm)) (gR 0 rfl (cN rfl rfl (vc41 (Xn x) ⟨textS_8 (hl.ok x hxm).b,Nat.le_trans (textS_len (hl.ok x hxm).n) (by decide)⟩) (gR 4 rfl ?_))))))))
   rw [ofK_3 (by omega) hx]
   exact rQ
def as69:MC:=(rg [oN 8 (.alloc 110 2 (iz 2)) [],oS 2 8 19 [0,0]])
def bd69:MC:=(.block 1 (dg [oD 20 1 7 [],oD 21 1 2 [],oL 22 2 8 [],oC 23 69 [21,22] [1,2],oN 24 (.bslice 9 1 [(.str (strN []))] 1 [(0,23)]) [3],oN 25 (.app 9 1 16 [(.str (strN []))] 20 24) [0,4,3],oS 1 7 25 (5::5::up 6)]))
theorem as69w1 (ls:List Lf) (kn:Nat->Nat->Option (List Int)) (d b c:Nat) (l:List (List Int)) (hc:c+2^d<=64) (hl:l.length<=1) (o:Loop) (lb:Nat):AW Tryz.prog 33 [900,7,903] (some lb) as69 (fun e F' H'=>e = .normal/\Weak 33 [900,7,903] F' H' [(8,.ptr 8 0 0),(7,.ptr 7 0 0),(2,.rp [(.fn (.func 119) [.rp [.rs 5 (ls.map cLf)]])])] [(900,.lp o [(18,.fn (.func 149) [.rp (cP b (2^(d+1)))]),(7,.ptr 7 0 0),(2,.rp [(.fn (.func 119) [.rp [.rs 5 (ls.map cLf)]])])]),(7,.cells 47 1 [[.sl 903 0 (l).length]] false),(903,.cells 9 1 ((l).map cS) true),(8,.cells 110 2 [cP c (2^d)] true)]) [(19,.agg (cP c (2^d))),(18,.fn (.func 149) [.rp (cP b (2^(d+1)))]),(7,.ptr 7 0 0),(2,.rp [(.fn (.func 119) [.rp [.rs 5 (ls.map cLf)]])])] [(900,.lp o [(18,.fn (.func 149) [.rp (cP b (2^(d+1)))]),(7,.ptr 7 0 0),(2,.rp [(.fn (.func 119) [.rp [.rs 5 (ls.map cLf)]])])]),(7,.cells 47 1 [[.sl 903 0 (l).length]] false),(903,.cells 9 1 ((l).map cS) true)]:=by
 delta as69
 refine gA 4 rfl ?_
 exact Qt <| ⟨rfl,Qb (Qa rfl rfl) (kS rfl rfl) (fun i hi=>by simp [Qh] at hi ⊢; omega)⟩
theorem bd69w1 (ls:List Lf) (kn:Nat->Nat->Option (List Int)) (d b c:Nat) (l:List (List Int)) (hc:c+2^d<=64) (hl:l.length<=1) (ih:∀ c,c+2^d<=64->FC Tryz.prog 69 [(.fn (.func 119) [.rp [.rs 5 (ls.map cLf)]]),.agg (cP c (2^d))] [] (.str (strN (Qu kn d c))) [] false) (o:Loop) (lb:Nat):AW Tryz.prog 33 [900,7,903] (some lb) bd69 (fun e F' H'=>e = .normal/\Weak 33 [900,7,903] F' H' [] [(900,.lp o [(18,.fn (.func 149) [.rp (cP b (2^(d+1)))]),(7,.ptr 7 0 0),(2,.rp [(.fn (.func 119) [.rp [.rs 5 (ls.map cLf)]])])]),(7,.cells 47 1 [[.sl 25 0 (l++[Qu kn d c]).length]] false),(25,.cells 9 1 ((l++[Qu kn d c]).map cS) true),(903,.dead)]) [(8,.ptr 8 0 0),(7,.ptr 7 0 0),(2,.rp [(.fn (.func 119) [.rp [.rs 5 (ls.map cLf)]])])] [(900,.lp o [(18,.fn (.func 149) [.rp (cP b (2^(d+1)))]),(7,.ptr 7 0 0),(2,.rp [(.fn (.func 119) [.rp [.rs 5 (ls.map cLf)]])])]),(7,.cells 47 1 [[.sl 903 0 (l).length]] false),(903,.cells 9 1 ((l).map cS) true),(8,.cells 110 2 [cP c (2^d)] true)]:=by
 delta bd69
 refine gA 5 rfl (cN rfl rfl (ih c hc) (gR 0 rfl (bM cS (([Qu kn d c]:List (List Int))) (by kernel_rfl) (gR 0 rfl (Qq (f:=cS) (xs:=l) (y:=Qu kn d c) (fl':=true) rfl rfl rfl rfl rfl rfl rfl rfl (by decide) rfl (by omega) (by omega) rfl (gR 1 rfl (Q9 (by kernel_rfl) (gP 0 rfl ?_))))))))
 exact Qt <| ⟨rfl,Qb (.nil) (.keep (rfl) rfl (.keep (by rw [Xo]; rfl) rfl (kS rfl rfl))) (fun i hi=>by simp [Qh] at hi ⊢; omega)⟩
theorem y69_1 (ls:List Lf) (kn:Nat->Nat->Option (List Int)) (d b c:Nat) (l:List (List Int)) (hc:c+2^d<=64) (hl:l.length<=1) (ih:∀ c,c+2^d<=64->FC Tryz.prog 69 [(.fn (.func 119) [.rp [.rs 5 (ls.map cLf)]]),.agg (cP c (2^d))] [] (.str (strN (Qu kn d c))) [] false) (r0:Loop) (h:Rec0 Tryz.prog 33 [19] as69 bd69 r0) :
  FCg (Js Tryz.prog) [.yl 900,.agg (cP c (2^d))] [(900,.lp r0 [(18,.fn (.func 149) [.rp (cP b (2^(d+1)))]),(7,.ptr 7 0 0),(2,.rp [(.fn (.func 119) [.rp [.rs 5 (ls.map cLf)]])])]),(7,.cells 47 1 [[.sl 903 0 (l).length]] false),(903,.cells 9 1 ((l).map cS) true)] (.bool true) [(900,.lp r0 [(18,.fn (.func 149) [.rp (cP b (2^(d+1)))]),(7,.ptr 7 0 0),(2,.rp [(.fn (.func 119) [.rp [.rs 5 (ls.map cLf)]])])]),(7,.cells 47 1 [[.sl 25 0 (l++[Qu kn d c]).length]] false),(25,.cells 9 1 ((l++[Qu kn d c]).map cS) true),(903,.dead)] true:=by
 have:=round_yield (P:=Tryz.prog) (F:=[(18,.fn (.func 149) [.rp (cP b (2^(d+1)))]),(7,.ptr 7 0 0),(2,.rp [(.fn (.func 119) [.rp [.rs 5 (ls.map cLf)]])])]) (N:=33) (x:=as69) (y:=bd69) h.ca h.cb (li:=900) (ps:=[19]) (vs:=[.agg (cP c (2^d))]) (J:=[(7,.cells 47 1 [[.sl 903 0 (l).length]] false),(903,.cells 9 1 ((l).map cS) true)]) (J1:=[(7,.cells 47 1 [[.sl 903 0 (l).length]] false),(903,.cells 9 1 ((l).map cS) true),(8,.cells 110 2 [cP c (2^d)] true)]) (J':=[(7,.cells 47 1 [[.sl 25 0 (l++[Qu kn d c]).length]] false),(25,.cells 9 1 ((l++[Qu kn d c]).map cS) true),(903,.dead)]) (Fb:=[(8,.ptr 8 0 0),(7,.ptr 7 0 0),(2,.rp [(.fn (.func 119) [.rp [.rs 5 (ls.map cLf)]])])]) (Z0:=[900,7,903]) .normal none (.inl ⟨rfl,rfl⟩)
  rfl rfl (fun i hi=>QE.1 hi) (by simp) (fun i h=>QE.2 h) (fun i hi=>QE.1 (by simp [Qh] at hi ⊢; omega)) h.state h.params rfl rfl h.size (fun t v h=>get_mem h) (fun lb o=>as69w1 ls kn d b c l hc hl o lb) (fun lb o=>bd69w1 ls kn d b c l hc hl ih o lb)
 rw [rec_same h.state h.pending] at this
 exact this
theorem vc149d1 (ls:List Lf) (kn:Nat->Nat->Option (List Int)) (d b:Nat) (hb:b+2^(d+1)<=64) (r0:Loop) (hy:∀ (c:Nat) (l:List (List Int)),c+2^d<=64->l.length<=1->FCg (Js Tryz.prog) [.yl 900,.agg (cP c (2^d))] [(900,.lp r0 [(18,.fn (.func 149) [.rp (cP b (2^(d+1)))]),(7,.ptr 7 0 0),(2,.rp [(.fn (.func 119) [.rp [.rs 5 (ls.map cLf)]])])]),(7,.cells 47 1 [[.sl 903 0 (l).length]] false),(903,.cells 9 1 ((l).map cS) true)] (.bool true) [(900,.lp r0 [(18,.fn (.func 149) [.rp (cP b (2^(d+1)))]),(7,.ptr 7 0 0),(2,.rp [(.fn (.func 119) [.rp [.rs 5 (ls.map cLf)]])])]),(7,.cells 47 1 [[.sl 25 0 (l++[Qu kn d c]).length]] false),(25,.cells 9 1 ((l++[Qu kn d c]).map cS) true),(903,.dead)] true):FC Tryz.prog 149 [.yl 900,.rp (cP b (2^(d+1)))] [(900,.lp r0 [(18,.fn (.func 149) [.rp (cP b (2^(d+1)))]),(7,.ptr 7 0 0),(2,.rp [(.fn (.func 119) [.rp [.rs 5 (ls.map cLf)]])])]),(7,.cells 47 1 [[.sl 901 0 (([]:List (List Int))).length]] false),(901,.cells 9 1 ((([]:List (List Int))).map cS) true)] (.tup []) [(900,.lp r0 [(18,.fn (.func 149) [.rp (cP b (2^(d+1)))]),(7,.ptr 7 0 0),(2,.rp [(.fn (.func 119) [.rp [.rs 5 (ls.map cLf)]])])]),(7,.cells 47 1 [[.sl 903 0 (([]++[Qu kn d b]++[Qu kn d (b+2^d)]:List (List Int))).length]] false),(903,.cells 9 1 ((([]++[Qu kn d b]++[Qu kn d (b+2^d)]:List (List Int))).map cS) true),(901,.dead)] true:=by
 have hpw:=pow2 d
 refine Qg (nt:=21) Tryz.func149 rfl rfl mcOkv149 (nL rfl) ?_
 delta mcv149
 refine aw_post (gA 4 rfl (QR rfl rfl rfl (by decide) (quo2W hpw (by omega)) (gR 3 rfl (QH (F0:=[(0,.yl 900),(1,.rp (cP b (2^(d+1)))),(3,iv ((2^d:Nat):Int))]) (H0:=[(900,.lp r0 [(18,.fn (.func 149) [.rp (cP b (2^(d+1)))]),(7,.ptr 7 0 0),(2,.rp [(.fn (.func 119) [.rp [.rs 5 (ls.map cLf)]])])]),(7,.cells 47 1 [[.sl 903 0 (([]:List (List Int))).length]] false),(903,.cells 9 1 ((([]:List (List Int))).map cS) true),(901,.dead)]) (Weak.trans (F1:=[(0,.yl 900),(1,.rp (cP b (2^(d+1)))),(3,iv ((2^d:Nat):Int))]) (H1:=[(900,.lp r0 [(18,.fn (.func 149) [.rp (cP b (2^(d+1)))]),(7,.ptr 7 0 0),(2,.rp [(.fn (.func 119) [.rp [.rs 5 (ls.map cLf)]])])]),(7,.cells 47 1 [[.sl 901 0 (([]:List (List Int))).length]] false),(901,.cells 9 1 ((([]:List (List Int))).map cS) true)]) (Qb (Qa rfl rfl) (kS rfl rfl) (fun i hi=>by simp [Qh] at hi ⊢; omega)) (Weak.trans (F1:=[(0,.yl 900),(1,.rp (cP b (2^(d+1)))),(3,iv ((2^d:Nat):Int))]) (Q2 (i:=901) (i':=903) (k:=7) rfl rfl (.cons rfl (.same _) (.cons rfl (.same _) (.cons rfl (.same _) (.nil)))) (by decide) rfl (.sl _ _)) (Qb (Qa rfl rfl) (kS rfl rfl) (fun i hi=>by simp [Qh] at hi ⊢; omega)))) (gK 6 rfl (rs_yield [(900,.lp r0 [(18,.fn (.func 149) [.rp (cP b (2^(d+1)))]),(7,.ptr 7 0 0),(2,.rp [(.fn (.func 119) [.rp [.rs 5 (ls.map cLf)]])])]),(7,.cells 47 1 [[.sl 903 0 (([]:List (List Int))).length]] false),(903,.cells 9 1 ((([]:List (List Int))).map cS) true)] rfl rfl rfl (hy b [] (by omega) (by simp)) (.cons (Qd rfl) (.cons (Qd rfl) (.nil))) (.cons rfl (.cons rfl (.cons rfl (.nil)))) rfl rfl rfl (gR 2 rfl (QH (F0:=[(0,.yl 900),(1,.rp (cP b (2^(d+1)))),(3,iv ((2^d:Nat):Int))]) (H0:=[(900,.lp r0 [(18,.fn (.func 149) [.rp (cP b (2^(d+1)))]),(7,.ptr 7 0 0),(2,.rp [(.fn (.func 119) [.rp [.rs 5 (ls.map cLf)]])])]),(7,.cells 47 1 [[.sl 903 0 (([]++[Qu kn d b]:List (List Int))).length]] false),(903,.cells 9 1 ((([]++[Qu kn d b]:List (List Int))).map cS) true),(901,.dead)]) (Weak.trans (F1:=[(0,.yl 900),(1,.rp (cP b (2^(d+1)))),(3,iv ((2^d:Nat):Int))]) (H1:=[(900,.lp r0 [(18,.fn (.func 149) [.rp (cP b (2^(d+1)))]),(7,.ptr 7 0 0),(2,.rp [(.fn (.func 119) [.rp [.rs 5 (ls.map cLf)]])])]),(7,.cells 47 1 [[.sl 25 0 (([]++[Qu kn d b]:List (List Int))).length]] false),(25,.cells 9 1 ((([]++[Qu kn d b]:List (List Int))).map cS) true),(901,.dead)]) (Qb (Qa rfl rfl) (kS rfl rfl) (fun i hi=>by simp [Qh] at hi ⊢; omega)) (Weak.trans (F1:=[(0,.yl 900),(1,.rp (cP b (2^(d+1)))),(3,iv ((2^d:Nat):Int))]) (Q2 (i:=25) (i':=903) (k:=7) rfl rfl (.cons rfl (.same _) (.cons rfl (.same _) (.cons rfl (.same _) (.nil)))) (by decide) rfl (.sl _ _)) (Qb (Qa rfl rfl) (kS rfl rfl) (fun i hi=>by simp [Qh] at hi ⊢; omega)))) (gK 5 rfl (QS (c:=((b+2^d:Nat):Int)) rfl rfl rfl (addNW (by omega)) (gR 2 rfl ?_)))))))))))
 refine rs_yield [(900,.lp r0 [(18,.fn (.func 149) [.rp (cP b (2^(d+1)))]),(7,.ptr 7 0 0),(2,.rp [(.fn (.func 119) [.rp [.rs 5 (ls.map cLf)]])])]),(7,.cells 47 1 [[.sl 903 0 (([]++[Qu kn d b]:List (List Int))).length]] false),(903,.cells 9 1 ((([]++[Qu kn d b]:List (List Int))).map cS) true)] rfl rfl rfl (hy (b+2^d) ([]++[Qu kn d b]:List (List Int)) (by omega) (by simp)) (.cons (Qd rfl) (.cons (Qd rfl) (.nil))) (.cons rfl (.cons rfl (.cons rfl (.nil)))) rfl rfl rfl (gR 1 rfl ?_)
 exact Qt <| ⟨[],[(900,.lp r0 [(18,.fn (.func 149) [.rp (cP b (2^(d+1)))]),(7,.ptr 7 0 0),(2,.rp [(.fn (.func 119) [.rp [.rs 5 (ls.map cLf)]])])]),(7,.cells 47 1 [[.sl 903 0 (([]++[Qu kn d b]++[Qu kn d (b+2^d)]:List (List Int))).length]] false),(903,.cells 9 1 ((([]++[Qu kn d b]++[Qu kn d (b+2^d)]:List (List Int))).map cS) true),(901,.dead)],(Weak.trans (F1:=[]) (H1:=[(900,.lp r0 [(18,.fn (.func 149) [.rp (cP b (2^(d+1)))]),(7,.ptr 7 0 0),(2,.rp [(.fn (.func 119) [.rp [.rs 5 (ls.map cLf)]])])]),(7,.cells 47 1 [[.sl 25 0 (([]++[Qu kn d b]++[Qu kn d (b+2^d)]:List (List Int))).length]] false),(25,.cells 9 1 ((([]++[Qu kn d b]++[Qu kn d (b+2^d)]:List (List Int))).map cS) true),(901,.dead)]) (Qb (.nil) (kS rfl rfl) (fun i hi=>by simp [Qh] at hi ⊢; omega)) (Weak.trans (F1:=[]) (Q2 (i:=25) (i':=903) (k:=7) rfl rfl (.nil) (by decide) rfl (.sl _ _)) (Qb (.nil) (kS rfl rfl) (fun i hi=>by simp [Qh] at hi ⊢; omega)))),Jv (.inl rfl) rfl sm (kS rfl rfl) (.cons rfl rfl rfl (.cons rfl rfl rfl (.dead rfl rfl (.nil))))⟩
def mcv69:MC:=(sq [oN 2 (.box 112 1 0) [],oN 3 (.box 110 2 1) [],oN 4 (.mv (.c (.str (strN [])))) []] (.seq (sq [oD 10 1 2 [],oL 11 2 3 [],oN 12 (.callv 10 [11]) [0,1],oM 9 12 [2],oN 13 (.ext 9 0) [3],oN 14 (.ext 9 1) [3],oM 5 13 (4::2::up 5),oM 6 14 (5::6::up 7)] (sq [oM 15 6 []] (.cond 15 (sq [oM 16 5 [],oM 4 16 [0,0]] .ret) .skip))) (sq [oN 7 (.alloc 47 1 [.nils]) []] (.seq (sq [oL 17 2 3 [],oC 18 118 [17] [0]] (.block 0 (.rfunc 18 [19] (rg [oN 8 (.alloc 110 2 (iz 2)) [],oS 2 8 19 [0,0]]) (.block 1 (dg [oD 20 1 7 [],oD 21 1 2 [],oL 22 2 8 [],oC 23 69 [21,22] [1,2],oN 24 (.bslice 9 1 [(.str (strN []))] 1 [(0,23)]) [3],oN 25 (.app 9 1 16 [(.str (strN []))] 20 24) [0,4,3],oS 1 7 25 (5::5::up 6)]))))) (dq [oD 26 1 7 [],oX 27 1 26 (cI 0) [0],oD 28 1 27 [1],oD 29 1 7 [],oX 30 1 29 (cI 1) [3],oD 31 1 30 [4],oC 32 43 [28,31] [2,5],oM 4 32 (6::6::up 7)] .ret)))))
theorem mcOkv69:okM Tryz.prog Tryz.f69 33=some mcv69:=by kernel_rfl
theorem vc69_01 (ls:List Lf) (kn:Nat->Nat->Option (List Int)) (hkn:KnOK kn) (hkf:∀ b m,b+m<=64->FC Tryz.prog 119 [.agg (cP b m),.rp [.rs 5 (ls.map cLf)]] [] (.tup [.str (strN ((kn (b) (m)).getD [])),.bool (kn (b) (m)).isSome]) [] false) (b:Nat) (hb:b+2^0<=64):FC Tryz.prog 69 [(.fn (.func 119) [.rp [.rs 5 (ls.map cLf)]]),.agg (cP b (2^0))] [] (.str (strN (Qu kn 0 b))) [] false:=by
 have hs:=hkn.one b
 refine Qg (nt:=33) Tryz.func69 rfl rfl mcOkv69 (nL rfl) ?_
 delta mcv69
 refine gA 11 rfl (Xq [] rfl rfl (by kernel_rfl) rfl (fc_up (hkf b (2^(0)) (by omega))) (.cons (Qd rfl) (.cons (Qd rfl) (.nil))) .nil rfl rfl rfl (gR 3 rfl ?_))
 rw [show kn b (2^0)=kn b 1 from rfl,hs]
 refine gI 14 rfl ?_
 exact rQ
theorem vc69_s1 (ls:List Lf) (kn:Nat->Nat->Option (List Int)) (hkn:KnOK kn) (hkf:∀ b m,b+m<=64->FC Tryz.prog 119 [.agg (cP b m),.rp [.rs 5 (ls.map cLf)]] [] (.tup [.str (strN ((kn (b) (m)).getD [])),.bool (kn (b) (m)).isSome]) [] false) (d b:Nat) (hb:b+2^(d+1)<=64) (ih:∀ c,c+2^d<=64->FC Tryz.prog 69 [(.fn (.func 119) [.rp [.rs 5 (ls.map cLf)]]),.agg (cP c (2^d))] [] (.str (strN (Qu kn d c))) [] false):FC Tryz.prog 69 [(.fn (.func 119) [.rp [.rs 5 (ls.map cLf)]]),.agg (cP b (2^(d+1)))] [] (.str (strN (Qu kn (d+1) b))) [] false:=by
 have h8a:=hkn.tree d b
 have h8b:=hkn.tree d (b+2^d)
 refine Qg (nt:=33) Tryz.func69 rfl rfl mcOkv69 (nL rfl) ?_
 delta mcv69
 refine gA 11 rfl (Xq [] rfl rfl (by kernel_rfl) rfl (fc_up (hkf b (2^(d+1)) (by omega))) (.cons (Qd rfl) (.cons (Qd rfl) (.nil))) .nil rfl rfl rfl (gR 3 rfl ?_))
 cases h14:(kn b (2^(d+1))).isSome
 ·skip
  refine gI 17 rfl (Qr [] rfl rfl (vc118 (b,2^(d+1))) (.cons (Qd rfl) .nil) .nil rfl rfl rfl (gR 2 rfl (QH (F0:=[(18,.fn (.func 149) [.rp (cP b (2^(d+1)))]),(7,.ptr 7 0 0),(2,.rp [(.fn (.func 119) [.rp [.rs 5 (ls.map cLf)]])])]) (H0:=[(7,.cells 47 1 [[.sl 901 0 (([]:List (List Int))).length]] false),(901,.cells 9 1 ((([]:List (List Int))).map cS) true)]) (Weak.trans (F1:=[(18,.fn (.func 149) [.rp (cP b (2^(d+1)))]),(7,.ptr 7 0 0),(2,.rp [(.fn (.func 119) [.rp [.rs 5 (ls.map cLf)]])])]) (H1:=[(7,.cells 47 1 [[.nils]] true)]) (Qb (.cs (.cs (.cons rfl (Jc rfl rfl (.inl rfl)) (.nil)))) (.keep rfl rfl .nil) nz) (Weak.trans (F1:=[(18,.fn (.func 149) [.rp (cP b (2^(d+1)))]),(7,.ptr 7 0 0),(2,.rp [(.fn (.func 119) [.rp [.rs 5 (ls.map cLf)]])])]) (weak_seed (i:=901) (k:=7) (e:=47) (z:=1) (e2:=9) (z2:=1) (fl:=true) (fl2:=true) rfl rfl) (Qb (Qa rfl rfl) (kS rfl rfl) (fun i h=>by cases h)))) (aw_rfunc 900 [(7,.cells 47 1 [[.sl 901 0 (([]:List (List Int))).length]] false),(901,.cells 9 1 ((([]:List (List Int))).map cS) true)] [(7,.cells 47 1 [[.sl 903 0 (([]++[Qu kn d b]++[Qu kn d (b+2^d)]:List (List Int))).length]] false),(903,.cells 9 1 ((([]++[Qu kn d b]++[Qu kn d (b+2^d)]:List (List Int))).map cS) true),(901,.dead)] (.inl ⟨rfl,rfl⟩) rfl (by kernel_rfl) rfl rfl rfl (.cons rfl (.cons rfl (.nil))) rfl rfl rfl rfl (fun r0 hrec=>⟨r0,(by rw [hrec.state]; intro h; cases h),hrec.pending,vc149d1 ls kn d b hb r0 (fun c l hc hl=>y69_1 ls kn d b c l hc hl ih r0 hrec)⟩) (gP 3 rfl (JG rfl rfl rfl rfl (by decide) (by simp) (gR 2 rfl (JG rfl rfl rfl rfl (by decide) (by simp) (gR 1 rfl (cN rfl rfl (vc43 (Qu kn d b) (Qu kn d (b+2^d)) h8a h8b) (gR 1 rfl ?_)))))))))))
  refine Q9 (by kernel_rfl) (gP 1 rfl ?_)
  rw [treeD_f h14]
  exact rQ
 ·skip
  refine gI 14 rfl ?_
  rw [treeD_t h14]
  exact rQ
theorem vc69_1 (ls:List Lf) (kn:Nat->Nat->Option (List Int)) (hkn:KnOK kn) (hkf:∀ b m,b+m<=64->FC Tryz.prog 119 [.agg (cP b m),.rp [.rs 5 (ls.map cLf)]] [] (.tup [.str (strN ((kn (b) (m)).getD [])),.bool (kn (b) (m)).isSome]) [] false):∀ (d b:Nat),b+2^d<=64->FC Tryz.prog 69 [(.fn (.func 119) [.rp [.rs 5 (ls.map cLf)]]),.agg (cP b (2^d))] [] (.str (strN (Qu kn d b))) [] false
 | 0,b,hb=>vc69_01 ls kn hkn hkf b hb
 | d+1,b,hb=>vc69_s1 ls kn hkn hkf d b hb fun c hc=>vc69_1 ls kn hkn hkf d c hc
end Go.Proofs.YthfhaoogcpfboaaGreat
namespace Go.Proofs.YthfhaoogcpfboaaGreat
open Go.RowKit
set_option maxRecDepth 100000
set_option linter.unusedVariables false
instance:Inhabited Lf:=⟨⟨0,0,false,false,[]⟩⟩
structure Shn where
 size:Int
 leaves:List Lf
 hid:List (List Int)
 deriving DecidableEq
abbrev cSh (s:Shn):List AV:=[.int .i64 s.size,.rs 5 (s.leaves.map cLf),.rs 1 (s.hid.map cS)]
def selF (ls:List Lf) (i:Int):Lf:=ls.getD i.toNat default
theorem selF_at {ls:List Lf} {i:Int} {x:Lf} (h:ls[i.toNat]?=some x):selF ls i=x:=by unfold selF; rw [List.getD_eq_getElem?_getD,h]; rfl
def Jq (ls:List Lf) (s:Nat×Nat):List Int:=Qu (ofK ls) (lg s.2) s.1
def showS (ls:List Lf) (w:List Int):Shn:=⟨ls.length,w.map (selF ls),(JE ls.length w).map (Jq ls)⟩
theorem lg_pow {e:Nat} (h:e<=6):lg (2^e)=e:=by
 have:∀ e:Fin 7,lg (2^e.val)=e.val:=by decide
 exact this ⟨e,by omega⟩
theorem lg_6 (n:Nat):lg n<=6:=by
 unfold lg
 (repeat' split) <;> decide
theorem hid1_mem {n:Nat} {w:List Int} {b d:Nat} {r:List (Nat×Nat)} {s:Nat×Nat} (h:s∈hid1 n w b d r):s∈r\/(s=(b,2^d)/\b<n):=by
 unfold hid1 at h
 split at h
 ·cases h
 ·split at h
  ·exact .inl h
  ·exact .inr ⟨List.mem_singleton.1 h,by omega⟩
theorem hidS_mem {n:Nat} {w:List Int}:∀ {d b:Nat} {s:Nat×Nat},s∈QG n w d b->∃ c e,s=(c,2^e)/\e<=d/\b<=c/\c+2^e<=b+2^d/\c<n
 | 0,b,s,h=>(hid1_mem h).elim (fun h=>by cases h) fun h=>⟨b,0,h.1,Nat.le_refl _,Nat.le_refl _,Nat.le_refl _,h.2⟩
 | d+1,b,s,h=>by
  have:=pow2 d
  rcases hid1_mem h with h | h
  ·rcases List.mem_append.1 h with h | h
   ·obtain ⟨c,e,h1,h2,h3,h4,h5⟩:=hidS_mem h
    exact ⟨c,e,h1,by omega,h3,by omega,h5⟩
   ·obtain ⟨c,e,h1,h2,h3,h4,h5⟩:=hidS_mem h
    exact ⟨c,e,h1,by omega,by omega,by omega,h5⟩
  ·exact ⟨b,d+1,h.1,Nat.le_refl _,Nat.le_refl _,Nat.le_refl _,h.2⟩
theorem hidA_mem {n:Nat} {w:List Int} (hn:n<=16) {s:Nat×Nat} (h:s∈JE n w):∃ c e,s=(c,2^e)/\e<=6/\c+2^e<=16/\c<n:=by
 obtain ⟨c,e,h1,h2,_,h4,h5⟩:=hidS_mem h
 have:=lg16 hn
 exact ⟨c,e,h1,Nat.le_trans h2 (lg_6 n),by omega,h5⟩
structure LvsOK (ls:List Lf):Prop where
 n:1<=ls.length/\ls.length<=16
 ix:∀ (k:Nat) (x:Lf),ls[k]?=some x->x.ix=(k:Int)
 ok:∀ x∈ls,x.OK
theorem LvsOK.ls {ls:List Lf} (h:LvsOK ls):LsOK ls:=⟨by have:=h.n; omega,h.ok⟩
structure IxOK (n:Nat) (w:List Int):Prop where
 bd:∀ x∈w,0<=x/\x<(n:Int)
 inc:∀ (k:Nat) (a b:Int),w[k]?=some a->w[k+1]?=some b->a<b
 n:w.length<=16
theorem IxOK.out {n:Nat} {w:List Int} (h:∀ x∈w,0<=x/\x<(n:Int)):w.any (Um n)=false:=by
 rw [List.any_eq_false]
 intro x hx
 have:=h x hx
 simp only [Um,Bool.or_eq_true,decide_eq_true_eq]
 omega
theorem sel_succ {ls:List Lf} {w:List Int} {k:Nat} {i:Int} {x:Lf} (h:w[k]?=some i) (hx:ls[i.toNat]?=some x):(w.take (k+1)).map (selF ls)=(w.take k).map (selF ls)++[x]:=by
 rw [Q3 h,List.map_append]
 show _++[selF ls i]=_
 rw [selF_at hx]
theorem hidT_succ {ls:List Lf} {l:List (Nat×Nat)} {k c e:Nat} (h:l[k]?=some (c,2^e)) (he:e<=6):(l.take (k+1)).map (Jq ls)=(l.take k).map (Jq ls)++[Qu (ofK ls) e c]:=by
 rw [Q3 h,List.map_append]
 show _++[Qu (ofK ls) (lg (2^e)) c]=_
 rw [lg_pow he]
def mcv22:MC:=(sq [oN 4 (.alloc 55 3 [(iv 0),.nils,.nils]) [],oN 5 (.mv (cI 0)) []] (sq [oM 14 0 [],oE 15 14 [0],oN 6 (.alloc 3 1 [(iv 0)]) [],oS 1 6 15 [2,1,0,1,2]] (.seq (sq [oD 16 1 6 [],oB 17 .eql 16 (cI 0) [0],oM 18 17 [1],pD 19 1 6 18 false [2],oG 20 (.bin .gtr 19 (cI 16)) 18 false [3,2],oN 21 (.pick 18 (.c (.bool true)) 20) [2,4]] (.cond 21 (sq [oN 22 (.build [(iv 0),.nils,.nils] []) [],oS 3 4 22 [0,0],oN 5 (.mv (cI 2)) [1,0,1]] .ret) .skip)) (.seq (sq [oM 23 0 [],oE 24 23 [0],oN 25 (.mv (cI 0)) []] (.block 0 (.loop (sq [oB 26 .lss 25 24 []] (.seq (.cond 26 .skip (.exit 0)) (.seq (.block 1 (sq [oM 27 25 [],oX 28 5 23 25 [],oL 29 5 28 [1],oN 8 (.alloc 51 5 [(iv 0),(iv 0),(.bool false),(.bool false),(.str (strN []))]) [],oM 7 27 (0::up 4),oS 5 8 29 (3::2::4::up 5)] (sq [oA 30 0 8 [],oD 31 1 30 [0],oM 32 7 [],oB 33 .neq 31 32 [1,2]] (.cond 33 (sq [oN 34 (.build [(iv 0),.nils,.nils] []) [],oS 3 4 34 [0,0],oN 5 (.mv (cI 4)) [1,0,1]] .ret) .skip)))) (rg [oB 35 .add 25 (cI 1) [],oM 25 35 [0]]))))))) (.seq (sq [oM 36 1 [],oN 37 (.mkfn (.func 66) [6]) [],oC 38 65 [36,37] [0,1]] (.cond 38 (sq [oN 39 (.build [(iv 0),.nils,.nils] []) [],oS 3 4 39 [0,0],oN 5 (.mv (cI 5)) [1,0,1]] .ret) .skip)) (sq [oD 40 1 6 [],oN 41 (.build [(iv 0),.nils,.nils] [(0,1,40)]) [0],oN 9 (.alloc 55 3 [(iv 0),.nils,.nils]) [],oS 3 9 41 [2,1,0,1,2]] (.seq (sq [oM 42 1 [],oE 43 42 [0],oN 44 (.mv (cI 0)) []] (.block 2 (.loop (sq [oB 45 .lss 44 43 []] (.seq (.cond 45 .skip (.exit 2)) (.seq (.block 3 (sq [oM 46 44 [],oX 47 1 42 44 [],oD 48 1 47 [1],oM 10 46 [0,0,1,2],oM 11 48 (2::3::up 4)] (.seq (sq [oM 49 10 [],oB 50 .gtr 49 (cI 0) [0],oM 51 50 [1],pM 52 1 51 true [2],pM 53 10 51 true [2],oG 54 (.bin .sub 53 (cI 1)) 51 true [4,2],oG 55 (.ixsl 1 52 54) 51 true [3,5,2],pD 56 1 55 51 true [6,2],pM 57 11 51 true [2],oG 58 (.bin .geq 56 57) 51 true [7,8,2],oN 59 (.pick 51 58 (.c (.bool false))) [2,9]] (.cond 59 (sq [oN 60 (.build [(iv 0),.nils,.nils] []) [],oS 3 4 60 [0,0],oN 5 (.mv (cI 7)) [1,0,1]] .ret) .skip)) (dg [oA 61 1 9 [],oD 62 1 61 [0],oM 63 0 [],oM 64 11 [],oX 65 5 63 64 [2,3],oL 66 5 65 [4],oN 67 (.bslice 51 5 [(iv 0),(iv 0),(.bool false),(.bool false),(.str (strN []))] 1 [(0,66)]) [5],oN 68 (.app 51 5 40 [(iv 0),(iv 0),(.bool false),(.bool false),(.str (strN []))] 62 67) [1,6],oA 69 1 9 (up 8),oS 1 69 68 (8::7::7::up 8)])))) (rg [oB 70 .add 44 (cI 1) [],oM 44 70 [0]]))))))) (.seq (sq [oD 71 1 6 [],oM 72 1 [],oC 73 67 [71,72] [0,1],oE 74 73 [2],oN 75 (.mv (cI 0)) []] (.block 4 (.loop (sq [oB 76 .lss 75 74 []] (.seq (.cond 76 .skip (.exit 4)) (.seq (.block 5 (sq [oX 77 2 73 75 [],oL 78 2 77 [0],oN 13 (.alloc 110 2 (iz 2)) [],oS 2 13 78 [2,1,0,1,2]] (dg [oA 79 2 9 [],oD 80 1 79 [0],oM 81 0 [],oC 82 68 [81] [2],oL 83 2 13 [],oC 84 69 [82,83] [3,4,3],oN 85 (.bslice 9 1 [(.str (strN []))] 1 [(0,84)]) [5],oN 86 (.app 9 1 16 [(.str (strN []))] 80 85) [1,6,5],oA 87 2 9 (up 8),oS 1 87 86 (8::7::7::up 8)]))) (rg [oB 88 .add 75 (cI 1) [],oM 75 88 [0]]))))))) (sq [oL 89 3 9 [],oS 3 4 89 [0,0],oN 5 (.mv (cI 0)) [1,0,1]] .ret)))))))))
theorem mcOkv22:okM Tryz.prog Tryz.f22 90=some mcv22:=by kernel_rfl
end Go.Proofs.YthfhaoogcpfboaaGreat
namespace Go.Proofs.YthfhaoogcpfboaaGreat
open Go.RowKit
set_option maxRecDepth 100000
set_option linter.unusedVariables false
section
variable {P:Program} {N:Nat} {F:Fr} {H:Hp} {ml:List MOper} {K:List Fp->Fr->Hp->Prop} {g:Option (Nat×Bool)} {pre:List Nat} {d:Nat}
theorem QF {a n e z:Nat} {x i:Arg} {k:IntKind} {t:Int} {els:List (List AV)} {fl:Bool} (hg:gOK F g=true) (hx:Qj F x=some (.sl a 0 n)) (hi:Qj F i=some (.int k t)) (ha:get H a=some (.cells e z els fl)) (h0:0<=t) (h1:t<n)
  (h:RS P N ml ((d,.ptr a t.toNat 0)::F) H (fun fps=>K (([a],[])::fps))):RS P N (⟨some d,.ixsl z x i,g,pre⟩::ml) F H K:=JG hg hx hi ha h0 h1 (by simpa using h)
end
theorem hv_int {H Hs:Hp} {rd:List Nat} {al:Bool} {k:IntKind} {a b:Int} (h:a=b):HV H Hs rd al (.int k a) (.int k b):=by subst h; exact Qd rfl
abbrev XR (lv:List Lf):List Int:=lv.map Lf.ix
theorem ixs_succ {lv:List Lf} {k:Nat} {x:Lf} (h:lv[k]?=some x):XR (lv.take (k+1))=XR (lv.take k)++[x.ix]:=by unfold XR; rw [Q3 h,List.map_append]; rfl
def shortB (d:List Int):Bool:=decide ((d.length:Int)≠8)
def spEq (b m:Nat) (x:Nat×Nat):Bool:=decide (x=(b,m))
theorem spEq_aeq (b m:Nat) (x:Nat×Nat):(false != decide ([(b:Int),(m:Int)]=[(x.1:Int),(x.2:Int)]))=spEq b m x:=by
 obtain ⟨c,e⟩:=x
 by_cases h:(c,e)=(b,m)
 ·injection h with h1 h2; subst h1 h2; simp [spEq]
 ·have h2:¬ ([(b:Int),(m:Int)]=[(c:Int),(e:Int)]):=fun q=>h (by
   simp only [List.cons.injEq,and_true] at q
   have h1:=Int.ofNat_inj.1 q.1
   have h2:=Int.ofNat_inj.1 q.2
   rw [h1,h2])
  simp [spEq,h,h2]
def incF (z:Int):Int->List Int->Bool
 | _,[]=>true
 | p,x::l=>decide (0<=x)&&decide (x<z)&&decide (p<x)&&incF z x l
theorem incF_at {z p x:Int} {l:List Int} {k:Nat} (h:l[k]?=some x):incF z p (l.drop k)=(decide (0<=x)&&decide (x<z)&&decide (p<x)&&incF z x (l.drop (k+1))):=by
 obtain ⟨hk,e⟩:=List.getElem?_eq_some_iff.1 h
 rw [List.drop_eq_getElem_cons hk,e]; rfl
theorem incF_bd {z:Int}:∀ {l:List Int} {p:Int},incF z p l=true->∀ x∈l,0<=x/\x<z/\p<x
 | [],_,_,x,hx=>by cases hx
 | y::l,p,h,x,hx=>by
  simp only [incF,Bool.and_eq_true,decide_eq_true_eq] at h
  obtain ⟨⟨⟨h1,h2⟩,h3⟩,h4⟩:=h
  rcases List.mem_cons.1 hx with rfl | hx
  ·exact ⟨h1,h2,h3⟩
  ·have:=incF_bd h4 x hx; exact ⟨this.1,this.2.1,by omega⟩
def fmS (z:Int) (lv:List Lf) (hd:List (List Int)):Option (List (Nat×Nat)) :=
 if z<1\/z>16 then none else if incF z (-1) (XR lv)=false then none else if ((JE z.toNat (XR lv)).length:Int)≠hd.length then none else if hd.any shortB=true then none else some (JE z.toNat (XR lv))
theorem fm_1 {z:Int} {lv:List Lf} {hd:List (List Int)} (h:z<1\/z>16):fmS z lv hd=none:=if_pos h
theorem fm_2 {z:Int} {lv:List Lf} {hd:List (List Int)} (h:¬ (z<1\/z>16)) (h2:incF z (-1) (XR lv)=false):fmS z lv hd=none:=by unfold fmS; rw [if_neg h,if_pos h2]
theorem fm_3 {z:Int} {lv:List Lf} {hd:List (List Int)} (h:¬ (z<1\/z>16)) (h2:incF z (-1) (XR lv)=true) (h3:((JE z.toNat (XR lv)).length:Int)≠hd.length):fmS z lv hd=none:=by unfold fmS; rw [if_neg h,if_neg (by rw [h2]; decide),if_pos h3]
theorem fm_4 {z:Int} {lv:List Lf} {hd:List (List Int)} (h:¬ (z<1\/z>16)) (h2:incF z (-1) (XR lv)=true) (h3:¬ ((JE z.toNat (XR lv)).length:Int)≠hd.length) (h4:hd.any shortB=true):fmS z lv hd=none:=by unfold fmS; rw [if_neg h,if_neg (by rw [h2]; decide),if_neg h3,if_pos h4]
theorem fm_5 {z:Int} {lv:List Lf} {hd:List (List Int)} (h:¬ (z<1\/z>16)) (h2:incF z (-1) (XR lv)=true) (h3:¬ ((JE z.toNat (XR lv)).length:Int)≠hd.length) (h4:hd.any shortB=false):fmS z lv hd=some (JE z.toNat (XR lv)):=by unfold fmS; rw [if_neg h,if_neg (by rw [h2]; decide),if_neg h3,if_neg (by rw [h4]; decide)]
def mcv80:MC:=(sq [oN 1 (.box 55 3 0) [],oN 2 (.mv (.c .nils)) []] (sq [oN 3 (.mv (.c .nils)) []] (.seq (sq [oA 6 1 1 [],oD 7 1 6 [0],oE 8 7 [1],oN 9 (.mv (cI 0)) []] (.block 0 (.loop (sq [oB 10 .lss 9 8 []] (.seq (.cond 10 .skip (.exit 0)) (.seq (.block 1 (sq [oX 11 5 7 9 [],oL 12 5 11 [0],oN 5 (.alloc 51 5 [(iv 0),(iv 0),(.bool false),(.bool false),(.str (strN []))]) [],oS 5 5 12 [2,1,0,1,2]] (rg [oM 13 3 [],oA 14 0 5 [],oD 15 1 14 [1],oN 16 (.bslice 3 1 [(iv 0)] 1 [(0,15)]) [2],oN 17 (.app 3 1 8 [(iv 0)] 13 16) [0,3],oM 3 17 (4::4::up 5)]))) (rg [oB 18 .add 9 (cI 1) [],oM 9 18 [0]]))))))) (sq [oM 19 3 [],oM 2 19 [0,0]] .ret))))
theorem mcOkv80:okM Tryz.prog Tryz.f80 20=some mcv80:=by kernel_rfl
theorem vc80 (z:Int) (lv:List Lf) (hd:List (List Int)) (hlv:lv.length<=64):FC Tryz.prog 80 [.agg [.int .i64 z,.rs 5 (lv.map cLf),.rs 1 (hd.map cS)]] [] (.rs 1 ((XR lv).map civ)) [] false:=by
 refine Qg (nt:=20) Tryz.func80 rfl rfl mcOkv80 (nL rfl) ?_
 delta mcv80
 refine gA 14 rfl (Qe rfl rfl (gR 3 rfl ?_))
 refine Qo (α:=Nat) (fun k=>lv.length-k) (fun k=>[(7,.rs 5 (lv.map cLf)),(8,iv (lv.length:Int)),(9,iv (((k):Nat):Int)),(3,.sl 901 0 (k))]) (fun k=>[(901,.cells 3 1 ((XR (lv.take (k))).map civ) true)]) (fun k=>k<=lv.length) 0 (by omega)
  (Qb (.cs (.cs (.cs (.cons rfl (Xj rfl rfl) (.nil))))) (.virt rfl (.nil)) (fun i h=>by cases h)) ?_
 intro k hk
 refine gT 5 rfl (Qc rfl (fun h10=>?_) (fun h10=>?_))
 ·replace h10:=of_decide_eq_true h10
  refine gK 5 rfl ?_
  obtain ⟨x,hxk,hxm⟩:=Qk (L:=lv) (k:=k) (by omega)
  refine Qi (f:=cLf) (y:=x) rfl rfl rfl (by omega) hxk (gR 0 rfl (Q8 (cs:=cLf x) rfl rfl (nL rfl) rfl (gR 7 rfl (bM civ (([x.ix]:List Int)) (by kernel_rfl) (gR 0 rfl (Qq (f:=civ) (xs:=XR (lv.take k)) (y:=x.ix) (fl':=true) rfl rfl rfl rfl (by simp; omega) rfl rfl rfl (by decide) rfl (by omega) (by omega) rfl (gR 3 rfl (Qf rfl rfl rfl (by omega) (gR 2 rfl ?_)))))))))
  exact Qz <| ⟨k+1,by omega,by omega,QB (i:=17) (i':=901) (F1:=[(7,.rs 5 (lv.map cLf)),(8,iv (lv.length:Int)),(9,iv (((k+1):Nat):Int)),(3,.sl 17 0 (k+1))]) (H1:=[(17,.cells 3 1 ((XR (lv.take (k+1))).map civ) true)]) (Qa rfl rfl) (.keep (by rw [ixs_succ hxk]; rfl) rfl (.nil)) (fun i h=>by cases h) rfl rfl (.cons rfl (.same _) (.cons rfl (.same _) (.cons rfl (.same _) (.cons rfl (.sl _ _) (.nil))))) (Qa rfl rfl) (.keep rfl rfl .nil) nz⟩
 ·replace h10:=of_decide_eq_false h10
  refine gK 7 rfl ?_
  obtain rfl:k=lv.length:=by omega
  rw [show XR lv=XR (lv.take lv.length) by rw [List.take_of_length_le (Nat.le_refl _)]]
  exact Qt <| Ql rfl (Q5 rfl rfl (by simp) (fun _=>rfl)) .nil
def mcv122:MC:=(sq [oN 2 (.mv (.c (.bool false))) []] (sq [oM 3 0 [],oN 4 (.slen 3) [0],oC 5 44 [] [],oN 6 (.slen 5) [2],oB 7 .neq 4 6 [1,3],oM 2 7 (4::2::up 5)] .ret))
theorem mcOkv122:okM Tryz.prog Tryz.f122 8=some mcv122:=by kernel_rfl
theorem vc122 (d:List Int):FC Tryz.prog 122 [.str (strN d)] [] (.bool (shortB d)) [] false:=by
 refine Qg (nt:=8) Tryz.func122 rfl rfl mcOkv122 (nL rfl) ?_
 delta mcv122
 refine gA 7 rfl (rs_slen rfl rfl (gR 0 rfl (cN rfl rfl (vc44) (gR 0 rfl (rs_slen rfl rfl (gR 0 rfl (Xv rfl rfl rfl (gR 3 rfl ?_))))))))
 exact rQ
def mcv150:MC:=(sq [oN 4 (.mv (cI 0)) []] (.seq (sq [oM 6 0 [],oE 7 6 [0],oN 8 (.mv (cI 0)) []] (.block 0 (.loop (sq [oB 9 .lss 8 7 []] (.seq (.cond 9 .skip (.exit 0)) (.seq (.block 1 (sq [oM 10 8 [],oM 5 10 [0,0]] (sq [oM 11 1 [],oM 12 0 [],oM 13 5 [],oX 14 1 12 13 [1,2],oD 15 1 14 [3],oN 16 (.callv 11 [15]) [0,4]] (.cond 16 (sq [oM 17 5 [],oM 4 17 [0,0]] .ret) .skip)))) (rg [oB 18 .add 8 (cI 1) [],oM 8 18 [0]]))))))) (sq [oN 4 (.mv (cI (-1))) []] .ret)))
theorem mcOkv150:okM Tryz.prog Tryz.f150 19=some mcv150:=by kernel_rfl
theorem vcI_short (xs:List (List Int)) (hxn:xs.length<=4611686018427387904):FC Tryz.prog 150 [.rs 1 (xs.map cS),(.fn (.func 122) [])] [] (.int .i64 (XY shortB xs 0)) [] false:=by
 refine Qg (nt:=19) Tryz.func150 rfl rfl mcOkv150 (nL rfl) ?_
 delta mcv150
 refine gA 8 rfl (Qe rfl rfl (gR 3 rfl ?_))
 refine Qo (α:=Nat) (fun k=>xs.length-k) (fun k=>[(0,.rs 1 (xs.map cS)),(1,(.fn (.func 122) [])),(6,.rs 1 (xs.map cS)),(7,iv (xs.length:Int)),(8,iv (((k):Nat):Int))]) (fun k=>[]) (fun k=>k<=xs.length/\XY shortB (xs.drop k) k=XY shortB xs 0) 0 (⟨by omega,rfl⟩)
  (Qb (Qa rfl rfl) (.nil) (fun i h=>by cases h)) ?_
 rintro k ⟨hk,hinv⟩
 refine gT 5 rfl (Qc rfl (fun h9=>?_) (fun h9=>?_))
 ·replace h9:=of_decide_eq_true h9
  refine gK 13 rfl ?_
  obtain ⟨x,hxk,hxm⟩:=Qk (L:=xs) (k:=k) (by omega)
  rw [Ut hxk] at hinv
  refine Qi (f:=cS) (y:=x) rfl rfl rfl (by omega) hxk (gR 1 rfl (Xq [] rfl rfl (by kernel_rfl) rfl (fc_up (vc122 x)) (.cons (Qd rfl) (.nil)) .nil rfl rfl rfl ?_))
  cases h16:shortB x
  ·skip
   refine gR 4 rfl (Qf rfl rfl rfl (by omega) (gR 2 rfl ?_))
   rw [h16] at hinv
   exact Qz <| ⟨k+1,⟨by omega,hinv⟩,by omega,Qb (Qa rfl rfl) (.nil) (fun i h=>by cases h)⟩
  ·skip
   refine gR 8 rfl ?_
   rw [h16] at hinv
   rw [← hinv]
   exact rQ
 ·replace h9:=of_decide_eq_false h9
  refine gK 6 rfl ?_
  rw [JN (by omega)] at hinv
  rw [← hinv]
  exact rQ
def mcv123:MC:=(sq [oN 4 (.mv (.c (.bool false))) []] (sq [oM 5 0 [],oM 6 1 [],oC 7 150 [5,6] [0,1],oB 8 .geq 7 (cI 0) [2],oM 4 8 (3::2::up 4)] .ret))
theorem mcOkv123:okM Tryz.prog Tryz.f123 9=some mcv123:=by kernel_rfl
theorem vcC_short (xs:List (List Int)) (hxn:xs.length<=4611686018427387904):FC Tryz.prog 123 [.rs 1 (xs.map cS),(.fn (.func 122) [])] [] (.bool (xs.any shortB)) [] false:=by
 refine Qg (nt:=9) Tryz.func123 rfl rfl mcOkv123 (nL rfl) ?_
 delta mcv123
 refine gA 8 rfl (cN rfl rfl (vcI_short xs hxn) (gR 0 rfl (XZ rfl rfl rfl (gR 3 rfl ?_))))
 rw [← JB]
 exact rQ
def mcv72:MC:=(sq [oN 1 (.box 55 3 0) [],oN 2 (.mv (.c .nils)) [],oN 3 (.mv (.c (.bool false))) [1]] (.seq (sq [oA 9 0 1 [],oD 10 1 9 [0],oB 11 .lss 10 (cI 1) [1],oM 12 11 [2],pA 13 0 1 12 false [3],pD 14 1 13 12 false [4,3],oG 15 (.bin .gtr 14 (cI 16)) 12 false [5,3],oN 16 (.pick 12 (.c (.bool true)) 15) [3,6]] (.cond 16 (sq [oN 2 (.mv (.c .nils)) [],oN 3 (.mv (.c (.bool false))) [0,0]] .ret) .skip)) (sq [oL 17 3 1 [],oC 18 80 [17] [0],oM 4 18 [1,1,0,1]] (.seq (sq [oM 19 4 [],oE 20 19 [0],oN 21 (.mv (cI 0)) []] (.block 0 (.loop (sq [oB 22 .lss 21 20 []] (.seq (.cond 22 .skip (.exit 0)) (.seq (.block 1 (sq [oM 23 21 [],oX 24 1 19 21 [],oD 25 1 24 [1],oM 5 23 [0,0,1,2],oM 6 25 (2::3::up 4)] (sq [oM 26 6 [],oB 27 .lss 26 (cI 0) [0],oM 28 27 [1],pM 29 6 28 false [2],pA 30 0 1 28 false [2],pD 31 1 30 28 false [4,2],oG 32 (.bin .geq 29 31) 28 false [3,5,2],oN 33 (.pick 28 (.c (.bool true)) 32) [2,6],oM 34 33 [7,2],pM 35 5 34 false [8],oG 36 (.bin .gtr 35 (cI 0)) 34 false [9,8],pM 37 36 34 false [10,8,8],pM 38 4 37 true [11],pM 39 5 37 true [11],oG 40 (.bin .sub 39 (cI 1)) 37 true [13,11],oG 41 (.ixsl 1 38 40) 37 true [12,14,11],pD 42 1 41 37 true [15,11],pM 43 6 37 true [11],oG 44 (.bin .geq 42 43) 37 true [16,17,11],oG 45 (.pick 37 44 (.c (.bool false))) 34 false [11,18,8],oN 46 (.pick 34 (.c (.bool true)) 45) [8,19]] (.cond 46 (sq [oN 2 (.mv (.c .nils)) [],oN 3 (.mv (.c (.bool false))) [0,0]] .ret) .skip)))) (rg [oB 47 .add 21 (cI 1) [],oM 21 47 [0]]))))))) (sq [oA 48 0 1 [],oD 49 1 48 [0],oM 50 4 [],oC 51 67 [49,50] [1,2],oM 7 51 (3::3::up 4)] (sq [oN 8 (.mv (.c (.fn (.func 122) []))) []] (.seq (sq [oM 52 7 [],oE 53 52 [0],oA 54 2 1 [],oD 55 1 54 [2],oE 56 55 [3],oB 57 .neq 53 56 [1,4],oM 58 57 [5],pA 59 2 1 58 false [6],pD 60 1 59 58 false [7,6],pM 61 8 58 false [6],oG 62 (.call 123 [60,61]) 58 false [8,9,6,6],oN 63 (.pick 58 (.c (.bool true)) 62) [6,10]] (.cond 63 (sq [oN 2 (.mv (.c .nils)) [],oN 3 (.mv (.c (.bool false))) [0,0]] .ret) .skip)) (sq [oM 64 7 [],oM 2 64 [0,0],oN 3 (.mv (.c (.bool true))) [1,0,1]] .ret))))))))
theorem mcOkv72:okM Tryz.prog Tryz.f72 65=some mcv72:=by kernel_rfl
theorem vc72 (z:Int) (lv:List Lf) (hd:List (List Int)) (hlv:lv.length<=64) (hhd:hd.length<=64):FC Tryz.prog 72 [.agg [.int .i64 z,.rs 5 (lv.map cLf),.rs 1 (hd.map cS)]] [] (.tup [.rs 2 (((fmS z lv hd).getD []).map cSp),.bool (fmS z lv hd).isSome]) [] true:=by
 have hil:(XR lv).length=lv.length:=by simp
 refine Qg (nt:=65) Tryz.func72 rfl rfl mcOkv72 (nL rfl) ?_
 delta mcv72
 refine gA 11 rfl (Qx rfl rfl rfl rfl (fun h11=>?_) (fun h11=>?_))
 ·skip
  refine gR 13 rfl ?_
  rw [fm_1 (by omega)]
  exact Qt <| Ql rfl (QI (.cons Qy (.cons (Qs rfl (.inr rfl)) .nil))) .nil
 ·skip
  refine gR 3 rfl (Qx rfl rfl rfl rfl (fun h15=>?_) (fun h15=>?_))
  ·skip
   refine gR 9 rfl ?_
   rw [fm_1 (by omega)]
   exact Qt <| Ql rfl (QI (.cons Qy (.cons (Qs rfl (.inr rfl)) .nil))) .nil
  ·skip
   refine gR 7 rfl (cN rfl rfl (vc80 z lv hd hlv) (gR 6 rfl (Qe rfl rfl (gR 3 rfl ?_))))
   refine Qo (α:=Nat×Int) (fun s=>(XR lv).length-s.1) (fun s=>[(1,.ptr 1 0 0),(4,.rs 1 ((XR lv).map civ)),(19,.rs 1 ((XR lv).map civ)),(20,iv ((XR lv).length:Int)),(21,iv (((s.1):Nat):Int))]) (fun s=>[(1,.cells 55 3 [[.int .i64 z,.rs 5 (lv.map cLf),.rs 1 (hd.map cS)]] true)]) (fun s=>s.1<=(XR lv).length/\(s.1=0/\s.2 = -1\/1<=s.1/\(XR lv)[s.1-1]?=some s.2)/\incF z s.2 ((XR lv).drop s.1)=incF z (-1) (XR lv)) (0,-1) (⟨by omega,.inl ⟨rfl,rfl⟩,rfl⟩)
    (Qb (Qa rfl rfl) (.keep rfl rfl .nil) nz) ?_
   rintro ⟨k,p⟩ ⟨hk,hp,hinv⟩
   dsimp only at hk hp hinv ⊢
   refine gT 5 rfl (Qc rfl (fun h22=>?_) (fun h22=>?_))
   ·replace h22:=of_decide_eq_true h22
    refine gK 6 rfl ?_
    obtain ⟨x,hxk,hxm⟩:=Qk (L:=XR lv) (k:=k) (by omega)
    rw [incF_at hxk] at hinv
    refine Qi (f:=civ) (y:=x) rfl rfl rfl (by omega) hxk (gR 7 rfl (Qx rfl rfl rfl rfl (fun h27=>?_) (fun h27=>?_)))
    ·skip
     refine gR 27 rfl ?_
     rw [fm_2 (by omega) (by rw [← hinv]; simp only [Bool.and_eq_false_iff,decide_eq_false_iff_not]; omega)]
     exact Qt <| Ql rfl (QI (.cons Qy (.cons (Qs rfl (.inr rfl)) .nil))) .nil
    ·skip
     refine gR 4 rfl (Qx rfl rfl rfl rfl (fun h32=>?_) (fun h32=>?_))
     ·skip
      refine gR 22 rfl ?_
      rw [fm_2 (by omega) (by rw [← hinv]; simp only [Bool.and_eq_false_iff,decide_eq_false_iff_not]; omega)]
      exact Qt <| Ql rfl (QI (.cons Qy (.cons (Qs rfl (.inr rfl)) .nil))) .nil
     ·skip
      refine gR 3 rfl (Qx rfl rfl rfl rfl (fun h36=>?_) (fun h36=>?_))
      ·skip
       refine gR 3 rfl (rs_sub rfl rfl rfl (by omega) ?_)
       have ha:(XR lv)[k-1]?=some p:=by
        rcases hp with ⟨h0,_⟩ | hp
        ·omega
        ·exact hp.2
       refine gR 0 rfl (Qi (f:=civ) (y:=p) rfl rfl rfl (by omega) (by rw [show ((k:Int)-1).toNat=k-1 by omega]; exact ha) (gR 2 rfl (Qx rfl rfl rfl rfl (fun h44=>?_) (fun h44=>?_))))
       ·skip
        refine gR 10 rfl ?_
        rw [fm_2 (by omega) (by rw [← hinv]; simp only [Bool.and_eq_false_iff,decide_eq_false_iff_not]; omega)]
        exact Qt <| Ql rfl (QI (.cons Qy (.cons (Qs rfl (.inr rfl)) .nil))) .nil
       ·skip
        refine gR 6 rfl (Qf rfl rfl rfl (by omega) (gR 2 rfl ?_))
        rw [show (decide (0<=x)&&decide (x<z)&&decide (p<x))=true from by simp only [Bool.and_eq_true,decide_eq_true_eq]; exact ⟨⟨by omega,by omega⟩,by omega⟩,Bool.true_and] at hinv
        exact Qz <| ⟨(k+1,x),⟨by show k+1<=_; omega,.inr ⟨by show 1<=k+1; omega,hxk⟩,hinv⟩,by show _-(k+1)<_; omega,Qb (Qa rfl rfl) (.keep rfl rfl .nil) nz⟩
      ·skip
       refine gR 14 rfl (Qf rfl rfl rfl (by omega) (gR 2 rfl ?_))
       rw [show (decide (0<=x)&&decide (x<z)&&decide (p<x))=true from by simp only [Bool.and_eq_true,decide_eq_true_eq]; exact ⟨⟨by omega,by omega⟩,hp.elim (fun h=>by omega) (fun h=>by omega)⟩,Bool.true_and] at hinv
       exact Qz <| ⟨(k+1,x),⟨by show k+1<=_; omega,.inr ⟨by show 1<=k+1; omega,hxk⟩,hinv⟩,by show _-(k+1)<_; omega,Qb (Qa rfl rfl) (.keep rfl rfl .nil) nz⟩
   ·replace h22:=of_decide_eq_false h22
    refine gK 2 rfl ?_
    obtain rfl:k=(XR lv).length:=by omega
    replace hinv:incF z (-1) (XR lv)=true:=by rw [← hinv,List.drop_eq_nil_of_le (Nat.le_refl _)]; rfl
    refine gI 2 rfl ?_
    have hzn:((z.toNat:Nat):Int)=z:=by omega
    refine gI 2 rfl (QD [] rfl rfl (vc67 z.toNat (by omega) (XR lv) (by omega)) (.cons (hv_int hzn.symm) (.cons (Qd rfl) (.nil))) rfl (gR 10 rfl (Qe rfl rfl (gR 2 rfl (Qe rfl rfl (gR 0 rfl (Qx rfl rfl rfl rfl (fun h57=>?_) (fun h57=>?_))))))))
    ·skip
     refine gR 14 rfl ?_
     rw [fm_3 (by omega) hinv h57]
     exact Qt <| Ql rfl (QI (.cons Qy (.cons (Qs rfl (.inr rfl)) .nil))) .nil
    ·skip
     refine gR 4 rfl (cN rfl rfl (vcC_short hd (by omega)) ?_)
     cases h62:hd.any shortB
     ·skip
      refine gR 11 rfl ?_
      rw [fm_5 (by omega) hinv h57 h62]
      exact Qt <| Ql rfl (QI (.cons sm (.cons (Qs rfl (.inr rfl)) .nil))) .nil
     ·skip
      refine gR 9 rfl ?_
      rw [fm_4 (by omega) hinv h57 h62]
      exact Qt <| Ql rfl (QI (.cons Qy (.cons (Qs rfl (.inr rfl)) .nil))) .nil
end Go.Proofs.YthfhaoogcpfboaaGreat
namespace Go.Proofs.YthfhaoogcpfboaaGreat
open Go.RowKit
set_option maxRecDepth 100000
set_option linter.unusedVariables false
theorem idxS_lt {α:Type} {p:α->Bool}:∀ (l:List α) (k:Nat),XY p l k<((k+l.length:Nat):Int)
 | [],k=>by show (-1:Int)<_; omega
 | x::l,k=>by
  unfold XY
  split
  ·simp only [List.length_cons]; omega
  ·have:=idxS_lt (p:=p) l (k+1); simp only [List.length_cons]; omega
def knR (sp:List (Nat×Nat)) (hd:List (List Int)) (ls:List Lf) (b m:Nat):Option (List Int) :=
 if 0<=XY (spEq b m) sp 0 then some (hd.getD (XY (spEq b m) sp 0).toNat []) else ofK ls b m
theorem knR_t {sp:List (Nat×Nat)} {hd:List (List Int)} {ls:List Lf} {b m:Nat} {x:List Int} (h:XY (spEq b m) sp 0 ≥ 0) (hx:hd[(XY (spEq b m) sp 0).toNat]?=some x):knR sp hd ls b m=some x:=by
 unfold knR; rw [if_pos h,getD_at hx]
theorem knR_f {sp:List (Nat×Nat)} {hd:List (List Int)} {ls:List Lf} {b m:Nat} (h:¬ XY (spEq b m) sp 0 ≥ 0):knR sp hd ls b m=ofK ls b m:=by unfold knR; rw [if_neg h]
theorem knR_ok {sp:List (Nat×Nat)} {hd:List (List Int)} (ls:List Lf) (hh:∀ d∈hd,B8 d/\d.length<=LIM) (hn:sp.length=hd.length):KnOK (knR sp hd ls) where
 one b:=by
  unfold knR
  split
  ·rfl
  ·exact (ofK_ok ls).one b
 ok b m x h:=by
  unfold knR at h
  split at h
  ·rename_i hi
   injection h with h
   have:=idxS_lt (p:=spEq b m) sp 0
   obtain ⟨d,hd0,hdm⟩:=Qk (L:=hd) (k:=(XY (spEq b m) sp 0).toNat) (by omega)
   rw [← h,getD_at hd0]; exact hh d hdm
  ·exact (ofK_ok ls).ok b m x h
def dfL:Lf:=⟨0,0,false,false,[]⟩
def Uj (n:Nat) (lv:List Lf):List Lf:=lv.foldl (fun l x=>l.set x.ix.toNat x) (List.replicate n dfL)
theorem fill_len (n:Nat) (lv:List Lf):(Uj n lv).length=n:=by
 have key:∀ (lv l:List Lf),(lv.foldl (fun l x=>l.set x.ix.toNat x) l).length=l.length:=by
  intro lv
  induction lv with
  | nil=>intro l; rfl
  | cons x lv ih=>intro l; rw [List.foldl_cons,ih,List.length_set]
 unfold Uj; rw [key,List.length_replicate]
theorem fill_succ {n:Nat} {lv:List Lf} {k:Nat} {x:Lf} (h:lv[k]?=some x):Uj n (lv.take (k+1))=(Uj n (lv.take k)).set x.ix.toNat x:=by unfold Uj; rw [Q3 h,List.foldl_append]; rfl
theorem fill_ok {n:Nat} {lv:List Lf} (hn:n<=64) (h:∀ x∈lv,x.OK):LsOK (Uj n lv):=by
 refine ⟨by rw [fill_len]; exact hn,?_⟩
 have key:∀ (lv l:List Lf),(∀ x∈lv,x.OK)->(∀ x∈l,x.OK)->∀ x∈lv.foldl (fun l x=>l.set x.ix.toNat x) l,x.OK:=by
  intro lv
  induction lv with
  | nil=>intro l _ hl; exact hl
  | cons y lv ih =>
   intro l hv hl
   rw [List.foldl_cons]
   refine ih _ (fun x hx=>hv x (List.mem_cons_of_mem _ hx)) fun x hx=>?_
   rcases List.mem_or_eq_of_mem_set hx with hx | hx
   ·exact hl x hx
   ·rw [hx]; exact hv y (List.mem_cons_self ..)
 refine key lv _ h fun x hx=>?_
 rw [(List.mem_replicate.1 hx).2]
 exact ⟨⟨by decide,by decide⟩,⟨by decide,by decide⟩,(fun x hx=>by cases hx),by decide⟩
theorem fill_0 (n:Nat):List.replicate n (cLf dfL)=(Uj n ([]:List Lf)).map cLf:=by unfold Uj; simp
def rootOfS (z:Int) (lv:List Lf) (hd:List (List Int)):Option (List Int):=(fmS z lv hd).map fun sp=>Qu (knR sp hd (Uj z.toNat lv)) (lg z.toNat) 0
theorem fm_parts {z:Int} {lv:List Lf} {hdl:List (List Int)} {sp:List (Nat×Nat)} (h:fmS z lv hdl=some sp):(1<=z/\z<=16)/\incF z (-1) (XR lv)=true/\sp=JE z.toNat (XR lv)/\sp.length=hdl.length/\∀ d∈hdl,d.length=8:=by
 unfold fmS at h
 split at h
 ·cases h
 split at h
 ·cases h
 split at h
 ·cases h
 split at h
 ·cases h
 rename_i h1 h2 h3 h4
 injection h with h
 subst h
 refine ⟨by omega,by simpa using h2,rfl,by omega,fun d hd=>?_⟩
 have h5:hdl.any shortB=false:=by simpa using h4
 have:=List.any_eq_false.1 h5 d hd
 simp only [shortB,decide_eq_true_eq] at this
 omega
def mcv74:MC:=(sq [oN 3 (.box 110 2 1) [],oN 4 (.mv (cI 0)) []] (.seq (sq [oM 6 0 [],oE 7 6 [0],oN 8 (.mv (cI 0)) []] (.block 0 (.loop (sq [oB 9 .lss 8 7 []] (.seq (.cond 9 .skip (.exit 0)) (.seq (.block 1 (sq [oM 10 8 [],oM 5 10 [0,0]] (dq [oL 11 2 3 [],oM 12 0 [],oM 13 5 [],oX 14 2 12 13 [1,2],oL 15 2 14 [3],oN 16 (.aeq false 2 11 15) [0,4]] (.cond 16 (sq [oM 17 5 [],oM 4 17 [0,0]] .ret) .skip)))) (rg [oB 18 .add 8 (cI 1) [],oM 8 18 [0]]))))))) (sq [oN 4 (.mv (cI (-1))) []] .ret)))
theorem mcOkv74:okM Tryz.prog Tryz.f74 19=some mcv74:=by kernel_rfl
theorem vc74 (sp:List (Nat×Nat)) (b m:Nat) (hsn:sp.length<=1000):FC Tryz.prog 74 [.rs 2 (sp.map cSp),.agg (cP b m)] [] (.int .i64 (XY (spEq b m) sp 0)) [] false:=by
 refine Qg (nt:=19) Tryz.func74 rfl rfl mcOkv74 (nL rfl) ?_
 delta mcv74
 refine gA 9 rfl (Qe rfl rfl (gR 3 rfl ?_))
 refine Qo (α:=Nat) (fun k=>sp.length-k) (fun k=>[(0,.rs 2 (sp.map cSp)),(3,.ptr 3 0 0),(6,.rs 2 (sp.map cSp)),(7,iv (sp.length:Int)),(8,iv (((k):Nat):Int))]) (fun k=>[(3,.cells 110 2 [cP b m] true)]) (fun k=>k<=sp.length/\XY (spEq b m) (sp.drop k) k=XY (spEq b m) sp 0) 0 (⟨by omega,rfl⟩)
  (Qb (Qa rfl rfl) (.keep rfl rfl .nil) nz) ?_
 rintro k ⟨hk,hinv⟩
 refine gT 5 rfl (Qc rfl (fun h9=>?_) (fun h9=>?_))
 ·replace h9:=of_decide_eq_true h9
  refine gK 10 rfl ?_
  obtain ⟨x,hxk,hxm⟩:=Qk (L:=sp) (k:=k) (by omega)
  rw [Ut hxk] at hinv
  refine gI 3 rfl (Qi (f:=cSp) (y:=x) rfl rfl rfl (by omega) hxk (gR 0 rfl (Q8 (cs:=cSp x) rfl rfl (nL rfl) rfl (gR 0 rfl (rs_aeq [(b:Int),(m:Int)] [(x.1:Int),(x.2:Int)] rfl rfl rfl rfl rfl rfl rfl (spEq_aeq b m x) ?_)))))
  cases h16:spEq b m x
  ·skip
   refine gR 0 rfl (Q9 (by kernel_rfl) (gP 3 rfl (Qf rfl rfl rfl (by omega) (gR 2 rfl ?_))))
   rw [h16] at hinv
   exact Qz <| ⟨k+1,⟨by omega,hinv⟩,by omega,Qb (Qa rfl rfl) (.keep rfl rfl .nil) nz⟩
  ·skip
   refine gR 0 rfl (Q9 (by kernel_rfl) (gP 7 rfl ?_))
   rw [h16] at hinv
   rw [← hinv]
   exact rQ
 ·replace h9:=of_decide_eq_false h9
  refine gK 6 rfl ?_
  rw [JN (by omega)] at hinv
  rw [← hinv]
  exact rQ
def mcv73:MC:=(sq [oN 4 (.box 110 2 0) [],oN 5 (.mv (.c (.str (strN [])))) [],oN 6 (.mv (.c (.bool false))) [1]] (.seq (sq [oD 8 1 1 [],oL 9 2 4 [],oC 10 74 [8,9] [0,1],oM 7 10 [2,2,0,1,2]] (sq [oM 11 7 [],oB 12 .geq 11 (cI 0) [0]] (.cond 12 (sq [oA 13 2 2 [],oD 14 1 13 [0],oM 15 7 [],oX 16 1 14 15 [1,2],oD 17 1 16 [3],oM 5 17 (4::up 5),oN 6 (.mv (.c (.bool true))) (5::up 6)] .ret) .skip))) (sq [oD 18 1 3 [],oL 19 2 4 [],oN 20 (.callv 18 [19]) [0,1],oN 21 (.ext 20 0) [2],oN 22 (.ext 20 1) [2],oM 5 21 (3::2::up 5),oM 6 22 (4::5::up 6)] .ret)))
theorem mcOkv73:okM Tryz.prog Tryz.f73 23=some mcv73:=by kernel_rfl
theorem vc73 (sp:List (Nat×Nat)) (z:Int) (lv:List Lf) (hd:List (List Int)) (ls:List Lf) (hl:LsOK ls) (hsn:sp.length<=1000) (hsp:sp.length=hd.length) (b m:Nat):FC Tryz.prog 73 [.agg (cP b m),.rp [.rs 2 (sp.map cSp)],.rp [.int .i64 z,.rs 5 (lv.map cLf),.rs 1 (hd.map cS)],.rp [.fn (.func 119) [.rp [.rs 5 (ls.map cLf)]]]] [] (.tup [.str (strN ((knR sp hd ls (b) (m)).getD [])),.bool (knR sp hd ls (b) (m)).isSome]) [] false:=by
 have hlt:=idxS_lt (p:=spEq b m) sp 0
 refine Qg (nt:=23) Tryz.func73 rfl rfl mcOkv73 (nL rfl) ?_
 delta mcv73
 refine gA 11 rfl (cN rfl rfl (vc74 sp b m hsn) (gR 5 rfl (XZ rfl rfl rfl (gR 1 rfl (Qc rfl (fun h12=>?_) (fun h12=>?_))))))
 ·replace h12:=of_decide_eq_true h12
  refine gK 5 rfl ?_
  obtain ⟨x,hx,hxm⟩:=Qk (L:=hd) (k:=(XY (spEq b m) sp 0).toNat) (by omega)
  refine Qi (f:=cS) (y:=x) rfl rfl rfl (by omega) hx (gR 5 rfl ?_)
  rw [knR_t h12 hx]
  exact rQ
 ·replace h12:=of_decide_eq_false h12
  refine gK 5 rfl (Xq [] rfl rfl (by kernel_rfl) rfl (fc_up (vc119 ls hl b m)) (.cons (Qd rfl) (.cons (Qd rfl) (.nil))) .nil rfl rfl rfl (gR 6 rfl ?_))
  rw [knR_f h12]
  exact rQ
theorem as69w2 (sp:List (Nat×Nat)) (z:Int) (lv:List Lf) (hd:List (List Int)) (ls:List Lf) (kn:Nat->Nat->Option (List Int)) (d b c:Nat) (l:List (List Int)) (hc:c+2^d<=64) (hl:l.length<=1) (o:Loop) (lb:Nat):AW Tryz.prog 33 [900,7,903] (some lb) as69 (fun e F' H'=>e = .normal/\Weak 33 [900,7,903] F' H' [(8,.ptr 8 0 0),(7,.ptr 7 0 0),(2,.rp [(.fn (.func 73) [.rp [.rs 2 (sp.map cSp)],.rp [.int .i64 z,.rs 5 (lv.map cLf),.rs 1 (hd.map cS)],.rp [.fn (.func 119) [.rp [.rs 5 (ls.map cLf)]]]])])] [(900,.lp o [(18,.fn (.func 149) [.rp (cP b (2^(d+1)))]),(7,.ptr 7 0 0),(2,.rp [(.fn (.func 73) [.rp [.rs 2 (sp.map cSp)],.rp [.int .i64 z,.rs 5 (lv.map cLf),.rs 1 (hd.map cS)],.rp [.fn (.func 119) [.rp [.rs 5 (ls.map cLf)]]]])])]),(7,.cells 47 1 [[.sl 903 0 (l).length]] false),(903,.cells 9 1 ((l).map cS) true),(8,.cells 110 2 [cP c (2^d)] true)]) [(19,.agg (cP c (2^d))),(18,.fn (.func 149) [.rp (cP b (2^(d+1)))]),(7,.ptr 7 0 0),(2,.rp [(.fn (.func 73) [.rp [.rs 2 (sp.map cSp)],.rp [.int .i64 z,.rs 5 (lv.map cLf),.rs 1 (hd.map cS)],.rp [.fn (.func 119) [.rp [.rs 5 (ls.map cLf)]]]])])] [(900,.lp o [(18,.fn (.func 149) [.rp (cP b (2^(d+1)))]),(7,.ptr 7 0 0),(2,.rp [(.fn (.func 73) [.rp [.rs 2 (sp.map cSp)],.rp [.int .i64 z,.rs 5 (lv.map cLf),.rs 1 (hd.map cS)],.rp [.fn (.func 119) [.rp [.rs 5 (ls.map cLf)]]]])])]),(7,.cells 47 1 [[.sl 903 0 (l).length]] false),(903,.cells 9 1 ((l).map cS) true)]:=by
 delta as69
 refine gA 4 rfl ?_
 exact Qt <| ⟨rfl,Qb (Qa rfl rfl) (kS rfl rfl) (fun i hi=>by simp [Qh] at hi ⊢; omega)⟩
theorem bd69w2 (sp:List (Nat×Nat)) (z:Int) (lv:List Lf) (hd:List (List Int)) (ls:List Lf) (kn:Nat->Nat->Option (List Int)) (d b c:Nat) (l:List (List Int)) (hc:c+2^d<=64) (hl:l.length<=1) (ih:∀ c,c+2^d<=64->FC Tryz.prog 69 [(.fn (.func 73) [.rp [.rs 2 (sp.map cSp)],.rp [.int .i64 z,.rs 5 (lv.map cLf),.rs 1 (hd.map cS)],.rp [.fn (.func 119) [.rp [.rs 5 (ls.map cLf)]]]]),.agg (cP c (2^d))] [] (.str (strN (Qu kn d c))) [] false) (o:Loop) (lb:Nat):AW Tryz.prog 33 [900,7,903] (some lb) bd69 (fun e F' H'=>e = .normal/\Weak 33 [900,7,903] F' H' [] [(900,.lp o [(18,.fn (.func 149) [.rp (cP b (2^(d+1)))]),(7,.ptr 7 0 0),(2,.rp [(.fn (.func 73) [.rp [.rs 2 (sp.map cSp)],.rp [.int .i64 z,.rs 5 (lv.map cLf),.rs 1 (hd.map cS)],.rp [.fn (.func 119) [.rp [.rs 5 (ls.map cLf)]]]])])]),(7,.cells 47 1 [[.sl 25 0 (l++[Qu kn d c]).length]] false),(25,.cells 9 1 ((l++[Qu kn d c]).map cS) true),(903,.dead)]) [(8,.ptr 8 0 0),(7,.ptr 7 0 0),(2,.rp [(.fn (.func 73) [.rp [.rs 2 (sp.map cSp)],.rp [.int .i64 z,.rs 5 (lv.map cLf),.rs 1 (hd.map cS)],.rp [.fn (.func 119) [.rp [.rs 5 (ls.map cLf)]]]])])] [(900,.lp o [(18,.fn (.func 149) [.rp (cP b (2^(d+1)))]),(7,.ptr 7 0 0),(2,.rp [(.fn (.func 73) [.rp [.rs 2 (sp.map cSp)],.rp [.int .i64 z,.rs 5 (lv.map cLf),.rs 1 (hd.map cS)],.rp [.fn (.func 119) [.rp [.rs 5 (ls.map cLf)]]]])])]),(7,.cells 47 1 [[.sl 903 0 (l).length]] false),(903,.cells 9 1 ((l).map cS) true),(8,.cells 110 2 [cP c (2^d)] true)]:=by
 delta bd69
 refine gA 5 rfl (cN rfl rfl (ih c hc) (gR 0 rfl (bM cS (([Qu kn d c]:List (List Int))) (by kernel_rfl) (gR 0 rfl (Qq (f:=cS) (xs:=l) (y:=Qu kn d c) (fl':=true) rfl rfl rfl rfl rfl rfl rfl rfl (by decide) rfl (by omega) (by omega) rfl (gR 1 rfl (Q9 (by kernel_rfl) (gP 0 rfl ?_))))))))
 exact Qt <| ⟨rfl,Qb (.nil) (.keep (rfl) rfl (.keep (by rw [Xo]; rfl) rfl (kS rfl rfl))) (fun i hi=>by simp [Qh] at hi ⊢; omega)⟩
theorem y69_2 (sp:List (Nat×Nat)) (z:Int) (lv:List Lf) (hd:List (List Int)) (ls:List Lf) (kn:Nat->Nat->Option (List Int)) (d b c:Nat) (l:List (List Int)) (hc:c+2^d<=64) (hl:l.length<=1) (ih:∀ c,c+2^d<=64->FC Tryz.prog 69 [(.fn (.func 73) [.rp [.rs 2 (sp.map cSp)],.rp [.int .i64 z,.rs 5 (lv.map cLf),.rs 1 (hd.map cS)],.rp [.fn (.func 119) [.rp [.rs 5 (ls.map cLf)]]]]),.agg (cP c (2^d))] [] (.str (strN (Qu kn d c))) [] false) (r0:Loop) (h:Rec0 Tryz.prog 33 [19] as69 bd69 r0) :
  FCg (Js Tryz.prog) [.yl 900,.agg (cP c (2^d))] [(900,.lp r0 [(18,.fn (.func 149) [.rp (cP b (2^(d+1)))]),(7,.ptr 7 0 0),(2,.rp [(.fn (.func 73) [.rp [.rs 2 (sp.map cSp)],.rp [.int .i64 z,.rs 5 (lv.map cLf),.rs 1 (hd.map cS)],.rp [.fn (.func 119) [.rp [.rs 5 (ls.map cLf)]]]])])]),(7,.cells 47 1 [[.sl 903 0 (l).length]] false),(903,.cells 9 1 ((l).map cS) true)] (.bool true) [(900,.lp r0 [(18,.fn (.func 149) [.rp (cP b (2^(d+1)))]),(7,.ptr 7 0 0),(2,.rp [(.fn (.func 73) [.rp [.rs 2 (sp.map cSp)],.rp [.int .i64 z,.rs 5 (lv.map cLf),.rs 1 (hd.map cS)],.rp [.fn (.func 119) [.rp [.rs 5 (ls.map cLf)]]]])])]),(7,.cells 47 1 [[.sl 25 0 (l++[Qu kn d c]).length]] false),(25,.cells 9 1 ((l++[Qu kn d c]).map cS) true),(903,.dead)] true:=by
 have:=round_yield (P:=Tryz.prog) (F:=[(18,.fn (.func 149) [.rp (cP b (2^(d+1)))]),(7,.ptr 7 0 0),(2,.rp [(.fn (.func 73) [.rp [.rs 2 (sp.map cSp)],.rp [.int .i64 z,.rs 5 (lv.map cLf),.rs 1 (hd.map cS)],.rp [.fn (.func 119) [.rp [.rs 5 (ls.map cLf)]]]])])]) (N:=33) (x:=as69) (y:=bd69) h.ca h.cb (li:=900) (ps:=[19]) (vs:=[.agg (cP c (2^d))]) (J:=[(7,.cells 47 1 [[.sl 903 0 (l).length]] false),(903,.cells 9 1 ((l).map cS) true)]) (J1:=[(7,.cells 47 1 [[.sl 903 0 (l).length]] false),(903,.cells 9 1 ((l).map cS) true),(8,.cells 110 2 [cP c (2^d)] true)]) (J':=[(7,.cells 47 1 [[.sl 25 0 (l++[Qu kn d c]).length]] false),(25,.cells 9 1 ((l++[Qu kn d c]).map cS) true),(903,.dead)]) (Fb:=[(8,.ptr 8 0 0),(7,.ptr 7 0 0),(2,.rp [(.fn (.func 73) [.rp [.rs 2 (sp.map cSp)],.rp [.int .i64 z,.rs 5 (lv.map cLf),.rs 1 (hd.map cS)],.rp [.fn (.func 119) [.rp [.rs 5 (ls.map cLf)]]]])])]) (Z0:=[900,7,903]) .normal none (.inl ⟨rfl,rfl⟩)
  rfl rfl (fun i hi=>QE.1 hi) (by simp) (fun i h=>QE.2 h) (fun i hi=>QE.1 (by simp [Qh] at hi ⊢; omega)) h.state h.params rfl rfl h.size (fun t v h=>get_mem h) (fun lb o=>as69w2 sp z lv hd ls kn d b c l hc hl o lb) (fun lb o=>bd69w2 sp z lv hd ls kn d b c l hc hl ih o lb)
 rw [rec_same h.state h.pending] at this
 exact this
theorem vc149d2 (sp:List (Nat×Nat)) (z:Int) (lv:List Lf) (hd:List (List Int)) (ls:List Lf) (kn:Nat->Nat->Option (List Int)) (d b:Nat) (hb:b+2^(d+1)<=64) (r0:Loop) (hy:∀ (c:Nat) (l:List (List Int)),c+2^d<=64->l.length<=1->FCg (Js Tryz.prog) [.yl 900,.agg (cP c (2^d))] [(900,.lp r0 [(18,.fn (.func 149) [.rp (cP b (2^(d+1)))]),(7,.ptr 7 0 0),(2,.rp [(.fn (.func 73) [.rp [.rs 2 (sp.map cSp)],.rp [.int .i64 z,.rs 5 (lv.map cLf),.rs 1 (hd.map cS)],.rp [.fn (.func 119) [.rp [.rs 5 (ls.map cLf)]]]])])]),(7,.cells 47 1 [[.sl 903 0 (l).length]] false),(903,.cells 9 1 ((l).map cS) true)] (.bool true) [(900,.lp r0 [(18,.fn (.func 149) [.rp (cP b (2^(d+1)))]),(7,.ptr 7 0 0),(2,.rp [(.fn (.func 73) [.rp [.rs 2 (sp.map cSp)],.rp [.int .i64 z,.rs 5 (lv.map cLf),.rs 1 (hd.map cS)],.rp [.fn (.func 119) [.rp [.rs 5 (ls.map cLf)]]]])])]),(7,.cells 47 1 [[.sl 25 0 (l++[Qu kn d c]).length]] false),(25,.cells 9 1 ((l++[Qu kn d c]).map cS) true),(903,.dead)] true):FC Tryz.prog 149 [.yl 900,.rp (cP b (2^(d+1)))] [(900,.lp r0 [(18,.fn (.func 149) [.rp (cP b (2^(d+1)))]),(7,.ptr 7 0 0),(2,.rp [(.fn (.func 73) [.rp [.rs 2 (sp.map cSp)],.rp [.int .i64 z,.rs 5 (lv.map cLf),.rs 1 (hd.map cS)],.rp [.fn (.func 119) [.rp [.rs 5 (ls.map cLf)]]]])])]),(7,.cells 47 1 [[.sl 901 0 (([]:List (List Int))).length]] false),(901,.cells 9 1 ((([]:List (List Int))).map cS) true)] (.tup []) [(900,.lp r0 [(18,.fn (.func 149) [.rp (cP b (2^(d+1)))]),(7,.ptr 7 0 0),(2,.rp [(.fn (.func 73) [.rp [.rs 2 (sp.map cSp)],.rp [.int .i64 z,.rs 5 (lv.map cLf),.rs 1 (hd.map cS)],.rp [.fn (.func 119) [.rp [.rs 5 (ls.map cLf)]]]])])]),(7,.cells 47 1 [[.sl 903 0 (([]++[Qu kn d b]++[Qu kn d (b+2^d)]:List (List Int))).length]] false),(903,.cells 9 1 ((([]++[Qu kn d b]++[Qu kn d (b+2^d)]:List (List Int))).map cS) true),(901,.dead)] true:=by
 have hpw:=pow2 d
 refine Qg (nt:=21) Tryz.func149 rfl rfl mcOkv149 (nL rfl) ?_
 delta mcv149
 refine aw_post (gA 4 rfl (QR rfl rfl rfl (by decide) (quo2W hpw (by omega)) (gR 3 rfl (QH (F0:=[(0,.yl 900),(1,.rp (cP b (2^(d+1)))),(3,iv ((2^d:Nat):Int))]) (H0:=[(900,.lp r0 [(18,.fn (.func 149) [.rp (cP b (2^(d+1)))]),(7,.ptr 7 0 0),(2,.rp [(.fn (.func 73) [.rp [.rs 2 (sp.map cSp)],.rp [.int .i64 z,.rs 5 (lv.map cLf),.rs 1 (hd.map cS)],.rp [.fn (.func 119) [.rp [.rs 5 (ls.map cLf)]]]])])]),(7,.cells 47 1 [[.sl 903 0 (([]:List (List Int))).length]] false),(903,.cells 9 1 ((([]:List (List Int))).map cS) true),(901,.dead)]) (Weak.trans (F1:=[(0,.yl 900),(1,.rp (cP b (2^(d+1)))),(3,iv ((2^d:Nat):Int))]) (H1:=[(900,.lp r0 [(18,.fn (.func 149) [.rp (cP b (2^(d+1)))]),(7,.ptr 7 0 0),(2,.rp [(.fn (.func 73) [.rp [.rs 2 (sp.map cSp)],.rp [.int .i64 z,.rs 5 (lv.map cLf),.rs 1 (hd.map cS)],.rp [.fn (.func 119) [.rp [.rs 5 (ls.map cLf)]]]])])]),(7,.cells 47 1 [[.sl 901 0 (([]:List (List Int))).length]] false),(901,.cells 9 1 ((([]:List (List Int))).map cS) true)]) (Qb (Qa rfl rfl) (kS rfl rfl) (fun i hi=>by simp [Qh] at hi ⊢; omega)) (Weak.trans (F1:=[(0,.yl 900),(1,.rp (cP b (2^(d+1)))),(3,iv ((2^d:Nat):Int))]) (Q2 (i:=901) (i':=903) (k:=7) rfl rfl (.cons rfl (.same _) (.cons rfl (.same _) (.cons rfl (.same _) (.nil)))) (by decide) rfl (.sl _ _)) (Qb (Qa rfl rfl) (kS rfl rfl) (fun i hi=>by simp [Qh] at hi ⊢; omega)))) (gK 6 rfl (rs_yield [(900,.lp r0 [(18,.fn (.func 149) [.rp (cP b (2^(d+1)))]),(7,.ptr 7 0 0),(2,.rp [(.fn (.func 73) [.rp [.rs 2 (sp.map cSp)],.rp [.int .i64 z,.rs 5 (lv.map cLf),.rs 1 (hd.map cS)],.rp [.fn (.func 119) [.rp [.rs 5 (ls.map cLf)]]]])])]),(7,.cells 47 1 [[.sl 903 0 (([]:List (List Int))).length]] false),(903,.cells 9 1 ((([]:List (List Int))).map cS) true)] rfl rfl rfl (hy b [] (by omega) (by simp)) (.cons (Qd rfl) (.cons (Qd rfl) (.nil))) (.cons rfl (.cons rfl (.cons rfl (.nil)))) rfl rfl rfl (gR 2 rfl (QH (F0:=[(0,.yl 900),(1,.rp (cP b (2^(d+1)))),(3,iv ((2^d:Nat):Int))]) (H0:=[(900,.lp r0 [(18,.fn (.func 149) [.rp (cP b (2^(d+1)))]),(7,.ptr 7 0 0),(2,.rp [(.fn (.func 73) [.rp [.rs 2 (sp.map cSp)],.rp [.int .i64 z,.rs 5 (lv.map cLf),.rs 1 (hd.map cS)],.rp [.fn (.func 119) [.rp [.rs 5 (ls.map cLf)]]]])])]),(7,.cells 47 1 [[.sl 903 0 (([]++[Qu kn d b]:List (List Int))).length]] false),(903,.cells 9 1 ((([]++[Qu kn d b]:List (List Int))).map cS) true),(901,.dead)]) (Weak.trans (F1:=[(0,.yl 900),(1,.rp (cP b (2^(d+1)))),(3,iv ((2^d:Nat):Int))]) (H1:=[(900,.lp r0 [(18,.fn (.func 149) [.rp (cP b (2^(d+1)))]),(7,.ptr 7 0 0),(2,.rp [(.fn (.func 73) [.rp [.rs 2 (sp.map cSp)],.rp [.int .i64 z,.rs 5 (lv.map cLf),.rs 1 (hd.map cS)],.rp [.fn (.func 119) [.rp [.rs 5 (ls.map cLf)]]]])])]),(7,.cells 47 1 [[.sl 25 0 (([]++[Qu kn d b]:List (List Int))).length]] false),(25,.cells 9 1 ((([]++[Qu kn d b]:List (List Int))).map cS) true),(901,.dead)]) (Qb (Qa rfl rfl) (kS rfl rfl) (fun i hi=>by simp [Qh] at hi ⊢; omega)) (Weak.trans (F1:=[(0,.yl 900),(1,.rp (cP b (2^(d+1)))),(3,iv ((2^d:Nat):Int))]) (Q2 (i:=25) (i':=903) (k:=7) rfl rfl (.cons rfl (.same _) (.cons rfl (.same _) (.cons rfl (.same _) (.nil)))) (by decide) rfl (.sl _ _)) (Qb (Qa rfl rfl) (kS rfl rfl) (fun i hi=>by simp [Qh] at hi ⊢; omega)))) (gK 5 rfl (QS (c:=((b+2^d:Nat):Int)) rfl rfl rfl (addNW (by omega)) (gR 2 rfl ?_)))))))))))
 refine rs_yield [(900,.lp r0 [(18,.fn (.func 149) [.rp (cP b (2^(d+1)))]),(7,.ptr 7 0 0),(2,.rp [(.fn (.func 73) [.rp [.rs 2 (sp.map cSp)],.rp [.int .i64 z,.rs 5 (lv.map cLf),.rs 1 (hd.map cS)],.rp [.fn (.func 119) [.rp [.rs 5 (ls.map cLf)]]]])])]),(7,.cells 47 1 [[.sl 903 0 (([]++[Qu kn d b]:List (List Int))).length]] false),(903,.cells 9 1 ((([]++[Qu kn d b]:List (List Int))).map cS) true)] rfl rfl rfl (hy (b+2^d) ([]++[Qu kn d b]:List (List Int)) (by omega) (by simp)) (.cons (Qd rfl) (.cons (Qd rfl) (.nil))) (.cons rfl (.cons rfl (.cons rfl (.nil)))) rfl rfl rfl (gR 1 rfl ?_)
 exact Qt <| ⟨[],[(900,.lp r0 [(18,.fn (.func 149) [.rp (cP b (2^(d+1)))]),(7,.ptr 7 0 0),(2,.rp [(.fn (.func 73) [.rp [.rs 2 (sp.map cSp)],.rp [.int .i64 z,.rs 5 (lv.map cLf),.rs 1 (hd.map cS)],.rp [.fn (.func 119) [.rp [.rs 5 (ls.map cLf)]]]])])]),(7,.cells 47 1 [[.sl 903 0 (([]++[Qu kn d b]++[Qu kn d (b+2^d)]:List (List Int))).length]] false),(903,.cells 9 1 ((([]++[Qu kn d b]++[Qu kn d (b+2^d)]:List (List Int))).map cS) true),(901,.dead)],(Weak.trans (F1:=[]) (H1:=[(900,.lp r0 [(18,.fn (.func 149) [.rp (cP b (2^(d+1)))]),(7,.ptr 7 0 0),(2,.rp [(.fn (.func 73) [.rp [.rs 2 (sp.map cSp)],.rp [.int .i64 z,.rs 5 (lv.map cLf),.rs 1 (hd.map cS)],.rp [.fn (.func 119) [.rp [.rs 5 (ls.map cLf)]]]])])]),(7,.cells 47 1 [[.sl 25 0 (([]++[Qu kn d b]++[Qu kn d (b+2^d)]:List (List Int))).length]] false),(25,.cells 9 1 ((([]++[Qu kn d b]++[Qu kn d (b+2^d)]:List (List Int))).map cS) true),(901,.dead)]) (Qb (.nil) (kS rfl rfl) (fun i hi=>by simp [Qh] at hi ⊢; omega)) (Weak.trans (F1:=[]) (Q2 (i:=25) (i':=903) (k:=7) rfl rfl (.nil) (by decide) rfl (.sl _ _)) (Qb (.nil) (kS rfl rfl) (fun i hi=>by simp [Qh] at hi ⊢; omega)))),Jv (.inl rfl) rfl sm (kS rfl rfl) (.cons rfl rfl rfl (.cons rfl rfl rfl (.dead rfl rfl (.nil))))⟩
theorem vc69_02 (sp:List (Nat×Nat)) (z:Int) (lv:List Lf) (hd:List (List Int)) (ls:List Lf) (kn:Nat->Nat->Option (List Int)) (hkn:KnOK kn) (hkf:∀ b m,b+m<=64->FC Tryz.prog 73 [.agg (cP b m),.rp [.rs 2 (sp.map cSp)],.rp [.int .i64 z,.rs 5 (lv.map cLf),.rs 1 (hd.map cS)],.rp [.fn (.func 119) [.rp [.rs 5 (ls.map cLf)]]]] [] (.tup [.str (strN ((kn (b) (m)).getD [])),.bool (kn (b) (m)).isSome]) [] false) (b:Nat) (hb:b+2^0<=64):FC Tryz.prog 69 [(.fn (.func 73) [.rp [.rs 2 (sp.map cSp)],.rp [.int .i64 z,.rs 5 (lv.map cLf),.rs 1 (hd.map cS)],.rp [.fn (.func 119) [.rp [.rs 5 (ls.map cLf)]]]]),.agg (cP b (2^0))] [] (.str (strN (Qu kn 0 b))) [] false:=by
 have hs:=hkn.one b
 refine Qg (nt:=33) Tryz.func69 rfl rfl mcOkv69 (nL rfl) ?_
 delta mcv69
 refine gA 11 rfl (Xq [] rfl rfl (by kernel_rfl) rfl (fc_up (hkf b (2^(0)) (by omega))) (.cons (Qd rfl) (.cons (Qd rfl) (.cons (Qd rfl) (.cons (Qd rfl) (.nil))))) .nil rfl rfl rfl (gR 3 rfl ?_))
 rw [show kn b (2^0)=kn b 1 from rfl,hs]
 refine gI 14 rfl ?_
 exact rQ
theorem vc69_s2 (sp:List (Nat×Nat)) (z:Int) (lv:List Lf) (hd:List (List Int)) (ls:List Lf) (kn:Nat->Nat->Option (List Int)) (hkn:KnOK kn) (hkf:∀ b m,b+m<=64->FC Tryz.prog 73 [.agg (cP b m),.rp [.rs 2 (sp.map cSp)],.rp [.int .i64 z,.rs 5 (lv.map cLf),.rs 1 (hd.map cS)],.rp [.fn (.func 119) [.rp [.rs 5 (ls.map cLf)]]]] [] (.tup [.str (strN ((kn (b) (m)).getD [])),.bool (kn (b) (m)).isSome]) [] false) (d b:Nat) (hb:b+2^(d+1)<=64) (ih:∀ c,c+2^d<=64->FC Tryz.prog 69 [(.fn (.func 73) [.rp [.rs 2 (sp.map cSp)],.rp [.int .i64 z,.rs 5 (lv.map cLf),.rs 1 (hd.map cS)],.rp [.fn (.func 119) [.rp [.rs 5 (ls.map cLf)]]]]),.agg (cP c (2^d))] [] (.str (strN (Qu kn d c))) [] false):FC Tryz.prog 69 [(.fn (.func 73) [.rp [.rs 2 (sp.map cSp)],.rp [.int .i64 z,.rs 5 (lv.map cLf),.rs 1 (hd.map cS)],.rp [.fn (.func 119) [.rp [.rs 5 (ls.map cLf)]]]]),.agg (cP b (2^(d+1)))] [] (.str (strN (Qu kn (d+1) b))) [] false:=by
 have h8a:=hkn.tree d b
 have h8b:=hkn.tree d (b+2^d)
 refine Qg (nt:=33) Tryz.func69 rfl rfl mcOkv69 (nL rfl) ?_
 delta mcv69
 refine gA 11 rfl (Xq [] rfl rfl (by kernel_rfl) rfl (fc_up (hkf b (2^(d+1)) (by omega))) (.cons (Qd rfl) (.cons (Qd rfl) (.cons (Qd rfl) (.cons (Qd rfl) (.nil))))) .nil rfl rfl rfl (gR 3 rfl ?_))
 cases h14:(kn b (2^(d+1))).isSome
 ·skip
  refine gI 17 rfl (Qr [] rfl rfl (vc118 (b,2^(d+1))) (.cons (Qd rfl) .nil) .nil rfl rfl rfl (gR 2 rfl (QH (F0:=[(18,.fn (.func 149) [.rp (cP b (2^(d+1)))]),(7,.ptr 7 0 0),(2,.rp [(.fn (.func 73) [.rp [.rs 2 (sp.map cSp)],.rp [.int .i64 z,.rs 5 (lv.map cLf),.rs 1 (hd.map cS)],.rp [.fn (.func 119) [.rp [.rs 5 (ls.map cLf)]]]])])]) (H0:=[(7,.cells 47 1 [[.sl 901 0 (([]:List (List Int))).length]] false),(901,.cells 9 1 ((([]:List (List Int))).map cS) true)]) (Weak.trans (F1:=[(18,.fn (.func 149) [.rp (cP b (2^(d+1)))]),(7,.ptr 7 0 0),(2,.rp [(.fn (.func 73) [.rp [.rs 2 (sp.map cSp)],.rp [.int .i64 z,.rs 5 (lv.map cLf),.rs 1 (hd.map cS)],.rp [.fn (.func 119) [.rp [.rs 5 (ls.map cLf)]]]])])]) (H1:=[(7,.cells 47 1 [[.nils]] true)]) (Qb (.cs (.cs (.cons rfl (Jc rfl rfl (.inl rfl)) (.nil)))) (.keep rfl rfl .nil) nz) (Weak.trans (F1:=[(18,.fn (.func 149) [.rp (cP b (2^(d+1)))]),(7,.ptr 7 0 0),(2,.rp [(.fn (.func 73) [.rp [.rs 2 (sp.map cSp)],.rp [.int .i64 z,.rs 5 (lv.map cLf),.rs 1 (hd.map cS)],.rp [.fn (.func 119) [.rp [.rs 5 (ls.map cLf)]]]])])]) (weak_seed (i:=901) (k:=7) (e:=47) (z:=1) (e2:=9) (z2:=1) (fl:=true) (fl2:=true) rfl rfl) (Qb (Qa rfl rfl) (kS rfl rfl) (fun i h=>by cases h)))) (aw_rfunc 900 [(7,.cells 47 1 [[.sl 901 0 (([]:List (List Int))).length]] false),(901,.cells 9 1 ((([]:List (List Int))).map cS) true)] [(7,.cells 47 1 [[.sl 903 0 (([]++[Qu kn d b]++[Qu kn d (b+2^d)]:List (List Int))).length]] false),(903,.cells 9 1 ((([]++[Qu kn d b]++[Qu kn d (b+2^d)]:List (List Int))).map cS) true),(901,.dead)] (.inl ⟨rfl,rfl⟩) rfl (by kernel_rfl) rfl rfl rfl (.cons rfl (.cons rfl (.nil))) rfl rfl rfl rfl (fun r0 hrec=>⟨r0,(by rw [hrec.state]; intro h; cases h),hrec.pending,vc149d2 sp z lv hd ls kn d b hb r0 (fun c l hc hl=>y69_2 sp z lv hd ls kn d b c l hc hl ih r0 hrec)⟩) (gP 3 rfl (JG rfl rfl rfl rfl (by decide) (by simp) (gR 2 rfl (JG rfl rfl rfl rfl (by decide) (by simp) (gR 1 rfl (cN rfl rfl (vc43 (Qu kn d b) (Qu kn d (b+2^d)) h8a h8b) (gR 1 rfl ?_)))))))))))
  refine Q9 (by kernel_rfl) (gP 1 rfl ?_)
  rw [treeD_f h14]
  exact rQ
 ·skip
  refine gI 14 rfl ?_
  rw [treeD_t h14]
  exact rQ
theorem vc69_2 (sp:List (Nat×Nat)) (z:Int) (lv:List Lf) (hd:List (List Int)) (ls:List Lf) (kn:Nat->Nat->Option (List Int)) (hkn:KnOK kn) (hkf:∀ b m,b+m<=64->FC Tryz.prog 73 [.agg (cP b m),.rp [.rs 2 (sp.map cSp)],.rp [.int .i64 z,.rs 5 (lv.map cLf),.rs 1 (hd.map cS)],.rp [.fn (.func 119) [.rp [.rs 5 (ls.map cLf)]]]] [] (.tup [.str (strN ((kn (b) (m)).getD [])),.bool (kn (b) (m)).isSome]) [] false):∀ (d b:Nat),b+2^d<=64->FC Tryz.prog 69 [(.fn (.func 73) [.rp [.rs 2 (sp.map cSp)],.rp [.int .i64 z,.rs 5 (lv.map cLf),.rs 1 (hd.map cS)],.rp [.fn (.func 119) [.rp [.rs 5 (ls.map cLf)]]]]),.agg (cP b (2^d))] [] (.str (strN (Qu kn d b))) [] false
 | 0,b,hb=>vc69_02 sp z lv hd ls kn hkn hkf b hb
 | d+1,b,hb=>vc69_s2 sp z lv hd ls kn hkn hkf d b hb fun c hc=>vc69_2 sp z lv hd ls kn hkn hkf d c hc
end Go.Proofs.YthfhaoogcpfboaaGreat
namespace Go.Proofs.YthfhaoogcpfboaaGreat
open Go.RowKit
set_option maxRecDepth 100000
set_option linter.unusedVariables false
theorem root_some {z:Int} {lv:List Lf} {hd:List (List Int)} {sp:List (Nat×Nat)} (h:fmS z lv hd=some sp):rootOfS z lv hd=some (Qu (knR sp hd (Uj z.toNat lv)) (lg z.toNat) 0):=by unfold rootOfS; rw [h]; rfl
theorem root_none {z:Int} {lv:List Lf} {hd:List (List Int)} (h:(fmS z lv hd).isSome=false):rootOfS z lv hd=none:=by
 unfold rootOfS
 cases hf:fmS z lv hd with
 | none=>rfl
 | some x=>rw [hf] at h; cases h
structure ShOK (lv:List Lf) (hd:List (List Int)):Prop where
 nl:lv.length<=64
 nh:hd.length<=64
 ok:∀ x∈lv,x.OK
 b:∀ d∈hd,B8 d/\d.length<=LIM
def mcv27:MC:=(sq [oN 1 (.box 55 3 0) [],oN 2 (.mv (.c (.str (strN [])))) [],oN 3 (.mv (.c (.bool false))) [1]] (sq [oL 12 3 1 [],oC 13 72 [12] [0],oM 11 13 [1],oN 14 (.ext 11 0) [2],oN 15 (.ext 11 1) [2],oN 4 (.alloc 107 1 [.nils]) [],oS 1 4 14 [5,3,1,0,1,2,3,5],oM 5 15 (4::6::up 7)] (.seq (sq [oM 16 5 [],oN 17 (.un .not 16) [0]] (.cond 17 (sq [oN 2 (.mv (.c (.str (strN [])))) [],oN 3 (.mv (.c (.bool false))) [0,0]] .ret) .skip)) (sq [oA 18 0 1 [],oD 19 1 18 [0],oN 20 (.mksl 51 5 40 [(iv 0),(iv 0),(.bool false),(.bool false),(.str (strN []))] 19 19) [1,1],oM 6 20 [2,0,1,2]] (.seq (sq [oA 21 1 1 [],oD 22 1 21 [0],oE 23 22 [1],oN 24 (.mv (cI 0)) []] (.block 0 (.loop (sq [oB 25 .lss 24 23 []] (.seq (.cond 25 .skip (.exit 0)) (.seq (.block 1 (sq [oX 26 5 22 24 [],oL 27 5 26 [0],oN 8 (.alloc 51 5 [(iv 0),(iv 0),(.bool false),(.bool false),(.str (strN []))]) [],oS 5 8 27 [2,1,0,1,2]] (rg [oM 28 6 [],oA 29 0 8 [],oD 30 1 29 [1],oL 31 5 8 [],oX 32 5 28 30 (0::2::up 4),oS 5 32 31 (4::3::up 4)]))) (rg [oB 33 .add 24 (cI 1) [],oM 24 33 [0]]))))))) (sq [oM 34 6 [],oC 35 68 [34] [0],oN 9 (.alloc 112 1 [.nilf]) [],oS 1 9 35 [2,1,1,0,1,2]] (sq [oN 36 (.mkfn (.func 73) [4,1,9]) [],oM 10 36 [0,0]] (sq [oM 37 10 [],oA 38 0 1 [],oD 39 1 38 [1],oC 40 75 [39] [2],oC 41 69 [37,40] [0,3,3],oM 2 41 (4::4::up 5),oN 3 (.mv (.c (.bool true))) (5::up 6)] .ret))))))))
theorem mcOkv27:okM Tryz.prog Tryz.f27 42=some mcv27:=by kernel_rfl
theorem vc27 (z:Int) (lv:List Lf) (hd:List (List Int)) (h:ShOK lv hd):FC Tryz.prog 27 [.agg [.int .i64 z,.rs 5 (lv.map cLf),.rs 1 (hd.map cS)]] [] (.tup [.str (strN ((rootOfS z lv hd).getD [])),.bool (rootOfS z lv hd).isSome]) [] false:=by
 have hnl:=h.nl
 refine Qg (nt:=42) Tryz.func27 rfl rfl mcOkv27 (nL rfl) ?_
 delta mcv27
 refine gA 9 rfl (Qr [] rfl rfl (vc72 z lv hd h.nl h.nh) (.cons (Qd rfl) .nil) .nil rfl rfl rfl (gR 3 rfl ?_))
 cases h15:(fmS z lv hd).isSome
 ·skip
  refine gI 17 rfl ?_
  rw [root_none h15]
  exact rQ
 ·skip
  refine gI 13 rfl ?_
  obtain ⟨sp,hsp⟩:=Option.isSome_iff_exists.1 h15
  rw [hsp]
  obtain ⟨hz,hinc,hspd,hsl,h8⟩:=fm_parts hsp
  have hzn:((z.toNat:Nat):Int)=z:=by omega
  refine gI 3 rfl (rs_mksl (n:=z) rfl rfl rfl rfl rfl (by omega) (by omega) (by omega) (gR 7 rfl (Qe rfl rfl (gR 3 rfl ?_))))
  refine Qo (α:=Nat) (fun k=>lv.length-k) (fun k=>[(1,.ptr 1 0 0),(4,.ptr 4 0 0),(6,.sl 20 0 z.toNat),(22,.rs 5 (lv.map cLf)),(23,iv (lv.length:Int)),(24,iv (((k):Nat):Int))]) (fun k=>[(1,.cells 55 3 [[.int .i64 z,.rs 5 (lv.map cLf),.rs 1 (hd.map cS)]] true),(4,.cells 107 1 [[.rs 2 (sp.map cSp)]] true),(20,.cells 51 5 ((Uj z.toNat (lv.take (k))).map cLf) true)]) (fun k=>k<=lv.length) 0 (by omega)
   (Qb (Qa rfl rfl) (.keep (rfl) rfl (.keep (rfl) rfl (.keep (by rw [List.take_zero,← fill_0]; rfl) rfl (.nil)))) (fun i h=>by cases h)) ?_
  intro k hk
  refine gT 5 rfl (Qc rfl (fun h25=>?_) (fun h25=>?_))
  ·replace h25:=of_decide_eq_true h25
   refine gK 5 rfl ?_
   obtain ⟨x,hxk,hxm⟩:=Qk (L:=lv) (k:=k) (by omega)
   have hx0:=incF_bd hinc x.ix (List.mem_map_of_mem hxm)
   refine Qi (f:=cLf) (y:=x) rfl rfl rfl (by omega) hxk (gR 0 rfl (Q8 (cs:=cLf x) rfl rfl (nL rfl) rfl (gR 8 rfl (QF rfl rfl rfl rfl hx0.1 (by omega) (gR 0 rfl (rs_st_m (f:=cLf) (xs:=Uj z.toNat (lv.take k)) (t:=x.ix.toNat) (v:=x) (fl':=true) rfl rfl rfl rfl (by rw [fill_len]; omega) rfl rfl (nL rfl) rfl rfl (gR 2 rfl (Qf rfl rfl rfl (by omega) (gR 2 rfl ?_)))))))))
   exact Qz <| ⟨k+1,by omega,by omega,Qb (Qa rfl rfl) (.keep (rfl) rfl (.keep (rfl) rfl (.keep (by rw [fill_succ hxk]; rfl) rfl (.nil)))) (fun i h=>by cases h)⟩
  ·replace h25:=of_decide_eq_false h25
   refine gK 2 rfl ?_
   obtain rfl:k=lv.length:=by omega
   rw [List.take_of_length_le (Nat.le_refl _)]
   refine QH (F0:=[(1,.ptr 1 0 0),(4,.ptr 4 0 0),(6,.rs 5 ((Uj z.toNat lv).map cLf))]) (H0:=[(1,.cells 55 3 [[.int .i64 z,.rs 5 (lv.map cLf),.rs 1 (hd.map cS)]] true),(4,.cells 107 1 [[.rs 2 (sp.map cSp)]] true)]) (Qb (.cs (.cs (.cons rfl (Q5 (f:=cLf) (xs:=Uj z.toNat lv) rfl rfl (fill_len _ _) (fun _=>rfl)) (.nil)))) (kS rfl rfl) fun i h=>by cases h) (gK 2 rfl (Qr [] rfl rfl (vc68 (Uj z.toNat lv)) (.cons (Qd rfl) .nil) .nil rfl rfl rfl (gR 4 rfl (QH (F0:=[(4,.rp [.rs 2 (sp.map cSp)]),(1,.rp [.int .i64 z,.rs 5 (lv.map cLf),.rs 1 (hd.map cS)]),(9,.rp [(.fn (.func 119) [.rp [.rs 5 ((Uj z.toNat lv).map cLf)]])])]) (H0:=[]) (Qb (.cons rfl (Jc rfl rfl (.inl rfl)) (.cons rfl (Jc rfl rfl (.inl rfl)) (.cons rfl (Jc rfl rfl (.inl rfl)) (.nil)))) (.nil) (fun i h=>by cases h)) (gK 9 rfl ?_)))))
   have hlg:=lg16 (n:=z.toNat) (by omega)
   refine QD [] rfl rfl (vc75 z.toNat (by omega)) (.cons (hv_int hzn.symm) (.nil)) rfl (gR 0 rfl (cN rfl rfl (vc69_2 sp z lv hd (Uj z.toNat lv) (knR sp hd (Uj z.toNat lv)) (knR_ok (Uj z.toNat lv) h.b hsl) (fun b m _=>vc73 sp z lv hd (Uj z.toNat lv) (fill_ok (by omega) h.ok) (by have:=h.nh; omega) hsl b m) (lg z.toNat) 0 (by omega)) (gR 4 rfl ?_)))
   rw [root_some hsp]
   exact rQ
end Go.Proofs.YthfhaoogcpfboaaGreat
