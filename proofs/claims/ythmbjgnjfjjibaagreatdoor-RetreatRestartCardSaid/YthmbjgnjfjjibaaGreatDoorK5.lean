/-
  Parts of the proof: M0 M1 P0 M2 M3 M4 M5 M6 P1 C5 C8 C9 JB VL VM VN.
-/
import Derived.Test.YthmbjgnjfjjibaaGreatDoorK4
import Derived.Test.YthmbjgnjfjjibaaGreatDoorProg
set_option linter.unusedVariables false
set_option linter.unusedSimpArgs false
namespace Go.Proofs.YthmbjgnjfjjibaaGreatDoor
open Go.RowKit
set_option maxRecDepth 100000
theorem hmix:Tryz.prog.follows .mixedOrders=true:=by kernel_rfl
variable {α:Type}
section
variable {P:Program} {N:Nat} {Z:List Nat} {F:Fr} {H:Hp} {ml:List MOper} {K:List Fp->Fr->Hp->Prop} {d:Nat} {g:Option (Nat×Bool)} {pre:List Nat}
theorem rs_ld_ga {f:α->List AV} {xs:List α} {t a n o e z:Nat} {fl:Bool} {x:Arg} {cs:List AV} {y:α} (hg:gOK F g=true) (hx:Qe F x=some (.ptr a t o)) (ha:get H a=some (.cells e z (xs.map f) fl)) (hy:xs[t]?=some y) (hn:o+n<=(f y).length) (hc:((f y).drop o).take n=cs)
  (h:RS P N ml ((d,.agg cs)::F) H (fun fps=>K (([a],[])::fps))):RS P N (⟨some d,.ld true n x,g,pre⟩::ml) F H K:=Q2 hg hx ha (el:=f y) (by simp [hy]) hn hc h
theorem QH {f:α->List AV} {xs:List α} {z:Nat} {x i:Arg} {k:IntKind} {t:Int} {y:α} (hg:gOK F g=true) (hx:Qe F x=some (.rs z (xs.map f))) (hi:Qe F i=some (.int k t)) (h0:0<=t) (hy:xs[t.toNat]?=some y)
  (h:RS P N ml ((d,.rp (f y))::F) H (fun fps=>K (([],[])::fps))):RS P N (⟨some d,.ixsl z x i,g,pre⟩::ml) F H K :=
 rs_ix_r hg hx hi h0 (by have:=(List.getElem?_eq_some_iff.1 hy).1; simp; omega) (by simp [hy]) h
theorem rs_ld_f {f:α->AV} {L:List α} {a o n e z k:Nat} {fl:Bool} {x:Arg} {y:α} (hg:gOK F g=true) (hx:Qe F x=some (.ptr a 0 o)) (ha:get H a=some (.cells e z [L.map f] fl)) (hk:o=k) (hy:L[k]?=some y)
  (h:RS P N ml ((d,f y)::F) H (fun fps=>K (([a],[])::fps))):RS P N (⟨some d,.ld false n x,g,pre⟩::ml) F H K :=
 rs_ld_p hg hx ha (el:=L.map f) rfl (by rw [hk]; simp [hy]) h
end
theorem Q8 {L:List α} {k:Nat} (h:k<L.length):∃ a,L[k]?=some a/\a∈L:=⟨L[k],List.getElem?_eq_getElem h,List.getElem_mem h⟩
theorem lt_of_at {L:List α} {k:Nat} {a:α} (h:L[k]?=some a):k<L.length:=(List.getElem?_eq_some_iff.1 h).1
variable {H:Hp}
theorem hv_slm {f:α->List AV} {xs:List α} {Hs:Hp} {rd:List Nat} {i e z n:Nat} (hi:i∈rd) (hg:get H i=some (.cells e z (xs.map f) true)) (hn:xs.length=n):HV H Hs rd false (.sl i 0 n) (.rs z (xs.map f)) :=
 hv_sl hi hg (by simp; omega) (by rw [List.drop_zero,List.take_of_length_le (by simp; omega)])
abbrev iv (n:Int):AV:=.int .i64 n
abbrev ints (xs:List Int):AV:=.rs 1 (xs.map ci)
theorem tmod_range (n m:Int) (h:1<=m) : -m<n.tmod m/\n.tmod m<m:=by
 have h1:=Int.tmod_lt_of_pos n (show (0:Int)<m by omega)
 have h2:=Int.tmod_lt_of_pos (-n) (show (0:Int)<m by omega)
 rw [Int.neg_tmod] at h2
 omega
theorem mod_eq (n m:Int) (h:1<=m):(n.tmod m+m).tmod m=n % m:=by
 have h1:=tmod_range n m h
 rw [Int.tmod_eq_emod_of_nonneg (by omega),Int.add_emod_right,Int.tmod_eq_emod]
 split
 ·simp
 ·rw [Int.sub_emod]; simp [Int.natAbs_of_nonneg (show 0<=m by omega)]
def Xd (n m:Int):Int:=if m<1 then 0 else n % m
theorem QT (x n:Int) (h:1<=n):0<=Xd x n/\Xd x n<n:=by
 unfold Xd
 rw [if_neg (by omega)]
 exact ⟨Int.emod_nonneg _ (by omega),Int.emod_lt_of_pos _ (by omega)⟩
def XS (L:List Int) (k:Nat) (n:Int):Int:=match L[k]? with
 | some x=>Xd x n
 | none=>0
def XD (L:List Int) (k:Nat):Nat:=if k<L.length then k+1 else k
abbrev drawOb (e:Nat) (L:List Int) (k:Nat):Ob:=.cells e 2 [[ints L,.int .i64 (k:Int)]] true
theorem Xc (L:List Int) (k:Nat) (n:Int) (h:1<=n):0<=XS L k n/\XS L k n<n:=by
 unfold XS
 split
 ·exact QT _ n h
 ·omega
structure V3 where
 (x y z:Int)
deriving DecidableEq
abbrev cV (v:V3):List AV:=[.int .i64 v.x,.int .i64 v.y,.int .i64 v.z]
abbrev aV (v:V3):AV:=.agg (cV v)
structure Mv where
 (kind:Int) (fr to co:V3) (feed:Int)
deriving DecidableEq
abbrev cM (m:Mv):List AV:=[iv m.kind,iv m.fr.x,iv m.fr.y,iv m.fr.z,iv m.to.x,iv m.to.y,iv m.to.z,iv m.co.x,iv m.co.y,iv m.co.z,iv m.feed]
abbrev aM (m:Mv):AV:=.agg (cM m)
theorem Jq {P:Program} {N:Nat} {F:Fr} {ml:List MOper} {K:List Fp->Fr->Hp->Prop} {d:Nat} {g:Option (Nat×Bool)} {pre:List Nat} {neg:Bool} {x y:Arg} {u v:V3} (hg:gOK F g=true) (hx:Qe F x=some (aV u)) (hy:Qe F y=some (aV v))
  (h:RS P N ml ((d,.bool (neg != decide (u=v)))::F) H (fun fps=>K (([],[])::fps))):RS P N (⟨some d,.aeq neg 3 x y,g,pre⟩::ml) F H K :=
 rs_aeq [u.x,u.y,u.z] [v.x,v.y,v.z] hg hx hy rfl rfl rfl rfl (by congr 1; cases u; cases v; simp) h
abbrev W (n:Int):Int:=IntKind.i64.wrap n
theorem Xe {n:Int} (h : -9223372036854775808<=n/\n<=9223372036854775807):W n=n:=wrap64_eq h
def addW (a b:V3):V3:=⟨W (a.x+b.x),W (a.y+b.y),W (a.z+b.z)⟩
def subW (a b:V3):V3:=⟨W (a.x-b.x),W (a.y-b.y),W (a.z-b.z)⟩
def dotW (a b:V3):Int:=W (W (W (a.x*b.x)+W (a.y*b.y))+W (a.z*b.z))
def Xb (a b:V3):V3:=⟨W (W (a.y*b.z)-W (a.z*b.y)),W (W (a.z*b.x)-W (a.x*b.z)),W (W (a.x*b.y)-W (a.y*b.x))⟩
def plusW (a b:V3) (n:Int):V3:=⟨W (a.x+W (n*b.x)),W (a.y+W (n*b.y)),W (a.z+W (n*b.z))⟩
def add (a b:V3):V3:=⟨a.x+b.x,a.y+b.y,a.z+b.z⟩
def sub (a b:V3):V3:=⟨a.x-b.x,a.y-b.y,a.z-b.z⟩
def dot (a b:V3):Int:=a.x*b.x+a.y*b.y+a.z*b.z
def cross (a b:V3):V3:=⟨a.y*b.z-a.z*b.y,a.z*b.x-a.x*b.z,a.x*b.y-a.y*b.x⟩
def plus (a b:V3) (n:Int):V3:=⟨a.x+n*b.x,a.y+n*b.y,a.z+n*b.z⟩
structure Bd (n:Int) (v:V3):Prop where
 x : -n<=v.x/\v.x<=n
 y : -n<=v.y/\v.y<=n
 z : -n<=v.z/\v.z<=n
theorem Bd.mono {n m:Int} {v:V3} (h:Bd n v) (hn:n<=m):Bd m v:=by
 have:=h.x; have:=h.y; have:=h.z
 exact ⟨by omega,by omega,by omega⟩
theorem mulB {a b n m:Int} (ha : -n<=a/\a<=n) (hb : -m<=b/\b<=m) : -(n*m)<=a*b/\a*b<=n*m:=by
 have h1:a.natAbs<=n.toNat:=by omega
 have h2:b.natAbs<=m.toNat:=by omega
 have h3:(a*b).natAbs<=n.toNat*m.toNat:=by rw [Int.natAbs_mul]; exact Nat.mul_le_mul h1 h2
 have h4:((n.toNat*m.toNat:Nat):Int)=n*m:=by rw [Int.natCast_mul,Int.toNat_of_nonneg (by omega),Int.toNat_of_nonneg (by omega)]
 omega
theorem addW_eq {a b:V3} (ha:Bd 1000000 a) (hb:Bd 1000000 b):addW a b=add a b:=by
 have:=ha.x; have:=ha.y; have:=ha.z; have:=hb.x; have:=hb.y; have:=hb.z
 unfold addW add; rw [Xe (by omega),Xe (by omega),Xe (by omega)]
theorem subW_eq {a b:V3} (ha:Bd 1000000 a) (hb:Bd 1000000 b):subW a b=sub a b:=by
 have:=ha.x; have:=ha.y; have:=ha.z; have:=hb.x; have:=hb.y; have:=hb.z
 unfold subW sub; rw [Xe (by omega),Xe (by omega),Xe (by omega)]
theorem dotW_eq {a b:V3} (ha:Bd 1000000 a) (hb:Bd 1000000 b):dotW a b=dot a b:=by
 have h1:=mulB ha.x hb.x; have h2:=mulB ha.y hb.y; have h3:=mulB ha.z hb.z
 unfold dotW dot; rw [Xe (n:=a.x*b.x) (by omega),Xe (n:=a.y*b.y) (by omega),Xe (n:=a.z*b.z) (by omega),Xe (n:=a.x*b.x+a.y*b.y) (by omega),Xe (by omega)]
theorem crossW_eq {a b:V3} (ha:Bd 1000000 a) (hb:Bd 1000000 b):Xb a b=cross a b:=by
 have h1:=mulB ha.y hb.z; have h2:=mulB ha.z hb.y; have h3:=mulB ha.z hb.x; have h4:=mulB ha.x hb.z; have h5:=mulB ha.x hb.y; have h6:=mulB ha.y hb.x
 unfold Xb cross
 rw [Xe (n:=a.y*b.z) (by omega),Xe (n:=a.z*b.y) (by omega),Xe (n:=a.z*b.x) (by omega),Xe (n:=a.x*b.z) (by omega),Xe (n:=a.x*b.y) (by omega),Xe (n:=a.y*b.x) (by omega),Xe (by omega),Xe (by omega),Xe (by omega)]
theorem plusW_eq {a b:V3} {n:Int} (ha:Bd 1000000 a) (hb:Bd 1000000 b) (hn : -1000000<=n/\n<=1000000):plusW a b n=plus a b n:=by
 have:=ha.x; have:=ha.y; have:=ha.z
 have h1:=mulB hn hb.x; have h2:=mulB hn hb.y; have h3:=mulB hn hb.z
 unfold plusW plus; rw [Xe (n:=n*b.x) (by omega),Xe (n:=n*b.y) (by omega),Xe (n:=n*b.z) (by omega),Xe (by omega),Xe (by omega),Xe (by omega)]
theorem Bd.add {a b:V3} {n m:Int} (ha:Bd n a) (hb:Bd m b):Bd (n+m) (add a b):=by
 have:=ha.x; have:=ha.y; have:=ha.z; have:=hb.x; have:=hb.y; have:=hb.z
 exact ⟨by simp only [YthmbjgnjfjjibaaGreatDoor.add]; omega,by simp only [YthmbjgnjfjjibaaGreatDoor.add]; omega,by simp only [YthmbjgnjfjjibaaGreatDoor.add]; omega⟩
theorem Bd.sub {a b:V3} {n m:Int} (ha:Bd n a) (hb:Bd m b):Bd (n+m) (sub a b):=by
 have:=ha.x; have:=ha.y; have:=ha.z; have:=hb.x; have:=hb.y; have:=hb.z
 exact ⟨by simp only [YthmbjgnjfjjibaaGreatDoor.sub]; omega,by simp only [YthmbjgnjfjjibaaGreatDoor.sub]; omega,by simp only [YthmbjgnjfjjibaaGreatDoor.sub]; omega⟩
theorem Bd.plus {a b:V3} {n m q:Int} {k:Int} (ha:Bd n a) (hb:Bd m b) (hk : -q<=k/\k<=q):Bd (n+q*m) (plus a b k):=by
 have:=ha.x; have:=ha.y; have:=ha.z
 have h1:=mulB hk hb.x; have h2:=mulB hk hb.y; have h3:=mulB hk hb.z
 exact ⟨by simp only [YthmbjgnjfjjibaaGreatDoor.plus]; omega,by simp only [YthmbjgnjfjjibaaGreatDoor.plus]; omega,by simp only [YthmbjgnjfjjibaaGreatDoor.plus]; omega⟩
def gL (l:List Int):Nat:=l.foldl (fun g n=>Nat.gcd g n.natAbs) 0
theorem gL_succ {l:List Int} {k:Nat} {x:Int} (h:l[k]?=some x):gL (l.take (k+1))=Nat.gcd (gL (l.take k)) x.natAbs:=by
 obtain ⟨hk,rfl⟩:=List.getElem?_eq_some_iff.1 h
 unfold gL
 rw [List.take_succ_eq_append_getElem hk,List.foldl_append]; rfl
def gS (v:V3):Nat:=gL [v.x,v.y,v.z]
def Qj (v:V3):V3:=if gS v=0 then ⟨0,0,0⟩ else ⟨v.x.tdiv (gS v),v.y.tdiv (gS v),v.z.tdiv (gS v)⟩
theorem gcd_step (g n:Nat):Nat.gcd n (g % n)=Nat.gcd g n:=by rw [Nat.gcd_comm n,← Nat.gcd_rec,Nat.gcd_comm]
theorem tmod_nat (g n:Nat):((g:Int)).tmod (n:Int)=((g % n:Nat):Int):=(Int.ofNat_tmod g n).symm
theorem tdiv_le (a:Int) (b:Nat):(a.tdiv b).natAbs<=a.natAbs:=by rw [Int.natAbs_tdiv]; exact Nat.div_le_self _ _
theorem tdivW {a:Int} {b:Nat} (h : -1000000<=a/\a<=1000000):W (a.tdiv b)=a.tdiv b:=Xe (by have:=tdiv_le a b; omega)
theorem abs_max (n:Int):max n (-n)=(n.natAbs:Int):=by omega
def X6 (m:Int) (l:List Int):Bool:=l.all fun n=>decide (-m<=n/\n<=m)
theorem within_t {m:Int} {l:List Int} (h:∀ (k:Nat) (n:Int),l[k]?=some n → -m<=n/\n<=m):X6 m l=true:=List.all_eq_true.2 fun n hn=>by
 obtain ⟨k,hk⟩:=List.getElem?_of_mem hn
 exact decide_eq_true (h k n hk)
theorem within_f {m:Int} {l:List Int} {k:Nat} {n:Int} (hk:l[k]?=some n) (h:n < -m\/m<n):X6 m l=false:=by
 cases e:X6 m l with
 | false=>rfl
 | true=>have:=of_decide_eq_true (List.all_eq_true.1 e n (List.mem_of_getElem? hk)); omega
def inS (v:V3):Bool:=X6 24 [v.x,v.y,v.z]
theorem in_bd {v:V3} (h:inS v=true):Bd 24 v:=by
 simp only [inS,X6,List.all_cons,List.all_nil,Bool.and_eq_true,decide_eq_true_eq,and_true] at h
 exact ⟨h.1,h.2.1,h.2.2⟩
def lenS (v:V3):Int:=let x:=max v.x (-v.x); let y:=max v.y (-v.y); let z:=max v.z (-v.z); if x+y+z=max x (max y z) then x+y+z else 0
def mc16:MC:=(sq [oN 4 (.mv (cI 0)) []] (.seq (sq [oM 5 1 [],oB 6 .lss 5 (cI 1) [0]] (.cond 6 (sq [oN 4 (.mv (cI 0)) []] .ret) .skip)) (sq [oM 7 0 [],oM 8 1 [],oB 9 .rem 7 8 [0,1],oM 10 1 [],oB 11 .add 9 10 [2,3],oM 12 1 [],oB 13 .rem 11 12 [4,5],oM 4 13 (6::up 7)] .ret)))
theorem mcOk16:(match Tryz.f7.body with | some c=>Qq Tryz.prog 14 c | none=>none)=some mc16:=by kernel_rfl
theorem fc16 (n m:Int) (hm:m<=4611686018427387904):FC Tryz.prog 7 [.int .i64 n,.int .i64 m] [] (.int .i64 (Xd n m)) [] false:=by
 refine Qh (nt:=14) Tryz.func7 rfl rfl mcOk16 (nL rfl) ?_
 delta mc16
 refine gA 10 rfl (Qc rfl (fun h6=>?_) (fun h6=>?_))
 ·have hr:Xd n m=0:=if_pos h6
  refine gK 5 rfl ?_
  exact Q5 <| Qg rfl (by rw [hr]; first | rfl | exact congrArg _ (mod_eq n m (by omega))) rfl (.inr rfl)
 ·have hr:Xd n m=n % m:=if_neg h6
  have ht:=tmod_range n m (by omega)
  refine gK 5 rfl (Jl rfl rfl rfl (by omega) rfl (gR 1 rfl (Qm rfl rfl rfl (by omega) (gR 1 rfl (Jl rfl rfl rfl (by omega) rfl (gR 3 rfl ?_))))))
  exact Q5 <| Qg rfl (by rw [hr]; first | rfl | exact congrArg _ (mod_eq n m (by omega))) rfl (.inr rfl)
def mc35:MC:=(sq [oN 4 (.mv (cI 0)) []] (.seq (dq [oM 5 0 [],oN 6 (.nilc 5) [0],oA 7 1 6 [1],oD 8 1 7 [2],oM 9 0 [],oN 10 (.nilc 9) [4],oA 11 0 10 [5],oD 12 1 11 [6],oE 13 12 [7],oB 14 .geq 8 13 [3,8]] (.cond 14 (sq [oN 4 (.mv (cI 0)) []] .ret) .skip)) (sq [oM 15 0 [],oN 16 (.nilc 15) [0],oA 17 1 16 [1],oD 18 1 17 [2],oB 19 .add 18 (cI 1) [3],oN 20 (.nilc 15) (0::up 5),oA 21 1 20 (5::up 5),oS 1 21 19 (6::4::up 5)] (dq [oM 22 0 [],oN 23 (.nilc 22) [0],oA 24 0 23 [1],oD 25 1 24 [2],oM 26 0 [],oN 27 (.nilc 26) [4],oA 28 1 27 [5],oD 29 1 28 [6],oB 30 .sub 29 (cI 1) [7],oX 31 1 25 30 [3,8],oD 32 1 31 [9],oM 33 1 [],oQ 34 7 [32,33] [10,11],oM 4 34 (12::12::up 13)] .ret))))
theorem mcOk35:(match Tryz.f94.body with | some c=>Qq Tryz.prog 35 c | none=>none)=some mc35:=by kernel_rfl
theorem fc35_ (e:Nat) (L:List Int) (k:Nat) (n:Int) (hn:n<=4611686018427387904) (hL:L.length<=4611686018427387904):FC Tryz.prog 94 [.ptr 1000 0 0,.int .i64 n] [(1000,drawOb e L k)] (.int .i64 (XS L k n)) [(1000,drawOb e L (XD L k))] true:=by
 refine Qh (nt:=35) Tryz.func94 rfl rfl mcOk35 (nL rfl) ?_
 delta mc35
 refine gA 8 rfl (rs_nilc_p rfl rfl (gR 3 rfl (rs_nilc_p rfl rfl (gR 2 rfl (Q1 rfl rfl (gR 0 rfl (rs_geq rfl rfl rfl (gR 0 rfl (Xa (by kernel_rfl) (gP 0 rfl (Qc rfl (fun h14=>?_) (fun h14=>?_))))))))))))
 ·have e1:XS L k n=0:=by unfold XS; rw [List.getElem?_eq_none (by omega)]
  have e2:XD L k=k:=if_neg (by omega)
  rw [e1,e2]
  refine gK 5 rfl ?_
  exact Q5 <| ret_own rfl sm (.keep rfl rfl .nil) (.cons rfl rfl rfl .nil)
 ·have hk:k<L.length:=by omega
  have e1:XS L k n=Xd L[k] n:=by unfold XS; rw [List.getElem?_eq_getElem hk]
  have e2:XD L k=k+1:=if_pos hk
  rw [e1,e2]
  refine gK 4 rfl (rs_nilc_p rfl rfl (gR 2 rfl (Qm rfl rfl rfl (by omega) (gR 0 rfl (rs_nilc_p rfl rfl (gR 6 rfl (rs_nilc_p rfl rfl (gR 3 rfl (rs_nilc_p rfl rfl (gR 2 rfl (JK (b:=1) (a:=((k+1:Nat):Int)) rfl rfl rfl (by omega) ?_)))))))))))
  refine gR 0 rfl (rs_ix_m (t:=k) rfl rfl (congrArg (fun x=>some (AV.int .i64 x)) (by omega)) (by omega) (gR 2 rfl (cN rfl rfl (fc16 L[k] n hn) (gR 1 rfl (Xa (by kernel_rfl) (gP 1 rfl ?_))))))
  exact Q5 <| ret_own rfl sm (.keep rfl rfl .nil) (.cons rfl rfl rfl .nil)
theorem fc35 (i e:Nat) (L:List Int) (k:Nat) (n:Int) (hn:n<=4611686018427387904) (hL:L.length<=4611686018427387904):FC Tryz.prog 94 [.ptr i 0 0,.int .i64 n] [(i,drawOb e L k)] (.int .i64 (XS L k n)) [(i,drawOb e L (XD L k))] true :=
 fc_ren (swp 1000 i) (swp_swp _ _) (fc35_ e L k n hn hL) (.cons (.ptr (by simp [swp])) (.cons (.closed rfl) .nil)) (.cons (by simp [swp]) .flat .nil) (.closed rfl) (.cons (by simp [swp]) .flat .nil)
def vecV (L:List Int) (k:Nat) (n:Int):V3:=⟨XS L k (2*n+1)-n,XS L (XD L k) (2*n+1)-n,XS L (XD L (XD L k)) (2*n+1)-n⟩
def vecA (L:List Int) (k:Nat):Nat:=XD L (XD L (XD L k))
theorem vecV_bd (L:List Int) (k:Nat) (n:Int) (h:0<=n):Bd n (vecV L k n):=by
 have h1:=Xc L k (2*n+1) (by omega)
 have h2:=Xc L (XD L k) (2*n+1) (by omega)
 have h3:=Xc L (XD L (XD L k)) (2*n+1) (by omega)
 exact ⟨by simp only [vecV]; omega,by simp only [vecV]; omega,by simp only [vecV]; omega⟩
def mc36:MC:=(sq [oN 4 (.alloc 32 3 (iz 3)) []] (sq [oM 8 0 [],oM 9 1 [],oB 10 .mul (cI 2) 9 [1],oB 11 .add 10 (cI 1) [2],oQ 12 94 [8,11] [0,3],oM 13 1 [],oB 14 .sub 12 13 [4,5],oM 5 14 (6::4::up 7)] (sq [oM 15 0 [],oM 16 1 [],oB 17 .mul (cI 2) 16 [1],oB 18 .add 17 (cI 1) [2],oQ 19 94 [15,18] [0,3],oM 20 1 [],oB 21 .sub 19 20 [4,5],oM 6 21 (6::4::up 7)] (sq [oM 22 0 [],oM 23 1 [],oB 24 .mul (cI 2) 23 [1],oB 25 .add 24 (cI 1) [2],oQ 26 94 [22,25] [0,3],oM 27 1 [],oB 28 .sub 26 27 [4,5],oM 7 28 (6::4::up 7)] (sq [oM 29 5 [],oM 30 6 [],oM 31 7 [],oN 32 (.build (iz 3) [(0,1,29),(1,1,30),(2,1,31)]) [0,1,2],oS 3 4 32 (3::up 4)] .ret)))))
theorem mcOk36:(match Tryz.f95.body with | some c=>Qq Tryz.prog 33 c | none=>none)=some mc36:=by kernel_rfl
theorem fc36_ (e:Nat) (L:List Int) (k:Nat) (n:Int) (hn:0<=n/\n<=1000) (hL:L.length<=4611686018427387904):FC Tryz.prog 95 [.ptr 1000 0 0,.int .i64 n] [(1000,drawOb e L k)] (aV (vecV L k n)) [(1000,drawOb e L (vecA L k))] true:=by
 refine Qh (nt:=33) Tryz.func95 rfl rfl mcOk36 (nL rfl) ?_
 delta mc36
 refine gA 8 rfl (QA rfl rfl rfl (Xe (by omega)) (gR 0 rfl (Qm rfl rfl rfl (by omega) (gR 0 rfl (clO rfl (fc35 1000 e L (k) (2*n+1) (by omega) hL) rfl (gR 1 rfl ?_))))))
 have hn1:=Xc L k (2*n+1) (by omega)
 refine JK rfl rfl rfl (by omega) (gR 6 rfl (QA rfl rfl rfl (Xe (by omega)) (gR 0 rfl (Qm rfl rfl rfl (by omega) (gR 0 rfl (clO rfl (fc35 1000 e L (XD L k) (2*n+1) (by omega) hL) rfl (gR 1 rfl ?_)))))))
 have hn2:=Xc L (XD L k) (2*n+1) (by omega)
 refine JK rfl rfl rfl (by omega) (gR 6 rfl (QA rfl rfl rfl (Xe (by omega)) (gR 0 rfl (Qm rfl rfl rfl (by omega) (gR 0 rfl (clO rfl (fc35 1000 e L (XD L (XD L k)) (2*n+1) (by omega) hL) rfl (gR 1 rfl ?_)))))))
 have hn3:=Xc L (XD L (XD L k)) (2*n+1) (by omega)
 refine JK rfl rfl rfl (by omega) (gR 11 rfl ?_)
 exact Q5 <| ret_own rfl sm (.keep rfl rfl .nil) (.cons rfl rfl rfl .nil)
theorem fc36 (i e:Nat) (L:List Int) (k:Nat) (n:Int) (hn:0<=n/\n<=1000) (hL:L.length<=4611686018427387904):FC Tryz.prog 95 [.ptr i 0 0,.int .i64 n] [(i,drawOb e L k)] (aV (vecV L k n)) [(i,drawOb e L (vecA L k))] true :=
 fc_ren (swp 1000 i) (swp_swp _ _) (fc36_ e L k n hn hL) (.cons (.ptr (by simp [swp])) (.cons (.closed rfl) .nil)) (.cons (by simp [swp]) .flat .nil) (.closed rfl) (.cons (by simp [swp]) .flat .nil)
def mc27:MC:=(sq [oN 2 (.box 32 3 0) [],oN 3 (.box 32 3 1) [],oN 4 (.alloc 32 3 (iz 3)) []] (sq [oA 5 0 2 [],oD 6 1 5 [0],oA 7 0 3 [],oD 8 1 7 [2],oB 9 .sub 6 8 [1,3],oA 10 1 2 [],oD 11 1 10 [5],oA 12 1 3 [],oD 13 1 12 [7],oB 14 .sub 11 13 [6,8],oA 15 2 2 [],oD 16 1 15 [10],oA 17 2 3 [],oD 18 1 17 [12],oB 19 .sub 16 18 [11,13],oN 20 (.build (iz 3) [(0,1,9),(1,1,14),(2,1,19)]) [4,9,14],oS 3 4 20 (15::up 16)] .ret))
theorem mcOk27:(match Tryz.f82.body with | some c=>Qq Tryz.prog 21 c | none=>none)=some mc27:=by kernel_rfl
theorem fc27 (a b:V3):FC Tryz.prog 82 [aV a,aV b] [] (aV (subW a b)) [] false:=by
 refine Qh (nt:=21) Tryz.func82 rfl rfl mcOk27 (nL rfl) ?_
 delta mc27
 refine gA 12 rfl (rs_subw rfl rfl rfl rfl (gR 4 rfl (rs_subw rfl rfl rfl rfl (gR 4 rfl (rs_subw rfl rfl rfl rfl (gR 4 rfl ?_))))))
 exact rQ
def mc28:MC:=(sq [oN 2 (.box 32 3 0) [],oN 3 (.box 32 3 1) [],oN 4 (.alloc 32 3 (iz 3)) []] (sq [oA 5 0 2 [],oD 6 1 5 [0],oA 7 0 3 [],oD 8 1 7 [2],oB 9 .add 6 8 [1,3],oA 10 1 2 [],oD 11 1 10 [5],oA 12 1 3 [],oD 13 1 12 [7],oB 14 .add 11 13 [6,8],oA 15 2 2 [],oD 16 1 15 [10],oA 17 2 3 [],oD 18 1 17 [12],oB 19 .add 16 18 [11,13],oN 20 (.build (iz 3) [(0,1,9),(1,1,14),(2,1,19)]) [4,9,14],oS 3 4 20 (15::up 16)] .ret))
theorem mcOk28:(match Tryz.f48.body with | some c=>Qq Tryz.prog 21 c | none=>none)=some mc28:=by kernel_rfl
theorem fc28 (a b:V3):FC Tryz.prog 48 [aV a,aV b] [] (aV (addW a b)) [] false:=by
 refine Qh (nt:=21) Tryz.func48 rfl rfl mcOk28 (nL rfl) ?_
 delta mc28
 refine gA 12 rfl (Jf rfl rfl rfl rfl (gR 4 rfl (Jf rfl rfl rfl rfl (gR 4 rfl (Jf rfl rfl rfl rfl (gR 4 rfl ?_))))))
 exact rQ
def mc50:MC:=(sq [oN 2 (.box 32 3 0) [],oN 3 (.box 32 3 1) [],oN 4 (.alloc 32 3 (iz 3)) []] (sq [oA 5 0 2 [],oD 6 1 5 [0],oA 7 0 3 [],oD 8 1 7 [2],oB 9 .sub 6 8 [1,3],oA 10 1 2 [],oD 11 1 10 [5],oA 12 1 3 [],oD 13 1 12 [7],oB 14 .sub 11 13 [6,8],oA 15 2 2 [],oD 16 1 15 [10],oA 17 2 3 [],oD 18 1 17 [12],oB 19 .sub 16 18 [11,13],oN 20 (.build (iz 3) [(0,1,9),(1,1,14),(2,1,19)]) [4,9,14],oS 3 4 20 (15::up 16)] .ret))
theorem mcOk50:(match Tryz.f51.body with | some c=>Qq Tryz.prog 21 c | none=>none)=some mc50:=by kernel_rfl
theorem fc50 (a b:V3):FC Tryz.prog 51 [aV a,aV b] [] (aV (subW a b)) [] false:=by
 refine Qh (nt:=21) Tryz.func51 rfl rfl mcOk50 (nL rfl) ?_
 delta mc50
 refine gA 12 rfl (rs_subw rfl rfl rfl rfl (gR 4 rfl (rs_subw rfl rfl rfl rfl (gR 4 rfl (rs_subw rfl rfl rfl rfl (gR 4 rfl ?_))))))
 exact rQ
def mc57:MC:=(sq [oN 2 (.box 32 3 0) [],oN 3 (.box 32 3 1) [],oN 4 (.alloc 32 3 (iz 3)) []] (sq [oA 5 0 2 [],oD 6 1 5 [0],oA 7 0 3 [],oD 8 1 7 [2],oB 9 .add 6 8 [1,3],oA 10 1 2 [],oD 11 1 10 [5],oA 12 1 3 [],oD 13 1 12 [7],oB 14 .add 11 13 [6,8],oA 15 2 2 [],oD 16 1 15 [10],oA 17 2 3 [],oD 18 1 17 [12],oB 19 .add 16 18 [11,13],oN 20 (.build (iz 3) [(0,1,9),(1,1,14),(2,1,19)]) [4,9,14],oS 3 4 20 (15::up 16)] .ret))
theorem mcOk57:(match Tryz.f52.body with | some c=>Qq Tryz.prog 21 c | none=>none)=some mc57:=by kernel_rfl
theorem fc57 (a b:V3):FC Tryz.prog 52 [aV a,aV b] [] (aV (addW a b)) [] false:=by
 refine Qh (nt:=21) Tryz.func52 rfl rfl mcOk57 (nL rfl) ?_
 delta mc57
 refine gA 12 rfl (Jf rfl rfl rfl rfl (gR 4 rfl (Jf rfl rfl rfl rfl (gR 4 rfl (Jf rfl rfl rfl rfl (gR 4 rfl ?_))))))
 exact rQ
def mc31:MC:=(sq [oN 2 (.box 32 3 0) [],oN 3 (.box 32 3 1) [],oN 4 (.alloc 32 3 (iz 3)) []] (sq [oA 5 1 2 [],oD 6 1 5 [0],oA 7 2 3 [],oD 8 1 7 [2],oB 9 .mul 6 8 [1,3],oA 10 2 2 [],oD 11 1 10 [5],oA 12 1 3 [],oD 13 1 12 [7],oB 14 .mul 11 13 [6,8],oB 15 .sub 9 14 [4,9],oA 16 2 2 [],oD 17 1 16 [11],oA 18 0 3 [],oD 19 1 18 [13],oB 20 .mul 17 19 [12,14],oA 21 0 2 [],oD 22 1 21 [16],oA 23 2 3 [],oD 24 1 23 [18],oB 25 .mul 22 24 [17,19],oB 26 .sub 20 25 [15,20],oA 27 0 2 [],oD 28 1 27 [22],oA 29 1 3 [],oD 30 1 29 [24],oB 31 .mul 28 30 [23,25],oA 32 1 2 [],oD 33 1 32 [27],oA 34 0 3 [],oD 35 1 34 [29],oB 36 .mul 33 35 [28,30],oB 37 .sub 31 36 [26,31],oN 38 (.build (iz 3) [(0,1,15),(1,1,26),(2,1,37)]) [10,21,32],oS 3 4 38 (33::up 34)] .ret))
theorem mcOk31:(match Tryz.f192.body with | some c=>Qq Tryz.prog 39 c | none=>none)=some mc31:=by kernel_rfl
theorem fc31 (a b:V3):FC Tryz.prog 192 [aV a,aV b] [] (aV (Xb a b)) [] false:=by
 refine Qh (nt:=39) Tryz.func192 rfl rfl mcOk31 (nL rfl) ?_
 delta mc31
 refine gA 12 rfl (QA rfl rfl rfl rfl (gR 4 rfl (QA rfl rfl rfl rfl (gR 0 rfl (rs_subw rfl rfl rfl rfl (gR 4 rfl (QA rfl rfl rfl rfl (gR 4 rfl (QA rfl rfl rfl rfl (gR 0 rfl (rs_subw rfl rfl rfl rfl ?_)))))))))))
 refine gR 4 rfl (QA rfl rfl rfl rfl (gR 4 rfl (QA rfl rfl rfl rfl (gR 0 rfl (rs_subw rfl rfl rfl rfl (gR 4 rfl ?_))))))
 exact rQ
def mc30:MC:=(sq [oN 2 (.box 32 3 0) [],oN 3 (.box 32 3 1) [],oN 4 (.mv (cI 0)) []] (sq [oA 5 0 2 [],oD 6 1 5 [0],oA 7 0 3 [],oD 8 1 7 [2],oB 9 .mul 6 8 [1,3],oA 10 1 2 [],oD 11 1 10 [5],oA 12 1 3 [],oD 13 1 12 [7],oB 14 .mul 11 13 [6,8],oB 15 .add 9 14 [4,9],oA 16 2 2 [],oD 17 1 16 [11],oA 18 2 3 [],oD 19 1 18 [13],oB 20 .mul 17 19 [12,14],oB 21 .add 15 20 [10,15],oM 4 21 (16::up 17)] .ret))
theorem mcOk30:(match Tryz.f124.body with | some c=>Qq Tryz.prog 22 c | none=>none)=some mc30:=by kernel_rfl
theorem fc30 (a b:V3):FC Tryz.prog 124 [aV a,aV b] [] (iv (dotW a b)) [] false:=by
 refine Qh (nt:=22) Tryz.func124 rfl rfl mcOk30 (nL rfl) ?_
 delta mc30
 refine gA 12 rfl (QA rfl rfl rfl rfl (gR 4 rfl (QA rfl rfl rfl rfl (gR 0 rfl (Jf rfl rfl rfl rfl (gR 4 rfl (QA rfl rfl rfl rfl (gR 0 rfl (Jf rfl rfl rfl rfl (gR 3 rfl ?_))))))))))
 exact rQ
def mc52:MC:=(sq [oN 2 (.box 32 3 0) [],oN 3 (.box 32 3 1) [],oN 4 (.mv (cI 0)) []] (sq [oA 5 0 2 [],oD 6 1 5 [0],oA 7 0 3 [],oD 8 1 7 [2],oB 9 .mul 6 8 [1,3],oA 10 1 2 [],oD 11 1 10 [5],oA 12 1 3 [],oD 13 1 12 [7],oB 14 .mul 11 13 [6,8],oB 15 .add 9 14 [4,9],oA 16 2 2 [],oD 17 1 16 [11],oA 18 2 3 [],oD 19 1 18 [13],oB 20 .mul 17 19 [12,14],oB 21 .add 15 20 [10,15],oM 4 21 (16::up 17)] .ret))
theorem mcOk52:(match Tryz.f142.body with | some c=>Qq Tryz.prog 22 c | none=>none)=some mc52:=by kernel_rfl
theorem fc52 (a b:V3):FC Tryz.prog 142 [aV a,aV b] [] (iv (dotW a b)) [] false:=by
 refine Qh (nt:=22) Tryz.func142 rfl rfl mcOk52 (nL rfl) ?_
 delta mc52
 refine gA 12 rfl (QA rfl rfl rfl rfl (gR 4 rfl (QA rfl rfl rfl rfl (gR 0 rfl (Jf rfl rfl rfl rfl (gR 4 rfl (QA rfl rfl rfl rfl (gR 0 rfl (Jf rfl rfl rfl rfl (gR 3 rfl ?_))))))))))
 exact rQ
def mc37:MC:=(sq [oN 3 (.box 32 3 0) [],oN 4 (.box 32 3 1) [],oN 6 (.alloc 32 3 (iz 3)) []] (sq [oA 7 0 3 [],oD 8 1 7 [0],oM 9 2 [],oA 10 0 4 [],oD 11 1 10 [3],oB 12 .mul 9 11 [2,4],oB 13 .add 8 12 [1,5],oA 14 1 3 [],oD 15 1 14 [7],oM 16 2 [],oA 17 1 4 [],oD 18 1 17 [10],oB 19 .mul 16 18 [9,11],oB 20 .add 15 19 [8,12],oA 21 2 3 [],oD 22 1 21 [14],oM 23 2 [],oA 24 2 4 [],oD 25 1 24 [17],oB 26 .mul 23 25 [16,18],oB 27 .add 22 26 [15,19],oN 28 (.build (iz 3) [(0,1,13),(1,1,20),(2,1,27)]) [6,13,20],oS 3 6 28 (21::up 22)] .ret))
theorem mcOk37:(match Tryz.f96.body with | some c=>Qq Tryz.prog 29 c | none=>none)=some mc37:=by kernel_rfl
theorem fc37 (a b:V3) (n:Int):FC Tryz.prog 96 [aV a,aV b,iv n] [] (aV (plusW a b n)) [] false:=by
 refine Qh (nt:=29) Tryz.func96 rfl rfl mcOk37 (nL rfl) ?_
 delta mc37
 refine gA 13 rfl (QA rfl rfl rfl rfl (gR 0 rfl (Jf rfl rfl rfl rfl (gR 5 rfl (QA rfl rfl rfl rfl (gR 0 rfl (Jf rfl rfl rfl rfl (gR 5 rfl (QA rfl rfl rfl rfl (gR 0 rfl (Jf rfl rfl rfl rfl ?_)))))))))))
 refine gR 4 rfl ?_
 exact rQ
def mc78:MC:=(sq [oN 3 (.box 32 3 0) [],oN 4 (.box 32 3 1) [],oN 6 (.alloc 32 3 (iz 3)) []] (sq [oL 7 3 3 [],oM 8 2 [],oA 9 0 4 [],oD 10 1 9 [2],oB 11 .mul 8 10 [1,3],oM 12 2 [],oA 13 1 4 [],oD 14 1 13 [6],oB 15 .mul 12 14 [5,7],oM 16 2 [],oA 17 2 4 [],oD 18 1 17 [10],oB 19 .mul 16 18 [9,11],oN 20 (.build (iz 3) [(0,1,11),(1,1,15),(2,1,19)]) [4,8,12],oQ 21 48 [7,20] [0,13],oS 3 6 21 (14::14::up 15)] .ret))
theorem mcOk78:(match Tryz.f350.body with | some c=>Qq Tryz.prog 22 c | none=>none)=some mc78:=by kernel_rfl
theorem fc78 (a b:V3) (n:Int):FC Tryz.prog 350 [aV a,aV b,iv n] [] (aV (plusW a b n)) [] false:=by
 refine Qh (nt:=22) Tryz.func350 rfl rfl mcOk78 (nL rfl) ?_
 delta mc78
 refine gA 12 rfl (QA rfl rfl rfl rfl (gR 3 rfl (QA rfl rfl rfl rfl (gR 3 rfl (QA rfl rfl rfl rfl (gR 1 rfl (cN rfl rfl (fc28 a ⟨W (n*b.x),W (n*b.y),W (n*b.z)⟩) (gR 3 rfl ?_))))))))
 exact rQ
def mc55:MC:=(sq [oN 2 (.mv (cI 0)) []] (sq [oM 3 0 [],oM 4 0 [],oN 5 (.un .neg 4) [1],oN 6 (.mx 3 5) [0,2],oM 2 6 (3::up 4)] .ret))
theorem mcOk55:(match Tryz.f209.body with | some c=>Qq Tryz.prog 7 c | none=>none)=some mc55:=by kernel_rfl
theorem fc55 (n:Int) (h : -1000000<=n/\n<=1000000):FC Tryz.prog 209 [iv n] [] (iv (n.natAbs:Int)) [] false:=by
 refine Qh (nt:=7) Tryz.func209 rfl rfl mcOk55 (nL rfl) ?_
 delta mc55
 refine gA 8 rfl (rs_neg rfl rfl (by omega) (gR 0 rfl (rs_mx rfl rfl rfl (abs_max n) (gR 3 rfl ?_))))
 exact rQ
def mc48:MC:=(sq [oN 2 (.mv (cI 0)) []] (.seq (sq [oM 3 0 [],oB 4 .lss 3 (cI 0) [0]] (.cond 4 (sq [oM 5 0 [],oN 6 (.un .neg 5) [0],oM 2 6 [1,0,1]] .ret) .skip)) (sq [oM 7 0 [],oM 2 7 [0,0]] .ret)))
theorem mcOk48:(match Tryz.f143.body with | some c=>Qq Tryz.prog 8 c | none=>none)=some mc48:=by kernel_rfl
theorem fc48 (n:Int) (h : -1000000<=n/\n<=1000000):FC Tryz.prog 143 [iv n] [] (iv (n.natAbs:Int)) [] false:=by
 refine Qh (nt:=8) Tryz.func143 rfl rfl mcOk48 (nL rfl) ?_
 delta mc48
 refine gA 10 rfl (Qc rfl (fun h4=>?_) (fun h4=>?_))
 ·refine gK 3 rfl (rs_neg rfl rfl (by omega) (gR 3 rfl ?_))
  exact Q5 <| Qg rfl (congrArg iv (by omega)) rfl (.inr rfl)
 ·refine gK 7 rfl ?_
  exact Q5 <| Qg rfl (congrArg iv (by omega)) rfl (.inr rfl)
def mc46:MC:=(sq [oN 2 (.mv (cI 0)) []] (sq [oN 3 (.mv (cI 0)) []] (.seq (sq [oM 6 0 [],oE 7 6 [0],oN 8 (.mv (cI 0)) []] (.block 0 (.loop (sq [oB 9 .lss 8 7 []] (.seq (.cond 9 .skip (.exit 0)) (.seq (.block 1 (sq [oX 10 1 6 8 [],oD 11 1 10 [0],oM 5 11 [1,0,1]] (.seq (sq [oM 12 5 [],oB 13 .eql 12 (cI (-9223372036854775808)) [0]] (.cond 13 (sq [oN 2 (.mv (cI 0)) []] .ret) .skip)) (sq [oM 14 5 [],oQ 15 209 [14] [0],oM 5 15 [1,1,0,1]] (.block 2 (.loop (.seq (sq [oM 16 5 [],oB 17 .gtr 16 (cI 0) [0]] (.cond 17 .skip (.exit 2))) (.block 3 (dg [oM 18 5 [],oM 19 3 [],oM 20 5 [],oB 21 .rem 19 20 [1,2],oM 3 18 [0,0,1],oM 5 21 (3::4::up 5)]))))))))) (rg [oB 22 .add 8 (cI 1) [],oM 8 22 [0]]))))))) (sq [oM 23 3 [],oM 2 23 [0,0]] .ret))))
theorem mcOk46:(match Tryz.f162.body with | some c=>Qq Tryz.prog 24 c | none=>none)=some mc46:=by kernel_rfl
theorem fc46 (l:List Int) (hl:∀ x∈l,-1000000<=x/\x<=1000000) (hn:l.length<=1000):FC Tryz.prog 162 [ints l] [] (iv (gL l:Int)) [] false:=by
 refine Qh (nt:=24) Tryz.func162 rfl rfl mcOk46 (nL rfl) ?_
 delta mc46
 refine gA 12 rfl (Q1 rfl rfl (gR 3 rfl ?_))
 refine Xp (α:=Nat) [6,7] [] (fun k=>l.length-k) (fun k=>[(8,iv (((k):Nat):Int)),(3,iv ((gL (l.take k):Nat):Int))]) (fun k=>[]) (fun k=>k<=l.length) 0 (by omega) rfl (wkS rfl) ?_
 intro k hk
 refine gT 5 rfl (Qc rfl (fun h9=>?_) (fun h9=>?_))
 ·refine gK 5 rfl ?_
  obtain ⟨x,hx,hxm⟩:=Q8 (L:=l) (k:=k) (by omega)
  have hb:=hl x hxm
  refine QH rfl rfl rfl (by omega) hx (gR 7 rfl (QS rfl rfl rfl (gR 1 rfl (Qc rfl (fun h13=>?_) (fun h13=>?_)))))
  ·refine gK 5 rfl ?_
   (exfalso; omega)
  ·refine gK 4 rfl (cN rfl rfl (fc55 x (hl x hxm)) (gR 3 rfl ?_))
   refine Xp (α:=Nat×Nat) [6,7,8] [] (fun a=>a.2) (fun a=>[(3,iv (a.1:Int)),(5,iv (a.2:Int))]) (fun a=>[]) (fun a=>Nat.gcd a.1 a.2=gL (l.take (k+1))) (gL (l.take k),x.natAbs) ((gL_succ hx).symm) rfl (wkS rfl) ?_
   rintro ⟨g,n⟩ hg
   dsimp only at hg ⊢
   refine gT 4 rfl (rs_gtr rfl rfl rfl (gR 1 rfl (Qc rfl (fun h17=>?_) (fun h17=>?_))))
   ·refine gK 6 rfl (Jl rfl rfl rfl (by omega) (tmod_nat g n) (gR 2 rfl (Xa (by kernel_rfl) (gP 0 rfl ?_))))
    exact X9 <| ⟨(n,g % n),by rw [← hg]; exact gcd_step g n,Nat.mod_lt _ (by omega),wkS rfl⟩
   ·refine gK 2 rfl (Qm rfl rfl rfl (by omega) (gR 2 rfl ?_))
    have hn0:n=0:=by omega
    rw [hn0,Nat.gcd_zero_right] at hg
    subst hg
    exact X9 <| ⟨k+1,by omega,by omega,wkS rfl⟩
 ·refine gK 7 rfl ?_
  (have hk2:k=l.length:=by omega
   rw [hk2,List.take_length]; exact Qg rfl rfl rfl (.inr rfl))
def mc29:MC:=(sq [oN 1 (.box 32 3 0) [],oN 2 (.alloc 32 3 (iz 3)) [],oN 3 (.mv (cI 0)) []] (sq [oA 5 0 1 [],oD 6 1 5 [0],oA 7 1 1 [],oD 8 1 7 [2],oA 9 2 1 [],oD 10 1 9 [4],oN 11 (.bslice 3 1 [(iv 0)] 3 [(0,6),(1,8),(2,10)]) [1,3,5],oQ 12 162 [11] [6],oM 4 12 (7::7::up 8)] (.seq (sq [oM 13 4 [],oB 14 .eql 13 (cI 0) [0]] (.cond 14 (sq [oN 15 (.build (iz 3) []) [],oS 3 2 15 [0,0],oN 3 (.mv (cI 0)) [1,0,1]] .ret) .skip)) (dq [oA 16 0 1 [],oD 17 1 16 [0],oM 18 4 [],oB 19 .quo 17 18 [1,2],oA 20 1 1 [],oD 21 1 20 [4],oM 22 4 [],oB 23 .quo 21 22 [5,6],oA 24 2 1 [],oD 25 1 24 [8],oM 26 4 [],oB 27 .quo 25 26 [9,10],oN 28 (.build (iz 3) [(0,1,19),(1,1,23),(2,1,27)]) [3,7,11],oM 29 4 [],oS 3 2 28 (12::up 13),oM 3 29 (13::14::up 15)] .ret))))
theorem mcOk29:(match Tryz.f182.body with | some c=>Qq Tryz.prog 30 c | none=>none)=some mc29:=by kernel_rfl
theorem fc29 (v:V3) (hb:Bd 1000000 v):FC Tryz.prog 182 [aV v] [] (.tup [aV (Qj v),iv (gS v:Int)]) [] false:=by
 refine Qh (nt:=30) Tryz.func182 rfl rfl mcOk29 (nL rfl) ?_
 delta mc29
 refine gA 14 rfl (XN rfl rfl rfl rfl rfl rfl (gR 0 rfl (XM [11] rfl rfl (fc46 [v.x,v.y,v.z] (fun x hx=>by have:=hb.x; have:=hb.y; have:=hb.z; simp at hx; rcases hx with rfl | rfl | rfl <;> assumption) (nL rfl)) (.cons (hv_sl (by simp) rfl (nL rfl) rfl) (.nil)) rfl (gR 6 rfl (QS rfl rfl rfl (gR 1 rfl (Qc rfl (fun h14=>?_) (fun h14=>?_))))))))
 ·have hg0:gS v=0:=by have:(gL [v.x,v.y,v.z]:Int)=0:=h14; unfold gS; omega
  rw [show Qj v=⟨0,0,0⟩ from if_pos hg0,hg0]
  refine gK 7 rfl ?_
  exact rQ
 ·have hg0:gS v≠0:=fun e=>h14 (by unfold gS at e; rw [e]; rfl)
  rw [show Qj v=⟨v.x.tdiv (gS v),v.y.tdiv (gS v),v.z.tdiv (gS v)⟩ from if_neg hg0]
  have hg1:((gL [v.x,v.y,v.z]:Nat):Int)≠0:=by unfold gS at hg0; omega
  refine gK 6 rfl (XC rfl rfl rfl hg1 (tdivW hb.x) (gR 3 rfl (XC rfl rfl rfl hg1 (tdivW hb.y) (gR 3 rfl (XC rfl rfl rfl hg1 (tdivW hb.z) (gR 4 rfl (Xa (by kernel_rfl) (gP 1 rfl ?_))))))))
  exact rQ
def mc47:MC:=(sq [oN 1 (.box 32 3 0) [],oN 2 (.alloc 23 3 (iz 3)) []] (sq [oA 3 0 1 [],oD 4 1 3 [0],oA 5 1 1 [],oD 6 1 5 [2],oA 7 2 1 [],oD 8 1 7 [4],oN 9 (.build (iz 3) [(0,1,4),(1,1,6),(2,1,8)]) [1,3,5],oS 3 2 9 (6::up 7)] .ret))
theorem mcOk47:(match Tryz.f140.body with | some c=>Qq Tryz.prog 10 c | none=>none)=some mc47:=by kernel_rfl
theorem fc47 (v:V3):FC Tryz.prog 140 [aV v] [] (aV v) [] false:=by
 refine Qh (nt:=10) Tryz.func140 rfl rfl mcOk47 (nL rfl) ?_
 delta mc47
 refine gA 17 rfl ?_
 exact rQ
def mc32:MC:=(sq [oN 1 (.box 32 3 0) [],oN 2 (.alloc 32 3 (iz 3)) [],oN 3 (.mv (cI 0)) []] (sq [oL 8 3 1 [],oQ 9 140 [8] [0],oN 4 (.alloc 23 3 (iz 3)) [],oS 3 4 9 [2,1,1,0,1,2]] (sq [oN 5 (.mv (cI 0)) []] (.seq (sq [oN 6 (.mv (cI 0)) []] (.block 0 (.loop (.seq (sq [oM 10 6 [],oB 11 .lss 10 (cI 3) [0]] (.cond 11 .skip (.exit 0))) (.seq (.block 1 (.seq (sq [oM 14 6 [],oN 15 (.ixarr 3 1 4 14) [0],oD 16 1 15 [1],oB 17 .eql 16 (cI (-9223372036854775808)) [2]] (.cond 17 (sq [oN 18 (.build (iz 3) []) [],oS 3 2 18 [0,0],oN 3 (.mv (cI 0)) [1,0,1]] .ret) .skip)) (sq [oM 19 6 [],oN 20 (.ixarr 3 1 4 19) [0],oD 21 1 20 [1],oQ 22 143 [21] [2],oM 7 22 (3::3::up 4)] (.block 2 (.loop (.seq (sq [oM 23 7 [],oB 24 .gtr 23 (cI 0) [0]] (.cond 24 .skip (.exit 2))) (.block 3 (dg [oM 25 7 [],oM 26 5 [],oM 27 7 [],oB 28 .rem 26 27 [1,2],oM 5 25 [0,0,1],oM 7 28 (3::4::up 5)])))))))) (rg [oM 12 6 [],oB 13 .add 12 (cI 1) [0],oM 6 13 [1,0,1]])))))) (.seq (sq [oM 29 5 [],oB 30 .eql 29 (cI 0) [0]] (.cond 30 (sq [oN 31 (.build (iz 3) []) [],oS 3 2 31 [0,0],oN 3 (.mv (cI 0)) [1,0,1]] .ret) .skip)) (dq [oA 32 0 1 [],oD 33 1 32 [0],oM 34 5 [],oB 35 .quo 33 34 [1,2],oA 36 1 1 [],oD 37 1 36 [4],oM 38 5 [],oB 39 .quo 37 38 [5,6],oA 40 2 1 [],oD 41 1 40 [8],oM 42 5 [],oB 43 .quo 41 42 [9,10],oN 44 (.build (iz 3) [(0,1,35),(1,1,39),(2,1,43)]) [3,7,11],oM 45 5 [],oS 3 2 44 (12::up 13),oM 3 45 (13::14::up 15)] .ret))))))
theorem mcOk32:(match Tryz.f100.body with | some c=>Qq Tryz.prog 46 c | none=>none)=some mc32:=by kernel_rfl
theorem fc32 (v:V3) (hb:Bd 1000000 v):FC Tryz.prog 100 [aV v] [] (.tup [aV (Qj v),iv (gS v:Int)]) [] false:=by
 have hl:∀ x∈[v.x,v.y,v.z],-1000000<=x/\x<=1000000:=fun x hx=>by have:=hb.x; have:=hb.y; have:=hb.z; simp at hx; rcases hx with rfl | rfl | rfl <;> assumption
 refine Qh (nt:=46) Tryz.func100 rfl rfl mcOk32 (nL rfl) ?_
 delta mc32
 refine gA 9 rfl (cN rfl rfl (fc47 v) (gR 13 rfl ?_))
 refine Xp (α:=Nat) [1,2,4] [1,2,4] (fun k=>3-k) (fun k=>[(5,iv ((gL ([v.x,v.y,v.z].take k):Nat):Int)),(6,iv (((k):Nat):Int))]) (fun k=>[]) (fun k=>k<=3) 0 (by omega) rfl (wkS rfl) ?_
 intro k hk
 refine gT 6 rfl (Qc rfl (fun h11=>?_) (fun h11=>?_))
 ·refine gK 7 rfl ?_
  obtain ⟨x,hx,hxm⟩:=Q8 (L:=[v.x,v.y,v.z]) (k:=k) (by simp; omega)
  have hbx:=hl x hxm
  refine Qx rfl rfl rfl (by omega) (by omega) (gR 0 rfl (rs_ld_f (L:=[v.x,v.y,v.z]) (f:=AV.int .i64) (k:=k) rfl rfl rfl (by simp) hx (gR 0 rfl (QS rfl rfl rfl (gR 1 rfl (Qc rfl (fun h17=>?_) (fun h17=>?_)))))))
  ·refine gK 7 rfl ?_
   (exfalso; omega)
  ·refine gK 4 rfl (Qx rfl rfl rfl (by omega) (by omega) (gR 0 rfl (rs_ld_f (L:=[v.x,v.y,v.z]) (f:=AV.int .i64) (k:=k) rfl rfl rfl (by simp) hx (gR 0 rfl (cN rfl rfl (fc48 x (hl x hxm)) (gR 3 rfl ?_))))))
   refine Xp (α:=Nat×Nat) [1,2,4,6] [1,2,4] (fun a=>a.2) (fun a=>[(5,iv ((a.1:Nat):Int)),(7,iv (a.2:Int))]) (fun a=>[]) (fun a=>Nat.gcd a.1 a.2=gL ([v.x,v.y,v.z].take (k+1))) (gL ([v.x,v.y,v.z].take k),x.natAbs) ((gL_succ hx).symm) rfl (wkS rfl) ?_
   rintro ⟨g,n⟩ hg
   dsimp only at hg ⊢
   refine gT 4 rfl (rs_gtr rfl rfl rfl (gR 1 rfl (Qc rfl (fun h24=>?_) (fun h24=>?_))))
   ·refine gK 6 rfl (Jl rfl rfl rfl (by omega) (tmod_nat g n) (gR 2 rfl (Xa (by kernel_rfl) (gP 0 rfl ?_))))
    exact X9 <| ⟨(n,g % n),by rw [← hg]; exact gcd_step g n,Nat.mod_lt _ (by omega),wkS rfl⟩
   ·refine gK 3 rfl (Qm rfl rfl rfl (by omega) (gR 2 rfl ?_))
    have hn0:n=0:=by omega
    rw [hn0,Nat.gcd_zero_right] at hg
    subst hg
    exact X9 <| ⟨k+1,by omega,by omega,wkS rfl⟩
 ·refine gK 5 rfl (QS rfl rfl rfl (gR 1 rfl (Qc rfl (fun h30=>?_) (fun h30=>?_))))
  ·obtain rfl:k=3:=by omega
   replace h30:((gL [v.x,v.y,v.z]:Nat):Int)=0:=h30
   have hg0:gS v=0:=by have:(gL [v.x,v.y,v.z]:Int)=0:=h30; unfold gS; omega
   rw [show Qj v=⟨0,0,0⟩ from if_pos hg0,hg0]
   refine gK 7 rfl ?_
   exact rQ
  ·obtain rfl:k=3:=by omega
   replace h30:¬ ((gL [v.x,v.y,v.z]:Nat):Int)=0:=h30
   have hg0:gS v≠0:=fun e=>h30 (by unfold gS at e; rw [e]; rfl)
   rw [show Qj v=⟨v.x.tdiv (gS v),v.y.tdiv (gS v),v.z.tdiv (gS v)⟩ from if_neg hg0]
   have hg1:((gL [v.x,v.y,v.z]:Nat):Int)≠0:=by unfold gS at hg0; omega
   refine gK 6 rfl (XC rfl rfl rfl hg1 (tdivW hb.x) (gR 3 rfl (XC rfl rfl rfl hg1 (tdivW hb.y) (gR 3 rfl (XC rfl rfl rfl hg1 (tdivW hb.z) (gR 4 rfl (Xa (by kernel_rfl) (gP 1 rfl ?_))))))))
   exact rQ
def mc49:MC:=(sq [oN 4 (.mv (.c (.bool false))) []] (.seq (sq [oM 7 1 [],oE 8 7 [0],oN 9 (.mv (cI 0)) []] (.block 0 (.loop (sq [oB 10 .lss 9 8 []] (.seq (.cond 10 .skip (.exit 0)) (.seq (.block 1 (sq [oX 11 1 7 9 [],oD 12 1 11 [0],oM 6 12 [1,0,1]] (sq [oM 13 6 [],oM 14 0 [],oN 15 (.un .neg 14) [1],oB 16 .lss 13 15 [0,2],oM 17 16 [3],pM 18 6 17 false [4],pM 19 0 17 false [4],oG 20 (.bin .gtr 18 19) 17 false [5,6,4],oN 21 (.pick 17 (.c (.bool true)) 20) [4,7]] (.cond 21 (sq [oN 4 (.mv (.c (.bool false))) []] .ret) .skip)))) (rg [oB 22 .add 9 (cI 1) [],oM 9 22 [0]]))))))) (sq [oN 4 (.mv (.c (.bool true))) []] .ret)))
theorem mcOk49:(match Tryz.f70.body with | some c=>Qq Tryz.prog 23 c | none=>none)=some mc49:=by kernel_rfl
theorem fc49 (m:Int) (l:List Int) (hm:0<=m/\m<=1000000) (hn:l.length<=1000):FC Tryz.prog 70 [iv m,ints l] [] (.bool (X6 m l)) [] false:=by
 refine Qh (nt:=23) Tryz.func70 rfl rfl mcOk49 (nL rfl) ?_
 delta mc49
 refine gA 8 rfl (Q1 rfl rfl (gR 3 rfl ?_))
 refine Xp (α:=Nat) [0,7,8] [] (fun k=>l.length-k) (fun k=>[(9,iv (((k):Nat):Int))]) (fun k=>[]) (fun k=>k<=l.length/\∀ j n,j<k->l[j]?=some n → -m<=n/\n<=m) 0 (⟨by omega,fun j n h=>by omega⟩) rfl (wkS rfl) ?_
 rintro k ⟨hk,hall⟩
 refine gT 5 rfl (Qc rfl (fun h10=>?_) (fun h10=>?_))
 ·refine gK 5 rfl ?_
  obtain ⟨x,hx,hxm⟩:=Q8 (L:=l) (k:=k) (by omega)
  refine QH rfl rfl rfl (by omega) hx (gR 7 rfl (rs_neg rfl rfl (by omega) (gR 0 rfl (Qz rfl rfl rfl rfl (fun h16=>?_) (fun h16=>?_)))))
  ·skip
   refine gR 12 rfl ?_
   exact Q5 <| Qg rfl (congrArg AV.bool ((within_f hx (by omega)).symm)) rfl (.inr rfl)
  ·skip
   refine gR 3 rfl (Qz rfl rfl rfl rfl (fun h20=>?_) (fun h20=>?_))
   ·skip
    refine gR 8 rfl ?_
    exact Q5 <| Qg rfl (congrArg AV.bool ((within_f hx (by omega)).symm)) rfl (.inr rfl)
   ·skip
    refine gR 5 rfl (Qm rfl rfl rfl (by omega) (gR 2 rfl ?_))
    exact X9 <| ⟨k+1,⟨by omega,fun j n hj hjn=>by
     by_cases e:j=k
     ·subst e; rw [hx] at hjn; injection hjn with hjn; subst hjn; omega
     ·exact hall j n (by omega) hjn⟩,by omega,wkS rfl⟩
 ·refine gK 6 rfl ?_
  exact Q5 <| Qg rfl (congrArg AV.bool ((within_t fun j n hj=>hall j n (by have:=lt_of_at hj; omega) hj).symm)) rfl (.inr rfl)
def mc40:MC:=(sq [oN 1 (.box 32 3 0) [],oN 2 (.mv (.c (.bool false))) []] (sq [oA 3 0 1 [],oD 4 1 3 [0],oA 5 1 1 [],oD 6 1 5 [2],oA 7 2 1 [],oD 8 1 7 [4],oN 9 (.bslice 3 1 [(iv 0)] 3 [(0,4),(1,6),(2,8)]) [1,3,5],oQ 10 70 [(cI 24),9] [6],oM 2 10 (7::7::up 8)] .ret))
theorem mcOk40:(match Tryz.f39.body with | some c=>Qq Tryz.prog 11 c | none=>none)=some mc40:=by kernel_rfl
theorem fc40 (v:V3):FC Tryz.prog 39 [aV v] [] (.bool (inS v)) [] false:=by
 refine Qh (nt:=11) Tryz.func39 rfl rfl mcOk40 (nL rfl) ?_
 delta mc40
 refine gA 13 rfl (XN rfl rfl rfl rfl rfl rfl (gR 0 rfl (XM [9] rfl rfl (fc49 24 [v.x,v.y,v.z] (by omega) (nL rfl)) (.cons (Ql rfl) (.cons (hv_sl (by simp) rfl (nL rfl) rfl) (.nil))) rfl (gR 3 rfl ?_))))
 exact rQ
def mc41:MC:=(sq [oN 1 (.box 32 3 0) [],oN 2 (.mv (.c (.bool false))) []] (sq [oL 5 3 1 [],oQ 6 140 [5] [0],oN 3 (.alloc 23 3 (iz 3)) [],oS 3 3 6 [2,1,1,0,1,2]] (.seq (sq [oN 4 (.mv (cI 0)) []] (.block 0 (.loop (.seq (sq [oM 7 4 [],oB 8 .lss 7 (cI 3) [0]] (.cond 8 .skip (.exit 0))) (.seq (.block 1 (sq [oM 11 4 [],oN 12 (.ixarr 3 1 3 11) [0],oD 13 1 12 [1],oB 14 .lss 13 (cI (-24)) [2],oM 15 14 [3],pM 16 4 15 false [4],oG 17 (.ixarr 3 1 3 16) 15 false [5,4],pD 18 1 17 15 false [6,4],oG 19 (.bin .gtr 18 (cI 24)) 15 false [7,4],oN 20 (.pick 15 (.c (.bool true)) 19) [4,8]] (.cond 20 (sq [oN 2 (.mv (.c (.bool false))) []] .ret) .skip))) (rg [oM 9 4 [],oB 10 .add 9 (cI 1) [0],oM 4 10 [1,0,1]])))))) (sq [oN 2 (.mv (.c (.bool true))) []] .ret))))
theorem mcOk41:(match Tryz.f98.body with | some c=>Qq Tryz.prog 21 c | none=>none)=some mc41:=by kernel_rfl
theorem fc41 (v:V3):FC Tryz.prog 98 [aV v] [] (.bool (inS v)) [] false:=by
 refine Qh (nt:=21) Tryz.func98 rfl rfl mcOk41 (nL rfl) ?_
 delta mc41
 refine gA 8 rfl (cN rfl rfl (fc47 v) (gR 9 rfl ?_))
 refine Xv (α:=Nat) (fun k=>3-k) (fun k=>[(3,.ptr 3 0 0),(4,iv (((k):Nat):Int))]) (fun k=>[(3,.cells 23 3 [[v.x,v.y,v.z].map (AV.int .i64)] true)]) (fun k=>k<=3/\∀ j n,j<k->[v.x,v.y,v.z][j]?=some n → -24<=n/\n<=24) 0 (⟨by omega,fun j n h=>by omega⟩)
  (wkS rfl) ?_
 rintro k ⟨hk,hall⟩
 refine gT 6 rfl (Qc rfl (fun h8=>?_) (fun h8=>?_))
 ·refine gK 6 rfl ?_
  obtain ⟨x,hx,hxm⟩:=Q8 (L:=[v.x,v.y,v.z]) (k:=k) (by simp; omega)
  refine Qx rfl rfl rfl (by omega) (by omega) (gR 0 rfl (rs_ld_f (L:=[v.x,v.y,v.z]) (f:=AV.int .i64) (k:=k) rfl rfl rfl (by simp) hx (gR 0 rfl (Qz rfl rfl rfl rfl (fun h14=>?_) (fun h14=>?_)))))
  ·skip
   refine gR 13 rfl ?_
   exact Q5 <| Qg rfl (congrArg AV.bool ((within_f hx (by omega)).symm)) rfl (.inr rfl)
  ·skip
   refine gR 2 rfl (Qx rfl rfl rfl (by omega) (by omega) (gR 0 rfl (rs_ld_f (L:=[v.x,v.y,v.z]) (f:=AV.int .i64) (k:=k) rfl rfl rfl (by simp) hx (gR 0 rfl (Qz rfl rfl rfl rfl (fun h19=>?_) (fun h19=>?_))))))
   ·skip
    refine gR 8 rfl ?_
    exact Q5 <| Qg rfl (congrArg AV.bool ((within_f hx (by omega)).symm)) rfl (.inr rfl)
   ·skip
    refine gR 6 rfl (Qm rfl rfl rfl (by omega) (gR 2 rfl ?_))
    exact X9 <| ⟨k+1,⟨by omega,fun j n hj hjn=>by
     by_cases e:j=k
     ·subst e; rw [hx] at hjn; injection hjn with hjn; subst hjn; omega
     ·exact hall j n (by omega) hjn⟩,by omega,wkS rfl⟩
 ·refine gK 6 rfl ?_
  exact Q5 <| Qg rfl (congrArg AV.bool ((within_t fun j n hj=>hall j n (by have:=lt_of_at hj; simp at this; omega) hj).symm)) rfl (.inr rfl)
def mc51:MC:=(sq [oN 1 (.box 32 3 0) [],oN 2 (.mv (cI 0)) []] (dq [oA 6 0 1 [],oD 7 1 6 [0],oA 8 0 1 [],oD 9 1 8 [2],oN 10 (.un .neg 9) [3],oN 11 (.mx 7 10) [1,4],oA 12 1 1 [],oD 13 1 12 [6],oA 14 1 1 [],oD 15 1 14 [8],oN 16 (.un .neg 15) [9],oN 17 (.mx 13 16) [7,10],oA 18 2 1 [],oD 19 1 18 [12],oA 20 2 1 [],oD 21 1 20 [14],oN 22 (.un .neg 21) [15],oN 23 (.mx 19 22) [13,16],oM 3 11 (5::up 6),oM 4 17 [11,18,0,1,2,3,4,5,6,7,8,9,10,11,18],oM 5 23 (17::19::up 20)] (.seq (sq [oM 24 3 [],oM 25 4 [],oB 26 .add 24 25 [0,1],oM 27 5 [],oB 28 .add 26 27 [2,3],oM 29 3 [],oM 30 4 [],oM 31 5 [],oN 32 (.mx 30 31) [6,7],oN 33 (.mx 29 32) [5,8],oB 34 .neq 28 33 [4,9]] (.cond 34 (sq [oN 2 (.mv (cI 0)) []] .ret) .skip)) (sq [oM 35 3 [],oM 36 4 [],oB 37 .add 35 36 [0,1],oM 38 5 [],oB 39 .add 37 38 [2,3],oM 2 39 (4::up 5)] .ret))))
theorem mcOk51:(match Tryz.f141.body with | some c=>Qq Tryz.prog 40 c | none=>none)=some mc51:=by kernel_rfl
theorem fc51 (v:V3) (hb:Bd 1000000 v):FC Tryz.prog 141 [aV v] [] (iv (lenS v)) [] false:=by
 have:=hb.x; have:=hb.y; have:=hb.z
 refine Qh (nt:=40) Tryz.func141 rfl rfl mcOk51 (nL rfl) ?_
 delta mc51
 refine gA 11 rfl (rs_neg rfl rfl (by omega) (gR 0 rfl (rs_mx rfl rfl rfl rfl (gR 4 rfl (rs_neg rfl rfl (by omega) (gR 0 rfl (rs_mx rfl rfl rfl rfl (gR 4 rfl (rs_neg rfl rfl (by omega) (gR 0 rfl (rs_mx rfl rfl rfl rfl ?_)))))))))))
 refine gR 3 rfl (Xa (by kernel_rfl) (gP 5 rfl (Qm rfl rfl rfl (by omega) (gR 1 rfl (Qm rfl rfl rfl (by omega) (gR 3 rfl (rs_mx rfl rfl rfl rfl (gR 0 rfl (rs_mx rfl rfl rfl rfl (gR 0 rfl (Jv rfl rfl rfl ?_)))))))))))
 refine gR 1 rfl (Qc rfl (fun h34=>?_) (fun h34=>?_))
 ·refine gK 5 rfl ?_
  exact Q5 <| Qg rfl (congrArg iv (by unfold lenS; first | exact if_neg h34 | exact if_pos (by omega) | (rw [if_neg (by omega)]) | (rw [if_pos (by omega)]))) rfl (.inr rfl)
 ·refine gK 5 rfl (Qm rfl rfl rfl (by omega) (gR 1 rfl (Qm rfl rfl rfl (by omega) (gR 3 rfl ?_))))
  exact Q5 <| Qg rfl (congrArg iv (by unfold lenS; first | exact if_neg h34 | exact if_pos (by omega) | (rw [if_neg (by omega)]) | (rw [if_pos (by omega)]))) rfl (.inr rfl)
def mc54:MC:=(sq [oN 1 (.box 34 11 0) [],oN 2 (.alloc 32 3 (iz 3)) []] (dq [oA 3 1 1 [],oL 4 3 3 [0],oA 5 4 1 [],oL 6 3 5 [2],oQ 7 52 [4,6] [1,3],oA 8 7 1 [],oL 9 3 8 [5],oQ 10 51 [7,9] [4,6,4],oS 3 2 10 (7::7::up 8)] .ret))
theorem mcOk54:(match Tryz.f101.body with | some c=>Qq Tryz.prog 11 c | none=>none)=some mc54:=by kernel_rfl
theorem fc54 (m:Mv):FC Tryz.prog 101 [aM m] [] (aV (subW (addW m.fr m.to) m.co)) [] false:=by
 refine Qh (nt:=11) Tryz.func101 rfl rfl mcOk54 (nL rfl) ?_
 delta mc54
 refine gA 11 rfl (cN rfl rfl (fc57 m.fr m.to) (gR 2 rfl (cN rfl rfl (fc50 (addW m.fr m.to) m.co) (gR 1 rfl (Xa (by kernel_rfl) (gP 1 rfl ?_))))))
 exact rQ
def mc84:MC:=(sq [oN 1 (.box 32 3 0) [],oN 2 (.mv (.c (.bool false))) []] (sq [oL 3 3 1 [],oL 4 3 1 [],oQ 5 124 [3,4] [0,1],oB 6 .eql 5 (cI 1) [2],oM 2 6 (3::2::up 4)] .ret))
theorem mcOk84:(match Tryz.f356.body with | some c=>Qq Tryz.prog 7 c | none=>none)=some mc84:=by kernel_rfl
theorem fc84 (v:V3):FC Tryz.prog 356 [aV v] [] (.bool (decide (dotW v v=1))) [] false:=by
 refine Qh (nt:=7) Tryz.func356 rfl rfl mcOk84 (nL rfl) ?_
 delta mc84
 refine gA 9 rfl (cN rfl rfl (fc30 v v) (gR 0 rfl (QS rfl rfl rfl (gR 3 rfl ?_))))
 exact rQ
end Go.Proofs.YthmbjgnjfjjibaaGreatDoor
namespace Go.Proofs.YthmbjgnjfjjibaaGreatDoor
open Go.RowKit
set_option maxRecDepth 100000
section
variable {a b:V3}
theorem fc27s (ha:Bd 1000000 a) (hb:Bd 1000000 b):FC Tryz.prog 82 [aV a,aV b] [] (aV (sub a b)) [] false:=by rw [← subW_eq ha hb]; exact fc27 a b
theorem fc50s (ha:Bd 1000000 a) (hb:Bd 1000000 b):FC Tryz.prog 51 [aV a,aV b] [] (aV (sub a b)) [] false:=by rw [← subW_eq ha hb]; exact fc50 a b
theorem fc30s (ha:Bd 1000000 a) (hb:Bd 1000000 b):FC Tryz.prog 124 [aV a,aV b] [] (iv (dot a b)) [] false:=by rw [← dotW_eq ha hb]; exact fc30 a b
theorem fc52s (ha:Bd 1000000 a) (hb:Bd 1000000 b):FC Tryz.prog 142 [aV a,aV b] [] (iv (dot a b)) [] false:=by rw [← dotW_eq ha hb]; exact fc52 a b
theorem fc37s {n:Int} (ha:Bd 1000000 a) (hb:Bd 1000000 b) (hn : -1000000<=n/\n<=1000000):FC Tryz.prog 96 [aV a,aV b,iv n] [] (aV (plus a b n)) [] false:=by rw [← plusW_eq ha hb hn]; exact fc37 a b n
theorem fc78s {n:Int} (ha:Bd 1000000 a) (hb:Bd 1000000 b) (hn : -1000000<=n/\n<=1000000):FC Tryz.prog 350 [aV a,aV b,iv n] [] (aV (plus a b n)) [] false:=by rw [← plusW_eq ha hb hn]; exact fc78 a b n
theorem fc84s (ha:Bd 1000000 a):FC Tryz.prog 356 [aV a] [] (.bool (decide (dot a a=1))) [] false:=by rw [← dotW_eq ha ha]; exact fc84 a
end
structure InM (m:Mv):Prop where
 fr:Bd 24 m.fr
 to:Bd 24 m.to
 co:Bd 24 m.co
theorem inM_of {m:Mv} (h1:(!inS m.fr)=false) (h2:(!inS m.to)=false) (h3:(!inS m.co)=false):InM m:=⟨in_bd (by simpa using h1),in_bd (by simpa using h2),in_bd (by simpa using h3)⟩
def sA (m:Mv):V3:=sub m.co m.to
def sB (m:Mv):V3:=sub m.co m.fr
theorem InM.a {m:Mv} (h:InM m):Bd 1000 (sA m):=(h.co.sub h.to).mono (by omega)
theorem InM.b {m:Mv} (h:InM m):Bd 1000 (sB m):=(h.co.sub h.fr).mono (by omega)
theorem J6 {n:Int} {v:V3} (h:Bd n v):Bd n (Qj v):=by
 have:=h.x; have:=h.y; have:=h.z
 have h1:=tdiv_le v.x (gS v); have h2:=tdiv_le v.y (gS v); have h3:=tdiv_le v.z (gS v)
 unfold Qj
 split
 ·exact ⟨by dsimp only; omega,by dsimp only; omega,by dsimp only; omega⟩
 ·exact ⟨by dsimp only; omega,by dsimp only; omega,by dsimp only; omega⟩
theorem Bd.big {n:Int} {v:V3} (h:Bd n v) (hn:n<=1000000:=by decide):Bd 1000000 v:=h.mono hn
def fitsA (m:Mv):Bool:=decide (dot (Qj (sA m)) (Qj (sA m))=1)&&(decide (dot (Qj (sB m)) (Qj (sB m))=1)&&(decide ((gS (sA m):Int)=gS (sB m))&&decide (dot (Qj (sA m)) (Qj (sB m))=0)))
def fitsL (m:Mv):Bool:=(true != decide (m.fr=m.to))&&(false != decide (m.co=⟨0,0,0⟩))
def Xm (lo hi:Int) (m:Mv):Bool := !inS m.fr||(!inS m.to||(!inS m.co||(decide (m.feed<lo)||decide (hi<m.feed))))
def Qw (m:Mv):Int:=if m.kind=1 then (if Xm 0 0 m=true then 3 else if fitsL m=true then 0 else 16) else if m.kind=2 then (if Xm 1 100 m=true then 3 else if fitsL m=true then 0 else 16)
 else if m.kind=3 then (if Xm 1 100 m=true then 3 else if fitsA m=true then 0 else 16) else 16
def QX (m:Mv):Bool:=decide (lenS (sub m.fr m.co) ≥ 1)&&(decide (lenS (sub m.fr m.co)=lenS (sub m.to m.co))&&decide (dot (sub m.fr m.co) (sub m.to m.co)=0))
def Xs (m:Mv):Bool:=(decide (m.kind=1)&&decide (m.feed≠0))||(decide (m.kind≠1)&&(decide (m.feed<1)||decide (100<m.feed)))
def Xr (m:Mv):Bool:=(false != decide (m.fr=m.to))||((decide (m.kind≠3)&&(true != decide (m.co=⟨0,0,0⟩)))||(decide (m.kind=3) && !QX m))
def XY (m:Mv):Int:=if m.kind<1\/3<m.kind then 16 else if (!inS m.fr||(!inS m.to || !inS m.co))=true then 3 else if Xs m=true then 3 else if Xr m=true then 16 else 0
def mc83:MC:=(sq [oN 1 (.box 219 11 0) [],oN 2 (.alloc 32 3 (iz 3)) [],oN 3 (.alloc 32 3 (iz 3)) [],oN 4 (.mv (cI 0)) [],oN 5 (.mv (cI 0)) [3]] (sq [oA 7 0 1 [],oA 8 7 7 [0],oL 9 3 8 [1],oA 10 0 1 [],oA 11 4 10 [3],oL 12 3 11 [4],oQ 13 82 [9,12] [2,5],oQ 14 182 [13] [6,6],oM 6 14 [7],oN 15 (.ext 6 0) [8],oN 16 (.ext 6 1) [8],oS 3 2 15 (9::7::up 10),oM 4 16 (10::11::up 12)] (sq [oA 18 0 1 [],oA 19 7 18 [0],oL 20 3 19 [1],oA 21 0 1 [],oA 22 1 21 [3],oL 23 3 22 [4],oQ 24 82 [20,23] [2,5],oQ 25 182 [24] [6,6],oM 17 25 [7],oN 26 (.ext 17 0) [8],oN 27 (.ext 17 1) [8],oS 3 3 26 (9::7::up 10),oM 5 27 (10::11::up 12)] (dq [oL 28 3 2 [],oL 29 3 3 [],oM 30 4 [],oM 31 5 [],oS 3 2 28 [0,0],oS 3 3 29 [1,4,0,1,4],oM 4 30 [2,5,0,1,2,4,5],oM 5 31 (3::6::up 7)] .ret))))
theorem mcOk83:(match Tryz.f355.body with | some c=>Qq Tryz.prog 32 c | none=>none)=some mc83:=by kernel_rfl
theorem fc83 (m:Mv) (h:InM m):FC Tryz.prog 355 [aM m] [] (.tup [aV (Qj (sA m)),aV (Qj (sB m)),iv (gS (sA m):Int),iv (gS (sB m):Int)]) [] false:=by
 refine Qh (nt:=32) Tryz.func355 rfl rfl mcOk83 (nL rfl) ?_
 delta mc83
 refine gA 16 rfl (cN rfl rfl (fc27s h.co.big h.to.big) (gR 0 rfl (cN rfl rfl (fc29 (sA m) h.a.big) (gR 14 rfl (cN rfl rfl (fc27s h.co.big h.fr.big) (gR 0 rfl (cN rfl rfl (fc29 (sB m) h.b.big) (gR 16 rfl (Xa (by kernel_rfl) (gP 1 rfl ?_))))))))))
 exact rQ
def mc79:MC:=(sq [oN 1 (.box 219 11 0) [],oN 2 (.mv (.c (.bool false))) []] (sq [oL 8 11 1 [],oQ 9 355 [8] [0],oM 7 9 [1],oN 10 (.ext 7 0) [2],oN 11 (.ext 7 1) [2],oN 12 (.ext 7 2) [2],oN 13 (.ext 7 3) [2],oN 3 (.alloc 32 3 (iz 3)) [],oN 4 (.alloc 32 3 (iz 3)) [],oS 3 3 10 [7,3,1,0,1,2,3,7,8],oS 3 4 11 [8,4,9,0,1,2,3,4,7,8,9],oM 5 12 [5,10,0,1,2,3,4,5,7,8,9,10],oM 6 13 (6::11::up 12)] (sq [oL 14 3 3 [],oQ 15 356 [14] [0],oM 16 15 [1,1],oG 17 (.ld true 3 4) 16 true [2],oG 18 (.call 356 [17]) 16 true [3,2,2],oN 19 (.pick 16 18 (.c (.bool false))) [2,4],oM 20 19 [5,4],pM 21 5 20 true [6],pM 22 6 20 true [6],oG 23 (.bin .eql 21 22) 20 true [7,8,6],oN 24 (.pick 20 23 (.c (.bool false))) [6,9],oM 25 24 [10,6],oG 26 (.ld true 3 3) 25 true [11],oG 27 (.ld true 3 4) 25 true [11],oG 28 (.call 124 [26,27]) 25 true [12,13,11,11],oG 29 (.bin .eql 28 (cI 0)) 25 true [14,11],oN 30 (.pick 25 29 (.c (.bool false))) [11,15],oM 2 30 (16::14::up 17)] .ret)))
theorem mcOk79:(match Tryz.f351.body with | some c=>Qq Tryz.prog 31 c | none=>none)=some mc79:=by kernel_rfl
theorem fc79 (m:Mv) (h:InM m):FC Tryz.prog 351 [aM m] [] (.bool (fitsA m)) [] false:=by
 refine Qh (nt:=31) Tryz.func351 rfl rfl mcOk79 (nL rfl) ?_
 delta mc79
 refine gA 8 rfl (cN rfl rfl (fc83 m h) (gR 15 rfl (cN rfl rfl (fc84s (J6 h.a).big) (gR 1 rfl ?_))))
 cases h16:decide (dot (Qj (sA m)) (Qj (sA m))=1)
 ·skip
  refine gI 17 rfl ?_
  exact Q5 <| Qg rfl (congrArg AV.bool (by simp_all [fitsA])) rfl (.inr rfl)
 ·skip
  refine gI 1 rfl (cN rfl rfl (fc84s (J6 h.b).big) ?_)
  cases h18:decide (dot (Qj (sB m)) (Qj (sB m))=1)
  ·skip
   refine gR 15 rfl ?_
   exact Q5 <| Qg rfl (congrArg AV.bool (by simp_all [fitsA])) rfl (.inr rfl)
  ·skip
   refine gR 4 rfl (Qz rfl rfl rfl rfl (fun h23=>?_) (fun h23=>?_))
   ·skip
    refine gR 4 rfl (cN rfl rfl (fc30s (J6 h.a).big (J6 h.b).big) (gR 0 rfl (Qz rfl rfl rfl rfl (fun h29=>?_) (fun h29=>?_))))
    ·skip
     refine gR 4 rfl ?_
     exact Q5 <| Qg rfl (congrArg AV.bool (by simp_all [fitsA])) rfl (.inr rfl)
    ·skip
     refine gR 4 rfl ?_
     exact Q5 <| Qg rfl (congrArg AV.bool (by simp_all [fitsA])) rfl (.inr rfl)
   ·skip
    refine gR 10 rfl ?_
    exact Q5 <| Qg rfl (congrArg AV.bool (by simp_all [fitsA])) rfl (.inr rfl)
def mc73:MC:=(sq [oN 1 (.box 218 11 0) [],oN 2 (.mv (.c (.bool false))) []] (sq [oA 3 0 1 [],oA 4 1 3 [0],oL 5 3 4 [1],oA 6 0 1 [],oA 7 4 6 [3],oL 8 3 7 [4],oN 9 (.aeq true 3 5 8) [2,5],oM 10 9 [6],pA 11 0 1 10 true [7],pA 12 7 11 10 true [8,7],oG 13 (.ld true 3 12) 10 true [9,7],oG 14 (.build (iz 3) []) 10 true [7],oG 15 (.aeq false 3 13 14) 10 true [10,11,7],oN 16 (.pick 10 15 (.c (.bool false))) [7,12],oM 2 16 (13::7::up 14)] .ret))
theorem mcOk73:(match Tryz.f345.body with | some c=>Qq Tryz.prog 17 c | none=>none)=some mc73:=by kernel_rfl
theorem fc73 (m:Mv):FC Tryz.prog 345 [aM m] [] (.bool (fitsL m)) [] false:=by
 refine Qh (nt:=17) Tryz.func345 rfl rfl mcOk73 (nL rfl) ?_
 delta mc73
 refine gA 13 rfl (Jq rfl rfl rfl ?_)
 cases h9:(true != decide (m.fr=m.to))
 ·skip
  refine gR 10 rfl ?_
  exact Q5 <| Qg rfl (congrArg AV.bool (by simp_all [fitsL])) rfl (.inr rfl)
 ·skip
  refine gR 5 rfl (Jq (v:=⟨0,0,0⟩) rfl rfl rfl (gR 4 rfl ?_))
  exact Q5 <| Qg rfl (congrArg AV.bool (by simp_all [fitsL])) rfl (.inr rfl)
def mc39:MC:=(sq [oN 1 (.box 34 11 0) [],oN 2 (.mv (.c .nili)) []] (.seq (sq [oA 3 0 1 [],oD 4 1 3 [0]] (.block 0 (.seq (sq [oB 6 .eql 4 (cI 1) [],oM 5 6 [0]] (.cond 5 .skip (rg [oB 7 .eql 4 (cI 2) [],oM 5 7 [0]]))) (.cond 5 (sq [oL 8 11 1 [],oN 9 (.build (iz 11) [(0,11,8)]) [0],oN 10 (.mkif 218 9) [1],oM 2 10 [2,0,1,2]] .ret) (sq [oB 12 .eql 4 (cI 3) [],oM 11 12 [0]] (.cond 11 (sq [oL 13 11 1 [],oN 14 (.build (iz 11) [(0,11,13)]) [0],oN 15 (.mkif 219 14) [1],oM 2 15 [2,0,1,2]] .ret) .skip)))))) (sq [oN 2 (.mv (.c .nili)) []] .ret)))
theorem mcOk39:(match Tryz.f88.body with | some c=>Qq Tryz.prog 16 c | none=>none)=some mc39:=by kernel_rfl
theorem fc39_l (m:Mv) (hk:m.kind=1\/m.kind=2):FC Tryz.prog 88 [aM m] [] (.ifc 218 (aM m)) [] false:=by
 refine Qh (nt:=16) Tryz.func88 rfl rfl mcOk39 (nL rfl) ?_
 delta mc39
 refine gA 15 rfl (QS rfl rfl rfl (gR 2 rfl (Qc rfl (fun h5=>?_) (fun h5=>?_))))
 ·refine gK 1 rfl (Qc rfl (fun h5=>?_) (fun h5=>?_))
  ·refine gK 4 rfl (J5 rfl rfl rfl (gR 3 rfl ?_))
   exact rQ
  ·refine gK 2 rfl (QS rfl rfl rfl (gR 2 rfl (Qc rfl (fun h11=>?_) (fun h11=>?_))))
   ·refine gK 4 rfl (J5 rfl rfl rfl (gR 3 rfl ?_))
    (exfalso; omega)
   ·refine gK 6 rfl ?_
    (exfalso; omega)
 ·refine gK 1 rfl (QS rfl rfl rfl (gR 2 rfl (Qc rfl (fun h5=>?_) (fun h5=>?_))))
  ·refine gK 4 rfl (J5 rfl rfl rfl (gR 3 rfl ?_))
   exact rQ
  ·refine gK 2 rfl (QS rfl rfl rfl (gR 2 rfl (Qc rfl (fun h11=>?_) (fun h11=>?_))))
   ·refine gK 4 rfl (J5 rfl rfl rfl (gR 3 rfl ?_))
    (exfalso; omega)
   ·refine gK 6 rfl ?_
    (exfalso; omega)
theorem fc39_a (m:Mv) (hk:m.kind=3):FC Tryz.prog 88 [aM m] [] (.ifc 219 (aM m)) [] false:=by
 refine Qh (nt:=16) Tryz.func88 rfl rfl mcOk39 (nL rfl) ?_
 delta mc39
 refine gA 15 rfl (QS rfl rfl rfl (gR 2 rfl (Qc rfl (fun h5=>?_) (fun h5=>?_))))
 ·refine gK 1 rfl (Qc rfl (fun h5=>?_) (fun h5=>?_))
  ·refine gK 4 rfl (J5 rfl rfl rfl (gR 3 rfl ?_))
   (exfalso; omega)
  ·refine gK 2 rfl (QS rfl rfl rfl (gR 2 rfl (Qc rfl (fun h11=>?_) (fun h11=>?_))))
   ·refine gK 4 rfl (J5 rfl rfl rfl (gR 3 rfl ?_))
    exact rQ
   ·refine gK 6 rfl ?_
    (exfalso; omega)
 ·refine gK 1 rfl (QS rfl rfl rfl (gR 2 rfl (Qc rfl (fun h5=>?_) (fun h5=>?_))))
  ·refine gK 4 rfl (J5 rfl rfl rfl (gR 3 rfl ?_))
   (exfalso; omega)
  ·refine gK 2 rfl (QS rfl rfl rfl (gR 2 rfl (Qc rfl (fun h11=>?_) (fun h11=>?_))))
   ·refine gK 4 rfl (J5 rfl rfl rfl (gR 3 rfl ?_))
    exact rQ
   ·refine gK 6 rfl ?_
    (exfalso; omega)
theorem fc39_n (m:Mv) (hk:¬ m.kind=1/\¬ m.kind=2/\¬ m.kind=3):FC Tryz.prog 88 [aM m] [] (.nili) [] false:=by
 refine Qh (nt:=16) Tryz.func88 rfl rfl mcOk39 (nL rfl) ?_
 delta mc39
 refine gA 15 rfl (QS rfl rfl rfl (gR 2 rfl (Qc rfl (fun h5=>?_) (fun h5=>?_))))
 ·refine gK 1 rfl (Qc rfl (fun h5=>?_) (fun h5=>?_))
  ·refine gK 4 rfl (J5 rfl rfl rfl (gR 3 rfl ?_))
   (exfalso; omega)
  ·refine gK 2 rfl (QS rfl rfl rfl (gR 2 rfl (Qc rfl (fun h11=>?_) (fun h11=>?_))))
   ·refine gK 4 rfl (J5 rfl rfl rfl (gR 3 rfl ?_))
    (exfalso; omega)
   ·refine gK 6 rfl ?_
    exact rQ
 ·refine gK 1 rfl (QS rfl rfl rfl (gR 2 rfl (Qc rfl (fun h5=>?_) (fun h5=>?_))))
  ·refine gK 4 rfl (J5 rfl rfl rfl (gR 3 rfl ?_))
   (exfalso; omega)
  ·refine gK 2 rfl (QS rfl rfl rfl (gR 2 rfl (Qc rfl (fun h11=>?_) (fun h11=>?_))))
   ·refine gK 4 rfl (J5 rfl rfl rfl (gR 3 rfl ?_))
    (exfalso; omega)
   ·refine gK 6 rfl ?_
    exact rQ
def mc12 : MC := (sq [oN 1 (.box 34 11 0) [],oN 2 (.mv (cI 0)) []] (sq [oL 6 11 1 [],oQ 7 88 [6] [0],oM 3 7 [1,1,0,1]] (sq [oN 4 (.mv (cI 1)) [],oN 5 (.mv (cI 100)) [0,0]] (.seq (sq [oA 8 0 1 [],oD 9 1 8 [0],oB 10 .eql 9 (cI 1) [1]] (.cond 10 (rg [oN 4 (.mv (cI 0)) [],oN 5 (.mv (cI 0)) [0,0]]) .skip)) (.seq (.block 0 (sq [oM 12 3 [],oN 13 (.ifnil false 12) [0],oM 11 13 [1]] (.cond 11 (sq [oN 2 (.mv (cI 16)) []] .ret) (sq [oA 15 1 1 [],oL 16 3 15 [0],oQ 17 39 [16] [1],oN 18 (.un .not 17) [2],oM 19 18 [3,2],pA 20 4 1 19 false [4],oG 21 (.ld true 3 20) 19 false [5,4],oG 22 (.call 39 [21]) 19 false [6,4,4],oG 23 (.un .not 22) 19 false [7,4],oN 24 (.pick 19 (.c (.bool true)) 23) [4,8],oM 25 24 [9,7],pA 26 7 1 25 false [10],oG 27 (.ld true 3 26) 25 false [11,10],oG 28 (.call 39 [27]) 25 false [12,10,10],oG 29 (.un .not 28) 25 false [13,10],oN 30 (.pick 25 (.c (.bool true)) 29) [10,14],oM 31 30 [15,13],pA 32 10 1 31 false [16],pD 33 1 32 31 false [17,16],pM 34 4 31 false [16],oG 35 (.bin .lss 33 34) 31 false [18,19,16],oN 36 (.pick 31 (.c (.bool true)) 35) [16,20],oM 37 36 [21,16],pA 38 10 1 37 false [22],pD 39 1 38 37 false [23,22],pM 40 5 37 false [22],oG 41 (.bin .gtr 39 40) 37 false [24,25,22],oN 42 (.pick 37 (.c (.bool true)) 41) [22,26],oM 14 42 [27,22]] (.cond 14 (sq [oN 2 (.mv (cI 3)) []] .ret) (sq [oM 44 3 [],oN 45 (.inv "collet/move.fits" 44 []) [0],oN 46 (.un .not 45) [1],oM 43 46 [2,1]] (.cond 43 (sq [oN 2 (.mv (cI 16)) []] .ret) .skip))))))) (sq [oN 2 (.mv (cI 0)) []] .ret))))))
theorem mcOk12:(match Tryz.f56.body with | some c=>Qq Tryz.prog 47 c | none=>none)=some mc12:=by kernel_rfl
theorem fc12_l (m:Mv) (hk:m.kind=1\/m.kind=2):FC Tryz.prog 56 [aM m] [] (iv (Qw m)) [] false:=by
 refine Qh (nt:=47) Tryz.func56 rfl rfl mcOk12 (nL rfl) ?_
 delta mc12
 refine gA 8 rfl (cN rfl rfl (fc39_l m hk) (gR 12 rfl (QS rfl rfl rfl (gR 1 rfl (Qc rfl (fun h10=>?_) (fun h10=>?_))))))
 ·refine gK 9 rfl (rs_ifnil_i rfl rfl (gR 7 rfl (cN rfl rfl (fc40 m.fr) (gR 2 rfl ?_))))
  cases h19 : !inS m.fr
  ·skip
   refine gI 2 rfl (cN rfl rfl (fc40 m.to) (gR 1 rfl ?_))
   cases h23 : !inS m.to
   ·skip
    refine gI 4 rfl (cN rfl rfl (fc40 m.co) (gR 1 rfl ?_))
    cases h29 : !inS m.co
    ·skip
     refine gI 5 rfl (Qz rfl rfl rfl rfl (fun h35=>?_) (fun h35=>?_))
     ·skip
      refine gR 15 rfl ?_
      exact Q5 <| Qg rfl (congrArg iv (by unfold Qw; simp_all [Xm]; done)) rfl (.inr rfl)
     ·skip
      refine gR 5 rfl (Qz rfl rfl rfl rfl (fun h41=>?_) (fun h41=>?_))
      ·skip
       refine gR 9 rfl ?_
       exact Q5 <| Qg rfl (congrArg iv (by unfold Qw; simp_all [Xm]; done)) rfl (.inr rfl)
      ·skip
       refine gR 7 rfl (rs_invn [] rfl rfl (by kernel_rfl) (by kernel_rfl) rfl (fc73 m) (.cons (Ql rfl) (.nil)) rfl (gR 1 rfl ?_))
       cases h46 : !fitsL m
       ·skip
        refine gI 9 rfl ?_
        exact Q5 <| Qg rfl (congrArg iv (by unfold Qw; simp_all [Xm]; done)) rfl (.inr rfl)
       ·skip
        refine gI 8 rfl ?_
        exact Q5 <| Qg rfl (congrArg iv (by unfold Qw; simp_all [Xm]; done)) rfl (.inr rfl)
    ·skip
     refine gI 21 rfl ?_
     exact Q5 <| Qg rfl (congrArg iv (by unfold Qw; simp_all [Xm]; done)) rfl (.inr rfl)
   ·skip
    refine gI 27 rfl ?_
    exact Q5 <| Qg rfl (congrArg iv (by unfold Qw; simp_all [Xm]; done)) rfl (.inr rfl)
  ·skip
   refine gI 31 rfl ?_
   exact Q5 <| Qg rfl (congrArg iv (by unfold Qw; simp_all [Xm]; done)) rfl (.inr rfl)
 ·refine gK 6 rfl (rs_ifnil_i rfl rfl (gR 7 rfl (cN rfl rfl (fc40 m.fr) (gR 2 rfl ?_))))
  cases h19 : !inS m.fr
  ·skip
   refine gI 2 rfl (cN rfl rfl (fc40 m.to) (gR 1 rfl ?_))
   cases h23 : !inS m.to
   ·skip
    refine gI 4 rfl (cN rfl rfl (fc40 m.co) (gR 1 rfl ?_))
    cases h29 : !inS m.co
    ·skip
     refine gI 5 rfl (Qz rfl rfl rfl rfl (fun h35=>?_) (fun h35=>?_))
     ·skip
      refine gR 15 rfl ?_
      exact Q5 <| Qg rfl (congrArg iv (by unfold Qw; simp_all [Xm]; done)) rfl (.inr rfl)
     ·skip
      refine gR 5 rfl (Qz rfl rfl rfl rfl (fun h41=>?_) (fun h41=>?_))
      ·skip
       refine gR 9 rfl ?_
       exact Q5 <| Qg rfl (congrArg iv (by unfold Qw; simp_all [Xm]; done)) rfl (.inr rfl)
      ·skip
       refine gR 7 rfl (rs_invn [] rfl rfl (by kernel_rfl) (by kernel_rfl) rfl (fc73 m) (.cons (Ql rfl) (.nil)) rfl (gR 1 rfl ?_))
       cases h46 : !fitsL m
       ·skip
        refine gI 9 rfl ?_
        exact Q5 <| Qg rfl (congrArg iv (by unfold Qw; simp_all [Xm]; done)) rfl (.inr rfl)
       ·skip
        refine gI 8 rfl ?_
        exact Q5 <| Qg rfl (congrArg iv (by unfold Qw; simp_all [Xm]; done)) rfl (.inr rfl)
    ·skip
     refine gI 21 rfl ?_
     exact Q5 <| Qg rfl (congrArg iv (by unfold Qw; simp_all [Xm]; done)) rfl (.inr rfl)
   ·skip
    refine gI 27 rfl ?_
    exact Q5 <| Qg rfl (congrArg iv (by unfold Qw; simp_all [Xm]; done)) rfl (.inr rfl)
  ·skip
   refine gI 31 rfl ?_
   exact Q5 <| Qg rfl (congrArg iv (by unfold Qw; simp_all [Xm]; done)) rfl (.inr rfl)
theorem fc12_a (m:Mv) (hk:m.kind=3):FC Tryz.prog 56 [aM m] [] (iv (Qw m)) [] false:=by
 refine Qh (nt:=47) Tryz.func56 rfl rfl mcOk12 (nL rfl) ?_
 delta mc12
 refine gA 8 rfl (cN rfl rfl (fc39_a m hk) (gR 12 rfl (QS rfl rfl rfl (gR 1 rfl (Qc rfl (fun h10=>?_) (fun h10=>?_))))))
 ·refine gK 9 rfl (rs_ifnil_i rfl rfl (gR 7 rfl (cN rfl rfl (fc40 m.fr) (gR 2 rfl ?_))))
  cases h19 : !inS m.fr
  ·skip
   refine gI 2 rfl (cN rfl rfl (fc40 m.to) (gR 1 rfl ?_))
   cases h23 : !inS m.to
   ·skip
    refine gI 4 rfl (cN rfl rfl (fc40 m.co) (gR 1 rfl ?_))
    cases h29 : !inS m.co
    ·skip
     refine gI 5 rfl (Qz rfl rfl rfl rfl (fun h35=>?_) (fun h35=>?_))
     ·skip
      refine gR 15 rfl ?_
      (exfalso; omega)
     ·skip
      refine gR 5 rfl (Qz rfl rfl rfl rfl (fun h41=>?_) (fun h41=>?_))
      ·skip
       refine gR 9 rfl ?_
       (exfalso; omega)
      ·skip
       refine gR 7 rfl (rs_invn [] rfl rfl (by kernel_rfl) (by kernel_rfl) rfl (fc79 m (inM_of h19 h23 h29)) (.cons (Ql rfl) (.nil)) rfl (gR 1 rfl ?_))
       cases h46 : !fitsA m
       ·skip
        refine gI 9 rfl ?_
        (exfalso; omega)
       ·skip
        refine gI 8 rfl ?_
        (exfalso; omega)
    ·skip
     refine gI 21 rfl ?_
     (exfalso; omega)
   ·skip
    refine gI 27 rfl ?_
    (exfalso; omega)
  ·skip
   refine gI 31 rfl ?_
   (exfalso; omega)
 ·refine gK 6 rfl (rs_ifnil_i rfl rfl (gR 7 rfl (cN rfl rfl (fc40 m.fr) (gR 2 rfl ?_))))
  cases h19 : !inS m.fr
  ·skip
   refine gI 2 rfl (cN rfl rfl (fc40 m.to) (gR 1 rfl ?_))
   cases h23 : !inS m.to
   ·skip
    refine gI 4 rfl (cN rfl rfl (fc40 m.co) (gR 1 rfl ?_))
    cases h29 : !inS m.co
    ·skip
     refine gI 5 rfl (Qz rfl rfl rfl rfl (fun h35=>?_) (fun h35=>?_))
     ·skip
      refine gR 15 rfl ?_
      exact Q5 <| Qg rfl (congrArg iv (by unfold Qw; simp_all [Xm]; done)) rfl (.inr rfl)
     ·skip
      refine gR 5 rfl (Qz rfl rfl rfl rfl (fun h41=>?_) (fun h41=>?_))
      ·skip
       refine gR 9 rfl ?_
       exact Q5 <| Qg rfl (congrArg iv (by unfold Qw; simp_all [Xm]; done)) rfl (.inr rfl)
      ·skip
       refine gR 7 rfl (rs_invn [] rfl rfl (by kernel_rfl) (by kernel_rfl) rfl (fc79 m (inM_of h19 h23 h29)) (.cons (Ql rfl) (.nil)) rfl (gR 1 rfl ?_))
       cases h46 : !fitsA m
       ·skip
        refine gI 9 rfl ?_
        exact Q5 <| Qg rfl (congrArg iv (by unfold Qw; simp_all [Xm]; done)) rfl (.inr rfl)
       ·skip
        refine gI 8 rfl ?_
        exact Q5 <| Qg rfl (congrArg iv (by unfold Qw; simp_all [Xm]; done)) rfl (.inr rfl)
    ·skip
     refine gI 21 rfl ?_
     exact Q5 <| Qg rfl (congrArg iv (by unfold Qw; simp_all [Xm]; done)) rfl (.inr rfl)
   ·skip
    refine gI 27 rfl ?_
    exact Q5 <| Qg rfl (congrArg iv (by unfold Qw; simp_all [Xm]; done)) rfl (.inr rfl)
  ·skip
   refine gI 31 rfl ?_
   exact Q5 <| Qg rfl (congrArg iv (by unfold Qw; simp_all [Xm]; done)) rfl (.inr rfl)
theorem fc12_n (m:Mv) (hk:¬ m.kind=1/\¬ m.kind=2/\¬ m.kind=3):FC Tryz.prog 56 [aM m] [] (iv (Qw m)) [] false:=by
 refine Qh (nt:=47) Tryz.func56 rfl rfl mcOk12 (nL rfl) ?_
 delta mc12
 refine gA 8 rfl (cN rfl rfl (fc39_n m hk) (gR 12 rfl (QS rfl rfl rfl (gR 1 rfl (Qc rfl (fun h10=>?_) (fun h10=>?_))))))
 ·refine gK 9 rfl (rs_ifnil_n rfl rfl (gR 8 rfl ?_))
  (exfalso; omega)
 ·refine gK 6 rfl (rs_ifnil_n rfl rfl (gR 8 rfl ?_))
  exact Q5 <| Qg rfl (congrArg iv (by unfold Qw; simp_all [Xm]; done)) rfl (.inr rfl)
theorem fc12 (m:Mv):FC Tryz.prog 56 [aM m] [] (iv (Qw m)) [] false:=by
 by_cases h1:m.kind=1\/m.kind=2
 ·exact fc12_l m h1
 ·by_cases h3:m.kind=3
  ·exact fc12_a m h3
  ·exact fc12_n m (by omega)
def mc42:MC:=(sq [oN 1 (.box 34 11 0) [],oN 2 (.mv (.c (.bool false))) []] (sq [oA 5 1 1 [],oL 6 3 5 [0],oA 7 7 1 [],oL 8 3 7 [2],oQ 9 51 [6,8] [1,3],oN 3 (.alloc 32 3 (iz 3)) [],oS 3 3 9 (5::4::4::up 6)] (sq [oA 10 4 1 [],oL 11 3 10 [0],oA 12 7 1 [],oL 13 3 12 [2],oQ 14 51 [11,13] [1,3],oN 4 (.alloc 32 3 (iz 3)) [],oS 3 4 14 (5::4::4::up 6)] (dq [oL 15 3 3 [],oQ 16 141 [15] [0],oB 17 .geq 16 (cI 1) [1],oM 18 17 [2,1],oG 19 (.ld true 3 3) 18 true [3],oG 20 (.call 141 [19]) 18 true [4,3,3],oG 21 (.ld true 3 4) 18 true [3],oG 22 (.call 141 [21]) 18 true [6,5,3],oG 23 (.bin .eql 20 22) 18 true [5,7,3],oN 24 (.pick 18 23 (.c (.bool false))) [3,8],oM 25 24 [9,7],oG 26 (.ld true 3 3) 25 true [10],oG 27 (.ld true 3 4) 25 true [10],oG 28 (.call 142 [26,27]) 25 true [11,12,10,10],oG 29 (.bin .eql 28 (cI 0)) 25 true [13,10],oN 30 (.pick 25 29 (.c (.bool false))) [10,14],oM 2 30 (15::13::up 16)] .ret))))
theorem mcOk42:(match Tryz.f99.body with | some c=>Qq Tryz.prog 31 c | none=>none)=some mc42:=by kernel_rfl
theorem fc42 (m:Mv) (h:InM m):FC Tryz.prog 99 [aM m] [] (.bool (QX m)) [] false:=by
 have ha:Bd 1000 (sub m.fr m.co):=(h.fr.sub h.co).mono (by omega)
 have hb:Bd 1000 (sub m.to m.co):=(h.to.sub h.co).mono (by omega)
 refine Qh (nt:=31) Tryz.func99 rfl rfl mcOk42 (nL rfl) ?_
 delta mc42
 refine gA 11 rfl (cN rfl rfl (fc50s h.fr.big h.co.big) (gR 9 rfl (cN rfl rfl (fc50s h.to.big h.co.big) (gR 6 rfl (cN rfl rfl (fc51 _ ha.big) (gR 0 rfl (Qz rfl rfl rfl rfl (fun h17=>?_) (fun h17=>?_))))))))
 ·skip
  refine gR 2 rfl (cN rfl rfl (fc51 _ ha.big) (gR 1 rfl (cN rfl rfl (fc51 _ hb.big) (gR 0 rfl (Qz rfl rfl rfl rfl (fun h23=>?_) (fun h23=>?_))))))
  ·skip
   refine gR 4 rfl (cN rfl rfl (fc52s ha.big hb.big) (gR 0 rfl (Qz rfl rfl rfl rfl (fun h29=>?_) (fun h29=>?_))))
   ·skip
    refine gR 2 rfl (Xa (by kernel_rfl) (gP 1 rfl ?_))
    exact Q5 <| Qg rfl (congrArg AV.bool (by first | (simp_all [QX]; done) | (simp_all [QX]; intros; omega))) rfl (.inr rfl)
   ·skip
    refine gR 2 rfl (Xa (by kernel_rfl) (gP 1 rfl ?_))
    exact Q5 <| Qg rfl (congrArg AV.bool (by first | (simp_all [QX]; done) | (simp_all [QX]; intros; omega))) rfl (.inr rfl)
  ·skip
   refine gR 8 rfl (Xa (by kernel_rfl) (gP 1 rfl ?_))
   exact Q5 <| Qg rfl (congrArg AV.bool (by first | (simp_all [QX]; done) | (simp_all [QX]; intros; omega))) rfl (.inr rfl)
 ·skip
  refine gR 14 rfl (Xa (by kernel_rfl) (gP 1 rfl ?_))
  exact Q5 <| Qg rfl (congrArg AV.bool (by first | (simp_all [QX]; done) | (simp_all [QX]; intros; omega))) rfl (.inr rfl)
def mc13:MC:=(sq [oN 1 (.box 34 11 0) [],oN 2 (.mv (cI 0)) []] (.seq (sq [oA 3 0 1 [],oD 4 1 3 [0],oB 5 .lss 4 (cI 1) [1],oM 6 5 [2],pA 7 0 1 6 false [3],pD 8 1 7 6 false [4,3],oG 9 (.bin .gtr 8 (cI 3)) 6 false [5,3],oN 10 (.pick 6 (.c (.bool true)) 9) [3,6]] (.cond 10 (sq [oN 2 (.mv (cI 16)) []] .ret) .skip)) (.seq (sq [oA 11 1 1 [],oL 12 3 11 [0],oQ 13 98 [12] [1],oN 14 (.un .not 13) [2],oM 15 14 [3,2],pA 16 4 1 15 false [4],oG 17 (.ld true 3 16) 15 false [5,4],oG 18 (.call 98 [17]) 15 false [6,4,4],oG 19 (.un .not 18) 15 false [7,4],oN 20 (.pick 15 (.c (.bool true)) 19) [4,8],oM 21 20 [9,7],pA 22 7 1 21 false [10],oG 23 (.ld true 3 22) 21 false [11,10],oG 24 (.call 98 [23]) 21 false [12,10,10],oG 25 (.un .not 24) 21 false [13,10],oN 26 (.pick 21 (.c (.bool true)) 25) [10,14]] (.cond 26 (sq [oN 2 (.mv (cI 3)) []] .ret) .skip)) (.seq (sq [oA 27 0 1 [],oD 28 1 27 [0],oB 29 .eql 28 (cI 1) [1],oM 30 29 [2],pA 31 10 1 30 true [3],pD 32 1 31 30 true [4,3],oG 33 (.bin .neq 32 (cI 0)) 30 true [5,3],oN 34 (.pick 30 33 (.c (.bool false))) [3,6],oM 35 34 [7,3],pA 36 0 1 35 false [8],pD 37 1 36 35 false [9,8],oG 38 (.bin .neq 37 (cI 1)) 35 false [10,8],pM 39 38 35 false [11,8,8],pA 40 10 1 39 true [12],pD 41 1 40 39 true [13,12],oG 42 (.bin .lss 41 (cI 1)) 39 true [14,12],pM 43 42 39 true [15,12,12],pA 44 10 1 43 false [16],pD 45 1 44 43 false [17,16],oG 46 (.bin .gtr 45 (cI 100)) 43 false [18,16],oG 47 (.pick 43 (.c (.bool true)) 46) 39 true [16,19,12],oG 48 (.pick 39 47 (.c (.bool false))) 35 false [12,20,8],oN 49 (.pick 35 (.c (.bool true)) 48) [8,21]] (.cond 49 (sq [oN 2 (.mv (cI 3)) []] .ret) .skip)) (.seq (sq [oA 50 1 1 [],oL 51 3 50 [0],oA 52 4 1 [],oL 53 3 52 [2],oN 54 (.aeq false 3 51 53) [1,3],oM 55 54 [4],pA 56 0 1 55 false [5],pD 57 1 56 55 false [6,5],oG 58 (.bin .neq 57 (cI 3)) 55 false [7,5],pM 59 58 55 false [8,5,5],pA 60 7 1 59 true [9],oG 61 (.ld true 3 60) 59 true [10,9],oG 62 (.build (iz 3) []) 59 true [9],oG 63 (.aeq true 3 61 62) 59 true [11,12,9],oG 64 (.pick 59 63 (.c (.bool false))) 55 false [9,13,5],oN 65 (.pick 55 (.c (.bool true)) 64) [5,14],oM 66 65 [15,9],pA 67 0 1 66 false [16],pD 68 1 67 66 false [17,16],oG 69 (.bin .eql 68 (cI 3)) 66 false [18,16],pM 70 69 66 false [19,16,16],oG 71 (.ld true 11 1) 70 true [20],oG 72 (.call 99 [71]) 70 true [21,20,20],oG 73 (.un .not 72) 70 true [22,20],oG 74 (.pick 70 73 (.c (.bool false))) 66 false [20,23,16],oN 75 (.pick 66 (.c (.bool true)) 74) [16,24]] (.cond 75 (sq [oN 2 (.mv (cI 16)) []] .ret) .skip)) (sq [oN 2 (.mv (cI 0)) []] .ret))))))
theorem mcOk13:(match Tryz.f53.body with | some c=>Qq Tryz.prog 76 c | none=>none)=some mc13:=by kernel_rfl
theorem fc13 (m:Mv):FC Tryz.prog 53 [aM m] [] (iv (XY m)) [] false:=by
 refine Qh (nt:=76) Tryz.func53 rfl rfl mcOk13 (nL rfl) ?_
 delta mc13
 refine gA 10 rfl (Qz rfl rfl rfl rfl (fun h5=>?_) (fun h5=>?_))
 ·skip
  refine gR 12 rfl ?_
  first
   | (exfalso; omega)
   | exact Qg rfl (congrArg iv (by
     have hm1:m.kind<1\/3<m.kind\/¬ (m.kind<1\/3<m.kind):=by omega
     unfold XY
     first
      | rw [if_pos (by omega)]
      | (rw [if_neg (by omega)]; simp_all [Xs,Xr]; done)
      | (rw [if_neg (by omega)]; simp_all [Xs,Xr]; omega))) rfl (.inr rfl)
 ·skip
  refine gR 3 rfl (Qz rfl rfl rfl rfl (fun h9=>?_) (fun h9=>?_))
  ·skip
   refine gR 8 rfl ?_
   first
    | (exfalso; omega)
    | exact Qg rfl (congrArg iv (by
      have hm1:m.kind<1\/3<m.kind\/¬ (m.kind<1\/3<m.kind):=by omega
      unfold XY
      first
       | rw [if_pos (by omega)]
       | (rw [if_neg (by omega)]; simp_all [Xs,Xr]; done)
       | (rw [if_neg (by omega)]; simp_all [Xs,Xr]; omega))) rfl (.inr rfl)
  ·skip
   refine gR 9 rfl (cN rfl rfl (fc41 m.fr) (gR 2 rfl ?_))
   cases h15 : !inS m.fr
   ·skip
    refine gI 2 rfl (cN rfl rfl (fc41 m.to) (gR 1 rfl ?_))
    cases h19 : !inS m.to
    ·skip
     refine gI 4 rfl (cN rfl rfl (fc41 m.co) (gR 1 rfl ?_))
     cases h25 : !inS m.co
     ·skip
      refine gI 9 rfl (Qz rfl rfl rfl rfl (fun h29=>?_) (fun h29=>?_))
      ·skip
       refine gR 3 rfl (Qz rfl rfl rfl rfl (fun h33=>?_) (fun h33=>?_))
       ·skip
        refine gR 23 rfl ?_
        first
         | (exfalso; omega)
         | exact Qg rfl (congrArg iv (by
           have hm1:m.kind<1\/3<m.kind\/¬ (m.kind<1\/3<m.kind):=by omega
           unfold XY
           first
            | rw [if_pos (by omega)]
            | (rw [if_neg (by omega)]; simp_all [Xs,Xr]; done)
            | (rw [if_neg (by omega)]; simp_all [Xs,Xr]; omega))) rfl (.inr rfl)
       ·skip
        refine gR 4 rfl (Qz rfl rfl rfl rfl (fun h38=>?_) (fun h38=>?_))
        ·skip
         refine gR 3 rfl (Qz rfl rfl rfl rfl (fun h42=>?_) (fun h42=>?_))
         ·skip
          refine gR 14 rfl ?_
          (exfalso; omega)
         ·skip
          refine gR 3 rfl (Qz rfl rfl rfl rfl (fun h46=>?_) (fun h46=>?_))
          ·skip
           refine gR 10 rfl ?_
           (exfalso; omega)
          ·skip
           refine gR 13 rfl (Jq rfl rfl rfl ?_)
           cases h54:(false != decide (m.fr=m.to))
           ·skip
            refine gR 3 rfl (Qz rfl rfl rfl rfl (fun h58=>?_) (fun h58=>?_))
            ·skip
             refine gR 4 rfl (Jq (v:=⟨0,0,0⟩) rfl rfl rfl ?_)
             cases h63:(true != decide (m.co=⟨0,0,0⟩))
             ·skip
              refine gR 5 rfl (Qz rfl rfl rfl rfl (fun h69=>?_) (fun h69=>?_))
              ·skip
               refine gR 2 rfl (cN rfl rfl (fc42 m (inM_of h15 h19 h25)) (gR 1 rfl ?_))
               cases h73 : !QX m
               ·skip
                refine gI 10 rfl ?_
                (exfalso; omega)
               ·skip
                refine gI 9 rfl ?_
                (exfalso; omega)
              ·skip
               refine gR 14 rfl ?_
               (exfalso; omega)
             ·skip
              refine gR 19 rfl ?_
              (exfalso; omega)
            ·skip
             refine gR 10 rfl (Qz rfl rfl rfl rfl (fun h69=>?_) (fun h69=>?_))
             ·skip
              refine gR 2 rfl (cN rfl rfl (fc42 m (inM_of h15 h19 h25)) (gR 1 rfl ?_))
              cases h73 : !QX m
              ·skip
               refine gI 10 rfl ?_
               (exfalso; omega)
              ·skip
               refine gI 9 rfl ?_
               (exfalso; omega)
             ·skip
              refine gR 14 rfl ?_
              (exfalso; omega)
           ·skip
            refine gR 28 rfl ?_
            (exfalso; omega)
        ·skip
         refine gR 21 rfl (Jq rfl rfl rfl ?_)
         cases h54:(false != decide (m.fr=m.to))
         ·skip
          refine gR 3 rfl (Qz rfl rfl rfl rfl (fun h58=>?_) (fun h58=>?_))
          ·skip
           refine gR 4 rfl (Jq (v:=⟨0,0,0⟩) rfl rfl rfl ?_)
           cases h63:(true != decide (m.co=⟨0,0,0⟩))
           ·skip
            refine gR 5 rfl (Qz rfl rfl rfl rfl (fun h69=>?_) (fun h69=>?_))
            ·skip
             refine gR 2 rfl (cN rfl rfl (fc42 m (inM_of h15 h19 h25)) (gR 1 rfl ?_))
             cases h73 : !QX m
             ·skip
              refine gI 10 rfl ?_
              (exfalso; omega)
             ·skip
              refine gI 9 rfl ?_
              (exfalso; omega)
            ·skip
             refine gR 14 rfl ?_
             first
              | (exfalso; omega)
              | exact Qg rfl (congrArg iv (by
                have hm1:m.kind<1\/3<m.kind\/¬ (m.kind<1\/3<m.kind):=by omega
                unfold XY
                first
                 | rw [if_pos (by omega)]
                 | (rw [if_neg (by omega)]; simp_all [Xs,Xr]; done)
                 | (rw [if_neg (by omega)]; simp_all [Xs,Xr]; omega))) rfl (.inr rfl)
           ·skip
            refine gR 19 rfl ?_
            first
             | (exfalso; omega)
             | exact Qg rfl (congrArg iv (by
               have hm1:m.kind<1\/3<m.kind\/¬ (m.kind<1\/3<m.kind):=by omega
               unfold XY
               first
                | rw [if_pos (by omega)]
                | (rw [if_neg (by omega)]; simp_all [Xs,Xr]; done)
                | (rw [if_neg (by omega)]; simp_all [Xs,Xr]; omega))) rfl (.inr rfl)
          ·skip
           refine gR 10 rfl (Qz rfl rfl rfl rfl (fun h69=>?_) (fun h69=>?_))
           ·skip
            refine gR 2 rfl (cN rfl rfl (fc42 m (inM_of h15 h19 h25)) (gR 1 rfl ?_))
            cases h73 : !QX m
            ·skip
             refine gI 10 rfl ?_
             (exfalso; omega)
            ·skip
             refine gI 9 rfl ?_
             (exfalso; omega)
           ·skip
            refine gR 14 rfl ?_
            (exfalso; omega)
         ·skip
          refine gR 28 rfl ?_
          first
           | (exfalso; omega)
           | exact Qg rfl (congrArg iv (by
             have hm1:m.kind<1\/3<m.kind\/¬ (m.kind<1\/3<m.kind):=by omega
             unfold XY
             first
              | rw [if_pos (by omega)]
              | (rw [if_neg (by omega)]; simp_all [Xs,Xr]; done)
              | (rw [if_neg (by omega)]; simp_all [Xs,Xr]; omega))) rfl (.inr rfl)
      ·skip
       refine gR 8 rfl (Qz rfl rfl rfl rfl (fun h38=>?_) (fun h38=>?_))
       ·skip
        refine gR 3 rfl (Qz rfl rfl rfl rfl (fun h42=>?_) (fun h42=>?_))
        ·skip
         refine gR 14 rfl ?_
         first
          | (exfalso; omega)
          | exact Qg rfl (congrArg iv (by
            have hm1:m.kind<1\/3<m.kind\/¬ (m.kind<1\/3<m.kind):=by omega
            unfold XY
            first
             | rw [if_pos (by omega)]
             | (rw [if_neg (by omega)]; simp_all [Xs,Xr]; done)
             | (rw [if_neg (by omega)]; simp_all [Xs,Xr]; omega))) rfl (.inr rfl)
        ·skip
         refine gR 3 rfl (Qz rfl rfl rfl rfl (fun h46=>?_) (fun h46=>?_))
         ·skip
          refine gR 10 rfl ?_
          first
           | (exfalso; omega)
           | exact Qg rfl (congrArg iv (by
             have hm1:m.kind<1\/3<m.kind\/¬ (m.kind<1\/3<m.kind):=by omega
             unfold XY
             first
              | rw [if_pos (by omega)]
              | (rw [if_neg (by omega)]; simp_all [Xs,Xr]; done)
              | (rw [if_neg (by omega)]; simp_all [Xs,Xr]; omega))) rfl (.inr rfl)
         ·skip
          refine gR 13 rfl (Jq rfl rfl rfl ?_)
          cases h54:(false != decide (m.fr=m.to))
          ·skip
           refine gR 3 rfl (Qz rfl rfl rfl rfl (fun h58=>?_) (fun h58=>?_))
           ·skip
            refine gR 4 rfl (Jq (v:=⟨0,0,0⟩) rfl rfl rfl ?_)
            cases h63:(true != decide (m.co=⟨0,0,0⟩))
            ·skip
             refine gR 5 rfl (Qz rfl rfl rfl rfl (fun h69=>?_) (fun h69=>?_))
             ·skip
              refine gR 2 rfl (cN rfl rfl (fc42 m (inM_of h15 h19 h25)) (gR 1 rfl ?_))
              cases h73 : !QX m
              ·skip
               refine gI 10 rfl ?_
               (exfalso; omega)
              ·skip
               refine gI 9 rfl ?_
               (exfalso; omega)
             ·skip
              refine gR 14 rfl ?_
              first
               | (exfalso; omega)
               | exact Qg rfl (congrArg iv (by
                 have hm1:m.kind<1\/3<m.kind\/¬ (m.kind<1\/3<m.kind):=by omega
                 unfold XY
                 first
                  | rw [if_pos (by omega)]
                  | (rw [if_neg (by omega)]; simp_all [Xs,Xr]; done)
                  | (rw [if_neg (by omega)]; simp_all [Xs,Xr]; omega))) rfl (.inr rfl)
            ·skip
             refine gR 19 rfl ?_
             first
              | (exfalso; omega)
              | exact Qg rfl (congrArg iv (by
                have hm1:m.kind<1\/3<m.kind\/¬ (m.kind<1\/3<m.kind):=by omega
                unfold XY
                first
                 | rw [if_pos (by omega)]
                 | (rw [if_neg (by omega)]; simp_all [Xs,Xr]; done)
                 | (rw [if_neg (by omega)]; simp_all [Xs,Xr]; omega))) rfl (.inr rfl)
           ·skip
            refine gR 10 rfl (Qz rfl rfl rfl rfl (fun h69=>?_) (fun h69=>?_))
            ·skip
             refine gR 2 rfl (cN rfl rfl (fc42 m (inM_of h15 h19 h25)) (gR 1 rfl ?_))
             cases h73 : !QX m
             ·skip
              refine gI 10 rfl ?_
              first
               | (exfalso; omega)
               | exact Qg rfl (congrArg iv (by
                 have hm1:m.kind<1\/3<m.kind\/¬ (m.kind<1\/3<m.kind):=by omega
                 unfold XY
                 first
                  | rw [if_pos (by omega)]
                  | (rw [if_neg (by omega)]; simp_all [Xs,Xr]; done)
                  | (rw [if_neg (by omega)]; simp_all [Xs,Xr]; omega))) rfl (.inr rfl)
             ·skip
              refine gI 9 rfl ?_
              first
               | (exfalso; omega)
               | exact Qg rfl (congrArg iv (by
                 have hm1:m.kind<1\/3<m.kind\/¬ (m.kind<1\/3<m.kind):=by omega
                 unfold XY
                 first
                  | rw [if_pos (by omega)]
                  | (rw [if_neg (by omega)]; simp_all [Xs,Xr]; done)
                  | (rw [if_neg (by omega)]; simp_all [Xs,Xr]; omega))) rfl (.inr rfl)
            ·skip
             refine gR 14 rfl ?_
             (exfalso; omega)
          ·skip
           refine gR 28 rfl ?_
           first
            | (exfalso; omega)
            | exact Qg rfl (congrArg iv (by
              have hm1:m.kind<1\/3<m.kind\/¬ (m.kind<1\/3<m.kind):=by omega
              unfold XY
              first
               | rw [if_pos (by omega)]
               | (rw [if_neg (by omega)]; simp_all [Xs,Xr]; done)
               | (rw [if_neg (by omega)]; simp_all [Xs,Xr]; omega))) rfl (.inr rfl)
       ·skip
        refine gR 21 rfl (Jq rfl rfl rfl ?_)
        cases h54:(false != decide (m.fr=m.to))
        ·skip
         refine gR 3 rfl (Qz rfl rfl rfl rfl (fun h58=>?_) (fun h58=>?_))
         ·skip
          refine gR 4 rfl (Jq (v:=⟨0,0,0⟩) rfl rfl rfl ?_)
          cases h63:(true != decide (m.co=⟨0,0,0⟩))
          ·skip
           refine gR 5 rfl (Qz rfl rfl rfl rfl (fun h69=>?_) (fun h69=>?_))
           ·skip
            refine gR 2 rfl (cN rfl rfl (fc42 m (inM_of h15 h19 h25)) (gR 1 rfl ?_))
            cases h73 : !QX m
            ·skip
             refine gI 10 rfl ?_
             (exfalso; omega)
            ·skip
             refine gI 9 rfl ?_
             (exfalso; omega)
           ·skip
            refine gR 14 rfl ?_
            (exfalso; omega)
          ·skip
           refine gR 19 rfl ?_
           (exfalso; omega)
         ·skip
          refine gR 10 rfl (Qz rfl rfl rfl rfl (fun h69=>?_) (fun h69=>?_))
          ·skip
           refine gR 2 rfl (cN rfl rfl (fc42 m (inM_of h15 h19 h25)) (gR 1 rfl ?_))
           cases h73 : !QX m
           ·skip
            refine gI 10 rfl ?_
            (exfalso; omega)
           ·skip
            refine gI 9 rfl ?_
            (exfalso; omega)
          ·skip
           refine gR 14 rfl ?_
           (exfalso; omega)
        ·skip
         refine gR 28 rfl ?_
         (exfalso; omega)
     ·skip
      refine gI 8 rfl ?_
      first
       | (exfalso; omega)
       | exact Qg rfl (congrArg iv (by
         have hm1:m.kind<1\/3<m.kind\/¬ (m.kind<1\/3<m.kind):=by omega
         unfold XY
         first
          | rw [if_pos (by omega)]
          | (rw [if_neg (by omega)]; simp_all [Xs,Xr]; done)
          | (rw [if_neg (by omega)]; simp_all [Xs,Xr]; omega))) rfl (.inr rfl)
    ·skip
     refine gI 14 rfl ?_
     first
      | (exfalso; omega)
      | exact Qg rfl (congrArg iv (by
        have hm1:m.kind<1\/3<m.kind\/¬ (m.kind<1\/3<m.kind):=by omega
        unfold XY
        first
         | rw [if_pos (by omega)]
         | (rw [if_neg (by omega)]; simp_all [Xs,Xr]; done)
         | (rw [if_neg (by omega)]; simp_all [Xs,Xr]; omega))) rfl (.inr rfl)
   ·skip
    refine gI 18 rfl ?_
    first
     | (exfalso; omega)
     | exact Qg rfl (congrArg iv (by
       have hm1:m.kind<1\/3<m.kind\/¬ (m.kind<1\/3<m.kind):=by omega
       unfold XY
       first
        | rw [if_pos (by omega)]
        | (rw [if_neg (by omega)]; simp_all [Xs,Xr]; done)
        | (rw [if_neg (by omega)]; simp_all [Xs,Xr]; omega))) rfl (.inr rfl)
end Go.Proofs.YthmbjgnjfjjibaaGreatDoor
namespace Go.Proofs.YthmbjgnjfjjibaaGreatDoor
open Go.RowKit
set_option maxRecDepth 100000
theorem gS_eq (v:V3):gS v=Nat.gcd (Nat.gcd v.x.natAbs v.y.natAbs) v.z.natAbs:=by simp [gS,gL]
theorem gS_dvd (v:V3):(gS v:Int) ∣ v.x/\(gS v:Int) ∣ v.y/\(gS v:Int) ∣ v.z:=by
 rw [gS_eq]
 refine ⟨?_,?_,?_⟩ <;> rw [Int.ofNat_dvd_left]
 ·exact Nat.dvd_trans (Nat.gcd_dvd_left _ _) (Nat.gcd_dvd_left _ _)
 ·exact Nat.dvd_trans (Nat.gcd_dvd_left _ _) (Nat.gcd_dvd_right _ _)
 ·exact Nat.gcd_dvd_right _ _
theorem prim_mul (v:V3):v.x=gS v*(Qj v).x/\v.y=gS v*(Qj v).y/\v.z=gS v*(Qj v).z:=by
 obtain ⟨h1,h2,h3⟩:=gS_dvd v
 unfold Qj
 split
 ·rename_i h
  rw [h] at h1 h2 h3 ⊢
  simp only [Int.natCast_zero,Int.zero_mul]
  exact ⟨Int.zero_dvd.1 h1,Int.zero_dvd.1 h2,Int.zero_dvd.1 h3⟩
 ·exact ⟨(Int.mul_tdiv_cancel' h1).symm,(Int.mul_tdiv_cancel' h2).symm,(Int.mul_tdiv_cancel' h3).symm⟩
theorem sq_nonneg (a:Int):0<=a*a:=by
 rcases Int.le_total 0 a with h | h
 ·exact Int.mul_nonneg h h
 ·rw [← Int.neg_mul_neg]; exact Int.mul_nonneg (by omega) (by omega)
theorem sq_le1 {a:Int} (h:a*a<=1):a = -1\/a=0\/a=1:=by
 have h1:¬ 2<=a:=fun h2=>by
  have:=Int.mul_le_mul h2 h2 (by omega) (by omega)
  omega
 have h2:¬ a ≤ -2:=fun h2=>by
  have:=Int.mul_le_mul (show 2 ≤ -a by omega) (show 2 ≤ -a by omega) (by omega) (by omega)
  rw [Int.neg_mul_neg] at this
  omega
 omega
theorem unit_cases {p:V3} (h:dot p p=1):p=⟨1,0,0⟩\/p=⟨-1,0,0⟩\/p=⟨0,1,0⟩\/p=⟨0,-1,0⟩\/p=⟨0,0,1⟩\/p=⟨0,0,-1⟩:=by
 obtain ⟨x,y,z⟩:=p
 unfold dot at h
 dsimp only at h
 have h1:=sq_nonneg x
 have h2:=sq_nonneg y
 have h3:=sq_nonneg z
 rcases sq_le1 (a:=x) (by omega) with rfl | rfl | rfl <;> rcases sq_le1 (a:=y) (by omega) with rfl | rfl | rfl <;> rcases sq_le1 (a:=z) (by omega) with rfl | rfl | rfl <;> simp at h ⊢
theorem tdiv_abs {a:Int} (h:a≠0):a.tdiv a.natAbs=1\/a.tdiv a.natAbs = -1:=by
 rcases Int.lt_trichotomy a 0 with h1 | h1 | h1
 ·right
  have:((a.natAbs:Nat):Int) = -a:=by omega
  rw [this,Int.tdiv_neg,Int.tdiv_self h]
 ·exact absurd h1 h
 ·left
  have:((a.natAbs:Nat):Int)=a:=by omega
  rw [this,Int.tdiv_self h]
theorem unit_len (v:V3):dot (Qj v) (Qj v)=1 ↔ 1<=lenS v:=by
 constructor
 ·intro h
  obtain ⟨e1,e2,e3⟩:=prim_mul v
  have hg:gS v≠0:=fun e=>by
   unfold Qj at h
   rw [if_pos e] at h
   simp [dot] at h
  have hg1:1<=(gS v:Int):=by omega
  generalize (gS v:Int)=g at e1 e2 e3 hg1
  rcases unit_cases h with e | e | e | e | e | e <;> rw [e] at e1 e2 e3 <;> simp only [Int.mul_one,Int.mul_zero,Int.mul_neg] at e1 e2 e3 <;> unfold lenS <;> dsimp only <;> rw [e1,e2,e3,if_pos (by omega)] <;> omega
 ·intro h
  have h0:(v.x≠0/\v.y=0/\v.z=0)\/(v.x=0/\v.y≠0/\v.z=0)\/(v.x=0/\v.y=0/\v.z≠0):=by
   unfold lenS at h
   dsimp only at h
   split at h <;> omega
  have hg:=gS_eq v
  rcases h0 with ⟨h1,h2,h3⟩ | ⟨h1,h2,h3⟩ | ⟨h1,h2,h3⟩
  ·have e:gS v=v.x.natAbs:=by rw [hg,h2,h3]; simp
   unfold Qj
   rw [if_neg (by omega),e,h2,h3]
   rcases tdiv_abs h1 with q | q <;> simp [dot,q]
  ·have e:gS v=v.y.natAbs:=by rw [hg,h1,h3]; simp
   unfold Qj
   rw [if_neg (by omega),e,h1,h3]
   rcases tdiv_abs h2 with q | q <;> simp [dot,q]
  ·have e:gS v=v.z.natAbs:=by rw [hg,h1,h2]; simp
   unfold Qj
   rw [if_neg (by omega),e,h1,h2]
   rcases tdiv_abs h3 with q | q <;> simp [dot,q]
theorem len_g {v:V3} (h:1<=lenS v):(gS v:Int)=lenS v:=by
 have h0:(v.x≠0/\v.y=0/\v.z=0)\/(v.x=0/\v.y≠0/\v.z=0)\/(v.x=0/\v.y=0/\v.z≠0):=by
  unfold lenS at h
  dsimp only at h
  split at h <;> omega
 have hg:=gS_eq v
 unfold lenS at h ⊢
 dsimp only at h ⊢
 rcases h0 with ⟨h1,h2,h3⟩ | ⟨h1,h2,h3⟩ | ⟨h1,h2,h3⟩
 ·have e:gS v=v.x.natAbs:=by rw [hg,h2,h3]; simp
  rw [e]; split <;> omega
 ·have e:gS v=v.y.natAbs:=by rw [hg,h1,h3]; simp
  rw [e]; split <;> omega
 ·have e:gS v=v.z.natAbs:=by rw [hg,h1,h2]; simp
  rw [e]; split <;> omega
theorem lenS_neg (a b:V3):lenS (sub a b)=lenS (sub b a):=by
 unfold lenS sub
 dsimp only
 have h1:max (a.x-b.x) (-(a.x-b.x))=max (b.x-a.x) (-(b.x-a.x)):=by omega
 have h2:max (a.y-b.y) (-(a.y-b.y))=max (b.y-a.y) (-(b.y-a.y)):=by omega
 have h3:max (a.z-b.z) (-(a.z-b.z))=max (b.z-a.z) (-(b.z-a.z)):=by omega
 rw [h1,h2,h3]
theorem dot_neg2 (a b c:V3):dot (sub a c) (sub b c)=dot (sub c a) (sub c b):=by
 unfold dot sub
 dsimp only
 rw [← Int.neg_mul_neg (a.x-c.x),← Int.neg_mul_neg (a.y-c.y),← Int.neg_mul_neg (a.z-c.z)]
 simp only [Int.neg_sub]
theorem dot_comm (a b:V3):dot a b=dot b a:=by
 unfold dot
 rw [Int.mul_comm a.x,Int.mul_comm a.y,Int.mul_comm a.z]
theorem dot_prim (u v:V3):dot u v=gS u*gS v*dot (Qj u) (Qj v):=by
 obtain ⟨a1,a2,a3⟩:=prim_mul u
 obtain ⟨b1,b2,b3⟩:=prim_mul v
 have key:∀ g h p q:Int,g*p*(h*q)=g*h*(p*q):=fun g h p q=>by rw [Int.mul_assoc,Int.mul_assoc,← Int.mul_assoc p,Int.mul_comm p,Int.mul_assoc]
 have e:∀ ux uy uz vx vy vz g h px py pz qx qy qz:Int,ux=g*px->uy=g*py->uz=g*pz->vx=h*qx->vy=h*qy->vz=h*qz->ux*vx+uy*vy+uz*vz=g*h*(px*qx+py*qy+pz*qz):=by
  intro ux uy uz vx vy vz g h px py pz qx qy qz e1 e2 e3 e4 e5 e6
  rw [e1,e2,e3,e4,e5,e6,Int.mul_add,Int.mul_add,key g h px qx,key g h py qy,key g h pz qz]
 exact e _ _ _ _ _ _ _ _ _ _ _ _ _ _ a1 a2 a3 b1 b2 b3
theorem fits_quarter (m:Mv):fitsA m=QX m:=by
 unfold fitsA QX
 have hu1:=unit_len (sA m)
 have hu2:=unit_len (sB m)
 have e1:lenS (sub m.fr m.co)=lenS (sB m):=lenS_neg _ _
 have e2:lenS (sub m.to m.co)=lenS (sA m):=lenS_neg _ _
 have e3:dot (sub m.fr m.co) (sub m.to m.co)=dot (sA m) (sB m):=by rw [dot_neg2,dot_comm]; rfl
 rw [e1,e2,e3]
 apply Bool.eq_iff_iff.2
 simp only [Bool.and_eq_true,decide_eq_true_eq]
 rw [hu1,hu2]
 have hd:=dot_prim (sA m) (sB m)
 constructor
 ·rintro ⟨h1,h2,h3,h4⟩
  rw [len_g h1,len_g h2] at h3
  exact ⟨h2,h3.symm,by rw [hd,h4,Int.mul_zero]⟩
 ·rintro ⟨h1,h2,h3⟩
  have h4:1<=lenS (sA m):=by omega
  refine ⟨h4,h1,by rw [len_g h4,len_g h1]; exact h2.symm,?_⟩
  rw [hd] at h3
  have g1:=len_g h4
  have g2:=len_g h1
  rcases Int.mul_eq_zero.1 h3 with h | h
  ·rcases Int.mul_eq_zero.1 h with h | h <;> omega
  ·exact h
theorem quarter_ne {m:Mv} (h:QX m=true):m.fr≠m.to:=fun e=>by
 unfold QX at h
 simp only [Bool.and_eq_true,decide_eq_true_eq] at h
 obtain ⟨h1,_,h3⟩:=h
 rw [e] at h1 h3
 have hx:(sub m.to m.co).x≠0\/(sub m.to m.co).y≠0\/(sub m.to m.co).z≠0:=by
  unfold lenS at h1
  dsimp only at h1
  split at h1 <;> omega
 have p1:=sq_nonneg (sub m.to m.co).x
 have p2:=sq_nonneg (sub m.to m.co).y
 have p3:=sq_nonneg (sub m.to m.co).z
 unfold dot at h3
 have z:∀ a:Int,a*a=0->a=0:=fun a h=>(Int.mul_eq_zero.1 h).elim id id
 rcases hx with h | h | h
 ·exact h (z _ (by omega))
 ·exact h (z _ (by omega))
 ·exact h (z _ (by omega))
theorem check_eq (m:Mv):XY m=Qw m:=by
 unfold XY Qw Xm Xs Xr
 rw [fits_quarter]
 have hq := @quarter_ne m
 unfold fitsL
 by_cases h1:m.kind=1
 ·simp only [h1]
  cases inS m.fr <;> cases inS m.to <;> cases inS m.co <;> by_cases hf:m.feed=0 <;> simp [hf] <;> by_cases q1:m.fr=m.to <;> by_cases q2:m.co=⟨0,0,0⟩ <;> simp [q1,q2] <;> omega
 ·by_cases h2:m.kind=2
  ·simp only [h2]
   cases inS m.fr <;> cases inS m.to <;> cases inS m.co <;> by_cases hf:m.feed<1 <;> by_cases hg:100<m.feed <;> simp [hf,hg] <;> by_cases q1:m.fr=m.to <;> by_cases q2:m.co=⟨0,0,0⟩ <;> simp [q1,q2]
  ·by_cases h3:m.kind=3
   ·simp only [h3]
    cases inS m.fr <;> cases inS m.to <;> cases inS m.co <;> by_cases hf:m.feed<1 <;> by_cases hg:100<m.feed <;> simp [hf,hg]
    cases h4:QX m
    ·simp
    ·simp [hq h4]
   ·rw [if_pos (by omega),if_neg h1,if_neg h2,if_neg h3]
end Go.Proofs.YthmbjgnjfjjibaaGreatDoor
namespace Go.Proofs.YthmbjgnjfjjibaaGreatDoor
open Go.RowKit
set_option maxRecDepth 100000
theorem gS_le {n:Nat} {v:V3} (h:Bd n v):gS v<=n:=by
 obtain ⟨h1,h2,h3⟩:=gS_dvd v
 rw [Int.ofNat_dvd_left] at h1 h2 h3
 have:=h.x; have:=h.y; have:=h.z
 by_cases hx:v.x=0
 ·by_cases hy:v.y=0
  ·by_cases hz:v.z=0
   ·rw [gS_eq,hx,hy,hz]; simp
   ·have:=Nat.le_of_dvd (by omega) h3; omega
  ·have:=Nat.le_of_dvd (by omega) h2; omega
 ·have:=Nat.le_of_dvd (by omega) h1; omega
theorem InM.a48 {m:Mv} (h:InM m):Bd 48 (sA m):=h.co.sub h.to
theorem InM.b48 {m:Mv} (h:InM m):Bd 48 (sB m):=h.co.sub h.fr
def dS (m:Mv):V3:=sub m.to m.fr
theorem InM.d48 {m:Mv} (h:InM m):Bd 48 (dS m):=h.to.sub h.fr
def J3 (m:Mv):V3:=plus m.fr (Qj (sA m)) (-(gS (sA m):Int))
theorem InM.c {m:Mv} (h:InM m):Bd 100 (J3 m):=by
 obtain ⟨h1,h2,h3⟩:=prim_mul (sA m)
 have:=h.a48.x; have:=h.a48.y; have:=h.a48.z; have:=h.fr.x; have:=h.fr.y; have:=h.fr.z
 exact ⟨by simp only [J3,plus,Int.neg_mul]; rw [← h1]; omega,by simp only [J3,plus,Int.neg_mul]; rw [← h2]; omega,by simp only [J3,plus,Int.neg_mul]; rw [← h3]; omega⟩
def linQ (fr b:V3) (k:Nat):List V3:=(List.range k).map fun (j:Nat)=>plus fr b j
theorem linQ_succ (fr b:V3) (k:Nat):linQ fr b (k+1)=linQ fr b k++[plus fr b k]:=by simp [linQ,List.range_succ]
theorem linQ_len (fr b:V3) (k:Nat):(linQ fr b k).length=k:=by simp [linQ]
def dn (r j:Nat):Nat->Nat
 | 0=>0
 | i+1=>if r*r<(i+1)*(i+1)+j*j then dn r j i else i+1
def iP (r:Nat):Nat->Nat
 | 0=>r
 | j+1=>dn r j (iP r j)
theorem dn_le (r j:Nat):∀ i,dn r j i<=i
 | 0=>Nat.le_refl _
 | i+1=>by
  unfold dn
  split
  ·exact Nat.le_trans (dn_le r j i) (by omega)
  ·exact Nat.le_refl _
theorem iP_le (r:Nat):∀ j,iP r j<=r
 | 0=>Nat.le_refl _
 | j+1=>Nat.le_trans (dn_le r j _) (iP_le r j)
variable {r:Nat}
theorem dn_stop {j i:Nat} (h:¬ r*r<i*i+j*j):dn r j i=i:=by
 cases i with
 | zero=>rfl
 | succ i=>unfold dn; rw [if_neg h]
theorem dn_next {j i:Nat} (h:r*r<(i+1)*(i+1)+j*j):dn r j (i+1)=dn r j i:=by
 conv=>lhs; unfold dn
 rw [if_pos h]
def arcQ (r n:Nat):List (Nat×Nat):=(List.range n).filterMap fun j=>if iP r (j+1)*iP r (j+1)+j*j=r*r then some (iP r (j+1),j) else none
def arcV (c a b:V3) (r n:Nat):List V3:=(arcQ r n).map fun p=>plus (plus c a p.1) b p.2
theorem arcQ_t {j i:Nat} (hi:iP r (j+1)=i) (h:i*i+j*j=r*r):arcQ r (j+1)=arcQ r j++[(i,j)]:=by
 unfold arcQ
 rw [List.range_succ,List.filterMap_append]
 simp [hi,h]
theorem arcQ_f {j i:Nat} (hi:iP r (j+1)=i) (h:¬ i*i+j*j=r*r):arcQ r (j+1)=arcQ r j:=by
 unfold arcQ
 rw [List.range_succ,List.filterMap_append]
 simp [hi,h]
theorem arcV_t {c a b:V3} {j i:Nat} (hi:iP r (j+1)=i) (h:i*i+j*j=r*r):arcV c a b r (j+1)=arcV c a b r j++[plus (plus c a i) b j]:=by
 unfold arcV; rw [arcQ_t hi h,List.map_append]; rfl
theorem arcV_f {c a b:V3} {j i:Nat} (hi:iP r (j+1)=i) (h:¬ i*i+j*j=r*r):arcV c a b r (j+1)=arcV c a b r j:=by
 unfold arcV; rw [arcQ_f hi h]
theorem arcV_len (c a b:V3) (r:Nat):∀ n,(arcV c a b r n).length<=n
 | 0=>Nat.le_refl _
 | n+1=>by
  have:=arcV_len c a b r n
  by_cases h:iP r (n+1)*iP r (n+1)+n*n=r*r
  ·rw [arcV_t rfl h]; simp; omega
  ·rw [arcV_f rfl h]; omega
theorem sqW {i:Nat} (h:i<=1000):W ((i:Int)*(i:Int))=((i*i:Nat):Int):=by
 have:i*i<=1000*1000:=Nat.mul_le_mul h h
 rw [Xe (by rw [← Int.natCast_mul]; omega),Int.natCast_mul]
def pathS (m:Mv):List V3:=if Qw m=0 then (if m.kind=3 then arcV (J3 m) (Qj (sA m)) (Qj (sB m)) (gS (sA m)) (gS (sA m)+1) else linQ m.fr (Qj (dS m)) (gS (dS m)+1)) else []
theorem ck_in {m:Mv} (h:Qw m=0):InM m:=by
 have key:∀ lo hi,¬ Xm lo hi m=true->InM m:=fun lo hi h=>by
  unfold Xm at h
  simp only [Bool.not_eq_true,Bool.or_eq_false_iff] at h
  exact inM_of h.1 h.2.1 h.2.2.1
 unfold Qw at h
 split at h
 ·split at h
  ·cases h
  ·exact key _ _ ‹_›
 ·split at h
  ·split at h
   ·cases h
   ·exact key _ _ ‹_›
  ·split at h
   ·split at h
    ·cases h
    ·exact key _ _ ‹_›
   ·cases h
theorem ck_n {m:Mv} (h:¬ m.kind=1/\¬ m.kind=2/\¬ m.kind=3):Qw m=16:=by unfold Qw; rw [if_neg h.1,if_neg h.2.1,if_neg h.2.2]
def mc76:MC:=(sq [oN 1 (.box 218 11 0) [],oN 2 (.mv (.c .nilf)) []] (sq [oA 6 0 1 [],oA 7 4 6 [0],oL 8 3 7 [1],oA 9 0 1 [],oA 10 1 9 [3],oL 11 3 10 [4],oQ 12 82 [8,11] [2,5],oQ 13 182 [12] [6,6],oM 5 13 [7],oN 14 (.ext 5 0) [8],oN 15 (.ext 5 1) [8],oN 3 (.alloc 32 3 (iz 3)) [],oN 4 (.alloc 3 1 [(iv 0)]) [],oS 3 3 14 [11,9,7,0,1,2,3,4,5,6,7,8,9,11,12],oS 1 4 15 (12::10::13::up 14)] (sq [oN 16 (.mkfn (.func 349) [4,1,3]) [],oM 2 16 [0,0]] .ret)))
theorem mcOk76:(match Tryz.f348.body with | some c=>Qq Tryz.prog 17 c | none=>none)=some mc76:=by kernel_rfl
theorem fc76 (m:Mv) (h:InM m):FC Tryz.prog 348 [aM m] [] (.fn (.func 349) [.rp [iv (gS (dS m):Int)],.rp (cM m),.rp (cV (Qj (dS m)))]) [] false:=by
 refine Qh (nt:=17) Tryz.func348 rfl rfl mcOk76 (nL rfl) ?_
 delta mc76
 refine gA 13 rfl (cN rfl rfl (fc27s h.to.big h.fr.big) (gR 0 rfl (cN rfl rfl (fc29 (dS m) h.d48.big) (gR 14 rfl ?_))))
 exact Q5 <| Xg rfl (rc_fnr (.cons (XJ rfl rfl (.inr rfl)) (.cons (XJ rfl rfl (.inr rfl)) (.cons (XJ rfl rfl (.inr rfl)) .nil)))) .nil
def mc82:MC:=(sq [oN 1 (.box 219 11 0) [],oN 2 (.mv (.c .nilf)) []] (sq [oL 9 11 1 [],oQ 10 355 [9] [0],oM 8 10 [1],oN 11 (.ext 8 0) [2],oN 12 (.ext 8 1) [2],oN 13 (.ext 8 2) [2],oN 14 (.ext 8 3) [2],oN 3 (.alloc 32 3 (iz 3)) [],oN 4 (.alloc 32 3 (iz 3)) [],oN 5 (.alloc 3 1 [(iv 0)]) [],oS 3 3 11 [7,3,1,0,1,2,3,7,8,9],oS 3 4 12 [8,4,10,0,1,2,3,4,7,8,9,10],oS 1 5 13 [9,5,11,0,1,2,3,4,5,7,8,9,10,11],oM 6 14 (6::12::up 13)] (sq [oA 15 0 1 [],oA 16 1 15 [0],oL 17 3 16 [1],oL 18 3 3 [],oD 19 1 5 [],oN 20 (.un .neg 19) [4],oQ 21 350 [17,18,20] [2,3,5],oN 7 (.alloc 32 3 (iz 3)) [],oS 3 7 21 (7::6::6::up 8)] (sq [oN 22 (.mkfn (.func 357) [5,7,3,4]) [],oM 2 22 [0,0]] .ret))))
theorem mcOk82:(match Tryz.f354.body with | some c=>Qq Tryz.prog 23 c | none=>none)=some mc82:=by kernel_rfl
theorem fc82 (m:Mv) (h:InM m):FC Tryz.prog 354 [aM m] [] (.fn (.func 357) [.rp [iv (gS (sA m):Int)],.rp (cV (J3 m)),.rp (cV (Qj (sA m))),.rp (cV (Qj (sB m)))]) [] false:=by
 have hr:=gS_le (n:=48) h.a48
 refine Qh (nt:=23) Tryz.func354 rfl rfl mcOk82 (nL rfl) ?_
 delta mc82
 refine gA 8 rfl (cN rfl rfl (fc83 m h) (gR 20 rfl (rs_neg rfl rfl (by omega) (gR 0 rfl (cN rfl rfl (fc78s h.fr.big (J6 h.a48).big (by omega)) (gR 9 rfl ?_))))))
 exact Q5 <| Xg rfl (rc_fnr (.cons (XJ rfl rfl (.inr rfl)) (.cons (XJ rfl rfl (.inr rfl)) (.cons (XJ rfl rfl (.inr rfl)) (.cons (XJ rfl rfl (.inr rfl)) .nil))))) .nil
def as56:MC:=(rg [oN 5 (.alloc 32 3 (iz 3)) [],oS 3 5 7 [0,0]])
def bd56:MC:=(.block 1 (rg [oD 8 1 2 [],oL 9 3 5 [],oN 10 (.bslice 32 3 (iz 3) 1 [(0,9)]) [1],oN 11 (.app 32 3 24 (iz 3) 8 10) [0,2],oS 1 2 11 (3::3::up 4)]))
theorem as56w (g:AV) (hg:∀ D,Qr D g=true) (l:List V3) (v:V3) (o:Loop) (lb:Nat):AW Tryz.prog 13 [900,2,903] (some lb) as56 (fun e F' H'=>e = .normal/\Weak 13 [900,2,903] F' H' [(2,.ptr 2 0 0),(5,.ptr 5 0 0)] [(900,.lp o [(6,g),(2,.ptr 2 0 0)]),(2,.cells 67 1 [[.sl 903 0 (l).length]] false),(903,.cells 32 3 ((l).map cV) true),(5,.cells 32 3 [cV v] true)]) [(7,aV v),(6,g),(2,.ptr 2 0 0)] [(900,.lp o [(6,g),(2,.ptr 2 0 0)]),(2,.cells 67 1 [[.sl 903 0 (l).length]] false),(903,.cells 32 3 ((l).map cV) true)]:=by
 delta as56
 refine gA 4 rfl ?_
 exact Q5 <| ⟨rfl,Qf (Qk rfl rfl) (.keep rfl (by simp [Q4,Qy,Qr,hg,Qa]) (.keep rfl (rfl) (.keep rfl (rfl) (.keep rfl (rfl) (.nil))))) (fun i hi=>by simp [Qa] at hi ⊢; omega)⟩
theorem bd56w (g:AV) (hg:∀ D,Qr D g=true) (l:List V3) (hl:l.length<=1000) (v:V3) (o:Loop) (lb:Nat):AW Tryz.prog 13 [900,2,903] (some lb) bd56 (fun e F' H'=>e = .normal/\Weak 13 [900,2,903] F' H' [] [(900,.lp o [(6,g),(2,.ptr 2 0 0)]),(2,.cells 67 1 [[.sl 11 0 (l++[v]).length]] false),(11,.cells 32 3 ((l++[v]).map cV) true),(903,.dead)]) [(2,.ptr 2 0 0),(5,.ptr 5 0 0)] [(900,.lp o [(6,g),(2,.ptr 2 0 0)]),(2,.cells 67 1 [[.sl 903 0 (l).length]] false),(903,.cells 32 3 ((l).map cV) true),(5,.cells 32 3 [cV v] true)]:=by
 delta bd56
 refine gA 4 rfl (XN rfl rfl rfl rfl rfl rfl (gR 0 rfl (rs_app_m (f:=cV) (xs:=l) (y:=v) rfl rfl rfl rfl rfl rfl rfl rfl (by decide) rfl (by omega) (by omega) rfl (gR 2 rfl ?_))))
 rw [show l.length+1=(l++[v]).length by simp]
 exact Q5 <| ⟨rfl,Qf (.nil) (.keep rfl (by simp [Q4,Qy,Qr,hg,Qa]) (.keep rfl (rfl) (.keep rfl (rfl) (.keep rfl (rfl) (.nil))))) (fun i hi=>by simp [Qa] at hi ⊢; omega)⟩
theorem y56 (g:AV) (hg:∀ D,Qr D g=true) (l:List V3) (hl:l.length<=1000) (v:V3) (r0:Loop) (h:Rec0 Tryz.prog 13 [7] as56 bd56 r0) :
  FCg (XB Tryz.prog) [.yl 900,aV v] [(900,.lp r0 [(6,g),(2,.ptr 2 0 0)]),(2,.cells 67 1 [[.sl 903 0 (l).length]] false),(903,.cells 32 3 ((l).map cV) true)] (.bool true) [(900,.lp r0 [(6,g),(2,.ptr 2 0 0)]),(2,.cells 67 1 [[.sl 11 0 (l++[v]).length]] false),(11,.cells 32 3 ((l++[v]).map cV) true),(903,.dead)] true:=by
 have:=Jm (P:=Tryz.prog) (F:=[(6,g),(2,.ptr 2 0 0)]) (N:=13) (x:=as56) (y:=bd56) h.ca h.cb (li:=900) (ps:=[7]) (vs:=[aV v]) (J:=[(2,.cells 67 1 [[.sl 903 0 (l).length]] false),(903,.cells 32 3 ((l).map cV) true)]) (J1:=[(2,.cells 67 1 [[.sl 903 0 (l).length]] false),(903,.cells 32 3 ((l).map cV) true),(5,.cells 32 3 [cV v] true)]) (J':=[(2,.cells 67 1 [[.sl 11 0 (l++[v]).length]] false),(11,.cells 32 3 ((l++[v]).map cV) true),(903,.dead)]) (Fb:=[(2,.ptr 2 0 0),(5,.ptr 5 0 0)]) (Z0:=[900,2,903]) .normal none (.inl ⟨rfl,rfl⟩)
  rfl rfl (fun i hi=>Qp.1 hi) (by simp) (fun i h=>Qp.2 h) (fun i hi=>Qp.1 (by simp [Qa] at hi ⊢; omega)) h.state h.params rfl rfl h.size (fun t v h=>Js h) (fun lb o=>as56w g hg l v o lb) (fun lb o=>bd56w g hg l hl v o lb)
 rw [rec_same h.state h.pending] at this
 exact this
end Go.Proofs.YthmbjgnjfjjibaaGreatDoor
namespace Go.Proofs.YthmbjgnjfjjibaaGreatDoor
open Go.RowKit
set_option maxRecDepth 100000
theorem ret_own_eM {P:Program} {F:Fr} {H H':Hp} {Z:List Nat} {rs:List ResultVar} {r:AV} {vs:List AV} {e:Exit} (he:e = .normal\/e = .ret) (h:JD P F H rs=some vs) (hr:RC H H' true (Xl vs) r) (hk:KeptHs H (Qa H') H') (hz:ZL H H' Z):RetQ P Z rs r H' true e F H :=
 ⟨he,vs,h,hr,hk.keptH,hz.at_⟩
theorem sq_le {i r:Nat} (h:i<=r):i*i<=r*r:=Nat.mul_le_mul h h
def mc77:MC:=(sq [oD 6 1 1 [],oB 7 .add 6 (cI 1) [0],oN 8 (.mv (cI 0)) []] (.block 0 (.loop (sq [oB 9 .lss 8 7 []] (.seq (.cond 9 .skip (.exit 0)) (.seq (.block 1 (sq [oM 10 8 [],oM 5 10 [0,0]] (sq [oM 11 0 [],oA 12 0 2 [],oA 13 1 12 [1],oL 14 3 13 [2],oL 15 3 3 [],oM 16 5 [],oQ 17 350 [14,15,16] [3,4,5],oN 18 (.callv 11 [17]) [0,6,6],oN 19 (.un .not 18) [7]] (.cond 19 .ret .skip)))) (rg [oB 20 .add 8 (cI 1) [],oM 8 20 [0]])))))))
theorem mcOk77:(match Tryz.f349.body with | some c=>Qq Tryz.prog 21 c | none=>none)=some mc77:=by kernel_rfl
theorem fc77_app (g:AV) (hg:∀ D,Qr D g=true) (m:Mv) (b:V3) (n:Nat) (hm:Bd 100 m.fr) (hb:Bd 100 b) (hn:n<=100) (r0:Loop) (h:Rec0 Tryz.prog 13 [7] as56 bd56 r0):FC Tryz.prog 349 [.yl 900,.rp [iv (n:Int)],.rp (cM m),.rp (cV b)] [(900,.lp r0 [(6,g),(2,.ptr 2 0 0)]),(2,.cells 67 1 [[.sl 901 0 (([]:List V3)).length]] false),(901,.cells 32 3 ((([]:List V3)).map cV) true)] (.tup []) [(900,.lp r0 [(6,g),(2,.ptr 2 0 0)]),(2,.cells 67 1 [[.sl 903 0 (linQ m.fr b (n+1)).length]] false),(903,.cells 32 3 ((linQ m.fr b (n+1)).map cV) true),(901,.dead)] true:=by
 refine Qh (nt:=21) Tryz.func349 rfl rfl mcOk77 (nL rfl) ?_
 delta mc77
 refine gA 3 rfl (Qm rfl rfl rfl (by omega) (gR 3 rfl ?_))
 refine Xv (α:=Nat) (fun k=>n+1-k) (fun k=>[(0,.yl 900),(1,.rp [iv (n:Int)]),(2,.rp (cM m)),(3,.rp (cV b)),(7,iv ((n:Int)+1)),(8,iv (((k):Nat):Int))]) (fun k=>[(900,.lp r0 [(6,g),(2,.ptr 2 0 0)]),(2,.cells 67 1 [[.sl 903 0 (linQ m.fr b (k)).length]] false),(903,.cells 32 3 ((linQ m.fr b (k)).map cV) true),(901,.dead)]) (fun k=>k<=n+1) 0 (by omega)
  ((Weak.trans (F1:=[(0,.yl 900),(1,.rp [iv (n:Int)]),(2,.rp (cM m)),(3,.rp (cV b)),(7,iv ((n:Int)+1)),(8,iv (((0):Nat):Int))]) (H1:=[(900,.lp r0 [(6,g),(2,.ptr 2 0 0)]),(2,.cells 67 1 [[.sl 901 0 (([]:List V3)).length]] false),(901,.cells 32 3 ((([]:List V3)).map cV) true)]) (Qf (Qk rfl rfl) (.keep (rfl) (by simp [Q4,Qy,Qr,hg,Qa]) (kS rfl rfl)) (fun i hi=>by simp [Qa] at hi ⊢; omega)) (Weak.trans (F1:=[(0,.yl 900),(1,.rp [iv (n:Int)]),(2,.rp (cM m)),(3,.rp (cV b)),(7,iv ((n:Int)+1)),(8,iv (((0):Nat):Int))]) (Q0 (i:=901) (i':=903) (k:=2) rfl rfl (.cons rfl (.same _) (.cons rfl (.same _) (.cons rfl (.same _) (.cons rfl (.same _) (.cons rfl (.same _) (.cons rfl (.same _) (.nil))))))) (by decide) rfl (.sl _ _)) (Qf (Qk rfl rfl) (.keep (rfl) (by simp [Q4,Qy,Qr,hg,Qa]) (kS rfl rfl)) (fun i hi=>by simp [Qa] at hi ⊢; omega))))) ?_
 intro k hk
 refine gT 5 rfl (Qc rfl (fun h9=>?_) (fun h9=>?_))
 ·refine gK 16 rfl (cN rfl rfl (fc78s hm.big hb.big (by omega)) (gR 0 rfl (rs_yield [(900,.lp r0 [(6,g),(2,.ptr 2 0 0)]),(2,.cells 67 1 [[.sl 903 0 (linQ m.fr b k).length]] false),(903,.cells 32 3 ((linQ m.fr b k).map cV) true)] rfl rfl rfl (y56 g hg (linQ m.fr b k) (by rw [linQ_len]; omega) (plus m.fr b k) r0 h) (.cons (Ql rfl) (.cons (Ql rfl) .nil)) (.cons rfl (.cons rfl (.cons rfl (.nil)))) (by simp [JI,Q4,Qy,Qr,scopedE,hg,Qa]) rfl rfl (gR 5 rfl (Qm rfl rfl rfl (by omega) (gR 2 rfl ?_))))))
  exact X9 <| ⟨k+1,by omega,by omega,(Weak.trans (F1:=[(0,.yl 900),(1,.rp [iv (n:Int)]),(2,.rp (cM m)),(3,.rp (cV b)),(7,iv ((n:Int)+1)),(8,iv (((k+1):Nat):Int))]) (H1:=[(900,.lp r0 [(6,g),(2,.ptr 2 0 0)]),(2,.cells 67 1 [[.sl 11 0 (linQ m.fr b k++[plus m.fr b k]).length]] false),(11,.cells 32 3 ((linQ m.fr b k++[plus m.fr b k]).map cV) true),(901,.dead)]) (Qf (Qk rfl rfl) (.keep (rfl) (by simp [Q4,Qy,Qr,hg,Qa]) (kS rfl rfl)) (fun i hi=>by simp [Qa] at hi ⊢; omega)) (Weak.trans (F1:=[(0,.yl 900),(1,.rp [iv (n:Int)]),(2,.rp (cM m)),(3,.rp (cV b)),(7,iv ((n:Int)+1)),(8,iv (((k+1):Nat):Int))]) (Q0 (i:=11) (i':=903) (k:=2) rfl rfl (.cons rfl (.same _) (.cons rfl (.same _) (.cons rfl (.same _) (.cons rfl (.same _) (.cons rfl (.same _) (.cons rfl (.same _) (.nil))))))) (by decide) rfl (.sl _ _)) (Qf (Qk rfl rfl) (.keep (rfl) (by simp [Q4,Qy,Qr,hg,Qa]) (.keep (by rw [linQ_succ]; rfl) rfl (.keep (by rw [linQ_succ]; rfl) rfl (kS rfl rfl)))) (fun i hi=>by simp [Qa] at hi ⊢; omega))))⟩
 ·refine gK 1 rfl ?_
  obtain rfl:k=n+1:=by omega
  exact Q5 <| ret_own_eM (by first | exact .inl rfl | exact .inr rfl) rfl sm (.keep (rfl) (by simp [Q4,Qy,Qr,hg,Qa]) (kS rfl rfl)) (.cons rfl rfl rfl (.cons rfl rfl rfl (.dead rfl rfl (.nil))))
def mc85:MC:=(sq [oD 8 1 1 [],oM 6 8 [0,0]] (sq [oD 9 1 1 [],oB 10 .add 9 (cI 1) [0],oN 11 (.mv (cI 0)) []] (.block 0 (.loop (sq [oB 12 .lss 11 10 []] (.seq (.cond 12 .skip (.exit 0)) (.seq (.block 1 (sq [oM 13 11 [],oM 7 13 [0,0]] (.seq (.block 2 (.loop (.seq (sq [oM 14 6 [],oM 15 6 [],oB 16 .mul 14 15 [0,1],oM 17 7 [],oM 18 7 [],oB 19 .mul 17 18 [3,4],oB 20 .add 16 19 [2,5],oD 21 1 1 [],oD 22 1 1 [],oB 23 .mul 21 22 [7,8],oB 24 .gtr 20 23 [6,9]] (.cond 24 .skip (.exit 2))) (.block 3 (rg [oM 25 6 [],oB 26 .sub 25 (cI 1) [0],oM 6 26 [1,0,1]]))))) (dq [oM 27 6 [],oM 28 6 [],oB 29 .mul 27 28 [0,1],oM 30 7 [],oM 31 7 [],oB 32 .mul 30 31 [3,4],oB 33 .add 29 32 [2,5],oD 34 1 1 [],oD 35 1 1 [],oB 36 .mul 34 35 [7,8],oB 37 .eql 33 36 [6,9],oM 38 37 [10],pM 39 0 38 true [11],oG 40 (.ld true 3 2) 38 true [11],oG 41 (.ld true 3 3) 38 true [11],pM 42 6 38 true [11],oG 43 (.call 350 [40,41,42]) 38 true [13,14,15,11,11],oG 44 (.ld true 3 4) 38 true [11],pM 45 7 38 true [11],oG 46 (.call 350 [43,44,45]) 38 true [16,17,18,16,11],oG 47 (.callv 39 [46]) 38 true [12,19,19,11],oG 48 (.un .not 47) 38 true [20,11],oN 49 (.pick 38 48 (.c (.bool false))) [11,21]] (.cond 49 .ret .skip))))) (rg [oB 50 .add 11 (cI 1) [],oM 11 50 [0]]))))))))
theorem mcOk85:(match Tryz.f357.body with | some c=>Qq Tryz.prog 51 c | none=>none)=some mc85:=by kernel_rfl
theorem fc85_app (g:AV) (hg:∀ D,Qr D g=true) (c a b:V3) (r:Nat) (hc:Bd 100 c) (ha:Bd 100 a) (hb:Bd 100 b) (hr:r<=100) (r0:Loop) (h:Rec0 Tryz.prog 13 [7] as56 bd56 r0):FC Tryz.prog 357 [.yl 900,.rp [iv (r:Int)],.rp (cV c),.rp (cV a),.rp (cV b)] [(900,.lp r0 [(6,g),(2,.ptr 2 0 0)]),(2,.cells 67 1 [[.sl 901 0 (([]:List V3)).length]] false),(901,.cells 32 3 ((([]:List V3)).map cV) true)] (.tup []) [(900,.lp r0 [(6,g),(2,.ptr 2 0 0)]),(2,.cells 67 1 [[.sl 903 0 (arcV c a b r (r+1)).length]] false),(903,.cells 32 3 ((arcV c a b r (r+1)).map cV) true),(901,.dead)] true:=by
 refine Qh (nt:=51) Tryz.func357 rfl rfl mcOk85 (nL rfl) ?_
 delta mc85
 refine gA 8 rfl (Qm rfl rfl rfl (by omega) (gR 3 rfl ?_))
 refine Xv (α:=Nat) (fun j=>r+1-j) (fun j=>[(0,.yl 900),(1,.rp [iv (r:Int)]),(2,.rp (cV c)),(3,.rp (cV a)),(4,.rp (cV b)),(10,iv ((r:Int)+1)),(6,iv ((iP r (j):Nat):Int)),(11,iv (((j):Nat):Int))]) (fun j=>[(900,.lp r0 [(6,g),(2,.ptr 2 0 0)]),(2,.cells 67 1 [[.sl 903 0 (arcV c a b r (j)).length]] false),(903,.cells 32 3 ((arcV c a b r (j)).map cV) true),(901,.dead)]) (fun j=>j<=r+1) 0 (by omega)
  ((Weak.trans (F1:=[(0,.yl 900),(1,.rp [iv (r:Int)]),(2,.rp (cV c)),(3,.rp (cV a)),(4,.rp (cV b)),(10,iv ((r:Int)+1)),(6,iv ((iP r (0):Nat):Int)),(11,iv (((0):Nat):Int))]) (H1:=[(900,.lp r0 [(6,g),(2,.ptr 2 0 0)]),(2,.cells 67 1 [[.sl 901 0 (([]:List V3)).length]] false),(901,.cells 32 3 ((([]:List V3)).map cV) true)]) (Qf (Qk rfl rfl) (.keep (rfl) (by simp [Q4,Qy,Qr,hg,Qa]) (kS rfl rfl)) (fun i hi=>by simp [Qa] at hi ⊢; omega)) (Weak.trans (F1:=[(0,.yl 900),(1,.rp [iv (r:Int)]),(2,.rp (cV c)),(3,.rp (cV a)),(4,.rp (cV b)),(10,iv ((r:Int)+1)),(6,iv ((iP r (0):Nat):Int)),(11,iv (((0):Nat):Int))]) (Q0 (i:=901) (i':=903) (k:=2) rfl rfl (.cons rfl (.same _) (.cons rfl (.same _) (.cons rfl (.same _) (.cons rfl (.same _) (.cons rfl (.same _) (.cons rfl (.same _) (.cons rfl (.same _) (.cons rfl (.same _) (.nil))))))))) (by decide) rfl (.sl _ _)) (Qf (Qk rfl rfl) (.keep (rfl) (by simp [Q4,Qy,Qr,hg,Qa]) (kS rfl rfl)) (fun i hi=>by simp [Qa] at hi ⊢; omega))))) ?_
 intro j hj
 have q3:=sq_le hr
 refine gT 5 rfl (Qc rfl (fun h12=>?_) (fun h12=>?_))
 ·refine gK 10 rfl ?_
  refine Xv (α:=Nat) (fun i=>i) (fun i=>[(0,.yl 900),(1,.rp [iv (r:Int)]),(2,.rp (cV c)),(3,.rp (cV a)),(4,.rp (cV b)),(10,iv ((r:Int)+1)),(6,iv (((i):Nat):Int)),(7,iv (j:Int)),(11,iv (((j):Nat):Int))]) (fun i=>[(900,.lp r0 [(6,g),(2,.ptr 2 0 0)]),(2,.cells 67 1 [[.sl 903 0 (arcV c a b r (j)).length]] false),(903,.cells 32 3 ((arcV c a b r (j)).map cV) true),(901,.dead)]) (fun i=>dn r j i=iP r (j+1)/\i<=r) (iP r j) (⟨rfl,iP_le r j⟩)
   (Qf (Qk rfl rfl) (.keep (rfl) (by simp [Q4,Qy,Qr,hg,Qa]) (kS rfl rfl)) (fun i hi=>by simp [Qa] at hi ⊢; omega)) ?_
  rintro i ⟨hi,hir⟩
  have q1:=sq_le hir
  have q2:=sq_le (i:=j) (r:=r) (by omega)
  refine gT 5 rfl (QA rfl rfl rfl (sqW (by omega)) (gR 2 rfl (QA rfl rfl rfl (sqW (by omega)) (gR 0 rfl (Qm rfl rfl rfl (by omega) (gR 2 rfl (QA rfl rfl rfl (sqW (by omega)) (gR 0 rfl (rs_gtr rfl rfl rfl (gR 1 rfl (Qc rfl (fun h24=>?_) (fun h24=>?_))))))))))))
  ·refine gK 4 rfl (JK rfl rfl rfl (by omega) (gR 2 rfl ?_))
   rcases Nat.eq_zero_or_pos i with h0 | h0
   ·exfalso; subst h0; omega
   obtain ⟨i,rfl⟩:∃ i0,i=i0+1:=⟨i-1,by omega⟩
   have hdn:=dn_next (r:=r) (j:=j) (i:=i) (by rw [← Int.natCast_add] at h24; exact Int.ofNat_lt.1 h24)
   exact X9 <| ⟨i,⟨by rw [← hdn]; exact hi,by omega⟩,by omega,Qf (.cs (.cs (.cs (.cs (.cs (.cs (.cons rfl (rc_int (by omega)) (.cs (.cs (.nil)))))))))) (.keep (rfl) (by simp [Q4,Qy,Qr,hg,Qa]) (kS rfl rfl)) (fun i hi=>by simp [Qa] at hi ⊢; omega)⟩
  ·refine gK 3 rfl ?_
   rw [dn_stop (by omega)] at hi
   subst hi
   refine gI 2 rfl (QA rfl rfl rfl (sqW (by omega)) (gR 2 rfl (QA rfl rfl rfl (sqW (by omega)) (gR 0 rfl (Qm rfl rfl rfl (by omega) (gR 2 rfl (QA rfl rfl rfl (sqW (by omega)) (gR 0 rfl (Qz rfl rfl rfl rfl (fun h37=>?_) (fun h37=>?_))))))))))
   ·skip
    have hcond:iP r (j+1)*iP r (j+1)+j*j=r*r:=by rw [← Int.natCast_add] at h37; exact Int.ofNat_inj.1 h37
    refine gR 5 rfl (cN rfl rfl (fc78s hc.big ha.big (by omega)) (gR 2 rfl (cN rfl rfl (fc78s (Bd.plus hc ha (q:=100) (by omega)).big hb.big (by omega)) (gR 0 rfl (rs_yield [(900,.lp r0 [(6,g),(2,.ptr 2 0 0)]),(2,.cells 67 1 [[.sl 903 0 (arcV c a b r (j)).length]] false),(903,.cells 32 3 ((arcV c a b r (j)).map cV) true)] rfl rfl rfl (y56 g hg (arcV c a b r (j)) (by have:=arcV_len c a b r j; omega) (plus (plus c a ((iP r (j+1):Nat):Int)) b (j:Int)) r0 h) (.cons (Ql rfl) (.cons (Ql rfl) .nil)) (.cons rfl (.cons rfl (.cons rfl (.nil)))) (by simp [JI,Q4,Qy,Qr,scopedE,hg,Qa]) rfl rfl (gR 2 rfl (Xa (by kernel_rfl) (gP 3 rfl (Qm rfl rfl rfl (by omega) (gR 2 rfl ?_))))))))))
    (have e:=arcV_t (c:=c) (a:=a) (b:=b) rfl hcond
     exact ⟨j+1,by omega,by omega,(Weak.trans (F1:=[(0,.yl 900),(1,.rp [iv (r:Int)]),(2,.rp (cV c)),(3,.rp (cV a)),(4,.rp (cV b)),(10,iv ((r:Int)+1)),(6,iv ((iP r (j+1):Nat):Int)),(11,iv (((j+1):Nat):Int))]) (H1:=[(900,.lp r0 [(6,g),(2,.ptr 2 0 0)]),(2,.cells 67 1 [[.sl 11 0 (arcV c a b r (j)++[(plus (plus c a ((iP r (j+1):Nat):Int)) b (j:Int))]).length]] false),(11,.cells 32 3 ((arcV c a b r (j)++[(plus (plus c a ((iP r (j+1):Nat):Int)) b (j:Int))]).map cV) true),(901,.dead)]) (Qf (Qk rfl rfl) (.keep (rfl) (by simp [Q4,Qy,Qr,hg,Qa]) (kS rfl rfl)) (fun i hi=>by simp [Qa] at hi ⊢; omega)) (Weak.trans (F1:=[(0,.yl 900),(1,.rp [iv (r:Int)]),(2,.rp (cV c)),(3,.rp (cV a)),(4,.rp (cV b)),(10,iv ((r:Int)+1)),(6,iv ((iP r (j+1):Nat):Int)),(11,iv (((j+1):Nat):Int))]) (Q0 (i:=11) (i':=903) (k:=2) rfl rfl (.cons rfl (.same _) (.cons rfl (.same _) (.cons rfl (.same _) (.cons rfl (.same _) (.cons rfl (.same _) (.cons rfl (.same _) (.cons rfl (.same _) (.cons rfl (.same _) (.nil))))))))) (by decide) rfl (.sl _ _)) (Qf (Qk rfl rfl) (.keep (rfl) (by simp [Q4,Qy,Qr,hg,Qa]) (.keep (by rw [e]; rfl) rfl (.keep (by rw [e]; rfl) rfl (kS rfl rfl)))) (fun i hi=>by simp [Qa] at hi ⊢; omega))))⟩)
   ·skip
    have hcond:¬ iP r (j+1)*iP r (j+1)+j*j=r*r:=fun e=>h37 (by rw [← Int.natCast_add,e])
    refine gR 12 rfl (Xa (by kernel_rfl) (gP 3 rfl (Qm rfl rfl rfl (by omega) (gR 2 rfl ?_))))
    (have e:=arcV_f (c:=c) (a:=a) (b:=b) rfl hcond
     exact ⟨j+1,by omega,by omega,Qf (Qk rfl rfl) (.keep (rfl) (by simp [Q4,Qy,Qr,hg,Qa]) (.keep (by rw [e]; rfl) rfl (.keep (by rw [e]; rfl) rfl (kS rfl rfl)))) (fun i hi=>by simp [Qa] at hi ⊢; omega)⟩)
 ·refine gK 1 rfl ?_
  obtain rfl:j=r+1:=by omega
  exact Q5 <| ret_own_eM (by first | exact .inl rfl | exact .inr rfl) rfl sm (.keep (rfl) (by simp [Q4,Qy,Qr,hg,Qa]) (kS rfl rfl)) (.cons rfl rfl rfl (.cons rfl rfl rfl (.dead rfl rfl (.nil))))
end Go.Proofs.YthmbjgnjfjjibaaGreatDoor
namespace Go.Proofs.YthmbjgnjfjjibaaGreatDoor
open Go.RowKit
set_option maxRecDepth 100000
theorem cenS_eq (m:Mv):J3 m=sub (add m.fr m.to) m.co:=by
 obtain ⟨h1,h2,h3⟩:=prim_mul (sA m)
 unfold J3 plus
 rw [Int.neg_mul,Int.neg_mul,Int.neg_mul,← h1,← h2,← h3]
 simp only [sub,add,sA]
 congr 1 <;> omega
theorem cen_a (m:Mv):sub m.fr (J3 m)=sA m:=by
 rw [cenS_eq]; simp only [sub,add,sA]; congr 1 <;> omega
theorem cen_b (m:Mv):sub m.to (J3 m)=sB m:=by
 rw [cenS_eq]; simp only [sub,add,sB]; congr 1 <;> omega
theorem fc54c {m:Mv} (h:InM m):FC Tryz.prog 101 [aM m] [] (aV (J3 m)) [] false:=by
 have e:subW (addW m.fr m.to) m.co=J3 m:=by rw [cenS_eq,addW_eq h.fr.big h.to.big,subW_eq (h.fr.add h.to).big h.co.big]
 rw [← e]; exact fc54 m
theorem fc50a {m:Mv} (h:InM m):FC Tryz.prog 51 [aV m.fr,aV (J3 m)] [] (aV (sA m)) [] false:=by
 rw [← cen_a m]; exact fc50s h.fr.big h.c.big
theorem fc50b {m:Mv} (h:InM m):FC Tryz.prog 51 [aV m.to,aV (J3 m)] [] (aV (sB m)) [] false:=by
 rw [← cen_b m]; exact fc50s h.to.big h.c.big
theorem fc13c (m:Mv):FC Tryz.prog 53 [aM m] [] (iv (Qw m)) [] false:=by rw [← check_eq]; exact fc13 m
theorem path_len (m:Mv):(pathS m).length<=49:=by
 unfold pathS
 split
 ·rename_i h
  have hi:=ck_in h
  split
  ·have:=arcV_len (J3 m) (Qj (sA m)) (Qj (sB m)) (gS (sA m)) (gS (sA m)+1)
   have:=gS_le (n:=48) hi.a48
   omega
  ·rw [linQ_len]
   have:=gS_le (n:=48) hi.d48
   omega
 ·simp
theorem path_0 {m:Mv} (h:¬ Qw m=0):pathS m=[]:=if_neg h
theorem path_l {m:Mv} (h:Qw m=0) (hk:m.kind=1\/m.kind=2):pathS m=linQ m.fr (Qj (dS m)) (gS (dS m)+1):=by unfold pathS; rw [if_pos h,if_neg (by omega)]
theorem path_n {m:Mv} (h:Qw m=0) (hk:¬ m.kind=3):pathS m=linQ m.fr (Qj (dS m)) (gS (dS m)+1):=by unfold pathS; rw [if_pos h,if_neg hk]
theorem path_a {m:Mv} (h:Qw m=0) (hk:m.kind=3):pathS m=arcV (J3 m) (Qj (sA m)) (Qj (sB m)) (gS (sA m)) (gS (sA m)+1):=by unfold pathS; rw [if_pos h,if_pos hk]
def Q9 (m:Mv):Int:=max (((pathS m).length:Int)-1) 0
theorem take_succ_atM {α:Type} {l:List α} {k:Nat} {x:α} (h:l[k]?=some x):l.take (k+1)=l.take k++[x]:=by
 obtain ⟨hk,rfl⟩:=List.getElem?_eq_some_iff.1 h
 rw [List.take_succ_eq_append_getElem hk]
def rowR (r i n:Nat):List (Nat×Nat):=(List.range n).filterMap fun j=>if i*i+j*j=r*r then some (i,j) else none
def arcRo (r d:Nat):List (Nat×Nat):=(List.range d).flatMap fun q=>rowR r (r-q) (r+1)
def JF (c a b:V3) (r d j:Nat):List V3:=(arcRo r d++rowR r (r-d) j).map fun p=>plus (plus c a p.1) b p.2
variable {r:Nat}
theorem rowR_t {i j:Nat} (h:i*i+j*j=r*r):rowR r i (j+1)=rowR r i j++[(i,j)]:=by
 unfold rowR
 rw [List.range_succ,List.filterMap_append]
 simp [h]
theorem rowR_f {i j:Nat} (h:¬ i*i+j*j=r*r):rowR r i (j+1)=rowR r i j:=by
 unfold rowR
 rw [List.range_succ,List.filterMap_append]
 simp [h]
theorem arcRV_t {c a b:V3} {d j:Nat} (h:(r-d)*(r-d)+j*j=r*r):JF c a b r d (j+1)=JF c a b r d j++[plus (plus c a ((r-d:Nat):Int)) b j]:=by
 unfold JF; rw [rowR_t h,← List.append_assoc,List.map_append]; rfl
theorem arcRV_f {c a b:V3} {d j:Nat} (h:¬ (r-d)*(r-d)+j*j=r*r):JF c a b r d (j+1)=JF c a b r d j:=by
 unfold JF; rw [rowR_f h]
theorem arcRV_row {c a b:V3} {d:Nat}:JF c a b r (d+1) 0=JF c a b r d (r+1):=by
 unfold JF arcRo
 rw [List.range_succ,List.flatMap_append]
 simp [rowR]
theorem rowR_len (r i:Nat):∀ n,(rowR r i n).length<=n
 | 0=>Nat.le_refl _
 | n+1=>by
  have:=rowR_len r i n
  by_cases h:i*i+n*n=r*r
  ·rw [rowR_t h]; simp; omega
  ·rw [rowR_f h]; omega
theorem arcRo_len (r:Nat):∀ d,(arcRo r d).length<=d*(r+1)
 | 0=>by simp [arcRo]
 | d+1=>by
  have:=arcRo_len r d
  have h2:=rowR_len r (r-d) (r+1)
  have e:arcRo r (d+1)=arcRo r d++rowR r (r-d) (r+1):=by unfold arcRo; rw [List.range_succ,List.flatMap_append]; simp
  rw [e,List.length_append,Nat.add_mul]
  omega
theorem arcRV_len {c a b:V3} {d j:Nat} (hr:r<=100) (hd:d<=r) (hj:j<=r+1):(JF c a b r d j).length<=20000:=by
 have h1:=arcRo_len r d
 have h2:=rowR_len r (r-d) j
 have h3:d*(r+1)<=100*101:=Nat.mul_le_mul (by omega) (by omega)
 unfold JF
 rw [List.length_map,List.length_append]
 omega
theorem arc_same:∀ r,r<49->arcRo r (r+1)=arcQ r (r+1):=by decide +kernel
theorem arc_eq {c a b:V3} (h:r<=48):JF c a b r (r+1) 0=arcV c a b r (r+1):=by
 unfold JF arcV
 rw [← arc_same r (by omega)]
 simp [rowR]
def mc56:MC:=(sq [oN 2 (.box 67 1 0) [],oN 4 (.mv (.c .nils)) []] (.seq (sq [oM 6 1 []] (.block 0 (.rfunc 6 [7] (rg [oN 5 (.alloc 32 3 (iz 3)) [],oS 3 5 7 [0,0]]) (.block 1 (rg [oD 8 1 2 [],oL 9 3 5 [],oN 10 (.bslice 32 3 (iz 3) 1 [(0,9)]) [1],oN 11 (.app 32 3 24 (iz 3) 8 10) [0,2],oS 1 2 11 (3::3::up 4)]))))) (sq [oD 12 1 2 [],oM 4 12 [0,0]] .ret)))
theorem mcOk56:(match Tryz.f144.body with | some c=>Qq Tryz.prog 13 c | none=>none)=some mc56:=by kernel_rfl
theorem fc56_l (m:Mv) (b:V3) (n:Nat) (hm:Bd 100 m.fr) (hb:Bd 100 b) (hn:n<=100):FC Tryz.prog 144 [.nils,(.fn (.func 349) [.rp [iv ((n:Nat):Int)],.rp (cM m),.rp (cV b)])] [] (.rs 3 ((linQ m.fr b (n+1)).map cV)) [] false:=by
 refine Qh (nt:=13) Tryz.func144 rfl rfl mcOk56 (nL rfl) ?_
 delta mc56
 refine gA 11 rfl (QC (F0:=[(6,(.fn (.func 349) [.rp [iv ((n:Nat):Int)],.rp (cM m),.rp (cV b)])),(2,.ptr 2 0 0)]) (H0:=[(2,.cells 67 1 [[.sl 901 0 (([]:List V3)).length]] false),(901,.cells 32 3 ((([]:List V3)).map cV) true)]) (Weak.trans (F1:=[(6,(.fn (.func 349) [.rp [iv ((n:Nat):Int)],.rp (cM m),.rp (cV b)])),(2,.ptr 2 0 0)]) (H1:=[(2,.cells 67 1 [[.nils]] true)]) (wkS rfl) (Weak.trans (F1:=[(6,(.fn (.func 349) [.rp [iv ((n:Nat):Int)],.rp (cM m),.rp (cV b)])),(2,.ptr 2 0 0)]) (weak_seed (i:=901) (k:=2) (e:=67) (z:=1) (e2:=32) (z2:=3) (fl:=true) (fl2:=true) rfl rfl) (wkS rfl))) (aw_rfunc 900 [(2,.cells 67 1 [[.sl 901 0 (([]:List V3)).length]] false),(901,.cells 32 3 ((([]:List V3)).map cV) true)] [(2,.cells 67 1 [[.sl 903 0 (linQ m.fr b (n+1)).length]] false),(903,.cells 32 3 ((linQ m.fr b (n+1)).map cV) true),(901,.dead)] (.inl ⟨rfl,rfl⟩) rfl (by kernel_rfl) rfl rfl rfl (.cons rfl (.cons rfl (.nil))) rfl rfl rfl rfl (fun r0 hrec=>⟨r0,(by rw [hrec.state]; intro h; cases h),hrec.pending,fc77_app (.fn (.func 349) [.rp [iv ((n:Nat):Int)],.rp (cM m),.rp (cV b)]) (fun D=>rfl) m b n hm hb hn r0 hrec⟩) (gP 6 rfl ?_)))
 exact Q5 <| Xg rfl (rc_frz rfl rfl rfl (fun _=>rfl)) .nil
def mc53:MC:=(sq [oN 2 (.mv (.c .nils)) []] (sq [oM 3 0 [],oQ 4 144 [(.c .nils),3] [0],oM 2 4 [1,1,0,1]] .ret))
theorem mcOk53:(match Tryz.f102.body with | some c=>Qq Tryz.prog 5 c | none=>none)=some mc53:=by kernel_rfl
theorem fc53_l (m:Mv) (b:V3) (n:Nat) (hm:Bd 100 m.fr) (hb:Bd 100 b) (hn:n<=100):FC Tryz.prog 102 [(.fn (.func 349) [.rp [iv ((n:Nat):Int)],.rp (cM m),.rp (cV b)])] [] (.rs 3 ((linQ m.fr b (n+1)).map cV)) [] true:=by
 refine Qh (nt:=5) Tryz.func102 rfl rfl mcOk53 (nL rfl) ?_
 delta mc53
 refine gA 7 rfl (cN rfl rfl (fc56_l m b n hm hb hn) (gR 3 rfl ?_))
 exact Q5 <| Qg rfl rfl rfl (.inl rfl)
theorem fc56_a (c a b:V3) (r:Nat) (hc:Bd 100 c) (ha:Bd 100 a) (hb:Bd 100 b) (hr:r<=100):FC Tryz.prog 144 [.nils,(.fn (.func 357) [.rp [iv ((r:Nat):Int)],.rp (cV c),.rp (cV a),.rp (cV b)])] [] (.rs 3 ((arcV c a b r (r+1)).map cV)) [] false:=by
 refine Qh (nt:=13) Tryz.func144 rfl rfl mcOk56 (nL rfl) ?_
 delta mc56
 refine gA 11 rfl (QC (F0:=[(6,(.fn (.func 357) [.rp [iv ((r:Nat):Int)],.rp (cV c),.rp (cV a),.rp (cV b)])),(2,.ptr 2 0 0)]) (H0:=[(2,.cells 67 1 [[.sl 901 0 (([]:List V3)).length]] false),(901,.cells 32 3 ((([]:List V3)).map cV) true)]) (Weak.trans (F1:=[(6,(.fn (.func 357) [.rp [iv ((r:Nat):Int)],.rp (cV c),.rp (cV a),.rp (cV b)])),(2,.ptr 2 0 0)]) (H1:=[(2,.cells 67 1 [[.nils]] true)]) (wkS rfl) (Weak.trans (F1:=[(6,(.fn (.func 357) [.rp [iv ((r:Nat):Int)],.rp (cV c),.rp (cV a),.rp (cV b)])),(2,.ptr 2 0 0)]) (weak_seed (i:=901) (k:=2) (e:=67) (z:=1) (e2:=32) (z2:=3) (fl:=true) (fl2:=true) rfl rfl) (wkS rfl))) (aw_rfunc 900 [(2,.cells 67 1 [[.sl 901 0 (([]:List V3)).length]] false),(901,.cells 32 3 ((([]:List V3)).map cV) true)] [(2,.cells 67 1 [[.sl 903 0 (arcV c a b r (r+1)).length]] false),(903,.cells 32 3 ((arcV c a b r (r+1)).map cV) true),(901,.dead)] (.inl ⟨rfl,rfl⟩) rfl (by kernel_rfl) rfl rfl rfl (.cons rfl (.cons rfl (.nil))) rfl rfl rfl rfl (fun r0 hrec=>⟨r0,(by rw [hrec.state]; intro h; cases h),hrec.pending,fc85_app (.fn (.func 357) [.rp [iv ((r:Nat):Int)],.rp (cV c),.rp (cV a),.rp (cV b)]) (fun D=>rfl) c a b r hc ha hb hr r0 hrec⟩) (gP 6 rfl ?_)))
 exact Q5 <| Xg rfl (rc_frz rfl rfl rfl (fun _=>rfl)) .nil
theorem fc53_a (c a b:V3) (r:Nat) (hc:Bd 100 c) (ha:Bd 100 a) (hb:Bd 100 b) (hr:r<=100):FC Tryz.prog 102 [(.fn (.func 357) [.rp [iv ((r:Nat):Int)],.rp (cV c),.rp (cV a),.rp (cV b)])] [] (.rs 3 ((arcV c a b r (r+1)).map cV)) [] true:=by
 refine Qh (nt:=5) Tryz.func102 rfl rfl mcOk53 (nL rfl) ?_
 delta mc53
 refine gA 7 rfl (cN rfl rfl (fc56_a c a b r hc ha hb hr) (gR 3 rfl ?_))
 exact Q5 <| Qg rfl rfl rfl (.inl rfl)
def mc43 : MC := (sq [oN 1 (.box 34 11 0) [],oN 2 (.mv (.c .nils)) []] (.seq (sq [oL 3 11 1 [],oQ 4 56 [3] [0],oB 5 .neq 4 (cI 0) [1]] (.cond 5 (sq [oN 2 (.mv (.c .nils)) []] .ret) .skip)) (sq [oL 6 11 1 [],oQ 7 88 [6] [0],oN 8 (.inv "collet/move.steps" 7 []) [1,1],oQ 9 102 [8] [2,2],oM 2 9 (3::3::up 4)] .ret)))
theorem mcOk43:(match Tryz.f57.body with | some c=>Qq Tryz.prog 10 c | none=>none)=some mc43:=by kernel_rfl
theorem fc43_l (m:Mv) (hk:m.kind=1\/m.kind=2):FC Tryz.prog 57 [aM m] [] (.rs 3 ((pathS m).map cV)) [] true:=by
 refine Qh (nt:=10) Tryz.func57 rfl rfl mcOk43 (nL rfl) ?_
 delta mc43
 refine gA 9 rfl (cN rfl rfl (fc12 m) (gR 0 rfl (Jv rfl rfl rfl (gR 1 rfl (Qc rfl (fun h5=>?_) (fun h5=>?_))))))
 ·refine gK 5 rfl ?_
  (rw [path_0 h5]; exact Xg rfl rc_nils .nil)
 ·have h0:Qw m=0:=by omega
  have hi:=ck_in h0
  have hg1:=gS_le (n:=48) hi.d48
  have hp:=path_l h0 hk
  rw [hp]
  refine gK 4 rfl (cN rfl rfl (fc39_l m hk) (gR 0 rfl (rs_invn [] rfl rfl (by kernel_rfl) (by kernel_rfl) rfl (fc76 m hi) (.cons (Ql rfl) (.nil)) rfl (gR 0 rfl (clO rfl (fc53_l m (Qj (dS m)) (gS (dS m)) (hi.fr.mono (by omega)) ((J6 hi.d48).mono (by omega)) (by omega)) rfl (gR 3 rfl ?_))))))
  exact Q5 <| Qg rfl rfl rfl (.inl rfl)
theorem fc43_a (m:Mv) (hk:m.kind=3):FC Tryz.prog 57 [aM m] [] (.rs 3 ((pathS m).map cV)) [] true:=by
 refine Qh (nt:=10) Tryz.func57 rfl rfl mcOk43 (nL rfl) ?_
 delta mc43
 refine gA 9 rfl (cN rfl rfl (fc12 m) (gR 0 rfl (Jv rfl rfl rfl (gR 1 rfl (Qc rfl (fun h5=>?_) (fun h5=>?_))))))
 ·refine gK 5 rfl ?_
  (rw [path_0 h5]; exact Xg rfl rc_nils .nil)
 ·have h0:Qw m=0:=by omega
  have hi:=ck_in h0
  have hg1:=gS_le (n:=48) hi.a48
  have hp:=path_a h0 hk
  rw [hp]
  refine gK 4 rfl (cN rfl rfl (fc39_a m hk) (gR 0 rfl (rs_invn [] rfl rfl (by kernel_rfl) (by kernel_rfl) rfl (fc82 m hi) (.cons (Ql rfl) (.nil)) rfl (gR 0 rfl (clO rfl (fc53_a (J3 m) (Qj (sA m)) (Qj (sB m)) (gS (sA m)) hi.c ((J6 hi.a48).mono (by omega)) ((J6 hi.b48).mono (by omega)) (by omega)) rfl (gR 3 rfl ?_))))))
  exact Q5 <| Qg rfl rfl rfl (.inl rfl)
theorem fc43_n (m:Mv) (hk:¬ m.kind=1/\¬ m.kind=2/\¬ m.kind=3):FC Tryz.prog 57 [aM m] [] (.rs 3 ((pathS m).map cV)) [] true:=by
 refine Qh (nt:=10) Tryz.func57 rfl rfl mcOk43 (nL rfl) ?_
 delta mc43
 refine gA 9 rfl (cN rfl rfl (fc12 m) (gR 0 rfl (QZ rfl rfl rfl rfl (by rw [ck_n hk]; decide) (gR 7 rfl ?_))))
 rw [path_0 (by rw [ck_n hk]; decide)]
 exact Q5 <| Xg rfl rc_nils .nil
theorem fc43 (m:Mv):FC Tryz.prog 57 [aM m] [] (.rs 3 ((pathS m).map cV)) [] true:=by
 by_cases h1:m.kind=1\/m.kind=2
 ·exact fc43_l m h1
 ·by_cases h3:m.kind=3
  ·exact fc43_a m h3
  ·exact fc43_n m (by omega)
def mc14:MC:=(sq [oN 1 (.box 34 11 0) [],oN 2 (.mv (cI 0)) []] (sq [oL 3 11 1 [],oQ 4 57 [3] [0],oE 5 4 [1],oB 6 .sub 5 (cI 1) [2],oN 7 (.mx 6 (cI 0)) [3],oM 2 7 (4::1::up 5)] .ret))
theorem mcOk14:(match Tryz.f32.body with | some c=>Qq Tryz.prog 8 c | none=>none)=some mc14:=by kernel_rfl
theorem fc14 (m:Mv):FC Tryz.prog 32 [aM m] [] (iv (Q9 m)) [] false:=by
 have hl:=path_len m
 refine Qh (nt:=8) Tryz.func32 rfl rfl mcOk14 (nL rfl) ?_
 delta mc14
 refine gA 8 rfl (clO rfl (fc43 m) rfl (gR 0 rfl (Q1 rfl rfl (gR 0 rfl (JK rfl rfl rfl (by omega) (gR 0 rfl (rs_mx rfl rfl rfl rfl (gR 3 rfl ?_))))))))
 exact rQ
end Go.Proofs.YthmbjgnjfjjibaaGreatDoor
namespace Go.Proofs.YthmbjgnjfjjibaaGreatDoor
open Go.RowKit
set_option maxRecDepth 100000
def mc44:MC:=(sq [oN 1 (.box 34 11 0) [],oN 2 (.mv (.c .nils)) []] (.seq (sq [oL 14 11 1 [],oQ 15 53 [14] [0],oB 16 .neq 15 (cI 0) [1]] (.cond 16 (sq [oN 2 (.mv (.c .nils)) []] .ret) .skip)) (sq [oN 3 (.mv (.c .nils)) []] (.seq (sq [oA 17 0 1 [],oD 18 1 17 [0],oB 19 .neq 18 (cI 3) [1]] (.cond 19 (sq [oA 21 4 1 [],oL 22 3 21 [0],oA 23 1 1 [],oL 24 3 23 [2],oQ 25 51 [22,24] [1,3],oQ 26 100 [25] [4,4],oM 20 26 [5],oN 27 (.ext 20 0) [6],oN 28 (.ext 20 1) [6],oN 4 (.alloc 32 3 (iz 3)) [],oS 3 4 27 [9,7,5,0,1,2,3,4,5,6,7,9],oM 5 28 (8::10::up 11)] (.seq (sq [oN 6 (.mv (cI 0)) []] (.block 0 (.loop (.seq (sq [oM 29 6 [],oM 30 5 [],oB 31 .leq 29 30 [0,1]] (.cond 31 .skip (.exit 0))) (.seq (.block 1 (rg [oM 34 3 [],oA 35 1 1 [],oL 36 3 35 [1],oL 37 3 4 [],oM 38 6 [],oQ 39 96 [36,37,38] [2,3,4],oN 40 (.bslice 32 3 (iz 3) 1 [(0,39)]) [5],oN 41 (.app 32 3 24 (iz 3) 34 40) [0,6,5],oM 3 41 (7::7::up 8)])) (rg [oM 32 6 [],oB 33 .add 32 (cI 1) [0],oM 6 33 [1,0,1]])))))) (sq [oM 42 3 [],oM 2 42 [0,0]] .ret))) .skip)) (sq [oL 43 11 1 [],oQ 44 101 [43] [0],oN 7 (.alloc 32 3 (iz 3)) [],oS 3 7 44 [2,1,1,0,1,2]] (sq [oA 46 1 1 [],oL 47 3 46 [0],oL 48 3 7 [],oQ 49 51 [47,48] [1,2],oQ 50 100 [49] [3,3],oM 45 50 [4],oN 51 (.ext 45 0) [5],oN 52 (.ext 45 1) [5],oN 8 (.alloc 32 3 (iz 3)) [],oS 3 8 51 [8,6,4,0,1,2,3,4,5,6,8],oM 9 52 (7::9::up 10)] (sq [oA 54 4 1 [],oL 55 3 54 [0],oL 56 3 7 [],oQ 57 51 [55,56] [1,2],oQ 58 100 [57] [3,3],oM 53 58 [4],oN 59 (.ext 53 0) [5],oN 60 (.ext 53 1) [5],oN 10 (.alloc 32 3 (iz 3)) [],oS 3 10 59 [8,6,4,0,1,2,3,4,5,6,8],oM 11 60 (7::9::up 10)] (.seq (sq [oM 61 9 [],oM 12 61 [0,0]] (.block 2 (.loop (.seq (sq [oM 62 12 [],oB 63 .geq 62 (cI 0) [0]] (.cond 63 .skip (.exit 2))) (.seq (.block 3 (sq [oN 13 (.mv (cI 0)) []] (.block 4 (.loop (.seq (sq [oM 66 13 [],oM 67 9 [],oB 68 .leq 66 67 [0,1]] (.cond 68 .skip (.exit 4))) (.seq (.block 5 (sq [oM 71 12 [],oM 72 12 [],oB 73 .mul 71 72 [0,1],oM 74 13 [],oM 75 13 [],oB 76 .mul 74 75 [3,4],oB 77 .add 73 76 [2,5],oM 78 9 [],oM 79 9 [],oB 80 .mul 78 79 [7,8],oB 81 .eql 77 80 [6,9]] (.cond 81 (dg [oM 82 3 [],oL 83 3 7 [],oL 84 3 8 [],oM 85 12 [],oQ 86 96 [83,84,85] [1,2,3],oL 87 3 10 [],oM 88 13 [],oQ 89 96 [86,87,88] [4,5,6,4],oN 90 (.bslice 32 3 (iz 3) 1 [(0,89)]) [7],oN 91 (.app 32 3 24 (iz 3) 82 90) [0,8,7],oM 3 91 (9::9::up 10)]) .skip))) (rg [oM 69 13 [],oB 70 .add 69 (cI 1) [0],oM 13 70 [1,0,1]]))))))) (rg [oM 64 12 [],oB 65 .sub 64 (cI 1) [0],oM 12 65 [1,0,1]])))))) (sq [oM 92 3 [],oM 2 92 [0,0]] .ret)))))))))
theorem mcOk44:(match Tryz.f55.body with | some c=>Qq Tryz.prog 93 c | none=>none)=some mc44:=by kernel_rfl
theorem fc44 (m:Mv):FC Tryz.prog 55 [aM m] [] (.rs 3 ((pathS m).map cV)) [] false:=by
 refine Qh (nt:=93) Tryz.func55 rfl rfl mcOk44 (nL rfl) ?_
 delta mc44
 refine gA 9 rfl (cN rfl rfl (fc13c m) (gR 0 rfl (Jv rfl rfl rfl (gR 1 rfl (Qc rfl (fun h16=>?_) (fun h16=>?_))))))
 ·refine gK 5 rfl ?_
  (rw [path_0 h16]; exact Xg rfl rc_nils .nil)
 ·have h0:Qw m=0:=by omega
  have hi:=ck_in h0
  refine gK 10 rfl (Jv rfl rfl rfl (gR 1 rfl (Qc rfl (fun h19=>?_) (fun h19=>?_))))
  ·refine gK 6 rfl (cN rfl rfl (fc50s hi.to.big hi.fr.big) (gR 0 rfl (cN rfl rfl (fc32 (dS m) hi.d48.big) (gR 1 rfl ?_))))
   have hg1:=gS_le (n:=48) hi.d48
   refine gI 12 rfl ?_
   refine Xv (α:=Nat) (fun k=>gS (dS m)+1-k) (fun k=>[(1,.ptr 1 0 0),(4,.ptr 4 0 0),(5,iv (gS (dS m):Int)),(6,iv (((k):Nat):Int)),(3,.sl 1003 0 (k))]) (fun k=>[(1,.cells 34 11 [cM m] true),(4,.cells 32 3 [cV (Qj (dS m))] true),(1003,.cells 32 3 ((linQ m.fr (Qj (dS m)) (k)).map cV) true)]) (fun k=>k<=gS (dS m)+1) 0 (by omega)
    (Qf (.cs (.cs (.cs (.cs (.cons rfl (rc_virt rfl rfl) (.nil)))))) (.keep (rfl) rfl (.keep (rfl) rfl (.virt rfl (.nil)))) (fun i h=>by cases h)) ?_
   intro k hk
   refine gT 5 rfl (rs_leq rfl rfl rfl (gR 1 rfl (Qc rfl (fun h31=>?_) (fun h31=>?_))))
   ·refine gK 9 rfl (cN rfl rfl (fc37s hi.fr.big (J6 hi.d48).big (by omega)) (gR 0 rfl (XN rfl rfl rfl rfl rfl rfl (gR 0 rfl (rs_app_m (f:=cV) (xs:=linQ m.fr (Qj (dS m)) k) (y:=plus m.fr (Qj (dS m)) k) rfl rfl rfl rfl (linQ_len _ _ _) rfl rfl rfl (by decide) rfl (by omega) (by omega) rfl (gR 4 rfl (Qm rfl rfl rfl (by omega) (gR 2 rfl ?_))))))))
    exact X9 <| ⟨k+1,by omega,by omega,wR 41 1003 (Qk rfl rfl) (.keep (rfl) rfl (.keep (rfl) rfl (.keep ((by rw [linQ_succ]; rfl)) rfl (.nil)))) rfl⟩
   ·refine gK 7 rfl ?_
    (have hk2:k=gS (dS m)+1:=by omega
     subst hk2
     rw [path_n h0 h19]
     exact Xg rfl (rc_frz rfl rfl (linQ_len _ _ _) (fun _=>rfl)) .nil)
  ·refine gK 4 rfl (cN rfl rfl (fc54c hi) (gR 8 rfl (cN rfl rfl (fc50a hi) (gR 0 rfl (cN rfl rfl (fc32 (sA m) hi.a48.big) (gR 1 rfl ?_))))))
   have hg1:=gS_le (n:=48) hi.a48
   refine gI 11 rfl (cN rfl rfl (fc50b hi) (gR 0 rfl (cN rfl rfl (fc32 (sB m) hi.b48.big) (gR 14 rfl ?_))))
   refine Xv (α:=Nat) (fun d=>gS (sA m)+1-d) (fun d=>[(1,.ptr 1 0 0),(7,.ptr 7 0 0),(8,.ptr 8 0 0),(10,.ptr 10 0 0),(9,iv (gS (sA m):Int)),(12,iv ((gS (sA m):Int)-((d:Nat):Int))),(3,.sl 1003 0 (JF (J3 m) (Qj (sA m)) (Qj (sB m)) (gS (sA m)) (d) (0)).length)]) (fun d=>[(1,.cells 34 11 [cM m] true),(7,.cells 32 3 [cV (J3 m)] true),(8,.cells 32 3 [cV (Qj (sA m))] true),(10,.cells 32 3 [cV (Qj (sB m))] true),(1003,.cells 32 3 ((JF (J3 m) (Qj (sA m)) (Qj (sB m)) (gS (sA m)) (d) (0)).map cV) true)]) (fun d=>d<=gS (sA m)+1) 0 (by omega)
    (Qf (.cs (.cs (.cs (.cs (.cs (.cons rfl (rc_int (by omega)) (.cons rfl (rc_virt rfl rfl) (.nil)))))))) (.keep (rfl) rfl (.keep (rfl) rfl (.keep (rfl) rfl (.keep (rfl) rfl (.virt rfl (.nil)))))) (fun i h=>by cases h)) ?_
   intro d hd
   refine gT 4 rfl (rs_geq rfl rfl rfl (gR 1 rfl (Qc rfl (fun h63=>?_) (fun h63=>?_))))
   ·refine gK 8 rfl ?_
    refine Xv (α:=Nat) (fun j=>gS (sA m)+1-j) (fun j=>[(1,.ptr 1 0 0),(7,.ptr 7 0 0),(8,.ptr 8 0 0),(10,.ptr 10 0 0),(9,iv (gS (sA m):Int)),(12,iv ((gS (sA m)-d:Nat):Int)),(13,iv (((j):Nat):Int)),(3,.sl 1003 0 (JF (J3 m) (Qj (sA m)) (Qj (sB m)) (gS (sA m)) (d) (j)).length)]) (fun j=>[(1,.cells 34 11 [cM m] true),(7,.cells 32 3 [cV (J3 m)] true),(8,.cells 32 3 [cV (Qj (sA m))] true),(10,.cells 32 3 [cV (Qj (sB m))] true),(1003,.cells 32 3 ((JF (J3 m) (Qj (sA m)) (Qj (sB m)) (gS (sA m)) (d) (j)).map cV) true)]) (fun j=>j<=gS (sA m)+1) 0 (by omega)
     (Qf (.cs (.cs (.cs (.cs (.cs (.cons rfl (rc_int (by omega)) (.cs (.cs (.nil))))))))) (kS rfl rfl) (fun i h=>by cases h)) ?_
    intro j hj
    have q1:=sq_le (i:=gS (sA m)-d) (r:=48) (by omega)
    have q2:=sq_le (i:=j) (r:=49) (by omega)
    refine gT 5 rfl (rs_leq rfl rfl rfl (gR 1 rfl (Qc rfl (fun h68=>?_) (fun h68=>?_))))
    ·refine gK 7 rfl (QA rfl rfl rfl (sqW (by omega)) (gR 2 rfl (QA rfl rfl rfl (sqW (by omega)) (gR 0 rfl (Qm rfl rfl rfl (by omega) (gR 2 rfl (QA rfl rfl rfl (sqW (by omega)) (gR 0 rfl (QS rfl rfl rfl (gR 1 rfl (Qc rfl (fun h81=>?_) (fun h81=>?_))))))))))))
     ·have hcond:(gS (sA m)-d)*(gS (sA m)-d)+j*j=gS (sA m)*gS (sA m):=by rw [← Int.natCast_add] at h81; exact Int.ofNat_inj.1 h81
      refine gK 5 rfl (cN rfl rfl (fc37s hi.c.big (J6 hi.a48).big (by omega)) (gR 2 rfl (cN rfl rfl (fc37s (Bd.plus hi.c (J6 hi.a48) (q:=100) (by omega)).big (J6 hi.b48).big (by omega)) (gR 0 rfl (XN rfl rfl rfl rfl rfl rfl ?_)))))
      have hlen:=arcRV_len (c:=J3 m) (a:=Qj (sA m)) (b:=Qj (sB m)) (r:=gS (sA m)) (d:=d) (j:=j) (by omega) (by omega) (by omega)
      refine gR 0 rfl (rs_app_m (f:=cV) (xs:=(JF (J3 m) (Qj (sA m)) (Qj (sB m)) (gS (sA m)) (d) (j))) (y:=(plus (plus (J3 m) (Qj (sA m)) ((gS (sA m)-d:Nat):Int)) (Qj (sB m)) (j:Int))) rfl rfl rfl rfl rfl rfl rfl rfl (by decide) rfl (by omega) (by omega) rfl (gR 1 rfl (Xa (by kernel_rfl) (gP 2 rfl (Qm rfl rfl rfl (by omega) (gR 2 rfl ?_))))))
      (have e:=arcRV_t (c:=J3 m) (a:=Qj (sA m)) (b:=Qj (sB m)) hcond
       exact ⟨j+1,by omega,by omega,XR (i:=91) (i':=1003) (F1:=[(1,.ptr 1 0 0),(7,.ptr 7 0 0),(8,.ptr 8 0 0),(10,.ptr 10 0 0),(9,iv (gS (sA m):Int)),(12,iv ((gS (sA m)-d:Nat):Int)),(13,iv (((j+1):Nat):Int)),(3,.sl 91 0 (JF (J3 m) (Qj (sA m)) (Qj (sB m)) (gS (sA m)) (d) (j+1)).length)]) (H1:=[(1,.cells 34 11 [cM m] true),(7,.cells 32 3 [cV (J3 m)] true),(8,.cells 32 3 [cV (Qj (sA m))] true),(10,.cells 32 3 [cV (Qj (sB m))] true),(91,.cells 32 3 ((JF (J3 m) (Qj (sA m)) (Qj (sB m)) (gS (sA m)) (d) (j+1)).map cV) true)]) (.cs (.cs (.cs (.cs (.cs (.cs (.cs (.cons rfl (rc_eq (by rw [e]; simp) rfl) (.nil))))))))) (.keep (rfl) rfl (.keep (rfl) rfl (.keep (rfl) rfl (.keep (rfl) rfl (.keep ((by (rw [e]) <;> rfl)) rfl (.nil)))))) (fun i h=>by cases h) rfl rfl (.cons rfl (.same _) (.cons rfl (.same _) (.cons rfl (.same _) (.cons rfl (.same _) (.cons rfl (.same _) (.cons rfl (.same _) (.cons rfl (.same _) (.cons rfl (.sl _ _) (.nil))))))))) (Qk rfl rfl) (kS rfl rfl) (fun i h=>by cases h)⟩)
     ·have hcond:¬ (gS (sA m)-d)*(gS (sA m)-d)+j*j=gS (sA m)*gS (sA m):=fun e=>h81 (by rw [← Int.natCast_add,e])
      refine gK 3 rfl (Qm rfl rfl rfl (by omega) (gR 2 rfl ?_))
      (have e:=arcRV_f (c:=J3 m) (a:=Qj (sA m)) (b:=Qj (sB m)) hcond
       exact ⟨j+1,by omega,by omega,Qf (.cs (.cs (.cs (.cs (.cs (.cs (.cs (.cons rfl (rc_eq (by rw [e]) rfl) (.nil))))))))) (.keep (rfl) rfl (.keep (rfl) rfl (.keep (rfl) rfl (.keep (rfl) rfl (.keep ((by (rw [e]) <;> rfl)) rfl (.nil)))))) (fun i h=>by cases h)⟩)
    ·refine gK 3 rfl (JK rfl rfl rfl (by omega) (gR 2 rfl ?_))
     have hj2:j=gS (sA m)+1:=by omega
     subst hj2
     have e:=arcRV_row (c:=J3 m) (a:=Qj (sA m)) (b:=Qj (sB m)) (r:=gS (sA m)) (d:=d)
     exact X9 <| ⟨d+1,by omega,by omega,Qf (.cs (.cs (.cs (.cs (.cs (.cons rfl (rc_int (by omega)) (.cons rfl (rc_eq (by rw [e]) rfl) (.nil)))))))) (.keep (rfl) rfl (.keep (rfl) rfl (.keep (rfl) rfl (.keep (rfl) rfl (.keep ((by (rw [e]) <;> rfl)) rfl (.nil)))))) (fun i h=>by cases h)⟩
   ·refine gK 7 rfl ?_
    (have hd2:d=gS (sA m)+1:=by omega
     subst hd2
     rw [path_a h0 (by omega),← arc_eq (by omega)]
     exact Xg rfl (rc_frz rfl rfl rfl (fun _=>rfl)) .nil)
def mc15:MC:=(sq [oN 1 (.box 34 11 0) [],oN 2 (.mv (cI 0)) []] (sq [oL 3 11 1 [],oQ 4 55 [3] [0],oE 5 4 [1],oB 6 .sub 5 (cI 1) [2],oN 7 (.mx 6 (cI 0)) [3],oM 2 7 (4::1::up 5)] .ret))
theorem mcOk15:(match Tryz.f30.body with | some c=>Qq Tryz.prog 8 c | none=>none)=some mc15:=by kernel_rfl
theorem fc15 (m:Mv):FC Tryz.prog 30 [aM m] [] (iv (Q9 m)) [] false:=by
 have hl:=path_len m
 refine Qh (nt:=8) Tryz.func30 rfl rfl mcOk15 (nL rfl) ?_
 delta mc15
 refine gA 8 rfl (cN rfl rfl (fc44 m) (gR 0 rfl (Q1 rfl rfl (gR 0 rfl (JK rfl rfl rfl (by omega) (gR 0 rfl (rs_mx rfl rfl rfl rfl (gR 3 rfl ?_))))))))
 exact rQ
end Go.Proofs.YthmbjgnjfjjibaaGreatDoor
namespace Go.Proofs.YthmbjgnjfjjibaaGreatDoor
open Go.RowKit
set_option maxRecDepth 100000
def axL:List V3:=[⟨1,0,0⟩,⟨0,1,0⟩,⟨0,0,1⟩,⟨-1,0,0⟩,⟨0,-1,0⟩,⟨0,0,-1⟩]
def axS (n:Int):V3:=(axL[(Xd n 6).toNat]?).getD ⟨0,0,0⟩
theorem ax_at (n:Int):axL[0+(Xd n 6).toNat]?=some (axS n):=by
 have h:=QT n 6 (by omega)
 unfold axS
 generalize Xd n 6=t at h
 obtain rfl | rfl | rfl | rfl | rfl | rfl:t=0\/t=1\/t=2\/t=3\/t=4\/t=5:=by omega
 all_goals rfl
theorem ax_mem (n:Int):axS n∈axL:=List.mem_of_getElem? (ax_at n)
theorem ax_bd (n:Int):Bd 1 (axS n):=by
 have h:=ax_mem n
 unfold axL at h
 simp only [List.mem_cons,List.not_mem_nil,or_false] at h
 rcases h with h | h | h | h | h | h <;> rw [h] <;> exact ⟨by decide,by decide,by decide⟩
def rS (t:Int):Int:=(([1,2,5,5,10]:List Int)[t.toNat]?).getD 0
theorem r_at (t:Int) (h0:0<=t) (h1:t<5):([ci 1,ci 2,ci 5,ci 5,ci 10]:List (List AV))[0+t.toNat]?=some (ci (rS t)):=by
 obtain rfl | rfl | rfl | rfl | rfl:t=0\/t=1\/t=2\/t=3\/t=4:=by omega
 all_goals rfl
theorem r_range (t:Int) (h0:0<=t) (h1:t<5):rS t=1\/rS t=2\/rS t=5\/rS t=10:=by
 obtain rfl | rfl | rfl | rfl | rfl:t=0\/t=1\/t=2\/t=3\/t=4:=by omega
 all_goals decide
abbrev q1 (l:List Int):Nat:=XD l 0
abbrev q2 (l:List Int):Nat:=vecA l (q1 l)
abbrev q3 (l:List Int):Nat:=XD l (q2 l)
abbrev q4 (l:List Int):Nat:=XD l (q3 l)
abbrev q5 (l:List Int):Nat:=XD l (q4 l)
abbrev q6 (l:List Int):Nat:=XD l (q5 l)
abbrev mK (l:List Int):Int:=XS l 0 4
abbrev mF (l:List Int):V3:=vecV l (q1 l) 8
abbrev mG (l:List Int):Int:=1+XS l (q2 l) 100
abbrev mA (l:List Int):Int:=XS l (q3 l) 6
abbrev mB (l:List Int):Int:=XS l (q3 l) 6+1+XS l (q4 l) 2+3*XS l (q5 l) 2
abbrev mR (l:List Int):Int:=rS (XS l (q6 l) 5)
abbrev mC (l:List Int):V3:=plus (mF l) (axS (mA l)) (mR l)
abbrev mT (l:List Int):V3:=plus (mC l) (axS (mB l)) (mR l)
abbrev mV (l:List Int):V3:=vecV l (q3 l) 3
abbrev q4v (l:List Int):Nat:=vecA l (q3 l)
def mBy (l:List Int):V3:=if mV l=⟨0,0,0⟩ then axS (XS l (q4v l) 6) else mV l
def q5v (l:List Int):Nat:=if mV l=⟨0,0,0⟩ then XD l (q4v l) else q4v l
def mN (l:List Int):Int:=1+XS l (q5v l) 3
def mTo (l:List Int):V3:=plus (mF l) (mBy l) (mN l)
def Jy (l:List Int):Mv:=if mK l=3 then ⟨3,mF l,mT l,mC l,mG l⟩ else if mK l=0 then ⟨1,mF l,mTo l,⟨0,0,0⟩,0⟩ else ⟨2,mF l,mTo l,⟨0,0,0⟩,mG l⟩
def nS (a b:Int):Int:=(([b,0,1,100,101,-1,24,25,-25]:List Int)[(Xd a 9).toNat]?).getD 0
theorem n_at (a b:Int):([ci b,ci 0,ci 1,ci 100,ci 101,ci (-1),ci 24,ci 25,ci (-25)]:List (List AV))[0+(Xd a 9).toNat]?=some (ci (nS a b)):=by
 have h:=QT a 9 (by omega)
 unfold nS
 generalize Xd a 9=t at h
 obtain rfl | rfl | rfl | rfl | rfl | rfl | rfl | rfl | rfl:t=0\/t=1\/t=2\/t=3\/t=4\/t=5\/t=6\/t=7\/t=8:=by omega
 all_goals rfl
def XV (m:Mv) (a b c:Int):Mv :=
 if Xd a 8=0 then { m with kind:=nS b c } else if Xd a 8=1 then { m with feed:=nS b c } else if Xd a 8=2 then { m with fr:=⟨nS b c,m.fr.y,m.fr.z⟩ } else if Xd a 8=3 then { m with to:=⟨m.to.x,nS b c,m.to.z⟩ }
 else if Xd a 8=4 then { m with co:=⟨m.co.x,m.co.y,nS b c⟩ } else if Xd a 8=5 then { m with to:=m.fr } else if Xd a 8=6 then { m with kind:=1+Xd m.kind 3 } else { m with co:=⟨0,0,0⟩ }
def mc38:MC:=(sq [oN 2 (.alloc 32 3 (iz 3)) []] (sq [oN 4 (.build (iz 3) [(0,1,(cI 1))]) [],oN 5 (.build (iz 3) [(1,1,(cI 1))]) [],oN 6 (.build (iz 3) [(2,1,(cI 1))]) [],oN 7 (.build (iz 3) [(0,1,(cI (-1)))]) [],oN 8 (.build (iz 3) [(1,1,(cI (-1)))]) [],oN 9 (.build (iz 3) [(2,1,(cI (-1)))]) [],oN 10 (.bslice 32 3 (iz 3) 6 [(0,4),(1,5),(2,6),(3,7),(4,8),(5,9)]) (up 6),oM 3 10 (6::up 7)] (sq [oM 11 3 [],oM 12 0 [],oQ 13 7 [12,(cI 6)] [1],oX 14 3 11 13 [0,2],oL 15 3 14 [3],oS 3 2 15 (4::2::up 5)] .ret)))
theorem mcOk38:(match Tryz.f97.body with | some c=>Qq Tryz.prog 16 c | none=>none)=some mc38:=by kernel_rfl
theorem fc38 (n:Int):FC Tryz.prog 97 [iv n] [] (aV (axS n)) [] false:=by
 have hw:=QT n 6 (by omega)
 refine Qh (nt:=16) Tryz.func97 rfl rfl mcOk38 (nL rfl) ?_
 delta mc38
 refine gA 12 rfl (XN rfl rfl rfl rfl rfl rfl (gR 6 rfl (cN rfl rfl (fc16 n 6 (by omega)) (gR 0 rfl (rs_ix_s rfl rfl rfl rfl hw.1 hw.2 (gR 0 rfl (rs_ld_ga (f:=cV) (xs:=axL) (y:=axS n) rfl rfl rfl (ax_at n) (nL rfl) rfl (gR 3 rfl ?_))))))))
 exact rQ
def mc10:MC:=(sq [oN 2 (.alloc 34 11 (iz 11)) []] (sq [oM 10 0 [],oN 11 (.build [.nils,(iv 0)] [(0,1,10)]) [0],oN 12 (.box 178 2 11) [1],oM 3 12 [2,0,1,2]] (sq [oM 13 3 [],oQ 14 94 [13,(cI 4)] [0],oM 4 14 [1,1,0,1]] (sq [oM 15 3 [],oQ 16 95 [15,(cI 8)] [0],oM 17 3 [],oQ 18 94 [17,(cI 100)] [2,1],oB 19 .add (cI 1) 18 [3],oN 20 (.build (iz 11) [(0,1,(cI 2)),(1,3,16),(10,1,19)]) [1,4],oN 5 (.alloc 34 11 (iz 11)) [],oS 11 5 20 (6::5::3::up 7)] (.seq (sq [oM 21 4 [],oB 22 .eql 21 (cI 3) [0]] (.cond 22 (sq [oM 23 3 [],oQ 24 94 [23,(cI 6)] [0],oM 6 24 [1,1,0,1]] (sq [oM 25 6 [],oB 26 .add 25 (cI 1) [0],oM 27 3 [],oQ 28 94 [27,(cI 2)] [2],oB 29 .add 26 28 [1,3],oM 30 3 [],oQ 31 94 [30,(cI 2)] [5,3],oB 32 .mul (cI 3) 31 [6],oB 33 .add 29 32 [4,7],oM 7 33 (8::6::up 9)] (sq [oN 34 (.bslice 3 1 [(iv 0)] 5 [(0,(cI 1)),(1,(cI 2)),(2,(cI 5)),(3,(cI 5)),(4,(cI 10))]) [],oM 35 3 [],oQ 36 94 [35,(cI 5)] [1],oX 37 1 34 36 [0,2],oD 38 1 37 [3],oM 8 38 (4::2::up 5)] (sq [oA 39 0 5 [],oS 1 39 (cI 3) [0]] (dq [oA 40 1 5 [],oL 41 3 40 [0],oM 42 6 [],oQ 43 97 [42] [2],oM 44 8 [],oQ 45 96 [41,43,44] [1,3,4,3],oA 46 7 5 (up 6),oS 3 46 45 (6::5::5::up 6)] (dq [oA 47 7 5 [],oL 48 3 47 [0],oM 49 7 [],oQ 50 97 [49] [2],oM 51 8 [],oQ 52 96 [48,50,51] [1,3,4,3],oA 53 4 5 (up 6),oS 3 53 52 (6::5::5::up 6)] (sq [oL 54 11 5 [],oS 11 2 54 [0,0]] .ret))))))) .skip)) (sq [oM 55 3 [],oQ 56 95 [55,(cI 3)] [0],oN 9 (.alloc 32 3 (iz 3)) [],oS 3 9 56 [2,1,1,0,1,2]] (.seq (sq [oL 57 3 9 [],oN 58 (.build (iz 3) []) [],oN 59 (.aeq false 3 57 58) [0,1]] (.cond 59 (rg [oM 60 3 [],oQ 61 94 [60,(cI 6)] [0],oQ 62 97 [61] [1,1],oS 3 9 62 [2,2,0,1,2]]) .skip)) (dq [oA 63 1 5 [],oL 64 3 63 [0],oL 65 3 9 [],oM 66 3 [],oQ 67 94 [66,(cI 3)] [3],oB 68 .add (cI 1) 67 [4],oQ 69 96 [64,65,68] [1,2,5,4],oA 70 4 5 (up 7),oS 3 70 69 (7::6::6::up 7)] (.seq (sq [oM 71 4 [],oB 72 .eql 71 (cI 0) [0]] (.cond 72 (sq [oA 73 0 5 [],oS 1 73 (cI 1) [0]] (rg [oA 74 10 5 [],oS 1 74 (cI 0) [0]])) .skip)) (sq [oL 75 11 5 [],oS 11 2 75 [0,0]] .ret))))))))))
theorem mcOk10:(match Tryz.f50.body with | some c=>Qq Tryz.prog 76 c | none=>none)=some mc10:=by kernel_rfl
set_option maxHeartbeats 1600000 in
theorem fc10 (l:List Int) (hl:l.length<=4611686018427387904):FC Tryz.prog 50 [ints l] [] (aM (Jy l)) [] false:=by
 have n0:=Xc l 0 4 (by omega)
 have n2:=Xc l (q2 l) 100 (by omega)
 have n3:=Xc l (q3 l) 6 (by omega)
 have n4:=Xc l (q4 l) 2 (by omega)
 have n5:=Xc l (q5 l) 2 (by omega)
 have n6:=Xc l (q6 l) 5 (by omega)
 have hbf:=vecV_bd l (q1 l) 8 (by omega)
 have hbv:=vecV_bd l (q3 l) 3 (by omega)
 have hr:mR l=1\/mR l=2\/mR l=5\/mR l=10:=r_range (XS l (q6 l) 5) n6.1 n6.2
 refine Qh (nt:=76) Tryz.func50 rfl rfl mcOk10 (nL rfl) ?_
 delta mc10
 refine gA 14 rfl (clO rfl (fc35 12 178 l (0) 4 (by omega) hl) rfl (gR 5 rfl (clO rfl (fc36 12 178 l (q1 l) 8 (by omega) hl) rfl (gR 1 rfl (clO rfl (fc35 12 178 l (q2 l) 100 (by omega) hl) rfl (gR 0 rfl (Qm rfl rfl rfl (by omega) (gR 8 rfl (QS rfl rfl rfl (gR 1 rfl (Qc rfl (fun h22=>?_) (fun h22=>?_))))))))))))
 ·refine gK 3 rfl (clO rfl (fc35 12 178 l (q3 l) 6 (by omega) hl) rfl (gR 5 rfl (Qm rfl rfl rfl (by omega) (gR 1 rfl (clO rfl (fc35 12 178 l (q4 l) 2 (by omega) hl) rfl (gR 0 rfl (Qm rfl rfl rfl (by omega) (gR 1 rfl (clO rfl (fc35 12 178 l (q5 l) 2 (by omega) hl) rfl (gR 0 rfl (QA rfl rfl rfl (Xe (by omega)) ?_)))))))))))
  refine gR 0 rfl (Qm rfl rfl rfl (by omega) (gR 4 rfl (XN rfl rfl rfl rfl rfl rfl (gR 1 rfl (clO rfl (fc35 12 178 l (q6 l) 5 (by omega) hl) rfl (gR 0 rfl (rs_ix_s rfl rfl rfl rfl n6.1 n6.2 (gR 0 rfl (rs_ld_p rfl rfl rfl (el:=ci (mR l)) (r_at _ n6.1 n6.2) rfl (gR 8 rfl (QC (F0:=[(2,.ptr 2 0 0),(5,.ptr 5 0 0),(6,iv (mA l)),(7,iv (mB l)),(8,iv (mR l))]) (H0:=[(2,.cells 34 11 [cM ⟨0,⟨0,0,0⟩,⟨0,0,0⟩,⟨0,0,0⟩,0⟩] true),(5,.cells 34 11 [cM ⟨3,mF l,⟨0,0,0⟩,⟨0,0,0⟩,mG l⟩] true)]) (wkS rfl) ?_)))))))))))
  refine gK 4 rfl (cN rfl rfl (fc38 (mA l)) (gR 1 rfl (cN rfl rfl (fc37s hbf.big (ax_bd _).big (by omega)) (gR 2 rfl (Xa (by kernel_rfl) (gP 1 rfl (QC (F0:=[(2,.ptr 2 0 0),(5,.ptr 5 0 0),(7,iv (mB l)),(8,iv (mR l))]) (H0:=[(2,.cells 34 11 [cM ⟨0,⟨0,0,0⟩,⟨0,0,0⟩,⟨0,0,0⟩,0⟩] true),(5,.cells 34 11 [cM ⟨3,mF l,⟨0,0,0⟩,mC l,mG l⟩] true)]) (wkS rfl) (gK 4 rfl (cN rfl rfl (fc38 (mB l)) (gR 1 rfl (cN rfl rfl (fc37s (Bd.plus hbf (ax_bd _) (q:=10) (by omega)).big (ax_bd _).big (by omega)) ?_)))))))))))
  refine gR 2 rfl (Xa (by kernel_rfl) (gP 1 rfl (QC (F0:=[(2,.ptr 2 0 0),(5,.ptr 5 0 0)]) (H0:=[(2,.cells 34 11 [cM ⟨0,⟨0,0,0⟩,⟨0,0,0⟩,⟨0,0,0⟩,0⟩] true),(5,.cells 34 11 [cM ⟨3,mF l,mT l,mC l,mG l⟩] true)]) (wkS rfl) (gK 5 rfl ?_))))
  (rw [show Jy l=⟨3,mF l,mT l,mC l,mG l⟩ from if_pos h22]; exact Qg rfl rfl rfl (.inr rfl))
 ·refine gK 4 rfl (clO rfl (fc36 12 178 l (q3 l) 3 (by omega) hl) rfl (gR 8 rfl (Jq (u:=mV l) (v:=⟨0,0,0⟩) rfl rfl rfl (gR 1 rfl (aw_cond rfl (fun h59=>?_) (fun h59=>?_))))))
  ·skip
   have hz:mV l=⟨0,0,0⟩:=by simpa using h59
   have eb:mBy l=axS (XS l (q4v l) 6):=if_pos hz
   have eq:q5v l=XD l (q4v l):=if_pos hz
   have eT:mTo l=plus (mF l) (axS (XS l (q4v l) 6)) (1+XS l (XD l (q4v l)) 3):=by unfold mTo mN; rw [eb,eq]
   have n7:=Xc l (XD l (q4v l)) 3 (by omega)
   refine gK 2 rfl (clO rfl (fc35 12 178 l (q4v l) 6 (by omega) hl) rfl (gR 0 rfl (cN rfl rfl (fc38 _) (gR 8 rfl (clO rfl (fc35 12 178 l (XD l (q4v l)) 3 (by omega) hl) rfl (gR 0 rfl (Qm rfl rfl rfl (by omega) (gR 0 rfl (cN rfl rfl (fc37s hbf.big (ax_bd _).big (by omega)) (gR 2 rfl (Xa (by kernel_rfl) ?_)))))))))))
   refine gP 2 rfl (QC (F0:=[(2,.ptr 2 0 0),(5,.ptr 5 0 0),(4,iv (mK l))]) (H0:=[(2,.cells 34 11 [cM ⟨0,⟨0,0,0⟩,⟨0,0,0⟩,⟨0,0,0⟩,0⟩] true),(5,.cells 34 11 [cM ⟨2,mF l,mTo l,⟨0,0,0⟩,mG l⟩] true)]) (Qf (Qk rfl rfl) (.keep (rfl) rfl (.keep ((by rw [eT]; rfl)) rfl (.nil))) (fun i h=>by cases h)) (gK 2 rfl (QS rfl rfl rfl (gR 1 rfl (Qc rfl (fun h72=>?_) (fun h72=>?_))))))
   ·refine gK 15 rfl ?_
    (rw [show Jy l=⟨1,mF l,mTo l,⟨0,0,0⟩,0⟩ by unfold Jy; rw [if_neg h22,if_pos h72]]; exact Qg rfl rfl rfl (.inr rfl))
   ·refine gK 7 rfl ?_
    (rw [show Jy l=⟨2,mF l,mTo l,⟨0,0,0⟩,mG l⟩ by unfold Jy; rw [if_neg h22,if_neg h72]]; exact Qg rfl rfl rfl (.inr rfl))
  ·skip
   have hz:¬ mV l=⟨0,0,0⟩:=by simpa using h59
   have eb:mBy l=mV l:=if_neg hz
   have eq:q5v l=q4v l:=if_neg hz
   have eT:mTo l=plus (mF l) (mV l) (1+XS l (q4v l) 3):=by unfold mTo mN; rw [eb,eq]
   have n7:=Xc l (q4v l) 3 (by omega)
   refine gK 7 rfl (clO rfl (fc35 12 178 l (q4v l) 3 (by omega) hl) rfl (gR 0 rfl (Qm rfl rfl rfl (by omega) (gR 0 rfl (cN rfl rfl (fc37s hbf.big hbv.big (by omega)) (gR 2 rfl (Xa (by kernel_rfl) (gP 2 rfl (QC (F0:=[(2,.ptr 2 0 0),(5,.ptr 5 0 0),(4,iv (mK l))]) (H0:=[(2,.cells 34 11 [cM ⟨0,⟨0,0,0⟩,⟨0,0,0⟩,⟨0,0,0⟩,0⟩] true),(5,.cells 34 11 [cM ⟨2,mF l,mTo l,⟨0,0,0⟩,mG l⟩] true)]) (Qf (Qk rfl rfl) (.keep (rfl) rfl (.keep ((by rw [eT]; rfl)) rfl (.nil))) (fun i h=>by cases h)) (gK 2 rfl (QS rfl rfl rfl ?_)))))))))))
   refine gR 1 rfl (Qc rfl (fun h72=>?_) (fun h72=>?_))
   ·refine gK 15 rfl ?_
    (rw [show Jy l=⟨1,mF l,mTo l,⟨0,0,0⟩,0⟩ by unfold Jy; rw [if_neg h22,if_pos h72]]; exact Qg rfl rfl rfl (.inr rfl))
   ·refine gK 7 rfl ?_
    (rw [show Jy l=⟨2,mF l,mTo l,⟨0,0,0⟩,mG l⟩ by unfold Jy; rw [if_neg h22,if_neg h72]]; exact Qg rfl rfl rfl (.inr rfl))
theorem odd_0 (m:Mv) (a b c:Int) (h:Xd a 8=0):XV m a b c={ m with kind:=nS b c }:=by
 unfold XV; rw [h]; rfl
theorem odd_1 (m:Mv) (a b c:Int) (h:Xd a 8=1):XV m a b c={ m with feed:=nS b c }:=by
 unfold XV; rw [h]; rfl
theorem odd_2 (m:Mv) (a b c:Int) (h:Xd a 8=2):XV m a b c={ m with fr:=⟨nS b c,m.fr.y,m.fr.z⟩ }:=by
 unfold XV; rw [h]; rfl
theorem odd_3 (m:Mv) (a b c:Int) (h:Xd a 8=3):XV m a b c={ m with to:=⟨m.to.x,nS b c,m.to.z⟩ }:=by
 unfold XV; rw [h]; rfl
theorem odd_4 (m:Mv) (a b c:Int) (h:Xd a 8=4):XV m a b c={ m with co:=⟨m.co.x,m.co.y,nS b c⟩ }:=by
 unfold XV; rw [h]; rfl
theorem odd_5 (m:Mv) (a b c:Int) (h:Xd a 8=5):XV m a b c={ m with to:=m.fr }:=by
 unfold XV; rw [h]; rfl
theorem odd_6 (m:Mv) (a b c:Int) (h:Xd a 8=6):XV m a b c={ m with kind:=1+Xd m.kind 3 }:=by
 unfold XV; rw [h]; rfl
theorem odd_7 (m:Mv) (a b c:Int) (h:Xd a 8=7):XV m a b c={ m with co:=⟨0,0,0⟩ }:=by
 unfold XV; rw [h]; rfl
def mc11:MC:=(sq [oN 2 (.box 34 11 0) [],oN 3 (.box 23 3 1) [],oN 4 (.alloc 34 11 (iz 11)) []] (dq [oN 6 (.ixarr 3 1 3 (cI 2)) [],oD 7 1 6 [0],oN 8 (.bslice 3 1 [(iv 0)] 9 [(0,7),(1,(cI 0)),(2,(cI 1)),(3,(cI 100)),(4,(cI 101)),(5,(cI (-1))),(6,(cI 24)),(7,(cI 25)),(8,(cI (-25)))]) [1],oN 9 (.ixarr 3 1 3 (cI 1)) [],oD 10 1 9 [3],oQ 11 7 [10,(cI 9)] [4],oX 12 1 8 11 [2,5],oD 13 1 12 [6],oM 5 13 (7::5::up 8)] (.seq (sq [oN 14 (.ixarr 3 1 3 (cI 0)) [],oD 15 1 14 [0],oQ 16 7 [15,(cI 8)] [1]] (.block 0 (sq [oB 18 .eql 16 (cI 0) [],oM 17 18 [0]] (.cond 17 (rg [oM 19 5 [],oA 20 0 2 [0],oS 1 20 19 [1,0,0]]) (sq [oB 22 .eql 16 (cI 1) [],oM 21 22 [0]] (.cond 21 (rg [oM 23 5 [],oA 24 10 2 [0],oS 1 24 23 [1,0,0]]) (sq [oB 26 .eql 16 (cI 2) [],oM 25 26 [0]] (.cond 25 (rg [oM 27 5 [],oA 28 1 2 [0],oA 29 0 28 [1,0],oS 1 29 27 [2,0,0]]) (sq [oB 31 .eql 16 (cI 3) [],oM 30 31 [0]] (.cond 30 (rg [oM 32 5 [],oA 33 4 2 [0],oA 34 1 33 [1,0],oS 1 34 32 [2,0,0]]) (sq [oB 36 .eql 16 (cI 4) [],oM 35 36 [0]] (.cond 35 (rg [oM 37 5 [],oA 38 7 2 [0],oA 39 2 38 [1,0],oS 1 39 37 [2,0,0]]) (sq [oB 41 .eql 16 (cI 5) [],oM 40 41 [0]] (.cond 40 (rg [oA 42 1 2 [],oL 43 3 42 [0],oA 44 4 2 [0,1],oS 3 44 43 [2,1,0,1]]) (sq [oB 46 .eql 16 (cI 6) [],oM 45 46 [0]] (.cond 45 (rg [oA 47 0 2 [],oD 48 1 47 [0],oQ 49 7 [48,(cI 3)] [1],oB 50 .add (cI 1) 49 [2],oA 51 0 2 (up 4),oS 1 51 50 [4,3,2,0,1,2,3]]) (sq [oB 53 .eql 16 (cI 7) [],oM 52 53 [0]] (.cond 52 (rg [oN 54 (.build (iz 3) []) [],oA 55 7 2 [0],oS 3 55 54 [1,0,0]]) .skip)))))))))))))))))) (sq [oL 56 11 2 [],oS 11 4 56 [0,0]] .ret))))
theorem mcOk11:(match Tryz.f6.body with | some c=>Qq Tryz.prog 57 c | none=>none)=some mc11:=by kernel_rfl
set_option maxRecDepth 100000 in
theorem fc11 (m:Mv) (a b c:Int):FC Tryz.prog 6 [aM m,.agg [iv a,iv b,iv c]] [] (aM (XV m a b c)) [] false:=by
 have hw:=QT b 9 (by omega)
 have hw8:=QT a 8 (by omega)
 have hw3:=QT m.kind 3 (by omega)
 refine Qh (nt:=57) Tryz.func6 rfl rfl mcOk11 (nL rfl) ?_
 delta mc11
 refine gA 8 rfl (Qx rfl rfl rfl (by decide) (by decide) (gR 1 rfl (XN rfl rfl rfl rfl rfl rfl (gR 0 rfl (Qx rfl rfl rfl (by decide) (by decide) (gR 1 rfl (cN rfl rfl (fc16 b 9 (by omega)) (gR 0 rfl (rs_ix_s rfl rfl rfl rfl hw.1 hw.2 (gR 0 rfl (rs_ld_p rfl rfl rfl (el:=ci (nS b c)) (n_at b c) rfl ?_)))))))))))
 refine gR 1 rfl (Xa (by kernel_rfl) (gP 3 rfl (Qx rfl rfl rfl (by decide) (by decide) (gR 1 rfl (cN rfl rfl (fc16 a 8 (by omega)) (gR 4 rfl (QS rfl rfl rfl (gR 2 rfl (Qc rfl (fun h17=>?_) (fun h17=>?_))))))))))
 ·refine gK 6 rfl (QC (F0:=[(2,.ptr 2 0 0),(4,.ptr 4 0 0)]) (H0:=[(2,.cells 34 11 [cM (XV m a b c)] true),(4,.cells 34 11 [cM ⟨0,⟨0,0,0⟩,⟨0,0,0⟩,⟨0,0,0⟩,0⟩] true)]) (Qf (Qk rfl rfl) (.keep ((by rw [odd_0 m a b c h17]; rfl)) rfl (kS rfl rfl)) (fun i h=>by cases h)) (gK 5 rfl ?_))
  exact rQ
 ·refine gK 2 rfl (QS rfl rfl rfl (gR 2 rfl (Qc rfl (fun h21=>?_) (fun h21=>?_))))
  ·refine gK 6 rfl (QC (F0:=[(2,.ptr 2 0 0),(4,.ptr 4 0 0)]) (H0:=[(2,.cells 34 11 [cM (XV m a b c)] true),(4,.cells 34 11 [cM ⟨0,⟨0,0,0⟩,⟨0,0,0⟩,⟨0,0,0⟩,0⟩] true)]) (Qf (Qk rfl rfl) (.keep ((by rw [odd_1 m a b c h21]; rfl)) rfl (kS rfl rfl)) (fun i h=>by cases h)) (gK 5 rfl ?_))
   exact rQ
  ·refine gK 2 rfl (QS rfl rfl rfl (gR 2 rfl (Qc rfl (fun h25=>?_) (fun h25=>?_))))
   ·refine gK 7 rfl (QC (F0:=[(2,.ptr 2 0 0),(4,.ptr 4 0 0)]) (H0:=[(2,.cells 34 11 [cM (XV m a b c)] true),(4,.cells 34 11 [cM ⟨0,⟨0,0,0⟩,⟨0,0,0⟩,⟨0,0,0⟩,0⟩] true)]) (Qf (Qk rfl rfl) (.keep ((by rw [odd_2 m a b c h25]; rfl)) rfl (kS rfl rfl)) (fun i h=>by cases h)) (gK 5 rfl ?_))
    exact rQ
   ·refine gK 2 rfl (QS rfl rfl rfl (gR 2 rfl (Qc rfl (fun h30=>?_) (fun h30=>?_))))
    ·refine gK 7 rfl (QC (F0:=[(2,.ptr 2 0 0),(4,.ptr 4 0 0)]) (H0:=[(2,.cells 34 11 [cM (XV m a b c)] true),(4,.cells 34 11 [cM ⟨0,⟨0,0,0⟩,⟨0,0,0⟩,⟨0,0,0⟩,0⟩] true)]) (Qf (Qk rfl rfl) (.keep ((by rw [odd_3 m a b c h30]; rfl)) rfl (kS rfl rfl)) (fun i h=>by cases h)) (gK 5 rfl ?_))
     exact rQ
    ·refine gK 2 rfl (QS rfl rfl rfl (gR 2 rfl (Qc rfl (fun h35=>?_) (fun h35=>?_))))
     ·refine gK 7 rfl (QC (F0:=[(2,.ptr 2 0 0),(4,.ptr 4 0 0)]) (H0:=[(2,.cells 34 11 [cM (XV m a b c)] true),(4,.cells 34 11 [cM ⟨0,⟨0,0,0⟩,⟨0,0,0⟩,⟨0,0,0⟩,0⟩] true)]) (Qf (Qk rfl rfl) (.keep ((by rw [odd_4 m a b c h35]; rfl)) rfl (kS rfl rfl)) (fun i h=>by cases h)) (gK 5 rfl ?_))
      exact rQ
     ·refine gK 2 rfl (QS rfl rfl rfl (gR 2 rfl (Qc rfl (fun h40=>?_) (fun h40=>?_))))
      ·refine gK 7 rfl (QC (F0:=[(2,.ptr 2 0 0),(4,.ptr 4 0 0)]) (H0:=[(2,.cells 34 11 [cM (XV m a b c)] true),(4,.cells 34 11 [cM ⟨0,⟨0,0,0⟩,⟨0,0,0⟩,⟨0,0,0⟩,0⟩] true)]) (Qf (Qk rfl rfl) (.keep ((by rw [odd_5 m a b c h40]; rfl)) rfl (kS rfl rfl)) (fun i h=>by cases h)) (gK 5 rfl ?_))
       exact rQ
      ·refine gK 2 rfl (QS rfl rfl rfl (gR 2 rfl (Qc rfl (fun h45=>?_) (fun h45=>?_))))
       ·refine gK 3 rfl (cN rfl rfl (fc16 m.kind 3 (by omega)) (gR 0 rfl (Qm rfl rfl rfl (by omega) (gR 4 rfl (QC (F0:=[(2,.ptr 2 0 0),(4,.ptr 4 0 0)]) (H0:=[(2,.cells 34 11 [cM (XV m a b c)] true),(4,.cells 34 11 [cM ⟨0,⟨0,0,0⟩,⟨0,0,0⟩,⟨0,0,0⟩,0⟩] true)]) (Qf (Qk rfl rfl) (.keep ((by rw [odd_6 m a b c h45]; rfl)) rfl (kS rfl rfl)) (fun i h=>by cases h)) (gK 5 rfl ?_))))))
        exact rQ
       ·refine gK 2 rfl (QZ rfl rfl rfl rfl (by omega) (gR 9 rfl (QC (F0:=[(2,.ptr 2 0 0),(4,.ptr 4 0 0)]) (H0:=[(2,.cells 34 11 [cM (XV m a b c)] true),(4,.cells 34 11 [cM ⟨0,⟨0,0,0⟩,⟨0,0,0⟩,⟨0,0,0⟩,0⟩] true)]) (Qf (Qk rfl rfl) (.keep ((by rw [odd_7 m a b c (by omega)]; rfl)) rfl (kS rfl rfl)) (fun i h=>by cases h)) (gK 5 rfl ?_))))
        exact rQ
end Go.Proofs.YthmbjgnjfjjibaaGreatDoor
namespace Go.Proofs.YthmbjgnjfjjibaaGreatDoor
open Go.RowKit
set_option maxRecDepth 100000
structure ArcF (m:Mv):Prop where
 a:dot (Qj (sA m)) (Qj (sA m))=1
 b:dot (Qj (sB m)) (Qj (sB m))=1
 g:gS (sA m)=gS (sB m)
 ab:dot (Qj (sA m)) (Qj (sB m))=0
 r1:1<=gS (sA m)
 r2:gS (sA m)<=48
end Go.Proofs.YthmbjgnjfjjibaaGreatDoor
namespace Go.Proofs.YthmbjgnjfjjibaaGreatDoor
open Go.RowKit
set_option maxRecDepth 100000
def pcL:Option V3->List Mv->Int
 | _,[]=>0
 | p,m::l=>if Qw m=0 then (match p with
  | some t=>if m.fr=t then pcL (some m.to) l else 7
  | none=>pcL (some m.to) l) else Qw m
def X8 (ms:List Mv):Int:=if ms.length>40 then 2 else pcL none ms
def pv (ms:List Mv) (k:Nat):Option V3:=if k=0 then none else (ms[k-1]?).map Mv.to
theorem pcL_cons (p:Option V3) (m:Mv) (l:List Mv):pcL p (m::l)=if Qw m=0 then (match p with
  | some t=>if m.fr=t then pcL (some m.to) l else 7
  | none=>pcL (some m.to) l) else Qw m:=by cases p <;> rfl
variable {ms:List Mv}
theorem pc_bad {k:Nat} {m:Mv} (h:ms[k]?=some m) (hc:¬ Qw m=0):pcL (pv ms k) (ms.drop k)=Qw m:=by
 rw [List.drop_eq_getElem_cons (List.getElem?_eq_some_iff.1 h).1,(List.getElem?_eq_some_iff.1 h).2,pcL_cons,if_neg hc]
theorem pc_first {k:Nat} {m:Mv} (h:ms[k]?=some m) (hc:Qw m=0) (hk:k=0):pcL (pv ms k) (ms.drop k)=pcL (pv ms (k+1)) (ms.drop (k+1)):=by
 rw [List.drop_eq_getElem_cons (List.getElem?_eq_some_iff.1 h).1,(List.getElem?_eq_some_iff.1 h).2,pcL_cons,if_pos hc]
 subst hk
 simp [pv,h]
theorem pc_next {k:Nat} {m q:Mv} (h:ms[k]?=some m) (hc:Qw m=0) (hk:k≠0) (hq:ms[k-1]?=some q):pcL (pv ms k) (ms.drop k)=if m.fr=q.to then pcL (pv ms (k+1)) (ms.drop (k+1)) else 7:=by
 rw [List.drop_eq_getElem_cons (List.getElem?_eq_some_iff.1 h).1,(List.getElem?_eq_some_iff.1 h).2,pcL_cons,if_pos hc]
 have e1:pv ms k=some q.to:=by simp [pv,hk,hq]
 have e2:pv ms (k+1)=some m.to:=by simp [pv,h]
 rw [e1,e2]
abbrev mvs (ms:List Mv):AV:=.rs 11 (ms.map cM)
def Xt (ms:List Mv):Int:=(ms.map Q9).sum
def QI (ms:List Mv):Int:=if X8 ms=0 then Xt ms else 0
theorem Xx (m:Mv):0<=Q9 m/\Q9 m<=48:=by
 unfold Q9
 have:=path_len m
 omega
theorem sumM_range (ms:List Mv):0<=Xt ms/\Xt ms<=48*ms.length:=by
 unfold Xt
 induction ms with
 | nil=>simp
 | cons m l ih =>
  have:=Xx m
  simp only [List.map_cons,List.sum_cons,List.length_cons]
  omega
theorem sumM_succ {k:Nat} {m:Mv} (h:ms[k]?=some m):Xt (ms.take (k+1))=Xt (ms.take k)+Q9 m:=by
 unfold Xt
 rw [take_succ_atM h]
 simp
theorem pchk_len (h:X8 ms=0):ms.length<=40:=by
 unfold X8 at h
 split at h <;> omega
def mcc36:MC:=(sq [oN 2 (.mv (cI 0)) []] (.seq (sq [oM 6 0 [],oE 7 6 [0],oB 8 .gtr 7 (cI 40) [1]] (.cond 8 (sq [oN 2 (.mv (cI 2)) []] .ret) .skip)) (.seq (sq [oM 9 0 [],oE 10 9 [0],oN 11 (.mv (cI 0)) []] (.block 0 (.loop (sq [oB 12 .lss 11 10 []] (.seq (.cond 12 .skip (.exit 0)) (.seq (.block 1 (sq [oM 13 11 [],oX 14 11 9 11 [],oL 15 11 14 [1],oN 4 (.alloc 34 11 (iz 11)) [],oM 3 13 (0::up 4),oS 11 4 15 (3::2::4::up 5)] (.seq (sq [oL 16 11 4 [],oQ 17 56 [16] [0],oM 5 17 [1,1,0,1]] (sq [oM 18 5 [],oB 19 .neq 18 (cI 0) [0]] (.cond 19 (sq [oM 20 5 [],oM 2 20 [0,0]] .ret) .skip))) (dq [oM 21 3 [],oB 22 .gtr 21 (cI 0) [0],oM 23 22 [1],pA 24 1 4 23 true [2],oG 25 (.ld true 3 24) 23 true [3,2],pM 26 0 23 true [2],pM 27 3 23 true [2],oG 28 (.bin .sub 27 (cI 1)) 23 true [6,2],oG 29 (.ixsl 11 26 28) 23 true [5,7,2],pA 30 4 29 23 true [8,2],oG 31 (.ld true 3 30) 23 true [9,2],oG 32 (.aeq true 3 25 31) 23 true [4,10,2],oN 33 (.pick 23 32 (.c (.bool false))) [2,11]] (.cond 33 (sq [oN 2 (.mv (cI 7)) []] .ret) .skip))))) (rg [oB 34 .add 11 (cI 1) [],oM 11 34 [0]]))))))) (sq [oN 2 (.mv (cI 0)) []] .ret))))
theorem mcOkc36:(match Tryz.f31.body with | some c=>Qq Tryz.prog 35 c | none=>none)=some mcc36:=by kernel_rfl
theorem gc36 (ms:List Mv) (hl:ms.length<=4611686018427387904):FC Tryz.prog 31 [mvs ms] [] (iv (X8 ms)) [] false:=by
 refine Qh (nt:=35) Tryz.func31 rfl rfl mcOkc36 (nL rfl) ?_
 delta mcc36
 refine gA 8 rfl (Q1 rfl rfl (gR 0 rfl (rs_gtr rfl rfl rfl (gR 1 rfl (Qc rfl (fun h8=>?_) (fun h8=>?_))))))
 ·refine gK 5 rfl ?_
  (have hx:X8 ms=2:=by unfold X8; rw [if_pos (by omega)]
   exact Qg rfl (congrArg iv hx.symm) rfl (.inr rfl))
 ·refine gK 5 rfl (Q1 rfl rfl (gR 3 rfl ?_))
  refine Xp (α:=Nat) [0,9,10] [] (fun k=>ms.length-k) (fun k=>[(11,iv (((k):Nat):Int))]) (fun k=>[]) (fun k=>(k)<=ms.length/\pcL (pv ms (k)) (ms.drop (k))=pcL none ms) 0 (⟨by omega,rfl⟩) rfl (wkS rfl) ?_
  rintro k ⟨hk,hp⟩
  refine gT 5 rfl (Qc rfl (fun h12=>?_) (fun h12=>?_))
  ·refine gK 6 rfl ?_
   obtain ⟨m,hm,_⟩:=Q8 (L:=ms) (k:=k) (by omega)
   refine QH rfl rfl rfl (by omega) hm (gR 9 rfl (cN rfl rfl (fc12 m) (gR 5 rfl (Jv rfl rfl rfl (gR 1 rfl (Qc rfl (fun h19=>?_) (fun h19=>?_)))))))
   ·replace h19:¬ Qw m=0:=h19
    refine gK 6 rfl ?_
    (have hx:X8 ms=Qw m:=by unfold X8; rw [if_neg (by omega),← hp,pc_bad hm h19]
     exact Qg rfl (congrArg iv hx.symm) rfl (.inr rfl))
   ·replace h19:Qw m=0:=by simpa using h19
    refine gK 4 rfl (Qz rfl rfl rfl rfl (fun h22=>?_) (fun h22=>?_))
    ·skip
     obtain ⟨q,hq,_⟩:=Q8 (L:=ms) (k:=k-1) (by omega)
     refine gR 5 rfl (JK rfl rfl rfl (by omega) (gR 0 rfl (QH (f:=cM) (y:=q) rfl rfl rfl (by omega) (by rw [show ((k:Int)-1).toNat=k-1 by omega]; exact hq) (gR 2 rfl (Jq (u:=m.fr) (v:=q.to) rfl rfl rfl ?_)))))
     cases h32:(true != decide (m.fr=q.to))
     ·skip
      refine gR 1 rfl (Xa (by kernel_rfl) (gP 3 rfl (Qm rfl rfl rfl (by omega) (gR 2 rfl ?_))))
      exact X9 <| ⟨k+1,⟨by omega,by rw [← hp,pc_next hm h19 (by omega) hq,if_pos (by simpa using h32)]⟩,by omega,wkS rfl⟩
     ·skip
      refine gR 1 rfl (Xa (by kernel_rfl) (gP 6 rfl ?_))
      (have hx:X8 ms=7:=by unfold X8; rw [if_neg (by omega),← hp,pc_next hm h19 (by omega) hq,if_neg (by simpa using h32)]
       exact Qg rfl (congrArg iv hx.symm) rfl (.inr rfl))
    ·skip
     refine gR 11 rfl (Xa (by kernel_rfl) (gP 3 rfl (Qm rfl rfl rfl (by omega) (gR 2 rfl ?_))))
     exact X9 <| ⟨k+1,⟨by omega,by rw [← hp,pc_first hm h19 (by omega)]⟩,by omega,wkS rfl⟩
  ·refine gK 6 rfl ?_
   (have hx:X8 ms=0:=by
     have hl:ms.length<=k:=by omega
     unfold X8; rw [if_neg (by omega),← hp,List.drop_eq_nil_of_le hl]; rfl
    exact Qg rfl (congrArg iv hx.symm) rfl (.inr rfl))
def mcc37:MC:=(sq [oN 2 (.mv (cI 0)) []] (.seq (sq [oM 5 0 [],oE 6 5 [0],oB 7 .gtr 6 (cI 40) [1]] (.cond 7 (sq [oN 2 (.mv (cI 2)) []] .ret) .skip)) (.seq (sq [oN 3 (.mv (cI 0)) []] (.block 0 (.loop (.seq (sq [oM 8 3 [],oM 9 0 [],oE 10 9 [1],oB 11 .lss 8 10 [0,2]] (.cond 11 .skip (.exit 0))) (.seq (.block 1 (sq [oM 14 0 [],oM 15 3 [],oX 16 11 14 15 [0,1],oL 17 11 16 [2],oQ 18 53 [17] [3],oM 4 18 (4::4::up 5)] (.seq (sq [oM 19 4 [],oB 20 .neq 19 (cI 0) [0]] (.cond 20 (sq [oM 21 4 [],oM 2 21 [0,0]] .ret) .skip)) (dq [oM 22 3 [],oB 23 .gtr 22 (cI 0) [0],oM 24 23 [1],pM 25 0 24 true [2],pM 26 3 24 true [2],oG 27 (.ixsl 11 25 26) 24 true [3,4,2],pA 28 1 27 24 true [5,2],oG 29 (.ld true 3 28) 24 true [6,2],pM 30 0 24 true [2],pM 31 3 24 true [2],oG 32 (.bin .sub 31 (cI 1)) 24 true [9,2],oG 33 (.ixsl 11 30 32) 24 true [8,10,2],pA 34 4 33 24 true [11,2],oG 35 (.ld true 3 34) 24 true [12,2],oG 36 (.aeq true 3 29 35) 24 true [7,13,2],oN 37 (.pick 24 36 (.c (.bool false))) [2,14]] (.cond 37 (sq [oN 2 (.mv (cI 7)) []] .ret) .skip))))) (rg [oM 12 3 [],oB 13 .add 12 (cI 1) [0],oM 3 13 [1,0,1]])))))) (sq [oN 2 (.mv (cI 0)) []] .ret))))
theorem mcOkc37:(match Tryz.f28.body with | some c=>Qq Tryz.prog 38 c | none=>none)=some mcc37:=by kernel_rfl
theorem gc37 (ms:List Mv) (hl:ms.length<=4611686018427387904):FC Tryz.prog 28 [mvs ms] [] (iv (X8 ms)) [] false:=by
 refine Qh (nt:=38) Tryz.func28 rfl rfl mcOkc37 (nL rfl) ?_
 delta mcc37
 refine gA 8 rfl (Q1 rfl rfl (gR 0 rfl (rs_gtr rfl rfl rfl (gR 1 rfl (Qc rfl (fun h7=>?_) (fun h7=>?_))))))
 ·refine gK 5 rfl ?_
  (have hx:X8 ms=2:=by unfold X8; rw [if_pos (by omega)]
   exact Qg rfl (congrArg iv hx.symm) rfl (.inr rfl))
 ·refine gK 7 rfl ?_
  refine Xp (α:=Nat) [0] [] (fun k=>ms.length-k) (fun k=>[(3,iv (((k):Nat):Int))]) (fun k=>[]) (fun k=>(k)<=ms.length/\pcL (pv ms (k)) (ms.drop (k))=pcL none ms) 0 (⟨by omega,rfl⟩) rfl (wkS rfl) ?_
  rintro k ⟨hk,hp⟩
  refine gT 5 rfl (Q1 rfl rfl (gR 2 rfl (Qc rfl (fun h11=>?_) (fun h11=>?_))))
  ·refine gK 7 rfl ?_
   obtain ⟨m,hm,_⟩:=Q8 (L:=ms) (k:=k) (by omega)
   refine QH rfl rfl rfl (by omega) hm (gR 1 rfl (cN rfl rfl (fc13c m) (gR 6 rfl (Jv rfl rfl rfl (gR 1 rfl (Qc rfl (fun h20=>?_) (fun h20=>?_)))))))
   ·replace h20:¬ Qw m=0:=h20
    refine gK 6 rfl ?_
    (have hx:X8 ms=Qw m:=by unfold X8; rw [if_neg (by omega),← hp,pc_bad hm h20]
     exact Qg rfl (congrArg iv hx.symm) rfl (.inr rfl))
   ·replace h20:Qw m=0:=by simpa using h20
    refine gK 4 rfl (Qz rfl rfl rfl rfl (fun h23=>?_) (fun h23=>?_))
    ·skip
     obtain ⟨q,hq,_⟩:=Q8 (L:=ms) (k:=k-1) (by omega)
     refine gR 3 rfl (QH rfl rfl rfl (by omega) hm (gR 4 rfl (JK rfl rfl rfl (by omega) (gR 0 rfl (QH (f:=cM) (y:=q) rfl rfl rfl (by omega) (by rw [show ((k:Int)-1).toNat=k-1 by omega]; exact hq) (gR 2 rfl (Jq (u:=m.fr) (v:=q.to) rfl rfl rfl ?_)))))))
     cases h36:(true != decide (m.fr=q.to))
     ·skip
      refine gR 1 rfl (Xa (by kernel_rfl) (gP 4 rfl (Qm rfl rfl rfl (by omega) (gR 2 rfl ?_))))
      exact X9 <| ⟨k+1,⟨by omega,by rw [← hp,pc_next hm h20 (by omega) hq,if_pos (by simpa using h36)]⟩,by omega,wkS rfl⟩
     ·skip
      refine gR 1 rfl (Xa (by kernel_rfl) (gP 6 rfl ?_))
      (have hx:X8 ms=7:=by unfold X8; rw [if_neg (by omega),← hp,pc_next hm h20 (by omega) hq,if_neg (by simpa using h36)]
       exact Qg rfl (congrArg iv hx.symm) rfl (.inr rfl))
    ·skip
     refine gR 14 rfl (Xa (by kernel_rfl) (gP 4 rfl (Qm rfl rfl rfl (by omega) (gR 2 rfl ?_))))
     exact X9 <| ⟨k+1,⟨by omega,by rw [← hp,pc_first hm h20 (by omega)]⟩,by omega,wkS rfl⟩
  ·refine gK 6 rfl ?_
   (have hx:X8 ms=0:=by
     have hl:ms.length<=k:=by omega
     unfold X8; rw [if_neg (by omega),← hp,List.drop_eq_nil_of_le hl]; rfl
    exact Qg rfl (congrArg iv hx.symm) rfl (.inr rfl))
def mcc28:MC:=(sq [oN 2 (.mv (cI 0)) []] (.seq (sq [oM 6 0 [],oQ 7 31 [6] [0],oB 8 .neq 7 (cI 0) [1]] (.cond 8 (sq [oN 2 (.mv (cI 0)) []] .ret) .skip)) (sq [oN 3 (.mv (cI 0)) []] (.seq (sq [oM 9 0 [],oE 10 9 [0],oN 11 (.mv (cI 0)) []] (.block 0 (.loop (sq [oB 12 .lss 11 10 []] (.seq (.cond 12 .skip (.exit 0)) (.seq (.block 1 (sq [oX 13 11 9 11 [],oL 14 11 13 [0],oN 5 (.alloc 34 11 (iz 11)) [],oS 11 5 14 [2,1,0,1,2]] (rg [oM 15 3 [],oL 16 11 5 [],oQ 17 32 [16] [1],oB 18 .add 15 17 [0,2],oM 3 18 (3::2::up 4)]))) (rg [oB 19 .add 11 (cI 1) [],oM 11 19 [0]]))))))) (sq [oM 20 3 [],oM 2 20 [0,0]] .ret)))))
theorem mcOkc28:(match Tryz.f76.body with | some c=>Qq Tryz.prog 21 c | none=>none)=some mcc28:=by kernel_rfl
theorem gc28 (ms:List Mv) (hl:ms.length<=4611686018427387904):FC Tryz.prog 76 [mvs ms] [] (iv (QI ms)) [] false:=by
 refine Qh (nt:=21) Tryz.func76 rfl rfl mcOkc28 (nL rfl) ?_
 delta mcc28
 refine gA 8 rfl (cN rfl rfl (gc36 ms hl) (gR 0 rfl (Jv rfl rfl rfl (gR 1 rfl (Qc rfl (fun h8=>?_) (fun h8=>?_))))))
 ·replace h8:¬ X8 ms=0:=h8
  refine gK 5 rfl ?_
  (have hx:QI ms=0:=by unfold QI; rw [if_neg h8]
   exact Qg rfl (congrArg iv hx.symm) rfl (.inr rfl))
 ·replace h8:X8 ms=0:=by simpa using h8
  refine gK 9 rfl (Q1 rfl rfl (gR 3 rfl ?_))
  refine Xv (α:=Nat) (fun k=>ms.length-k) (fun k=>[(3,iv (Xt (ms.take (k)))),(9,mvs ms),(10,iv (ms.length:Int)),(11,iv (((k):Nat):Int))]) (fun k=>[]) (fun k=>k<=ms.length) 0 (by omega)
   (wkS rfl) ?_
  intro k hk
  refine gT 5 rfl (Qc rfl (fun h12=>?_) (fun h12=>?_))
  ·refine gK 5 rfl ?_
   obtain ⟨m,hm,_⟩:=Q8 (L:=ms) (k:=k) (by omega)
   have hb1:=sumM_range (ms.take k)
   have hb2:=Xx m
   have hb3:=pchk_len h8
   have hb4:(ms.take k).length<=40:=by simp; omega
   refine QH rfl rfl rfl (by omega) hm (gR 7 rfl (cN rfl rfl (fc14 m) (gR 0 rfl (Qm rfl rfl rfl (by omega) (gR 3 rfl (Qm rfl rfl rfl (by omega) (gR 2 rfl ?_)))))))
   exact X9 <| ⟨k+1,by omega,by omega,Qf (.cons rfl (rc_int (sumM_succ hm).symm) (Qk rfl rfl)) (.nil) (fun i h=>by cases h)⟩
  ·refine gK 7 rfl ?_
   (have hx:QI ms=Xt (ms.take k):=by
     have hl:ms.length<=k:=by omega
     unfold QI; rw [if_pos h8,List.take_of_length_le hl]
    exact Qg rfl (congrArg iv hx.symm) rfl (.inr rfl))
def mcc38:MC:=(sq [oN 2 (.mv (cI 0)) []] (.seq (sq [oM 5 0 [],oQ 6 28 [5] [0],oB 7 .neq 6 (cI 0) [1]] (.cond 7 (sq [oN 2 (.mv (cI 0)) []] .ret) .skip)) (sq [oN 3 (.mv (cI 0)) []] (.seq (sq [oN 4 (.mv (cI 0)) []] (.block 0 (.loop (.seq (sq [oM 8 4 [],oM 9 0 [],oE 10 9 [1],oB 11 .lss 8 10 [0,2]] (.cond 11 .skip (.exit 0))) (.seq (.block 1 (rg [oM 14 3 [],oM 15 0 [],oM 16 4 [],oX 17 11 15 16 [1,2],oL 18 11 17 [3],oQ 19 30 [18] [4],oB 20 .add 14 19 [0,5],oM 3 20 (6::5::up 7)])) (rg [oM 12 4 [],oB 13 .add 12 (cI 1) [0],oM 4 13 [1,0,1]])))))) (sq [oM 21 3 [],oM 2 21 [0,0]] .ret)))))
theorem mcOkc38:(match Tryz.f11.body with | some c=>Qq Tryz.prog 22 c | none=>none)=some mcc38:=by kernel_rfl
theorem gc38 (ms:List Mv) (hl:ms.length<=4611686018427387904):FC Tryz.prog 11 [mvs ms] [] (iv (QI ms)) [] false:=by
 refine Qh (nt:=22) Tryz.func11 rfl rfl mcOkc38 (nL rfl) ?_
 delta mcc38
 refine gA 8 rfl (cN rfl rfl (gc37 ms hl) (gR 0 rfl (Jv rfl rfl rfl (gR 1 rfl (Qc rfl (fun h7=>?_) (fun h7=>?_))))))
 ·replace h7:¬ X8 ms=0:=h7
  refine gK 5 rfl ?_
  (have hx:QI ms=0:=by unfold QI; rw [if_neg h7]
   exact Qg rfl (congrArg iv hx.symm) rfl (.inr rfl))
 ·replace h7:X8 ms=0:=by simpa using h7
  refine gK 11 rfl ?_
  refine Xv (α:=Nat) (fun k=>ms.length-k) (fun k=>[(0,mvs ms),(3,iv (Xt (ms.take (k)))),(4,iv (((k):Nat):Int))]) (fun k=>[]) (fun k=>k<=ms.length) 0 (by omega)
   (wkS rfl) ?_
  intro k hk
  refine gT 5 rfl (Q1 rfl rfl (gR 2 rfl (Qc rfl (fun h11=>?_) (fun h11=>?_))))
  ·refine gK 7 rfl ?_
   obtain ⟨m,hm,_⟩:=Q8 (L:=ms) (k:=k) (by omega)
   have hb1:=sumM_range (ms.take k)
   have hb2:=Xx m
   have hb3:=pchk_len h7
   have hb4:(ms.take k).length<=40:=by simp; omega
   refine QH rfl rfl rfl (by omega) hm (gR 1 rfl (cN rfl rfl (fc15 m) (gR 0 rfl (Qm rfl rfl rfl (by omega) (gR 4 rfl (Qm rfl rfl rfl (by omega) (gR 2 rfl ?_)))))))
   exact X9 <| ⟨k+1,by omega,by omega,Qf (.cs (.cons rfl (rc_int (sumM_succ hm).symm) (.cs (.nil)))) (.nil) (fun i h=>by cases h)⟩
  ·refine gK 7 rfl ?_
   (have hx:QI ms=Xt (ms.take k):=by
     have hl:ms.length<=k:=by omega
     unfold QI; rw [if_pos h7,List.take_of_length_le hl]
    exact Qg rfl (congrArg iv hx.symm) rfl (.inr rfl))
end Go.Proofs.YthmbjgnjfjjibaaGreatDoor
namespace Go.Proofs.YthmbjgnjfjjibaaGreatDoor
open Go.RowKit
set_option maxRecDepth 100000
structure newB (ms:List Mv) (n:Int):Prop where
 l:¬ (ms.length:Int)=0
 c:X8 ms=0
 n1:1<=n
 n2:n<=100
abbrev lineT:Mv:=⟨2,⟨0,0,0⟩,⟨10,0,0⟩,⟨0,0,0⟩,1⟩
abbrev cL (l:List Int):List AV:=[ints l]
def mvB (m:Mv) (a:V3):Mv :=
 if m.kind=3 then ⟨m.kind,a,addW m.to (subW a m.fr),addW m.co (subW a m.fr),m.feed⟩
 else ⟨m.kind,a,addW m.to (subW a m.fr),m.co,m.feed⟩
theorem mvB_3 {m:Mv} {a:V3} (h:m.kind=3):mvB m a=⟨m.kind,a,addW m.to (subW a m.fr),addW m.co (subW a m.fr),m.feed⟩:=if_pos h
theorem mvB_n {m:Mv} {a:V3} (h:¬ m.kind=3):mvB m a=⟨m.kind,a,addW m.to (subW a m.fr),m.co,m.feed⟩:=if_neg h
def mvC (m:Mv) (a:V3):Mv:=if Qw (mvB m a)=0 then mvB m a else ⟨1,a,⟨-a.y,1+a.x.tdiv 2,0⟩,⟨0,0,0⟩,0⟩
theorem mvC_ok {m:Mv} {a:V3} (h:Qw (mvB m a)=0):mvC m a=mvB m a:=if_pos h
theorem mvC_bad {m:Mv} {a:V3} (h:¬ Qw (mvB m a)=0):mvC m a=⟨1,a,⟨-a.y,1+a.x.tdiv 2,0⟩,⟨0,0,0⟩,0⟩:=if_neg h
theorem mvC_fr (m:Mv) (a:V3):(mvC m a).fr=a:=by
 unfold mvC mvB
 split <;> (try split) <;> rfl
def Jx (ls:List (List Int)):Nat->List Mv×V3
 | 0=>([],⟨0,0,0⟩)
 | k+1=>match ls[k]? with
  | none=>Jx ls k
  | some L=>if Qw (mvC (Jy L) (Jx ls k).2)=0 then ((Jx ls k).1++[mvC (Jy L) (Jx ls k).2],(mvC (Jy L) (Jx ls k).2).to) else Jx ls k
variable {ls:List (List Int)} {L:List Int}
theorem mvSt_y {k:Nat} (h:ls[k]?=some L) (hc:Qw (mvC (Jy L) (Jx ls k).2)=0):Jx ls (k+1)=((Jx ls k).1++[mvC (Jy L) (Jx ls k).2],(mvC (Jy L) (Jx ls k).2).to):=by
 rw [Jx,h]; exact if_pos hc
theorem mvSt_n {k:Nat} (h:ls[k]?=some L) (hc:¬ Qw (mvC (Jy L) (Jx ls k).2)=0):Jx ls (k+1)=Jx ls k:=by
 rw [Jx,h]; exact if_neg hc
theorem mvSt_bd (ls:List (List Int)):∀ k,Bd 24 (Jx ls k).2
 | 0=>(⟨by decide,by decide,by decide⟩:Bd 24 ⟨0,0,0⟩)
 | k+1=>by
  cases h:ls[k]? with
  | none=>rw [Jx,h]; exact mvSt_bd ls k
  | some L =>
   by_cases hc:Qw (mvC (Jy L) (Jx ls k).2)=0
   ·rw [mvSt_y h hc]; exact (ck_in hc).to
   ·rw [mvSt_n h hc]; exact mvSt_bd ls k
theorem mvSt_len (ls:List (List Int)):∀ k,(Jx ls k).1.length<=k
 | 0=>Nat.le_refl _
 | k+1=>by
  have ih:=mvSt_len ls k
  cases h:ls[k]? with
  | none=>rw [Jx,h]; dsimp only; omega
  | some L =>
   by_cases hc:Qw (mvC (Jy L) (Jx ls k).2)=0
   ·rw [mvSt_y h hc]; simp; omega
   ·rw [mvSt_n h hc]; omega
def endV:Option V3->List Mv->Option V3
 | p,[]=>p
 | _,m::l=>endV (some m.to) l
theorem pcL_app:∀ (l:List Mv) (p:Option V3) (m:Mv),pcL p l=0->Qw m=0->(∀ t,endV p l=some t->m.fr=t)->pcL p (l++[m])=0/\endV p (l++[m])=some m.to
 | [],p,m,_,hc,he=>by
  refine ⟨?_,rfl⟩
  rw [List.nil_append,pcL_cons,if_pos hc]
  cases p with
  | none=>rfl
  | some t=>exact if_pos (he t rfl)
 | q::l,p,m,h,hc,he=>by
  rw [pcL_cons] at h
  rw [List.cons_append,pcL_cons]
  split at h
  ·rename_i hq
   rw [if_pos hq]
   cases p with
   | none=>exact pcL_app l _ m h hc he
   | some t =>
    dsimp only at h ⊢
    split at h
    ·rename_i hqt; rw [if_pos hqt]; exact pcL_app l _ m h hc he
    ·cases h
  ·rename_i hq; exact absurd h hq
theorem pcL_take:∀ (l:List Mv) (p:Option V3) (j:Nat),pcL p l=0->pcL p (l.take j)=0
 | [],p,j,_=>by simp [pcL]
 | q::l,p,0,_=>by cases p <;> rfl
 | q::l,p,j+1,h=>by
  rw [List.take_succ_cons,pcL_cons]
  rw [pcL_cons] at h
  split at h
  ·rename_i hq
   rw [if_pos hq]
   cases p with
   | none=>exact pcL_take l _ j h
   | some t =>
    dsimp only at h ⊢
    split at h
    ·rename_i hqt; rw [if_pos hqt]; exact pcL_take l _ j h
    ·cases h
  ·rename_i hq; exact absurd h hq
theorem mvSt_ok (ls:List (List Int)):∀ k,pcL none (Jx ls k).1=0/\∀ t,endV none (Jx ls k).1=some t->(Jx ls k).2=t
 | 0=>⟨rfl,fun t h=>by cases h⟩
 | k+1=>by
  have ih:=mvSt_ok ls k
  cases h:ls[k]? with
  | none=>rw [Jx,h]; exact ih
  | some L =>
   by_cases hc:Qw (mvC (Jy L) (Jx ls k).2)=0
   ·rw [mvSt_y h hc]
    have:=pcL_app (Jx ls k).1 none _ ih.1 hc (fun t ht=>by rw [mvC_fr]; exact ih.2 t ht)
    exact ⟨this.1,fun t ht=>by dsimp only at ht ⊢; rw [this.2] at ht; exact Option.some.inj ht⟩
   ·rw [mvSt_n h hc]; exact ih
theorem tdiv2 {x:Int} (h : -1000<=x/\x<=1000) : -1000<=x.tdiv 2/\x.tdiv 2<=1000:=by
 rcases Int.le_total 0 x with h0 | h0
 ·rw [Int.tdiv_eq_ediv_of_nonneg h0]; omega
 ·have:x = -(-x):=by omega
  rw [this,Int.neg_tdiv,Int.tdiv_eq_ediv_of_nonneg (by omega)]; omega
def movS (ls:List (List Int)):List Mv:=(Jx ls (min ls.length 6)).1
def mcc53:MC:=(sq [oN 3 (.box 32 3 1) [],oN 4 (.mv (.c .nils)) []] (sq [oN 5 (.mv (.c .nils)) []] (sq [oL 10 3 3 [],oN 6 (.alloc 32 3 (iz 3)) [],oS 3 6 10 [1,0,0,1]] (.seq (sq [oN 7 (.mv (cI 0)) []] (.block 0 (.loop (.seq (sq [oM 11 7 [],oM 12 0 [],oE 13 12 [1],oB 14 .lss 11 13 [0,2],oM 15 14 [3],pM 16 7 15 true [4],oG 17 (.bin .lss 16 (cI 6)) 15 true [5,4],oN 18 (.pick 15 17 (.c (.bool false))) [4,6]] (.cond 18 .skip (.exit 0))) (.seq (.block 1 (sq [oM 21 0 [],oM 22 7 [],oX 23 1 21 22 [0,1],oD 24 1 23 [2],oQ 25 50 [24] [3],oN 8 (.alloc 34 11 (iz 11)) [],oS 11 8 25 (5::4::4::up 6)] (sq [oL 26 3 6 [],oA 27 1 8 [],oL 28 3 27 [1],oQ 29 51 [26,28] [0,2],oN 9 (.alloc 32 3 (iz 3)) [],oS 3 9 29 (4::3::3::up 5)] (sq [oL 30 3 6 [],oA 31 1 8 [0],oS 3 31 30 [1,0,0]] (sq [oA 32 4 8 [],oL 33 3 32 [0],oL 34 3 9 [],oQ 35 52 [33,34] [1,2],oA 36 4 8 (up 4),oS 3 36 35 [4,3,3,0,1,2,3]] (.seq (sq [oA 37 0 8 [],oD 38 1 37 [0],oB 39 .eql 38 (cI 3) [1]] (.cond 39 (rg [oA 40 7 8 [],oL 41 3 40 [0],oL 42 3 9 [],oQ 43 52 [41,42] [1,2],oA 44 7 8 (up 4),oS 3 44 43 [4,3,3,0,1,2,3]]) .skip)) (.seq (sq [oL 45 11 8 [],oQ 46 53 [45] [0],oB 47 .neq 46 (cI 0) [1]] (.cond 47 (rg [oL 48 3 6 [],oA 49 1 6 [],oD 50 1 49 [1],oN 51 (.un .neg 50) [2],oA 52 0 6 [],oD 53 1 52 [4],oB 54 .quo 53 (cI 2) [5],oB 55 .add (cI 1) 54 [6],oN 56 (.build (iz 3) [(0,1,51),(1,1,55)]) [3,7],oN 57 (.build (iz 11) [(0,1,(cI 1)),(1,3,48),(4,3,56)]) [0,8],oS 11 8 57 (9::up 10)]) .skip)) (sq [oL 58 11 8 [],oQ 59 53 [58] [0],oB 60 .eql 59 (cI 0) [1]] (.cond 60 (sq [oM 61 5 [],oL 62 11 8 [],oN 63 (.bslice 34 11 (iz 11) 1 [(0,62)]) [1],oN 64 (.app 34 11 88 (iz 11) 61 63) [0,2],oM 5 64 (3::3::up 4)] (rg [oA 65 4 8 [],oL 66 3 65 [0],oS 3 6 66 [1,0,1]])) .skip))))))))) (rg [oM 19 7 [],oB 20 .add 19 (cI 1) [0],oM 7 20 [1,0,1]])))))) (sq [oM 67 5 [],oM 4 67 [0,0]] .ret)))))
theorem mcOkc53:(match Tryz.f25.body with | some c=>Qq Tryz.prog 68 c | none=>none)=some mcc53:=by kernel_rfl
set_option maxHeartbeats 1000000 in
theorem gc53 (ls:List (List Int)) (hls:∀ L∈ls,L.length<=4611686018427387904) (hl:ls.length<=4611686018427387904):FC Tryz.prog 25 [.rs 1 (ls.map cL),.agg [iv 0,iv 0,iv 0]] [] (mvs (movS ls)) [] false:=by
 refine Qh (nt:=68) Tryz.func25 rfl rfl mcOkc53 (nL rfl) ?_
 delta mcc53
 refine gA 21 rfl ?_
 refine Xv (α:=Nat) (fun k=>ls.length+1-k) (fun k=>[(0,.rs 1 (ls.map cL)),(5,.sl 1005 0 (Jx ls (k)).1.length),(6,.ptr 6 0 0),(7,iv (((k):Nat):Int))]) (fun k=>[(1005,.cells 34 11 ((Jx ls (k)).1.map cM) true),(6,.cells 32 3 [cV (Jx ls (k)).2] true)]) (fun k=>k<=ls.length/\k<=6) 0 (⟨by omega,by omega⟩)
  (Qf (.cs (.cons rfl (rc_virt rfl rfl) (.cs (.cs (.nil))))) (.virt rfl (kS rfl rfl)) (fun i h=>by cases h)) ?_
 rintro k ⟨hk,hk6⟩
 have hb:=mvSt_bd ls k
 have hln:=mvSt_len ls k
 try dsimp only
 generalize hst:Jx ls k=st at hb hln ⊢
 obtain ⟨o,a⟩:=st
 dsimp only at hb hln
 have hbx:=hb.x
 have hby:=hb.y
 have ht2:=tdiv2 (x:=a.x) (by omega)
 refine gT 5 rfl (Q1 rfl rfl (gR 0 rfl (Qz rfl rfl rfl rfl (fun h14=>?_) (fun h14=>?_))))
 ·skip
  refine gR 2 rfl (Qz rfl rfl rfl rfl (fun h17=>?_) (fun h17=>?_))
  ·skip
   refine gR 10 rfl ?_
   obtain ⟨L,hL,hLm⟩:=Q8 (L:=ls) (k:=k) (by omega)
   have h10:=fc10 L (hls L hLm)
   generalize hm:Jy L=m at h10
   refine QH (f:=cL) (y:=L) rfl rfl rfl (by omega) hL (gR 1 rfl (cN rfl rfl (h10) (gR 8 rfl (cN rfl rfl (fc50 a m.fr) (gR 14 rfl (cN rfl rfl (fc57 m.to (subW a m.fr)) (gR 5 rfl (QC (F0:=[(0,.rs 1 (ls.map cL)),(5,.sl 1005 0 o.length),(6,.ptr 6 0 0),(7,iv (((k):Nat):Int)),(8,.ptr 8 0 0),(9,.ptr 9 0 0)]) (H0:=[(1005,.cells 34 11 (o.map cM) true),(6,.cells 32 3 [cV a] true),(8,.cells 34 11 [cM ⟨m.kind,a,addW m.to (subW a m.fr),m.co,m.feed⟩] true),(9,.cells 32 3 [cV (subW a m.fr)] true)]) (wkS rfl) (gK 3 rfl (QS rfl rfl rfl (gR 1 rfl ?_)))))))))))
   refine Qc rfl (fun h39=>?_) (fun h39=>?_)
   ·replace h39:m.kind=3:=h39
    refine gK 4 rfl (cN rfl rfl (fc57 m.co (subW a m.fr)) (gR 5 rfl (QC (F0:=[(0,.rs 1 (ls.map cL)),(5,.sl 1005 0 o.length),(6,.ptr 6 0 0),(7,iv (((k):Nat):Int)),(8,.ptr 8 0 0)]) (H0:=[(1005,.cells 34 11 (o.map cM) true),(6,.cells 32 3 [cV a] true),(8,.cells 34 11 [cM (mvB m a)] true)]) (Qf (Qk rfl rfl) (.keep (rfl) rfl (.keep (rfl) rfl (.keep ((by first | (rw [mvB_3 (a:=a) h39]; rfl) | (rw [mvB_n (a:=a) h39]; rfl))) rfl (.nil)))) (fun i h=>by cases h)) (gK 2 rfl (cN rfl rfl (fc13c (mvB m a)) (gR 0 rfl (Jv rfl rfl rfl (gR 1 rfl (Qc rfl (fun h47=>?_) (fun h47=>?_))))))))))
    ·replace h47:¬ Qw (mvB m a)=0:=h47
     refine gK 4 rfl (rs_neg rfl rfl (by omega) (gR 2 rfl (XC rfl rfl rfl (by decide) (Xe (by omega)) (gR 0 rfl (Qm rfl rfl rfl (by omega) (gR 5 rfl (QC (F0:=[(0,.rs 1 (ls.map cL)),(5,.sl 1005 0 o.length),(6,.ptr 6 0 0),(7,iv (((k):Nat):Int)),(8,.ptr 8 0 0)]) (H0:=[(1005,.cells 34 11 (o.map cM) true),(6,.cells 32 3 [cV a] true),(8,.cells 34 11 [cM (mvC m a)] true)]) (Qf (Qk rfl rfl) (.keep (rfl) rfl (.keep (rfl) rfl (.keep ((by first | (rw [mvC_bad (a:=a) h47]; rfl) | (rw [mvC_ok (a:=a) h47]; rfl))) rfl (.nil)))) (fun i h=>by cases h)) (gK 2 rfl (cN rfl rfl (fc13c (mvC m a)) (gR 0 rfl (QS rfl rfl rfl ?_)))))))))))
     refine gR 1 rfl (Qc rfl (fun h60=>?_) (fun h60=>?_))
     ·refine gK 4 rfl (bT (l:=[mvC m a].flatMap cM) (els:=[mvC m a].map cM) (by kernel_rfl) (gR 0 rfl (apM cM (y:=mvC m a) rfl (by omega) rfl (gR 9 rfl (Qm rfl rfl rfl (by omega) (gR 2 rfl ?_))))))
      (have hs:=mvSt_y hL (by rw [hst,hm]; exact h60)
       rw [hst,hm] at hs
       dsimp only at hs
       refine ⟨k+1,⟨by omega,by omega⟩,by omega,?_⟩
       rw [hs]
       exact XR (i:=64) (i':=1005) (F1:=[(0,.rs 1 (ls.map cL)),(5,.sl 64 0 (o++[mvC m a]).length),(6,.ptr 6 0 0),(7,iv (((k+1):Nat):Int))]) (H1:=[(64,.cells 34 11 ((o++[mvC m a]).map cM) true),(6,.cells 32 3 [cV (mvC m a).to] true)]) (.cs (.cons rfl (rc_eq (by rw [List.length_append]; rfl) rfl) (.cs (.cs (.nil))))) (kS rfl rfl) (fun i h=>by cases h) rfl rfl (.cons rfl (.same _) (.cons rfl (.sl _ _) (.cons rfl (.same _) (.cons rfl (.same _) (.nil))))) (Qk rfl rfl) (kS rfl rfl) (fun i h=>by cases h))
     ·refine gK 3 rfl (Qm rfl rfl rfl (by omega) (gR 2 rfl ?_))
      (have hs:=mvSt_n hL (by rw [hst,hm]; exact h60)
       rw [hst] at hs
       refine ⟨k+1,⟨by omega,by omega⟩,by omega,?_⟩
       rw [hs]
       exact wkS rfl)
    ·replace h47:Qw (mvB m a)=0:=by simpa using h47
     refine gK 2 rfl (QC (F0:=[(0,.rs 1 (ls.map cL)),(5,.sl 1005 0 o.length),(6,.ptr 6 0 0),(7,iv (((k):Nat):Int)),(8,.ptr 8 0 0)]) (H0:=[(1005,.cells 34 11 (o.map cM) true),(6,.cells 32 3 [cV a] true),(8,.cells 34 11 [cM (mvC m a)] true)]) (Qf (Qk rfl rfl) (.keep (rfl) rfl (.keep (rfl) rfl (.keep ((by first | (rw [mvC_bad (a:=a) h47]; rfl) | (rw [mvC_ok (a:=a) h47]; rfl))) rfl (.nil)))) (fun i h=>by cases h)) (gK 2 rfl (cN rfl rfl (fc13c (mvC m a)) (gR 0 rfl (QS rfl rfl rfl (gR 1 rfl (Qc rfl (fun h60=>?_) (fun h60=>?_))))))))
     ·refine gK 4 rfl (bT (l:=[mvC m a].flatMap cM) (els:=[mvC m a].map cM) (by kernel_rfl) (gR 0 rfl (apM cM (y:=mvC m a) rfl (by omega) rfl (gR 9 rfl (Qm rfl rfl rfl (by omega) (gR 2 rfl ?_))))))
      (have hs:=mvSt_y hL (by rw [hst,hm]; exact h60)
       rw [hst,hm] at hs
       dsimp only at hs
       refine ⟨k+1,⟨by omega,by omega⟩,by omega,?_⟩
       rw [hs]
       exact XR (i:=64) (i':=1005) (F1:=[(0,.rs 1 (ls.map cL)),(5,.sl 64 0 (o++[mvC m a]).length),(6,.ptr 6 0 0),(7,iv (((k+1):Nat):Int))]) (H1:=[(64,.cells 34 11 ((o++[mvC m a]).map cM) true),(6,.cells 32 3 [cV (mvC m a).to] true)]) (.cs (.cons rfl (rc_eq (by rw [List.length_append]; rfl) rfl) (.cs (.cs (.nil))))) (kS rfl rfl) (fun i h=>by cases h) rfl rfl (.cons rfl (.same _) (.cons rfl (.sl _ _) (.cons rfl (.same _) (.cons rfl (.same _) (.nil))))) (Qk rfl rfl) (kS rfl rfl) (fun i h=>by cases h))
     ·refine gK 3 rfl (Qm rfl rfl rfl (by omega) (gR 2 rfl ?_))
      (have hs:=mvSt_n hL (by rw [hst,hm]; exact h60)
       rw [hst] at hs
       refine ⟨k+1,⟨by omega,by omega⟩,by omega,?_⟩
       rw [hs]
       exact wkS rfl)
   ·replace h39:¬ m.kind=3:=h39
    refine gK 3 rfl (QC (F0:=[(0,.rs 1 (ls.map cL)),(5,.sl 1005 0 o.length),(6,.ptr 6 0 0),(7,iv (((k):Nat):Int)),(8,.ptr 8 0 0)]) (H0:=[(1005,.cells 34 11 (o.map cM) true),(6,.cells 32 3 [cV a] true),(8,.cells 34 11 [cM (mvB m a)] true)]) (Qf (Qk rfl rfl) (.keep (rfl) rfl (.keep (rfl) rfl (.keep ((by first | (rw [mvB_3 (a:=a) h39]; rfl) | (rw [mvB_n (a:=a) h39]; rfl))) rfl (.nil)))) (fun i h=>by cases h)) (gK 2 rfl (cN rfl rfl (fc13c (mvB m a)) (gR 0 rfl (Jv rfl rfl rfl (gR 1 rfl (Qc rfl (fun h47=>?_) (fun h47=>?_))))))))
    ·replace h47:¬ Qw (mvB m a)=0:=h47
     refine gK 4 rfl (rs_neg rfl rfl (by omega) (gR 2 rfl (XC rfl rfl rfl (by decide) (Xe (by omega)) (gR 0 rfl (Qm rfl rfl rfl (by omega) (gR 5 rfl (QC (F0:=[(0,.rs 1 (ls.map cL)),(5,.sl 1005 0 o.length),(6,.ptr 6 0 0),(7,iv (((k):Nat):Int)),(8,.ptr 8 0 0)]) (H0:=[(1005,.cells 34 11 (o.map cM) true),(6,.cells 32 3 [cV a] true),(8,.cells 34 11 [cM (mvC m a)] true)]) (Qf (Qk rfl rfl) (.keep (rfl) rfl (.keep (rfl) rfl (.keep ((by first | (rw [mvC_bad (a:=a) h47]; rfl) | (rw [mvC_ok (a:=a) h47]; rfl))) rfl (.nil)))) (fun i h=>by cases h)) (gK 2 rfl (cN rfl rfl (fc13c (mvC m a)) (gR 0 rfl (QS rfl rfl rfl ?_)))))))))))
     refine gR 1 rfl (Qc rfl (fun h60=>?_) (fun h60=>?_))
     ·refine gK 4 rfl (bT (l:=[mvC m a].flatMap cM) (els:=[mvC m a].map cM) (by kernel_rfl) (gR 0 rfl (apM cM (y:=mvC m a) rfl (by omega) rfl (gR 9 rfl (Qm rfl rfl rfl (by omega) (gR 2 rfl ?_))))))
      (have hs:=mvSt_y hL (by rw [hst,hm]; exact h60)
       rw [hst,hm] at hs
       dsimp only at hs
       refine ⟨k+1,⟨by omega,by omega⟩,by omega,?_⟩
       rw [hs]
       exact XR (i:=64) (i':=1005) (F1:=[(0,.rs 1 (ls.map cL)),(5,.sl 64 0 (o++[mvC m a]).length),(6,.ptr 6 0 0),(7,iv (((k+1):Nat):Int))]) (H1:=[(64,.cells 34 11 ((o++[mvC m a]).map cM) true),(6,.cells 32 3 [cV (mvC m a).to] true)]) (.cs (.cons rfl (rc_eq (by rw [List.length_append]; rfl) rfl) (.cs (.cs (.nil))))) (kS rfl rfl) (fun i h=>by cases h) rfl rfl (.cons rfl (.same _) (.cons rfl (.sl _ _) (.cons rfl (.same _) (.cons rfl (.same _) (.nil))))) (Qk rfl rfl) (kS rfl rfl) (fun i h=>by cases h))
     ·refine gK 3 rfl (Qm rfl rfl rfl (by omega) (gR 2 rfl ?_))
      (have hs:=mvSt_n hL (by rw [hst,hm]; exact h60)
       rw [hst] at hs
       refine ⟨k+1,⟨by omega,by omega⟩,by omega,?_⟩
       rw [hs]
       exact wkS rfl)
    ·replace h47:Qw (mvB m a)=0:=by simpa using h47
     refine gK 2 rfl (QC (F0:=[(0,.rs 1 (ls.map cL)),(5,.sl 1005 0 o.length),(6,.ptr 6 0 0),(7,iv (((k):Nat):Int)),(8,.ptr 8 0 0)]) (H0:=[(1005,.cells 34 11 (o.map cM) true),(6,.cells 32 3 [cV a] true),(8,.cells 34 11 [cM (mvC m a)] true)]) (Qf (Qk rfl rfl) (.keep (rfl) rfl (.keep (rfl) rfl (.keep ((by first | (rw [mvC_bad (a:=a) h47]; rfl) | (rw [mvC_ok (a:=a) h47]; rfl))) rfl (.nil)))) (fun i h=>by cases h)) (gK 2 rfl (cN rfl rfl (fc13c (mvC m a)) (gR 0 rfl (QS rfl rfl rfl (gR 1 rfl (Qc rfl (fun h60=>?_) (fun h60=>?_))))))))
     ·refine gK 4 rfl (bT (l:=[mvC m a].flatMap cM) (els:=[mvC m a].map cM) (by kernel_rfl) (gR 0 rfl (apM cM (y:=mvC m a) rfl (by omega) rfl (gR 9 rfl (Qm rfl rfl rfl (by omega) (gR 2 rfl ?_))))))
      (have hs:=mvSt_y hL (by rw [hst,hm]; exact h60)
       rw [hst,hm] at hs
       dsimp only at hs
       refine ⟨k+1,⟨by omega,by omega⟩,by omega,?_⟩
       rw [hs]
       exact XR (i:=64) (i':=1005) (F1:=[(0,.rs 1 (ls.map cL)),(5,.sl 64 0 (o++[mvC m a]).length),(6,.ptr 6 0 0),(7,iv (((k+1):Nat):Int))]) (H1:=[(64,.cells 34 11 ((o++[mvC m a]).map cM) true),(6,.cells 32 3 [cV (mvC m a).to] true)]) (.cs (.cons rfl (rc_eq (by rw [List.length_append]; rfl) rfl) (.cs (.cs (.nil))))) (kS rfl rfl) (fun i h=>by cases h) rfl rfl (.cons rfl (.same _) (.cons rfl (.sl _ _) (.cons rfl (.same _) (.cons rfl (.same _) (.nil))))) (Qk rfl rfl) (kS rfl rfl) (fun i h=>by cases h))
     ·refine gK 3 rfl (Qm rfl rfl rfl (by omega) (gR 2 rfl ?_))
      (have hs:=mvSt_n hL (by rw [hst,hm]; exact h60)
       rw [hst] at hs
       refine ⟨k+1,⟨by omega,by omega⟩,by omega,?_⟩
       rw [hs]
       exact wkS rfl)
  ·skip
   refine gR 10 rfl ?_
   have hkk:k=min ls.length 6:=by omega
   unfold movS
   rw [← hkk,hst]
   exact Q5 <| Xg rfl (rc_frz rfl rfl rfl (fun _=>rfl)) .nil
 ·skip
  refine gR 13 rfl ?_
  have hkk:k=min ls.length 6:=by omega
  unfold movS
  rw [← hkk,hst]
  exact Q5 <| Xg rfl (rc_frz rfl rfl rfl (fun _=>rfl)) .nil
end Go.Proofs.YthmbjgnjfjjibaaGreatDoor
namespace Go.Proofs.YthmbjgnjfjjibaaGreatDoor
open Go.RowKit
set_option maxRecDepth 100000
def pthS (ls:List (List Int)):List Mv:=if movS ls=[] then [lineT] else (movS ls).take (1+Xd ((movS ls).length-1) 3).toNat
theorem movS_len (ls:List (List Int)):(movS ls).length<=6:=by
 have:=mvSt_len ls (min ls.length 6)
 unfold movS
 omega
theorem pthS_len (ls:List (List Int)):(pthS ls).length<=6/\1<=(pthS ls).length:=by
 have h:=movS_len ls
 unfold pthS
 split
 ·exact ⟨by decide,by decide⟩
 ·rename_i hn
  have h1:1<=(movS ls).length:=by
   cases hm:movS ls with
   | nil=>exact absurd hm hn
   | cons m l=>simp
  have:=QT ((movS ls).length-1) 3 (by decide)
  simp only [List.length_take]
  omega
theorem pthS_ok (ls:List (List Int)):X8 (pthS ls)=0:=by
 have hl:=(pthS_len ls).1
 unfold X8
 rw [if_neg (by omega)]
 unfold pthS
 split
 ·exact (by kernel_rfl:pcL none [lineT]=0)
 ·exact pcL_take _ _ _ (mvSt_ok ls _).1
def mcc35:MC:=(sq [oN 2 (.mv (.c .nils)) []] (sq [oM 4 0 [],oN 5 (.build (iz 3) []) [],oQ 6 25 [4,5] [0,1],oM 3 6 [2,2,0,1,2]] (.seq (sq [oM 7 3 [],oE 8 7 [0],oB 9 .eql 8 (cI 0) [1]] (.cond 9 (sq [oN 10 (.build (iz 3) [(0,1,(cI 10))]) [],oN 11 (.build (iz 11) [(0,1,(cI 2)),(4,3,10),(10,1,(cI 1))]) [0],oN 12 (.bslice 34 11 (iz 11) 1 [(0,11)]) [1],oM 2 12 [2,0,1,2]] .ret) .skip)) (sq [oM 13 3 [],oM 14 3 [],oE 15 14 [1],oB 16 .sub 15 (cI 1) [2],oQ 17 7 [16,(cI 3)] [3],oB 18 .add (cI 1) 17 [4],oN 19 (.slc 11 13 none (some 18)) [0,5],oM 2 19 (6::4::up 7)] .ret))))
theorem mcOkc35:(match Tryz.f5.body with | some c=>Qq Tryz.prog 20 c | none=>none)=some mcc35:=by kernel_rfl
theorem gc35 (ls:List (List Int)) (hls:∀ L∈ls,L.length<=4611686018427387904) (hl:ls.length<=4611686018427387904):FC Tryz.prog 5 [.rs 1 (ls.map cL)] [] (mvs (pthS ls)) [] true:=by
 have hml:=movS_len ls
 refine Qh (nt:=20) Tryz.func5 rfl rfl mcOkc35 (nL rfl) ?_
 delta mcc35
 refine gA 8 rfl (cN rfl rfl (gc53 ls hls hl) (gR 6 rfl (Q1 rfl rfl (gR 0 rfl (QS rfl rfl rfl (gR 1 rfl (Qc rfl (fun h9=>?_) (fun h9=>?_))))))))
 ·refine gK 4 rfl (bM cM ([lineT]) (by kernel_rfl) (gR 3 rfl ?_))
  (have hx:pthS ls=[lineT]:=if_pos (List.eq_nil_of_length_eq_zero (by omega))
   rw [hx]
   exact Xg rfl (rc_frz rfl rfl rfl (fun _=>rfl)) .nil)
 ·refine gK 5 rfl (Q1 rfl rfl (gR 0 rfl (JK rfl rfl rfl (by omega) (gR 0 rfl (cN rfl rfl (fc16 ((movS ls).length-1) 3 (by decide)) ?_)))))
  have hmr:=QT ((movS ls).length-1) 3 (by decide)
  refine gR 0 rfl (Qm rfl rfl rfl (by omega) (gR 0 rfl (rs_slc_r (l:=0) (q:=1+Xd ((movS ls).length-1) 3) (els':=((movS ls).take (1+Xd ((movS ls).length-1) 3).toNat).map cM) rfl rfl rfl rfl rfl (by omega) (by omega) (by rw [List.length_map]; unfold Xd at hmr ⊢; rw [if_neg (by decide)] at hmr ⊢; omega) (by simp) (gR 3 rfl ?_))))
  (have hx:pthS ls=(movS ls).take (1+Xd ((movS ls).length-1) 3).toNat:=if_neg (fun e=>h9 (by rw [e]; rfl))
   rw [hx]
   exact Qg rfl rfl rfl (.inl rfl))
end Go.Proofs.YthmbjgnjfjjibaaGreatDoor
namespace Go.Proofs.YthmbjgnjfjjibaaGreatDoor
open Go.RowKit
set_option maxRecDepth 100000
variable {α:Type}
theorem take_succ_at {l:List α} {k:Nat} {x:α} (h:l[k]?=some x):l.take (k+1)=l.take k++[x]:=by rw [List.take_add_one,h]; rfl
variable {r:AV} {H H':Hp} {P:Program}
theorem ret_own_e {F:Fr} {Z:List Nat} {rs:List ResultVar} {vs:List AV} {e:Exit} (he:e = .normal\/e = .ret) (h:JD P F H rs=some vs) (hr:RC H H' true (Xl vs) r) (hk:KeptHs H (Qa H') H') (hz:ZL H H' Z):RetQ P Z rs r H' true e F H :=
 ⟨he,vs,h,hr,hk.keptH,hz.at_⟩
section
variable {P:Program} {N:Nat} {F:Fr} {H:Hp} {ml:List MOper} {K:List Fp->Fr->Hp->Prop} {g:Option (Nat×Bool)} {pre:List Nat}
theorem rs_callvo {fa:Arg} {xs:List Arg} {vs cs vs':List AV} {f:FuncId} {dst:Option Nat} (Hs:Hp) (hg:gOK F g=true) (hf:Qe F fa=some (.fn (.func f) cs)) (hent:Xj P f=true) (hv:XT F xs=some vs) (hfc:FC P f vs' Hs r H' true)
  (hh:HVs H Hs [] true (vs++cs) vs') (hsub:SubH H Hs) (hsc:JI Hs=true) (hnew:newOk H Hs H'=true) (hdom:domOk Hs H'=true)
  (h:RS P N ml (putF F dst r) (H'++H) (fun fps=>K (([],Qa H')::fps))):RS P N (⟨dst,.callv fa xs,g,pre⟩::ml) F H K :=
 rs_callv hg hf hent hv hfc hh hsub.at_ hsc (newOk_spec hnew) (domOk_spec hdom) h
end
theorem fc_up {f:FuncId} {args:List AV} (h:FC P f args H r H' false):FC P f args H r H' true:=fun w S ρ c hH hv =>
 (h w S ρ c hH hv).mono fun e w' ⟨cv,S',ρ',q1,q2,q3,q4,q5,q6⟩=>⟨cv,S',ρ',q1,q2,q3,q4,fun b hb=>(q5 b hb).elim (fun h=>by cases h.1) .inr,q6⟩
def idxS {α:Type} (p:α->Bool):List α->Nat->Int
 | [],_ => -1
 | x::l,k=>if p x=true then k else idxS p l (k+1)
theorem idxS_at {p:α->Bool} {l:List α} {k:Nat} {x:α} (h:l[k]?=some x):idxS p (l.drop k) k=if p x=true then (k:Int) else idxS p (l.drop (k+1)) (k+1):=by
 obtain ⟨hk,e⟩:=List.getElem?_eq_some_iff.1 h
 rw [List.drop_eq_getElem_cons hk,e]; rfl
theorem idxS_end {p:α->Bool} {l:List α} {k:Nat} (h:l.length<=k):idxS p (l.drop k) k = -1:=by rw [List.drop_eq_nil_of_le h]; rfl
theorem idxS_any {α:Type} {p:α->Bool}:∀ (l:List α) (k:Nat),decide (0<=idxS p l k)=l.any p
 | [],k=>rfl
 | x::l,k=>by
  unfold idxS
  rw [List.any_cons]
  split
  ·rename_i h; rw [h]; simp
  ·rename_i h; rw [idxS_any l (k+1),Bool.eq_false_iff.2 h]; rfl
theorem idxS_cond {p:α->Bool} (l:List α):decide (idxS p l 0 ≥ 0)=l.any p:=idxS_any l 0
theorem len_snoc (l:List α) (x:α):(l++[x]).length=l.length+1:=by simp
end Go.Proofs.YthmbjgnjfjjibaaGreatDoor
namespace Go.Proofs.YthmbjgnjfjjibaaGreatDoor
open Go.RowKit
set_option maxRecDepth 100000
structure Pl where
 n:V3
 b:Int
deriving DecidableEq
structure Pt where
 x:Int
 y:Int
 z:Int
 w:Int
deriving DecidableEq
abbrev cPl (p:Pl):List AV:=[.int .i64 p.n.x,.int .i64 p.n.y,.int .i64 p.n.z,.int .i64 p.b]
abbrev cPt (p:Pt):List AV:=[.int .i64 p.x,.int .i64 p.y,.int .i64 p.z,.int .i64 p.w]
abbrev c12 (p q r:Pl):List AV:=[.int .i64 p.n.x,.int .i64 p.n.y,.int .i64 p.n.z,.int .i64 p.b,.int .i64 q.n.x,.int .i64 q.n.y,.int .i64 q.n.z,.int .i64 q.b,.int .i64 r.n.x,.int .i64 r.n.y,.int .i64 r.n.z,.int .i64 r.b]
def J9 (v:V3) (n:Int):V3:=⟨W (v.x*n),W (v.y*n),W (v.z*n)⟩
def roomS (p:Pl) (x:Pt):Int:=W (W (p.b*x.w)-dotW p.n ⟨x.x,x.y,x.z⟩)
def outB (x:Pt) (p:Pl):Bool:=decide (roomS p x<0)
def inB (p:Pl) (x:Pt):Bool:=decide (roomS p x>0)
def withS (r:List Pl) (x:Pt):Bool := !r.any (outB x)
def sumS (p q r:Pl):Nat->V3
 | 0=>⟨0,0,0⟩
 | 1=>addW ⟨0,0,0⟩ (J9 (Xb q.n r.n) p.b)
 | 2=>addW (addW ⟨0,0,0⟩ (J9 (Xb q.n r.n) p.b)) (J9 (Xb r.n p.n) q.b)
 | _=>addW (addW (addW ⟨0,0,0⟩ (J9 (Xb q.n r.n) p.b)) (J9 (Xb r.n p.n) q.b)) (J9 (Xb p.n q.n) r.b)
def wdS (p q r:Pl):Nat->Int
 | 0=>0
 | 1=>dotW p.n (Xb q.n r.n)
 | 2=>dotW q.n (Xb r.n p.n)
 | _=>dotW r.n (Xb p.n q.n)
def XQ (p q r:Pl):V3:=sumS p q r 3
def wd3 (p q r:Pl):Int:=wdS p q r 3
def gd3 (p q r:Pl):Int:=if wd3 p q r<0 then -(gL [(XQ p q r).x,(XQ p q r).y,(XQ p q r).z,wd3 p q r]:Int) else (gL [(XQ p q r).x,(XQ p q r).y,(XQ p q r).z,wd3 p q r]:Int)
def mtP (p q r:Pl):Pt:=⟨W ((XQ p q r).x.tdiv (gd3 p q r)),W ((XQ p q r).y.tdiv (gd3 p q r)),W ((XQ p q r).z.tdiv (gd3 p q r)),W ((wd3 p q r).tdiv (gd3 p q r))⟩
def okT (p q r:Pl):Bool:=[(XQ p q r).x,(XQ p q r).y,(XQ p q r).z,wd3 p q r].all fun n=>decide (-1000000000000000<=n/\n<=1000000000000000)
theorem okT_all {p q r:Pl} (h:okT p q r=true):∀ x∈[(XQ p q r).x,(XQ p q r).y,(XQ p q r).z,wd3 p q r],-1000000000000000<=x/\x<=1000000000000000:=fun x hx=>of_decide_eq_true (List.all_eq_true.1 h x hx)
theorem gcd_st2 (a b:Int) (h:b≠0):Nat.gcd b.natAbs (a.tmod b).natAbs=Nat.gcd a.natAbs b.natAbs:=by
 rw [Int.natAbs_tmod,Nat.gcd_comm a.natAbs,Nat.gcd_rec b.natAbs a.natAbs,Nat.gcd_comm]
theorem tmod_lt (a b:Int) (h:b≠0):(a.tmod b).natAbs<b.natAbs:=by
 rw [Int.natAbs_tmod]; exact Nat.mod_lt _ (by omega)
theorem gL_pos {l:List Int} {x:Int} (h:x∈l) (hx:x≠0):0<gL l:=by
 have key:∀ (l:List Int) (g:Nat),(0<g\/∃ x∈l,x≠0)->0<l.foldl (fun g n=>Nat.gcd g n.natAbs) g:=by
  intro l
  induction l with
  | nil=>intro g h; exact h.elim id fun ⟨x,hx,_⟩=>by cases hx
  | cons a l ih =>
   intro g h
   rw [List.foldl_cons]
   refine ih _ ?_
   by_cases ha:a=0
   ·rcases h with h | ⟨x,hx,h0⟩
    ·exact .inl (Nat.gcd_pos_of_pos_left _ h)
    ·rcases List.mem_cons.1 hx with rfl | hx
     ·exact absurd ha h0
     ·exact .inr ⟨x,hx,h0⟩
   ·exact .inl (Nat.gcd_pos_of_pos_right _ (by omega))
 exact key l 0 (.inr ⟨x,h,hx⟩)
theorem gL_le {l:List Int} {x:Int} {m:Nat} (h:x∈l) (hx:x≠0) (hm:x.natAbs<=m):gL l<=m:=by
 have key:∀ (l:List Int) (g:Nat),(l.foldl (fun g n=>Nat.gcd g n.natAbs) g) ∣ g/\∀ x∈l,(l.foldl (fun g n=>Nat.gcd g n.natAbs) g) ∣ x.natAbs:=by
  intro l
  induction l with
  | nil=>intro g; exact ⟨Nat.dvd_refl _,fun x hx=>by cases hx⟩
  | cons a l ih =>
   intro g
   obtain ⟨h1,h2⟩:=ih (Nat.gcd g a.natAbs)
   rw [List.foldl_cons]
   refine ⟨Nat.dvd_trans h1 (Nat.gcd_dvd_left _ _),fun x hx=>?_⟩
   rcases List.mem_cons.1 hx with rfl | hx
   ·exact Nat.dvd_trans h1 (Nat.gcd_dvd_right _ _)
   ·exact h2 x hx
 exact Nat.le_trans (Nat.le_of_dvd (by omega) ((key l 0).2 x h)) hm
def mcv211:MC:=(sq [oN 2 (.box 32 3 0) [],oN 4 (.alloc 32 3 (iz 3)) []] (sq [oA 5 0 2 [],oD 6 1 5 [0],oM 7 1 [],oB 8 .mul 6 7 [1,2],oA 9 1 2 [],oD 10 1 9 [4],oM 11 1 [],oB 12 .mul 10 11 [5,6],oA 13 2 2 [],oD 14 1 13 [8],oM 15 1 [],oB 16 .mul 14 15 [9,10],oN 17 (.build (iz 3) [(0,1,8),(1,1,12),(2,1,16)]) [3,7,11],oS 3 4 17 (12::up 13)] .ret))
theorem mcOkv211:okM Tryz.prog Tryz.f266 18=some mcv211:=by kernel_rfl
theorem vc211 (v:V3) (n:Int):FC Tryz.prog 266 [aV v,iv n] [] (aV (J9 v n)) [] false:=by
 refine Qh (nt:=18) Tryz.func266 rfl rfl mcOkv211 (nL rfl) ?_
 delta mcv211
 refine gA 10 rfl (QA rfl rfl rfl rfl (gR 3 rfl (QA rfl rfl rfl rfl (gR 3 rfl (QA rfl rfl rfl rfl (gR 4 rfl ?_))))))
 exact rQ
def mcv166:MC:=(sq [oN 2 (.box 129 4 0) [],oN 3 (.box 114 4 1) [],oN 4 (.mv (cI 0)) []] (dq [oA 5 3 2 [],oD 6 1 5 [0],oA 7 3 3 [],oD 8 1 7 [2],oB 9 .mul 6 8 [1,3],oA 10 0 2 [],oL 11 3 10 [5],oA 12 0 3 [],oD 13 1 12 [7],oA 14 1 3 [],oD 15 1 14 [9],oA 16 2 3 [],oD 17 1 16 [11],oN 18 (.build (iz 3) [(0,1,13),(1,1,15),(2,1,17)]) [8,10,12],oQ 19 124 [11,18] [6,13],oB 20 .sub 9 19 [4,14],oM 4 20 (15::14::up 16)] .ret))
theorem mcOkv166:okM Tryz.prog Tryz.f73 21=some mcv166:=by kernel_rfl
theorem vc166 (p:Pl) (x:Pt):FC Tryz.prog 73 [.agg (cPl p),.agg (cPt x)] [] (iv (roomS p x)) [] false:=by
 refine Qh (nt:=21) Tryz.func73 rfl rfl mcOkv166 (nL rfl) ?_
 delta mcv166
 refine gA 12 rfl (QA rfl rfl rfl rfl (gR 9 rfl (cN rfl rfl (fc30 p.n ⟨x.x,x.y,x.z⟩) (gR 0 rfl (rs_subw rfl rfl rfl rfl (gR 1 rfl (Xa (by kernel_rfl) (gP 1 rfl ?_))))))))
 exact rQ
def mcv213:MC:=(sq [oN 2 (.box 129 4 0) [],oN 3 (.mv (.c (.bool false))) []] (sq [oL 4 4 2 [],oL 5 4 1 [],oQ 6 73 [4,5] [0,1],oB 7 .lss 6 (cI 0) [2],oM 3 7 (3::2::up 4)] .ret))
theorem mcOkv213:okM Tryz.prog Tryz.f72 8=some mcv213:=by kernel_rfl
theorem vc213 (x:Pt) (p:Pl):FC Tryz.prog 72 [.agg (cPl p),.rp (cPt x)] [] (.bool (outB x p)) [] false:=by
 refine Qh (nt:=8) Tryz.func72 rfl rfl mcOkv213 (nL rfl) ?_
 delta mcv213
 refine gA 9 rfl (cN rfl rfl (vc166 p x) (gR 4 rfl ?_))
 exact rQ
def mcv165:MC:=(sq [oN 2 (.box 114 4 0) [],oN 3 (.mv (.c (.bool false))) []] (sq [oL 4 4 1 [],oL 5 4 2 [],oQ 6 73 [4,5] [0,1],oB 7 .gtr 6 (cI 0) [2],oM 3 7 (3::2::up 4)] .ret))
theorem mcOkv165:okM Tryz.prog Tryz.f198 8=some mcv165:=by kernel_rfl
theorem vc165 (p:Pl) (x:Pt):FC Tryz.prog 198 [.agg (cPt x),.rp (cPl p)] [] (.bool (inB p x)) [] false:=by
 refine Qh (nt:=8) Tryz.func198 rfl rfl mcOkv165 (nL rfl) ?_
 delta mcv165
 refine gA 9 rfl (cN rfl rfl (vc166 p x) (gR 0 rfl (rs_gtr rfl rfl rfl (gR 3 rfl ?_))))
 exact rQ
def mcv181:MC:=(sq [oN 4 (.mv (cI 0)) []] (.seq (sq [oM 6 0 [],oE 7 6 [0],oN 8 (.mv (cI 0)) []] (.block 0 (.loop (sq [oB 9 .lss 8 7 []] (.seq (.cond 9 .skip (.exit 0)) (.seq (.block 1 (sq [oM 10 8 [],oM 5 10 [0,0]] (sq [oM 11 1 [],oM 12 0 [],oM 13 5 [],oX 14 4 12 13 [1,2],oL 15 4 14 [3],oN 16 (.callv 11 [15]) [0,4]] (.cond 16 (sq [oM 17 5 [],oM 4 17 [0,0]] .ret) .skip)))) (rg [oB 18 .add 8 (cI 1) [],oM 8 18 [0]]))))))) (sq [oN 4 (.mv (cI (-1))) []] .ret)))
theorem mcOkv181:okM Tryz.prog Tryz.f123 19=some mcv181:=by kernel_rfl
theorem vcI_outs (x0:Pt) (xs:List Pl) (hxn:xs.length<=4611686018427387904):FC Tryz.prog 123 [.rs 4 (xs.map cPl),(.fn (.func 72) [.rp (cPt x0)])] [] (.int .i64 (idxS (outB x0) xs 0)) [] false:=by
 refine Qh (nt:=19) Tryz.func123 rfl rfl mcOkv181 (nL rfl) ?_
 delta mcv181
 refine gA 8 rfl (Q1 rfl rfl (gR 3 rfl ?_))
 refine Xp (α:=Nat) [0,1,6,7] [] (fun k=>xs.length-k) (fun k=>[(8,iv (((k):Nat):Int))]) (fun k=>[]) (fun k=>k<=xs.length/\idxS (outB x0) (xs.drop k) k=idxS (outB x0) xs 0) 0 (⟨by omega,rfl⟩) rfl (wkS rfl) ?_
 rintro k ⟨hk,hinv⟩
 refine gT 5 rfl (Qc rfl (fun h9=>?_) (fun h9=>?_))
 ·refine gK 13 rfl ?_
  obtain ⟨x,hxk,hxm⟩:=Q8 (L:=xs) (k:=k) (by omega)
  rw [idxS_at hxk] at hinv
  refine QH (f:=cPl) (y:=x) rfl rfl rfl (by omega) hxk (gR 0 rfl (Ja (cs:=cPl x) rfl rfl (nL rfl) rfl (gR 0 rfl (rs_callvo [] rfl rfl (by kernel_rfl) rfl (fc_up (vc213 x0 x)) (.cons (Ql rfl) (.cons (Ql rfl) (.nil))) .nil rfl rfl rfl ?_))))
  cases h16:(outB x0) x
  ·skip
   refine gR 4 rfl (Qm rfl rfl rfl (by omega) (gR 2 rfl ?_))
   rw [h16] at hinv
   exact X9 <| ⟨k+1,⟨by omega,hinv⟩,by omega,wkS rfl⟩
  ·skip
   refine gR 8 rfl ?_
   rw [h16] at hinv
   rw [← hinv]
   exact rQ
 ·refine gK 6 rfl ?_
  rw [idxS_end (by omega)] at hinv
  rw [← hinv]
  exact rQ
def mcv155:MC:=(sq [oN 4 (.mv (.c (.bool false))) []] (sq [oM 5 0 [],oM 6 1 [],oQ 7 123 [5,6] [0,1],oB 8 .geq 7 (cI 0) [2],oM 4 8 (3::2::up 4)] .ret))
theorem mcOkv155:okM Tryz.prog Tryz.f71 9=some mcv155:=by kernel_rfl
theorem vcC_outs (x0:Pt) (xs:List Pl) (hxn:xs.length<=4611686018427387904):FC Tryz.prog 71 [.rs 4 (xs.map cPl),(.fn (.func 72) [.rp (cPt x0)])] [] (.bool (xs.any (outB x0))) [] false:=by
 refine Qh (nt:=9) Tryz.func71 rfl rfl mcOkv155 (nL rfl) ?_
 delta mcv155
 refine gA 8 rfl (cN rfl rfl (vcI_outs x0 xs hxn) (gR 0 rfl (rs_geq rfl rfl rfl (gR 3 rfl ?_))))
 rw [← idxS_cond]
 exact rQ
def mcv187:MC:=(sq [oN 3 (.box 114 4 1) [],oN 4 (.mv (.c (.bool false))) []] (sq [oM 5 0 [],oN 6 (.mkfn (.func 72) [3]) [],oQ 7 71 [5,6] [0,1],oN 8 (.un .not 7) [2],oM 4 8 (3::2::up 4)] .ret))
theorem mcOkv187:okM Tryz.prog Tryz.f40 9=some mcv187:=by kernel_rfl
theorem vc187 (r:List Pl) (x:Pt) (hr:r.length<=1000):FC Tryz.prog 40 [.rs 4 (r.map cPl),.agg (cPt x)] [] (.bool (withS r x)) [] false:=by
 refine Qh (nt:=9) Tryz.func40 rfl rfl mcOkv187 (nL rfl) ?_
 delta mcv187
 refine gA 6 rfl (QC (F0:=[(0,.rs 4 (r.map cPl)),(3,.rp (cPt x))]) (H0:=[]) (Qf (.cs (.cons rfl (XJ rfl rfl (.inl rfl)) (.nil))) (.nil) (fun i h=>by cases h)) (gK 3 rfl (cN rfl rfl (vcC_outs x r (by omega)) (gR 4 rfl ?_))))
 exact rQ
def mcv189:MC:=(sq [oN 4 (.mv (cI 0)) []] (.seq (sq [oM 6 0 [],oE 7 6 [0],oN 8 (.mv (cI 0)) []] (.block 0 (.loop (sq [oB 9 .lss 8 7 []] (.seq (.cond 9 .skip (.exit 0)) (.seq (.block 1 (sq [oM 10 8 [],oM 5 10 [0,0]] (sq [oM 11 1 [],oM 12 0 [],oM 13 5 [],oX 14 4 12 13 [1,2],oL 15 4 14 [3],oN 16 (.callv 11 [15]) [0,4]] (.cond 16 (sq [oM 17 5 [],oM 4 17 [0,0]] .ret) .skip)))) (rg [oB 18 .add 8 (cI 1) [],oM 8 18 [0]]))))))) (sq [oN 4 (.mv (cI (-1))) []] .ret)))
theorem mcOkv189:okM Tryz.prog Tryz.f238 19=some mcv189:=by kernel_rfl
theorem vcI_ins (p0:Pl) (xs:List Pt) (hxn:xs.length<=4611686018427387904):FC Tryz.prog 238 [.rs 4 (xs.map cPt),(.fn (.func 198) [.rp (cPl p0)])] [] (.int .i64 (idxS (inB p0) xs 0)) [] false:=by
 refine Qh (nt:=19) Tryz.func238 rfl rfl mcOkv189 (nL rfl) ?_
 delta mcv189
 refine gA 8 rfl (Q1 rfl rfl (gR 3 rfl ?_))
 refine Xp (α:=Nat) [0,1,6,7] [] (fun k=>xs.length-k) (fun k=>[(8,iv (((k):Nat):Int))]) (fun k=>[]) (fun k=>k<=xs.length/\idxS (inB p0) (xs.drop k) k=idxS (inB p0) xs 0) 0 (⟨by omega,rfl⟩) rfl (wkS rfl) ?_
 rintro k ⟨hk,hinv⟩
 refine gT 5 rfl (Qc rfl (fun h9=>?_) (fun h9=>?_))
 ·refine gK 13 rfl ?_
  obtain ⟨x,hxk,hxm⟩:=Q8 (L:=xs) (k:=k) (by omega)
  rw [idxS_at hxk] at hinv
  refine QH (f:=cPt) (y:=x) rfl rfl rfl (by omega) hxk (gR 0 rfl (Ja (cs:=cPt x) rfl rfl (nL rfl) rfl (gR 0 rfl (rs_callvo [] rfl rfl (by kernel_rfl) rfl (fc_up (vc165 p0 x)) (.cons (Ql rfl) (.cons (Ql rfl) (.nil))) .nil rfl rfl rfl ?_))))
  cases h16:(inB p0) x
  ·skip
   refine gR 4 rfl (Qm rfl rfl rfl (by omega) (gR 2 rfl ?_))
   rw [h16] at hinv
   exact X9 <| ⟨k+1,⟨by omega,hinv⟩,by omega,wkS rfl⟩
  ·skip
   refine gR 8 rfl ?_
   rw [h16] at hinv
   rw [← hinv]
   exact rQ
 ·refine gK 6 rfl ?_
  rw [idxS_end (by omega)] at hinv
  rw [← hinv]
  exact rQ
def mcv164:MC:=(sq [oN 4 (.mv (.c (.bool false))) []] (sq [oM 5 0 [],oM 6 1 [],oQ 7 238 [5,6] [0,1],oB 8 .geq 7 (cI 0) [2],oM 4 8 (3::2::up 4)] .ret))
theorem mcOkv164:okM Tryz.prog Tryz.f197 9=some mcv164:=by kernel_rfl
theorem vcC_ins (p0:Pl) (xs:List Pt) (hxn:xs.length<=4611686018427387904):FC Tryz.prog 197 [.rs 4 (xs.map cPt),(.fn (.func 198) [.rp (cPl p0)])] [] (.bool (xs.any (inB p0))) [] false:=by
 refine Qh (nt:=9) Tryz.func197 rfl rfl mcOkv164 (nL rfl) ?_
 delta mcv164
 refine gA 8 rfl (cN rfl rfl (vcI_ins p0 xs hxn) (gR 0 rfl (rs_geq rfl rfl rfl (gR 3 rfl ?_))))
 rw [← idxS_cond]
 exact rQ
def mcv212:MC:=(sq [oN 2 (.mv (cI 0)) []] (sq [oN 3 (.mv (cI 0)) []] (.seq (sq [oM 6 0 [],oE 7 6 [0],oN 8 (.mv (cI 0)) []] (.block 0 (.loop (sq [oB 9 .lss 8 7 []] (.seq (.cond 9 .skip (.exit 0)) (.seq (.block 1 (sq [oX 10 1 6 8 [],oD 11 1 10 [0],oM 5 11 [1,0,1]] (.block 2 (.loop (.seq (sq [oM 12 5 [],oB 13 .neq 12 (cI 0) [0]] (.cond 13 .skip (.exit 2))) (.block 3 (dg [oM 14 5 [],oM 15 3 [],oM 16 5 [],oB 17 .rem 15 16 [1,2],oM 3 14 [0,0,1],oM 5 17 (3::4::up 5)]))))))) (rg [oB 18 .add 8 (cI 1) [],oM 8 18 [0]]))))))) (sq [oM 19 3 [],oM 20 3 [],oN 21 (.un .neg 20) [1],oN 22 (.mx 19 21) [0,2],oM 2 22 (3::up 4)] .ret))))
theorem mcOkv212:okM Tryz.prog Tryz.f267 23=some mcv212:=by kernel_rfl
theorem vc212 (l:List Int) (hl:∀ x∈l,-1000000000000000<=x/\x<=1000000000000000) (hn:l.length<=1000):FC Tryz.prog 267 [ints l] [] (iv (gL l:Int)) [] false:=by
 refine Qh (nt:=23) Tryz.func267 rfl rfl mcOkv212 (nL rfl) ?_
 delta mcv212
 refine gA 12 rfl (Q1 rfl rfl (gR 3 rfl ?_))
 refine Xp (α:=Nat×Int) [6,7] [] (fun s=>l.length-s.1) (fun s=>[(8,iv (((s.1):Nat):Int)),(3,iv (s.2))]) (fun s=>[]) (fun s=>s.1<=l.length/\s.2.natAbs=gL (l.take s.1)/\(-1000000000000000<=s.2/\s.2<=1000000000000000)) (0,0) (⟨by omega,rfl,by omega,by omega⟩) rfl (wkS rfl) ?_
 rintro ⟨k,g⟩ ⟨hk,hg,hgb⟩
 dsimp only at hk hg hgb ⊢
 refine gT 5 rfl (Qc rfl (fun h9=>?_) (fun h9=>?_))
 ·refine gK 5 rfl ?_
  obtain ⟨x,hxk,hxm⟩:=Q8 (L:=l) (k:=k) (by omega)
  have hxb:=hl x hxm
  refine QH (f:=ci) (y:=x) rfl rfl rfl (by omega) hxk (gR 4 rfl ?_)
  refine Xp (α:=Int×Int) [6,7,8] [] (fun u=>u.2.natAbs) (fun u=>[(3,iv u.1),(5,iv u.2)]) (fun u=>[]) (fun u=>Nat.gcd u.1.natAbs u.2.natAbs=Nat.gcd g.natAbs x.natAbs/\(-1000000000000000<=u.1/\u.1<=1000000000000000)/\(-1000000000000000<=u.2/\u.2<=1000000000000000)) (g,x) (⟨rfl,hgb,hxb⟩) rfl (wkS rfl) ?_
  rintro ⟨a,b⟩ ⟨hgc,hab,hbb⟩
  dsimp only at hgc hab hbb ⊢
  refine gT 4 rfl (Jv rfl rfl rfl (gR 1 rfl (Qc rfl (fun h13=>?_) (fun h13=>?_))))
  ·refine gK 2 rfl ?_
   skip
   refine gI 4 rfl (Jl rfl rfl rfl (by omega) rfl (gR 2 rfl (Xa (by kernel_rfl) (gP 0 rfl ?_))))
   have h1:=tmod_lt a b h13
   have h2:=gcd_st2 a b h13
   exact X9 <| ⟨(b,a.tmod b),⟨by show Nat.gcd b.natAbs (a.tmod b).natAbs=_; rw [h2,hgc],hbb,by show _<=a.tmod b; omega,by show a.tmod b<=_; omega⟩,h1,wkS rfl⟩
  ·refine gK 2 rfl (Qm rfl rfl rfl (by omega) (gR 2 rfl (⟨(k+1,a),⟨by show k+1<=_; omega,?_,hab⟩,by show _-(k+1)<_; omega,wkS rfl⟩)))
   show a.natAbs=gL (l.take (k+1))
   have hb0:b=0:=Decidable.byContradiction h13
   subst hb0
   rw [gL_succ hxk,← hg,← hgc]
   simp
 ·refine gK 2 rfl ?_
  have hke:l.take k=l:=List.take_of_length_le (by omega)
  rw [hke] at hg
  refine gI 3 rfl (rs_neg rfl rfl (by omega) (gR 0 rfl (rs_mx (c:=(gL l:Int)) rfl rfl rfl (by omega) (gR 3 rfl ?_))))
  exact rQ
end Go.Proofs.YthmbjgnjfjjibaaGreatDoor
namespace Go.Proofs.YthmbjgnjfjjibaaGreatDoor
open Go.RowKit
set_option maxRecDepth 100000
def mcv186:MC:=(sq [oN 1 (.box 315 12 0) [],oN 2 (.alloc 114 4 (iz 4)) [],oN 3 (.mv (.c (.bool false))) []] (sq [oN 4 (.alloc 32 3 (iz 3)) []] (sq [oN 5 (.mv (cI 0)) []] (.seq (sq [oL 10 12 1 [],oN 11 (.mv (cI 0)) []] (.block 0 (.loop (sq [oB 12 .lss 11 (cI 3) []] (.seq (.cond 12 .skip (.exit 0)) (.seq (.block 1 (sq [oM 13 11 [],oN 14 (.ixval 3 4 true 10 11) [],oN 7 (.alloc 129 4 (iz 4)) [],oM 6 13 [0,0,1,2],oS 4 7 14 [2,1,3,0,1,2,3]] (dq [oM 15 6 [],oB 16 .add 15 (cI 1) [0],oB 17 .rem 16 (cI 3) [1],oN 18 (.ixarr 3 4 1 17) [2],oA 19 0 18 [3],oL 20 3 19 [4],oM 21 6 [],oB 22 .add 21 (cI 2) [6],oB 23 .rem 22 (cI 3) [7],oN 24 (.ixarr 3 4 1 23) [8],oA 25 0 24 [9],oL 26 3 25 [10],oQ 27 192 [20,26] [5,11],oN 8 (.alloc 32 3 (iz 3)) [],oS 3 8 27 (13::12::12::up 14)] (sq [oA 28 0 7 [],oL 29 3 28 [0],oL 30 3 8 [],oQ 31 124 [29,30] [1,2],oM 5 31 (3::3::up 4)] (dg [oL 32 3 4 [],oL 33 3 8 [],oA 34 3 7 [],oD 35 1 34 [2],oQ 36 266 [33,35] [1,3],oQ 37 48 [32,36] [0,4,4],oS 3 4 37 (5::5::up 6)]))))) (rg [oB 38 .add 11 (cI 1) [],oM 11 38 [0]]))))))) (.seq (sq [oM 39 5 [],oB 40 .eql 39 (cI 0) [0]] (.cond 40 (sq [oN 41 (.build (iz 4) []) [],oS 4 2 41 [0,0],oN 3 (.mv (.c (.bool false))) [1,0,1]] .ret) .skip)) (sq [oA 42 0 4 [],oD 43 1 42 [0],oA 44 1 4 [],oD 45 1 44 [2],oA 46 2 4 [],oD 47 1 46 [4],oM 48 5 [],oN 49 (.bslice 3 1 [(iv 0)] 4 [(0,43),(1,45),(2,47),(3,48)]) [1,3,5,6],oQ 50 267 [49] [7],oM 9 50 (8::8::up 9)] (.seq (sq [oM 51 5 [],oB 52 .lss 51 (cI 0) [0]] (.cond 52 (rg [oM 53 9 [],oN 54 (.un .neg 53) [0],oM 9 54 [1,0,1]]) .skip)) (dq [oA 55 0 4 [],oD 56 1 55 [0],oM 57 9 [],oB 58 .quo 56 57 [1,2],oA 59 1 4 [],oD 60 1 59 [4],oM 61 9 [],oB 62 .quo 60 61 [5,6],oA 63 2 4 [],oD 64 1 63 [8],oM 65 9 [],oB 66 .quo 64 65 [9,10],oM 67 5 [],oM 68 9 [],oB 69 .quo 67 68 [12,13],oN 70 (.build (iz 4) [(0,1,58),(1,1,62),(2,1,66),(3,1,69)]) [3,7,11,14],oS 4 2 70 (15::up 16),oN 3 (.mv (.c (.bool true))) (16::up 17)] .ret))))))))
theorem mcOkv186:okM Tryz.prog Tryz.f236 71=some mcv186:=by kernel_rfl
theorem vc186_n (p q r:Pl) (h0:wd3 p q r=0):FC Tryz.prog 236 [.agg (c12 p q r)] [] (.tup [.agg [iv 0,iv 0,iv 0,iv 0],.bool false]) [] false:=by
 refine Qh (nt:=71) Tryz.func236 rfl rfl mcOkv186 (nL rfl) ?_
 delta mcv186
 refine gA 21 rfl ?_
 refine Xp (α:=Nat) [1,2,3,4,10] [1,2] (fun k=>3-k) (fun k=>[(5,iv (wdS p q r (k))),(11,iv (((k):Nat):Int))]) (fun k=>[(4,.cells 32 3 [cV (sumS p q r (k))] true)]) (fun k=>k<=3) 0 (by omega) rfl (wkS rfl) ?_
 intro k hk
 refine gT 5 rfl (Qc rfl (fun h12=>?_) (fun h12=>?_))
 ·refine gK 5 rfl ?_
  obtain rfl | rfl | rfl:k=0\/k=1\/k=2:=by omega
  ·skip
   refine gI 1 rfl (rs_ixvala rfl rfl rfl (by omega) (by omega) (nL rfl) rfl (gR 7 rfl (Qm rfl rfl rfl (by omega) (gR 0 rfl (Jl rfl rfl rfl (by decide) rfl (gR 0 rfl (Qx rfl rfl rfl (by decide) (by decide) (gR 3 rfl (Qm rfl rfl rfl (by omega) (gR 0 rfl (Jl rfl rfl rfl (by decide) rfl ?_)))))))))))
   refine gR 0 rfl (Qx rfl rfl rfl (by decide) (by decide) (gR 2 rfl (cN rfl rfl (fc31 q.n r.n) (gR 2 rfl (Xa (by kernel_rfl) (gP 5 rfl (cN rfl rfl (fc30 p.n (Xb q.n r.n)) (gR 7 rfl (cN rfl rfl (vc211 (Xb q.n r.n) p.b) (gR 0 rfl (cN rfl rfl (fc28 (sumS p q r 0) (J9 (Xb q.n r.n) p.b)) ?_)))))))))))
   refine gR 1 rfl (Xa (by kernel_rfl) (gP 1 rfl (Qm rfl rfl rfl (by omega) (gR 2 rfl ?_))))
   exact X9 <| ⟨0+1,by omega,by omega,wkS rfl⟩
  ·skip
   refine gI 1 rfl (rs_ixvala rfl rfl rfl (by omega) (by omega) (nL rfl) rfl (gR 7 rfl (Qm rfl rfl rfl (by omega) (gR 0 rfl (Jl rfl rfl rfl (by decide) rfl (gR 0 rfl (Qx rfl rfl rfl (by decide) (by decide) (gR 3 rfl (Qm rfl rfl rfl (by omega) (gR 0 rfl (Jl rfl rfl rfl (by decide) rfl ?_)))))))))))
   refine gR 0 rfl (Qx rfl rfl rfl (by decide) (by decide) (gR 2 rfl (cN rfl rfl (fc31 r.n p.n) (gR 2 rfl (Xa (by kernel_rfl) (gP 5 rfl (cN rfl rfl (fc30 q.n (Xb r.n p.n)) (gR 7 rfl (cN rfl rfl (vc211 (Xb r.n p.n) q.b) (gR 0 rfl (cN rfl rfl (fc28 (sumS p q r 1) (J9 (Xb r.n p.n) q.b)) ?_)))))))))))
   refine gR 1 rfl (Xa (by kernel_rfl) (gP 1 rfl (Qm rfl rfl rfl (by omega) (gR 2 rfl ?_))))
   exact X9 <| ⟨1+1,by omega,by omega,wkS rfl⟩
  ·skip
   refine gI 1 rfl (rs_ixvala rfl rfl rfl (by omega) (by omega) (nL rfl) rfl (gR 7 rfl (Qm rfl rfl rfl (by omega) (gR 0 rfl (Jl rfl rfl rfl (by decide) rfl (gR 0 rfl (Qx rfl rfl rfl (by decide) (by decide) (gR 3 rfl (Qm rfl rfl rfl (by omega) (gR 0 rfl (Jl rfl rfl rfl (by decide) rfl ?_)))))))))))
   refine gR 0 rfl (Qx rfl rfl rfl (by decide) (by decide) (gR 2 rfl (cN rfl rfl (fc31 p.n q.n) (gR 2 rfl (Xa (by kernel_rfl) (gP 5 rfl (cN rfl rfl (fc30 r.n (Xb p.n q.n)) (gR 7 rfl (cN rfl rfl (vc211 (Xb p.n q.n) r.b) (gR 0 rfl (cN rfl rfl (fc28 (sumS p q r 2) (J9 (Xb p.n q.n) r.b)) ?_)))))))))))
   refine gR 1 rfl (Xa (by kernel_rfl) (gP 1 rfl (Qm rfl rfl rfl (by omega) (gR 2 rfl ?_))))
   exact X9 <| ⟨2+1,by omega,by omega,wkS rfl⟩
 ·refine gK 3 rfl ?_
  obtain rfl:k=3:=by omega
  refine gI 2 rfl (QZ rfl rfl rfl rfl h0 (gR 9 rfl ?_))
  exact Q5 <| Xg rfl (rc_tup (.cons (Xq rfl (.inr rfl)) (.cons (Xq rfl (.inr rfl)) .nil))) .nil
theorem vc186_s (p q r:Pl) (h0:wd3 p q r≠0) (hok:okT p q r=true):FC Tryz.prog 236 [.agg (c12 p q r)] [] (.tup [.agg (cPt (mtP p q r)),.bool true]) [] false:=by
 refine Qh (nt:=71) Tryz.func236 rfl rfl mcOkv186 (nL rfl) ?_
 delta mcv186
 refine gA 21 rfl ?_
 refine Xp (α:=Nat) [1,2,3,4,10] [1,2] (fun k=>3-k) (fun k=>[(5,iv (wdS p q r (k))),(11,iv (((k):Nat):Int))]) (fun k=>[(4,.cells 32 3 [cV (sumS p q r (k))] true)]) (fun k=>k<=3) 0 (by omega) rfl (wkS rfl) ?_
 intro k hk
 refine gT 5 rfl (Qc rfl (fun h12=>?_) (fun h12=>?_))
 ·refine gK 5 rfl ?_
  obtain rfl | rfl | rfl:k=0\/k=1\/k=2:=by omega
  ·skip
   refine gI 1 rfl (rs_ixvala rfl rfl rfl (by omega) (by omega) (nL rfl) rfl (gR 7 rfl (Qm rfl rfl rfl (by omega) (gR 0 rfl (Jl rfl rfl rfl (by decide) rfl (gR 0 rfl (Qx rfl rfl rfl (by decide) (by decide) (gR 3 rfl (Qm rfl rfl rfl (by omega) (gR 0 rfl (Jl rfl rfl rfl (by decide) rfl ?_)))))))))))
   refine gR 0 rfl (Qx rfl rfl rfl (by decide) (by decide) (gR 2 rfl (cN rfl rfl (fc31 q.n r.n) (gR 2 rfl (Xa (by kernel_rfl) (gP 5 rfl (cN rfl rfl (fc30 p.n (Xb q.n r.n)) (gR 7 rfl (cN rfl rfl (vc211 (Xb q.n r.n) p.b) (gR 0 rfl (cN rfl rfl (fc28 (sumS p q r 0) (J9 (Xb q.n r.n) p.b)) ?_)))))))))))
   refine gR 1 rfl (Xa (by kernel_rfl) (gP 1 rfl (Qm rfl rfl rfl (by omega) (gR 2 rfl ?_))))
   exact X9 <| ⟨0+1,by omega,by omega,wkS rfl⟩
  ·skip
   refine gI 1 rfl (rs_ixvala rfl rfl rfl (by omega) (by omega) (nL rfl) rfl (gR 7 rfl (Qm rfl rfl rfl (by omega) (gR 0 rfl (Jl rfl rfl rfl (by decide) rfl (gR 0 rfl (Qx rfl rfl rfl (by decide) (by decide) (gR 3 rfl (Qm rfl rfl rfl (by omega) (gR 0 rfl (Jl rfl rfl rfl (by decide) rfl ?_)))))))))))
   refine gR 0 rfl (Qx rfl rfl rfl (by decide) (by decide) (gR 2 rfl (cN rfl rfl (fc31 r.n p.n) (gR 2 rfl (Xa (by kernel_rfl) (gP 5 rfl (cN rfl rfl (fc30 q.n (Xb r.n p.n)) (gR 7 rfl (cN rfl rfl (vc211 (Xb r.n p.n) q.b) (gR 0 rfl (cN rfl rfl (fc28 (sumS p q r 1) (J9 (Xb r.n p.n) q.b)) ?_)))))))))))
   refine gR 1 rfl (Xa (by kernel_rfl) (gP 1 rfl (Qm rfl rfl rfl (by omega) (gR 2 rfl ?_))))
   exact X9 <| ⟨1+1,by omega,by omega,wkS rfl⟩
  ·skip
   refine gI 1 rfl (rs_ixvala rfl rfl rfl (by omega) (by omega) (nL rfl) rfl (gR 7 rfl (Qm rfl rfl rfl (by omega) (gR 0 rfl (Jl rfl rfl rfl (by decide) rfl (gR 0 rfl (Qx rfl rfl rfl (by decide) (by decide) (gR 3 rfl (Qm rfl rfl rfl (by omega) (gR 0 rfl (Jl rfl rfl rfl (by decide) rfl ?_)))))))))))
   refine gR 0 rfl (Qx rfl rfl rfl (by decide) (by decide) (gR 2 rfl (cN rfl rfl (fc31 p.n q.n) (gR 2 rfl (Xa (by kernel_rfl) (gP 5 rfl (cN rfl rfl (fc30 r.n (Xb p.n q.n)) (gR 7 rfl (cN rfl rfl (vc211 (Xb p.n q.n) r.b) (gR 0 rfl (cN rfl rfl (fc28 (sumS p q r 2) (J9 (Xb p.n q.n) r.b)) ?_)))))))))))
   refine gR 1 rfl (Xa (by kernel_rfl) (gP 1 rfl (Qm rfl rfl rfl (by omega) (gR 2 rfl ?_))))
   exact X9 <| ⟨2+1,by omega,by omega,wkS rfl⟩
 ·refine gK 3 rfl ?_
  obtain rfl:k=3:=by omega
  refine gI 2 rfl (Xo rfl rfl rfl rfl h0 (gR 4 rfl ?_))
  have hgp:0<gL [(XQ p q r).x,(XQ p q r).y,(XQ p q r).z,wd3 p q r]:=gL_pos (x:=wd3 p q r) (by simp) h0
  have hgl:gL [(XQ p q r).x,(XQ p q r).y,(XQ p q r).z,wd3 p q r]<=1000000000000000:=gL_le (x:=wd3 p q r) (by simp) h0 (by have:=okT_all hok (wd3 p q r) (by simp); omega)
  refine gI 8 rfl (bM ci (([(XQ p q r).x,(XQ p q r).y,(XQ p q r).z,wd3 p q r]:List Int)) (by kernel_rfl) (gR 0 rfl (XM [49] rfl rfl (vc212 [(XQ p q r).x,(XQ p q r).y,(XQ p q r).z,wd3 p q r] (okT_all hok) (by simp)) (.cons (hv_slm (f:=ci) (xs:=[(XQ p q r).x,(XQ p q r).y,(XQ p q r).z,wd3 p q r]) (by simp) rfl rfl) (.nil)) rfl (gR 8 rfl (Qc rfl (fun h52=>?_) (fun h52=>?_))))))
  ·refine gK 2 rfl (rs_neg rfl rfl (by omega) (gR 3 rfl ?_))
   have hg3 : -(gL [(XQ p q r).x,(XQ p q r).y,(XQ p q r).z,wd3 p q r]:Int)=gd3 p q r:=(if_pos h52).symm
   have hg0:gd3 p q r≠0:=by rw [← hg3]; omega
   rw [hg3]
   refine gI 4 rfl (XC rfl rfl rfl hg0 rfl (gR 3 rfl (XC rfl rfl rfl hg0 rfl (gR 3 rfl (XC rfl rfl rfl hg0 rfl (gR 2 rfl (XC rfl rfl rfl hg0 rfl (gR 3 rfl (Xa (by kernel_rfl) (gP 1 rfl ?_))))))))))
   exact Q5 <| Xg rfl (rc_tup (.cons (Xq rfl (.inr rfl)) (.cons (Xq rfl (.inr rfl)) .nil))) .nil
  ·refine gK 2 rfl ?_
   have hg3:(gL [(XQ p q r).x,(XQ p q r).y,(XQ p q r).z,wd3 p q r]:Int)=gd3 p q r:=(if_neg h52).symm
   have hg0:gd3 p q r≠0:=by rw [← hg3]; omega
   rw [hg3]
   refine gI 4 rfl (XC rfl rfl rfl hg0 rfl (gR 3 rfl (XC rfl rfl rfl hg0 rfl (gR 3 rfl (XC rfl rfl rfl hg0 rfl (gR 2 rfl (XC rfl rfl rfl hg0 rfl (gR 3 rfl (Xa (by kernel_rfl) (gP 1 rfl ?_))))))))))
   exact Q5 <| Xg rfl (rc_tup (.cons (Xq rfl (.inr rfl)) (.cons (Xq rfl (.inr rfl)) .nil))) .nil
def mcv185:MC:=(sq [oN 1 (.box 231 1 0) [],oN 2 (.mv (.c .nilf)) []] (sq [oN 3 (.mkfn (.func 265) [1]) [],oM 2 3 [0,0]] .ret))
theorem mcOkv185:okM Tryz.prog Tryz.f235 4=some mcv185:=by kernel_rfl
theorem vc185 (r:List Pl):FC Tryz.prog 235 [.rs 4 (r.map cPl)] [] (.fn (.func 265) [.rp [.rs 4 (r.map cPl)]]) [] true:=by
 refine Qh (nt:=4) Tryz.func235 rfl rfl mcOkv185 (nL rfl) ?_
 delta mcv185
 refine gA 11 rfl ?_
 exact Q5 <| Xg rfl (rc_fnr (.cons (XJ rfl rfl (.inl rfl)) .nil)) .nil
end Go.Proofs.YthmbjgnjfjjibaaGreatDoor
namespace Go.Proofs.YthmbjgnjfjjibaaGreatDoor
open Go.RowKit
set_option maxRecDepth 100000
abbrev ptK (x:Pt):List Int:=[x.x,x.y,x.z,x.w]
theorem ptK_len (l:List Pt):∀ q∈l.map ptK,q.length=4:=fun q hq=>by
 obtain ⟨x,_,rfl⟩:=List.mem_map.1 hq; rfl
def JX (r:List Pl) (l:List Pt) (p q s:Pl):List Pt:=if wd3 p q s=0 then l else if ptK (mtP p q s)∈l.map ptK then l else if withS r (mtP p q s)=true then l++[mtP p q s] else l
def innS (r:List Pl) (p q:Pl):List Pt->List Pl->List Pt
 | l,[]=>l
 | l,s::t=>innS r p q (JX r l p q s) t
def midS (r:List Pl) (p:Pl):List Pt->List Pl->List Pt
 | l,[]=>l
 | l,q::t=>midS r p (innS r p q l t) t
def topS (r:List Pl):List Pt->List Pl->List Pt
 | l,[]=>l
 | l,p::t=>topS r (midS r p l t) t
def cornS (r:List Pl):List Pt:=topS r [] r
def okMid (p:Pl):List Pl->Bool
 | []=>true
 | q::t=>t.all (okT p q)&&okMid p t
def okTop:List Pl->Bool
 | []=>true
 | p::t=>okMid p t&&okTop t
theorem okTop_at:∀ {r:List Pl} {i:Nat} {p:Pl},okTop r=true->r[i]?=some p->okMid p (r.drop (i+1))=true
 | [],i,p,_,h=>by simp at h
 | a::r,0,p,h,hp=>by
  simp at hp; subst hp
  simp only [okTop,Bool.and_eq_true] at h
  exact h.1
 | a::r,i+1,p,h,hp=>by
  simp only [okTop,Bool.and_eq_true] at h
  exact okTop_at (r:=r) (i:=i) h.2 (by simpa using hp)
theorem okMid_at:∀ {p:Pl} {t:List Pl} {j:Nat} {q:Pl},okMid p t=true->t[j]?=some q->(t.drop (j+1)).all (okT p q)=true
 | p,[],j,q,_,h=>by simp at h
 | p,a::t,0,q,h,hq=>by
  simp at hq; subst hq
  simp only [okMid,Bool.and_eq_true] at h
  exact h.1
 | p,a::t,j+1,q,h,hq=>by
  simp only [okMid,Bool.and_eq_true] at h
  exact okMid_at (t:=t) (j:=j) h.2 (by simpa using hq)
theorem Jt {α:Type} {l:List α} {k:Nat} {x:α} (h:l[k]?=some x):l.drop k=x::l.drop (k+1):=by
 obtain ⟨hk,e⟩:=List.getElem?_eq_some_iff.1 h
 rw [List.drop_eq_getElem_cons hk,e]
variable {r:List Pl}
theorem topS_at {l:List Pt} {k:Nat} {p:Pl} (h:r[k]?=some p):topS r l (r.drop k)=topS r (midS r p l (r.drop (k+1))) (r.drop (k+1)):=by rw [Jt h]; rfl
theorem midS_at {t:List Pl} {p:Pl} {l:List Pt} {k:Nat} {q:Pl} (h:t[k]?=some q):midS r p l (t.drop k)=midS r p (innS r p q l (t.drop (k+1))) (t.drop (k+1)):=by rw [Jt h]; rfl
theorem innS_at {t:List Pl} {p q:Pl} {l:List Pt} {k:Nat} {s:Pl} (h:t[k]?=some s):innS r p q l (t.drop k)=innS r p q (JX r l p q s) (t.drop (k+1)):=by rw [Jt h]; rfl
theorem accS_len (r:List Pl) (l:List Pt) (p q s:Pl):(JX r l p q s).length<=l.length+1:=by
 unfold JX
 split
 ·omega
 ·split
  ·omega
  ·split
   ·rw [len_snoc]; omega
   ·omega
theorem slc_drop (r:List Pl) (m:Nat) {l:Int} (h:l=(m:Int)):(((r.map cPl).drop l.toNat).take ((((r.map cPl).length:Nat):Int).toNat-l.toNat))=(r.drop m).map cPl:=by
 subst h
 rw [← List.map_drop,List.take_of_length_le (by simp)]; rfl
theorem map_snocK (l:List Pt) (x:Pt):(l++[x]).map ptK=l.map ptK++[ptK x]:=by simp
theorem acc_1 {l:List Pt} {p q s:Pl} (h:wd3 p q s=0):JX r l p q s=l:=if_pos h
theorem acc_2 {l:List Pt} {p q s:Pl} (h:wd3 p q s≠0) (h2:decide (ptK (mtP p q s)∈l.map ptK)=true):JX r l p q s=l:=by unfold JX; rw [if_neg h,if_pos (of_decide_eq_true h2)]
theorem acc_3 {l:List Pt} {p q s:Pl} (h:wd3 p q s≠0) (h2:decide (ptK (mtP p q s)∈l.map ptK)=false) (h3:withS r (mtP p q s)=true):JX r l p q s=l++[mtP p q s]:=by unfold JX; rw [if_neg h,if_neg (of_decide_eq_false h2),if_pos h3]
theorem acc_4 {l:List Pt} {p q s:Pl} (h:wd3 p q s≠0) (h2:decide (ptK (mtP p q s)∈l.map ptK)=false) (h3:withS r (mtP p q s)=false):JX r l p q s=l:=by unfold JX; rw [if_neg h,if_neg (of_decide_eq_false h2),if_neg (by rw [h3]; decide)]
def as161:MC:=(rg [oN 5 (.alloc 315 12 (iz 12)) [],oS 12 5 11 [0,0]])
def bd161:MC:=(.block 1 (sq [oL 13 12 5 [],oQ 14 236 [13] [0],oM 12 14 [1],oN 15 (.ext 12 0) [2],oN 16 (.ext 12 1) [2],oN 6 (.alloc 114 4 (iz 4)) [],oS 4 6 15 [5,3,1,0,1,2,3,5],oM 7 16 (4::6::up 7)] (sq [oM 17 7 [],oM 18 17 [0],pD 19 1 4 18 true [1],oG 20 (.ld true 4 6) 18 true [1],oG 21 (.mhas 4 19 20) 18 true [2,3,1],oG 22 (.un .not 21) 18 true [4,1],oN 23 (.pick 18 22 (.c (.bool false))) [1,5],oM 24 23 [6,1],pD 25 1 1 24 true [7],oG 26 (.ld true 4 6) 24 true [7],oG 27 (.call 40 [25,26]) 24 true [8,9,7,7],oN 28 (.pick 24 27 (.c (.bool false))) [7,10]] (.cond 28 (sq [oD 29 1 4 [],oL 30 4 6 [],⟨none,(.mapadd 4 29 30 (.c (.bool true))),none,[0,1,0,1]⟩] (rg [oD 31 1 3 [],oL 32 4 6 [],oN 33 (.bslice 114 4 (iz 4) 1 [(0,32)]) [1],oN 34 (.app 114 4 32 (iz 4) 31 33) [0,2],oS 1 3 34 (3::3::up 4)])) .skip))))
theorem as161w (r:List Pl) (hr:r.length<=110) (p q s:Pl) (hok:okT p q s=true) (l:List Pt) (hl:l.length<=2000000) (o:Loop) (lb:Nat):AW Tryz.prog 36 [900,1003,903,1004,1008] (some lb) as161 (fun e F' H'=>e = .normal/\Weak 36 [900,1003,903,1004,1008] F' H' [(5,.ptr 5 0 0),(1,.rp [.rs 4 (r.map cPl)]),(3,.ptr 1003 0 0),(4,.ptr 1004 0 0)] [(900,.lp o [(10,.fn (.func 265) [.rp [.rs 4 (r.map cPl)]]),(1,.rp [.rs 4 (r.map cPl)]),(3,.ptr 1003 0 0),(4,.ptr 1004 0 0)]),(1003,.cells 269 1 [[.sl 903 0 (l).length]] false),(903,.cells 114 4 ((l).map cPt) true),(1004,.cells 311 1 [[.mp 1008]] false),(1008,.mset ((l).map ptK)),(5,.cells 315 12 [c12 p q s] true)]) [(11,.agg (c12 p q s)),(10,.fn (.func 265) [.rp [.rs 4 (r.map cPl)]]),(1,.rp [.rs 4 (r.map cPl)]),(3,.ptr 1003 0 0),(4,.ptr 1004 0 0)] [(900,.lp o [(10,.fn (.func 265) [.rp [.rs 4 (r.map cPl)]]),(1,.rp [.rs 4 (r.map cPl)]),(3,.ptr 1003 0 0),(4,.ptr 1004 0 0)]),(1003,.cells 269 1 [[.sl 903 0 (l).length]] false),(903,.cells 114 4 ((l).map cPt) true),(1004,.cells 311 1 [[.mp 1008]] false),(1008,.mset ((l).map ptK))]:=by
 delta as161
 refine gA 4 rfl ?_
 exact Q5 <| ⟨rfl,Qf (Qk rfl rfl) (kS rfl rfl) (fun i hi=>by simp [Qa] at hi ⊢; omega)⟩
theorem bd161w (r:List Pl) (hr:r.length<=110) (p q s:Pl) (hok:okT p q s=true) (l:List Pt) (hl:l.length<=2000000) (o:Loop) (lb:Nat):AW Tryz.prog 36 [900,1003,903,1004,1008] (some lb) bd161 (fun e F' H'=>e = .normal/\Weak 36 [900,1003,903,1004,1008] F' H' [] [(900,.lp o [(10,.fn (.func 265) [.rp [.rs 4 (r.map cPl)]]),(1,.rp [.rs 4 (r.map cPl)]),(3,.ptr 1003 0 0),(4,.ptr 1004 0 0)]),(1003,.cells 269 1 [[.sl 904 0 (JX r l p q s).length]] false),(904,.cells 114 4 ((JX r l p q s).map cPt) true),(1004,.cells 311 1 [[.mp 1008]] false),(1008,.mset ((JX r l p q s).map ptK)),(903,.dead)]) [(5,.ptr 5 0 0),(1,.rp [.rs 4 (r.map cPl)]),(3,.ptr 1003 0 0),(4,.ptr 1004 0 0)] [(900,.lp o [(10,.fn (.func 265) [.rp [.rs 4 (r.map cPl)]]),(1,.rp [.rs 4 (r.map cPl)]),(3,.ptr 1003 0 0),(4,.ptr 1004 0 0)]),(1003,.cells 269 1 [[.sl 903 0 (l).length]] false),(903,.cells 114 4 ((l).map cPt) true),(1004,.cells 311 1 [[.mp 1008]] false),(1008,.mset ((l).map ptK)),(5,.cells 315 12 [c12 p q s] true)]:=by
 delta bd161
 refine gA 4 rfl ?_
 by_cases h0:wd3 p q s=0
 ·skip
  refine cN rfl rfl (vc186_n p q s h0) (gR 24 rfl ?_)
  rw [acc_1 h0]
  exact Q5 <| ⟨rfl,(Weak.trans (F1:=[]) (H1:=[(900,.lp o [(10,.fn (.func 265) [.rp [.rs 4 (r.map cPl)]]),(1,.rp [.rs 4 (r.map cPl)]),(3,.ptr 1003 0 0),(4,.ptr 1004 0 0)]),(1003,.cells 269 1 [[.sl 903 0 (l).length]] false),(903,.cells 114 4 ((l).map cPt) true),(1004,.cells 311 1 [[.mp 1008]] false),(1008,.mset ((l).map ptK))]) (Qf (.nil) (kS rfl rfl) (fun i hi=>by simp [Qa] at hi ⊢; omega)) (Weak.trans (F1:=[]) (Q0 (i:=903) (i':=904) (k:=1003) rfl rfl (.nil) (by decide) rfl (.sl _ _)) (Qf (.nil) (kS rfl rfl) (fun i hi=>by simp [Qa] at hi ⊢; omega))))⟩
 ·skip
  refine cN rfl rfl (vc186_s p q s h0 hok) (gR 13 rfl (rs_mhas (l:=ptK (mtP p q s)) rfl rfl rfl rfl rfl rfl (ptK_len l) ?_))
  cases h21:decide (ptK (mtP p q s)∈l.map ptK)
  ·skip
   refine gR 5 rfl (cN rfl rfl (vc187 r (mtP p q s) (by omega)) ?_)
   cases h27:withS r (mtP p q s)
   ·skip
    refine gR 4 rfl ?_
    rw [acc_4 h0 h21 h27]
    exact Q5 <| ⟨rfl,(Weak.trans (F1:=[]) (H1:=[(900,.lp o [(10,.fn (.func 265) [.rp [.rs 4 (r.map cPl)]]),(1,.rp [.rs 4 (r.map cPl)]),(3,.ptr 1003 0 0),(4,.ptr 1004 0 0)]),(1003,.cells 269 1 [[.sl 903 0 (l).length]] false),(903,.cells 114 4 ((l).map cPt) true),(1004,.cells 311 1 [[.mp 1008]] false),(1008,.mset ((l).map ptK))]) (Qf (.nil) (kS rfl rfl) (fun i hi=>by simp [Qa] at hi ⊢; omega)) (Weak.trans (F1:=[]) (Q0 (i:=903) (i':=904) (k:=1003) rfl rfl (.nil) (by decide) rfl (.sl _ _)) (Qf (.nil) (kS rfl rfl) (fun i hi=>by simp [Qa] at hi ⊢; omega))))⟩
   ·skip
    refine gR 7 rfl (rs_mapadd (l:=ptK (mtP p q s)) rfl rfl rfl rfl rfl rfl rfl (ptK_len l) (of_decide_eq_false h21) (gR 4 rfl (bM cPt (([mtP p q s]:List Pt)) (by kernel_rfl) (gR 0 rfl (apM cPt (y:=mtP p q s) rfl (by omega) rfl (gR 2 rfl ?_))))))
    rw [acc_3 h0 h21 h27]
    exact Q5 <| ⟨rfl,(Weak.trans (F1:=[]) (H1:=[(900,.lp o [(10,.fn (.func 265) [.rp [.rs 4 (r.map cPl)]]),(1,.rp [.rs 4 (r.map cPl)]),(3,.ptr 1003 0 0),(4,.ptr 1004 0 0)]),(1003,.cells 269 1 [[.sl 34 0 (l++[mtP p q s]).length]] false),(34,.cells 114 4 ((l++[mtP p q s]).map cPt) true),(1004,.cells 311 1 [[.mp 1008]] false),(1008,.mset ((l++[mtP p q s]).map ptK)),(903,.dead)]) (Qf (.nil) (.keep (rfl) rfl (.keep (by rw [len_snoc]; rfl) rfl (.keep (rfl) rfl (.keep (rfl) rfl (.keep (by rw [map_snocK]; rfl) rfl (kS rfl rfl)))))) (fun i hi=>by simp [Qa] at hi ⊢; omega)) (Weak.trans (F1:=[]) (Q0 (i:=34) (i':=904) (k:=1003) rfl rfl (.nil) (by decide) rfl (.sl _ _)) (Qf (.nil) (kS rfl rfl) (fun i hi=>by simp [Qa] at hi ⊢; omega))))⟩
  ·skip
   refine gR 10 rfl ?_
   rw [acc_2 h0 h21]
   exact Q5 <| ⟨rfl,(Weak.trans (F1:=[]) (H1:=[(900,.lp o [(10,.fn (.func 265) [.rp [.rs 4 (r.map cPl)]]),(1,.rp [.rs 4 (r.map cPl)]),(3,.ptr 1003 0 0),(4,.ptr 1004 0 0)]),(1003,.cells 269 1 [[.sl 903 0 (l).length]] false),(903,.cells 114 4 ((l).map cPt) true),(1004,.cells 311 1 [[.mp 1008]] false),(1008,.mset ((l).map ptK))]) (Qf (.nil) (kS rfl rfl) (fun i hi=>by simp [Qa] at hi ⊢; omega)) (Weak.trans (F1:=[]) (Q0 (i:=903) (i':=904) (k:=1003) rfl rfl (.nil) (by decide) rfl (.sl _ _)) (Qf (.nil) (kS rfl rfl) (fun i hi=>by simp [Qa] at hi ⊢; omega))))⟩
theorem y161 (r:List Pl) (hr:r.length<=110) (p q s:Pl) (hok:okT p q s=true) (l:List Pt) (hl:l.length<=2000000) (r0:Loop) (h:Rec0 Tryz.prog 36 [11] as161 bd161 r0) :
  FCg (XB Tryz.prog) [.yl 900,.agg (c12 p q s)] [(900,.lp r0 [(10,.fn (.func 265) [.rp [.rs 4 (r.map cPl)]]),(1,.rp [.rs 4 (r.map cPl)]),(3,.ptr 1003 0 0),(4,.ptr 1004 0 0)]),(1003,.cells 269 1 [[.sl 903 0 (l).length]] false),(903,.cells 114 4 ((l).map cPt) true),(1004,.cells 311 1 [[.mp 1008]] false),(1008,.mset ((l).map ptK))] (.bool true) [(900,.lp r0 [(10,.fn (.func 265) [.rp [.rs 4 (r.map cPl)]]),(1,.rp [.rs 4 (r.map cPl)]),(3,.ptr 1003 0 0),(4,.ptr 1004 0 0)]),(1003,.cells 269 1 [[.sl 904 0 (JX r l p q s).length]] false),(904,.cells 114 4 ((JX r l p q s).map cPt) true),(1004,.cells 311 1 [[.mp 1008]] false),(1008,.mset ((JX r l p q s).map ptK)),(903,.dead)] true:=by
 have:=Jm (P:=Tryz.prog) (F:=[(10,.fn (.func 265) [.rp [.rs 4 (r.map cPl)]]),(1,.rp [.rs 4 (r.map cPl)]),(3,.ptr 1003 0 0),(4,.ptr 1004 0 0)]) (N:=36) (x:=as161) (y:=bd161) h.ca h.cb (li:=900) (ps:=[11]) (vs:=[.agg (c12 p q s)]) (J:=[(1003,.cells 269 1 [[.sl 903 0 (l).length]] false),(903,.cells 114 4 ((l).map cPt) true),(1004,.cells 311 1 [[.mp 1008]] false),(1008,.mset ((l).map ptK))]) (J1:=[(1003,.cells 269 1 [[.sl 903 0 (l).length]] false),(903,.cells 114 4 ((l).map cPt) true),(1004,.cells 311 1 [[.mp 1008]] false),(1008,.mset ((l).map ptK)),(5,.cells 315 12 [c12 p q s] true)]) (J':=[(1003,.cells 269 1 [[.sl 904 0 (JX r l p q s).length]] false),(904,.cells 114 4 ((JX r l p q s).map cPt) true),(1004,.cells 311 1 [[.mp 1008]] false),(1008,.mset ((JX r l p q s).map ptK)),(903,.dead)]) (Fb:=[(5,.ptr 5 0 0),(1,.rp [.rs 4 (r.map cPl)]),(3,.ptr 1003 0 0),(4,.ptr 1004 0 0)]) (Z0:=[900,1003,903,1004,1008]) .normal none (.inl ⟨rfl,rfl⟩)
  rfl rfl (fun i hi=>Qp.1 hi) (by simp) (fun i h=>Qp.2 h) (fun i hi=>Qp.1 (by simp [Qa] at hi ⊢; omega)) h.state h.params rfl rfl h.size (fun t v h=>Js h) (fun lb o=>as161w r hr p q s hok l hl o lb) (fun lb o=>bd161w r hr p q s hok l hl o lb)
 rw [rec_same h.state h.pending] at this
 exact this
def mcv208:MC:=(sq [oD 9 1 1 [],oE 10 9 [0],oN 11 (.mv (cI 0)) []] (.block 0 (.loop (sq [oB 12 .lss 11 10 []] (.seq (.cond 12 .skip (.exit 0)) (.seq (.block 1 (sq [oM 13 11 [],oX 14 4 9 11 [],oL 15 4 14 [1],oN 4 (.alloc 129 4 (iz 4)) [],oM 3 13 (0::up 4),oS 4 4 15 (3::2::4::up 5)] (sq [oD 16 1 1 [],oM 17 3 [],oB 18 .add 17 (cI 1) [1],oN 19 (.slc 4 16 (some 18) none) [0,2],oE 20 19 [3],oN 21 (.mv (cI 0)) []] (.block 2 (.loop (sq [oB 22 .lss 21 20 []] (.seq (.cond 22 .skip (.exit 2)) (.seq (.block 3 (sq [oM 23 21 [],oX 24 4 19 21 [],oL 25 4 24 [1],oN 6 (.alloc 129 4 (iz 4)) [],oM 5 23 (0::up 4),oS 4 6 25 (3::2::4::up 5)] (sq [oD 26 1 1 [],oM 27 3 [],oM 28 5 [],oB 29 .add 27 28 [1,2],oB 30 .add 29 (cI 2) [3],oN 31 (.slc 4 26 (some 30) none) [0,4],oE 32 31 [5],oN 33 (.mv (cI 0)) []] (.block 4 (.loop (sq [oB 34 .lss 33 32 []] (.seq (.cond 34 .skip (.exit 4)) (.seq (.block 5 (sq [oX 35 4 31 33 [],oL 36 4 35 [0],oN 8 (.alloc 129 4 (iz 4)) [],oS 4 8 36 [2,1,0,1,2]] (sq [oM 37 0 [],oL 38 4 4 [],oL 39 4 6 [],oL 40 4 8 [],oN 41 (.build (iz 12) [(0,4,38),(4,4,39),(8,4,40)]) [1,2,3],oN 42 (.callv 37 [41]) [0,4],oN 43 (.un .not 42) [5]] (.cond 43 .ret .skip)))) (rg [oB 44 .add 33 (cI 1) [],oM 33 44 [0]]))))))))) (rg [oB 45 .add 21 (cI 1) [],oM 21 45 [0]]))))))))) (rg [oB 46 .add 11 (cI 1) [],oM 11 46 [0]])))))))
theorem mcOkv208:okM Tryz.prog Tryz.f265 47=some mcv208:=by kernel_rfl
theorem vc208 (r:List Pl) (hr:r.length<=110) (hok:okTop r=true) (r0:Loop) (h:Rec0 Tryz.prog 36 [11] as161 bd161 r0):FC Tryz.prog 265 [.yl 900,.rp [.rs 4 (r.map cPl)]] [(900,.lp r0 [(10,.fn (.func 265) [.rp [.rs 4 (r.map cPl)]]),(1,.rp [.rs 4 (r.map cPl)]),(3,.ptr 1003 0 0),(4,.ptr 1004 0 0)]),(1003,.cells 269 1 [[.sl 901 0 (([]:List Pt)).length]] false),(901,.cells 114 4 ((([]:List Pt)).map cPt) true),(1004,.cells 311 1 [[.mp 1008]] false),(1008,.mset ((([]:List Pt)).map ptK))] (.tup []) [(900,.lp r0 [(10,.fn (.func 265) [.rp [.rs 4 (r.map cPl)]]),(1,.rp [.rs 4 (r.map cPl)]),(3,.ptr 1003 0 0),(4,.ptr 1004 0 0)]),(1003,.cells 269 1 [[.sl 903 0 (cornS r).length]] false),(903,.cells 114 4 ((cornS r).map cPt) true),(1004,.cells 311 1 [[.mp 1008]] false),(1008,.mset ((cornS r).map ptK)),(901,.dead)] true:=by
 refine Qh (nt:=47) Tryz.func265 rfl rfl mcOkv208 (nL rfl) ?_
 delta mcv208
 refine gA 3 rfl (Q1 rfl rfl (gR 3 rfl ?_))
 refine Xv (α:=Nat×List Pt) (fun u=>r.length-u.1) (fun u=>[(0,.yl 900),(1,.rp [.rs 4 (r.map cPl)]),(9,.rs 4 (r.map cPl)),(10,iv (r.length:Int)),(11,iv (((u.1):Nat):Int))]) (fun u=>[(900,.lp r0 [(10,.fn (.func 265) [.rp [.rs 4 (r.map cPl)]]),(1,.rp [.rs 4 (r.map cPl)]),(3,.ptr 1003 0 0),(4,.ptr 1004 0 0)]),(1003,.cells 269 1 [[.sl 903 0 (u.2).length]] false),(903,.cells 114 4 ((u.2).map cPt) true),(1004,.cells 311 1 [[.mp 1008]] false),(1008,.mset ((u.2).map ptK)),(901,.dead)]) (fun u=>u.1<=r.length/\topS r u.2 (r.drop u.1)=cornS r/\u.2.length<=u.1*12100) (0,[]) (⟨by omega,rfl,by simp⟩)
  ((Weak.trans (F1:=[(0,.yl 900),(1,.rp [.rs 4 (r.map cPl)]),(9,.rs 4 (r.map cPl)),(10,iv (r.length:Int)),(11,iv (((0):Nat):Int))]) (H1:=[(900,.lp r0 [(10,.fn (.func 265) [.rp [.rs 4 (r.map cPl)]]),(1,.rp [.rs 4 (r.map cPl)]),(3,.ptr 1003 0 0),(4,.ptr 1004 0 0)]),(1003,.cells 269 1 [[.sl 901 0 (([]:List Pt)).length]] false),(901,.cells 114 4 ((([]:List Pt)).map cPt) true),(1004,.cells 311 1 [[.mp 1008]] false),(1008,.mset ((([]:List Pt)).map ptK))]) (Qf (Qk rfl rfl) (kS rfl rfl) (fun i hi=>by simp [Qa] at hi ⊢; omega)) (Weak.trans (F1:=[(0,.yl 900),(1,.rp [.rs 4 (r.map cPl)]),(9,.rs 4 (r.map cPl)),(10,iv (r.length:Int)),(11,iv (((0):Nat):Int))]) (Q0 (i:=901) (i':=903) (k:=1003) rfl rfl (.cons rfl (.same _) (.cons rfl (.same _) (.cons rfl (.same _) (.cons rfl (.same _) (.cons rfl (.same _) (.nil)))))) (by decide) rfl (.sl _ _)) (Qf (Qk rfl rfl) (kS rfl rfl) (fun i hi=>by simp [Qa] at hi ⊢; omega))))) ?_
 rintro ⟨i,l⟩ ⟨hi,hinv,hll⟩
 dsimp only at hi hinv hll ⊢
 refine gT 5 rfl (Qc rfl (fun h12=>?_) (fun h12=>?_))
 ·refine gK 6 rfl ?_
  obtain ⟨p,hp,hpm⟩:=Q8 (L:=r) (k:=i) (by omega)
  rw [topS_at hp] at hinv
  have hok1:=okTop_at hok hp
  have hl1:(r.drop (i+1)).length=r.length-(i+1):=List.length_drop
  refine QH (f:=cPl) (y:=p) rfl rfl rfl (by omega) hp (gR 0 rfl (Ja (cs:=cPl p) rfl rfl (nL rfl) rfl (gR 8 rfl (Qm rfl rfl rfl (by omega) (gR 0 rfl (rs_slc_r (l:=(i:Int)+1) (q:=((r.map cPl).length:Nat)) (els':=(r.drop (i+1)).map cPl) rfl rfl rfl rfl rfl (by omega) (by simp; omega) (Int.le_refl _) (slc_drop r (i+1) (by omega)) (gR 0 rfl (Q1 rfl rfl (gR 3 rfl ?_)))))))))
  refine Xv (α:=Nat×List Pt) (fun u=>(r.drop (i+1)).length-u.1) (fun u=>[(0,.yl 900),(1,.rp [.rs 4 (r.map cPl)]),(9,.rs 4 (r.map cPl)),(10,iv (r.length:Int)),(11,iv (((i):Nat):Int)),(3,iv (((i):Nat):Int)),(4,.ptr 4 0 0),(19,.rs 4 ((r.drop (i+1)).map cPl)),(20,iv ((r.drop (i+1)).length:Int)),(21,iv (((u.1):Nat):Int))]) (fun u=>[(900,.lp r0 [(10,.fn (.func 265) [.rp [.rs 4 (r.map cPl)]]),(1,.rp [.rs 4 (r.map cPl)]),(3,.ptr 1003 0 0),(4,.ptr 1004 0 0)]),(1003,.cells 269 1 [[.sl 903 0 (u.2).length]] false),(903,.cells 114 4 ((u.2).map cPt) true),(1004,.cells 311 1 [[.mp 1008]] false),(1008,.mset ((u.2).map ptK)),(901,.dead),(4,.cells 129 4 [cPl p] true)]) (fun u=>u.1<=(r.drop (i+1)).length/\midS r p u.2 ((r.drop (i+1)).drop u.1)=midS r p l (r.drop (i+1))/\u.2.length<=i*12100+u.1*110) (0,l) (⟨by omega,rfl,by omega⟩)
   (Qf (Qk rfl rfl) (kS rfl rfl) (fun i hi=>by simp [Qa] at hi ⊢; omega)) ?_
  rintro ⟨j,m⟩ ⟨hj,hinv2,hml⟩
  dsimp only at hj hinv2 hml ⊢
  refine gT 5 rfl (Qc rfl (fun h22=>?_) (fun h22=>?_))
  ·refine gK 6 rfl ?_
   obtain ⟨q,hq,hqm⟩:=Q8 (L:=r.drop (i+1)) (k:=j) (by omega)
   rw [midS_at hq] at hinv2
   have hok2:=okMid_at hok1 hq
   have hl2:((r.drop (i+1)).drop (j+1)).length=(r.drop (i+1)).length-(j+1):=List.length_drop
   refine QH (f:=cPl) (y:=q) rfl rfl rfl (by omega) hq (gR 0 rfl (Ja (cs:=cPl q) rfl rfl (nL rfl) rfl (gR 9 rfl (Qm rfl rfl rfl (by omega) (gR 0 rfl (Qm rfl rfl rfl (by omega) (gR 0 rfl (rs_slc_r (l:=(i:Int)+(j:Int)+2) (q:=((r.map cPl).length:Nat)) (els':=((r.drop (i+1)).drop (j+1)).map cPl) rfl rfl rfl rfl rfl (by omega) (by simp; omega) (Int.le_refl _) (by rw [List.drop_drop]; exact slc_drop r _ (by omega)) (gR 0 rfl (Q1 rfl rfl (gR 3 rfl ?_)))))))))))
   refine Xv (α:=Nat×List Pt) (fun u=>((r.drop (i+1)).drop (j+1)).length-u.1) (fun u=>[(0,.yl 900),(1,.rp [.rs 4 (r.map cPl)]),(9,.rs 4 (r.map cPl)),(10,iv (r.length:Int)),(11,iv (((i):Nat):Int)),(3,iv (((i):Nat):Int)),(4,.ptr 4 0 0),(19,.rs 4 ((r.drop (i+1)).map cPl)),(20,iv ((r.drop (i+1)).length:Int)),(21,iv (((j):Nat):Int)),(5,iv (((j):Nat):Int)),(6,.ptr 6 0 0),(31,.rs 4 (((r.drop (i+1)).drop (j+1)).map cPl)),(32,iv (((r.drop (i+1)).drop (j+1)).length:Int)),(33,iv (((u.1):Nat):Int))]) (fun u=>[(900,.lp r0 [(10,.fn (.func 265) [.rp [.rs 4 (r.map cPl)]]),(1,.rp [.rs 4 (r.map cPl)]),(3,.ptr 1003 0 0),(4,.ptr 1004 0 0)]),(1003,.cells 269 1 [[.sl 903 0 (u.2).length]] false),(903,.cells 114 4 ((u.2).map cPt) true),(1004,.cells 311 1 [[.mp 1008]] false),(1008,.mset ((u.2).map ptK)),(901,.dead),(4,.cells 129 4 [cPl p] true),(6,.cells 129 4 [cPl q] true)]) (fun u=>u.1<=((r.drop (i+1)).drop (j+1)).length/\innS r p q u.2 (((r.drop (i+1)).drop (j+1)).drop u.1)=innS r p q m ((r.drop (i+1)).drop (j+1))/\u.2.length<=i*12100+j*110+u.1) (0,m) (⟨by omega,rfl,by omega⟩)
    (Qf (Qk rfl rfl) (kS rfl rfl) (fun i hi=>by simp [Qa] at hi ⊢; omega)) ?_
   rintro ⟨k,n⟩ ⟨hk,hinv3,hnl⟩
   dsimp only at hk hinv3 hnl ⊢
   refine gT 5 rfl (Qc rfl (fun h34=>?_) (fun h34=>?_))
   ·refine gK 5 rfl ?_
    obtain ⟨s,hs,hsm⟩:=Q8 (L:=(r.drop (i+1)).drop (j+1)) (k:=k) (by omega)
    rw [innS_at hs] at hinv3
    have hokt:=List.all_eq_true.1 hok2 s hsm
    have hal:=accS_len r n p q s
    refine QH (f:=cPl) (y:=s) rfl rfl rfl (by omega) hs (gR 0 rfl (Ja (cs:=cPl s) rfl rfl (nL rfl) rfl (gR 10 rfl (rs_yield [(900,.lp r0 [(10,.fn (.func 265) [.rp [.rs 4 (r.map cPl)]]),(1,.rp [.rs 4 (r.map cPl)]),(3,.ptr 1003 0 0),(4,.ptr 1004 0 0)]),(1003,.cells 269 1 [[.sl 903 0 (n).length]] false),(903,.cells 114 4 ((n).map cPt) true),(1004,.cells 311 1 [[.mp 1008]] false),(1008,.mset ((n).map ptK))] rfl rfl rfl (y161 r hr p q s hokt n (by omega) r0 h) (.cons (Ql rfl) (.cons (Ql rfl) (.nil))) (.cons rfl (.cons rfl (.cons rfl (.cons rfl (.cons rfl (.nil)))))) rfl rfl rfl (gR 5 rfl (Qm rfl rfl rfl (by omega) (gR 2 rfl ?_)))))))
    exact X9 <| ⟨(k+1,JX r n p q s),⟨by show k+1<=_; omega,hinv3,by show (JX r n p q s).length<=i*12100+j*110+(k+1); omega⟩,by show _-(k+1)<_; omega,(Weak.trans (F1:=[(0,.yl 900),(1,.rp [.rs 4 (r.map cPl)]),(9,.rs 4 (r.map cPl)),(10,iv (r.length:Int)),(11,iv (((i):Nat):Int)),(3,iv (((i):Nat):Int)),(4,.ptr 4 0 0),(19,.rs 4 ((r.drop (i+1)).map cPl)),(20,iv ((r.drop (i+1)).length:Int)),(21,iv (((j):Nat):Int)),(5,iv (((j):Nat):Int)),(6,.ptr 6 0 0),(31,.rs 4 (((r.drop (i+1)).drop (j+1)).map cPl)),(32,iv (((r.drop (i+1)).drop (j+1)).length:Int)),(33,iv (((k+1):Nat):Int))]) (H1:=[(900,.lp r0 [(10,.fn (.func 265) [.rp [.rs 4 (r.map cPl)]]),(1,.rp [.rs 4 (r.map cPl)]),(3,.ptr 1003 0 0),(4,.ptr 1004 0 0)]),(1003,.cells 269 1 [[.sl 904 0 (JX r n p q s).length]] false),(904,.cells 114 4 ((JX r n p q s).map cPt) true),(1004,.cells 311 1 [[.mp 1008]] false),(1008,.mset ((JX r n p q s).map ptK)),(901,.dead),(4,.cells 129 4 [cPl p] true),(6,.cells 129 4 [cPl q] true)]) (Qf (Qk rfl rfl) (kS rfl rfl) (fun i hi=>by simp [Qa] at hi ⊢; omega)) (Weak.trans (F1:=[(0,.yl 900),(1,.rp [.rs 4 (r.map cPl)]),(9,.rs 4 (r.map cPl)),(10,iv (r.length:Int)),(11,iv (((i):Nat):Int)),(3,iv (((i):Nat):Int)),(4,.ptr 4 0 0),(19,.rs 4 ((r.drop (i+1)).map cPl)),(20,iv ((r.drop (i+1)).length:Int)),(21,iv (((j):Nat):Int)),(5,iv (((j):Nat):Int)),(6,.ptr 6 0 0),(31,.rs 4 (((r.drop (i+1)).drop (j+1)).map cPl)),(32,iv (((r.drop (i+1)).drop (j+1)).length:Int)),(33,iv (((k+1):Nat):Int))]) (Q0 (i:=904) (i':=903) (k:=1003) rfl rfl (.cons rfl (.same _) (.cons rfl (.same _) (.cons rfl (.same _) (.cons rfl (.same _) (.cons rfl (.same _) (.cons rfl (.same _) (.cons rfl (.same _) (.cons rfl (.same _) (.cons rfl (.same _) (.cons rfl (.same _) (.cons rfl (.same _) (.cons rfl (.same _) (.cons rfl (.same _) (.cons rfl (.same _) (.cons rfl (.same _) (.nil)))))))))))))))) (by decide) rfl (.sl _ _)) (Qf (Qk rfl rfl) (kS rfl rfl) (fun i hi=>by simp [Qa] at hi ⊢; omega))))⟩
   ·refine gK 2 rfl (Qm rfl rfl rfl (by omega) (gR 2 rfl ?_))
    have e:n=innS r p q m ((r.drop (i+1)).drop (j+1)):=by rw [← hinv3,List.drop_eq_nil_of_le (by omega)]; rfl
    exact X9 <| ⟨(j+1,n),⟨by show j+1<=_; omega,by rw [← hinv2,← e],by show n.length<=i*12100+(j+1)*110; omega⟩,by show _-(j+1)<_; omega,Qf (Qk rfl rfl) (kS rfl rfl) (fun i hi=>by simp [Qa] at hi ⊢; omega)⟩
  ·refine gK 2 rfl (Qm rfl rfl rfl (by omega) (gR 2 rfl ?_))
   have e:m=midS r p l (r.drop (i+1)):=by rw [← hinv2,List.drop_eq_nil_of_le (by omega)]; rfl
   exact X9 <| ⟨(i+1,m),⟨by show i+1<=_; omega,by rw [← hinv,← e],by show m.length<=(i+1)*12100; omega⟩,by show _-(i+1)<_; omega,Qf (Qk rfl rfl) (kS rfl rfl) (fun i hi=>by simp [Qa] at hi ⊢; omega)⟩
 ·refine gK 1 rfl ?_
  have e:l=cornS r:=by rw [← hinv,List.drop_eq_nil_of_le (by omega)]; rfl
  subst e
  exact Q5 <| ret_own_e (by first | exact .inl rfl | exact .inr rfl) rfl sm (kS rfl rfl) (.cons rfl rfl rfl (.cons rfl rfl rfl (.dead rfl rfl (.cons rfl rfl rfl (.cons rfl rfl rfl (.nil))))))
end Go.Proofs.YthmbjgnjfjjibaaGreatDoor
