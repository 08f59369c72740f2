/-
  Parts of the proof: Rk.
-/
import Derived.Test.YthmbjgnjfjjibaaGreatDoorK3
import Derived.Test.YthmbjgnjfjjibaaGreatDoorRows
import Derived.ProofKit
set_option linter.unusedVariables false
set_option linter.unusedSimpArgs false
namespace Go.Proofs.YthmbjgnjfjjibaaGreatDoor
open Go.RowKit
set_option maxRecDepth 100000
theorem hmx:Tryz.prog.follows .mixedOrders=true:=by kernel_rfl
variable {K:List Fp->Fr->Hp->Prop} {pre:List Nat}
section
variable {N:Nat} {Z:List Nat} {rn:Option Nat} {Q:Post} {F:Fr} {H:Hp} {c:MC} {k:KS} {r:RG} {nx:Fr->Hp->Prop} {ml:List MOper} {ms:Option (List MOper)} {acc:List Fp} {x:Fp} {e:Exit}
theorem gA (n:Nat) (h:rn1 n (.aw c .nil F H)=some r) (h2:RGi Tryz.prog N Z rn Q r):AW Tryz.prog N Z rn c Q F H:=go_a hmx n h h2
theorem gK (n:Nat) (h:rn1 n (.aw c k F H)=some r) (h2:RGi Tryz.prog N Z rn Q r):AW Tryz.prog N Z rn c (KS.post Tryz.prog N Z rn Q k) F H:=go_k hmx n h h2
theorem gT (n:Nat) (h:rn1 n (.aw c (.th nx k) F H)=some r) (h2:RGi Tryz.prog N Z rn Q r):AW Tryz.prog N Z rn c (Then nx (KS.post Tryz.prog N Z rn Q k)) F H:=go_t hmx n h h2
theorem gP (n:Nat) (h:rn1 n (lv F H e k)=some r) (h2:RGi Tryz.prog N Z rn Q r):KS.post Tryz.prog N Z rn Q k e F H:=go_p hmx n h h2
theorem gR (n:Nat) (h:rn1 n (.rs ml ms (x::acc) k F H)=some r) (h2:RGi Tryz.prog N Z rn Q r):RS Tryz.prog N ml F H (fun fps=>Kd Z ms acc (KS.post Tryz.prog N Z rn Q k) (x::fps)):=go_r hmx n h h2
theorem gI {r0:RG} (n:Nat) (h:rn1 n r0=some r) (h2:RGi Tryz.prog N Z rn Q r):RGi Tryz.prog N Z rn Q r0:=go_i hmx n h h2
theorem cN {d:Nat} {g:Option (Nat×Bool)} {f:Nat} {ar:List Arg} {vs:List AV} {r:AV} {H':Hp} (hv:XT F ar=some vs) (hg:(gOK F g&&(Qy [] vs&&newOk H [] H'))=true) (hfc:FC Tryz.prog f vs [] r H' false)
  (h:RS Tryz.prog N ml ((d,r)::F) (H'++H) (fun fps=>K (([],Qa H')::fps))):RS Tryz.prog N (⟨some d,.call f ar,g,pre⟩::ml) F H K:=by
 simp only [Bool.and_eq_true] at hg
 exact XM [] hg.1 hv hfc (hvs_same hg.2.1) hg.2.2 h
end
theorem nz {p:Nat->Prop}:∀ i,i∈([]:List Nat)->p i:=fun i h=>by cases h
abbrev oM (d s:Nat) (pre:List Nat):MOper:=⟨some d,.mv (.t s),none,pre⟩
abbrev oA (d k s:Nat) (pre:List Nat):MOper:=⟨some d,.fa k (.t s),none,pre⟩
abbrev oD (d k s:Nat) (pre:List Nat):MOper:=⟨some d,.ld false k (.t s),none,pre⟩
abbrev pM (d s:Nat) (t:Nat) (b:Bool) (pre:List Nat):MOper:=⟨some d,.mv (.t s),some (t,b),pre⟩
abbrev pA (d k s:Nat) (t:Nat) (b:Bool) (pre:List Nat):MOper:=⟨some d,.fa k (.t s),some (t,b),pre⟩
abbrev pD (d k s:Nat) (t:Nat) (b:Bool) (pre:List Nat):MOper:=⟨some d,.ld false k (.t s),some (t,b),pre⟩
variable {F:Fr} {H H0:Hp}
theorem KeptF.cs {F0:Fr} {t:Nat} {v:AV} (hs:KeptF H H0 F F0) (h:get F t=some v:=by exact rfl) (hv:Qr (Qa H0) v=true:=by exact rfl):KeptF H H0 F ((t,v)::F0):=.cons h (Xq hv (.inl rfl)) hs
theorem nL {n m:Nat} (h:Nat.ble n m=true):n<=m:=Nat.le_of_ble_eq_true h
abbrev oN (d:Nat) (op:MOp) (pre:List Nat):MOper:=⟨some d,op,none,pre⟩
instance instArg (n:Nat):OfNat Arg n:=⟨.t n⟩
abbrev cI (n:Int):Arg:=.c (.int .i64 n)
abbrev sq (l:List MOper) (y:MC):MC:=.seq (.reg l false) y
abbrev dq (l:List MOper) (y:MC):MC:=.seq (.reg l true) y
abbrev rg (l:List MOper):MC:=.reg l false
abbrev dg (l:List MOper):MC:=.reg l true
abbrev oB (d:Nat) (op:BinOp) (a b:Arg) (pre:List Nat):MOper:=⟨some d,.bin op a b,none,pre⟩
abbrev oL (d n:Nat) (a:Arg) (pre:List Nat):MOper:=⟨some d,.ld true n a,none,pre⟩
abbrev oE (d:Nat) (a:Arg) (pre:List Nat):MOper:=⟨some d,.len a,none,pre⟩
abbrev oX (d z:Nat) (a b:Arg) (pre:List Nat):MOper:=⟨some d,.ixsl z a b,none,pre⟩
abbrev oQ (d f:Nat) (l:List Arg) (pre:List Nat):MOper:=⟨some d,.call f l,none,pre⟩
abbrev oS (n:Nat) (a b:Arg) (pre:List Nat):MOper:=⟨none,.st n a b,none,pre⟩
abbrev up (n:Nat):List Nat:=List.range n
abbrev iz (n:Nat):List AV:=List.replicate n (.int .i64 0)
variable {N:Nat}
theorem bM {ml:List MOper} {d:Nat} {g:Option (Nat×Bool)} {e z len:Nat} {zero:List AV} {ps:List (Nat×Arg)} {α:Type} (f:α->List AV) (xs:List α) (hc:(gOK F g,fillS F z (reps len zero) ps,zero.length,get H d,Je z len (xs.flatMap f),Qi (xs.flatMap f))=(true,some (xs.flatMap f),z,none,xs.map f,true))
  (h:RS Tryz.prog N ml ((d,.sl d 0 len)::F) ((d,.cells e z (xs.map f) true)::H) (fun fps=>K (([],[d])::fps))):RS Tryz.prog N (⟨some d,.bslice e z zero len ps,g,pre⟩::ml) F H K:=bT hc h
theorem rQ {Z:List Nat} {rn:Option Nat} {rs:List ResultVar} {r:AV} {al:Bool} (h:(JD Tryz.prog F H rs).map Xl=some r:=by exact rfl) (hs:Qr [] r=true:=by exact rfl) (hn:noRO r=true:=by exact rfl):RGi Tryz.prog N Z rn (RetQ Tryz.prog [] rs r [] al) (.ex .ret F H):=ret_pureM h hs hn
abbrev oG (d:Nat) (op:MOp) (t:Nat) (b:Bool) (pre:List Nat):MOper:=⟨some d,op,some (t,b),pre⟩
theorem sm {v:AV} (hs:Qr (Qa H0) v=true:=by exact rfl):RC H H0 true v v:=Xq hs (.inl rfl)
theorem kf_inp:(Rows.retreatRestartRow.inPlace == Tryz.prog.inPlace 3)=true:=by kernel_rfl
theorem kf_unf:(Rows.retreatRestartRow.unfollowed == Tryz.prog.unfollowed 3)=true:=by kernel_rfl
theorem kf_rec:(Rows.retreatRestartRow.recurses == Tryz.prog.recurses 3)=true:=by kernel_rfl
theorem kf_nam:(Rows.retreatRestartRow.named == Tryz.prog.varsNamed 3)=true:=by kernel_rfl
theorem closed3:joinedFacts Tryz.prog 3 Tryz.f3 Rows.retreatRestartSpec Rows.retreatRestartRow=true:=by
 unfold joinedFacts
 rw [kf_inp,kf_unf,kf_rec,kf_nam]
 kernel_rfl
end Go.Proofs.YthmbjgnjfjjibaaGreatDoor
