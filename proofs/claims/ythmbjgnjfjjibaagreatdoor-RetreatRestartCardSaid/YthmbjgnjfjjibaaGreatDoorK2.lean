/-
  Parts of the proof: L20 L21 L22 L23 L24 L26 L27 L28 L29 L30 L31 L32 Lg Lh Li Lf E0 E1 E2 E3 E4 E5.
-/
import Derived.Test.YthmbjgnjfjjibaaGreatDoorK1
set_option linter.unusedVariables false
set_option linter.unusedSimpArgs false
namespace Go.Proofs.YthmbjgnjfjjibaaGreatDoor
open Go.RowKit
set_option maxRecDepth 100000
variable {i':Nat}
section
variable {P:Program} {N:Nat} {Z:List Nat} {rn:Option Nat} {Q:Post} {F F0:Fr} {H H0:Hp}
theorem Xv {x:MC} {α:Type} (m:α->Nat) (F0:α->Fr) (H0:α->Hp) (ok:α->Prop) (a:α) (hok:ok a) (hw:Weak N Z F H (F0 a) (H0 a))
  (round:∀ a,ok a->AW P N Z rn x (Then (fun F' H'=>∃ b,ok b/\m b<m a/\Weak N Z F' H' (F0 b) (H0 b)) Q) (F0 a) (H0 a)):AW P N Z rn (.loop x) Q F H:=by
 refine QC hw (aw_loop (fun n F H=>∃ a,ok a/\n=m a/\F=F0 a/\H=H0 a) (m a) ⟨a,hok,rfl,rfl,rfl⟩ ?_)
 rintro n F H ⟨a,hok,rfl,rfl,rfl⟩
 refine XG (round a hok) fun e F' H' q=>?_
 cases e with
 | normal =>
  obtain ⟨b,h1,h2,h3⟩:=q
  exact ⟨m b,F0 b,H0 b,h2,h3,b,h1,rfl,rfl,rfl⟩
 | _=>exact q
inductive KeptHs (H:Hp) (D:List Nat):Hp->Prop where
 | nil:KeptHs H D []
 | keep {i:Nat} {ob:Ob} {H0:Hp} (h:get H i=some ob) (hs:Q4 D ob=true) (r:KeptHs H D H0):KeptHs H D ((i,ob)::H0)
 | virt {i e z:Nat} {fl:Bool} {H0:Hp} (h:get H i=none) (r:KeptHs H D H0):KeptHs H D ((i,.cells e z [] fl)::H0)
theorem KeptHs.at_ {D:List Nat} (h:KeptHs H D H0):∀ i ob,get H0 i=some ob->(get H i=some ob/\Q4 D ob=true)\/(get H i=none/\∃ e z fl,ob = .cells e z [] fl):=by
 induction h with
 | nil=>intro i ob h; simp [get] at h
 | keep h hs _ ih =>
  intro k o hk
  simp only [get] at hk
  split at hk
  ·rename_i e; subst e; injection hk with hk; subst hk; exact .inl ⟨h,hs⟩
  ·exact ih k o hk
 | virt h _ ih =>
  intro k o hk
  simp only [get] at hk
  split at hk
  ·rename_i e; subst e; injection hk with hk; subst hk; exact .inr ⟨h,_,_,_,rfl⟩
  ·exact ih k o hk
theorem KeptHs.keptH (h:KeptHs H (Qa H0) H0):KeptH H H0 true:=fun i ob hi=>by
 rcases h.at_ i ob hi with ⟨h1,h2⟩ | h
 ·exact .inl ⟨h1,h2,.inl rfl⟩
 ·exact .inr h
theorem Qf (hF:KeptF H H0 F F0) (hH:KeptHs H (Qa H0) H0) (hZ:∀ i,i∈Z->i∈Qa H0):Weak N Z F H F0 H0:=weak_of hF hH.keptH hZ
inductive Ren (i i':Nat):AV->AV->Prop where
 | ptr (j o:Nat):Ren i i' (.ptr i j o) (.ptr i' j o)
 | sl (j n:Nat):Ren i i' (.sl i j n) (.sl i' j n)
 | sa (j o n:Nat):Ren i i' (.sa i j o n) (.sa i' j o n)
 | mp:Ren i i' (.mp i) (.mp i')
 | yl:Ren i i' (.yl i) (.yl i')
 | same (v:AV):Ren i i' v v
inductive RenF (i i':Nat) (F:Fr):Fr->Prop where
 | nil:RenF i i' F []
 | cons {t:Nat} {v v':AV} {F0:Fr} (h:get F t=some v) (hr:Ren i i' v v') (r:RenF i i' F F0):RenF i i' F ((t,v')::F0)
theorem RenF.at_ {i:Nat} (h:RenF i i' F F0):∀ t v',get F0 t=some v'->∃ v,get F t=some v/\Ren i i' v v':=by
 induction h with
 | nil=>intro t v h; simp [get] at h
 | cons h hr _ ih =>
  intro t' u hu
  simp only [get] at hu
  split at hu
  ·rename_i e; subst e; injection hu with hu; subst hu; exact ⟨_,h,hr⟩
  ·exact ih t' u hu
theorem weak_ren_s {i:Nat} {ob:Ob} (hi:get H i=some ob) (hi':get H i'=none) (hF:RenF i i' F F0):∀ S ρ a w,Conf N Z F H S ρ a w->∃ S' ρ',Conf N Z F0 ((i',ob)::(i,.dead)::H) S' ρ' a w/\ExtZ Z w S ρ (get H) w S' ρ' (get ((i',ob)::(i,.dead)::H))/\ρ' i'=ρ' i:=fun S ρ a w hc=>by
 have hne:i≠i':=fun e=>by rw [e,hi'] at hi; cases hi
 let ρ':Rho:=fun k=>if k=i' then ρ i else ρ k
 have hρ:∀ k x,ρ k=some x->ρ' k=some x:=fun k x h=>by
  have:k≠i':=fun e=>by rw [e,hc.hp.dom i' hi'] at h; cases h
  simp [ρ',this,h]
 have hg:∀ k,get ((i',ob)::(i,Ob.dead)::H) k=if i'=k then some ob else if i=k then some .dead else get H k:=fun k=>rfl
 -- a live row of the new heap,in the old one
 have live:∀ k o b z c,get ((i',ob)::(i,Ob.dead)::H) k=some o->o.live=true->ρ' k=some (some b,z,c)->∃ k0,(k=i'/\k0=i\/k≠i'/\k≠i/\k0=k)/\get H k0=some o/\ρ k0=some (some b,z,c):=fun k o b z c h1 h2 h3=>by
  rw [hg] at h1
  by_cases e:i'=k
  ·subst e
   simp at h1; subst h1
   exact ⟨i,.inl ⟨rfl,rfl⟩,hi,by simpa [ρ'] using h3⟩
  ·rw [if_neg e] at h1
   by_cases e2:i=k
   ·rw [if_pos e2] at h1; injection h1 with h1; subst h1; simp [Ob.live] at h2
   ·rw [if_neg e2] at h1
    exact ⟨k,.inr ⟨fun h=>e h.symm,fun h=>e2 h.symm,rfl⟩,h1,by simpa [ρ',show ¬ k=i' from fun h=>e h.symm] using h3⟩
 refine ⟨S,ρ',⟨⟨hc.fr.size,fun t v hv=>?_⟩,hc.defers.keep (Keep.refl _ _) (fun b hb=>.inl (by
  obtain ⟨k,o,z,c,_,h1,h2,h3⟩:=hb
  obtain ⟨k0,_,g1,g2⟩:=live k o b z c h1 h2 h3
  exact ⟨k0,o,z,c,trivial,g1,h2,g2⟩)),⟨hc.hp.hS,fun k hk=>?_,⟨fun k o _ hk=>?_,fun k j ok oj b z z' c c' _ _ hkj hgk hgj hlk hlj hrk hrj=>?_⟩⟩,fun k hk=>?_⟩,⟨Keep.refl _ _,fun b hb=>hb,fun b hb=>.inl hb,fun b hb=>?_,fun k hk=>?_⟩,by simp [ρ',hne]⟩
 ·obtain ⟨u,h1,h2⟩:=hF.at_ t v hv
  have h3:=hc.fr.at_ t u h1
  generalize a.tmps.getD t undef=cv at h3 ⊢
  cases h2 with
  | ptr j o =>
   obtain ⟨b,z,cap,q1,q2⟩:=h3.ptr_inv
   rw [q2]
   exact .ptr i' j o b z cap (by simpa [ρ'] using q1)
  | sl j n =>
   rcases h3.sl_inv with ⟨b,z,cap,cap',q1,q2,q3,q4⟩ | ⟨z,q1,q2,q3,q4⟩
   ·rw [q4]; exact .sl i' j n b z cap cap' (by simpa [ρ'] using q1) q2 q3
   ·subst q2 q3; rw [q4]; exact .sl0 i' z (by simpa [ρ'] using q1)
  | sa j o n =>
   cases h3 with
   | cl h=>cases h
   | sa _ _ _ _ b z cap cap' q1 q2=>exact .sa i' j o n b z cap cap' (by simpa [ρ'] using q1) q2
  | mp =>
   cases h3 with
   | cl h=>cases h
   | mp _ b z cap q1=>exact .mp i' b z cap (by simpa [ρ'] using q1)
  | yl =>
   cases h3 with
   | cl h=>cases h
   | yl _ b z cap q1=>exact .yl i' b z cap (by simpa [ρ'] using q1)
  | same=>exact h3.mono (fun _ h=>h) (fun _ _ _ h=>h) hρ
 ·rw [hg] at hk
  split at hk
  ·cases hk
  ·rename_i e
   split at hk
   ·cases hk
   ·simpa [ρ',show ¬ k=i' from fun h=>e h.symm] using hc.hp.dom k hk
 ·have mono:∀ (o:Ob) (bk:Option Nat) (z cap:Nat),(∀ b,bk=some b->o.live=true->¬ S b)->OR w S ρ o bk z cap->OR w S ρ' o bk z cap:=fun o bk z cap hb h =>
   OR.mono (fun _ h=>h) (fun _ _ _ h=>h) hρ (fun b e hl=>⟨rfl,hb b e hl⟩) h
  rw [hg] at hk
  by_cases e:i'=k
  ·subst e
   simp at hk; subst hk
   obtain ⟨bk,z,cap,q1,q2⟩:=hc.hp.at_.ob i ob trivial hi
   exact ⟨bk,z,cap,by simpa [ρ'] using q1,mono ob bk z cap (fun b e hl=>(hc.hp.cells_ne hi hl (by rw [q1,e])).1) q2⟩
  ·rw [if_neg e] at hk
   by_cases e2:i=k
   ·rw [if_pos e2] at hk; injection hk with hk; subst hk e2
    obtain ⟨bk,z,cap,q1,q2⟩:=hc.hp.at_.ob i ob trivial hi
    exact ⟨bk,z,cap,by simpa [ρ',hne] using q1,trivial⟩
   ·rw [if_neg e2] at hk
    obtain ⟨bk,z,cap,q1,q2⟩:=hc.hp.at_.ob k o trivial hk
    exact ⟨bk,z,cap,by simpa [ρ',show ¬ k=i' from fun h=>e h.symm] using q1,mono o bk z cap (fun b e hl=>(hc.hp.cells_ne hk hl (by rw [q1,e])).1) q2⟩
 ·obtain ⟨k0,a1,a2,a3⟩:=live k ok b z c hgk hlk hrk
  obtain ⟨j0,b1,b2,b3⟩:=live j oj b z' c' hgj hlj hrj
  refine hc.hp.at_.dis k0 j0 ok oj b z z' c c' trivial trivial ?_ a2 b2 hlk hlj a3 b3
  rcases a1 with ⟨rfl,rfl⟩ | ⟨a1,a4,rfl⟩ <;> rcases b1 with ⟨rfl,rfl⟩ | ⟨b1,b4,rfl⟩
  ·exact absurd rfl hkj
  ·exact fun e=>b4 e.symm
  ·exact a4
  ·exact hkj
 ·rw [hg]
  split
  ·simp
  ·split
   ·simp
   ·exact hc.z k hk
 ·obtain ⟨k,o,z,cap,_,h1,h2,h3⟩:=hb
  obtain ⟨k0,_,a2,a3⟩:=live k o b z cap h1 h2 h3
  exact .inl ⟨k0,o,z,cap,trivial,a2,h2,a3⟩
 ·have:k≠i':=fun e=>hc.z k hk (by rw [e]; exact hi')
  simp [ρ',this]
theorem weak_ren {i:Nat} {ob:Ob} (hi:get H i=some ob) (hi':get H i'=none) (hF:RenF i i' F F0):Weak N Z F H F0 ((i',ob)::(i,.dead)::H):=fun S ρ a w hc=>by
 obtain ⟨S',ρ',h1,h2,_⟩:=weak_ren_s (Z:=Z) hi hi' hF S ρ a w hc
 exact ⟨S',ρ',h1,h2⟩
theorem XR {i:Nat} {ob:Ob} {F1:Fr} {H1:Hp} (hF:KeptF H H1 F F1) (hH:KeptHs H (Qa H1) H1) (hZ:∀ k,k∈Z->k∈Qa H1)
  (hi:get H1 i=some ob) (hi':get H1 i'=none) (hR:RenF i i' F1 F0) (hF2:KeptF ((i',ob)::(i,.dead)::H1) H0 F0 F0) (hH2:KeptHs ((i',ob)::(i,.dead)::H1) (Qa H0) H0) (hZ2:∀ k,k∈Z->k∈Qa H0):Weak N Z F H F0 H0 :=
 (Qf hF hH hZ).trans ((weak_ren hi hi' hR).trans (Qf hF2 hH2 hZ2))
end
end Go.Proofs.YthmbjgnjfjjibaaGreatDoor
namespace Go.Proofs.YthmbjgnjfjjibaaGreatDoor
open Go.RowKit
set_option maxRecDepth 100000
variable {fl':Bool}
variable {r:AV} {al:Bool}
section
variable {P:Program} {N:Nat} {Z:List Nat} {rn:Option Nat} {Q:Post} {F:Fr} {H:Hp} {ml:List MOper} {K:List Fp->Fr->Hp->Prop} {d:Nat} {g:Option (Nat×Bool)} {pre:List Nat}
theorem Qg {rs:List ResultVar} {vs:List AV} (h:JD P F H rs=some vs) (hr:Xl vs=r) (hs:Qr [] r=true) (hn:al=true\/noRO r=true):RetQ P [] rs r [] al .ret F H :=
 ⟨.inr rfl,vs,h,by rw [hr]; exact Xq hs hn,keptH_nil,fun i hi=>by cases hi⟩
section bin
variable {x y:Arg} {k:IntKind} {a b c:Int}
theorem rs_leq (hg:gOK F g=true) (hx:Qe F x=some (.int k a)) (hy:Qe F y=some (.int k b)) (h:RS P N ml ((d,.bool (decide (a<=b)))::F) H (fun fps=>K (([],[])::fps))):RS P N (⟨some d,.bin .leq x y,g,pre⟩::ml) F H K:=JM hg hx hy ⟨rfl,h⟩
theorem rs_gtr (hg:gOK F g=true) (hx:Qe F x=some (.int k a)) (hy:Qe F y=some (.int k b)) (h:RS P N ml ((d,.bool (decide (a>b)))::F) H (fun fps=>K (([],[])::fps))):RS P N (⟨some d,.bin .gtr x y,g,pre⟩::ml) F H K:=JM hg hx hy ⟨rfl,h⟩
theorem rs_geq (hg:gOK F g=true) (hx:Qe F x=some (.int k a)) (hy:Qe F y=some (.int k b)) (h:RS P N ml ((d,.bool (decide (a ≥ b)))::F) H (fun fps=>K (([],[])::fps))):RS P N (⟨some d,.bin .geq x y,g,pre⟩::ml) F H K:=JM hg hx hy ⟨rfl,h⟩
theorem QS (hg:gOK F g=true) (hx:Qe F x=some (.int k a)) (hy:Qe F y=some (.int k b)) (h:RS P N ml ((d,.bool (decide (a=b)))::F) H (fun fps=>K (([],[])::fps))):RS P N (⟨some d,.bin .eql x y,g,pre⟩::ml) F H K :=
 JM hg hx hy ⟨rfl,by rw [show (a == b)=decide (a=b) from rfl]; exact h⟩
theorem Jv (hg:gOK F g=true) (hx:Qe F x=some (.int k a)) (hy:Qe F y=some (.int k b)) (h:RS P N ml ((d,.bool (decide (a≠b)))::F) H (fun fps=>K (([],[])::fps))):RS P N (⟨some d,.bin .neq x y,g,pre⟩::ml) F H K :=
 JM hg hx hy ⟨rfl,by
  rw [show (a != b)=decide (a≠b) by by_cases e:a=b <;> simp [e]]; exact h⟩
theorem Jf (hg:gOK F g=true) (hx:Qe F x=some (.int k a)) (hy:Qe F y=some (.int k b)) (hc:k.wrap (a+b)=c) (h:RS P N ml ((d,.int k c)::F) H (fun fps=>K (([],[])::fps))):RS P N (⟨some d,.bin .add x y,g,pre⟩::ml) F H K:=JM hg hx hy ⟨rfl,by rw [hc]; exact h⟩
theorem rs_subw (hg:gOK F g=true) (hx:Qe F x=some (.int k a)) (hy:Qe F y=some (.int k b)) (hc:k.wrap (a-b)=c) (h:RS P N ml ((d,.int k c)::F) H (fun fps=>K (([],[])::fps))):RS P N (⟨some d,.bin .sub x y,g,pre⟩::ml) F H K:=JM hg hx hy ⟨rfl,by rw [hc]; exact h⟩
theorem QA (hg:gOK F g=true) (hx:Qe F x=some (.int k a)) (hy:Qe F y=some (.int k b)) (hc:k.wrap (a*b)=c) (h:RS P N ml ((d,.int k c)::F) H (fun fps=>K (([],[])::fps))):RS P N (⟨some d,.bin .mul x y,g,pre⟩::ml) F H K:=JM hg hx hy ⟨rfl,by rw [hc]; exact h⟩
theorem XC (hg:gOK F g=true) (hx:Qe F x=some (.int k a)) (hy:Qe F y=some (.int k b)) (h0:b≠0) (hc:k.wrap (a.tdiv b)=c) (h:RS P N ml ((d,.int k c)::F) H (fun fps=>K (([],[])::fps))):RS P N (⟨some d,.bin .quo x y,g,pre⟩::ml) F H K:=JM hg hx hy ⟨rfl,h0,by rw [hc]; exact h⟩
theorem Jl (hg:gOK F g=true) (hx:Qe F x=some (.int k a)) (hy:Qe F y=some (.int k b)) (h0:b≠0) (hc:a.tmod b=c) (h:RS P N ml ((d,.int k c)::F) H (fun fps=>K (([],[])::fps))):RS P N (⟨some d,.bin .rem x y,g,pre⟩::ml) F H K:=JM hg hx hy ⟨rfl,h0,by rw [hc]; exact h⟩
end bin
section lists
variable {α:Type} {f:α->List AV} {xs:List α} {z e:Nat} {x i:Arg} {t:Nat} {k:IntKind} {fl:Bool}
theorem Q1 (hg:gOK F g=true) (hx:Qe F x=some (.rs z (xs.map f))) (h:RS P N ml ((d,.int .i64 xs.length)::F) H (fun fps=>K (([],[])::fps))):RS P N (⟨some d,.len x,g,pre⟩::ml) F H K:=JL hg hx (by simp) h
theorem rs_ix_m (hg:gOK F g=true) (hx:Qe F x=some (.rs z (xs.map f))) (hi:Qe F i=some (.int k (t:Int))) (ht:t<xs.length)
  (h:RS P N ml ((d,.rp (f xs[t]))::F) H (fun fps=>K (([],[])::fps))):RS P N (⟨some d,.ixsl z x i,g,pre⟩::ml) F H K:=rs_ix_r hg hx hi (by omega) (by simpa using ht) (by simp [ht]) h
theorem rs_ix_sm {a n:Nat} (hg:gOK F g=true) (hx:Qe F x=some (.sl a 0 n)) (hi:Qe F i=some (.int k (t:Int))) (ha:get H a=some (.cells e z (xs.map f) fl)) (ht:t<n)
  (h:RS P N ml ((d,.ptr a t 0)::F) H (fun fps=>K (([a],[])::fps))):RS P N (⟨some d,.ixsl z x i,g,pre⟩::ml) F H K:=rs_ix_s hg hx hi ha (by omega) (by omega) (by simpa using h)
theorem rs_st_m {a n o:Nat} {y:Arg} {u:AV} {cs:List AV} {v:α} (hg:gOK F g=true) (hx:Qe F x=some (.ptr a t o)) (hy:Qe F y=some u) (ha:get H a=some (.cells e z (xs.map f) fl)) (ht:t<xs.length) (hc:X4 u=some cs) (hn:cs.length=n)
  (ho:o+n<=(f xs[t]).length) (he:Jj (f xs[t]) o cs=f v) (hfl:(fl&&Qi cs)=fl') (h:RS P N ml F ((a,.cells e z ((xs.set t v).map f) fl')::H) (fun fps=>K (([],[a])::fps))):RS P N (⟨none,.st n x y,g,pre⟩::ml) F H K :=
 rs_st hg hx hy ha hc (el:=f xs[t]) (by simp [ht]) hn ho (by rw [he,List.map_set]) hfl h
theorem rs_app_m {by_ a n:Nat} {zero:List AV} {s:Arg} {v:AV} {rd:List Nat} {y:α} (hg:gOK F g=true) (hs:Qe F s=some (.sl a 0 n)) (hx:Qe F x=some v) (ha:get H a=some (.cells e z (xs.map f) fl)) (hn:xs.length=n) (hsrc:JH H z v=some (rd,[f y]))
  (hz:zero.length=z) (hd:get H d=none) (hird:a ∉ rd) (hl:(f y).length=z) (hb:(n+1)*by_<=140737488355328) (h63:n+1<=9223372036854775807) (hfl:(fl&&Qi (f y))=fl')
  (h:RS P N ml ((d,.sl d 0 (n+1))::F) ((d,.cells e z ((xs++[y]).map f) fl')::(a,.dead)::H) (fun fps=>K ((rd,[a,d])::fps))):RS P N (⟨some d,.app e z by_ zero s x,g,pre⟩::ml) F H K :=
 rs_app (fl':=fl') hg hs hx ha hsrc hz hd (by simpa using hn) hird (by simpa using hl) rfl hb h63 (by rw [← hfl]; simp [X2]) (by simpa using h)
end lists
theorem Qz {op:BinOp} {x y:Arg} {k:IntKind} {a b:Int} {p:Prop} (hg:gOK F g=true) (hx:Qe F x=some (.int k a)) (hy:Qe F y=some (.int k b)) (hop:cmpV op a b=some p)
  (h1:p->RS P N ml ((d,.bool true)::F) H (fun fps=>K (([],[])::fps))) (h2:¬ p->RS P N ml ((d,.bool false)::F) H (fun fps=>K (([],[])::fps))):RS P N (⟨some d,.bin op x y,g,pre⟩::ml) F H K:=by
 by_cases h:p
 ·exact QZ hg hx hy hop h (h1 h)
 ·exact Xo hg hx hy hop h (h2 h)
theorem Qh {f:FuncId} {fn:Func} {mc:MC} {nt:Nat} {rs:List ResultVar} {args:List AV} {H':Hp} (hf:P.funcs[f]?=some fn) (hn:fn.ntmps=nt) (hr:fn.results.toList=rs)
  (hm:(match fn.body with | some c=>Qq P nt c | none=>none)=some mc) (hl:args.length<=nt) (h:AW P nt (Qa H) none mc (RetQ P (Qa H) rs r H' al) (params args 0) H):FC P f args H r H' al:=by
 subst hn hr
 split at hm
 ·rename_i c hb
  exact fc_of_aw hf hb hm hl h
 ·cases hm
abbrev ci (n:Int):List AV:=[.int .i64 n]
end
end Go.Proofs.YthmbjgnjfjjibaaGreatDoor
namespace Go.Proofs.YthmbjgnjfjjibaaGreatDoor
open Go.RowKit
set_option maxRecDepth 100000
def swp (a b:Nat) (k:Nat):Nat:=if k=a then b else if k=b then a else k
theorem swp_swp (a b k:Nat):swp a b (swp a b k)=k:=by
 unfold swp
 split
 ·rename_i h; subst h
  split
  ·rename_i h; exact h
  ·simp
 ·rename_i h1
  split
  ·rename_i h2; subst h2; simp
  ·simp
inductive RenV (σ:Nat->Nat):AV->AV->Prop where
 | closed {v:AV} (h:Qr [] v=true):RenV σ v v
 | ptr {i i' j o:Nat} (h:σ i=i'):RenV σ (.ptr i j o) (.ptr i' j o)
 | sl {i i' j n:Nat} (h:σ i=i'):RenV σ (.sl i j n) (.sl i' j n)
 | sa {i i' j o n:Nat} (h:σ i=i'):RenV σ (.sa i j o n) (.sa i' j o n)
 | mp {i i':Nat} (h:σ i=i'):RenV σ (.mp i) (.mp i')
 | yl {i i':Nat} (h:σ i=i'):RenV σ (.yl i) (.yl i')
 | fn {f:Fn} {cs cs':List AV} (hl:cs.length=cs'.length) (h:∀ (j:Nat) (v v':AV),cs[j]?=some v->cs'[j]?=some v'->RenV σ v v'):RenV σ (.fn f cs) (.fn f cs')
 | agg {cs cs':List AV} (hl:cs.length=cs'.length) (h:∀ (j:Nat) (v v':AV),cs[j]?=some v->cs'[j]?=some v'->RenV σ v v'):RenV σ (.agg cs) (.agg cs')
 | tup {cs cs':List AV} (hl:cs.length=cs'.length) (h:∀ (j:Nat) (v v':AV),cs[j]?=some v->cs'[j]?=some v'->RenV σ v v'):RenV σ (.tup cs) (.tup cs')
variable {v':AV} {σ:Nat->Nat}
theorem RenV.symm (hσ:∀ k,σ (σ k)=k) {v:AV} (h:RenV σ v v'):RenV σ v' v:=by
 induction h with
 | closed h=>exact .closed h
 | ptr h=>exact .ptr (by rw [← h,hσ])
 | sl h=>exact .sl (by rw [← h,hσ])
 | sa h=>exact .sa (by rw [← h,hσ])
 | mp h=>exact .mp (by rw [← h,hσ])
 | yl h=>exact .yl (by rw [← h,hσ])
 | fn hl _ ih=>exact .fn hl.symm fun j v v' h1 h2=>ih j v' v h2 h1
 | agg hl _ ih=>exact .agg hl.symm fun j v v' h1 h2=>ih j v' v h2 h1
 | tup hl _ ih=>exact .tup hl.symm fun j v v' h1 h2=>ih j v' v h2 h1
variable {S:Nat->Prop} {ρ ρ':Rho} {w:World}
theorem VR.ren (hρ:∀ i,ρ' (σ i)=ρ i) {v:AV} (h:RenV σ v v'):∀ {c:Value},VR w S ρ v c->VR w S ρ' v' c:=by
 have key:∀ {cs cs':List AV} {C:Array Value},cs.length=cs'.length->(∀ (j:Nat) (v v':AV),cs[j]?=some v->cs'[j]?=some v'->∀ {c:Value},VR w S ρ v c->VR w S ρ' v' c) →
   (∀ j v,cs[j]?=some v->VR w S ρ v (C.getD j undef))->∀ j v',cs'[j]?=some v'->VR w S ρ' v' (C.getD j undef):=fun {cs cs' C} hl ih h j v' hj=>by
  have hlt:j<cs.length:=by rw [hl]; exact (List.getElem?_eq_some_iff.1 hj).1
  exact ih j _ v' (List.getElem?_eq_getElem hlt) hj (h j _ (List.getElem?_eq_getElem hlt))
 induction h with
 | closed h=>intro c hv; exact hv.scope h (fun i hi=>by cases hi)
 | ptr h =>
  rename_i i i' j o
  intro c hv
  obtain ⟨b,z,cap,q1,rfl⟩:=hv.ptr_inv
  exact .ptr i' j o b z cap (by rw [← h,hρ]; exact q1)
 | sl h =>
  rename_i i i' j n
  intro c hv
  rcases hv.sl_inv with ⟨b,z,cap,cap',q1,q2,q3,rfl⟩ | ⟨z,q1,rfl,rfl,rfl⟩
  ·exact .sl i' j n b z cap cap' (by rw [← h,hρ]; exact q1) q2 q3
  ·exact .sl0 i' z (by rw [← h,hρ]; exact q1)
 | sa h =>
  rename_i i i' j o n
  intro c hv
  cases hv with
  | cl h=>cases h
  | sa _ _ _ _ b z cap cap' q1 q2=>exact .sa i' j o n b z cap cap' (by rw [← h,hρ]; exact q1) q2
 | mp h =>
  rename_i i i'
  intro c hv
  cases hv with
  | cl h=>cases h
  | mp _ b z cap q1=>exact .mp i' b z cap (by rw [← h,hρ]; exact q1)
 | yl h =>
  rename_i i i'
  intro c hv
  cases hv with
  | cl h=>cases h
  | yl _ b z cap q1=>exact .yl i' b z cap (by rw [← h,hρ]; exact q1)
 | fn hl _ ih =>
  intro c hv
  obtain ⟨C,rfl,hn,h2⟩:=hv.fn_inv
  exact .fn _ _ C (by rw [hn,hl]) (key hl ih h2)
 | agg hl _ ih =>
  intro c hv
  obtain ⟨C,rfl,hn,h1,h2⟩:=hv.agg_inv
  refine .agg _ C (by rw [hn,hl]) (fun j v' hj=>?_) (key hl ih h2)
  rename_i cs cs' _
  have hlt:j<cs.length:=by rw [hl]; exact (List.getElem?_eq_some_iff.1 hj).1
  exact h1 j _ (List.getElem?_eq_getElem hlt)
 | tup hl _ ih =>
  intro c hv
  obtain ⟨C,rfl,hn,h2⟩:=hv.tup_inv
  exact .tup _ C (by rw [hn,hl]) (key hl ih h2)
inductive RenOb (σ:Nat->Nat):Ob->Ob->Prop where
 | dead:RenOb σ .dead .dead
 | mset {ks:List (List Int)}:RenOb σ (.mset ks) (.mset ks)
 | glob {g:Nat} {cs:List AV}:RenOb σ (.glob g cs) (.glob g cs)
 | flat {e z:Nat} {els:List (List AV)}:RenOb σ (.cells e z els true) (.cells e z els true)
 | cells {e z:Nat} {els els':List (List AV)} {fl:Bool} (hl:els.length=els'.length)
   (h:∀ (j:Nat) (el el':List AV),els[j]?=some el->els'[j]?=some el'->el.length=el'.length/\∀ (o:Nat) (v v':AV),el[o]?=some v->el'[o]?=some v'->RenV σ v v'):RenOb σ (.cells e z els false) (.cells e z els' false)
variable {o':Ob}
theorem RenOb.symm (hσ:∀ k,σ (σ k)=k) {o:Ob} (h:RenOb σ o o'):RenOb σ o' o:=by
 cases h with
 | dead=>exact .dead
 | mset=>exact .mset
 | glob=>exact .glob
 | flat=>exact .flat
 | cells hl h =>
  refine .cells (fl:=false) hl.symm fun j el el' h1 h2=>?_
  obtain ⟨g1,g2⟩:=h j el' el h2 h1
  exact ⟨g1.symm,fun o v v' k1 k2=>(g2 o v' v k2 k1).symm hσ⟩
theorem RenOb.live {o:Ob} (h:RenOb σ o o'):o'.live=o.live:=by cases h <;> rfl
theorem OR.ren (hρ:∀ i,ρ' (σ i)=ρ i) {o:Ob} (hr:RenOb σ o o') {bk:Option Nat} {z cap:Nat} (h:OR w S ρ o bk z cap):OR w S ρ' o' bk z cap:=by
 cases hr with
 | dead=>trivial
 | mset=>exact h
 | glob=>exact h
 | flat =>
  obtain ⟨hz,h⟩:=h
  refine ⟨hz,?_⟩
  cases bk with
  | none=>exact h
  | some b =>
   obtain ⟨h0,hm,C,hC,h1,h2,h3,h4⟩:=h
   exact ⟨h0,hm,C,hC,h1,h2,h3,fun j el o v he hv=>by
    obtain ⟨q1,q2⟩:=h4 j el o v he hv
    rw [if_pos rfl] at q2 ⊢
    exact ⟨q1,q2⟩⟩
 | cells hl hc =>
  rename_i e z0 els els' _
  obtain ⟨hz,h⟩:=h
  refine ⟨hz,?_⟩
  cases bk with
  | none =>
   obtain ⟨rfl,h2⟩:=h
   exact ⟨List.length_eq_zero_iff.1 hl.symm,h2⟩
  | some b =>
   obtain ⟨h0,hm,C,hC,h1,h2,h3,h4⟩:=h
   have bk_:∀ (j:Nat) (el':List AV),els'[j]?=some el'->∃ el,els[j]?=some el/\el.length=el'.length/\∀ (o:Nat) (v v':AV),el[o]?=some v->el'[o]?=some v'->RenV σ v v':=fun j el' hj=>by
    have hlt:j<els.length:=by rw [hl]; exact (List.getElem?_eq_some_iff.1 hj).1
    exact ⟨_,List.getElem?_eq_getElem hlt,hc j _ el' (List.getElem?_eq_getElem hlt) hj⟩
   refine ⟨h0,hm,C,hC,h1,by rw [← hl]; exact h2,fun j el' hj=>?_,fun j el' o v' he hv=>?_⟩
   ·obtain ⟨el,g1,g2,_⟩:=bk_ j el' hj
    rw [← g2]; exact h3 j el g1
   ·obtain ⟨el,g1,g2,g3⟩:=bk_ j el' he
    have hlt:o<el.length:=by rw [g2]; exact (List.getElem?_eq_some_iff.1 hv).1
    obtain ⟨q1,q2⟩:=h4 j el o _ g1 (List.getElem?_eq_getElem hlt)
    rw [if_neg (by simp)] at q2 ⊢
    exact ⟨q1,VR.ren hρ (g3 o _ v' (List.getElem?_eq_getElem hlt) hv) q2⟩
inductive RenH (σ:Nat->Nat):Hp->Hp->Prop where
 | nil:RenH σ [] []
 | cons {i i':Nat} {o o':Ob} {H H':Hp} (h:σ i=i') (ho:RenOb σ o o') (r:RenH σ H H'):RenH σ ((i,o)::H) ((i',o')::H')
variable {H H':Hp}
theorem RenH.symm (hσ:∀ k,σ (σ k)=k) (h:RenH σ H H'):RenH σ H' H:=by
 induction h with
 | nil=>exact .nil
 | cons h ho _ ih=>exact .cons (by rw [← h,hσ]) (ho.symm hσ) ih
theorem RenH.at_ (hσ:∀ k,σ (σ k)=k) (h:RenH σ H H'):∀ k,(get H k=none/\get H' (σ k)=none)\/∃ o o',get H k=some o/\get H' (σ k)=some o'/\RenOb σ o o':=by
 induction h with
 | nil=>intro k; exact .inl ⟨rfl,rfl⟩
 | cons h ho _ ih =>
  rename_i i i' o o' H H' _
  intro k
  subst h
  simp only [get]
  by_cases e:i=k
  ·subst e; rw [if_pos rfl,if_pos rfl]; exact .inr ⟨o,o',rfl,rfl,ho⟩
  ·rw [if_neg e,if_neg (fun e2=>e (by rw [← hσ i,e2,hσ]))]; exact ih k
theorem HRF.ren (hσ:∀ k,σ (σ k)=k) (hρ:∀ i,ρ' (σ i)=ρ i) (hr:RenH σ H H') (h:HRF w S ρ (get H)):HRF w S ρ' (get H'):=by
 have hρ':∀ i,ρ' i=ρ (σ i):=fun i=>by rw [← hρ (σ i),hσ]
 have back:∀ k o',get H' k=some o'->∃ o,get H (σ k)=some o/\RenOb σ o o':=fun k o' hk=>by
  rcases hr.at_ hσ (σ k) with ⟨_,h2⟩ | ⟨o,o1,h1,h2,h3⟩
  ·rw [hσ,hk] at h2; cases h2
  ·rw [hσ,hk] at h2; injection h2 with h2; subst h2; exact ⟨o,h1,h3⟩
 refine ⟨h.hS,fun i hi=>?_,⟨fun i o' _ hi=>?_,fun i j oi oj b z z' c c' _ _ hne hi hj hli hlj hri hrj=>?_⟩⟩
 ·rw [hρ']
  apply h.dom
  rcases hr.at_ hσ (σ i) with ⟨h1,_⟩ | ⟨o,o1,_,h2,_⟩
  ·exact h1
  ·rw [hσ,hi] at h2; cases h2
 ·obtain ⟨o,g1,g2⟩:=back i o' hi
  obtain ⟨bk,z,cap,q1,q2⟩:=h.at_.ob _ o trivial g1
  exact ⟨bk,z,cap,by rw [hρ']; exact q1,q2.ren hρ g2⟩
 ·obtain ⟨a,g1,g2⟩:=back i oi hi
  obtain ⟨b',g3,g4⟩:=back j oj hj
  refine h.at_.dis (σ i) (σ j) a b' b z z' c c' trivial trivial (fun e=>hne (by rw [← hσ i,e,hσ])) g1 g3 (by rw [← g2.live]; exact hli) (by rw [← g4.live]; exact hlj) (by rw [← hρ']; exact hri) (by rw [← hρ']; exact hrj)
theorem LiveF.ren (hσ:∀ k,σ (σ k)=k) (hρ:∀ i,ρ' (σ i)=ρ i) (hr:RenH σ H H') {b:Nat} (h:LiveF ρ (get H) All b):LiveF ρ' (get H') All b:=by
 obtain ⟨i,o,z,cap,_,h1,h2,h3⟩:=h
 rcases hr.at_ hσ i with ⟨g1,_⟩ | ⟨o1,o',g1,g2,g3⟩
 ·rw [h1] at g1; cases g1
 ·rw [h1] at g1; injection g1 with g1; subst g1
  exact ⟨σ i,o',z,cap,trivial,g2,by rw [g3.live]; exact h2,by rw [hρ]; exact h3⟩
inductive RenVs (σ:Nat->Nat):List AV->List AV->Prop where
 | nil:RenVs σ [] []
 | cons {v v':AV} {l l':List AV} (h:RenV σ v v') (r:RenVs σ l l'):RenVs σ (v::l) (v'::l')
theorem RenVs.at_ {l l':List AV} (h:RenVs σ l l'):l.length=l'.length/\∀ (j:Nat) (v v':AV),l[j]?=some v->l'[j]?=some v'->RenV σ v v':=by
 induction h with
 | nil=>exact ⟨rfl,fun j v v' h=>by simp at h⟩
 | cons h _ ih =>
  refine ⟨by simp [ih.1],fun j v v' h1 h2=>?_⟩
  cases j with
  | zero=>simp at h1 h2; subst h1 h2; exact h
  | succ j=>exact ih.2 j v v' (by simpa using h1) (by simpa using h2)
theorem fc_ren {P:Program} {f:FuncId} {args args':List AV} {H1 H1':Hp} {r r1:AV} {al:Bool} (σ:Nat->Nat) (hσ:∀ k,σ (σ k)=k) (h:FC P f args H r H' al) (ha:RenVs σ args args') (hH:RenH σ H H1) (hr:RenV σ r r1) (hH':RenH σ H' H1'):FC P f args' H1 r1 H1' al:=by
 intro w S ρ cargs hh hv
 have e1:∀ i,(fun k=>ρ (σ k)) (σ i)=ρ i:=fun i=>by simp [hσ]
 obtain ⟨hl,hat⟩:=ha.at_
 refine Calls.mono (h w S (fun k=>ρ (σ k)) cargs (hh.ren hσ e1 (hH.symm hσ)) ⟨by rw [hv.1,hl],fun j v hj=>?_⟩) fun e w' ⟨cv,S',ρ',q1,q2,q3,q4,q5,q6,q7,q8⟩=>?_
 ·have hlt:j<args'.length:=by rw [← hl]; exact (List.getElem?_eq_some_iff.1 hj).1
  exact VR.ren (σ:=σ) e1 ((hat j v _ hj (List.getElem?_eq_getElem hlt)).symm hσ) (hv.2 j _ (List.getElem?_eq_getElem hlt))
 ·have e2:∀ i,(fun k=>ρ' (σ k)) (σ i)=ρ' i:=fun i=>by simp [hσ]
  have e3:∀ i,ρ' (σ i)=(fun k=>ρ' (σ k)) i:=fun i=>rfl
  have e4:∀ i,ρ (σ i)=(fun k=>ρ (σ k)) i:=fun i=>rfl
  have back:∀ i,get H1 i≠none->get H (σ i)≠none:=fun i hi h0=>by
   rcases hH.at_ hσ (σ i) with ⟨_,g2⟩ | ⟨o,o',g1,_,_⟩
   ·rw [hσ] at g2; exact hi g2
   ·rw [h0] at g1; cases g1
  refine ⟨cv,S',fun k=>ρ' (σ k),q1,VR.ren (σ:=σ) e2 hr q2,q3.ren hσ e2 hH',q4.mono fun b hb=>hb.ren hσ e4 hH,fun b hb=>(q5 b hb).imp id fun h=>h.imp (fun hb=>hb.ren hσ e4 hH) id,fun b hb=>?_,fun i hi=>?_,fun i hi=>?_⟩
  ·exact (q6 b (hb.ren hσ e3 (hH'.symm hσ))).imp (fun hb=>hb.ren hσ e4 hH) id
  ·show ρ' (σ i)=ρ i
   rw [q7 (σ i) (back i hi)]
   show ρ (σ (σ i))=ρ i
   rw [hσ]
  ·have:=q8 (σ i) (back i hi)
   rcases hH'.at_ hσ (σ i) with ⟨g1,_⟩ | ⟨o,o',_,g2,_⟩
   ·exact absurd g1 this
   ·rw [hσ] at g2; rw [g2]; simp
end Go.Proofs.YthmbjgnjfjjibaaGreatDoor
namespace Go.Proofs.YthmbjgnjfjjibaaGreatDoor
open Go.RowKit
set_option maxRecDepth 100000
variable {r:AV} {vs':List AV} {as:List Arg}
variable {H':Hp}
variable {Hs:Hp}
variable {rd:List Nat} {by_:Nat}
variable {ks:List (List Int)} {nk:Nat}
variable {al:Bool}
section
variable {P:Program} {N:Nat} {Z:List Nat} {rn:Option Nat} {Q:Post} {F F0:Fr} {H H0:Hp} {ml:List MOper} {K:List Fp->Fr->Hp->Prop} {d:Nat} {g:Option (Nat×Bool)} {pre:List Nat}
theorem rc_int {k:IntKind} {a b:Int} (h:a=b):RC H H0 al (.int k a) (.int k b):=by
 subst h; exact Xq rfl (.inr rfl)
theorem rc_eq {a b:AV} (h:a=b) (hs:Qr (Qa H0) b=true):RC H H0 true a b:=by
 subst h; exact Xq hs (.inl rfl)
theorem rs_mkmap (hg:gOK F g=true) (hd:get H d=none) (h:RS P N ml ((d,.mp d)::F) ((d,.mset [])::H) (fun fps=>K (([],[d])::fps))):RS P N (⟨some d,.mkmap,g,pre⟩::ml) F H K :=
 XL hg (by simp only [mev]; exact ⟨hd,h⟩)
theorem rs_mapadd {m k v:Arg} {i:Nat} {cs:List AV} {l:List Int} (hg:gOK F g=true) (hm:Qe F m=some (.mp i)) (hk:Qe F k=some (.agg cs)) (hv:Qe F v=some (.bool true)) (hi:get H i=some (.mset ks)) (hl:Jg cs=some l) (hn:l.length=nk) (hks:∀ q∈ks,q.length=nk) (hno:l ∉ ks)
  (h:RS P N ml F ((i,.mset (ks++[l]))::H) (fun fps=>K (([],[i])::fps))):RS P N (⟨none,.mapadd nk m k v,g,pre⟩::ml) F H K :=
 XL hg (by simp only [mev,hm,hk,hv,hi,hl]; exact ⟨hn,hks,hno,h⟩)
theorem rs_mhas {m k:Arg} {i:Nat} {cs:List AV} {l:List Int} (hg:gOK F g=true) (hm:Qe F m=some (.mp i)) (hk:Qe F k=some (.agg cs)) (hi:get H i=some (.mset ks)) (hl:Jg cs=some l) (hn:l.length=nk) (hks:∀ q∈ks,q.length=nk)
  (h:RS P N ml ((d,.bool (decide (l∈ks)))::F) H (fun fps=>K (([i],[])::fps))):RS P N (⟨some d,.mhas nk m k,g,pre⟩::ml) F H K :=
 XL hg (by simp only [mev,hm,hk,hi,hl]; exact ⟨hn,hks,h⟩)
theorem flat_map {α:Type} {f:α->List AV} (hf:∀ x,Qi (f x)=true):∀ xs:List α,X2 (xs.map f)=true
 | []=>rfl
 | x::xs=>by
  have:=flat_map hf xs
  simp only [List.map_cons,X2,hf,Bool.true_and]
  exact this
section
variable {α:Type} {f:α->List AV} {ys xs:List α} {z e:Nat} {x:Arg}
theorem rs_app_e {a n:Nat} {zero:List AV} {s:Arg} {v:AV} (hg:gOK F g=true) (hs:Qe F s=some (.sl a 0 0)) (hx:Qe F x=some v) (ha:get H a=some (.cells e z [] true)) (hsrc:JH H z v=some (rd,ys.map f))
  (hz:zero.length=z) (hd:get H d=none) (hird:a ∉ rd) (hl:∀ y,(f y).length=z) (hn:ys.length=n) (hb:n*by_<=140737488355328) (h63:n<=9223372036854775807) (hfl:∀ y,Qi (f y)=true)
  (h:RS P N ml ((d,.sl d 0 n)::F) ((d,.cells e z (ys.map f) true)::(a,.dead)::H) (fun fps=>K ((rd,[a,d])::fps))):RS P N (⟨some d,.app e z by_ zero s x,g,pre⟩::ml) F H K :=
 rs_app (m:=n) (fl':=true) hg hs hx ha hsrc hz hd rfl hird (by simp [hl]) (by simpa using hn) (by simpa using hb) (by simpa using h63) (by rw [flat_map hfl]; rfl) (by simpa using h)
theorem rs_app_mm {a n m:Nat} {zero:List AV} {s:Arg} {v:AV} (hg:gOK F g=true) (hs:Qe F s=some (.sl a 0 n)) (hx:Qe F x=some v) (ha:get H a=some (.cells e z (xs.map f) true)) (hsrc:JH H z v=some (rd,ys.map f))
  (hz:zero.length=z) (hd:get H d=none) (hird:a ∉ rd) (hl:∀ y,(f y).length=z) (hn:xs.length=n) (hm:ys.length=m) (hb:(n+m)*by_<=140737488355328) (h63:n+m<=9223372036854775807) (hfl:∀ y,Qi (f y)=true)
  (h:RS P N ml ((d,.sl d 0 (n+m))::F) ((d,.cells e z ((xs++ys).map f) true)::(a,.dead)::H) (fun fps=>K ((rd,[a,d])::fps))):RS P N (⟨some d,.app e z by_ zero s x,g,pre⟩::ml) F H K :=
 rs_app (m:=m) (fl':=true) hg hs hx ha hsrc hz hd (by simpa using hn) hird (by simp [hl]) (by simpa using hm) hb h63 (by rw [flat_map hfl]; rfl) (by simpa using h)
end
inductive SubH (H:Hp):Hp->Prop where
 | nil:SubH H []
 | cons {i:Nat} {ob:Ob} {Hs:Hp} (h:get H i=some ob) (r:SubH H Hs):SubH H ((i,ob)::Hs)
theorem SubH.at_ (h:SubH H Hs):∀ i ob,get Hs i=some ob->get H i=some ob:=by
 induction h with
 | nil=>intro i ob h; simp [get] at h
 | cons h _ ih =>
  intro k o hk
  simp only [get] at hk
  split at hk
  ·rename_i e; subst e; injection hk with hk; subst hk; exact h
  ·exact ih k o hk
def newOk (H Hs H':Hp):Bool:=(Qa H').all fun i=>(Qa Hs).contains i||(get H i).isNone
def domOk (Hs H':Hp):Bool:=(Qa Hs).all fun i=>(Qa H').contains i
theorem newOk_spec (h:newOk H Hs H'=true):∀ i,get H' i≠none->get Hs i=none->get H i=none:=fun i h1 h2=>by
 have:=List.all_eq_true.1 h i (Qp.2 h1)
 rcases Bool.or_eq_true _ _ ▸ this with h | h
 ·exact absurd h2 (Qp.1 (by simpa using h))
 ·simpa using h
theorem domOk_spec (h:domOk Hs H'=true):∀ i,get Hs i≠none->get H' i≠none:=fun i h1=>by
 have:=List.all_eq_true.1 h i (Qp.2 h1)
 exact Qp.1 (by simpa using this)
theorem X0 {f:Nat} {vs:List AV} (Hs:Hp) (hg:gOK F g=true) (hv:XT F as=some vs) (hfc:FC P f vs' Hs r H' true) (hh:HVs H Hs [] true vs vs') (hsub:SubH H Hs) (hsc:JI Hs=true)
  (hnew:newOk H Hs H'=true) (hdom:domOk Hs H'=true) (h:RS P N ml ((d,r)::F) (H'++H) (fun fps=>K (([],Qa H')::fps))):RS P N (⟨some d,.call f as,g,pre⟩::ml) F H K :=
 rs_callm hg hv hfc hh hsub.at_ hsc (newOk_spec hnew) (domOk_spec hdom) h
theorem XM {f:Nat} {vs:List AV} (rd:List Nat) (hg:gOK F g=true) (hv:XT F as=some vs) (hfc:FC P f vs' [] r H' false) (hh:HVs H [] rd false vs vs') (hnew:newOk H [] H'=true)
  (h:RS P N ml ((d,r)::F) (H'++H) (fun fps=>K ((rd,Qa H')::fps))):RS P N (⟨some d,.call f as,g,pre⟩::ml) F H K :=
 rs_call hg hv hfc hh (fun i hi=>newOk_spec hnew i (Qp.1 hi) rfl) h
inductive ZL (H H':Hp):List Nat->Prop where
 | nil:ZL H H' []
 | cons {i:Nat} {Z:List Nat} {ob ob2:Ob} (h:get H' i=some ob) (hl:ob.live=true) (h2:get H i=some ob2) (r:ZL H H' Z):ZL H H' (i::Z)
 | dead {i:Nat} {Z:List Nat} {ob ob2:Ob} (h:get H' i=some ob) (h2:get H i=some ob2) (r:ZL H H' Z):ZL H H' (i::Z)
theorem ZL.at_ (h:ZL H H' Z):∀ i,i∈Z->∃ ob,get H' i=some ob/\get H i≠none:=by
 induction h with
 | nil=>intro i h; cases h
 | cons h hl h2 _ ih =>
  intro i hi
  rcases List.mem_cons.1 hi with rfl | hi
  ·exact ⟨_,h,by rw [h2]; simp⟩
  ·exact ih i hi
 | dead h h2 _ ih =>
  intro i hi
  rcases List.mem_cons.1 hi with rfl | hi
  ·exact ⟨_,h,by rw [h2]; simp⟩
  ·exact ih i hi
theorem ret_own {rs:List ResultVar} {vs:List AV} (h:JD P F H rs=some vs) (hr:RC H H' true (Xl vs) r) (hk:KeptHs H (Qa H') H') (hz:ZL H H' Z):RetQ P Z rs r H' true .ret F H :=
 ⟨.inr rfl,vs,h,hr,hk.keptH,hz.at_⟩
def noROE:List (List AV)->Bool
 | []=>true
 | e::r=>noROL e&&noROE r
theorem noROE_mem:∀ {els:List (List AV)},noROE els=true->∀ el∈els,∀ v∈el,noRO v=true
 | e::r,h,el,he,v,hv=>by
  simp only [noROE,Bool.and_eq_true] at h
  rcases List.mem_cons.1 he with rfl | he
  ·exact Jr h.1 hv
  ·exact noROE_mem h.2 el he v hv
theorem noROE_map {α:Type} {f:α->List AV} (hf:∀ x,noROL (f x)=true):∀ xs:List α,noROE (xs.map f)=true
 | []=>rfl
 | x::xs=>by simp only [List.map_cons,noROE,hf,noROE_map hf xs,Bool.and_self]
inductive KeptHr (H:Hp) (D:List Nat):Hp->Prop where
 | nil:KeptHr H D []
 | keep {i e z:Nat} {els:List (List AV)} {fl:Bool} {H0:Hp} (h:get H i=some (.cells e z els fl)) (hs:Q4 D (.cells e z els fl)=true) (hn:noROE els=true) (r:KeptHr H D H0):KeptHr H D ((i,.cells e z els fl)::H0)
 | virt {i e z:Nat} {fl:Bool} {H0:Hp} (h:get H i=none) (r:KeptHr H D H0):KeptHr H D ((i,.cells e z [] fl)::H0)
theorem KeptHr.at_ {D:List Nat} (h:KeptHr H D H0):∀ i ob,get H0 i=some ob->(get H i=some ob/\Q4 D ob=true/\(al=true\/(((∀ r Fl,ob ≠ .lp r Fl)/\∀ g cs,ob ≠ .glob g cs)/\∀ e z els fl,ob = .cells e z els fl->∀ el∈els,∀ v∈el,noRO v=true)))\/(get H i=none/\∃ e z fl,ob = .cells e z [] fl):=by
 induction h with
 | nil=>intro i ob h; simp [get] at h
 | keep h hs hn _ ih =>
  intro k o hk
  simp only [get] at hk
  split at hk
  ·rename_i e; subst e; injection hk with hk; subst hk
   refine .inl ⟨h,hs,.inr ⟨⟨(fun r Fl h=>by cases h),fun g cs h=>by cases h⟩,fun e z els fl he=>?_⟩⟩
   injection he with e1 e2 e3 e4; subst e3
   exact noROE_mem hn
  ·exact ih k o hk
 | virt h _ ih =>
  intro k o hk
  simp only [get] at hk
  split at hk
  ·rename_i e; subst e; injection hk with hk; subst hk; exact .inr ⟨h,_,_,_,rfl⟩
  ·exact ih k o hk
theorem Xg {rs:List ResultVar} {vs:List AV} (h:JD P F H rs=some vs) (hr:RC H H' al (Xl vs) r) (hk:KeptHr H (Qa H') H'):RetQ P [] rs r H' al .ret F H :=
 ⟨.inr rfl,vs,h,hr,fun i ob hi=>hk.at_ i ob hi,fun i hi=>by cases hi⟩
end
end Go.Proofs.YthmbjgnjfjjibaaGreatDoor
namespace Go.Proofs.YthmbjgnjfjjibaaGreatDoor
open Go.RowKit
set_option maxRecDepth 100000
theorem rc_frz {α:Type} {f:α->List AV} {xs:List α} {H H0:Hp} {al:Bool} {i e z n:Nat} (h:get H i=some (.cells e z (xs.map f) true)) (h0:get H0 i=none) (hn:xs.length=n) (hf:∀ x,noROL (f x)=true):RC H H0 al (.sl i 0 n) (.rs z (xs.map f)):=by
 have:=rc_freeze (al:=al) (j:=0) (n:=n) h h0 (by simp; omega) (.inr fun el he v hv=>noROE_mem (noROE_map hf xs) el he v hv)
 rwa [List.drop_zero,List.take_of_length_le (by simp; omega)] at this
end Go.Proofs.YthmbjgnjfjjibaaGreatDoor
namespace Go.Proofs.YthmbjgnjfjjibaaGreatDoor
open Go.RowKit
set_option maxRecDepth 100000
variable {w:World}
variable {r:AV} {H':Hp} {vs':List AV} {as:List Arg} {dst:Option Nat}
variable {ops:Array Oper}
variable {name:String}
variable {neg:Bool}
section
variable {P:Program} {N:Nat} {Z:List Nat} {rn:Option Nat} {Q:Post} {F F0:Fr} {H H0:Hp} {ml:List MOper} {K:List Fp->Fr->Hp->Prop} {d:Nat} {g:Option (Nat×Bool)} {pre:List Nat}
theorem J5 {t:Nat} {x:Arg} {v:AV} (hg:gOK F g=true) (hx:Qe F x=some v) (hc:QB v=true) (h:RS P N ml ((d,.ifc t v)::F) H (fun fps=>K (([],[])::fps))):RS P N (⟨some d,.mkif t x,g,pre⟩::ml) F H K :=
 XL hg (by simp only [mev,hx]; exact ⟨hc,h⟩)
theorem rs_ifnil_n {x:Arg} (hg:gOK F g=true) (hx:Qe F x=some .nili) (h:RS P N ml ((d,.bool (!neg))::F) H (fun fps=>K (([],[])::fps))):RS P N (⟨some d,.ifnil neg x,g,pre⟩::ml) F H K :=
 XL hg (by simp only [mev,hx]; exact h)
theorem rs_ifnil_i {x:Arg} {t:Nat} {v:AV} (hg:gOK F g=true) (hx:Qe F x=some (.ifc t v)) (h:RS P N ml ((d,.bool neg)::F) H (fun fps=>K (([],[])::fps))):RS P N (⟨some d,.ifnil neg x,g,pre⟩::ml) F H K :=
 XL hg (by simp only [mev,hx]; exact h)
theorem rs_aeq {n:Nat} {x y:Arg} {as bs:List AV} (la lb:List Int) {b:Bool} (hg:gOK F g=true) (hx:Qe F x=some (.agg as)) (hy:Qe F y=some (.agg bs)) (ha:Jg as=some la) (hb:Jg bs=some lb) (hla:la.length=n) (hlb:lb.length=n) (hbb:(neg != decide (la=lb))=b)
  (h:RS P N ml ((d,.bool b)::F) H (fun fps=>K (([],[])::fps))):RS P N (⟨some d,.aeq neg n x y,g,pre⟩::ml) F H K :=
 XL hg (by simp only [mev,hx,hy,ha,hb]; subst hbb; exact ⟨hla,hlb,h⟩)
theorem run_nilAhead {t:TypeId} {f:FuncId} (h:methF P t name=some f) (k:Nat) (v:Value) (w:World):(nilAhead (k+1) t v name).run P w = .ok (some false) w:=by
 obtain ⟨i,m,d,hi,hm,hp,hf,hu,hd⟩:=methF_parts h
 unfold nilAhead
 simp only [Sem.run_bind,run_tinfo hi,Result.andThen_ok,hm,hp,followBlind,Sem.run_pure,hf,run_underlying hu]
 cases d <;> first | rfl | (exact absurd rfl (hd _))
theorem stepM_opt {o:Oper} {mo:MOper} (hc:QN P N ops o=some mo) {rd wr:List Nat} {v:AV} {H1:Hp} (hoff:∀ i,i ∉ wr->get H1 i=get H i) (hon:∀ i,i∈wr->(get H1 i).isSome=true) (hop:OpT P o mo.op.slots F H rd wr v H1)
  (hg:mo.guard=none\/∃ g want,mo.guard=some (g,want)/\get F g=some (.bool want)):StepM P N ops o mo F H rd wr v H1:=by
 refine ⟨hoff,hon,fun rn S ρ a w Q K' hout hN hF hS hH hnew hK'=>?_⟩
 obtain ⟨e1,_⟩:=Q3 hc
 unfold wpG
 rw [if_pos (guard_wanted hc hF hg)]
 exact wpIn_of_wp (compOp_nd e1) ((hop S ρ a w Q K' (fun t ht v hv=>hF t (by simp [MOper.slots,ht]) v hv) hS hH hnew hK').resolve_right fun h=>hout h.2)
theorem rs_invn {x:Arg} {t:Nat} {v:AV} {vs:List AV} {f:FuncId} (rd:List Nat) (hg:gOK F g=true) (hx:Qe F x=some (.ifc t v)) (hm:methF P t name=some f) (hent:Xj P f=true) (hv:XT F as=some vs) (hfc:FC P f vs' [] r H' false)
  (hh:HVs H [] rd false (v::vs) vs') (hnew:newOk H [] H'=true)
  (h:RS P N ml (putF F dst r) (H'++H) (fun fps=>K ((rd,Qa H')::fps))):RS P N (⟨dst,.inv name x as,g,pre⟩::ml) F H K :=
 rs_cons fun ops o hc=>⟨r,rd,Qa H',H'++H,JC hc (gOK_spec hg) (enters_inv hc rfl hx hm hent hv) hfc hh.hands (fun _=>rfl) (fun i ob h=>by simp [get] at h) (fun i ob h=>by simp [get] at h) (fun i _=>rfl)
  (fun i hi _=>newOk_spec hnew i hi rfl) (fun i h=>absurd rfl h),h⟩
def XB (P:Program) (c:Array Value) (w:World) (R:Ending->World->Prop):Prop:=∃ l rest,c = #[.func (.yield l) #[] #[]]++rest/\YieldAt Fence.wide 0 P l rest w R
theorem yieldSem_mono:SemMono (XB P):=fun hr ⟨l,rest,e,fn,tmps,as,body,h1,h2⟩=>⟨l,rest,e,fn,tmps,as,body,h1,h2.mono hr⟩
theorem roundIn_Fc {r:Option Nat} {n m:Nat} {l:Nat} {f:FuncId} {tmps:Array Value} {assign body:Code} {R:Ending->World->Prop} (h:RoundIn Fence.wide n P l f tmps assign body w R):RoundIn (Fc r) m P l f tmps assign body w R :=
 ⟨Fc_fn r f,fun c cs _=>by
  obtain ⟨e,w',q,s⟩:=h.2 c cs (room_wide _)
  exact ⟨e,w',q,by rw [fenced_Fc]; exact s⟩⟩
theorem VR.yl_inv {S:Nat->Prop} {ρ:Rho} {i:Nat} {c:Value} (h:VR w S ρ (.yl i) c):∃ b z cap,ρ i=some (some b,z,cap)/\c = .func (.yield b) #[] #[]:=by
 cases h with
 | cl h=>cases h
 | yl _ b z cap h=>exact ⟨b,z,cap,h,rfl⟩
theorem enters_yield {o:Oper} {mo:MOper} (hc:QN P N ops o=some mo) {fa:Arg} (hop:mo.op = .callv fa as) {vs:List AV} {i:Nat} (hf:Qe F fa=some (.yl i)) (hv:XT F as=some vs) :
  EntersG P o mo F (XB P) (.yl i::vs):=by
 obtain ⟨e1,_⟩:=Q3 hc
 rw [hop] at e1
 intro rn S ρ a w hF
 cases ho:o.op with
 | call c =>
  rw [ho] at e1
  simp only [Q7,J0] at e1
  split at e1
  ·split at e1
   ·split at e1 <;> simp at e1
   ·cases e1
  ·rename_i t hcal
   split at e1
   ·rename_i as' has
    injection e1 with e1
    injection e1 with e2 e3
    subst e2 e3
    obtain ⟨q1,q2⟩:=cargs_ok hF _ _ _ has (fun t ht=>by simp [MOper.slots,hop,MOp.slots,ht]) hv
    have hfv:=Qd (x:=.tmp t) (r:=.t t) rfl hF (fun k hk=>List.mem_append_left _ (by rw [hop]; exact List.mem_append_left _ hk)) hf
    obtain ⟨b,z,cap,e4,e5⟩:=hfv.yl_inv
    have earr:c.args.map a.eval=(c.args.toList.map a.eval).toArray:=by rw [← Array.toList_map,Array.toArray_toList]
    have hvr:VRs w S ρ (.yl i::vs) (#[.func (.yield b) #[] #[]]++c.args.map a.eval):=by
     rw [earr]
     refine ⟨by simp at q1 ⊢; omega,fun j u hj=>?_⟩
     cases j with
     | zero =>
      simp at hj; subst hj
      rw [Array.getD_eq_getD_getElem?,Array.getElem?_append_left (by simp)]
      exact .yl i b z cap e4
     | succ j =>
      have:=q2 j u (by simpa using hj)
      rw [Array.getD_eq_getD_getElem?] at this ⊢
      rw [Array.getElem?_append_right (by simp)]
      simpa using this
    refine ⟨_,hvr,fun K Q h=>?_⟩
    ·obtain ⟨l,rest,e6,fn,tmps,as,body,h1,h2⟩:=h
     have e7:=congrArg Array.toList e6
     simp only [Array.toList_append,List.cons_append,List.nil_append,List.cons.injEq,Value.func.injEq,Fn.yield.injEq,and_true] at e7
     obtain ⟨rfl,e8⟩:=e7
     have e9:c.args.map a.eval=rest:=Array.ext' e8
     obtain ⟨cmp,_⟩:=Q3 hc
     refine ⟨fun f _=>Fc_fn rn f,?_⟩
     rw [Oper.semAt_eq _ _ _ (compOp_nd cmp)]
     have hrun:(execOp a.eval o).run P w = .ok (.round b fn tmps as body) w:=by
      simp [execOp,ho,resolve,hcal,e5,Deferred.ofValue,invoke,e9,h1]
     rw [hrun]
     refine ⟨fun hd=>(Fc_depth rn hd).elim,roundIn_Fc (h2.mono fun e w' hk=>?_)⟩
     obtain ⟨cv,he,hk⟩:=hk
     subst he
     exact hk
   ·cases e1
  all_goals (repeat' split at e1) <;> simp at e1
 | _=>rw [ho] at e1; simp only [Q7,J2] at e1; (repeat' split at e1) <;> first | contradiction | (unfold JW at e1; (repeat' split at e1) <;> (cases e1; done)) | (cases e1; done) | (obtain ⟨r,_,e2⟩:=map_some e1; cases e2)
theorem rs_yield {fa:Arg} {vs:List AV} {i:Nat} (Hs:Hp) (hg:gOK F g=true) (hf:Qe F fa=some (.yl i)) (hv:XT F as=some vs) (hfc:FCg (XB P) vs' Hs r H' true)
  (hh:HVs H Hs [] true (.yl i::vs) vs') (hsub:SubH H Hs) (hsc:JI Hs=true) (hnew:newOk H Hs H'=true) (hdom:domOk Hs H'=true)
  (h:RS P N ml (putF F dst r) (H'++H) (fun fps=>K (([],Qa H')::fps))):RS P N (⟨dst,.callv fa as,g,pre⟩::ml) F H K :=
 rs_cons fun ops o hc=>⟨r,[],Qa H',H'++H,step_callg (sem:=XB P) yieldSem_mono hc (gOK_spec hg) (enters_yield hc rfl hf hv) hfc hh.hands (fun h=>(by cases h)) hsub.at_ (scopedHs_spec hsc) (fun i h=>(by cases h)) (newOk_spec hnew) (domOk_spec hdom),h⟩
end
end Go.Proofs.YthmbjgnjfjjibaaGreatDoor
namespace Go.Proofs.YthmbjgnjfjjibaaGreatDoor
open Go.RowKit
set_option maxRecDepth 100000
variable {r':Loop}
variable {Fl:Fr} {J:Hp} {r:Loop} {cap li:Nat} {S:Nat->Prop} {ρ:Rho} {w:World}
section
variable {P:Program} {N:Nat} {Z:List Nat} {Q:Post} {F:Fr} {H:Hp}
def putPs (F:Fr):List Nat->List AV->Fr
 | p::ps,v::vs=>putPs ((p,v)::F) ps vs
 | _,_=>F
theorem frn_putPs {w:World} {S:Nat->Prop} {ρ:Rho} {ds:List Deferred}:∀ (ps:List Nat) (vs:List AV) (cs:List Value) (F:Fr) (tm:Array Value),ps.all (fun p=>decide (p<N))=true->vs.length=ps.length->cs.length=ps.length →
  (∀ (j:Nat) (v:AV),vs[j]?=some v->VR w S ρ v (cs.getD j undef))->FRN N w S ρ (get F) { tmps:=tm,defers:=ds } →
  FRN N w S ρ (get (putPs F ps vs)) { tmps:=(ps.zip cs).foldl (fun t (p,a)=>t.setIfInBounds p a) tm,defers:=ds }
 | [],vs,cs,F,tm,_,h1,_,_,h=>by
  obtain rfl:=List.eq_nil_of_length_eq_zero h1
  exact h
 | p::ps,vs,cs,F,tm,hp,h1,h2,hv,h=>by
  obtain ⟨v,vs,rfl⟩:∃ a l,vs=a::l:=by cases vs with | nil=>cases h1 | cons a l=>exact ⟨a,l,rfl⟩
  obtain ⟨c,cs,rfl⟩:∃ a l,cs=a::l:=by cases cs with | nil=>cases h2 | cons a l=>exact ⟨a,l,rfl⟩
  simp only [List.all_cons,Bool.and_eq_true,decide_eq_true_eq] at hp
  refine frn_putPs ps vs cs ((p,v)::F) (tm.setIfInBounds p c) hp.2 (by simpa using h1) (by simpa using h2) (fun j u hj=>by simpa using hv (j+1) u (by simpa using hj)) ⟨by simpa using h.size,fun t u hu=>?_⟩
  simp only [get] at hu
  have hs:p<tm.size:=by have:=h.size; simp at this; omega
  by_cases e:p=t
  ·subst e
   rw [if_pos rfl] at hu
   injection hu with hu; subst hu
   have:=hv 0 v rfl
   simpa [Array.getD_eq_getD_getElem?,hs] using this
  ·rw [if_neg e] at hu
   have:=h.at_ t u hu
   simpa [Array.getD_eq_getD_getElem?,Array.getElem?_setIfInBounds_ne e] using this
theorem lp_at (hh:HRF w S ρ (get ((li,.lp r Fl)::J))) {b z:Nat} (hρ:ρ li=some (some b,z,cap)) :
  ¬ S b/\w.heap[b]?=some (.loop r)/\∀ t v,(t,v)∈Fl->VR w S ρ v (r.tmps.getD t undef):=by
 obtain ⟨bk,z',cap',q1,b',e1,q2,q3,q4⟩:=hh.at_.ob li (.lp r Fl) trivial (by simp [get])
 rw [hρ] at q1
 injection q1 with q1
 obtain ⟨rfl,_⟩:some b=bk/\_:=by simpa using q1
 injection e1 with e1; subst e1
 exact ⟨q2,q3,q4⟩
theorem lp_cell {b:Nat} (hb:w.heap[b]?=some (.loop r)) (o:Obj) {a:Addr} {c:Value} (hc:w.cell? a=some c):(w.putObj b o).cell? a=some c:=by
 have hne:a.block≠b:=fun e=>by
  unfold World.cell? at hc
  rw [e,hb] at hc
  simp at hc
 rw [World.cell?_of_block (w:=w) (World.putObj_heap_other hne)]; exact hc
theorem lp_put (hh:HRF w S ρ (get ((li,.lp r Fl)::J))) {b z:Nat} (hρ:ρ li=some (some b,z,cap)) (ht:r'.tmps=r.tmps) :
  HRF (w.putObj b (.loop r')) S ρ (get ((li,.lp r' Fl)::J))/\Keep w (w.putObj b (.loop r')) (fun c=>c=b):=by
 obtain ⟨hS,hb,hF⟩:=lp_at hh hρ
 have hlt:=(Array.getElem?_eq_some_iff.1 hb).1
 have hcell:∀ (a:Addr) (c:Value),S a.block->w.cell? a=some c->(w.putObj b (.loop r')).cell? a=some c:=fun a c _ hc=>lp_cell hb _ hc
 refine ⟨⟨fun c hc=>by simpa using hh.hS c hc,fun i hi=>hh.dom i (by simp only [get] at hi ⊢; split at hi <;> simp_all),⟨fun i ob _ hg=>?_,fun i j oi oj c z1 z2 c1 c2 _ _ hne hi hj hli hlj hri hrj=>?_⟩⟩,⟨rfl,rfl,rfl,by simp,fun k hk hne=>World.putObj_heap_other hne⟩⟩
 ·by_cases e:li=i
  ·subst e
   simp only [get,if_pos] at hg
   injection hg with hg; subst hg
   exact ⟨some b,z,cap,hρ,b,rfl,hS,World.putObj_heap_same hlt,fun t v hv=>by rw [ht]; exact (hF t v hv).mono (fun _ h=>h) hcell (fun _ _ h=>h)⟩
  ·have hg':get ((li,Ob.lp r Fl)::J) i=some ob:=by simp only [get,if_neg e] at hg ⊢; exact hg
   obtain ⟨bk,z1,c1,q1,q2⟩:=hh.at_.ob i ob trivial hg'
   refine ⟨bk,z1,c1,q1,q2.mono (fun _ h=>h) hcell (fun _ _ h=>h) fun c hc hl=>?_⟩
   subst hc
   have hne:c≠b:=fun h=>by
    subst h
    exact hh.at_.dis i li ob (.lp r Fl) c z1 z c1 cap trivial trivial (Ne.symm e) hg' (by simp [get]) hl rfl q1 hρ
   exact ⟨World.putObj_heap_other hne,(hh.cells_ne hg' hl q1).1⟩
 ·have conv:∀ i o,get ((li,Ob.lp r' Fl)::J) i=some o->o.live=true->∃ o',get ((li,Ob.lp r Fl)::J) i=some o'/\o'.live=true:=fun i o h hl=>by
   simp only [get] at h ⊢
   split
   ·exact ⟨_,rfl,rfl⟩
   ·rename_i e; rw [if_neg e] at h; exact ⟨o,h,hl⟩
  obtain ⟨oi',g1,g2⟩:=conv i oi hi hli
  obtain ⟨oj',g3,g4⟩:=conv j oj hj hlj
  exact hh.at_.dis i j oi' oj' c z1 z2 c1 c2 trivial trivial hne g1 g3 g2 g4 hri hrj
theorem lp_live {Fl':Fr} {b:Nat} (h:LiveF ρ (get ((li,.lp r Fl)::J)) All b):LiveF ρ (get ((li,.lp r' Fl')::J)) All b:=by
 obtain ⟨i,ob,z,cap,h0,h1,h2,h3⟩:=h
 simp only [get] at h1
 split at h1
 ·rename_i e; subst e; exact ⟨li,.lp r' Fl',z,cap,trivial,by simp [get],rfl,h3⟩
 ·rename_i e; exact ⟨i,ob,z,cap,trivial,by simp only [get,if_neg e]; exact h1,h2,h3⟩
theorem Jm {x y:MC} {ca cb:Code} (hca:Qq P N ca=some x) (hcb:Qq P N cb=some y) {ps:List Nat} {vs:List AV} {J1 J':Hp} {Fb:Fr} {Z0:List Nat} (e0:Exit) (jump:Option Code) (hej:(e0 = .normal/\jump=none)\/(e0 = .ret/\jump=some .ret))
  (hps:ps.all (fun p=>decide (p<N))=true) (hvs:vs.length=ps.length) (hZ:∀ i,i∈Z0->get ((li,Ob.dead)::J) i≠none) (hliZ:li∈Z0) (hZJ:∀ i,get ((li,Ob.dead)::J) i≠none->i∈Z0) (hZJ':∀ i,i∈Z0->get ((li,Ob.dead)::J') i≠none)
 (hr1:r.state = .ready) (hr2:r.params.toList=ps) (hr3:r.assign=ca) (hr4:r.body=cb) (hr5:r.tmps.size=N) (hnd:∀ t v,get F t=some v->(t,v)∈F)
  (hassign:∀ (l:Nat) (o:Loop),AW P N Z0 (some l) x (fun e F' H'=>e = .normal/\Weak N Z0 F' H' Fb ((li,.lp o F)::J1)) (putPs F ps vs) ((li,.lp o F)::J))
  (hbody:∀ (l:Nat) (o:Loop),AW P N Z0 (some l) y (fun e F' H'=>e=e0/\Weak N Z0 F' H' [] ((li,.lp o F)::J')) Fb ((li,.lp o F)::J1)) :
  FCg (XB P) (.yl li::vs) ((li,.lp r F)::J) (.bool jump.isNone) ((li,.lp { r with state:=if jump.isNone then .ready else .done,pending:=jump } F)::J') true:=by
 subst hr3 hr4
 intro w S ρ cargs hH hargs
 obtain ⟨cl⟩:=cargs
 obtain ⟨ha1,ha2⟩:=hargs
 obtain ⟨c0,cs,rfl⟩:∃ a l,cl=a::l:=by cases cl with | nil=>simp at ha1 | cons a l=>exact ⟨a,l,rfl⟩
 obtain ⟨b,z,cap,hρ,hc0⟩:=(show VR w S ρ (.yl li) c0 by simpa using ha2 0 (.yl li) rfl).yl_inv
 subst hc0
 obtain ⟨hS,hb,hF⟩:=lp_at hH hρ
 have hcs:cs.length=ps.length:=by simp at ha1; omega
 have nn:∀ {K:Hp} {o:Ob} {i:Nat},get ((li,Ob.dead)::K) i≠none->get ((li,o)::K) i≠none:=fun {K o i} h=>by
  simp only [get] at h ⊢
  split
  ·simp
  ·rename_i e; rw [if_neg e] at h; exact h
 refine ⟨b,cs.toArray,by simp,r.fn,_,r.assign,r.body,run_yield hb (by rw [← hr2] at hcs; simp [hcs]),roundIn_of_wpIn trivial ?_⟩
 have etm:(r.params.zip cs.toArray).foldl (fun tmps (t,a)=>tmps.setIfInBounds t a) r.tmps=(ps.zip cs).foldl (fun t (p,a)=>t.setIfInBounds p a) r.tmps:=by
  rw [← hr2,← Array.foldl_toList]
  simp
 rw [etm]
 have cf0:Conf N Z0 (putPs F ps vs) ((li,.lp r F)::J) S ρ { tmps:=(ps.zip cs).foldl (fun t (p,a)=>t.setIfInBounds p a) r.tmps,defers:=[] } w:=by
  refine ⟨frn_putPs ps vs cs F r.tmps hps hvs hcs (fun j v hj=>?_) ⟨hr5,fun t v hv=>hF t v (hnd t v hv)⟩,Marks.nil _ _,hH,fun i hi=>nn (hZ i hi)⟩
  have:=ha2 (j+1) v (by simpa using hj)
  simpa using this
 refine wpIn_mono (hassign b r r.assign hca S ρ _ w cf0) ?_
 rintro e a1 w1 ⟨ho,F',H',S1,ρ1,⟨rfl,hw⟩,cf1,ex1⟩
 obtain ⟨S2,ρ2,cf2,ex2⟩:=hw S1 ρ1 a1 w1 cf1
 have ex12:=ex1.trans ex2
 have hρ2:ρ2 li=some (some b,z,cap):=(ex12.rho li hliZ).trans hρ
 obtain ⟨hS2,hb2,hF2⟩:=lp_at cf2.hp hρ2
 obtain ⟨hp3,hk3⟩:=lp_put (r':={ r with state:=.busy }) cf2.hp hρ2 rfl
 refine ⟨w1.putObj b (.loop { r with state:=.busy }),run_beginRound hb2 hr1,?_⟩
 have cf3:Conf N Z0 Fb ((li,.lp { r with state:=.busy } F)::J1) S2 ρ2 a1 (w1.putObj b (.loop { r with state:=.busy })):=by
  refine ⟨⟨cf2.fr.size,fun t v hv=>(cf2.fr.at_ t v hv).mono (fun _ h=>h) (fun a c _ hc=>lp_cell hb2 _ hc) (fun _ _ h=>h)⟩,?_,hp3,fun i hi h0=>cf2.z i hi (by simp only [get] at h0 ⊢; split at h0 <;> simp_all)⟩
  obtain ⟨d2,d3⟩:=cf2.defers
  refine ⟨d2,fun D hD=>?_⟩
  obtain ⟨g1,g2⟩:=d3 D hD
  have hne:D≠b:=fun e=>by rw [e,hb2] at g1; cases g1
  exact ⟨(World.putObj_heap_other hne).trans g1,fun h=>g2 (lp_live h)⟩
 refine wpIn_mono (hbody b _ r.body hcb S2 ρ2 a1 _ cf3) ?_
 rintro e a4 w4 ⟨ho4,F4,H4,S4,ρ4,⟨rfl,hw4⟩,cf4,ex4⟩
 obtain ⟨S5,ρ5,cf5,ex5⟩:=hw4 S4 ρ4 a4 w4 cf4
 have ex45:=ex4.trans ex5
 have hρ5:ρ5 li=some (some b,z,cap):=(ex45.rho li hliZ).trans hρ2
 obtain ⟨hS5,hb5,hF5⟩:=lp_at cf5.hp hρ5
 obtain ⟨hp6,hk6⟩:=lp_put (r':={ r with state:=if jump.isNone then .ready else .done,pending:=jump }) cf5.hp hρ5 rfl
 have hlive0:LiveF ρ (get ((li,.lp r F)::J)) All b:=⟨li,.lp r F,z,cap,trivial,by simp [get],rfl,hρ⟩
 have live2:∀ c,LiveF ρ2 (get ((li,.lp { r with state:=.busy } F)::J1)) All c->LiveF ρ (get ((li,.lp r F)::J)) All c\/w.heap.size<=c:=fun c h=>ex12.own c (lp_live h)
 have sz1:w.heap.size<=w1.heap.size:=ex12.keep.size
 have sz3:w1.heap.size=(w1.putObj b (.loop { r with state:=.busy })).heap.size:=by simp
 have R:∃ cv S' ρ',Ending.returned (Value.bool jump.isNone)=Ending.returned cv/\VR (w4.putObj b (.loop { r with state:=if jump.isNone then .ready else .done,pending:=jump })) S' ρ' (.bool jump.isNone) cv ∧
   HRF (w4.putObj b (.loop { r with state:=if jump.isNone then .ready else .done,pending:=jump })) S' ρ' (get ((li,.lp { r with state:=if jump.isNone then .ready else .done,pending:=jump } F)::J')) ∧
   Keep w (w4.putObj b (.loop { r with state:=if jump.isNone then .ready else .done,pending:=jump })) (LiveF ρ (get ((li,.lp r F)::J)) All)/\(∀ c,S' c->(true=true/\S c)\/LiveF ρ (get ((li,.lp r F)::J)) All c\/w.heap.size<=c) ∧
   (∀ c,LiveF ρ' (get ((li,.lp { r with state:=if jump.isNone then .ready else .done,pending:=jump } F)::J')) All c->LiveF ρ (get ((li,.lp r F)::J)) All c\/w.heap.size<=c) ∧
   (∀ i,get ((li,Ob.lp r F)::J) i≠none->ρ' i=ρ i)/\(∀ i,get ((li,Ob.lp r F)::J) i≠none->get ((li,Ob.lp { r with state:=if jump.isNone then .ready else .done,pending:=jump } F)::J') i≠none):=by
  have inZ:∀ i,get ((li,Ob.lp r F)::J) i≠none->i∈Z0:=fun i h=>hZJ i (by
   simp only [get] at h ⊢
   split
   ·simp
   ·rename_i e; rw [if_neg e] at h; exact h)
  refine ⟨.bool jump.isNone,S5,ρ5,rfl,.cl (.bool _),hp6,?_,fun c hc=>?_,fun c hc=>?_,fun i hi=>(ex45.rho i (inZ i hi)).trans (ex12.rho i (inZ i hi)),fun i hi=>nn (hZJ' i (inZ i hi))⟩
  ·have k1:=ex12.keep
   have k2:=k1.trans hk3 (fun c h=>.inl (h ▸ hlive0))
   have k3:=k2.trans ex45.keep live2
   exact k3.trans hk6 (fun c h=>.inl (h ▸ hlive0))
  ·rcases ex45.fresh c hc with h | h | h
   ·exact (ex12.fresh c h).imp (fun h=>⟨rfl,h⟩) id
   ·exact .inr (live2 c h)
   ·exact .inr (.inr (by omega))
  ·rcases ex45.own c (lp_live hc) with h | h
   ·exact live2 c h
   ·exact .inr (by omega)
 rcases hej with ⟨rfl,rfl⟩ | ⟨rfl,rfl⟩
 ·exact ⟨_,_,run_endRound none hb5,R⟩
 ·exact ⟨_,_,run_endRound (some .ret) hb5,R⟩
end
end Go.Proofs.YthmbjgnjfjjibaaGreatDoor
namespace Go.Proofs.YthmbjgnjfjjibaaGreatDoor
open Go.RowKit
set_option maxRecDepth 100000
def Xn {α:Type}:List (Nat×α)->Bool
 | []=>true
 | (k,_)::l=>(get l k).isNone&&Xn l
theorem nodupK_get {α:Type}:∀ {F:List (Nat×α)} {t:Nat} {v:α},Xn F=true->(t,v)∈F->get F t=some v
 | (k,u)::l,t,v,h,hm=>by
  simp only [Xn,Bool.and_eq_true,Option.isNone_iff_eq_none] at h
  simp only [get]
  rcases List.mem_cons.1 hm with e | hm
  ·injection e with e1 e2; subst e1 e2; rw [if_pos rfl]
  ·have:=nodupK_get h.2 hm
   split
   ·rename_i e; subst e; rw [h.1] at this; cases this
   ·exact this
theorem Js {α:Type}:∀ {F:List (Nat×α)} {t:Nat} {v:α},get F t=some v->(t,v)∈F
 | (k,u)::l,t,v,h=>by
  simp only [get] at h
  split at h
  ·rename_i e; subst e; injection h with h; subst h; simp
  ·exact List.mem_cons_of_mem _ (Js h)
variable {r:Loop} {li:Nat} {S:Nat->Prop} {ρ:Rho} {w:World}
section
variable {P:Program} {N:Nat} {Z:List Nat} {Q:Post} {F:Fr} {H:Hp}
structure Rec0 (P:Program) (N:Nat) (ps:List Nat) (x y:MC) (r:Loop):Prop where
 state:r.state = .ready
 pending:r.pending=none
 params:r.params.toList=ps
 ca:Qq P N r.assign=some x
 cb:Qq P N r.body=some y
 size:r.tmps.size=N
theorem hrf_rec {w1:World} (hH:HRF w S ρ (get H)) {l:Nat} (hli:get H li=none) (hsz:w.heap.size<=l) (hl:w1.heap[l]?=some (.loop r)) (hk:∀ k,k<w.heap.size->w1.heap[k]?=w.heap[k]?)
  (hs1:w.heap.size<=w1.heap.size) (hF:∀ t v,(t,v)∈F->VR w S ρ v (r.tmps.getD t undef)) :
  HRF w1 S (fun i=>if i=li then some (some l,0,0) else ρ i) (get ((li,.lp r F)::H))/\(∀ v c,VR w S ρ v c->VR w1 S (fun i=>if i=li then some (some l,0,0) else ρ i) v c):=by
 have hcell:∀ (a:Addr) (c:Value),S a.block->w.cell? a=some c->w1.cell? a=some c:=fun a c hs hc=>by
  rw [World.cell?_of_block (w:=w) (hk _ (hH.hS _ hs))]; exact hc
 have hρ:∀ i x,ρ i=some x->(if i=li then some (some l,0,0) else ρ i)=some x:=fun i x hx=>by
  rw [if_neg (fun e=>by subst e; rw [hH.dom i hli] at hx; cases hx)]; exact hx
 have hv:∀ v c,VR w S ρ v c->VR w1 S (fun i=>if i=li then some (some l,0,0) else ρ i) v c:=fun v c h=>h.mono (fun _ h=>h) hcell hρ
 refine ⟨⟨fun b hb=>Nat.lt_of_lt_of_le (hH.hS b hb) hs1,fun i hi=>?_,⟨fun i ob _ hg=>?_,fun i j oi oj b z z' c c' _ _ hne hgi hgj hli' hlj hri hrj=>?_⟩⟩,hv⟩
 ·simp only [get] at hi
  split at hi
  ·cases hi
  ·rename_i e
   rw [if_neg (Ne.symm e)]; exact hH.dom i hi
 ·simp only [get] at hg
  split at hg
  ·rename_i e
   subst e
   injection hg with hg; subst hg
   exact ⟨some l,0,0,if_pos rfl,l,rfl,fun hs=>by have:=hH.hS l hs; omega,hl,fun t v ht=>hv _ _ (hF t v ht)⟩
  ·rename_i e
   obtain ⟨bk,z,cap,q1,q2⟩:=hH.at_.ob i ob trivial hg
   refine ⟨bk,z,cap,hρ i _ q1,q2.mono (fun _ h=>h) hcell hρ fun b hb hlv=>?_⟩
   subst hb
   obtain ⟨g1,g2⟩:=hH.cells_ne hg hlv q1
   exact ⟨hk b g2,g1⟩
 ·have old:∀ i oi z c,i≠li->get ((li,Ob.lp r F)::H) i=some oi->oi.live=true->(if i=li then some (some l,0,0) else ρ i)=some (some b,z,c)->get H i=some oi/\ρ i=some (some b,z,c)/\b<w.heap.size:=fun i oi z c hi hg hlv hr=>by
   simp only [get,if_neg (Ne.symm hi)] at hg
   rw [if_neg hi] at hr
   exact ⟨hg,hr,(hH.cells_ne hg hlv hr).2⟩
  have new:∀ i z c,i=li->(if i=li then some (some l,0,0) else ρ i)=some (some b,z,c)->b=l:=fun i z c hi hr=>by
   rw [if_pos hi] at hr
   simp at hr; exact hr.1.symm
  by_cases hi:i=li
  ·by_cases hj:j=li
   ·exact hne (hi.trans hj.symm)
   ·have:=new i z c hi hri
    obtain ⟨_,_,h3⟩:=old j oj z' c' hj hgj hlj hrj
    omega
  ·obtain ⟨h1,h2,h3⟩:=old i oi z c hi hgi hli' hri
   by_cases hj:j=li
   ·have:=new j z' c' hj hrj
    omega
   ·obtain ⟨k1,k2,_⟩:=old j oj z' c' hj hgj hlj hrj
    exact hH.at_.dis i j oi oj b z z' c c' trivial trivial hne h1 k1 hli' hlj h2 k2
theorem hrf_kill {K:Hp} (h:HRF w S ρ (get ((li,.lp r F)::K))):HRF w S ρ (get ((li,.dead)::K)):=by
 refine ⟨h.hS,fun i hi=>h.dom i (by simp only [get] at hi ⊢; split at hi <;> simp_all),⟨fun i ob _ hg=>?_,fun i j oi oj b z z' c c' _ _ hne hgi hgj hli hlj hri hrj=>?_⟩⟩
 ·by_cases e:li=i
  ·subst e
   obtain ⟨bk,z,cap,q1,_⟩:=h.at_.ob li (.lp r F) trivial (by simp [get])
   simp only [get,if_pos] at hg
   injection hg with hg; subst hg
   exact ⟨bk,z,cap,q1,trivial⟩
  ·exact h.at_.ob i ob trivial (by simp only [get,if_neg e] at hg ⊢; exact hg)
 ·have conv:∀ i o,get ((li,Ob.dead)::K) i=some o->o.live=true->get ((li,Ob.lp r F)::K) i=some o:=fun i o hg hl=>by
   simp only [get] at hg ⊢
   split
   ·rename_i e; rw [if_pos e] at hg; injection hg with hg; subst hg; cases hl
   ·rename_i e; rw [if_neg e] at hg; exact hg
  exact h.at_.dis i j oi oj b z z' c c' trivial trivial hne (conv i oi hgi hli) (conv j oj hgj hlj) hli hlj hri hrj
theorem live_li {l:Nat} {o:Ob} {b:Nat} (h:LiveF (fun i=>if i=li then some (some l,0,0) else ρ i) (get ((li,o)::H)) All b):b=l\/LiveF ρ (get H) All b:=by
 obtain ⟨i,ob,z,cap,_,h1,h2,h3⟩:=h
 simp only [get] at h1
 by_cases e:i=li
 ·have h3:(if i=li then some (some l,0,0) else ρ i)=some (some b,z,cap):=h3
  rw [if_pos e] at h3
  simp at h3; exact .inl h3.1.symm
 ·have h3:(if i=li then some (some l,0,0) else ρ i)=some (some b,z,cap):=h3
  rw [if_neg e] at h3
  rw [if_neg (Ne.symm e)] at h1
  exact .inr ⟨i,ob,z,cap,trivial,h1,h2,h3⟩
theorem live_dead {o:Ob} {b:Nat} (h:LiveF ρ (get ((li,.dead)::H)) All b):LiveF ρ (get ((li,o)::H)) All b:=by
 obtain ⟨i,ob,z,cap,h0,h1,h2,h3⟩:=h
 refine ⟨i,ob,z,cap,h0,?_,h2,h3⟩
 simp only [get] at h1 ⊢
 split
 ·rename_i e; rw [if_pos e] at h1; injection h1 with h1; subst h1; cases h2
 ·rename_i e; rw [if_neg e] at h1; exact h1
def scopedHl (li:Nat) (Hs:Hp):Bool:=Hs.all fun x=>Q4 (li::Qa Hs) x.2
theorem aw_rfunc {g:Arg} {ps:List Nat} {x y:MC} {f:FuncId} {caps:List AV} (li:Nat) (Hs H':Hp) {rv:AV} {e0:Exit} {jump:Option Code} (hej:(e0 = .normal/\jump=none)\/(e0 = .ret/\jump=some .ret))
  (hg:Qe F g=some (.fn (.func f) caps)) (hent:Xj P f=true) (hli:get H li=none) (hnd:Xn F=true) (hcaps:Qy (li::Qa Hs) caps=true)
  (hsub:SubH H Hs) (hsc:scopedHl li Hs=true) (hscF:Qy (li::Qa Hs) (F.map (·.2))=true) (hnew:newOk H Hs H'=true) (hdom:domOk Hs H'=true)
  (hfc:∀ r0:Loop,Rec0 P N ps x y r0->∃ r1:Loop,r1.state ≠ .busy/\r1.pending=jump/\FC P f (.yl li::caps) ((li,.lp r0 F)::Hs) rv ((li,.lp r1 F)::H') true)
  (h:Q e0 F ((li,.dead)::(H'++H))):AW P N Z none (.rfunc g ps x y) Q F H:=fun code hc S ρ a w hcf=>by
 cases code <;> simp [Qq] at hc
 case rangeFunc gop ps' ca cb =>
  split at hc
  ·rename_i g' x' y' hg' hx hy
   split at hc
   ·rename_i hps
    simp at hc
    obtain ⟨rfl,rfl,rfl,rfl⟩:=hc
    have hfv:=Qd hg' (ts:=g'.slots) (fun t _ v hv=>hcf.fr.at_ t v hv) (fun _ h=>h) hg
    obtain ⟨C,e4,e5,e6⟩:=hfv.fn_inv
    refine wpIn_rangeFunc fun fn _=>?_
    let r0:Loop:={ state:=.ready,pending:=none,fn:=fn,tmps:=a.tmps,params:=ps',assign:=ca,body:=cb,defers:=w.heap.size }
    let w1:World:=(w.alloc (.deferred (some []))).alloc (.loop r0)
    obtain ⟨r1,hr1,hr2,hfc⟩:=hfc r0 ⟨rfl,rfl,rfl,hx,hy,hcf.fr.size⟩
    have sz1:w1.heap.size=w.heap.size+2:=by simp [w1]
    have hk1:∀ k,k<w.heap.size->w1.heap[k]?=w.heap[k]?:=fun k hk=>by
     rw [Below.heap_alloc _ _ k (by simp; omega),Below.heap_alloc _ _ k hk]
    have hD1:w1.heap[w.heap.size]?=some (.deferred (some [])):=by
     rw [Below.heap_alloc _ _ _ (by simp)]; exact World.alloc_heap_new w _
    have hl1:w1.heap[w.heap.size+1]?=some (.loop r0):=by
     have:=World.alloc_heap_new (w.alloc (.deferred (some []))) (.loop r0)
     rwa [World.size_alloc] at this
    obtain ⟨hH1,hv1⟩:=hrf_rec (F:=F) hcf.hp hli (l:=w.heap.size+1) (by omega) hl1 hk1 (by omega) (fun t v ht=>hcf.fr.at_ t v (nodupK_get hnd ht))
    have hliv:∀ {b:Nat} {o:Ob},LiveF (fun i=>if i=li then some (some (w.heap.size+1),0,0) else ρ i) (get ((li,o)::H)) All b->b=w.heap.size+1\/LiveF ρ (get H) All b:=fun h=>live_li h
    generalize hρ1:(fun i=>if i=li then some (some (w.heap.size+1),0,0) else ρ i:Rho)=ρ1 at hH1 hv1 hliv
    have hρli:ρ1 li=some (some (w.heap.size+1),0,0):=by rw [← hρ1]; simp
    have hρo:∀ i,i≠li->ρ1 i=ρ i:=fun i hi=>by rw [← hρ1]; simp [hi]
    have hlive0:∀ b,LiveF ρ (get H) All b->b<w.heap.size:=fun b ⟨i,ob,z,cap,_,g1,g2,g3⟩=>(hcf.hp.cells_ne g1 g2 g3).2
    refine ⟨w.heap.size+1,[{ target:=.collected w.heap.size,args := #[] }],w1,⟨.fn (.func f) C,#[.func (.yield (w.heap.size+1)) #[] #[]]⟩,w1,f,#[.func (.yield (w.heap.size+1)) #[] #[]]++C,w1,?_,?_,fun f' _=>Fc_fn none f',?_,fun hd=>(Fc_depth none hd).elim,callsIn_Fc.2 ?_⟩
    ·rw [Fc_round]; exact run_enterLoop_outer fn a.tmps ps' ca cb
    ·have e7:a.eval (.const (.func (.yield (w.heap.size+1)) #[] #[])) = .func (.yield (w.heap.size+1)) #[] #[]:=rfl
     simp [resolve,rangeCall,e4,e7,Deferred.ofValue]
    ·simp [invoke,XU hent]
    ·have hvr:VRs w1 S ρ1 (.yl li::caps) (#[.func (.yield (w.heap.size+1)) #[] #[]]++C):=by
      refine ⟨by simp [e5]; omega,fun j u hj=>?_⟩
      cases j with
      | zero =>
       simp at hj; subst hj
       rw [Array.getD_eq_getD_getElem?,Array.getElem?_append_left (by simp)]
       exact .yl li _ 0 0 hρli
      | succ j =>
       have:=hv1 _ _ (e6 j u (by simpa using hj))
       rw [Array.getD_eq_getD_getElem?] at this ⊢
       rw [Array.getElem?_append_right (by simp)]
       simpa using this
     have hvs:Qy (li::Qa Hs) (.yl li::caps)=true:=by simp [Qy,Qr,hcaps]
     have hhands:Hands ((li,.lp r0 F)::H) ((li,.lp r0 F)::Hs) [] true (.yl li::caps) (.yl li::caps):=fun w' S' ρ' C' hh hv=>⟨hv.1,fun j v hj=>Ql (H:=(li,.lp r0 F)::H) (Hs:=(li,.lp r0 F)::Hs) (Xf hvs (List.mem_of_getElem? hj)) w' S' ρ' _ hh (hv.2 j v hj)⟩
     have one:∀ {K:Hp} {o:Ob} {i:Nat} {ob:Ob},i≠li->(get ((li,o)::K) i=some ob ↔ get K i=some ob):=fun {K o i ob} hi=>by simp only [get,if_neg (Ne.symm hi)]
     have non:∀ {K:Hp} {o:Ob} {i:Nat},get ((li,o)::K) i=none ↔ i≠li/\get K i=none:=fun {K o i}=>by
      simp only [get]
      by_cases e:li=i
      ·simp [e]
      ·simp [e,Ne.symm e]
     have hsub':∀ i ob,get ((li,.lp r0 F)::Hs) i=some ob->get ((li,.lp r0 F)::H) i=some ob:=fun i ob hi=>by
      by_cases e:i=li
      ·subst e; simpa [get] using hi
      ·exact (one e).2 (hsub.at_ i ob ((one e).1 hi))
     have hsc':∀ i ob,get ((li,Ob.lp r0 F)::Hs) i=some ob->Q4 (Qa ((li,Ob.lp r0 F)::Hs)) ob=true:=fun i ob hi=>by
      by_cases e:i=li
      ·subst e
       simp only [get,if_pos] at hi
       injection hi with hi; subst hi
       exact hscF
      ·exact List.all_eq_true.1 hsc (i,ob) (Js ((one e).1 hi))
     have hnew':∀ i,get ((li,Ob.lp r1 F)::H') i≠none->get ((li,Ob.lp r0 F)::Hs) i=none->get ((li,Ob.lp r0 F)::H) i=none:=fun i h1 h2=>by
      obtain ⟨e,h2⟩:=non.1 h2
      exact non.2 ⟨e,newOk_spec hnew i (fun h=>h1 (non.2 ⟨e,h⟩)) h2⟩
     have hdom':∀ i,get ((li,Ob.lp r0 F)::Hs) i≠none->get ((li,Ob.lp r1 F)::H') i≠none:=fun i h1 h2=>by
      obtain ⟨e,h2⟩:=non.1 h2
      exact domOk_spec hdom i (fun h=>h1 (non.2 ⟨e,h⟩)) h2
     refine call_core (sem:=fun c w R=>Calls P f c w R) (fun hr h=>Calls.mono h hr) (fc_g.1 hfc) hhands (fun h=>by cases h) hsub' hsc' (fun i h=>by cases h) hnew' hdom' hvr hH1.hS
      ⟨fun i ob _ hg=>hH1.at_.ob i ob trivial hg,fun i j oi oj b z z' c c' _ _=>hH1.at_.dis i j oi oj b z z' c c' trivial trivial⟩ (fun i _ hn=>hH1.dom i hn) fun cv w3 S3 ρ3 hv3 hpost hext=>?_
     have hoff:∀ i,i ∉ Qa ((li,Ob.lp r1 F)::H')->get (((li,Ob.lp r1 F)::H')++((li,.lp r0 F)::H)) i=get ((li,Ob.lp r0 F)::H) i:=fun i hi=>by
      rw [QU]
      cases hg:get ((li,Ob.lp r1 F)::H') i with
      | none=>rfl
      | some ob=>exact absurd (Qp.2 (by rw [hg]; simp)) hi
     have hon:∀ i,i∈Qa ((li,Ob.lp r1 F)::H')->(get (((li,Ob.lp r1 F)::H')++((li,.lp r0 F)::H)) i).isSome=true:=fun i hi=>by
      rw [QU]
      cases hg:get ((li,Ob.lp r1 F)::H') i with
      | none=>exact absurd hg (Qp.1 hi)
      | some ob=>rfl
     obtain ⟨g1,g2,g3⟩:=frame_step (rd:=[]) hH1 (fun _ _=>rfl) hoff hon hpost hext
     have efn:(fun i=>if i∈Qa ((li,Ob.lp r1 F)::H') then get (((li,Ob.lp r1 F)::H')++((li,.lp r0 F)::H)) i else get ((li,Ob.lp r0 F)::H) i)=get ((li,Ob.lp r1 F)::(H'++H)):=by
      funext i
      have:(if i∈Qa ((li,Ob.lp r1 F)::H') then get (((li,Ob.lp r1 F)::H')++((li,.lp r0 F)::H)) i else get ((li,Ob.lp r0 F)::H) i)=get (((li,Ob.lp r1 F)::H')++((li,.lp r0 F)::H)) i:=by
       split
       ·rfl
       ·rename_i hi; exact (hoff i hi).symm
      rw [this]
      simp only [List.cons_append,get]
      split
      ·rfl
      ·rename_i e; simp [QU,get,e]
     rw [efn] at g1 g2
     have hρ3:ρ3 li=some (some (w.heap.size+1),0,0):=(g2.rho li (by simp [get])).trans hρli
     obtain ⟨hS3,hb3,hF3⟩:=lp_at g1 hρ3
     obtain ⟨hp4,hk4⟩:=lp_put (r':={ r1 with state:=.exhausted }) g1 hρ3 rfl
     have hp5:=hrf_kill hp4
     have lv5:∀ b,LiveF ρ3 (get ((li,.dead)::(H'++H))) All b->LiveF ρ1 (get ((li,.lp r0 F)::H)) All b\/w1.heap.size<=b:=fun b hb=>g2.own b (live_dead hb)
     have lv6:∀ b,LiveF ρ3 (get ((li,.dead)::(H'++H))) All b->b≠w.heap.size+1:=fun b hb e=>by
      subst e
      obtain ⟨i,ob,z,cap,_,q1,q2,q3⟩:=hb
      by_cases ei:i=li
      ·subst ei; simp only [get,if_pos] at q1; injection q1 with q1; subst q1; cases q2
      ·exact g1.at_.dis i li ob (.lp r1 F) _ z 0 cap 0 trivial trivial ei ((one ei).2 ((one ei).1 q1)) (by simp [get]) q2 rfl q3 hρ3
     have R:Reach N Z Q S ρ H w a.defers e0 { a with defers:=[{ target:=.collected w.heap.size,args := #[] }]++a.defers } (w3.putObj (w.heap.size+1) (.loop { r1 with state:=.exhausted })):=by
      refine ⟨⟨by rcases hej with ⟨rfl,_⟩ | ⟨rfl,_⟩ <;> (intro h; cases h),[w.heap.size],rfl,fun D hD=>by rw [List.mem_singleton.1 hD]; exact Nat.le_refl _⟩,F,_,S3,ρ3,h,⟨⟨hcf.fr.size,fun t v hv=>?_⟩,?_,hp5,fun i hi=>?_⟩,?_⟩
      ·exact (g3 _ _ (hv1 _ _ (hcf.fr.at_ t v hv))).mono (fun _ h=>h) (fun a c _ hc=>lp_cell hb3 _ hc) (fun _ _ h=>h)
      ·obtain ⟨d2,d3⟩:=hcf.defers
       have dlt:∀ D∈JG a.defers,D<w.heap.size:=fun D hD=>(Array.getElem?_eq_some_iff.1 (d3 D hD).1).1
       refine ⟨List.nodup_cons.2 ⟨fun hm=>Nat.lt_irrefl _ (dlt _ hm),d2⟩,fun D hD=>?_⟩
       have key:D<w1.heap.size/\w1.heap[D]?=some (.deferred (some []))/\¬ LiveF ρ1 (get ((li,.lp r0 F)::H)) All D/\D≠w.heap.size+1:=by
        rcases List.mem_cons.1 hD with rfl | hD
        ·exact ⟨by omega,hD1,fun hl=>(hliv hl).elim (by omega) (fun h=>Nat.lt_irrefl _ (hlive0 _ h)),by omega⟩
        ·have:=dlt D hD
         exact ⟨by omega,(hk1 D this).trans (d3 D hD).1,fun hl=>(hliv hl).elim (by omega) (d3 D hD).2,by omega⟩
       obtain ⟨k1,k2,k3,k4⟩:=key
       exact ⟨(World.putObj_heap_other k4).trans ((g2.keep.block D k1 k3).trans k2),fun hl=>(lv5 D hl).elim k3 (by omega)⟩
      ·have:=hcf.z i hi
       intro h0
       obtain ⟨_,h0⟩:=non.1 h0
       rw [QU] at h0
       cases hg:get H' i with
       | none=>rw [hg] at h0; exact this (by simpa using h0)
       | some ob=>rw [hg] at h0; simp at h0
      ·have sz3:=g2.keep.size
       refine ⟨⟨?_,?_,?_,by simp; omega,fun k hk hn=>?_⟩,g2.sub,fun b hb=>?_,fun b hb=>?_,fun i hi=>?_⟩
       ·exact g2.keep.os
       ·exact g2.keep.tape
       ·exact g2.keep.output
       ·rw [World.putObj_heap_other (by omega)]
        exact (g2.keep.block k (by omega) (fun hl=>(hliv hl).elim (by omega) hn)).trans (hk1 k hk)
       ·rcases g2.fresh b hb with h | h | h
        ·exact .inl h
        ·exact (hliv h).elim (fun h=>.inr (.inr (by omega))) (fun h=>.inr (.inl h))
        ·exact .inr (.inr (by omega))
       ·rcases lv5 b hb with h | h
        ·exact (hliv h).elim (fun h=>.inr (by omega)) .inl
        ·exact .inr (by omega)
       ·have hz:=hcf.z i hi
        have hne:i≠li:=fun e=>hz (by rw [e]; exact hli)
        exact (g2.rho i (fun h=>hz (non.1 h).2)).trans (hρo i hne)
     rcases hej with ⟨rfl,rfl⟩ | ⟨rfl,rfl⟩
     ·exact ⟨none,_,(run_endLoop hb3 hr1).trans (by rw [hr2]),R⟩
     ·exact ⟨some .ret,_,(run_endLoop hb3 hr1).trans (by rw [hr2]),wpIn_ret R⟩
   ·cases hc
  ·cases hc
 all_goals (repeat' split at hc) <;> cases hc
end
end Go.Proofs.YthmbjgnjfjjibaaGreatDoor
namespace Go.Proofs.YthmbjgnjfjjibaaGreatDoor
open Go.RowKit
set_option maxRecDepth 100000
variable {v':AV} {S:Nat->Prop} {ρ:Rho} {w:World}
section
variable {N:Nat} {Z:List Nat} {F F0:Fr} {H H0:Hp}
theorem hrf_cell (hh:HRF w S ρ (get H)) {k e z:Nat} {v:AV} {fl:Bool} (hk:get H k=some (.cells e z [[v]] fl)) (hv:∀ c,VR w S ρ v c->VR w S ρ v' c) :
  HRF w S ρ (get ((k,.cells e z [[v']] false)::H)):=by
 have conv:∀ i o,get ((k,Ob.cells e z [[v']] false)::H) i=some o->o.live=true->∃ o',get H i=some o'/\o'.live=true:=fun i o hg hl=>by
  simp only [get] at hg
  split at hg
  ·rename_i e1; subst e1; exact ⟨_,hk,rfl⟩
  ·exact ⟨o,hg,hl⟩
 refine ⟨hh.hS,fun i hi=>hh.dom i (by simp only [get] at hi; split at hi; cases hi; exact hi),⟨fun i ob _ hg=>?_,fun i j oi oj b z1 z2 c c' _ _ hne hgi hgj hli hlj hri hrj=>?_⟩⟩
 ·simp only [get] at hg
  split at hg
  ·rename_i e1
   subst e1
   injection hg with hg; subst hg
   obtain ⟨bk,z1,cap,q1,q2⟩:=hh.at_.ob k _ trivial hk
   refine ⟨bk,z1,cap,q1,?_⟩
   obtain ⟨hz,h⟩:=q2
   refine ⟨hz,?_⟩
   cases bk with
   | none=>exact absurd h.1 (by simp)
   | some b =>
    obtain ⟨h0,hm,C,hC,h1,h2,h3,h4⟩:=h
    refine ⟨h0,hm,C,hC,h1,by simpa using h2,fun j el hj=>?_,fun j el o u hj ho=>?_⟩
    ·have hlt:=(List.getElem?_eq_some_iff.1 hj).1
     have:j=0:=by simp at hlt; exact hlt
     subst this
     simp at hj; subst hj
     exact h3 0 [v] rfl
    ·have hlt:=(List.getElem?_eq_some_iff.1 hj).1
     have:j=0:=by simp at hlt; exact hlt
     subst this
     simp at hj; subst hj
     have hlt:=(List.getElem?_eq_some_iff.1 ho).1
     have:o=0:=by simp at hlt; exact hlt
     subst this
     simp at ho; subst ho
     obtain ⟨g1,g2⟩:=h4 0 [v] 0 v rfl rfl
     refine ⟨g1,?_⟩
     rw [if_neg (by simp)]
     refine hv _ ?_
     split at g2
     ·exact .cl g2
     ·exact g2
  ·exact hh.at_.ob i ob trivial hg
 ·obtain ⟨oi',g1,g2⟩:=conv i oi hgi hli
  obtain ⟨oj',g3,g4⟩:=conv j oj hgj hlj
  exact hh.at_.dis i j oi' oj' b z1 z2 c c' trivial trivial hne g1 g3 g2 g4 hri hrj
theorem live_cell {k e z:Nat} {v:AV} {fl:Bool} (hk:get H k=some (.cells e z [[v]] fl)) {b:Nat} (h:LiveF ρ (get ((k,.cells e z [[v']] false)::H)) All b):LiveF ρ (get H) All b:=by
 obtain ⟨i,ob,z1,cap,h0,h1,h2,h3⟩:=h
 simp only [get] at h1
 split at h1
 ·rename_i e1; subst e1; exact ⟨k,_,z1,cap,h0,hk,rfl,h3⟩
 ·exact ⟨i,ob,z1,cap,h0,h1,h2,h3⟩
theorem conf_cell {a:Act} (hc:Conf N Z F H S ρ a w) {k e z:Nat} {v:AV} {fl:Bool} (hk:get H k=some (.cells e z [[v]] fl)) (hv:∀ c,VR w S ρ v c->VR w S ρ v' c) :
  Conf N Z F ((k,.cells e z [[v']] false)::H) S ρ a w/\ExtZ Z w S ρ (get H) w S ρ (get ((k,.cells e z [[v']] false)::H)) :=
 ⟨⟨hc.fr,hc.defers.keep (Keep.refl _ _) (fun b hb=>.inl (live_cell hk hb)),hrf_cell hc.hp hk hv,fun i hi h0=>hc.z i hi (by simp only [get] at h0; split at h0; cases h0; exact h0)⟩,
  Keep.refl _ _,fun _ h=>h,fun _ h=>.inl h,fun b hb=>.inl (live_cell hk hb),fun _ _=>rfl⟩
theorem Q0 {i i' k e z:Nat} {ob:Ob} {v:AV} {fl:Bool} (hi:get H i=some ob) (hi':get H i'=none) (hF:RenF i i' F F0) (hki:k≠i) (hk:get H k=some (.cells e z [[v]] fl)) (hr:Ren i i' v v') :
  Weak N Z F H F0 ((k,.cells e z [[v']] false)::(i',ob)::(i,.dead)::H):=fun S ρ a w hc=>by
 obtain ⟨S1,ρ1,c1,e1,hρ⟩:=weak_ren_s (Z:=Z) hi hi' hF S ρ a w hc
 have hki':k≠i':=fun e=>by subst e; rw [hi'] at hk; cases hk
 obtain ⟨c2,e2⟩:=conf_cell c1 (k:=k) (e:=e) (z:=z) (v:=v) (v':=v') (fl:=fl) (by simp only [get,if_neg (Ne.symm hki),if_neg (Ne.symm hki')]; exact hk) (fun c h=>by
  cases hr with
  | ptr j o =>
   obtain ⟨b,z,cap,q1,q2⟩:=h.ptr_inv
   rw [q2]; exact .ptr i' j o b z cap (hρ.trans q1)
  | sl j n =>
   rcases h.sl_inv with ⟨b,z,cap,cap',q1,q2,q3,q4⟩ | ⟨z,q1,q2,q3,q4⟩
   ·rw [q4]; exact .sl i' j n b z cap cap' (hρ.trans q1) q2 q3
   ·subst q2 q3; rw [q4]; exact .sl0 i' z (hρ.trans q1)
  | sa j o n =>
   cases h with
   | cl h=>cases h
   | sa _ _ _ _ b z cap cap' q1 q2=>exact .sa i' j o n b z cap cap' (hρ.trans q1) q2
  | mp =>
   cases h with
   | cl h=>cases h
   | mp _ b z cap q1=>exact .mp i' b z cap (hρ.trans q1)
  | yl =>
   cases h with
   | cl h=>cases h
   | yl _ b z cap q1=>exact .yl i' b z cap (hρ.trans q1)
  | same=>exact h)
 exact ⟨S1,ρ1,c2,e1.trans e2⟩
theorem weak_seed {i k e z e2 z2:Nat} {fl fl2:Bool} (hi:get H i=none) (hk:get H k=some (.cells e z [[.nils]] fl)) :
  Weak N Z F H F ((k,.cells e z [[.sl i 0 0]] false)::(i,.cells e2 z2 [] fl2)::H):=fun S ρ a w hc=>by
 let ρ':Rho:=fun j=>if j=i then some (none,z2,0) else ρ j
 have hρ:∀ j x,ρ j=some x->ρ' j=some x:=fun j x h=>by
  have:j≠i:=fun e=>by rw [e,hc.hp.dom i hi] at h; cases h
  simp [ρ',this,h]
 have hg:∀ j,get ((i,Ob.cells e2 z2 [] fl2)::H) j=if i=j then some (.cells e2 z2 [] fl2) else get H j:=fun j=>rfl
 have live:∀ j o b z c,get ((i,Ob.cells e2 z2 [] fl2)::H) j=some o->ρ' j=some (some b,z,c)->get H j=some o/\ρ j=some (some b,z,c):=fun j o b z c h1 h2=>by
  rw [hg] at h1
  by_cases ej:j=i
  ·subst ej; simp [ρ'] at h2
  ·rw [if_neg (Ne.symm ej)] at h1
   exact ⟨h1,by simpa [ρ',ej] using h2⟩
 have c1:Conf N Z F ((i,.cells e2 z2 [] fl2)::H) S ρ' a w:=by
  refine ⟨⟨hc.fr.size,fun t v hv=>(hc.fr.at_ t v hv).mono (fun _ h=>h) (fun _ _ _ h=>h) hρ⟩,hc.defers.keep (Keep.refl _ _) (fun b ⟨j,o,z,c,_,h1,h2,h3⟩=>?_),⟨hc.hp.hS,fun j hj=>?_,⟨fun j o _ hj=>?_,fun j m oj om b z z' c c' _ _ hne hgj hgm hlj hlm hrj hrm=>?_⟩⟩,fun j hj h0=>?_⟩
  ·obtain ⟨g1,g2⟩:=live j o b z c h1 h3
   exact .inl ⟨j,o,z,c,trivial,g1,h2,g2⟩
  ·rw [hg] at hj
   split at hj
   ·cases hj
   ·rename_i ej; simpa [ρ',Ne.symm ej] using hc.hp.dom j hj
  ·rw [hg] at hj
   split at hj
   ·rename_i ej
    subst ej
    injection hj with hj; subst hj
    exact ⟨none,z2,0,by simp [ρ'],rfl,rfl,rfl⟩
   ·obtain ⟨bk,z,cap,q1,q2⟩:=hc.hp.at_.ob j o trivial hj
    exact ⟨bk,z,cap,hρ j _ q1,q2.mono (fun _ h=>h) (fun _ _ _ h=>h) hρ fun b hb hl=>⟨rfl,(hc.hp.cells_ne hj hl (by rw [q1,hb])).1⟩⟩
  ·obtain ⟨g1,g2⟩:=live j oj b z c hgj hrj
   obtain ⟨g3,g4⟩:=live m om b z' c' hgm hrm
   exact hc.hp.at_.dis j m oj om b z z' c c' trivial trivial hne g1 g3 hlj hlm g2 g4
  ·rw [hg] at h0
   split at h0
   ·cases h0
   ·exact hc.z j hj h0
 have e1:ExtZ Z w S ρ (get H) w S ρ' (get ((i,Ob.cells e2 z2 [] fl2)::H)):=⟨Keep.refl _ _,fun _ h=>h,fun _ h=>.inl h,fun b ⟨j,o,z,c,_,h1,h2,h3⟩=>by
   obtain ⟨g1,g2⟩:=live j o b z c h1 h3
   exact .inl ⟨j,o,z,c,trivial,g1,h2,g2⟩,fun j hj=>by
   have:j≠i:=fun e=>hc.z j hj (by rw [e]; exact hi)
   simp [ρ',this]⟩
 have hki:k≠i:=fun e=>by subst e; rw [hi] at hk; cases hk
 obtain ⟨c2,e3⟩:=conf_cell c1 (k:=k) (e:=e) (z:=z) (v:=.nils) (v':=.sl i 0 0) (fl:=fl) (by rw [hg,if_neg (Ne.symm hki)]; exact hk) (fun c h=>by
  rw [h.nils_inv]; exact .sl0 i z2 (by simp [ρ']))
 exact ⟨S,ρ',c2,e1.trans e3⟩
end
end Go.Proofs.YthmbjgnjfjjibaaGreatDoor
namespace Go.Proofs.YthmbjgnjfjjibaaGreatDoor
open Go.RowKit
set_option maxRecDepth 100000
variable {al:Bool} {H H0:Hp}
theorem rc_fnr {f:Fn} {vs rs:List AV} (h:RCs H H0 al vs rs):RC H H0 al (.fn f vs) (.fn f rs):=fun S ρ w c hh hv=>by
 obtain ⟨C,rfl,hn,h2⟩:=hv.fn_inv
 obtain ⟨e1,e2⟩:=h.at_
 refine .fn f rs C (by rw [hn,e1]) fun j r hj=>?_
 obtain ⟨v,g1,g2⟩:=e2 j r hj
 exact g2 S ρ w _ hh (h2 j v g1)
theorem XJ {i e z:Nat} {cs:List AV} (h:get H i=some (.cells e z [cs] true)) (h0:get H0 i=none) (hn:al=true\/noROL cs=true):RC H H0 al (.ptr i 0 0) (.rp cs):=fun S ρ w c hh hv=>by
 obtain ⟨b,z0,cap,hρ,rfl⟩:=hv.ptr_inv
 obtain ⟨bk,z1,c1,q1,hz,q2⟩:=hh.at_.ob i _ trivial h
 rw [hρ] at q1
 injection q1 with q1
 obtain ⟨rfl,rfl,rfl⟩:some b=bk/\z0=z1/\cap=c1:=by simpa using q1
 subst hz
 obtain ⟨hs,hm,C,hC,e1,e2,e3,e4⟩:=q2
 have hSb:Sw H H0 al S ρ b:=.inr ⟨i,_,z,cap,h0,h,rfl,hρ⟩
 have hcap:1<=cap:=by simpa using e2
 have hz:=e3 0 cs rfl
 refine .cl (CR.rp cs b (0*z+0) (fun o=>C.getD o undef) hSb (fun o v ho=>?_) (fun o v ho=>?_))
 ·have hlt:o<C.size:=by
   have:=(List.getElem?_eq_some_iff.1 ho).1
   rw [e1]
   calc o<1*z:=by omega
    _<=cap*z:=Nat.mul_le_mul_right _ hcap
  obtain ⟨g1,_⟩:=e4 0 cs o v rfl ho
  refine ⟨?_,by simpa using g1⟩
  rw [cell_of_row w b _ C e (0,0) hC]
  simpa using getD_some hlt
 ·obtain ⟨_,g2⟩:=e4 0 cs o v rfl ho
  rw [if_pos rfl] at g2
  simp only [Nat.zero_mul,Nat.zero_add] at g2
  rcases hn with rfl | hn
  ·exact g2.mono (fun b hb=>.inl ⟨rfl,hb⟩) (fun _ _ _ h=>h)
  ·exact g2.noRO (noROE_mem (els:=[cs]) (by simp [noROE,hn]) cs (by simp) v (List.mem_of_getElem? ho))
theorem rec_same {r:Loop} (h1:r.state = .ready) (h2:r.pending=none):{ r with state:=if (none:Option Code).isNone then .ready else .done,pending:=none }=r:=by
 cases r; simp_all
end Go.Proofs.YthmbjgnjfjjibaaGreatDoor
namespace Go.Proofs.YthmbjgnjfjjibaaGreatDoor
open Go.RowKit
set_option maxRecDepth 100000
section
variable {N:Nat} {Z:List Nat} {F F0:Fr} {H H0:Hp}
inductive RenL (i i':Nat):List AV->List AV->Prop where
 | nil:RenL i i' [] []
 | cons {v v':AV} {l l':List AV} (h:Ren i i' v v') (r:RenL i i' l l'):RenL i i' (v::l) (v'::l')
theorem RenL.refl (i i':Nat):∀ l,RenL i i' l l
 | []=>.nil
 | v::l=>.cons (.same v) (RenL.refl i i' l)
end
end Go.Proofs.YthmbjgnjfjjibaaGreatDoor
namespace Go.Proofs.YthmbjgnjfjjibaaGreatDoor
open Go.RowKit
set_option maxRecDepth 100000
variable {S:Nat->Prop} {ρ:Rho} {w:World}
section
variable {N:Nat} {Z:List Nat} {F F0:Fr} {H H0:Hp}
inductive LendL (H:Hp) (rd:List Nat):List AV->List AV->Prop where
 | nil:LendL H rd [] []
 | int {k:IntKind} {n:Int} {l l':List AV} (r:LendL H rd l l'):LendL H rd (.int k n::l) (.int k n::l')
 | bool {b:Bool} {l l':List AV} (r:LendL H rd l l'):LendL H rd (.bool b::l) (.bool b::l')
 | sl {i e z n:Nat} {els:List (List AV)} {l l':List AV} (hi:i∈rd) (hg:get H i=some (.cells e z els true)) (hn:els.length=n) (r:LendL H rd l l'):LendL H rd (.sl i 0 n::l) (.rs z els::l')
 | nils {z:Nat} {l l':List AV} (r:LendL H rd l l'):LendL H rd (.nils::l) (.rs z []::l')
theorem VR.rs_cr {z:Nat} {els:List (List AV)} {c:Value} (h:VR w S ρ (.rs z els) c):CR w S (.rs z els) c:=by
 cases h with
 | cl h=>exact h
theorem VR.int_cr {k:IntKind} {n:Int} {c:Value} (h:VR w S ρ (.int k n) c):CR w S (.int k n) c:=by
 cases h with
 | cl h=>exact h
theorem VR.bool_cr {b:Bool} {c:Value} (h:VR w S ρ (.bool b) c):CR w S (.bool b) c:=by
 cases h with
 | cl h=>exact h
theorem LendL.at_ {Hs:Hp} {rd:List Nat} {el el':List AV} (h:LendL H rd el el'):∀ (o:Nat) (v':AV),el'[o]?=some v'->∃ v,el[o]?=some v ∧
  ∀ (w:World) (S:Nat->Prop) (ρ:Rho) (c:Value),HRi (fun i=>i∈rd\/get Hs i≠none) w S ρ H->VR w S ρ v c->CR w (fun b=>S b\/(false=false/\Jb ρ H (fun i=>i∈rd) b)) v' c:=by
 induction h with
 | nil=>intro o v' ho; simp at ho
 | @int k n l l' _ ih =>
  intro o v' ho
  cases o with
  | zero=>simp at ho; subst ho; exact ⟨_,rfl,fun w S ρ c _ hv=>hv.int_cr.mono (fun b hb=>.inl hb) (fun _ _ _ h=>h)⟩
  | succ o=>simpa using ih o v' (by simpa using ho)
 | @bool b l l' _ ih =>
  intro o v' ho
  cases o with
  | zero=>simp at ho; subst ho; exact ⟨_,rfl,fun w S ρ c _ hv=>hv.bool_cr.mono (fun b hb=>.inl hb) (fun _ _ _ h=>h)⟩
  | succ o=>simpa using ih o v' (by simpa using ho)
 | @sl i e z n els l l' hi hg hn _ ih =>
  intro o v' ho
  cases o with
  | zero =>
   simp at ho; subst ho
   refine ⟨_,rfl,fun w S ρ c hh hv=>?_⟩
   have:=hv_sl (Hs:=Hs) hi hg (j:=0) (n:=n) (by omega) (els':=els) (by rw [List.drop_zero,List.take_of_length_le (by omega)])
   exact (this w S ρ c hh hv).rs_cr
  | succ o=>simpa using ih o v' (by simpa using ho)
 | @nils z l l' _ ih =>
  intro o v' ho
  cases o with
  | zero=>simp at ho; subst ho; exact ⟨_,rfl,fun w S ρ c _ hv=>by rw [hv.nils_inv]; exact .rs0 z none 0⟩
  | succ o=>simpa using ih o v' (by simpa using ho)
inductive SeedL (i:Nat):List AV->List AV->Prop where
 | here {l:List AV}:SeedL i (.nils::l) (.sl i 0 0::l)
 | next {v:AV} {l l':List AV} (r:SeedL i l l'):SeedL i (v::l) (v::l')
end
end Go.Proofs.YthmbjgnjfjjibaaGreatDoor
namespace Go.Proofs.YthmbjgnjfjjibaaGreatDoor
open Go.RowKit
set_option maxRecDepth 100000
def ev1 (F:Fr) (H:Hp) (d:Nat):MOp->Option (AV×List Nat×List Nat×Hp)
 | .mv x=>match Qe F x with
  | some v=>some (v,[],[],H)
  | none=>none
 | .pick c a b=>match Qe F c with
  | some (.bool t)=>match Qe F (if t=true then a else b) with
   | some v=>some (v,[],[],H)
   | none=>none
  | _=>none
 | .alloc e z zero=>match Nat.beq zero.length z,get H d with
  | true,none=>some (.ptr d 0 0,[],[d],(d,.cells e z [zero] true)::H)
  | _,_=>none
 | .box e z x=>match Qe F x with
  | some v=>match X4 v with
   | some cs=>match Nat.beq cs.length z,get H d with
    | true,none=>some (.ptr d 0 0,[],[d],(d,.cells e z [cs] (Qi cs))::H)
    | _,_=>none
   | none=>none
  | none=>none
 | .build zero ps=>match fillA F zero ps with
  | some cs=>some (.agg cs,[],[],H)
  | none=>none
 | .ld g n x=>match Qe F x with
  | some (.ptr i j o)=>match get H i with
   | some (.cells _ _ els _)=>match els[j]? with
    | some el=>match g with
     | true=>match Nat.ble (o+n) el.length with
      | true=>some (.agg ((el.drop o).take n),[i],[],H)
      | false=>none
     | false=>match el[o]? with
      | some v=>some (v,[i],[],H)
      | none=>none
    | none=>none
   | _=>none
  | some (.rp cs)=>match g with
   | true=>match Nat.ble n cs.length with
    | true=>some (.agg (cs.take n),[],[],H)
    | false=>none
   | false=>match cs[0]? with
    | some v=>some (v,[],[],H)
    | none=>none
  | _=>none
 | .st n x y=>match Qe F x,Qe F y with
  | some (.ptr i j o),some u=>match get H i,X4 u with
   | some (.cells e z els fl),some cs=>match els[j]? with
    | some el=>match Nat.beq cs.length n,Nat.ble (o+n) el.length with
     | true,true=>some (.und,[],[i],(i,.cells e z (els.set j (Jj el o cs)) (fl&&Qi cs))::H)
     | _,_=>none
    | none=>none
   | _,_=>none
  | _,_=>none
 | .un .not x=>match Qe F x with
  | some (.bool b)=>some (.bool (!b),[],[],H)
  | _=>none
 | .mkfn fn caps=>match XT F caps with
  | some vs=>some (.fn fn vs,[],[],H)
  | none=>none
 | .fa off x=>match Qe F x with
  | some (.ptr i j o)=>some (.ptr i j (o+off),[],[],H)
  | some (.rp cs)=>some (.rp (cs.drop off),[],[],H)
  | _=>none
 | .ext x i=>match Qe F x with
  | some (.tup vs)=>match vs[i]? with
   | some v=>some (v,[],[],H)
   | none=>none
  | _=>none
 | .bin .lss x y=>match Qe F x,Qe F y with
  | some (.int .i64 a),some (.int .i64 b)=>some (.bool (decide (a<b)),[],[],H)
  | _,_=>none
 | _=>none
theorem ev1_spec {F:Fr} {H:Hp} {d:Nat} {op:MOp} {v:AV} {rd wr:List Nat} {H1:Hp} (h:ev1 F H d op=some (v,rd,wr,H1)) {K:AV->List Nat->List Nat->Hp->Prop} (hK:K v rd wr H1):mev F H d K op:=by
 unfold ev1 at h
 split at h
 all_goals first | (cases h; done) | skip
 all_goals (repeat' (split at h)) <;> first | (cases h; done) | skip
 all_goals (injection h with h; injection h with h1 h2; injection h2 with h2 h3; injection h3 with h3 h4; subst h1 h2 h3 h4)
 all_goals simp only [mev, *]
 all_goals first
  | exact hK
  | exact trivial
  | exact ⟨rfl,hK⟩
  | exact ⟨Nat.eq_of_beq_eq_true (by assumption),trivial,trivial⟩
  | (rw [if_pos trivial]; exact ⟨Nat.le_of_ble_eq_true (by assumption),trivial⟩)
  | exact ⟨Nat.eq_of_beq_eq_true (by assumption),Nat.le_of_ble_eq_true (by assumption),trivial⟩
def run (n:Nat) (ml:List MOper) (F:Fr) (H:Hp) (K:List Fp->Fr->Hp->Prop):Option (List MOper×Fr×Hp×(List Fp->Fr->Hp->Prop)) :=
 match n with
 | 0=>some (ml,F,H,K)
 | n+1=>match ml with
  | []=>none
  | ⟨dst,op,g,_⟩::ml=>match gOK F g with
   | true=>match ev1 F H (dst.getD 0) op with
    | some (v,rd,wr,H1)=>run n ml (putF F dst v) H1 fun fps=>K ((rd,wr)::fps)
    | none=>none
   | false=>match gNo F g with
    | true=>run n ml (putF F dst .und) H fun fps=>K (([],[])::fps)
    | false=>none
end Go.Proofs.YthmbjgnjfjjibaaGreatDoor
namespace Go.Proofs.YthmbjgnjfjjibaaGreatDoor
open Go.RowKit
set_option maxRecDepth 100000
inductive KS where
 | nil
 | seq (y:MC) (k:KS)
 | blk (id:Nat) (k:KS)
 | th (nx:Fr->Hp->Prop) (k:KS)
inductive RG where
 | aw (c:MC) (k:KS) (F:Fr) (H:Hp)
 | rs (ml:List MOper) (ms:Option (List MOper)) (acc:List Fp) (k:KS) (F:Fr) (H:Hp)
 | ex (e:Exit) (F:Fr) (H:Hp)
 | nx (p:Fr->Hp->Prop) (F:Fr) (H:Hp)
section
variable (P:Program) (N:Nat) (Z:List Nat) (rn:Option Nat)
def KS.post (Q:Post):KS->Post
 | .nil=>Q
 | .seq y k=>Then (AW P N Z rn y (KS.post Q k)) (KS.post Q k)
 | .blk id k=>InBlock id (KS.post Q k)
 | .th nx k=>Then nx (KS.post Q k)
def Kd (ms:Option (List MOper)) (acc:List Fp) (Q:Post) (fps:List Fp) (F:Fr) (H:Hp):Prop:=match ms with
 | none=>Zok Z H->Q .normal F H
 | some ms=>JB (ms.zip (acc.reverseAux fps))=true/\(Zok Z H->Q .normal F H)
def RGi (Q:Post):RG->Prop
 | .aw c k F H=>AW P N Z rn c (KS.post P N Z rn Q k) F H
 | .rs ml ms acc k F H=>RS P N ml F H (Kd Z ms acc (KS.post P N Z rn Q k))
 | .ex e F H=>Q e F H
 | .nx p F H=>p F H
end
def lv (F:Fr) (H:Hp):Exit->KS->RG
 | e,.nil=>.ex e F H
 | .normal,.seq y k=>.aw y k F H
 | .normal,.th nx _=>.nx nx F H
 | e,.seq _ k=>lv F H e k
 | e,.th _ k=>lv F H e k
 | .exit i,.blk id k=>match Nat.beq i id with
  | true=>lv F H .normal k
  | false=>lv F H (.exit i) k
 | e,.blk _ k=>lv F H e k
def st1:RG->Option RG
 | .aw c k F H=>match c with
  | .seq x y=>some (.aw x (.seq y k) F H)
  | .reg ms false=>some (.rs ms none [] k F H)
  | .reg ms true=>some (.rs ms (some ms) [] k F H)
  | .cond x y z=>match Qe F x with
   | some (.bool true)=>some (.aw y k F H)
   | some (.bool false)=>some (.aw z k F H)
   | _=>none
  | .block id x=>some (.aw x (.blk id k) F H)
  | .skip=>some (lv F H .normal k)
  | .exit i=>some (lv F H (.exit i) k)
  | .ret=>some (lv F H .ret k)
  | _=>none
 | .rs [] none _ k F H=>some (lv F H .normal k)
 | .rs [] (some ms) acc k F H=>match JB (ms.zip (acc.reverseAux [])) with
  | true=>some (lv F H .normal k)
  | false=>none
 | .rs (⟨dst,op,g,_⟩::ml) ms acc k F H=>match gOK F g with
  | true=>match ev1 F H (dst.getD 0) op with
   | some (v,rd,wr,H1)=>some (.rs ml ms ((rd,wr)::acc) k (putF F dst v) H1)
   | none=>none
  | false=>match gNo F g with
   | true=>some (.rs ml ms (([],[])::acc) k (putF F dst .und) H)
   | false=>none
 | _=>none
section
variable {P:Program} {N:Nat} {Z:List Nat} {rn:Option Nat} {Q:Post} {F:Fr} {H:Hp}
theorem lv_ok:∀ (k:KS) (e:Exit),RGi P N Z rn Q (lv F H e k)->KS.post P N Z rn Q k e F H
 | .nil,e,h=>by cases e <;> exact h
 | .seq y k,e,h=>by
  cases e with
  | normal=>exact h
  | _=>exact lv_ok k _ h
 | .th nx k,e,h=>by
  cases e with
  | normal=>exact h
  | _=>exact lv_ok k _ h
 | .blk id k,e,h=>by
  cases e with
  | exit i =>
   unfold lv at h
   show InBlock id (KS.post P N Z rn Q k) (.exit i) F H
   simp only [InBlock]
   split at h
   ·rename_i hb
    rw [if_pos (Nat.eq_of_beq_eq_true hb)]; exact lv_ok k _ h
   ·rename_i hb
    have hne:i≠id:=fun he=>by rw [he,Nat.beq_refl] at hb; cases hb
    rw [if_neg hne]; exact lv_ok k _ h
  | _=>exact lv_ok k _ h
theorem kd_cons {ms:Option (List MOper)} {acc:List Fp} {x:Fp} {R:Post}:(fun fps=>Kd Z ms acc R (x::fps))=Kd Z ms (x::acc) R:=by
 funext fps F H; cases ms <;> rfl
theorem st_ok (hm:P.follows .mixedOrders=true):∀ {r r':RG},st1 r=some r'->RGi P N Z rn Q r'->RGi P N Z rn Q r
 | .aw c k F H,r',h,h2=>by
  unfold st1 at h
  dsimp only at h
  split at h
  ·injection h with h; subst h; exact aw_seq h2
  ·injection h with h; subst h; exact aw_reg h2
  ·injection h with h; subst h; exact aw_draw hm h2
  ·split at h
   ·rename_i ha; injection h with h; subst h; exact aw_cond ha (fun _=>h2) (fun h=>by cases h)
   ·rename_i ha; injection h with h; subst h; exact aw_cond ha (fun h=>by cases h) (fun _=>h2)
   ·cases h
  ·injection h with h; subst h; exact aw_block h2
  ·injection h with h; subst h; exact aw_skip (lv_ok k _ h2)
  ·injection h with h; subst h; exact aw_exit (lv_ok k _ h2)
  ·injection h with h; subst h; exact aw_ret (lv_ok k _ h2)
  ·cases h
 | .rs [] none acc k F H,r',h,h2=>by
  injection h with h; subst h; exact rs_nil fun _=>lv_ok k _ h2
 | .rs [] (some ms) acc k F H,r',h,h2=>by
  unfold st1 at h
  dsimp only at h
  split at h
  ·rename_i ho; injection h with h; subst h; exact rs_nil ⟨ho,fun _=>lv_ok k _ h2⟩
  ·cases h
 | .rs (⟨dst,op,g,pre⟩::ml) ms acc k F H,r',h,h2=>by
  unfold st1 at h
  dsimp only at h
  split at h
  ·rename_i hg
   split at h
   ·rename_i v rd wr H1 he
    injection h with h; subst h
    refine XL hg (ev1_spec he ?_)
    rw [kd_cons]; exact h2
   ·cases h
  ·split at h
   ·rename_i hg
    injection h with h; subst h
    refine rs_skip hg ?_
    rw [kd_cons]; exact h2
   ·cases h
 | .ex e F H,r',h,h2=>by cases h
 | .nx p F H,r',h,h2=>by cases h
def rn1:Nat->RG->Option RG
 | 0,r=>some r
 | n+1,r=>match st1 r with
  | some r'=>rn1 n r'
  | none=>none
theorem rn_ok (hm:P.follows .mixedOrders=true):∀ (n:Nat) {r r':RG},rn1 n r=some r'->RGi P N Z rn Q r'->RGi P N Z rn Q r
 | 0,r,r',h,h2=>by injection h with h; subst h; exact h2
 | n+1,r,r',h,h2=>by
  unfold rn1 at h
  split at h
  ·rename_i r1 h1; exact st_ok hm h1 (rn_ok hm n h h2)
  ·cases h
variable {c:MC} {k:KS} {r:RG} {nx:Fr->Hp->Prop} {ml:List MOper} {ms:Option (List MOper)} {acc:List Fp} {x:Fp} {e:Exit}
theorem go_a (hm:P.follows .mixedOrders=true) (n:Nat) (h:rn1 n (.aw c .nil F H)=some r) (h2:RGi P N Z rn Q r):AW P N Z rn c Q F H:=rn_ok hm n h h2
theorem go_k (hm:P.follows .mixedOrders=true) (n:Nat) (h:rn1 n (.aw c k F H)=some r) (h2:RGi P N Z rn Q r):AW P N Z rn c (KS.post P N Z rn Q k) F H:=rn_ok hm n h h2
theorem go_t (hm:P.follows .mixedOrders=true) (n:Nat) (h:rn1 n (.aw c (.th nx k) F H)=some r) (h2:RGi P N Z rn Q r):AW P N Z rn c (Then nx (KS.post P N Z rn Q k)) F H:=rn_ok hm n h h2
theorem go_p (hm:P.follows .mixedOrders=true) (n:Nat) (h:rn1 n (lv F H e k)=some r) (h2:RGi P N Z rn Q r):KS.post P N Z rn Q k e F H:=lv_ok k e (rn_ok hm n h h2)
theorem go_r (hm:P.follows .mixedOrders=true) (n:Nat) (h:rn1 n (.rs ml ms (x::acc) k F H)=some r) (h2:RGi P N Z rn Q r):RS P N ml F H (fun fps=>Kd Z ms acc (KS.post P N Z rn Q k) (x::fps)):=by
 rw [kd_cons]; exact rn_ok hm n h h2
theorem go_i {r0:RG} (hm:P.follows .mixedOrders=true) (n:Nat) (h:rn1 n r0=some r) (h2:RGi P N Z rn Q r):RGi P N Z rn Q r0:=rn_ok hm n h h2
theorem Xa {ms:List MOper} (h:JB (ms.zip (acc.reverseAux []))=true) (h2:KS.post P N Z rn Q k .normal F H):RGi P N Z rn Q (.rs [] (some ms) acc k F H):=rs_nil ⟨h,fun _=>h2⟩
theorem X9 {p:Fr->Hp->Prop} (h:p F H):RGi P N Z rn Q (.nx p F H):=h
theorem Q5 (h:Q e F H):RGi P N Z rn Q (.ex e F H):=h
def pickF (F:Fr):List Nat->Option Fr
 | []=>some []
 | t::ts=>match get F t,pickF F ts with
  | some v,some r=>some ((t,v)::r)
  | _,_=>none
theorem Qk {H H0:Hp}:∀ {F0:Fr},pickF F (F0.map (·.1))=some F0->Qy (Qa H0) (F0.map (·.2))=true->KeptF H H0 F F0
 | [],_,_=>.nil
 | (t,v)::F0,h,hs=>by
  simp only [List.map_cons,pickF] at h
  split at h
  ·rename_i v' r hv hr
   injection h with h
   injection h with h3 h4
   injection h3 with _ h3
   subst h3 h4
   simp only [List.map_cons,Qy,Bool.and_eq_true] at hs
   exact .cons hv (Xq hs.1 (.inl rfl)) (Qk hr hs.2)
  ·cases h
theorem hvs_same {Hs:Hp} {rd:List Nat} {al:Bool}:∀ {vs:List AV},Qy (Qa Hs) vs=true->HVs H Hs rd al vs vs
 | [],_=>.nil
 | v::vs,h=>by
  simp only [Qy,Bool.and_eq_true] at h
  exact .cons (Ql h.1) (hvs_same h.2)
end
end Go.Proofs.YthmbjgnjfjjibaaGreatDoor
namespace Go.Proofs.YthmbjgnjfjjibaaGreatDoor
open Go.RowKit
set_option maxRecDepth 100000
variable {α:Type}
variable {H':Hp}
variable {r:AV} {al:Bool}
variable {i':Nat}
section
variable {P:Program} {N:Nat} {Z:List Nat} {rn:Option Nat} {Q:Post} {F F0:Fr} {H H0:Hp}
def pickH (H:Hp):List Nat->Option Hp
 | []=>some []
 | t::ts=>match get H t,pickH H ts with
  | some v,some r=>some ((t,v)::r)
  | _,_=>none
def scopedH (D:List Nat):Hp->Bool
 | []=>true
 | (_,ob)::r=>Q4 D ob&&scopedH D r
theorem kS {D:List Nat}:∀ {H0:Hp},pickH H (H0.map (·.1))=some H0->scopedH D H0=true->KeptHs H D H0
 | [],_,_=>.nil
 | (t,v)::H0,h,hs=>by
  simp only [List.map_cons,pickH] at h
  split at h
  ·rename_i v' r hv hr
   injection h with h
   injection h with h3 h4
   injection h3 with _ h3
   subst h3 h4
   simp only [scopedH,Bool.and_eq_true] at hs
   exact .keep hv hs.1 (kS hr hs.2)
  ·cases h
def swN (i i' k:Nat):Nat:=match Nat.beq k i with
 | true=>i'
 | false=>k
def swV (i i':Nat):AV->AV
 | .ptr k j o=>.ptr (swN i i' k) j o
 | .sl k j n=>.sl (swN i i' k) j n
 | .sa k j o n=>.sa (swN i i' k) j o n
 | .mp k=>.mp (swN i i' k)
 | .yl k=>.yl (swN i i' k)
 | v=>v
def swF (i i':Nat) (F:Fr):Fr:=F.map fun p=>(p.1,swV i i' p.2)
def swH (i i':Nat) (H:Hp):Hp:=H.map fun p=>(swN i i' p.1,p.2)
theorem swN_eq {i k:Nat}:(k=i/\swN i i' k=i')\/swN i i' k=k:=by
 unfold swN
 cases h:Nat.beq k i
 ·exact .inr rfl
 ·exact .inl ⟨Nat.eq_of_beq_eq_true h,rfl⟩
theorem ren_sw {i:Nat} (v:AV):Ren i i' (swV i' i v) v:=by
 cases v
 case ptr k j o=>rcases swN_eq (i:=i') (i':=i) (k:=k) with ⟨rfl,h⟩ | h <;> simp only [swV,h]; exact .ptr j o; exact .same _
 case sl k j o=>rcases swN_eq (i:=i') (i':=i) (k:=k) with ⟨rfl,h⟩ | h <;> simp only [swV,h]; exact .sl j o; exact .same _
 case sa k j o n=>rcases swN_eq (i:=i') (i':=i) (k:=k) with ⟨rfl,h⟩ | h <;> simp only [swV,h]; exact .sa j o n; exact .same _
 case mp k=>rcases swN_eq (i:=i') (i':=i) (k:=k) with ⟨rfl,h⟩ | h <;> simp only [swV,h]; exact .mp; exact .same _
 case yl k=>rcases swN_eq (i:=i') (i':=i) (k:=k) with ⟨rfl,h⟩ | h <;> simp only [swV,h]; exact .yl; exact .same _
 all_goals exact .same _
theorem renF_sw {i i':Nat} {F1:Fr}:∀ {F0:Fr},pickF F1 (F0.map (·.1))=some (swF i' i F0)->RenF i i' F1 F0
 | [],_=>.nil
 | (t,v)::F0,h=>by
  simp only [List.map_cons,pickF] at h
  split at h
  ·rename_i v' r hv hr
   injection h with h
   have h:(t,v')::r=(t,swV i' i v)::swF i' i F0:=h
   injection h with h3 h4
   injection h3 with _ h3
   subst h3 h4
   exact .cons hv (ren_sw v) (renF_sw hr)
  ·cases h
theorem wR (i i':Nat) {ob:Ob} (hF:KeptF H (swH i' i H0) F (swF i' i F0)) (hH:KeptHs H (Qa (swH i' i H0)) (swH i' i H0))
  (hc:(get (swH i' i H0) i,get (swH i' i H0) i',pickF (swF i' i F0) (F0.map (·.1)),pickF F0 (F0.map (·.1)),Qy (Qa H0) (F0.map (·.2)),pickH ((i',ob)::(i,.dead)::swH i' i H0) (H0.map (·.1)),scopedH (Qa H0) H0)=(some ob,none,some (swF i' i F0),some F0,true,some H0,true)):Weak N [] F H F0 H0:=by
 simp only [Prod.mk.injEq] at hc
 obtain ⟨hi,hi',hR,h1,h2,h3,h4⟩:=hc
 exact XR hF hH (fun _ h=>by cases h) hi hi' (renF_sw hR) (Qk h1 h2) (kS h3 h4) (fun _ h=>by cases h)
theorem ret_pureM {rs:List ResultVar} (h:(JD P F H rs).map Xl=some r) (hs:Qr [] r=true) (hn:noRO r=true):RetQ P [] rs r [] al .ret F H:=by
 cases hv:JD P F H rs with
 | none=>rw [hv] at h; cases h
 | some vs=>rw [hv] at h; injection h with h; exact Qg hv h hs (.inr hn)
theorem rP {rs:List ResultVar} (h:(JD P F H rs).map Xl=some r:=by exact rfl) (hs:Qr [] r=true:=by exact rfl) (hn:noRO r=true:=by exact rfl):AW P N Z rn .ret (RetQ P [] rs r [] al) F H:=aw_ret (ret_pureM h hs hn)
theorem Qc {x:Arg} {y z:MC} {p:Prop} [Decidable p] (ht:Qe F x=some (.bool (decide p))) (h1:p->AW P N Z rn y Q F H) (h2:¬ p->AW P N Z rn z Q F H):AW P N Z rn (.cond x y z) Q F H :=
 aw_cond ht (fun h=>h1 (of_decide_eq_true h)) (fun h=>h2 (of_decide_eq_false h))
theorem wkS (hc:(pickF F (F0.map (·.1)),Qy (Qa H0) (F0.map (·.2)),pickH H (H0.map (·.1)),scopedH (Qa H0) H0)=(some F0,true,some H0,true)):Weak N [] F H F0 H0:=by
 simp only [Prod.mk.injEq] at hc
 exact Qf (Qk hc.1 hc.2.1) (kS hc.2.2.1 hc.2.2.2) fun _ h=>by cases h
theorem subS:∀ {Hs:Hp},pickH H (Hs.map (·.1))=some Hs->SubH H Hs
 | [],_=>.nil
 | (t,v)::Hs,h=>by
  simp only [List.map_cons,pickH] at h
  split at h
  ·rename_i v' r hv hr
   injection h with h
   injection h with h3 h4
   injection h3 with _ h3
   subst h3 h4
   exact .cons hv (subS hr)
  ·cases h
section
variable {ml:List MOper} {K:List Fp->Fr->Hp->Prop} {d:Nat} {g:Option (Nat×Bool)} {pre:List Nat}
theorem clO {f:Nat} {ar:List Arg} {vs:List AV} {Hs:Hp} (hv:XT F ar=some vs) (hfc:FC P f vs Hs r H' true) (hc:(gOK F g,Qy (Qa Hs) vs,pickH H (Hs.map (·.1)),JI Hs,newOk H Hs H',domOk Hs H')=(true,true,some Hs,true,true,true))
  (h:RS P N ml ((d,r)::F) (H'++H) (fun fps=>K (([],Qa H')::fps))):RS P N (⟨some d,.call f ar,g,pre⟩::ml) F H K:=by
 simp only [Prod.mk.injEq] at hc
 exact X0 Hs hc.1 hv hfc (hvs_same hc.2.1) (subS hc.2.2.1) hc.2.2.2.1 hc.2.2.2.2.1 hc.2.2.2.2.2 h
theorem apM (f:α->List AV) {xs:List α} {y:α} {e z by_ a n:Nat} {zero:List AV} {s x:Arg} {v:AV} {rd:List Nat} (hn:xs.length=n) (hb:(n+1)*by_<=140737488355328)
  (hc:(gOK F g,Qe F s,Qe F x,get H a,JH H z v,zero.length,get H d,rd.contains a,(f y).length,Nat.ble 1 by_,Qi (f y))=(true,some (.sl a 0 n),some v,some (.cells e z (xs.map f) true),some (rd,[f y]),z,none,false,z,true,true))
  (h:RS P N ml ((d,.sl d 0 (n+1))::F) ((d,.cells e z ((xs++[y]).map f) true)::(a,.dead)::H) (fun fps=>K ((rd,[a,d])::fps))):RS P N (⟨some d,.app e z by_ zero s x,g,pre⟩::ml) F H K:=by
 simp only [Prod.mk.injEq] at hc
 obtain ⟨h1,h2,h3,h4,h5,h6,h7,h8,h9,h10,h11⟩:=hc
 refine rs_app_m (fl':=true) h1 h2 h3 h4 hn h5 h6 h7 (fun q=>by rw [List.contains_iff_mem.2 q] at h8; cases h8) h9 hb ?_ (by rw [h11]; rfl) h
 have:=Nat.le_of_ble_eq_true h10
 have:(n+1)*1<=(n+1)*by_:=Nat.mul_le_mul_left _ this
 omega
end
theorem Xp {x:MC} {B:Fr} {C:Hp} (ts hs:List Nat) (m:α->Nat) (G:α->Fr) (J:α->Hp) (ok:α->Prop) (a:α) (hok:ok a) (hc:(pickF F ts,pickH H hs)=(some B,some C)) (hw:Weak N Z F H (G a++B) (J a++C))
  (round:∀ a,ok a->AW P N Z rn x (Then (fun F' H'=>∃ b,ok b/\m b<m a/\Weak N Z F' H' (G b++B) (J b++C)) Q) (G a++B) (J a++C)):AW P N Z rn (.loop x) Q F H :=
 Xv m (fun a=>G a++B) (fun a=>J a++C) ok a hok hw round
abbrev okM (P:Program) (f:Func) (n:Nat):Option MC:=match f.body with | some c=>Qq P n c | none=>none
abbrev AWo (o:Option MC) (k:MC->Prop):Prop:=match o with | some mc=>k mc | none=>False
theorem awo {mc:MC} {k:MC->Prop} (h:k mc):AWo (some mc) k:=h
theorem fR {f:FuncId} {fn:Func} {rs:List ResultVar} {args:List AV} (nt:Nat) (hf:P.funcs[f]?=some fn) (hn:fn.ntmps=nt) (hr:fn.results.toList=rs) (hl:Nat.ble args.length nt=true)
  (h:AWo (okM P fn nt) fun mc=>AW P nt (Qa H) none mc (RetQ P (Qa H) rs r H' al) (params args 0) H):FC P f args H r H' al:=by
 cases hm:okM P fn nt with
 | none=>rw [hm] at h; exact h.elim
 | some mc=>rw [hm] at h; exact Qh hf hn hr hm (Nat.le_of_ble_eq_true hl) h
theorem bT {ml:List MOper} {K:List Fp->Fr->Hp->Prop} {d:Nat} {g:Option (Nat×Bool)} {pre:List Nat} {e z len:Nat} {zero l:List AV} {els:List (List AV)} {ps:List (Nat×Arg)} (hc:(gOK F g,fillS F z (reps len zero) ps,zero.length,get H d,Je z len l,Qi l)=(true,some l,z,none,els,true))
  (h:RS P N ml ((d,.sl d 0 len)::F) ((d,.cells e z els true)::H) (fun fps=>K (([],[d])::fps))):RS P N (⟨some d,.bslice e z zero len ps,g,pre⟩::ml) F H K:=by
 simp only [Prod.mk.injEq] at hc
 exact XN hc.1 hc.2.1 hc.2.2.1 hc.2.2.2.1 hc.2.2.2.2.1 hc.2.2.2.2.2 h
end
end Go.Proofs.YthmbjgnjfjjibaaGreatDoor
namespace Go.Proofs.YthmbjgnjfjjibaaGreatDoor
open Go.RowKit
set_option maxRecDepth 100000
theorem OR.out {w:World} {S:Nat->Prop} {ρ:Rho} {ob:Ob} {b z cap:Nat} (h:OR w S ρ ob (some b) z cap) (hl:ob.live=true):¬ S b:=by
 cases ob with
 | dead=>cases hl
 | glob g cs=>cases hl
 | lp r Fl=>obtain ⟨b',e,h0,_⟩:=h; injection e with e; subst e; exact h0
 | fm kvs=>obtain ⟨b',es,clock,e,h0,_⟩:=h; injection e with e; subst e; exact h0
 | mset ks=>obtain ⟨b',es,clock,e,h0,_⟩:=h; injection e with e; subst e; exact h0
 | cells e z' els flat=>exact h.2.1
variable {els:List (List AV)}
section
variable {P:Program} {N:Nat} {F:Fr} {H:Hp} {ml:List MOper} {K:List Fp->Fr->Hp->Prop} {d:Nat} {g:Option (Nat×Bool)} {pre:List Nat}
theorem StepM.frz {ops:Array Oper} {o:Oper} {mo:MOper} {rd wr:List Nat} {e z:Nat} {H1:Hp} (hd:d∈wr) (h:StepM P N ops o mo F H rd wr (.sl d 0 els.length) ((d,.cells e z els true)::H1)) :
  StepM P N ops o mo F H rd wr (.rs z els) ((d,.dead)::H1):=by
 have gs:∀ {x:Ob},get ((d,x)::H1) d=some x:=fun {x}=>by simp [get]
 have gn:∀ {x y:Ob} {i:Nat},i≠d->get ((d,x)::H1) i=get ((d,y)::H1) i:=fun {x y i} hi=>by simp [get,Ne.symm hi]
 refine ⟨fun i hi=>?_,fun i hi=>?_,fun rn S ρ a w Q K' hl hN hF hS hH hn hK=>h.gt rn S ρ a w Q K' hl hN hF hS hH hn fun cv w' S' ρ' hv hh hx=>?_⟩
 ·rw [gn (y:=.cells e z els true) (fun q=>hi (by rw [q]; exact hd))]; exact h.off i hi
 ·by_cases q:i=d
  ·subst q; rw [gs]; rfl
  ·rw [gn (y:=.cells e z els true) q]; exact h.on i hi
 ·obtain ⟨bk,z1,c1,q1,hz,q2⟩:=hh.ob d _ (.inr hd) gs
  subst hz
  have hlive:∀ b,bk=some b->Jb ρ' ((d,.cells e z els true)::H1) (fun i=>i∈rd\/i∈wr) b:=fun b hb=>⟨d,_,z,c1,.inr hd,gs,rfl,by rw [q1,hb]⟩
  have hne:∀ i ob b,(i∈rd\/i∈wr)->i≠d->get ((d,.cells e z els true)::H1) i=some ob->ob.live=true->∀ z' c',ρ' i=some (some b,z',c')->bk≠some b:=fun i ob b hi hid hg hlv z' c' hr hb =>
   hh.dis i d ob _ b z' z c' c1 hi (.inr hd) hid hg gs hlv rfl hr (by rw [q1,hb])
  refine hK cv w' (fun b=>S' b\/bk=some b) ρ' ?_ ⟨fun i ob hi hg=>?_,fun i j oi oj b z' z'' c' c'' hi hj hij hgi hgj hli hlj hri hrj=>?_⟩ ⟨hx.keep,fun b hb=>.inl (hx.sub b hb),fun b hb=>?_,fun b hb=>?_,fun b hb=>?_,hx.rho⟩
  ·rcases hv.sl_inv with ⟨b,z0,cap,cap',hρ,hjc,hnc,rfl⟩ | ⟨z0,hρ,_,h0,rfl⟩
   ·rw [q1] at hρ
    injection hρ with hρ
    obtain ⟨rfl,rfl,rfl⟩:bk=some b/\z=z0/\c1=cap:=by simpa using hρ
    obtain ⟨hs,hm,C,hC,e1,e2,e3,e4⟩:=q2
    have hq:=CR.rs (w:=w') (S:=fun x=>S' x\/some b=some x) z els b (0*z) cap' (fun q k=>C.getD (q*z+k) undef) (.inr rfl) hnc
     (fun q el k u hq hk=>by
      obtain ⟨g1,_⟩:=e4 q el k u hq hk
      have hkz:k<z:=Nat.lt_of_lt_of_le (List.getElem?_eq_some_iff.1 hk).1 (e3 _ el hq)
      have hql:q<els.length:=(List.getElem?_eq_some_iff.1 hq).1
      have hlt:q*z+k<C.size:=by
       rw [e1]
       calc q*z+k<q*z+z:=by omega
        _=(q+1)*z:=by rw [Nat.add_mul,Nat.one_mul]
        _<=c1*z:=Nat.mul_le_mul_right _ (by omega)
      refine ⟨?_,g1⟩
      rw [Nat.zero_mul,Nat.zero_add,cell_of_row w' b _ C e (0,0) hC]
      exact getD_some hlt)
     (fun q el k u hq hk=>by
      obtain ⟨_,g2⟩:=e4 q el k u hq hk
      rw [if_pos rfl] at g2
      exact g2.mono (fun x hx=>.inl hx) (fun _ _ _ h=>h))
    exact .cl hq
   ·obtain rfl:=List.eq_nil_of_length_eq_zero h0
    exact .cl (.rs0 z none 0)
  ·by_cases hid:i=d
   ·subst hid
    rw [gs] at hg
    injection hg with hg; subst hg
    exact ⟨bk,z,c1,q1,trivial⟩
   ·rw [gn (y:=.cells e z els true) hid] at hg
    obtain ⟨bk2,z2,c2,r1,r2⟩:=hh.ob i ob hi hg
    refine ⟨bk2,z2,c2,r1,r2.mono (fun b hb=>.inl hb) (fun _ _ _ h=>h) (fun _ _ h=>h) fun b hb hlv=>⟨rfl,?_⟩⟩
    subst hb
    rintro (hb | hb)
    ·exact r2.out hlv hb
    ·exact hne i ob b hi hid hg hlv z2 c2 r1 hb
  ·by_cases hid:i=d
   ·subst hid; rw [gs] at hgi; injection hgi with hgi; subst hgi; cases hli
   ·by_cases hjd:j=d
    ·subst hjd; rw [gs] at hgj; injection hgj with hgj; subst hgj; cases hlj
    ·rw [gn (y:=.cells e z els true) hid] at hgi
     rw [gn (y:=.cells e z els true) hjd] at hgj
     exact hh.dis i j oi oj b z' z'' c' c'' hi hj hij hgi hgj hli hlj hri hrj
  ·rcases hb with hb | hb
   ·exact hx.fresh b hb
   ·exact .inr (hx.own b (hlive b hb))
  ·rcases hb with hb | hb
   ·exact hx.size b hb
   ·subst hb
    obtain ⟨_,_,C,hC,_⟩:=q2
    exact (Array.getElem?_eq_some_iff.1 hC).1
  ·obtain ⟨i,ob,z',c',hi,hg,hlv,hr⟩:=hb
   by_cases hid:i=d
   ·subst hid; rw [gs] at hg; injection hg with hg; subst hg; cases hlv
   ·rw [gn (y:=.cells e z els true) hid] at hg
    exact hx.own b ⟨i,ob,z',c',hi,hg,hlv,hr⟩
theorem rs_opf {mo:MOper} {e z:Nat} (hg:gOK F mo.guard=true) (h:mev F H (mo.dst.getD 0) (fun v rd wr H1=>∃ H2,v = .sl d 0 els.length/\H1=(d,.cells e z els true)::H2/\d∈wr/\RS P N ml (putF F mo.dst (.rs z els)) ((d,.dead)::H2) (fun fps=>K ((rd,wr)::fps))) mo.op):RS P N (mo::ml) F H K :=
 rs_cons fun ops o hc=>by
  obtain ⟨v,rd,wr,H1,⟨H2,rfl,rfl,hw,hK⟩,hs⟩:=stepM_op hc h (gOK_spec hg)
  exact ⟨.rs z els,rd,wr,(d,.dead)::H2,hs.frz hw,hK⟩
theorem rs_bslf {e z len:Nat} {zero l:List AV} {ps:List (Nat×Arg)} (hg:gOK F g=true) (hf:fillS F z (reps len zero) ps=some l) (hz:zero.length=z) (hd:get H d=none) (he:Je z len l=els) (hn:els.length=len) (hfl:Qi l=true)
  (h:RS P N ml ((d,.rs z els)::F) ((d,.dead)::H) (fun fps=>K (([],[d])::fps))):RS P N (⟨some d,.bslice e z zero len ps,g,pre⟩::ml) F H K :=
 rs_opf (d:=d) (e:=e) (z:=z) (els:=els) hg (by subst hn; simp only [mev,hf]; exact ⟨hz,hd,H,rfl,by rw [he,hfl]; rfl,by simp,h⟩)
end
end Go.Proofs.YthmbjgnjfjjibaaGreatDoor
namespace Go.Proofs.YthmbjgnjfjjibaaGreatDoor
open Go.RowKit
set_option maxRecDepth 100000
section
inductive Dg where
 | d0
 | d1
 | d2
 | d3
 | d4
 | d5
 | d6
 | d7
 | d8
 | d9
 | d10
 | d11
 | d12
 | d13
 | d14
 | d15
structure Sx (α:Type) where
 f0:α
 f1:α
 f2:α
 f3:α
 f4:α
 f5:α
 f6:α
 f7:α
 f8:α
 f9:α
 f10:α
 f11:α
 f12:α
 f13:α
 f14:α
 f15:α
def Dg.val:Dg->Nat
 | .d0=>0
 | .d1=>1
 | .d2=>2
 | .d3=>3
 | .d4=>4
 | .d5=>5
 | .d6=>6
 | .d7=>7
 | .d8=>8
 | .d9=>9
 | .d10=>10
 | .d11=>11
 | .d12=>12
 | .d13=>13
 | .d14=>14
 | .d15=>15
noncomputable def dgOf (n:Nat):Dg:=(@Nat.rec (fun _=>Dg) .d0 (fun n _=>(@Nat.rec (fun _=>Dg) .d1 (fun n _=>(@Nat.rec (fun _=>Dg) .d2 (fun n _=>(@Nat.rec (fun _=>Dg) .d3 (fun n _=>(@Nat.rec (fun _=>Dg) .d4 (fun n _=>(@Nat.rec (fun _=>Dg) .d5 (fun n _=>(@Nat.rec (fun _=>Dg) .d6 (fun n _=>(@Nat.rec (fun _=>Dg) .d7 (fun n _=>(@Nat.rec (fun _=>Dg) .d8 (fun n _=>(@Nat.rec (fun _=>Dg) .d9 (fun n _=>(@Nat.rec (fun _=>Dg) .d10 (fun n _=>(@Nat.rec (fun _=>Dg) .d11 (fun n _=>(@Nat.rec (fun _=>Dg) .d12 (fun n _=>(@Nat.rec (fun _=>Dg) .d13 (fun n _=>(@Nat.rec (fun _=>Dg) .d14 (fun n _=>Dg.d15) n)) n)) n)) n)) n)) n)) n)) n)) n)) n)) n)) n)) n)) n)) n)
theorem Jz:∀ n:Nat,n<16->(dgOf n).val=n:=by
 intro n h
 have:n=0\/n=1\/n=2\/n=3\/n=4\/n=5\/n=6\/n=7\/n=8\/n=9\/n=10\/n=11\/n=12\/n=13\/n=14\/n=15:=by omega
 rcases this with rfl | rfl | rfl | rfl | rfl | rfl | rfl | rfl | rfl | rfl | rfl | rfl | rfl | rfl | rfl | rfl <;> rfl
theorem Dg.val_inj {a b:Dg} (h:a.val=b.val):a=b:=by cases a <;> cases b <;> first | rfl | cases h
instance:DecidableEq Dg:=fun a b=>if h:a.val=b.val then isTrue (Dg.val_inj h) else isFalse fun e=>h (by rw [e])
variable {α:Type}
noncomputable def gX (t:Sx α) (d:Dg):α := @Dg.rec (fun _=>Sx α->α) (fun t=>t.f0) (fun t=>t.f1) (fun t=>t.f2) (fun t=>t.f3) (fun t=>t.f4) (fun t=>t.f5) (fun t=>t.f6) (fun t=>t.f7) (fun t=>t.f8) (fun t=>t.f9) (fun t=>t.f10) (fun t=>t.f11) (fun t=>t.f12) (fun t=>t.f13) (fun t=>t.f14) (fun t=>t.f15) d t
noncomputable def sX (t:Sx α) (d:Dg) (x:α):Sx α := @Dg.rec (fun _=>Sx α->α->Sx α) (fun t x => @Sx.rec α (fun _=>Sx α) (fun a0 a1 a2 a3 a4 a5 a6 a7 a8 a9 a10 a11 a12 a13 a14 a15=>.mk x a1 a2 a3 a4 a5 a6 a7 a8 a9 a10 a11 a12 a13 a14 a15) t)
 (fun t x => @Sx.rec α (fun _=>Sx α) (fun a0 a1 a2 a3 a4 a5 a6 a7 a8 a9 a10 a11 a12 a13 a14 a15=>.mk a0 x a2 a3 a4 a5 a6 a7 a8 a9 a10 a11 a12 a13 a14 a15) t)
 (fun t x => @Sx.rec α (fun _=>Sx α) (fun a0 a1 a2 a3 a4 a5 a6 a7 a8 a9 a10 a11 a12 a13 a14 a15=>.mk a0 a1 x a3 a4 a5 a6 a7 a8 a9 a10 a11 a12 a13 a14 a15) t)
 (fun t x => @Sx.rec α (fun _=>Sx α) (fun a0 a1 a2 a3 a4 a5 a6 a7 a8 a9 a10 a11 a12 a13 a14 a15=>.mk a0 a1 a2 x a4 a5 a6 a7 a8 a9 a10 a11 a12 a13 a14 a15) t)
 (fun t x => @Sx.rec α (fun _=>Sx α) (fun a0 a1 a2 a3 a4 a5 a6 a7 a8 a9 a10 a11 a12 a13 a14 a15=>.mk a0 a1 a2 a3 x a5 a6 a7 a8 a9 a10 a11 a12 a13 a14 a15) t)
 (fun t x => @Sx.rec α (fun _=>Sx α) (fun a0 a1 a2 a3 a4 a5 a6 a7 a8 a9 a10 a11 a12 a13 a14 a15=>.mk a0 a1 a2 a3 a4 x a6 a7 a8 a9 a10 a11 a12 a13 a14 a15) t)
 (fun t x => @Sx.rec α (fun _=>Sx α) (fun a0 a1 a2 a3 a4 a5 a6 a7 a8 a9 a10 a11 a12 a13 a14 a15=>.mk a0 a1 a2 a3 a4 a5 x a7 a8 a9 a10 a11 a12 a13 a14 a15) t)
 (fun t x => @Sx.rec α (fun _=>Sx α) (fun a0 a1 a2 a3 a4 a5 a6 a7 a8 a9 a10 a11 a12 a13 a14 a15=>.mk a0 a1 a2 a3 a4 a5 a6 x a8 a9 a10 a11 a12 a13 a14 a15) t)
 (fun t x => @Sx.rec α (fun _=>Sx α) (fun a0 a1 a2 a3 a4 a5 a6 a7 a8 a9 a10 a11 a12 a13 a14 a15=>.mk a0 a1 a2 a3 a4 a5 a6 a7 x a9 a10 a11 a12 a13 a14 a15) t)
 (fun t x => @Sx.rec α (fun _=>Sx α) (fun a0 a1 a2 a3 a4 a5 a6 a7 a8 a9 a10 a11 a12 a13 a14 a15=>.mk a0 a1 a2 a3 a4 a5 a6 a7 a8 x a10 a11 a12 a13 a14 a15) t)
 (fun t x => @Sx.rec α (fun _=>Sx α) (fun a0 a1 a2 a3 a4 a5 a6 a7 a8 a9 a10 a11 a12 a13 a14 a15=>.mk a0 a1 a2 a3 a4 a5 a6 a7 a8 a9 x a11 a12 a13 a14 a15) t)
 (fun t x => @Sx.rec α (fun _=>Sx α) (fun a0 a1 a2 a3 a4 a5 a6 a7 a8 a9 a10 a11 a12 a13 a14 a15=>.mk a0 a1 a2 a3 a4 a5 a6 a7 a8 a9 a10 x a12 a13 a14 a15) t)
 (fun t x => @Sx.rec α (fun _=>Sx α) (fun a0 a1 a2 a3 a4 a5 a6 a7 a8 a9 a10 a11 a12 a13 a14 a15=>.mk a0 a1 a2 a3 a4 a5 a6 a7 a8 a9 a10 a11 x a13 a14 a15) t)
 (fun t x => @Sx.rec α (fun _=>Sx α) (fun a0 a1 a2 a3 a4 a5 a6 a7 a8 a9 a10 a11 a12 a13 a14 a15=>.mk a0 a1 a2 a3 a4 a5 a6 a7 a8 a9 a10 a11 a12 x a14 a15) t)
 (fun t x => @Sx.rec α (fun _=>Sx α) (fun a0 a1 a2 a3 a4 a5 a6 a7 a8 a9 a10 a11 a12 a13 a14 a15=>.mk a0 a1 a2 a3 a4 a5 a6 a7 a8 a9 a10 a11 a12 a13 x a15) t)
 (fun t x => @Sx.rec α (fun _=>Sx α) (fun a0 a1 a2 a3 a4 a5 a6 a7 a8 a9 a10 a11 a12 a13 a14 a15=>.mk a0 a1 a2 a3 a4 a5 a6 a7 a8 a9 a10 a11 a12 a13 a14 x) t) d t x
theorem gX_sX (t:Sx α) (d e:Dg) (x:α):gX (sX t d x) e=if d=e then x else gX t e:=by
 cases t; cases d <;> cases e <;> first | rfl | (rw [if_neg (fun h=>by cases h)]; rfl)
abbrev T2 (α:Type):=Sx (Sx (Option α))
abbrev T3 (α:Type):=Sx (T2 α)
noncomputable def n16:Sx (Option α):=.mk none none none none none none none none none none none none none none none none
noncomputable def e2:T2 α:=.mk n16 n16 n16 n16 n16 n16 n16 n16 n16 n16 n16 n16 n16 n16 n16 n16
noncomputable def e3:T3 α:=.mk e2 e2 e2 e2 e2 e2 e2 e2 e2 e2 e2 e2 e2 e2 e2 e2
noncomputable def hi (n:Nat):Dg:=dgOf (Nat.mod (Nat.div n 16) 16)
noncomputable def lo (n:Nat):Dg:=dgOf (Nat.mod n 16)
noncomputable def top (n:Nat):Dg:=dgOf (Nat.div n 256)
noncomputable def g2 (t:T2 α) (n:Nat):Option α:=gX (gX t (hi n)) (lo n)
noncomputable def s2 (t:T2 α) (n:Nat) (x:α):T2 α:=sX t (hi n) (sX (gX t (hi n)) (lo n) (some x))
noncomputable def g3 (t:T3 α) (n:Nat):Option α:=g2 (gX t (top n)) n
noncomputable def s3 (t:T3 α) (n:Nat) (x:α):T3 α:=sX t (top n) (s2 (gX t (top n)) n x)
theorem hl_inj {m n:Nat} (hm:m<256) (hn:n<256) (h:hi m=hi n) (h':lo m=lo n):m=n:=by
 have a1:=Jz (m / 16 % 16) (by omega)
 have a2:=Jz (n / 16 % 16) (by omega)
 have b1:=Jz (m % 16) (by omega)
 have b2:=Jz (n % 16) (by omega)
 have h1:dgOf (m / 16 % 16)=dgOf (n / 16 % 16):=h
 have h2:dgOf (m % 16)=dgOf (n % 16):=h'
 rw [h1,a2] at a1
 rw [h2,b2] at b1
 omega
theorem thl_inj {m n:Nat} (hm:m<4096) (hn:n<4096) (h0:top m=top n) (h:hi m=hi n) (h':lo m=lo n):m=n:=by
 have a1:=Jz (m / 16 % 16) (by omega)
 have a2:=Jz (n / 16 % 16) (by omega)
 have b1:=Jz (m % 16) (by omega)
 have b2:=Jz (n % 16) (by omega)
 have c1:=Jz (m / 256) (by omega)
 have c2:=Jz (n / 256) (by omega)
 have h1:dgOf (m / 16 % 16)=dgOf (n / 16 % 16):=h
 have h2:dgOf (m % 16)=dgOf (n % 16):=h'
 have h3:dgOf (m / 256)=dgOf (n / 256):=h0
 rw [h1,a2] at a1
 rw [h2,b2] at b1
 rw [h3,c2] at c1
 omega
theorem g2_s2 (t:T2 α) {n m:Nat} (hn:n<256) (hm:m<256) (x:α):g2 (s2 t n x) m=if n=m then some x else g2 t m:=by
 unfold g2 s2
 rw [gX_sX]
 by_cases h:hi n=hi m
 ·rw [if_pos h,gX_sX,h]
  by_cases h2:lo n=lo m
  ·rw [if_pos h2,if_pos (hl_inj hn hm h h2)]
  ·rw [if_neg h2,if_neg fun e=>h2 (by rw [e])]
 ·rw [if_neg h,if_neg fun e=>h (by rw [e])]
theorem g3_s3 (t:T3 α) {n m:Nat} (hn:n<4096) (hm:m<4096) (x:α):g3 (s3 t n x) m=if n=m then some x else g3 t m:=by
 unfold g3 s3
 rw [gX_sX]
 by_cases h0:top n=top m
 ·rw [if_pos h0]
  unfold g2 s2
  rw [gX_sX]
  by_cases h:hi n=hi m
  ·rw [if_pos h,gX_sX,h,h0]
   by_cases h2:lo n=lo m
   ·rw [if_pos h2,if_pos (thl_inj hn hm h0 h h2)]
   ·rw [if_neg h2,if_neg fun e=>h2 (by rw [e])]
  ·rw [if_neg h,if_neg fun e=>h (by rw [e]),h0]
 ·rw [if_neg h0,if_neg fun e=>h0 (by rw [e])]
inductive Ky where
 | no
 | at (h l:Dg)
inductive K3 where
 | no
 | at (t h l:Dg)
noncomputable def ky (n:Nat):Ky := @Bool.rec (fun _=>Ky) .no (.at (hi n) (lo n)) (Nat.ble n 255)
noncomputable def k3 (n:Nat):K3 := @Bool.rec (fun _=>K3) .no (.at (top n) (hi n) (lo n)) (Nat.ble n 4095)
noncomputable def gF (t:T2 α) (n:Nat):Option α := @Ky.rec (fun _=>T2 α->Option α) (fun _=>none) (fun h l t=>gX (gX t h) l) (ky n) t
noncomputable def sF (t:T2 α) (n:Nat) (x:α):T2 α := @Ky.rec (fun _=>T2 α->α->T2 α) (fun t _=>t) (fun h l t x=>sX t h (sX (gX t h) l (some x))) (ky n) t x
noncomputable def gH (t:T3 α) (n:Nat):Option α := @K3.rec (fun _=>T3 α->Option α) (fun _=>none) (fun u h l t=>gX (gX (gX t u) h) l) (k3 n) t
noncomputable def sH (t:T3 α) (n:Nat) (x:α):T3 α := @K3.rec (fun _=>T3 α->α->T3 α) (fun t _=>t) (fun u h l t x=>sX t u (sX (gX t u) h (sX (gX (gX t u) h) l (some x)))) (k3 n) t x
theorem ky_lt {n:Nat} (h:n<256):ky n = .at (hi n) (lo n):=by
 unfold ky; rw [show Nat.ble n 255=true from Nat.ble_eq_true_of_le (by omega)]
theorem ky_ge {n:Nat} (h:¬ n<256):ky n = .no:=by
 unfold ky
 cases hb:Nat.ble n 255 with
 | true=>exact absurd (Nat.le_of_ble_eq_true hb) (by omega)
 | false=>rfl
theorem k3_lt {n:Nat} (h:n<4096):k3 n = .at (top n) (hi n) (lo n):=by
 unfold k3; rw [show Nat.ble n 4095=true from Nat.ble_eq_true_of_le (by omega)]
theorem k3_ge {n:Nat} (h:¬ n<4096):k3 n = .no:=by
 unfold k3
 cases hb:Nat.ble n 4095 with
 | true=>exact absurd (Nat.le_of_ble_eq_true hb) (by omega)
 | false=>rfl
theorem gF_sF (t:T2 α) {n:Nat} (hn:n<256) (m:Nat) (x:α):gF (sF t n x) m=if n=m then some x else gF t m:=by
 unfold gF sF
 rw [ky_lt hn]
 by_cases hm:m<256
 ·rw [ky_lt hm]; exact g2_s2 t hn hm x
 ·rw [ky_ge hm,if_neg (by omega)]
theorem gH_sH (t:T3 α) {n:Nat} (hn:n<4096) (m:Nat) (x:α):gH (sH t n x) m=if n=m then some x else gH t m:=by
 unfold gH sH
 rw [k3_lt hn]
 by_cases hm:m<4096
 ·rw [k3_lt hm]; exact g3_s3 t hn hm x
 ·rw [k3_ge hm,if_neg (by omega)]
theorem gF_ge (t:T2 α) {n:Nat} (h:¬ n<256):gF t n=none:=by unfold gF; rw [ky_ge h]
theorem gH_ge (t:T3 α) {n:Nat} (h:¬ n<4096):gH t n=none:=by unfold gH; rw [k3_ge h]
theorem gX_n16 (d:Dg):gX (n16:Sx (Option α)) d=none:=by cases d <;> rfl
theorem gX_e2 (d:Dg):gX (e2:T2 α) d=n16:=by cases d <;> rfl
theorem gX_e3 (d:Dg):gX (e3:T3 α) d=e2:=by cases d <;> rfl
theorem g2_e (n:Nat):g2 (e2:T2 α) n=none:=by unfold g2; rw [gX_e2,gX_n16]
theorem g3_e (n:Nat):g3 (e3:T3 α) n=none:=by unfold g3; rw [gX_e3,g2_e]
theorem gF_e (n:Nat):gF (e2:T2 α) n=none:=by
 by_cases h:n<256
 ·unfold gF; rw [ky_lt h]; exact g2_e n
 ·exact gF_ge _ h
theorem gH_e (n:Nat):gH (e3:T3 α) n=none:=by
 by_cases h:n<4096
 ·unfold gH; rw [k3_lt h]; exact g3_e n
 ·exact gH_ge _ h
end
end Go.Proofs.YthmbjgnjfjjibaaGreatDoor
namespace Go.Proofs.YthmbjgnjfjjibaaGreatDoor
open Go.RowKit
set_option maxRecDepth 100000
inductive EO where
 | ob (o:Ob)
 | lp (ps:List Nat) (x y:MC) (F:T2 AV)
 | busy (F:T2 AV)
 | done (F:T2 AV)
inductive Re where
 | no
 | mk (v:AV) (rd wr:List Nat) (upd:Hp) (al:Nat)
abbrev Lk:=T2 AV
abbrev Hk:=T3 EO
noncomputable def fN {β:Type} (a:Nat) (k:Nat->β):β := @Nat.rec (fun _=>β) (k 0) (fun m _=>k (Nat.succ m)) a
noncomputable def fI {β:Type} (n:Int) (k:Int->β):β := @Int.rec (fun _=>β) (fun a=>fN a fun a=>k (.ofNat a)) (fun a=>fN a fun a=>k (.negSucc a)) n
variable {β:Type}
theorem fN_eq (a:Nat) (k:Nat->β):fN a k=k a:=by cases a <;> rfl
theorem fI_eq (n:Int) (k:Int->β):fI n k=k n:=by
 cases n with
 | ofNat a=>exact fN_eq a fun a=>k (.ofNat a)
 | negSucc a=>exact fN_eq a fun a=>k (.negSucc a)
noncomputable def Q6 {β:Type} (b:Bool) (x y:β):β := @Bool.rec (fun _=>β) y x b
noncomputable def Qn (b:Bool) (r:Re):Re := @Bool.rec (fun _=>Re) .no r b
noncomputable def oV {α:Type} (x:Option α) (k:α->Re):Re := @Option.rec α (fun _=>Re) .no k x
noncomputable def iN (n:Int) (k:Nat->Re):Re := @Int.rec (fun _=>Re) k (fun _=>.no) n
noncomputable def vInt (v:AV):(IntKind->Int->Re)->Re :=
 @AV.rec (fun _=>(IntKind->Int->Re)->Re) (fun _=>Unit) (fun _=>Unit) (fun _=>.no) (fun _=>.no) (fun _ _=>.no) (fun k n h0=>h0 k n) (fun _ _=>.no) (fun _=>.no) (fun _ _ _ _=>.no) (fun _ _ _=>.no) (fun _=>.no) (fun _ _ _ _=>.no) (fun _ _ _ _ _=>.no) (fun _ _ _ _=>.no) (fun _ _ _ _=>.no) (fun _=>.no) (fun _ _ _=>.no) (fun _ _ _=>.no) (fun _=>.no) (fun _ _=>.no) (fun _=>.no) (fun _ _ _ _=>.no) (fun _ _ _ _=>.no) (fun _ _=>.no) (fun _ _ _ _=>.no) (fun _=>.no) () (fun _ _ _ _=>()) () (fun _ _ _ _=>()) v
noncomputable def vBool (v:AV):(Bool->Re)->Re :=
 @AV.rec (fun _=>(Bool->Re)->Re) (fun _=>Unit) (fun _=>Unit) (fun _=>.no) (fun _=>.no) (fun b h0=>h0 b) (fun _ _ _=>.no) (fun _ _=>.no) (fun _=>.no) (fun _ _ _ _=>.no) (fun _ _ _=>.no) (fun _=>.no) (fun _ _ _ _=>.no) (fun _ _ _ _ _=>.no) (fun _ _ _ _=>.no) (fun _ _ _ _=>.no) (fun _=>.no) (fun _ _ _=>.no) (fun _ _ _=>.no) (fun _=>.no) (fun _ _=>.no) (fun _=>.no) (fun _ _ _ _=>.no) (fun _ _ _ _=>.no) (fun _ _=>.no) (fun _ _ _ _=>.no) (fun _=>.no) () (fun _ _ _ _=>()) () (fun _ _ _ _=>()) v
noncomputable def vPtr (v:AV):(Nat->Nat->Nat->Re)->((List AV)->Re)->Re :=
 @AV.rec (fun _=>(Nat->Nat->Nat->Re)->((List AV)->Re)->Re) (fun _=>Unit) (fun _=>Unit) (fun _ _=>.no) (fun _ _=>.no) (fun _ _ _=>.no) (fun _ _ _ _=>.no) (fun _ _ _=>.no) (fun _ _=>.no) (fun i j o h0 h1=>h0 i j o) (fun cs _ih h0 h1=>h1 cs) (fun _ _=>.no) (fun _ _ _ _ _=>.no) (fun _ _ _ _ _ _=>.no) (fun _ _ _ _ _=>.no) (fun _ _ _ _ _=>.no) (fun _ _=>.no) (fun _ _ _ _=>.no) (fun _ _ _ _=>.no) (fun _ _=>.no) (fun _ _ _=>.no) (fun _ _=>.no) (fun _ _ _ _ _=>.no) (fun _ _ _ _ _=>.no) (fun _ _ _=>.no) (fun _ _ _ _ _=>.no) (fun _ _=>.no) () (fun _ _ _ _=>()) () (fun _ _ _ _=>()) v
noncomputable def vAgg (v:AV):((List AV)->Re)->Re :=
 @AV.rec (fun _=>((List AV)->Re)->Re) (fun _=>Unit) (fun _=>Unit) (fun _=>.no) (fun _=>.no) (fun _ _=>.no) (fun _ _ _=>.no) (fun _ _=>.no) (fun _=>.no) (fun _ _ _ _=>.no) (fun _ _ _=>.no) (fun _=>.no) (fun _ _ _ _=>.no) (fun _ _ _ _ _=>.no) (fun _ _ _ _=>.no) (fun _ _ _ _=>.no) (fun _=>.no) (fun cs _ih h0=>h0 cs) (fun _ _ _=>.no) (fun _=>.no) (fun _ _=>.no) (fun _=>.no) (fun _ _ _ _=>.no) (fun _ _ _ _=>.no) (fun _ _=>.no) (fun _ _ _ _=>.no) (fun _=>.no) () (fun _ _ _ _=>()) () (fun _ _ _ _=>()) v
noncomputable def vTup (v:AV):((List AV)->Re)->Re :=
 @AV.rec (fun _=>((List AV)->Re)->Re) (fun _=>Unit) (fun _=>Unit) (fun _=>.no) (fun _=>.no) (fun _ _=>.no) (fun _ _ _=>.no) (fun _ _=>.no) (fun _=>.no) (fun _ _ _ _=>.no) (fun _ _ _=>.no) (fun _=>.no) (fun _ _ _ _=>.no) (fun _ _ _ _ _=>.no) (fun _ _ _ _=>.no) (fun _ _ _ _=>.no) (fun _=>.no) (fun _ _ _=>.no) (fun cs _ih h0=>h0 cs) (fun _=>.no) (fun _ _=>.no) (fun _=>.no) (fun _ _ _ _=>.no) (fun _ _ _ _=>.no) (fun _ _=>.no) (fun _ _ _ _=>.no) (fun _=>.no) () (fun _ _ _ _=>()) () (fun _ _ _ _=>()) v
noncomputable def vSl (v:AV):(Nat->(List (List AV))->Re)->(Nat->Nat->Nat->Re)->(Nat->Nat->Nat->Nat->Re)->(Re)->Re :=
 @AV.rec (fun _=>(Nat->(List (List AV))->Re)->(Nat->Nat->Nat->Re)->(Nat->Nat->Nat->Nat->Re)->(Re)->Re) (fun _=>Unit) (fun _=>Unit) (fun _ _ _ _=>.no) (fun _ _ _ _=>.no) (fun _ _ _ _ _=>.no) (fun _ _ _ _ _ _=>.no) (fun _ _ _ _ _=>.no) (fun _ _ _ _=>.no) (fun _ _ _ _ _ _ _=>.no) (fun _ _ _ _ _ _=>.no) (fun h0 h1 h2 h3=>h3) (fun i j n h0 h1 h2 h3=>h1 i j n) (fun i j o n h0 h1 h2 h3=>h2 i j o n) (fun z els _ih h0 h1 h2 h3=>h0 z els) (fun _ _ _ _ _ _ _=>.no) (fun _ _ _ _=>.no) (fun _ _ _ _ _ _=>.no) (fun _ _ _ _ _ _=>.no) (fun _ _ _ _=>.no) (fun _ _ _ _ _=>.no) (fun _ _ _ _=>.no) (fun _ _ _ _ _ _ _=>.no) (fun _ _ _ _ _ _ _=>.no) (fun _ _ _ _ _=>.no) (fun _ _ _ _ _ _ _=>.no) (fun _ _ _ _=>.no) () (fun _ _ _ _=>()) () (fun _ _ _ _=>()) v
noncomputable def vIf (v:AV):(Re)->(Nat->AV->Re)->Re :=
 @AV.rec (fun _=>(Re)->(Nat->AV->Re)->Re) (fun _=>Unit) (fun _=>Unit) (fun _ _=>.no) (fun _ _=>.no) (fun _ _ _=>.no) (fun _ _ _ _=>.no) (fun _ _ _=>.no) (fun _ _=>.no) (fun _ _ _ _ _=>.no) (fun _ _ _ _=>.no) (fun _ _=>.no) (fun _ _ _ _ _=>.no) (fun _ _ _ _ _ _=>.no) (fun _ _ _ _ _=>.no) (fun _ _ _ _ _=>.no) (fun _ _=>.no) (fun _ _ _ _=>.no) (fun _ _ _ _=>.no) (fun _ _=>.no) (fun _ _ _=>.no) (fun h0 h1=>h0) (fun t v _ih h0 h1=>h1 t v) (fun _ _ _ _ _=>.no) (fun _ _ _=>.no) (fun _ _ _ _ _=>.no) (fun _ _=>.no) () (fun _ _ _ _=>()) () (fun _ _ _ _=>()) v
noncomputable def vNil (v:AV):(Re)->(Nat->(List (List AV))->Re)->(Nat->Nat->Nat->Re)->(Re)->(Nat->Nat->Nat->Re)->((List AV)->Re)->Re :=
 @AV.rec (fun _=>(Re)->(Nat->(List (List AV))->Re)->(Nat->Nat->Nat->Re)->(Re)->(Nat->Nat->Nat->Re)->((List AV)->Re)->Re) (fun _=>Unit) (fun _=>Unit) (fun _ _ _ _ _ _=>.no) (fun _ _ _ _ _ _=>.no) (fun _ _ _ _ _ _ _=>.no) (fun _ _ _ _ _ _ _ _=>.no) (fun _ _ _ _ _ _ _=>.no) (fun h0 h1 h2 h3 h4 h5=>h3) (fun i j o h0 h1 h2 h3 h4 h5=>h4 i j o) (fun cs _ih h0 h1 h2 h3 h4 h5=>h5 cs) (fun h0 h1 h2 h3 h4 h5=>h0) (fun i j n h0 h1 h2 h3 h4 h5=>h2 i j n) (fun _ _ _ _ _ _ _ _ _ _=>.no) (fun z els _ih h0 h1 h2 h3 h4 h5=>h1 z els) (fun _ _ _ _ _ _ _ _ _=>.no) (fun _ _ _ _ _ _=>.no) (fun _ _ _ _ _ _ _ _=>.no) (fun _ _ _ _ _ _ _ _=>.no) (fun _ _ _ _ _ _=>.no) (fun _ _ _ _ _ _ _=>.no) (fun _ _ _ _ _ _=>.no) (fun _ _ _ _ _ _ _ _ _=>.no) (fun _ _ _ _ _ _ _ _ _=>.no) (fun _ _ _ _ _ _ _=>.no) (fun _ _ _ _ _ _ _ _ _=>.no) (fun _ _ _ _ _ _=>.no) () (fun _ _ _ _=>()) () (fun _ _ _ _=>()) v
noncomputable def vStr (v:AV):(ByteArray->Re)->Re :=
 @AV.rec (fun _=>(ByteArray->Re)->Re) (fun _=>Unit) (fun _=>Unit) (fun _=>.no) (fun _=>.no) (fun _ _=>.no) (fun _ _ _=>.no) (fun s h0=>h0 s) (fun _=>.no) (fun _ _ _ _=>.no) (fun _ _ _=>.no) (fun _=>.no) (fun _ _ _ _=>.no) (fun _ _ _ _ _=>.no) (fun _ _ _ _=>.no) (fun _ _ _ _=>.no) (fun _=>.no) (fun _ _ _=>.no) (fun _ _ _=>.no) (fun _=>.no) (fun _ _=>.no) (fun _=>.no) (fun _ _ _ _=>.no) (fun _ _ _ _=>.no) (fun _ _=>.no) (fun _ _ _ _=>.no) (fun _=>.no) () (fun _ _ _ _=>()) () (fun _ _ _ _=>()) v
noncomputable def JN (o:Option Ob) (k:Nat->Nat->List (List AV)->Bool->Re):Re :=
 @Option.rec Ob (fun _=>(Nat->Nat->List (List AV)->Bool->Re)->Re) (fun _=>.no) (fun o => @Ob.rec (fun _=>(Nat->Nat->List (List AV)->Bool->Re)->Re) (fun _=>.no) (fun e z els fl k=>k e z els fl) (fun _ _=>.no) (fun _ _ _=>.no) (fun _ _=>.no) (fun _ _ _=>.no) o) o k
noncomputable def obE (H:Hk) (i:Nat):Option Ob :=
 @Option.rec EO (fun _=>Option Ob) none (fun o => @EO.rec (fun _=>Option Ob) (fun o=>some o) (fun _ _ _ _=>none) (fun _=>none) (fun _=>none) o) (gH H i)
noncomputable def wrF (k:IntKind) (n:Int):Int := @IntKind.rec (fun _=>Int->Int) (fun n=>IntKind.i8.wrap n) (fun n=>IntKind.i16.wrap n) (fun n=>IntKind.i32.wrap n)
 (fun n => @Int.rec (fun _=>Int) (fun a=>Q6 (Nat.ble a 9223372036854775807) (.ofNat a) (IntKind.i64.wrap (.ofNat a))) (fun a=>Q6 (Nat.ble a 9223372036854775807) (.negSucc a) (IntKind.i64.wrap (.negSucc a))) n)
 (fun n=>IntKind.u8.wrap n) (fun n=>IntKind.u16.wrap n)
 (fun n => @Int.rec (fun _=>Int) (fun a=>Q6 (Nat.ble a 4294967295) (.ofNat a) (IntKind.u32.wrap (.ofNat a))) (fun a=>IntKind.u32.wrap (.negSucc a)) n)
 (fun n => @Int.rec (fun _=>Int) (fun a=>Q6 (Nat.ble a 18446744073709551615) (.ofNat a) (IntKind.u64.wrap (.ofNat a))) (fun a=>IntKind.u64.wrap (.negSucc a)) n) k n
noncomputable def iEq (a b:Int):Bool := @Int.rec (fun _=>Int->Bool) (fun a b => @Int.rec (fun _=>Bool) (fun b=>Nat.beq a b) (fun _=>false) b) (fun a b => @Int.rec (fun _=>Bool) (fun _=>false) (fun b=>Nat.beq a b) b) a b
noncomputable def iLe (a b:Int):Bool := @Int.rec (fun _=>Int->Bool) (fun a b => @Int.rec (fun _=>Bool) (fun b=>Nat.ble a b) (fun _=>false) b) (fun a b => @Int.rec (fun _=>Bool) (fun _=>true) (fun b=>Nat.ble b a) b) a b
noncomputable def nt (b:Bool):Bool := @Bool.rec (fun _=>Bool) true false b
noncomputable def iLt (a b:Int):Bool:=nt (iLe b a)
noncomputable def iAdd (a b:Int):Int := @Int.rec (fun _=>Int->Int)
 (fun a b => @Int.rec (fun _=>Int) (fun b=>.ofNat (Nat.add a b)) (fun b=>Q6 (Nat.ble a b) (.negSucc (Nat.sub b a)) (.ofNat (Nat.sub a (Nat.succ b)))) b)
 (fun a b => @Int.rec (fun _=>Int) (fun b=>Q6 (Nat.ble b a) (.negSucc (Nat.sub a b)) (.ofNat (Nat.sub b (Nat.succ a)))) (fun b=>.negSucc (Nat.succ (Nat.add a b))) b) a b
noncomputable def iNeg (a:Int):Int := @Int.rec (fun _=>Int) (fun a => @Nat.rec (fun _=>Int) (.ofNat 0) (fun m _=>.negSucc m) a) (fun a=>.ofNat (Nat.succ a)) a
noncomputable def iMul (a b:Int):Int := @Int.rec (fun _=>Int->Int)
 (fun a b => @Int.rec (fun _=>Int) (fun b=>.ofNat (Nat.mul a b)) (fun b=>iNeg (.ofNat (Nat.mul a (Nat.succ b)))) b)
 (fun a b => @Int.rec (fun _=>Int) (fun b=>iNeg (.ofNat (Nat.mul (Nat.succ a) b))) (fun b=>.ofNat (Nat.mul (Nat.succ a) (Nat.succ b))) b) a b
noncomputable def kEq (k k':IntKind):Bool:=Nat.beq (@IntKind.rec (fun _=>Nat) 0 1 2 3 4 5 6 7 k) (@IntKind.rec (fun _=>Nat) 0 1 2 3 4 5 6 7 k')
noncomputable def QE (F:Lk) (x:Arg):Option AV := @Arg.rec (fun _=>Lk->Option AV) (fun n F=>gF F n) (fun v _=>some v) x F
noncomputable def argsE (F:Lk) (l:List Arg):Option (List AV) := @List.rec Arg (fun _=>Lk->Option (List AV)) (fun _=>some [])
 (fun x _ ih F => @Option.rec AV (fun _=>Option (List AV)->Option (List AV)) (fun _=>none) (fun v r => @Option.rec (List AV) (fun _=>Option (List AV)) none (fun vs=>some (v::vs)) r) (QE F x) (ih F)) l F
noncomputable def nthE {α:Type} (l:List α) (n:Nat):Option α := @List.rec α (fun _=>Nat->Option α) (fun _=>none) (fun x _ ih n => @Nat.rec (fun _=>Option α) (some x) (fun m _=>ih m) n) l n
noncomputable def rI (k:IntKind) (n:Int):Re:=fI (wrF k n) fun n=>.mk (.int k n) [] [] [] 0
noncomputable def rI' (k:IntKind) (n:Int):Re:=fI n fun n=>.mk (.int k n) [] [] [] 0
noncomputable def rB (b:Bool):Re := @Bool.rec (fun _=>Re) (.mk (.bool false) [] [] [] 0) (.mk (.bool true) [] [] [] 0) b
noncomputable def rV (v:AV):Re:=.mk v [] [] [] 0
noncomputable def binE (op:BinOp) (k k':IntKind) (a b:Int):Re := @BinOp.rec (fun _=>IntKind->IntKind->Int->Int->Re)
 (fun k k' a b=>Qn (kEq k k') (rI k (iAdd a b)))
 (fun k k' a b=>Qn (kEq k k') (rI k (iAdd a (iNeg b))))
 (fun k k' a b=>Qn (kEq k k') (rI k (iMul a b)))
 (fun k k' a b=>Qn (kEq k k') (Qn (nt (iEq b 0)) (rI k (a.tdiv b))))
 (fun k k' a b=>Qn (kEq k k') (Qn (nt (iEq b 0)) (rI' k (a.tmod b))))
 (fun k k' a b=>Qn (kEq k k') (rI' k (bits .and k a b)))
 (fun k k' a b=>Qn (kEq k k') (rI' k (bits .or k a b)))
 (fun k k' a b=>Qn (kEq k k') (rI' k (bits .xor k a b)))
 (fun k _ a b=>iN b fun b=>rI k (iMul a (.ofNat (Nat.pow 2 (min b k.bits)))))
 (fun k _ a b=>iN b fun b=>rI' k (a.fdiv (.ofNat (Nat.pow 2 (min b k.bits)))))
 (fun k k' a b=>Qn (kEq k k') (rI' k (bits .andNot k a b)))
 (fun k k' a b=>Qn (kEq k k') (rB (iEq a b)))
 (fun k k' a b=>Qn (kEq k k') (rB (nt (iEq a b))))
 (fun k k' a b=>Qn (kEq k k') (rB (iLt a b)))
 (fun k k' a b=>Qn (kEq k k') (rB (iLe a b)))
 (fun k k' a b=>Qn (kEq k k') (rB (iLt b a)))
 (fun k k' a b=>Qn (kEq k k') (rB (iLe b a))) op k k' a b
abbrev ExT:=Lk->Hk->Nat->Re
noncomputable def exMv (x:Arg):ExT:=fun F _ _=>oV (QE F x) rV
noncomputable def exPick (c a b:Arg):ExT:=fun F _ _=>oV (QE F c) fun v=>vBool v fun t=>oV (Q6 t (QE F a) (QE F b)) rV
noncomputable def exAlloc (e z:Nat) (zero:List AV):ExT:=fun _ _ d=>Qn (Nat.beq zero.length z) (.mk (.ptr d 0 0) [] [d] [(d,.cells e z [zero] true)] 1)
noncomputable def exBox (e z:Nat) (x:Arg):ExT:=fun F _ d=>oV (QE F x) fun v=>oV (X4 v) fun cs=>Qn (Nat.beq cs.length z) (.mk (.ptr d 0 0) [] [d] [(d,.cells e z [cs] (Qi cs))] 1)
noncomputable def fillE (F:Lk):List AV->List (Nat×Nat×Arg)->Option (List AV)
 | l,[]=>some l
 | l,(off,n,x)::r=>match QE F x with
  | some v=>match X4 v with
   | some cs=>match Nat.beq cs.length n,Nat.ble (off+n) l.length with
    | true,true=>fillE F (Jj l off cs) r
    | _,_=>none
   | none=>none
  | none=>none
noncomputable def exBuild (zero:List AV) (ps:List (Nat×Nat×Arg)):ExT:=fun F _ _=>oV (fillE F zero ps) fun cs=>rV (.agg cs)
noncomputable def fillSE (F:Lk) (z:Nat):List AV->List (Nat×Arg)->Option (List AV)
 | l,[]=>some l
 | l,(i,x)::r=>match QE F x with
  | some v=>match X4 v with
   | some cs=>match Nat.beq cs.length z,Nat.ble (i*z+z) l.length with
    | true,true=>fillSE F z (Jj l (i*z) cs) r
    | _,_=>none
   | none=>none
  | none=>none
noncomputable def exBslice (e z:Nat) (zero:List AV) (len:Nat) (ps:List (Nat×Arg)):ExT:=fun F _ d=>oV (fillSE F z (reps len zero) ps) fun l =>
 Qn (Nat.beq zero.length z) (.mk (.sl d 0 len) [] [d] [(d,.cells e z (Je z len l) (Qi l))] 1)
noncomputable def ldC (g:Bool) (o n:Nat) (el:List AV) (rd:List Nat):Re :=
 Q6 g (Qn (Nat.ble (o+n) el.length) (.mk (.agg ((el.drop o).take n)) rd [] [] 0)) (oV (nthE el o) fun v=>.mk v rd [] [] 0)
noncomputable def exLd (g:Bool) (n:Nat) (x:Arg):ExT:=fun F H _=>oV (QE F x) fun v=>vPtr v
 (fun i j o=>JN (obE H i) fun _ _ els _=>oV (nthE els j) fun el=>ldC g o n el [i])
 (fun cs=>ldC g 0 n cs [])
noncomputable def exSt (n:Nat) (x y:Arg):ExT:=fun F H _=>oV (QE F x) fun v=>vPtr v
 (fun i j o=>oV (QE F y) fun u=>oV (X4 u) fun cs=>JN (obE H i) fun e z els fl=>oV (nthE els j) fun el =>
  Qn (Nat.beq cs.length n) (Qn (Nat.ble (o+n) el.length) (.mk .und [] [i] [(i,.cells e z (els.set j (Jj el o cs)) (fl&&Qi cs))] 0)))
 (fun _=>.no)
noncomputable def exNilc (x:Arg):ExT:=fun F _ _=>oV (QE F x) fun v=>vPtr v (fun _ _ _=>rV v) (fun _=>rV v)
noncomputable def exBin (op:BinOp) (x y:Arg):ExT:=fun F _ _=>oV (QE F x) fun v=>vInt v fun k a=>oV (QE F y) fun w=>vInt w fun k' b=>binE op k k' a b
noncomputable def exUn (op:UnOp) (x:Arg):ExT:=fun F _ _=>oV (QE F x) fun v => @UnOp.rec (fun _=>AV->Re) (fun v=>vInt v fun k n=>rI k (iNeg n)) (fun v=>vInt v fun k n=>rI' k (bits .xor k (if k.signed then -1 else k.max) n)) (fun v=>vBool v fun b=>rB (nt b)) (fun _=>.no) op v
noncomputable def exCvt (k:IntKind) (x:Arg):ExT:=fun F _ _=>oV (QE F x) fun v=>vInt v fun _ n=>rI k n
noncomputable def exMkfn (fn:Fn) (caps:List Arg):ExT:=fun F _ _=>oV (argsE F caps) fun vs=>rV (.fn fn vs)
noncomputable def exMksl (e z b:Nat) (zero:List AV) (l c:Arg):ExT:=fun F _ d=>oV (QE F l) fun v=>vInt v fun k n=>oV (QE F c) fun w=>vInt w fun k' m=>iN n fun n=>iN m fun m =>
 Qn (kEq k .i64) (Qn (kEq k' .i64) (Qn (Nat.beq zero.length z) (Qn (Nat.ble n m) (Qn (Nat.ble m 9223372036854775807) (Qn (Nat.ble (b*m) 281474976710656)
   (.mk (.sl d 0 n) [] [d] [(d,.cells e z (List.replicate n zero) true)] 1))))))
noncomputable def abE (F:Lk) (d:Nat) (x:Option Arg) (k:Nat->Re):Re := @Option.rec Arg (fun _=>Lk->Nat->(Nat->Re)->Re) (fun _ d k=>k d) (fun x F _ k=>oV (QE F x) fun v=>vInt v fun _ n=>iN n k) x F d k
noncomputable def isNilL {α:Type} (l:List α):Bool := @List.rec α (fun _=>Bool) true (fun _ _ _=>false) l
noncomputable def orB (a b:Bool):Bool := @Bool.rec (fun _=>Bool) b true a
noncomputable def exSlc (z:Nat) (x:Arg) (lo hi:Option Arg):ExT:=fun F H _=>oV (QE F x) fun v=>vSl v
 (fun z' els=>abE F 0 lo fun l=>abE F els.length hi fun h=>Qn (orB (Nat.beq z' z) (isNilL els)) (Qn (Nat.ble l h) (Qn (Nat.ble h els.length) (rV (.rs z ((els.drop l).take (h-l)))))))
 (fun i j n=>abE F 0 lo fun l=>abE F n hi fun h=>JN (obE H i) fun _ z' _ _=>Qn (Nat.beq z' z) (Qn (Nat.ble l h) (Qn (Nat.ble h n)
   (Q6 (orB (Nat.beq l 0) (nt (Nat.beq l h))) (fN (j+l) fun j=>fN (h-l) fun n=>.mk (.sl i j n) [i] [] [] 0) (.mk (.rs z []) [i] [] [] 0)))))
 (fun _ _ _ _=>.no)
 (abE F 0 lo fun l=>abE F 0 hi fun h=>Qn (Nat.beq l 0) (Qn (Nat.beq h 0) (rV .nils)))
noncomputable def exFa (off:Nat) (x:Arg):ExT:=fun F _ _=>oV (QE F x) fun v=>vPtr v (fun i j o=>fN (o+off) fun o=>rV (.ptr i j o)) (fun cs=>rV (.rp (cs.drop off)))
noncomputable def exFld (g:Bool) (off n:Nat) (x:Arg):ExT:=fun F _ _=>oV (QE F x) fun v=>vAgg v fun cs=>ldC g off n cs []
noncomputable def exIxsl (z:Nat) (x i:Arg):ExT:=fun F H _=>oV (QE F x) fun v=>oV (QE F i) fun w=>vInt w fun _ t=>iN t fun t=>vSl v
 (fun z' els=>Qn (Nat.beq z' z) (oV (nthE els t) fun el=>rV (.rp el)))
 (fun a j n=>Qn (Nat.ble (t+1) n) (JN (obE H a) fun _ z' _ _=>Qn (Nat.beq z' z) (fN (j+t) fun j=>.mk (.ptr a j 0) [a] [] [] 0)))
 (fun a j o n=>Qn (Nat.ble (t+1) n) (Qn (Nat.beq z 1) (fN (o+t) fun o=>rV (.ptr a j o))))
 .no
noncomputable def exIxarr (len z:Nat) (x i:Arg):ExT:=fun F _ _=>oV (QE F x) fun v=>oV (QE F i) fun w=>vInt w fun _ t=>iN t fun t=>Qn (Nat.ble (t+1) len) (vPtr v
 (fun a j o=>fN (o+t*z) fun o=>rV (.ptr a j o))
 (fun cs=>rV (.rp (cs.drop (t*z)))))
noncomputable def exIxval (len z:Nat) (g:Bool) (x i:Arg):ExT:=fun F _ _=>oV (QE F x) fun v=>vAgg v fun cs=>oV (QE F i) fun w=>vInt w fun _ t=>iN t fun t=>Qn (Nat.ble (t+1) len) (ldC g (t*z) z cs [])
noncomputable def exExt (x:Arg) (i:Nat):ExT:=fun F _ _=>oV (QE F x) fun v=>vTup v fun vs=>oV (nthE vs i) rV
noncomputable def rN (n:Nat):Re:=fN n fun n=>.mk (.int .i64 (.ofNat n)) [] [] [] 0
noncomputable def exLen (x:Arg):ExT:=fun F _ _=>oV (QE F x) fun v=>vSl v (fun _ els=>rN els.length) (fun _ _ n=>rN n) (fun _ _ _ n=>rN n) (rN 0)
noncomputable def exLenc (n:Nat):ExT:=fun _ _ _=>rN n
noncomputable def srcE (H:Hk) (z:Nat) (v:AV) (k:List Nat->List (List AV)->Re):Re:=vSl v
 (fun z' els=>Qn (orB (Nat.beq z' z) (isNilL els)) (k [] els))
 (fun i j n=>JN (obE H i) fun _ z' els _=>Qn (Nat.beq z' z) (Qn (Nat.ble (j+n) els.length) (k [i] ((els.drop j).take n))))
 (fun _ _ _ _=>.no) (k [] [])
noncomputable def allLen (z:Nat) (l:List (List AV)):Bool := @List.rec (List AV) (fun _=>Nat->Bool) (fun _=>true) (fun e _ ih z=>Q6 (Nat.beq e.length z) (ih z) false) l z
noncomputable def exApp (e z b:Nat) (zero:List AV) (s x:Arg):ExT:=fun F H d=>oV (QE F s) fun v=>oV (QE F x) fun w=>vSl v
 (fun _ _=>.no)
 (fun i j n=>Qn (Nat.beq j 0) (JN (obE H i) fun e' z' els fl=>srcE H z w fun rd news=>Qn (Nat.beq zero.length z) (Qn (Nat.beq e' e) (Qn (Nat.beq z' z) (Qn (allLen z news) (Qn (Nat.ble ((n+news.length)*b) 140737488355328) (Qn (Nat.ble (n+news.length) 9223372036854775807)
    (Qn (Nat.beq els.length n) (Qn (nt (rd.contains i)) (fN (n+news.length) fun m=>.mk (.sl d 0 m) rd [i,d] [(d,.cells e z (els++news) (fl&&X2 news)),(i,.dead)] 1))))))))))
 (fun _ _ _ _=>.no)
 (srcE H z w fun rd news=>Qn (Nat.beq zero.length z) (Qn (allLen z news) (Qn (Nat.ble (news.length*b) 140737488355328) (Qn (Nat.ble news.length 9223372036854775807)
    (fN news.length fun m=>.mk (.sl d 0 m) rd [d] [(d,.cells e z news (X2 news))] 1)))))
noncomputable def exMn (x y:Arg):ExT:=fun F _ _=>oV (QE F x) fun v=>vInt v fun k a=>oV (QE F y) fun w=>vInt w fun _ b=>Q6 (iLe a b) (rV (.int k a)) (rV (.int k b))
noncomputable def exMx (x y:Arg):ExT:=fun F _ _=>oV (QE F x) fun v=>vInt v fun k a=>oV (QE F y) fun w=>vInt w fun _ b=>Q6 (iLe a b) (rV (.int k b)) (rV (.int k a))
noncomputable def exMn3 (x y z:Arg):ExT:=fun F _ _=>oV (QE F x) fun v=>vInt v fun k a=>oV (QE F y) fun w=>vInt w fun _ b=>oV (QE F z) fun u=>vInt u fun _ c=>rI' k (min (min a b) c)
noncomputable def exMx3 (x y z:Arg):ExT:=fun F _ _=>oV (QE F x) fun v=>vInt v fun k a=>oV (QE F y) fun w=>vInt w fun _ b=>oV (QE F z) fun u=>vInt u fun _ c=>rI' k (max (max a b) c)
noncomputable def xorB (a b:Bool):Bool := @Bool.rec (fun _=>Bool->Bool) (fun b=>b) (fun b=>nt b) a b
noncomputable def exBeq (neg:Bool) (x y:Arg):ExT:=fun F _ _=>oV (QE F x) fun v=>vBool v fun a=>oV (QE F y) fun w=>vBool w fun b=>rB (nt (xorB neg (xorB a b)))
noncomputable def eqIL (a b:List Int):Bool := @List.rec Int (fun _=>List Int->Bool) (fun b=>isNilL b) (fun x _ ih b => @List.rec Int (fun _=>Bool) false (fun y b _=>Q6 (iEq x y) (ih b) false) b) a b
noncomputable def exAeq (neg:Bool) (n:Nat) (x y:Arg):ExT:=fun F _ _=>oV (QE F x) fun v=>vAgg v fun as=>oV (QE F y) fun w=>vAgg w fun bs=>oV (Jg as) fun la=>oV (Jg bs) fun lb =>
 Qn (Nat.beq la.length n) (Qn (Nat.beq lb.length n) (rB (xorB neg (eqIL la lb))))
noncomputable def exMkif (t:Nat) (x:Arg):ExT:=fun F _ _=>oV (QE F x) fun v=>Qn (QB v) (rV (.ifc t v))
noncomputable def exMkbm (nm:String) (x:Arg):ExT:=fun F _ _=>oV (QE F x) fun v=>Qn (QB v) (rV (.bm nm v))
noncomputable def exIfnil (neg:Bool) (x:Arg):ExT:=fun F _ _=>oV (QE F x) fun v=>vIf v (rB (nt neg)) (fun _ _=>rB neg)
noncomputable def exMkbnd (f:Nat) (x:Arg):ExT:=fun F _ _=>oV (QE F x) fun v=>rV (.bnd (.func f) v)
noncomputable def exIsnil (sl neg:Bool) (x:Arg):ExT:=fun F _ _=>oV (QE F x) fun v=>Q6 sl
 (vNil v (rB (nt neg)) (fun _ els => @List.rec (List AV) (fun _=>Bool->Re) (fun _=>.no) (fun _ _ _ neg=>rB neg) els neg) (fun _ _ n => @Nat.rec (fun _=>Bool->Re) (fun _=>.no) (fun _ _ neg=>rB neg) n neg) .no (fun _ _ _=>.no) (fun _=>.no))
 (vNil v .no (fun _ _=>.no) (fun _ _ _=>.no) (rB (nt neg)) (fun _ _ _=>rB neg) (fun _=>rB neg))
noncomputable def exSlen (x:Arg):ExT:=fun F _ _=>oV (QE F x) fun v=>vStr v fun s=>rN s.size
noncomputable def exSidx (x i:Arg):ExT:=fun F _ _=>oV (QE F x) fun v=>vStr v fun s=>oV (QE F i) fun w=>vInt w fun _ n=>iN n fun n=>oV (nthE s.toList n) fun b=>rI' .u8 (.ofNat b.toNat)
noncomputable def exStake (x i:Arg):ExT:=fun F _ _=>oV (QE F x) fun v=>vStr v fun s=>oV (QE F i) fun w=>vInt w fun _ n=>iN n fun n=>Qn (Nat.ble n s.size) (rV (.str (s.extract 0 n)))
noncomputable def exSdrop (x i:Arg):ExT:=fun F _ _=>oV (QE F x) fun v=>vStr v fun s=>oV (QE F i) fun w=>vInt w fun _ n=>iN n fun n=>Qn (Nat.ble n s.size) (rV (.str (s.extract n s.size)))
noncomputable def exSeq (neg:Bool) (x y:Arg):ExT:=fun F _ _=>oV (QE F x) fun v=>vStr v fun s=>oV (QE F y) fun w=>vStr w fun u=>rB (neg != (s.toList == u.toList))
noncomputable def vMp (v:AV):(Nat->Re)->Re :=
 @AV.rec (fun _=>(Nat->Re)->Re) (fun _=>Unit) (fun _=>Unit) (fun _=>.no) (fun _=>.no) (fun _ _=>.no) (fun _ _ _=>.no) (fun _ _=>.no) (fun _=>.no) (fun _ _ _ _=>.no) (fun _ _ _=>.no) (fun _=>.no) (fun _ _ _ _=>.no) (fun _ _ _ _ _=>.no) (fun _ _ _ _=>.no) (fun _ _ _ _=>.no) (fun _=>.no) (fun _ _ _=>.no) (fun _ _ _=>.no) (fun _=>.no) (fun i h0=>h0 i) (fun _=>.no) (fun _ _ _ _=>.no) (fun _ _ _ _=>.no) (fun _ _=>.no) (fun _ _ _ _=>.no) (fun _=>.no) () (fun _ _ _ _=>()) () (fun _ _ _ _=>()) v
noncomputable def obMset (o:Option Ob) (k:List (List Int)->Re):Re :=
 @Option.rec Ob (fun _=>(List (List Int)->Re)->Re) (fun _=>.no) (fun o => @Ob.rec (fun _=>(List (List Int)->Re)->Re) (fun _=>.no) (fun _ _ _ _ _=>.no) (fun ks k=>k ks) (fun _ _ _=>.no) (fun _ _=>.no) (fun _ _ _=>.no) o) o k
noncomputable def allLenI (z:Nat) (l:List (List Int)):Bool := @List.rec (List Int) (fun _=>Nat->Bool) (fun _=>true) (fun e _ ih z=>Q6 (Nat.beq e.length z) (ih z) false) l z
noncomputable def memIL (a:List Int) (l:List (List Int)):Bool := @List.rec (List Int) (fun _=>Bool) false (fun x _ ih=>Q6 (eqIL a x) true ih) l
noncomputable def exMkmap:ExT:=fun _ _ d=>.mk (.mp d) [] [d] [(d,.mset [])] 1
noncomputable def exMapadd (nk:Nat) (m k v:Arg):ExT:=fun F H _=>oV (QE F m) fun a=>vMp a fun i=>oV (QE F k) fun b=>vAgg b fun cs=>oV (QE F v) fun c=>vBool c fun t=>Qn t (obMset (obE H i) fun ks=>oV (Jg cs) fun l =>
 Qn (Nat.beq l.length nk) (Qn (allLenI nk ks) (Qn (nt (memIL l ks)) (.mk .und [] [i] [(i,.mset (ks++[l]))] 0))))
noncomputable def exMhas (nk:Nat) (m k:Arg):ExT:=fun F H _=>oV (QE F m) fun a=>vMp a fun i=>oV (QE F k) fun b=>vAgg b fun cs=>obMset (obE H i) fun ks=>oV (Jg cs) fun l =>
 Qn (Nat.beq l.length nk) (Qn (allLenI nk ks) (@Bool.rec (fun _=>Re) (.mk (.bool false) [i] [] [] 0) (.mk (.bool true) [i] [] [] 0) (memIL l ks)))
noncomputable def exSlst (n z:Nat) (x:Arg):ExT:=fun F H _=>oV (QE F x) fun v=>vPtr v
 (fun i j o=>Qn (Nat.beq j 0) (Qn (Nat.beq o 0) (JN (obE H i) fun _ z' els fl=>oV (nthE els 0) fun el=>Qn (Nat.beq els.length 1) (Qn fl (Qn (Nat.beq z' (Nat.mul n z)) (Qn (nt (Nat.beq n 0)) (.mk (.rs z (Je z n el)) [] [i] [(i,.dead)] 0)))))))
 (fun _=>.no)
noncomputable def exSlarr (n:Nat) (x:Arg) (lo hi:Option Arg):ExT:=fun F _ _=>oV (QE F x) fun v=>vPtr v
 (fun i j o=>abE F 0 lo fun l=>abE F n hi fun h=>Qn (orB (Nat.beq l 0) (nt (Nat.ble h l))) (Qn (Nat.ble l h) (Qn (Nat.ble h n) (fN (o+l) fun o=>fN (h-l) fun m=>rV (.sa i j o m)))))
 (fun cs=>abE F 0 lo fun l=>abE F n hi fun h=>Qn (Nat.beq l 0) (Qn (Nat.beq h n) (Qn (Nat.ble n cs.length) (Qn (nt (Nat.beq n 0)) (rV (.rs 1 ((cs.take n).map fun c=>[c])))))))
noncomputable def exCpy (x y:Arg):ExT:=fun F H _=>oV (QE F x) fun v=>oV (QE F y) fun w=>vSl v
 (fun _ _=>.no)
 (fun i j n=>JN (obE H i) fun e z els fl=>Qn (Nat.beq z 1) (srcE H 1 w fun rd news=>Qn (allLen 1 news) (Qn (nt (rd.contains i)) (Qn (Nat.ble news.length n) (Qn (Nat.ble (j+n) els.length) (Qn (Nat.ble 1 n)
  (fN news.length fun m=>.mk (.int .i64 (.ofNat m)) rd [i] [(i,.cells e z (els.take j++news++els.drop (j+news.length)) (fl&&X2 news))] 0)))))))
 (fun i j o n=>JN (obE H i) fun e z els fl=>srcE H 1 w fun rd news=>oV (nthE els j) fun el=>Qn (allLen 1 news) (Qn (nt (rd.contains i)) (Qn (Nat.ble news.length n) (Qn (Nat.ble (o+news.length) el.length)
  (fN news.length fun m=>.mk (.int .i64 (.ofNat m)) rd [i] [(i,.cells e z (els.set j (Jj el o news.flatten)) (fl&&X2 news))] 0)))))
 .no
noncomputable def exClr (z:Nat) (x:Arg):ExT:=fun F H _=>oV (QE F x) fun v=>vSl v
 (fun _ _=>.no)
 (fun i j n=>JN (obE H i) fun e z' els fl=>Qn (Nat.beq z' z) (Qn (Nat.ble 1 n) (Qn (Nat.ble j els.length) (.mk .any [] [i] [(i,.cells e z (els.take j) fl)] 0))))
 (fun _ _ _ _=>.no)
 .no
end Go.Proofs.YthmbjgnjfjjibaaGreatDoor
namespace Go.Proofs.YthmbjgnjfjjibaaGreatDoor
open Go.RowKit
set_option maxRecDepth 100000
abbrev FT:=T2 AV
abbrev HT:=T3 EO
inductive Rs where
 | no
 | ok (e:Exit) (F:FT) (H:HT) (nx:Nat)
inductive Cr where
 | no
 | ok (v:AV) (H:T3 EO) (nx:Nat) (rd wr:List Nat)
abbrev X5:=Nat->List AV->T3 EO->Nat->Cr
abbrev GlT:=Nat->Option (List AV)
mutual
noncomputable def ldV (H:T3 EO):Nat->AV->Option AV
 | 0,_=>none
 | f+1,.ptr i j o=>match obE H i with
  | some (.cells _ _ els fl)=>match nthE els j with
   | some el=>match fl with
    | true=>some (.rp (el.drop o))
    | false=>match ldL H f (el.drop o) with
     | some cs=>some (.rp cs)
     | none=>none
   | none=>none
  | _=>none
 | f+1,.sl i j n=>match obE H i with
  | some (.cells _ z els fl)=>match Nat.ble (j+n) els.length with
   | true=>match fl with
    | true=>some (.rs z ((els.drop j).take n))
    | false=>match ldE H f ((els.drop j).take n) with
     | some cs=>some (.rs z cs)
     | none=>none
   | false=>none
  | _=>none
 | f+1,.agg cs=>match Qi cs with
  | true=>some (.agg cs)
  | false=>match ldL H f cs with
   | some cs=>some (.agg cs)
   | none=>none
 | f+1,.fn g cs=>match Qi cs with
  | true=>some (.fn g cs)
  | false=>match ldL H f cs with
   | some cs=>some (.fn g cs)
   | none=>none
 | _+1,v=>match QB v with
  | true=>some v
  | false=>none
noncomputable def ldL (H:T3 EO):Nat->List AV->Option (List AV)
 | 0,_=>none
 | _+1,[]=>some []
 | f+1,v::l=>match ldV H f v,ldL H f l with
  | some x,some r=>some (x::r)
  | _,_=>none
noncomputable def ldE (H:T3 EO):Nat->List (List AV)->Option (List (List AV))
 | 0,_=>none
 | _+1,[]=>some []
 | f+1,v::l=>match ldL H f v,ldE H f l with
  | some x,some r=>some (x::r)
  | _,_=>none
end
inductive Fz where
 | no
 | ok (v:AV) (al:Bool)
def noROE':List (List AV)->Bool
 | []=>true
 | e::r=>match noROL e with | true=>noROE' r | false=>false
mutual
noncomputable def fzV (H:T3 EO):Nat->AV->Fz
 | 0,_=>.no
 | _+1,.sl i j n=>match obE H i with
  | some (.cells _ z els true)=>match Nat.ble (j+n) els.length with
   | true=>.ok (.rs z ((els.drop j).take n)) (!noROE' els)
   | false=>.no
  | _=>.no
 | f+1,.tup vs=>match fzL H f vs with
  | some (vs,al)=>.ok (.tup vs) al
  | none=>.no
 | f+1,.agg vs=>match Qi vs with
  | true=>.ok (.agg vs) (!noROL vs)
  | false=>match fzL H f vs with
   | some (vs,al)=>.ok (.agg vs) al
   | none=>.no
 | _+1,v=>match QB v with
  | true=>.ok v (!noRO v)
  | false=>.no
noncomputable def fzL (H:T3 EO):Nat->List AV->Option (List AV×Bool)
 | 0,_=>none
 | _+1,[]=>some ([],false)
 | f+1,v::l=>match fzV H f v,fzL H f l with
  | .ok x a,some (r,b)=>some (x::r,a||b)
  | _,_=>none
end
noncomputable def applyU (l:Hp) (H:T3 EO):T3 EO := @List.rec (Nat×Ob) (fun _=>T3 EO->T3 EO) (fun H=>H) (fun x _ ih H=>sH (ih H) x.1 (.ob x.2)) l H
noncomputable def putE (F:T2 AV) (d:Option Nat) (v:AV):T2 AV := @Option.rec Nat (fun _=>T2 AV->AV->T2 AV) (fun F _=>F) (fun d F v=>sF F d v) d F v
noncomputable def parE (l:List AV) (k:Nat) (F:T2 AV):T2 AV := @List.rec AV (fun _=>Nat->T2 AV->T2 AV) (fun _ F=>F) (fun v _ ih k F=>ih (k+1) (sF F k v)) l k F
noncomputable def oC {α:Type} (x:Option α) (k:α->Cr):Cr := @Option.rec α (fun _=>Cr) .no k x
noncomputable def JQ (b:Bool) (r:Cr):Cr := @Bool.rec (fun _=>Cr) .no r b
noncomputable def noFm (o:Ob):Bool := @Ob.rec (fun _=>Bool) true (fun _ _ _ _=>true) (fun _=>true) (fun _ _=>false) (fun _=>false) (fun _ _=>false) o
noncomputable def updOK (l:Hp) (H:HT) (nx al:Nat):Bool := @List.rec (Nat×Ob) (fun _=>Bool) true (fun x _ ih=>Q6 (@Option.rec EO (fun _=>Bool) (Q6 (Nat.beq x.1 nx) (Nat.beq al 1) false) (fun o => @EO.rec (fun _=>Bool) (fun _=>true) (fun _ _ _ _=>false) (fun _=>false) (fun _=>false) o) (gH H x.1)) (Q6 (noFm x.2) ih false) false) l
noncomputable def plU (upd:Hp) (al:Nat) (v:AV) (rd wr:List Nat) (H:HT) (nx:Nat):Cr := @List.rec (Nat×Ob) (fun _=>Cr) (.ok v H nx rd wr) (fun x l _=>JQ (Nat.ble nx 4090) (JQ (Nat.ble al 1) (JQ (updOK (x::l) H nx al) (.ok v (applyU (x::l) H) (Nat.add al nx) rd wr)))) upd
noncomputable def plE (r:Re) (H:HT) (nx:Nat):Cr := @Re.rec (fun _=>HT->Nat->Cr) (fun _ _=>.no) (fun v rd wr upd al H nx=>plU upd al v rd wr H nx) r H nx
section
variable (P:Program)
noncomputable def resE (F:FT) (H:HT):ResultVar->Option AV
 | .tmp t=>gF F t
 | .cell a ty=>match gF F a with
  | some (.ptr i j o)=>match obE H i with
   | some (.cells _ _ els _)=>match nthE els j with
    | some el=>match aggP P ty,QL P ty with
     | some true,some n=>match Nat.ble (o+n) el.length with
      | true=>some (.agg ((el.drop o).take n))
      | false=>none
     | some false,some _=>nthE el o
     | _,_=>none
    | none=>none
   | _=>none
  | _=>none
noncomputable def ressE (F:FT) (H:HT):List ResultVar->Option (List AV)
 | []=>some []
 | x::l=>match resE P F H x,ressE F H l with
  | some v,some vs=>some (v::vs)
  | _,_=>none
noncomputable def invE (cl:X5) (H:HT) (nx:Nat) (nm:String) (g:AV) (vs:List AV):Cr:=match g with
 | .ifc t v=>oC (methF P t nm) fun f=>JQ (Xj P f) (cl f (v::vs) H nx)
 | _=>.no
noncomputable def nilcE (v:AV) (x:Arg) (F:FT) (H:HT) (nx:Nat):Cr:=match v with
 | .bm nm (.ifc t u)=>oC (methF P t nm) fun _=>.ok (.bm nm (.ifc t u)) H nx [] []
 | _=>plE (exNilc x F H nx) H nx
noncomputable def callvE (cl yd:X5) (H:HT) (nx:Nat) (g:AV) (vs:List AV):Cr:=match g with
 | .fn (.func f) cs=>JQ (Xj P f) (cl f (vs++cs) H nx)
 | .bnd (.func f) v=>JQ (Xj P f) (cl f (v::vs) H nx)
 | .bm nm v=>invE P cl H nx nm v vs
 | .yl i=>yd i vs H nx
 | _=>.no
end
noncomputable def callOp (op:MOp) (P:Program) (gb:GlT) (cl yd:X5) (F:FT) (H:HT) (nx:Nat):Cr := @MOp.rec (fun _=>Program->GlT->X5->X5->FT->HT->Nat->Cr)
 (fun x0 _ _ _ _ F H nx=>plE (exMv x0 F H nx) H nx)
 (fun x0 x1 x2 _ _ _ _ F H nx=>plE (exPick x0 x1 x2 F H nx) H nx)
 (fun x0 x1 x2 _ _ _ _ F H nx=>plE (exAlloc x0 x1 x2 F H nx) H nx)
 (fun x0 x1 x2 _ _ _ _ F H nx=>plE (exBox x0 x1 x2 F H nx) H nx)
 (fun x0 x1 _ _ _ _ F H nx=>plE (exBuild x0 x1 F H nx) H nx)
 (fun x0 x1 x2 x3 x4 _ _ _ _ F H nx=>plE (exBslice x0 x1 x2 x3 x4 F H nx) H nx)
 (fun x0 x1 x2 _ _ _ _ F H nx=>plE (exLd x0 x1 x2 F H nx) H nx)
 (fun x0 x1 x2 _ _ _ _ F H nx=>plE (exSt x0 x1 x2 F H nx) H nx)
 (fun x P _ _ _ F H nx=>oC (QE F x) fun v=>nilcE P v x F H nx)
 (fun x0 x1 x2 _ _ _ _ F H nx=>plE (exBin x0 x1 x2 F H nx) H nx)
 (fun x0 x1 _ _ _ _ F H nx=>plE (exUn x0 x1 F H nx) H nx)
 (fun x0 x1 _ _ _ _ F H nx=>plE (exCvt x0 x1 F H nx) H nx)
 (fun x0 x1 _ _ _ _ F H nx=>plE (exMkfn x0 x1 F H nx) H nx)
 (fun x0 x1 x2 x3 x4 x5 _ _ _ _ F H nx=>plE (exMksl x0 x1 x2 x3 x4 x5 F H nx) H nx)
 (fun x0 x1 x2 x3 _ _ _ _ F H nx=>plE (exSlc x0 x1 x2 x3 F H nx) H nx)
 (fun x0 x1 x2 x3 _ _ _ _ F H nx=>plE (exSlarr x0 x1 x2 x3 F H nx) H nx)
 (fun x0 x1 x2 _ _ _ _ F H nx=>plE (exSlst x0 x1 x2 F H nx) H nx)
 (fun x0 x1 _ _ _ _ F H nx=>plE (exFa x0 x1 F H nx) H nx)
 (fun x0 x1 x2 x3 _ _ _ _ F H nx=>plE (exFld x0 x1 x2 x3 F H nx) H nx)
 (fun x0 x1 x2 _ _ _ _ F H nx=>plE (exIxsl x0 x1 x2 F H nx) H nx)
 (fun x0 x1 x2 x3 _ _ _ _ F H nx=>plE (exIxarr x0 x1 x2 x3 F H nx) H nx)
 (fun x0 x1 x2 x3 x4 _ _ _ _ F H nx=>plE (exIxval x0 x1 x2 x3 x4 F H nx) H nx)
 (fun x0 x1 _ _ _ _ F H nx=>plE (exExt x0 x1 F H nx) H nx)
 (fun x0 _ _ _ _ F H nx=>plE (exLen x0 F H nx) H nx)
 (fun x0 _ _ _ _ F H nx=>plE (exLenc x0 F H nx) H nx)
 (fun x0 x1 x2 x3 x4 x5 _ _ _ _ F H nx=>plE (exApp x0 x1 x2 x3 x4 x5 F H nx) H nx)
 (fun x0 x1 _ _ _ _ F H nx=>plE (exCpy x0 x1 F H nx) H nx)
 (fun x0 x1 _ _ _ _ F H nx=>plE (exClr x0 x1 F H nx) H nx)
 (fun _ _ _ _ _ _ _ _ _=>.no)
 (fun _ _ _ _ _ _ _ _ _ _=>.no)
 (fun x0 x1 _ _ _ _ F H nx=>plE (exMn x0 x1 F H nx) H nx)
 (fun x0 x1 x2 _ _ _ _ F H nx=>plE (exMn3 x0 x1 x2 F H nx) H nx)
 (fun x0 x1 x2 _ _ _ _ F H nx=>plE (exMx3 x0 x1 x2 F H nx) H nx)
 (fun x0 x1 _ _ _ _ F H nx=>plE (exSdrop x0 x1 F H nx) H nx)
 (fun x0 x1 _ _ _ _ F H nx=>plE (exMx x0 x1 F H nx) H nx)
 (fun f as _ _ cl _ F H nx=>oC (argsE F as) fun vs=>cl f vs H nx)
 (fun x as P _ cl yd F H nx=>oC (QE F x) fun g=>oC (argsE F as) fun vs=>callvE P cl yd H nx g vs)
 (fun x0 x1 x2 _ _ _ _ F H nx=>plE (exIsnil x0 x1 x2 F H nx) H nx)
 (fun x0 x1 x2 _ _ _ _ F H nx=>plE (exBeq x0 x1 x2 F H nx) H nx)
 (fun  _ _ _ _ F H nx=>plE (exMkmap  F H nx) H nx)
 (fun x0 _ _ _ _ F H nx=>plE (exSlen x0 F H nx) H nx)
 (fun _ _ _ _ _ _ _ _ _=>.no)
 (fun x0 x1 x2 _ _ _ _ F H nx=>plE (exSeq x0 x1 x2 F H nx) H nx)
 (fun _ _ _ _ _ _ _ _=>.no)
 (fun _ _ _ _ _ _ _ _=>.no)
 (fun x0 x1 _ _ _ _ F H nx=>plE (exStake x0 x1 F H nx) H nx)
 (fun x0 x1 _ _ _ _ F H nx=>plE (exSidx x0 x1 F H nx) H nx)
 (fun _ _ _ _ _ _ _ _ _ _ _=>.no)
 (fun _ _ _ _ _ _ _=>.no)
 (fun n g _ gb _ _ _ H nx=>oC (gb g) fun cs=>JQ (Nat.ble n cs.length) (.ok (.agg (cs.take n)) H nx [5000000+g] []))
 (fun x0 x1 x2 x3 _ _ _ _ F H nx=>plE (exMapadd x0 x1 x2 x3 F H nx) H nx)
 (fun x0 x1 x2 _ _ _ _ F H nx=>plE (exMhas x0 x1 x2 F H nx) H nx)
 (fun _ _ _ _ _ _ _ _=>.no)
 (fun x0 x1 _ _ _ _ F H nx=>plE (exMkif x0 x1 F H nx) H nx)
 (fun x0 x1 _ _ _ _ F H nx=>plE (exMkbm x0 x1 F H nx) H nx)
 (fun x0 x1 _ _ _ _ F H nx=>plE (exIfnil x0 x1 F H nx) H nx)
 (fun x0 x1 x2 x3 _ _ _ _ F H nx=>plE (exAeq x0 x1 x2 x3 F H nx) H nx)
 (fun nm x as P _ cl _ F H nx=>oC (QE F x) fun g=>oC (argsE F as) fun vs=>invE P cl H nx nm g vs)
 (fun x0 x1 _ _ _ _ F H nx=>plE (exMkbnd x0 x1 F H nx) H nx)
 (fun _ _ _ _ _ _ _ _ _ _=>.no)
 (fun _ _ _ _ _ _ _ _ _=>.no)
 op P gb cl yd F H nx
section
variable (P:Program)
inductive Os where
 | no
 | ok (F:FT) (H:HT) (nx:Nat) (fps:List Fp)
noncomputable def vGd (v:AV):(Bool->Os)->(Os)->Os :=
 @AV.rec (fun _=>(Bool->Os)->(Os)->Os) (fun _=>Unit) (fun _=>Unit) (fun _ _=>.no) (fun h0 h1=>h1) (fun b h0 h1=>h0 b) (fun _ _ _ _=>.no) (fun _ _ _=>.no) (fun _ _=>.no) (fun _ _ _ _ _=>.no) (fun _ _ _ _=>.no) (fun _ _=>.no) (fun _ _ _ _ _=>.no) (fun _ _ _ _ _ _=>.no) (fun _ _ _ _ _=>.no) (fun _ _ _ _ _=>.no) (fun _ _=>.no) (fun _ _ _ _=>.no) (fun _ _ _ _=>.no) (fun _ _=>.no) (fun _ _ _=>.no) (fun _ _=>.no) (fun _ _ _ _ _=>.no) (fun _ _ _ _ _=>.no) (fun _ _ _=>.no) (fun _ _ _ _ _=>.no) (fun _ _=>.no) () (fun _ _ _ _=>()) () (fun _ _ _ _=>()) v
noncomputable def vCond (v:AV):(Bool->Rs)->Rs :=
 @AV.rec (fun _=>(Bool->Rs)->Rs) (fun _=>Unit) (fun _=>Unit) (fun _=>.no) (fun _=>.no) (fun b h0=>h0 b) (fun _ _ _=>.no) (fun _ _=>.no) (fun _=>.no) (fun _ _ _ _=>.no) (fun _ _ _=>.no) (fun _=>.no) (fun _ _ _ _=>.no) (fun _ _ _ _ _=>.no) (fun _ _ _ _=>.no) (fun _ _ _ _=>.no) (fun _=>.no) (fun _ _ _=>.no) (fun _ _ _=>.no) (fun _=>.no) (fun _ _=>.no) (fun _=>.no) (fun _ _ _ _=>.no) (fun _ _ _ _=>.no) (fun _ _=>.no) (fun _ _ _ _=>.no) (fun _=>.no) () (fun _ _ _ _=>()) () (fun _ _ _ _=>()) v
noncomputable def guardE (F:T2 AV) (g:Option (Nat×Bool)) (x y:Os):Os := @Option.rec (Nat×Bool) (fun _=>T2 AV->Os->Os->Os) (fun _ x _=>x)
 (fun p F x y => @Option.rec AV (fun _=>Os) .no (fun v=>vGd v (fun b=>Q6 (xorB b p.2) y x) y) (gF F p.1)) g F x y
noncomputable def stepO (r:Cr) (k:AV->T3 EO->Nat->Fp->Os):Os := @Cr.rec (fun _=>(AV->T3 EO->Nat->Fp->Os)->Os) (fun _=>.no) (fun v H nx rd wr k=>k v H nx (rd,wr)) r k
noncomputable def opsE (gb:GlT) (cl yd:X5) (l:List MOper):FT->HT->Nat->List Fp->Os := @List.rec MOper (fun _=>FT->HT->Nat->List Fp->Os) (fun F H nx fps=>.ok F H nx fps)
 (fun mo _ ih F H nx fps=>guardE F mo.guard
  (stepO (callOp mo.op P gb cl yd F H nx) fun v H nx fp=>ih (putE F mo.dst v) H nx (fp::fps))
  (ih (putE F mo.dst .und) H nx (([],[])::fps))) l
noncomputable def QM (a b:Bool):Bool := @Bool.rec (fun _=>Bool) false b a
noncomputable def isS {α:Type} (x:Option α):Bool := @Option.rec α (fun _=>Bool) false (fun _=>true) x
noncomputable def nmV (H:HT) (v:AV):Bool := @AV.rec (fun _=>HT->Bool) (fun _=>HT->Bool) (fun _=>HT->Bool)
 (fun _=>true)
 (fun _=>true)
 (fun _ _=>true)
 (fun _ _ _=>true)
 (fun _ _=>true)
 (fun _=>true)
 (fun i _ _ H=>isS (gH H i))
 (fun _ _ _=>true)
 (fun _=>true)
 (fun i _ _ H=>isS (gH H i))
 (fun i _ _ _ H=>isS (gH H i))
 (fun _ _ _ _=>true)
 (fun _ _ ih H=>ih H)
 (fun _=>true)
 (fun _ ih H=>ih H)
 (fun _ ih H=>ih H)
 (fun _=>true)
 (fun i H=>isS (gH H i))
 (fun _=>true)
 (fun _ _ _ _=>true)
 (fun _ _ _ _=>true)
 (fun i H=>isS (gH H i))
 (fun _ _ ih H=>ih H)
 (fun _=>true)
 (fun _=>true) (fun _ _ ih iht H=>QM (ih H) (iht H)) (fun _=>true) (fun _ _ ih iht H=>QM (ih H) (iht H)) v H
noncomputable def nmL (H:HT) (v:List AV):Bool := @AV.rec_1 (fun _=>HT->Bool) (fun _=>HT->Bool) (fun _=>HT->Bool)
 (fun _=>true)
 (fun _=>true)
 (fun _ _=>true)
 (fun _ _ _=>true)
 (fun _ _=>true)
 (fun _=>true)
 (fun i _ _ H=>isS (gH H i))
 (fun _ _ _=>true)
 (fun _=>true)
 (fun i _ _ H=>isS (gH H i))
 (fun i _ _ _ H=>isS (gH H i))
 (fun _ _ _ _=>true)
 (fun _ _ ih H=>ih H)
 (fun _=>true)
 (fun _ ih H=>ih H)
 (fun _ ih H=>ih H)
 (fun _=>true)
 (fun i H=>isS (gH H i))
 (fun _=>true)
 (fun _ _ _ _=>true)
 (fun _ _ _ _=>true)
 (fun i H=>isS (gH H i))
 (fun _ _ ih H=>ih H)
 (fun _=>true)
 (fun _=>true) (fun _ _ ih iht H=>QM (ih H) (iht H)) (fun _=>true) (fun _ _ ih iht H=>QM (ih H) (iht H)) v H
noncomputable def nmE (H:HT) (v:List (List AV)):Bool := @AV.rec_2 (fun _=>HT->Bool) (fun _=>HT->Bool) (fun _=>HT->Bool)
 (fun _=>true)
 (fun _=>true)
 (fun _ _=>true)
 (fun _ _ _=>true)
 (fun _ _=>true)
 (fun _=>true)
 (fun i _ _ H=>isS (gH H i))
 (fun _ _ _=>true)
 (fun _=>true)
 (fun i _ _ H=>isS (gH H i))
 (fun i _ _ _ H=>isS (gH H i))
 (fun _ _ _ _=>true)
 (fun _ _ ih H=>ih H)
 (fun _=>true)
 (fun _ ih H=>ih H)
 (fun _ ih H=>ih H)
 (fun _=>true)
 (fun i H=>isS (gH H i))
 (fun _=>true)
 (fun _ _ _ _=>true)
 (fun _ _ _ _=>true)
 (fun i H=>isS (gH H i))
 (fun _ _ ih H=>ih H)
 (fun _=>true)
 (fun _=>true) (fun _ _ ih iht H=>QM (ih H) (iht H)) (fun _=>true) (fun _ _ ih iht H=>QM (ih H) (iht H)) v H
noncomputable def nmOb (H:HT) (o:Ob):Bool := @Ob.rec (fun _=>HT->Bool) (fun _=>true) (fun _ _ els fl H=>Q6 fl true (nmE H els)) (fun _ _=>true) (fun _ _ _=>false) (fun _ _=>false) (fun _ _ _=>true) o H
noncomputable def nmO (H:HT) (v:Option AV):Bool := @Option.rec AV (fun _=>Bool) true (fun v=>nmV H v) v
noncomputable def Jn (H:HT) (t:Sx (Option AV)):Bool := @Sx.rec (Option AV) (fun _=>Bool) (fun a0 a1 a2 a3 a4 a5 a6 a7 a8 a9 a10 a11 a12 a13 a14 a15=>QM (nmO H a0) ( QM (nmO H a1) ( QM (nmO H a2) ( QM (nmO H a3) ( QM (nmO H a4) ( QM (nmO H a5) ( QM (nmO H a6) ( QM (nmO H a7) ( QM (nmO H a8) ( QM (nmO H a9) ( QM (nmO H a10) ( QM (nmO H a11) ( QM (nmO H a12) ( QM (nmO H a13) ( QM (nmO H a14) (nmO H a15)))))))))))))))) t
noncomputable def nmF (H:HT) (t:FT):Bool := @Sx.rec (Sx (Option AV)) (fun _=>Bool) (fun a0 a1 a2 a3 a4 a5 a6 a7 a8 a9 a10 a11 a12 a13 a14 a15=>QM (Jn H a0) ( QM (Jn H a1) ( QM (Jn H a2) ( QM (Jn H a3) ( QM (Jn H a4) ( QM (Jn H a5) ( QM (Jn H a6) ( QM (Jn H a7) ( QM (Jn H a8) ( QM (Jn H a9) ( QM (Jn H a10) ( QM (Jn H a11) ( QM (Jn H a12) ( QM (Jn H a13) ( QM (Jn H a14) (Jn H a15)))))))))))))))) t
noncomputable def nmEO (H:HT) (o:EO):Bool := @EO.rec (fun _=>Bool) (fun o=>nmOb H o) (fun _ _ _ F=>nmF H F) (fun F=>nmF H F) (fun F=>nmF H F) o
noncomputable def nmAll (H:HT) (n:Nat):Bool := @Nat.rec (fun _=>Bool) true (fun m ih=>Q6 (@Option.rec EO (fun _=>Bool) true (fun o=>nmEO H o) (gH H m)) ih false) n
noncomputable def rnV (v:AV) (A:List Nat):List Nat := @AV.rec (fun _=>List Nat->List Nat) (fun _=>List Nat->List Nat) (fun _=>List Nat->List Nat)
 (fun  A=>A)
 (fun  A=>A)
 (fun _ A=>A)
 (fun _ _ A=>A)
 (fun _ A=>A)
 (fun  A=>A)
 (fun i _ _ A=>i::A)
 (fun _ _ A=>A)
 (fun  A=>A)
 (fun i _ _ A=>i::A)
 (fun i _ _ _ A=>i::A)
 (fun _ _ _ A=>A)
 (fun _ _ ih A=>ih A)
 (fun  A=>A)
 (fun _ ih A=>ih A)
 (fun _ ih A=>ih A)
 (fun  A=>A)
 (fun i A=>i::A)
 (fun  A=>A)
 (fun _ _ _ A=>A)
 (fun _ _ _ A=>A)
 (fun i A=>i::A)
 (fun _ _ ih A=>ih A)
 (fun  A=>A)
 (fun A=>A) (fun _ _ ih iht A=>ih (iht A)) (fun A=>A) (fun _ _ ih iht A=>ih (iht A)) v A
noncomputable def rnL (v:List AV) (A:List Nat):List Nat := @AV.rec_1 (fun _=>List Nat->List Nat) (fun _=>List Nat->List Nat) (fun _=>List Nat->List Nat)
 (fun  A=>A)
 (fun  A=>A)
 (fun _ A=>A)
 (fun _ _ A=>A)
 (fun _ A=>A)
 (fun  A=>A)
 (fun i _ _ A=>i::A)
 (fun _ _ A=>A)
 (fun  A=>A)
 (fun i _ _ A=>i::A)
 (fun i _ _ _ A=>i::A)
 (fun _ _ _ A=>A)
 (fun _ _ ih A=>ih A)
 (fun  A=>A)
 (fun _ ih A=>ih A)
 (fun _ ih A=>ih A)
 (fun  A=>A)
 (fun i A=>i::A)
 (fun  A=>A)
 (fun _ _ _ A=>A)
 (fun _ _ _ A=>A)
 (fun i A=>i::A)
 (fun _ _ ih A=>ih A)
 (fun  A=>A)
 (fun A=>A) (fun _ _ ih iht A=>ih (iht A)) (fun A=>A) (fun _ _ ih iht A=>ih (iht A)) v A
noncomputable def rnE (v:List (List AV)) (A:List Nat):List Nat := @AV.rec_2 (fun _=>List Nat->List Nat) (fun _=>List Nat->List Nat) (fun _=>List Nat->List Nat)
 (fun  A=>A)
 (fun  A=>A)
 (fun _ A=>A)
 (fun _ _ A=>A)
 (fun _ A=>A)
 (fun  A=>A)
 (fun i _ _ A=>i::A)
 (fun _ _ A=>A)
 (fun  A=>A)
 (fun i _ _ A=>i::A)
 (fun i _ _ _ A=>i::A)
 (fun _ _ _ A=>A)
 (fun _ _ ih A=>ih A)
 (fun  A=>A)
 (fun _ ih A=>ih A)
 (fun _ ih A=>ih A)
 (fun  A=>A)
 (fun i A=>i::A)
 (fun  A=>A)
 (fun _ _ _ A=>A)
 (fun _ _ _ A=>A)
 (fun i A=>i::A)
 (fun _ _ ih A=>ih A)
 (fun  A=>A)
 (fun A=>A) (fun _ _ ih iht A=>ih (iht A)) (fun A=>A) (fun _ _ ih iht A=>ih (iht A)) v A
noncomputable def rnOb (o:Ob) (A:List Nat):List Nat := @Ob.rec (fun _=>List Nat->List Nat) (fun A=>A) (fun _ _ els fl A=>Q6 fl A (rnE els A)) (fun _ A=>A) (fun _ _ A=>A) (fun _ A=>A) (fun _ _ A=>A) o A
noncomputable def rnO (v:Option AV) (A:List Nat):List Nat := @Option.rec AV (fun _=>List Nat->List Nat) (fun A=>A) (fun v A=>rnV v A) v A
noncomputable def rn16 (t:Sx (Option AV)) (A:List Nat):List Nat := @Sx.rec (Option AV) (fun _=>List Nat->List Nat) (fun a0 a1 a2 a3 a4 a5 a6 a7 a8 a9 a10 a11 a12 a13 a14 a15 A=>rnO a0 ( rnO a1 ( rnO a2 ( rnO a3 ( rnO a4 ( rnO a5 ( rnO a6 ( rnO a7 ( rnO a8 ( rnO a9 ( rnO a10 ( rnO a11 ( rnO a12 ( rnO a13 ( rnO a14 (rnO a15 A)))))))))))))))) t A
noncomputable def rnF (t:FT) (A:List Nat):List Nat := @Sx.rec (Sx (Option AV)) (fun _=>List Nat->List Nat) (fun a0 a1 a2 a3 a4 a5 a6 a7 a8 a9 a10 a11 a12 a13 a14 a15 A=>rn16 a0 ( rn16 a1 ( rn16 a2 ( rn16 a3 ( rn16 a4 ( rn16 a5 ( rn16 a6 ( rn16 a7 ( rn16 a8 ( rn16 a9 ( rn16 a10 ( rn16 a11 ( rn16 a12 ( rn16 a13 ( rn16 a14 (rn16 a15 A)))))))))))))))) t A
noncomputable def rnEO (o:EO) (A:List Nat):List Nat := @EO.rec (fun _=>List Nat->List Nat) (fun o A=>rnOb o A) (fun _ _ _ F A=>rnF F A) (fun F A=>rnF F A) (fun F A=>rnF F A) o A
noncomputable def reachE (H:HT) (n:Nat) (todo:List Nat) (A:HT):HT := @Nat.rec (fun _=>List Nat->HT->HT) (fun _ A=>A)
 (fun _ ih todo A => @List.rec Nat (fun _=>HT) A (fun i l _ => @Option.rec EO (fun _=>HT) (@Option.rec EO (fun _=>HT) (ih l A) (fun o=>ih (rnEO o l) (sH A i o)) (gH H i)) (fun _=>ih l A) (gH A i)) todo) n todo A
noncomputable def ovE (H1:HT) (n:Nat) (H:HT):HT := @Nat.rec (fun _=>HT->HT) (fun H=>H) (fun m ih H => @Option.rec EO (fun _=>HT) (ih H) (fun o=>sH (ih H) m o) (gH H1 m)) n H
noncomputable def okS (ops:List MOper):Bool:=JB (ops.map fun m=>(m,([],[])))
noncomputable def nzF (l:List Fp) (k:Nat):List (Nat×Fp) := @List.rec Fp (fun _=>Nat->List (Nat×Fp)) (fun _=>[]) (fun x _ ih k=>Q6 (QM (isNilL x.1) (isNilL x.2)) (ih (k+1)) ((k,x)::ih (k+1))) l k
noncomputable def memB (n:Nat) (l:List Nat):Bool := @List.rec Nat (fun _=>Bool) false (fun x _ ih=>Q6 (Nat.beq x n) true ih) l
noncomputable def ovB (a b:List Nat):Bool := @List.rec Nat (fun _=>Bool) false (fun x _ ih=>Q6 (memB x b) true ih) a
noncomputable def okN1 (ms:List Nat) (k:Nat) (fx:Fp) (l:List (Nat×Fp)):Bool := @List.rec (Nat×Fp) (fun _=>Bool) true
 (fun y _ ih=>Q6 (orB (Nat.testBit (ms.getD y.1 0) k) (nt (orB (ovB fx.2 y.2.1) (orB (ovB fx.2 y.2.2) (ovB fx.1 y.2.2))))) ih false) l
noncomputable def okN (ms:List Nat) (l:List (Nat×Fp)):Bool := @List.rec (Nat×Fp) (fun _=>Bool) true (fun x l ih=>Q6 (okN1 ms x.1 x.2 l) ih false) l
noncomputable def masksE (ops:List MOper):List Nat:=masks (ops.map (·.pre)) []
noncomputable def okDr (ops:List MOper) (fps:List Fp):Bool:=QM (okS ops) (okN (masksE ops) (nzF (fps.reverseAux []) 0))
abbrev KT:=FT->HT->Nat->Rs
noncomputable def seqR (r:Rs) (k:KT):Rs := @Rs.rec (fun _=>KT->Rs) (fun _=>.no)
 (fun e F H nx k => @Exit.rec (fun _=>FT->HT->Nat->KT->Rs) (fun F H nx k=>k F H nx) (fun i F H nx _=>.ok (.exit i) F H nx) (fun _ _ _ _ _=>.no) (fun F H nx _=>.ok .ret F H nx) (fun _ _ _ _ _=>.no) (fun _ _ _ _=>.no) e F H nx k) r k
noncomputable def blkR (id:Nat) (r:Rs):Rs := @Rs.rec (fun _=>Nat->Rs) (fun _=>.no)
 (fun e F H nx id => @Exit.rec (fun _=>FT->HT->Nat->Nat->Rs) (fun F H nx _=>.ok .normal F H nx) (fun i F H nx id=>Q6 (Nat.beq i id) (.ok .normal F H nx) (.ok (.exit i) F H nx)) (fun _ _ _ _ _=>.no) (fun F H nx _=>.ok .ret F H nx) (fun _ _ _ _ _=>.no) (fun _ _ _ _=>.no) e F H nx id) r id
noncomputable def loopR (body:KT) (n:Nat):KT := @Nat.rec (fun _=>KT) (fun _ _ _=>.no) (fun _ ih F H nx=>seqR (body F H nx) ih) n
noncomputable def condR (F:T2 AV) (x:Arg) (a b:Rs):Rs := @Option.rec AV (fun _=>Rs) .no (fun v=>vCond v fun t=>Q6 t a b) (QE F x)
noncomputable def regR (r:Os) (ops:List MOper) (draw:Bool):Rs := @Os.rec (fun _=>List MOper->Bool->Rs) (fun _ _=>.no)
 (fun F H nx fps ops draw=>Q6 draw (Q6 (okDr ops fps) (.ok .normal F H nx) .no) (.ok .normal F H nx)) r ops draw
abbrev CoT:=MC->KT
noncomputable def putPsE (ps:List Nat) (vs:List AV) (F:FT):FT := @List.rec Nat (fun _=>List AV->FT->FT) (fun _ F=>F) (fun p _ ih vs F => @List.rec AV (fun _=>FT->FT) (fun F=>F) (fun v vs _ F=>ih vs (sF F p v)) vs F) ps vs F
noncomputable def namesE (H:HT) (n:Nat):List Nat := @Nat.rec (fun _=>List Nat) [] (fun m ih=>Q6 (isS (gH H m)) (m::ih) ih) n
noncomputable def plC (c:MC):Bool := @MC.rec (fun _=>Bool) true (fun _ _=>true) (fun _ _ a b=>QM a b) (fun _ _ _ a b=>QM a b) (fun _ _ a=>a) (fun _ a=>a) (fun _=>true) true (fun _ _ _ _ _ _=>false) (fun _ _=>false) true c
noncomputable def seqN (r:Rs) (k:KT):Rs:=match r with
 | .ok .normal F H nx=>k F H nx
 | _=>.no
noncomputable def yPut (gk:List Nat) (b:Bool) (nx:Nat) (H:HT):Cr:=.ok (.bool b) H nx gk (namesE H nx)
noncomputable def yEnd (gk:List Nat) (i:Nat) (ps:List Nat) (x y:MC) (F:FT) (r:Rs):Cr:=match r with
 | .ok .normal _ H nx=>yPut gk true nx (sH H i (.lp ps x y F))
 | .ok .ret _ H nx=>yPut gk false nx (sH H i (.done F))
 | _=>.no
noncomputable def yieldE (gk:List Nat) (co:CoT):X5:=fun i vs H nx=>match gH H i with
 | some (.lp ps x y F)=>match QM (Nat.beq vs.length ps.length) (QM (nmL H vs) (nmAll H nx)) with
  | true=>yEnd gk i ps x y F (seqN (co x (putPsE ps vs F) (sH H i (.busy F)) nx) (co y))
  | false=>.no
 | _=>.no
noncomputable def rfEnd (li:Nat) (F:FT) (r:Cr):Rs:=match r with
 | .ok _ H nx _ _=>match gH H li with
  | some (.lp _ _ _ _)=>.ok .normal F (sH H li (.ob .dead)) nx
  | some (.done _)=>.ok .ret F (sH H li (.ob .dead)) nx
  | _=>.no
 | .no=>.no
noncomputable def rfE (sh:Nat->Bool) (cl:X5) (ps:List Nat) (x y:MC) (F:FT) (H:HT) (nx:Nat) (g:AV):Rs:=match g with
 | .fn (.func f) cs=>match sh f&&Xj P f&&Nat.ble nx 4090&&plC x&&plC y&&nmF H F with
  | true=>rfEnd nx F (cl f (.yl nx::cs) (sH H nx (.lp ps x y F)) (nx+1))
  | false=>.no
 | _=>.no
noncomputable def oR {α:Type} (x:Option α) (k:α->Rs):Rs := @Option.rec α (fun _=>Rs) .no k x
noncomputable def evC (sh:Nat->Bool) (gk:List Nat) (gb:GlT) (cl:X5) (co:CoT) (c:MC):KT := @MC.rec (fun _=>KT)
 (fun F H nx=>.ok .normal F H nx)
 (fun ops draw F H nx=>regR (opsE P gb cl (yieldE gk co) ops F H nx []) ops draw)
 (fun _ _ iha ihb F H nx=>seqR (iha F H nx) ihb)
 (fun x _ _ iha ihb F H nx=>condR F x (iha F H nx) (ihb F H nx))
 (fun id _ ih F H nx=>blkR id (ih F H nx))
 (fun _ ih F H nx=>loopR ih 1000000 F H nx)
 (fun id F H nx=>.ok (.exit id) F H nx)
 (fun F H nx=>.ok .ret F H nx)
 (fun g ps x y _ _ F H nx=>oR (QE F g) fun v=>rfE P sh cl ps x y F H nx v)
 (fun _ ih F H nx=>ih F H nx)
 (fun F H nx=>.ok .normal F H nx) c
structure FnI where
 nt:Nat
 rs:List ResultVar
 mc:MC
noncomputable def fnI (f:Nat):Option FnI:=match P.funcs[f]? with
 | some fn=>match fn.body with
  | some c=>match Qq P fn.ntmps c with
   | some mc=>some ⟨fn.ntmps,fn.results.toList,mc⟩
   | none=>none
  | none=>none
 | none=>none
noncomputable def endR (r:Rs) (k:FT->HT->Nat->Cr):Cr:=match r with
 | .ok .normal F H nx=>k F H nx
 | .ok .ret F H nx=>k F H nx
 | _=>.no
inductive PR where
 | no
 | ok (v:AV) (al:Bool)
structure Pol where
 shared:Nat->Bool
 rk:Nat->Nat->Bool
 gl:GlT
 gk:List Nat
 ora:Nat->List AV->PR
noncomputable def bodyE (pol:Pol) (gk:List Nat) (gb:GlT) (cl:X5) (co:CoT) (f:Nat) (vs:List AV) (H:HT) (nx:Nat) (k:List AV->HT->Nat->Cr):Cr:=match fnI P f with
 | some ⟨nt,rs,mc⟩=>match Nat.ble vs.length nt&&Nat.ble nt 256 with
  | true=>endR (evC P pol.shared gk gb cl co mc (parE vs 0 e2) H nx) fun F H nx=>match ressE P F H rs with
   | some out=>k out H nx
   | none=>.no
  | false=>.no
 | none=>.no
noncomputable def toPR (r:Cr):PR := @Cr.rec (fun _=>PR) .no (fun v H _ _ _ => @Fz.rec (fun _=>PR) .no (fun v al=>.ok v al) (fzV H 400 v)) r
noncomputable def pureE (pol:Pol) (gk:List Nat) (gb:GlT) (cl:X5) (co:CoT) (f:Nat) (vs:List AV):PR := @PR.rec (fun _=>PR)
 (toPR (bodyE P pol gk gb cl co f vs e3 0 fun out H nx=>.ok (Xl out) H nx [] [])) (fun r al=>.ok r al) (pol.ora f vs)
noncomputable def prA (r:PR) (wr:List Nat) (H:HT) (nx:Nat):Cr := @PR.rec (fun _=>List Nat->HT->Nat->Cr) (fun _ _ _=>.no) (fun v _ wr H nx=>.ok v H nx wr []) r wr H nx
noncomputable def prL (r:PR) (rd:List Nat) (H:HT) (nx:Nat):Cr := @PR.rec (fun _=>List Nat->HT->Nat->Cr) (fun _ _ _=>.no) (fun v al rd H nx => @Bool.rec (fun _=>Cr) (.ok v H nx rd []) .no al) r rd H nx
noncomputable def nrmL (vs:List AV) (k:List AV->Cr):Cr := @AV.rec_1 (fun _=>(AV->Cr)->Cr) (fun _=>(List AV->Cr)->Cr) (fun _=>(List (List AV)->Cr)->Cr)
 (fun k=>k .any)
 (fun k=>k .und)
 (fun b k => @Bool.rec (fun _=>Cr) (k (.bool false)) (k (.bool true)) b)
 (fun kd n k=>fI n fun n => @IntKind.rec (fun _=>Cr) (k (.int .i8 n)) (k (.int .i16 n)) (k (.int .i32 n)) (k (.int .i64 n)) (k (.int .u8 n)) (k (.int .u16 n)) (k (.int .u32 n)) (k (.int .u64 n)) kd)
 (fun s k=>k (.str s))
 (fun k=>k .nilp)
 (fun i j o k=>k (.ptr i j o))
 (fun _ ih k=>ih fun cs=>k (.rp cs))
 (fun k=>k .nils)
 (fun i j n k=>k (.sl i j n))
 (fun i j o n k=>k (.sa i j o n))
 (fun z _ ih k=>fN z fun z=>ih fun els=>k (.rs z els))
 (fun f _ ih k=>ih fun cs=>k (.fn f cs))
 (fun k=>k .nilf)
 (fun _ ih k=>ih fun cs=>k (.agg cs))
 (fun _ ih k=>ih fun cs=>k (.tup cs))
 (fun k=>k .nilm)
 (fun i k=>k (.mp i))
 (fun k=>k .nili)
 (fun t _ ih k=>fN t fun t=>ih fun v=>k (.ifc t v))
 (fun m _ ih k=>ih fun v=>k (.bm m v))
 (fun i k=>k (.yl i))
 (fun f _ ih k=>ih fun v=>k (.bnd f v))
 (fun k=>k .anyb)
 (fun k=>k []) (fun _ _ ih iht k=>ih fun x=>iht fun l=>k (x::l))
 (fun k=>k []) (fun _ _ ih iht k=>ih fun x=>iht fun l=>k (x::l)) vs k
noncomputable def rangeE (n:Nat):List Nat := @Nat.rec (fun _=>List Nat) [] (fun m ih=>m::ih) n
noncomputable def callPart (pol:Pol) (gk:List Nat) (gb:GlT) (cl:X5) (co:CoT) (f:Nat) (vs:List AV) (H:HT) (nx:Nat) (hr:HT):Cr :=
 JQ (nmL hr vs) (JQ (nmAll hr nx) (bodyE P pol gk gb cl co f vs hr nx fun out h1 n1=>.ok (Xl out) (ovE h1 n1 H) n1 gk (namesE h1 n1)))
noncomputable def doCall (pol:Pol) (b:Bool) (clb:Bool->X5) (cob:Bool->CoT):X5:=fun f vs H nx=>match pol.shared f with
 | true=>callPart P pol (Q6 b pol.gk []) (Q6 b pol.gl fun _=>none) (clb b) (cob b) f vs H nx (reachE H 100000 (rnL vs []) e3)
 | false=>match Qi vs with
  | true=>nrmL vs fun vs=>prA (pureE P pol (Q6 b pol.gk []) (Q6 b pol.gl fun _=>none) (clb b) (cob b) f vs) (Q6 b pol.gk []) H nx
  | false=>match ldL H 400 vs with
   | some vs=>nrmL vs fun vs=>prL (pureE P pol [] (fun _=>none) (clb false) (cob false) f vs) (rangeE nx) H nx
   | none=>.no
noncomputable def lev (pol:Pol) (n:Nat):Bool->X5×CoT := @Nat.rec (fun _=>Bool->X5×CoT) (fun _=>(fun _ _ _ _=>.no,fun _ _ _ _=>.no))
 (fun n ih b=>(fun f vs H nx=>Q6 (pol.rk f n) (doCall P pol b (fun b=>(ih b).1) (fun b=>(ih b).2) f vs H nx) ((ih b).1 f vs H nx),
  fun c F H nx=>evC P pol.shared (Q6 b pol.gk []) (Q6 b pol.gl fun _=>none) (ih b).1 (ih b).2 c F H nx)) n
def memN:List Nat->Nat->Bool
 | [],_=>false
 | x::l,n=>match Nat.beq x n with | true=>true | false=>memN l n
end
end Go.Proofs.YthmbjgnjfjjibaaGreatDoor
namespace Go.Proofs.YthmbjgnjfjjibaaGreatDoor
open Go.RowKit
set_option maxRecDepth 100000
variable {h3:Re}
variable {h0:(List AV)->Re}
variable {α:Type}
section
variable {v:AV} {rd wr:List Nat} {upd:Hp} {al:Nat}
theorem Xk (h:Re.no = .mk v rd wr upd al):False:=by cases h
theorem XW {x:Option α} {k:α->Re} (h:oV x k = .mk v rd wr upd al):∃ a,x=some a/\k a = .mk v rd wr upd al:=by
 cases x with
 | none=>exact (Xk h).elim
 | some a=>exact ⟨a,rfl,h⟩
theorem Qb {b:Bool} {r:Re} (h:Qn b r = .mk v rd wr upd al):b=true/\r = .mk v rd wr upd al:=by
 cases b with
 | false=>exact (Xk h).elim
 | true=>exact ⟨rfl,h⟩
theorem iN_inv {n:Int} {k:Nat->Re} (h:iN n k = .mk v rd wr upd al):∃ m,n = .ofNat m/\k m = .mk v rd wr upd al:=by
 cases n with
 | ofNat m=>exact ⟨m,rfl,h⟩
 | negSucc m=>exact (Xk h).elim
theorem QJ {β:Type} (b:Bool) (x y:β):Q6 b x y=if b=true then x else y:=by cases b <;> rfl
theorem QV {u:AV} {h0:(IntKind)->(Int)->Re} (h:vInt u h0 = .mk v rd wr upd al):(∃ k' n',u = .int k' n'/\h0 k' n' = .mk v rd wr upd al):=by
 cases u <;> first | exact ⟨_,_,rfl,h⟩ | exact (Xk h).elim
theorem vBool_inv {u:AV} {h0:(Bool)->Re} (h:vBool u h0 = .mk v rd wr upd al):(∃ b',u = .bool b'/\h0 b' = .mk v rd wr upd al):=by
 cases u <;> first | exact ⟨_,rfl,h⟩ | exact (Xk h).elim
theorem vPtr_inv {u:AV} {h0:(Nat)->(Nat)->(Nat)->Re} {h1:(List AV)->Re} (h:vPtr u h0 h1 = .mk v rd wr upd al):(∃ i' j' o',u = .ptr i' j' o'/\h0 i' j' o' = .mk v rd wr upd al)\/(∃ cs',u = .rp cs'/\h1 cs' = .mk v rd wr upd al):=by
 cases u <;> first | exact (.inl ⟨_,_,_,rfl,h⟩) | exact (.inr (⟨_,rfl,h⟩)) | exact (Xk h).elim
theorem vAgg_inv {u:AV} (h:vAgg u h0 = .mk v rd wr upd al):(∃ cs',u = .agg cs'/\h0 cs' = .mk v rd wr upd al):=by
 cases u <;> first | exact ⟨_,rfl,h⟩ | exact (Xk h).elim
theorem vTup_inv {u:AV} (h:vTup u h0 = .mk v rd wr upd al):(∃ cs',u = .tup cs'/\h0 cs' = .mk v rd wr upd al):=by
 cases u <;> first | exact ⟨_,rfl,h⟩ | exact (Xk h).elim
theorem vSl_inv {u:AV} {h0:(Nat)->(List (List AV))->Re} {h1:(Nat)->(Nat)->(Nat)->Re} {h2:(Nat)->(Nat)->(Nat)->(Nat)->Re} (h:vSl u h0 h1 h2 h3 = .mk v rd wr upd al):(∃ z' els',u = .rs z' els'/\h0 z' els' = .mk v rd wr upd al)\/(∃ i' j' n',u = .sl i' j' n'/\h1 i' j' n' = .mk v rd wr upd al)\/(∃ i' j' o' n',u = .sa i' j' o' n'/\h2 i' j' o' n' = .mk v rd wr upd al)\/(u = .nils  ∧ h3  = .mk v rd wr upd al):=by
 cases u <;> first | exact (.inl ⟨_,_,rfl,h⟩) | exact (.inr (.inl ⟨_,_,_,rfl,h⟩)) | exact (.inr (.inr (.inl ⟨_,_,_,_,rfl,h⟩))) | exact (.inr (.inr (.inr (⟨rfl,h⟩)))) | exact (Xk h).elim
theorem vIf_inv {u:AV} {h0:Re} {h1:(Nat)->(AV)->Re} (h:vIf u h0 h1 = .mk v rd wr upd al):(u = .nili  ∧ h0  = .mk v rd wr upd al)\/(∃ t' v',u = .ifc t' v'/\h1 t' v' = .mk v rd wr upd al):=by
 cases u <;> first | exact (.inl ⟨rfl,h⟩) | exact (.inr (⟨_,_,rfl,h⟩)) | exact (Xk h).elim
theorem vNil_inv {u:AV} {h0:Re} {h1:(Nat)->(List (List AV))->Re} {h2:(Nat)->(Nat)->(Nat)->Re} {h4:(Nat)->(Nat)->(Nat)->Re} {h5:(List AV)->Re} (h:vNil u h0 h1 h2 h3 h4 h5 = .mk v rd wr upd al):(u = .nils  ∧ h0  = .mk v rd wr upd al)\/(∃ z' els',u = .rs z' els'/\h1 z' els' = .mk v rd wr upd al)\/(∃ i' j' n',u = .sl i' j' n'/\h2 i' j' n' = .mk v rd wr upd al)\/(u = .nilp  ∧ h3  = .mk v rd wr upd al)\/(∃ i' j' o',u = .ptr i' j' o'/\h4 i' j' o' = .mk v rd wr upd al)\/(∃ cs',u = .rp cs'/\h5 cs' = .mk v rd wr upd al):=by
 cases u <;> first | exact (.inl ⟨rfl,h⟩) | exact (.inr (.inl ⟨_,_,rfl,h⟩)) | exact (.inr (.inr (.inl ⟨_,_,_,rfl,h⟩))) | exact (.inr (.inr (.inr (.inl ⟨rfl,h⟩)))) | exact (.inr (.inr (.inr (.inr (.inl ⟨_,_,_,rfl,h⟩))))) | exact (.inr (.inr (.inr (.inr (.inr (⟨_,rfl,h⟩)))))) | exact (Xk h).elim
theorem vStr_inv {u:AV} {h0:(ByteArray)->Re} (h:vStr u h0 = .mk v rd wr upd al):(∃ s',u = .str s'/\h0 s' = .mk v rd wr upd al):=by
 cases u <;> first | exact ⟨_,rfl,h⟩ | exact (Xk h).elim
theorem vMp_inv {u:AV} {h0:(Nat)->Re} (h:vMp u h0 = .mk v rd wr upd al):(∃ i',u = .mp i'/\h0 i' = .mk v rd wr upd al):=by
 cases u <;> first | exact ⟨_,rfl,h⟩ | exact (Xk h).elim
theorem Xy {x:Option Ob} {k:Nat->Nat->List (List AV)->Bool->Re} (h:JN x k = .mk v rd wr upd al):∃ e z els fl,x=some (.cells e z els fl)/\k e z els fl = .mk v rd wr upd al:=by
 cases x with
 | none=>exact (Xk h).elim
 | some o=>cases o <;> first | exact ⟨_,_,_,_,rfl,h⟩ | exact (Xk h).elim
theorem obMset_inv {x:Option Ob} {k:List (List Int)->Re} (h:obMset x k = .mk v rd wr upd al):∃ ks,x=some (.mset ks)/\k ks = .mk v rd wr upd al:=by
 cases x with
 | none=>exact (Xk h).elim
 | some o=>cases o <;> first | exact ⟨_,rfl,h⟩ | exact (Xk h).elim
theorem rI_inv {k:IntKind} {n:Int} (h:rI k n = .mk v rd wr upd al):v = .int k (wrF k n)/\rd=[]/\wr=[]/\upd=[]/\al=0:=by
 unfold rI at h; rw [fI_eq] at h; cases h; exact ⟨rfl,rfl,rfl,rfl,rfl⟩
theorem rI'_inv {k:IntKind} {n:Int} (h:rI' k n = .mk v rd wr upd al):v = .int k n/\rd=[]/\wr=[]/\upd=[]/\al=0:=by
 unfold rI' at h; rw [fI_eq] at h; cases h; exact ⟨rfl,rfl,rfl,rfl,rfl⟩
theorem Jc {b:Bool} (h:rB b = .mk v rd wr upd al):v = .bool b/\rd=[]/\wr=[]/\upd=[]/\al=0:=by
 cases b <;> (have h:Re.mk _ [] [] [] 0=_:=h; cases h; exact ⟨rfl,rfl,rfl,rfl,rfl⟩)
theorem Xu {u:AV} (h:rV u = .mk v rd wr upd al):v=u/\rd=[]/\wr=[]/\upd=[]/\al=0:=by
 unfold rV at h; cases h; exact ⟨rfl,rfl,rfl,rfl,rfl⟩
theorem rN_inv {n:Nat} (h:rN n = .mk v rd wr upd al):v = .int .i64 (n:Int)/\rd=[]/\wr=[]/\upd=[]/\al=0:=by
 unfold rN at h; rw [fN_eq] at h; cases h; exact ⟨rfl,rfl,rfl,rfl,rfl⟩
theorem XX {v':AV} {rd' wr':List Nat} {upd':Hp} {al':Nat} (h:Re.mk v' rd' wr' upd' al' = .mk v rd wr upd al):v=v'/\rd=rd'/\wr=wr'/\upd=upd'/\al=al':=by
 cases h; exact ⟨rfl,rfl,rfl,rfl,rfl⟩
-- numbers
theorem nt_eq (b:Bool):nt b = !b:=by cases b <;> rfl
theorem orB_eq (a b:Bool):orB a b=(a||b):=by cases a <;> rfl
theorem xorB_eq (a b:Bool):xorB a b=(a != b):=by cases a <;> cases b <;> rfl
theorem iEq_eq (a b:Int):iEq a b=(a == b):=by
 cases a with
 | ofNat a=>cases b with
  | ofNat b =>
   show Nat.beq a b=_
   by_cases h:a=b
   ·subst h; simp [Nat.beq_refl]
   ·have h1:Nat.beq a b=false:=by
     cases hb:Nat.beq a b with
     | false=>rfl
     | true=>exact absurd (Nat.eq_of_beq_eq_true hb) h
    rw [h1]; symm; rw [beq_eq_false_iff_ne]; intro e; injection e with e; exact h e
  | negSucc b=>rfl
 | negSucc a=>cases b with
  | ofNat b=>rfl
  | negSucc b =>
   show Nat.beq a b=_
   by_cases h:a=b
   ·subst h; simp [Nat.beq_refl]
   ·have h1:Nat.beq a b=false:=by
     cases hb:Nat.beq a b with
     | false=>rfl
     | true=>exact absurd (Nat.eq_of_beq_eq_true hb) h
    rw [h1]; symm; rw [beq_eq_false_iff_ne]; intro e; injection e with e; exact h e
theorem ble_dec (a b:Nat):Nat.ble a b=decide (a<=b):=by
 cases h:Nat.ble a b with
 | true=>exact (decide_eq_true (Nat.le_of_ble_eq_true h)).symm
 | false=>symm; apply decide_eq_false; intro h'; rw [Nat.ble_eq_true_of_le h'] at h; cases h
theorem iLe_eq (a b:Int):iLe a b=decide (a<=b):=by
 cases a with
 | ofNat a=>cases b with
  | ofNat b=>show Nat.ble a b=_; rw [ble_dec]; simp
  | negSucc b=>show false=_; symm; apply decide_eq_false; simp only [Int.ofNat_eq_natCast]; omega
 | negSucc a=>cases b with
  | ofNat b=>show true=_; symm; apply decide_eq_true; simp only [Int.ofNat_eq_natCast]; omega
  | negSucc b=>show Nat.ble b a=_; rw [ble_dec]; simp only [decide_eq_decide]; omega
theorem iLt_eq (a b:Int):iLt a b=decide (a<b):=by
 unfold iLt; rw [nt_eq,iLe_eq,← decide_not]; simp only [decide_eq_decide]; omega
theorem iAdd_eq (a b:Int):iAdd a b=a+b:=by
 cases a with
 | ofNat a=>cases b with
  | ofNat b=>rfl
  | negSucc b =>
   show Q6 (Nat.ble a b) (Int.negSucc (b-a)) (Int.ofNat (a-(b+1)))=_
   rw [QJ]
   split
   ·rename_i h; have:=Nat.le_of_ble_eq_true h; simp only [Int.ofNat_eq_natCast]; omega
   ·rename_i h; have:¬ a<=b:=fun h'=>h (Nat.ble_eq_true_of_le h'); simp only [Int.ofNat_eq_natCast]; omega
 | negSucc a=>cases b with
  | ofNat b =>
   show Q6 (Nat.ble b a) (Int.negSucc (a-b)) (Int.ofNat (b-(a+1)))=_
   rw [QJ]
   split
   ·rename_i h; have:=Nat.le_of_ble_eq_true h; simp only [Int.ofNat_eq_natCast]; omega
   ·rename_i h; have:¬ b<=a:=fun h'=>h (Nat.ble_eq_true_of_le h'); simp only [Int.ofNat_eq_natCast]; omega
  | negSucc b=>show Int.negSucc (Nat.succ (a+b))=_; omega
theorem iNeg_eq (a:Int):iNeg a = -a:=by
 cases a with
 | ofNat a=>cases a with
  | zero=>rfl
  | succ m=>show Int.negSucc m=_; simp only [Int.ofNat_eq_natCast]; omega
 | negSucc a=>show Int.ofNat (a+1)=_; simp only [Int.ofNat_eq_natCast]; omega
theorem iMul_eq (a b:Int):iMul a b=a*b:=by
 cases a with
 | ofNat a=>cases b with
  | ofNat b=>rfl
  | negSucc b =>
   show iNeg (Int.ofNat (a*(b+1)))=_
   rw [iNeg_eq,show Int.negSucc b = -((b+1:Nat):Int) by omega,Int.mul_neg]; simp only [Int.ofNat_eq_natCast,Int.natCast_mul]
 | negSucc a=>cases b with
  | ofNat b =>
   show iNeg (Int.ofNat ((a+1)*b))=_
   rw [iNeg_eq,show Int.negSucc a = -((a+1:Nat):Int) by omega,Int.neg_mul]; simp only [Int.ofNat_eq_natCast,Int.natCast_mul]
  | negSucc b =>
   show Int.ofNat ((a+1)*(b+1))=_
   rw [show Int.negSucc a = -((a+1:Nat):Int) by omega,show Int.negSucc b = -((b+1:Nat):Int) by omega,Int.neg_mul_neg]; simp only [Int.ofNat_eq_natCast,Int.natCast_mul]
theorem wrap_u (k:IntKind) (hk:k.signed=false) {n:Int} (h0:0<=n) (h1:n<2^k.bits):k.wrap n=n:=by
 unfold IntKind.wrap
 simp only [hk,Bool.false_and]
 rw [if_neg (by simp)]
 exact Int.emod_eq_of_lt h0 h1
theorem wrF_eq (k:IntKind) (n:Int):wrF k n=k.wrap n:=by
 cases k <;> try rfl
 ·cases n with
  | ofNat a =>
   show Q6 (Nat.ble a 9223372036854775807) (Int.ofNat a) _=_
   rw [QJ]
   split
   ·rename_i h; have:=Nat.le_of_ble_eq_true h; symm; rw [IntKind.wrap_i64]; simp only [Int.ofNat_eq_natCast]; omega
   ·rfl
  | negSucc a =>
   show Q6 (Nat.ble a 9223372036854775807) (Int.negSucc a) _=_
   rw [QJ]
   split
   ·rename_i h; have:=Nat.le_of_ble_eq_true h; symm; rw [IntKind.wrap_i64]; omega
   ·rfl
 ·cases n with
  | ofNat a =>
   show Q6 (Nat.ble a 4294967295) (Int.ofNat a) _=_
   rw [QJ]
   split
   ·rename_i h; have:=Nat.le_of_ble_eq_true h; exact (wrap_u .u32 rfl (Int.natCast_nonneg a) (by show (a:Int)<2^32; omega)).symm
   ·rfl
  | negSucc a=>rfl
 ·cases n with
  | ofNat a =>
   show Q6 (Nat.ble a 18446744073709551615) (Int.ofNat a) _=_
   rw [QJ]
   split
   ·rename_i h; have:=Nat.le_of_ble_eq_true h; exact (wrap_u .u64 rfl (Int.natCast_nonneg a) (by show (a:Int)<2^64; omega)).symm
   ·rfl
  | negSucc a=>rfl
theorem JP {k k':IntKind} (h:kEq k k'=true):k=k':=by cases k <;> cases k' <;> first | rfl | cases h
theorem J7 {α:Type}:∀ (l:List α) (n:Nat),nthE l n=l[n]?
 | [],_=>rfl
 | _::_,0=>rfl
 | _::l,n+1=>J7 l n
theorem isNilL_eq {l:List α} (h:isNilL l=true):l=[]:=by cases l with
 | nil=>rfl
 | cons a l=>cases h
theorem allLen_spec {z:Nat}:∀ {l:List (List AV)},allLen z l=true->∀ el∈l,el.length=z
 | [],_,el,h=>by cases h
 | e::r,h,el,he=>by
  have h:Q6 (Nat.beq e.length z) (allLen z r) false=true:=h
  rw [QJ] at h
  split at h
  ·rename_i h1
   rcases List.mem_cons.1 he with rfl | he
   ·exact Nat.eq_of_beq_eq_true h1
   ·exact allLen_spec h el he
  ·cases h
end
end Go.Proofs.YthmbjgnjfjjibaaGreatDoor
namespace Go.Proofs.YthmbjgnjfjjibaaGreatDoor
open Go.RowKit
set_option maxRecDepth 100000
structure RelS (Fl:Fr) (Hl:Hp) (F:FT) (H:HT):Prop where
 fr:∀ n,get Fl n=gF F n
 hp:∀ i o,obE H i=some o->get Hl i=some o
variable {nk:Nat}
variable {neg:Bool}
variable {off:Nat}
section
variable {Fl:Fr} {Hl:Hp} {F:FT} {H:HT} {d:Nat} {v:AV} {rd wr:List Nat} {upd:Hp} {al:Nat} {K:AV->List Nat->List Nat->Hp->Prop}
theorem XZ (hr:RelS Fl Hl F H) (x:Arg):QE F x=Qe Fl x:=by
 cases x with
 | t n=>exact (hr.fr n).symm
 | c v=>rfl
theorem argsE_eq (hr:RelS Fl Hl F H):∀ l:List Arg,argsE F l=XT Fl l
 | []=>rfl
 | x::l=>by
  have ih:=argsE_eq hr l
  have e:argsE F (x::l) = @Option.rec AV (fun _=>Option (List AV)->Option (List AV)) (fun _=>none) (fun v r => @Option.rec (List AV) (fun _=>Option (List AV)) none (fun vs=>some (v::vs)) r) (QE F x) (argsE F l):=rfl
  rw [e,ih,XZ hr x]
  simp only [XT]
  cases Qe Fl x <;> cases XT Fl l <;> rfl
theorem Qv (hr:RelS Fl Hl F H) {x:Arg} {k:AV->Re} (h:oV (QE F x) k = .mk v rd wr upd al):∃ u,Qe Fl x=some u/\k u = .mk v rd wr upd al:=by
 obtain ⟨u,h1,h2⟩:=XW h
 exact ⟨u,by rw [← XZ hr,h1],h2⟩
theorem ldC_inv {rd':List Nat} {g:Bool} {o n:Nat} {el:List AV} (h:ldC g o n el rd' = .mk v rd wr upd al):rd=rd'/\wr=[]/\upd=[]/\al=0/\((g=true/\o+n<=el.length/\v = .agg ((el.drop o).take n))\/(g=false/\el[o]?=some v)):=by
 unfold ldC at h
 rw [QJ] at h
 split at h
 ·replace h:=Qb h; obtain ⟨h1,h⟩:=h
  obtain ⟨rfl,rfl,rfl,rfl,rfl⟩:=XX h
  exact ⟨rfl,rfl,rfl,rfl,.inl ⟨by assumption,Nat.le_of_ble_eq_true h1,rfl⟩⟩
 ·rename_i hg
  replace h:=XW h; obtain ⟨u,h1,h⟩:=h
  obtain ⟨rfl,rfl,rfl,rfl,rfl⟩:=XX h
  rw [J7] at h1
  exact ⟨rfl,rfl,rfl,rfl,.inr ⟨by simpa using hg,h1⟩⟩
theorem ok_mv (hr:RelS Fl Hl F H) {x:Arg} (h:exMv x F H d = .mk v rd wr upd al) (hK:K v rd wr (upd++Hl)):mev Fl Hl d K (.mv x):=by
 replace h:=Qv hr h; obtain ⟨u,e1,h⟩:=h
 obtain ⟨rfl,rfl,rfl,rfl,rfl⟩:=Xu h
 simp only [mev,e1]; exact hK
theorem ok_pick (hr:RelS Fl Hl F H) {c a b:Arg} (h:exPick c a b F H d = .mk v rd wr upd al) (hK:K v rd wr (upd++Hl)):mev Fl Hl d K (.pick c a b):=by
 replace h:=Qv hr h; obtain ⟨u,e1,h⟩:=h
 replace h:=vBool_inv h; obtain ⟨t,e0,h⟩:=h; subst e0
 replace h:=XW h; obtain ⟨w,e2,h⟩:=h
 obtain ⟨rfl,rfl,rfl,rfl,rfl⟩:=Xu h
 rw [QJ] at e2
 have e3:Qe Fl (if t=true then a else b)=some v:=by
  split at e2
  ·rename_i h; rw [if_pos h,← XZ hr]; exact e2
  ·rename_i h; rw [if_neg h,← XZ hr]; exact e2
 simp only [mev,e1,e3]; exact hK
theorem ok_alloc {e z:Nat} {zero:List AV} (hd:al=1->get Hl d=none) (h:exAlloc e z zero F H d = .mk v rd wr upd al) (hK:K v rd wr (upd++Hl)):mev Fl Hl d K (.alloc e z zero):=by
 replace h:=Qb h; obtain ⟨h1,h⟩:=h
 obtain ⟨rfl,rfl,rfl,rfl,rfl⟩:=XX h
 exact ⟨Nat.eq_of_beq_eq_true h1,hd rfl,hK⟩
theorem ok_box (hr:RelS Fl Hl F H) {e z:Nat} {x:Arg} (hd:al=1->get Hl d=none) (h:exBox e z x F H d = .mk v rd wr upd al) (hK:K v rd wr (upd++Hl)):mev Fl Hl d K (.box e z x):=by
 replace h:=Qv hr h; obtain ⟨u,e1,h⟩:=h
 replace h:=XW h; obtain ⟨cs,e2,h⟩:=h
 replace h:=Qb h; obtain ⟨h1,h⟩:=h
 obtain ⟨rfl,rfl,rfl,rfl,rfl⟩:=XX h
 simp only [mev,e1,e2]
 exact ⟨Nat.eq_of_beq_eq_true h1,hd rfl,hK⟩
theorem fillE_eq (hr:RelS Fl Hl F H):∀ (ps:List (Nat×Nat×Arg)) (l cs:List AV),fillE F l ps=some cs->fillA Fl l ps=some cs
 | [],l,cs,h=>h
 | (off,n,x)::r,l,cs,h=>by
  unfold fillE at h
  unfold fillA
  rw [XZ hr] at h
  split at h
  ·rename_i u e1
   rw [e1]
   split at h
   ·rename_i c e2
    simp only [e2]
    split at h
    ·rename_i h1 h2
     rw [if_pos ⟨Nat.eq_of_beq_eq_true h1,Nat.le_of_ble_eq_true h2⟩]
     exact fillE_eq hr r _ cs h
    ·cases h
   ·cases h
  ·cases h
theorem ok_build (hr:RelS Fl Hl F H) {zero:List AV} {ps:List (Nat×Nat×Arg)} (h:exBuild zero ps F H d = .mk v rd wr upd al) (hK:K v rd wr (upd++Hl)):mev Fl Hl d K (.build zero ps):=by
 replace h:=XW h; obtain ⟨cs,e1,h⟩:=h
 obtain ⟨rfl,rfl,rfl,rfl,rfl⟩:=Xu h
 simp only [mev,fillE_eq hr _ _ _ e1]; exact hK
theorem fillSE_eq (hr:RelS Fl Hl F H) {z:Nat}:∀ (ps:List (Nat×Arg)) (l cs:List AV),fillSE F z l ps=some cs->fillS Fl z l ps=some cs
 | [],l,cs,h=>h
 | (i,x)::r,l,cs,h=>by
  unfold fillSE at h
  unfold fillS
  rw [XZ hr] at h
  split at h
  ·rename_i u e1
   rw [e1]
   split at h
   ·rename_i c e2
    simp only [e2]
    split at h
    ·rename_i h1 h2
     rw [if_pos ⟨Nat.eq_of_beq_eq_true h1,Nat.le_of_ble_eq_true h2⟩]
     exact fillSE_eq hr r _ cs h
    ·cases h
   ·cases h
  ·cases h
theorem ok_bslice (hr:RelS Fl Hl F H) {e z len:Nat} {zero:List AV} {ps:List (Nat×Arg)} (hd:al=1->get Hl d=none) (h:exBslice e z zero len ps F H d = .mk v rd wr upd al) (hK:K v rd wr (upd++Hl)):mev Fl Hl d K (.bslice e z zero len ps):=by
 replace h:=XW h; obtain ⟨l,e1,h⟩:=h
 replace h:=Qb h; obtain ⟨h1,h⟩:=h
 obtain ⟨rfl,rfl,rfl,rfl,rfl⟩:=XX h
 simp only [mev,fillSE_eq hr _ _ _ e1]
 exact ⟨Nat.eq_of_beq_eq_true h1,hd rfl,hK⟩
theorem ok_ld (hr:RelS Fl Hl F H) {g:Bool} {n:Nat} {x:Arg} (h:exLd g n x F H d = .mk v rd wr upd al) (hK:K v rd wr (upd++Hl)):mev Fl Hl d K (.ld g n x):=by
 replace h:=Qv hr h; obtain ⟨u,e1,h⟩:=h
 replace h:=vPtr_inv h; rcases h with ⟨i,j,o,e0,h⟩ | ⟨cs,e0,h⟩ <;> subst e0
 ·replace h:=Xy h; obtain ⟨e,z,els,fl,e2,h⟩:=h
  replace h:=XW h; obtain ⟨el,e3,h⟩:=h
  rw [J7] at e3
  obtain ⟨rfl,rfl,rfl,rfl,hc⟩:=ldC_inv h
  simp only [mev,e1,hr.hp _ _ e2,e3]
  rcases hc with ⟨rfl,h1,rfl⟩ | ⟨rfl,h1⟩
  ·rw [if_pos rfl]; exact ⟨h1,hK⟩
  ·rw [if_neg (by simp),h1]; exact hK
 ·obtain ⟨rfl,rfl,rfl,rfl,hc⟩:=ldC_inv h
  simp only [mev,e1]
  rcases hc with ⟨rfl,h1,rfl⟩ | ⟨rfl,h1⟩
  ·rw [if_pos rfl]; exact ⟨by simpa using h1,by simpa using hK⟩
  ·rw [if_neg (by simp),h1]; exact hK
theorem ok_st (hr:RelS Fl Hl F H) {n:Nat} {x y:Arg} (h:exSt n x y F H d = .mk v rd wr upd al) (hK:K v rd wr (upd++Hl)):mev Fl Hl d K (.st n x y):=by
 replace h:=Qv hr h; obtain ⟨u,e1,h⟩:=h
 replace h:=vPtr_inv h; rcases h with ⟨i,j,o,e0,h⟩ | ⟨cs,e0,h⟩ <;> subst e0
 ·replace h:=Qv hr h; obtain ⟨w,e2,h⟩:=h
  replace h:=XW h; obtain ⟨cs,e3,h⟩:=h
  replace h:=Xy h; obtain ⟨e,z,els,fl,e4,h⟩:=h
  replace h:=XW h; obtain ⟨el,e5,h⟩:=h
  rw [J7] at e5
  replace h:=Qb h; obtain ⟨h1,h⟩:=h
  replace h:=Qb h; obtain ⟨h2,h⟩:=h
  obtain ⟨rfl,rfl,rfl,rfl,rfl⟩:=XX h
  simp only [mev,e1,e2,e3,hr.hp _ _ e4,e5]
  exact ⟨Nat.eq_of_beq_eq_true h1,Nat.le_of_ble_eq_true h2,hK⟩
 ·exact (Xk h).elim
theorem ok_nilc (hr:RelS Fl Hl F H) {x:Arg} (h:exNilc x F H d = .mk v rd wr upd al) (hK:K v rd wr (upd++Hl)):mev Fl Hl d K (.nilc x):=by
 replace h:=Qv hr h; obtain ⟨u,e1,h⟩:=h
 replace h:=vPtr_inv h; rcases h with ⟨i,j,o,e0,h⟩ | ⟨cs,e0,h⟩ <;> subst e0 <;> (obtain ⟨rfl,rfl,rfl,rfl,rfl⟩:=Xu h; simp only [mev,e1]; exact hK)
theorem pow_cast (m n:Nat):(Int.ofNat (Nat.pow 2 (min m n)))=(2:Int)^min (Int.ofNat m).toNat n:=by
 simp only [Int.ofNat_eq_natCast,Int.toNat_natCast]; exact Int.natCast_pow 2 _
theorem ok_bin (hr:RelS Fl Hl F H) {op:BinOp} {x y:Arg} (h:exBin op x y F H d = .mk v rd wr upd al) (hK:K v rd wr (upd++Hl)):mev Fl Hl d K (.bin op x y):=by
 replace h:=Qv hr h; obtain ⟨u,e1,h⟩:=h
 replace h:=QV h; obtain ⟨k,a,e0,h⟩:=h; subst e0
 replace h:=Qv hr h; obtain ⟨w,e2,h⟩:=h
 replace h:=QV h; obtain ⟨k',b,e0,h⟩:=h; subst e0
 simp only [mev,e1,e2]
 cases op
 case add=>replace h:=Qb h; obtain ⟨h1,h⟩:=h; obtain ⟨rfl,rfl,rfl,rfl,rfl⟩:=rI_inv h; rw [wrF_eq,iAdd_eq] at hK; exact ⟨JP h1,hK⟩
 case sub=>replace h:=Qb h; obtain ⟨h1,h⟩:=h; obtain ⟨rfl,rfl,rfl,rfl,rfl⟩:=rI_inv h; rw [wrF_eq,iAdd_eq,iNeg_eq,← Int.sub_eq_add_neg] at hK; exact ⟨JP h1,hK⟩
 case mul=>replace h:=Qb h; obtain ⟨h1,h⟩:=h; obtain ⟨rfl,rfl,rfl,rfl,rfl⟩:=rI_inv h; rw [wrF_eq,iMul_eq] at hK; exact ⟨JP h1,hK⟩
 case quo =>
  replace h:=Qb h; obtain ⟨h1,h⟩:=h; replace h:=Qb h; obtain ⟨h2,h⟩:=h; obtain ⟨rfl,rfl,rfl,rfl,rfl⟩:=rI_inv h; rw [wrF_eq] at hK
  rw [nt_eq,iEq_eq] at h2
  exact ⟨JP h1,by simpa using h2,hK⟩
 case rem =>
  replace h:=Qb h; obtain ⟨h1,h⟩:=h; replace h:=Qb h; obtain ⟨h2,h⟩:=h; obtain ⟨rfl,rfl,rfl,rfl,rfl⟩:=rI'_inv h
  rw [nt_eq,iEq_eq] at h2
  exact ⟨JP h1,by simpa using h2,hK⟩
 case shl =>
  replace h:=iN_inv h; obtain ⟨m,e0,h⟩:=h; subst e0; obtain ⟨rfl,rfl,rfl,rfl,rfl⟩:=rI_inv h; rw [wrF_eq,iMul_eq,pow_cast] at hK
  exact ⟨Int.natCast_nonneg m,hK⟩
 case shr =>
  replace h:=iN_inv h; obtain ⟨m,e0,h⟩:=h; subst e0; obtain ⟨rfl,rfl,rfl,rfl,rfl⟩:=rI'_inv h; rw [pow_cast] at hK
  exact ⟨Int.natCast_nonneg m,hK⟩
 case eql=>replace h:=Qb h; obtain ⟨h1,h⟩:=h; obtain ⟨rfl,rfl,rfl,rfl,rfl⟩:=Jc h; rw [iEq_eq] at hK; exact ⟨JP h1,hK⟩
 case neq=>replace h:=Qb h; obtain ⟨h1,h⟩:=h; obtain ⟨rfl,rfl,rfl,rfl,rfl⟩:=Jc h; rw [nt_eq,iEq_eq] at hK; exact ⟨JP h1,hK⟩
 case lss=>replace h:=Qb h; obtain ⟨h1,h⟩:=h; obtain ⟨rfl,rfl,rfl,rfl,rfl⟩:=Jc h; rw [iLt_eq] at hK; exact ⟨JP h1,hK⟩
 case leq=>replace h:=Qb h; obtain ⟨h1,h⟩:=h; obtain ⟨rfl,rfl,rfl,rfl,rfl⟩:=Jc h; rw [iLe_eq] at hK; exact ⟨JP h1,hK⟩
 case gtr=>replace h:=Qb h; obtain ⟨h1,h⟩:=h; obtain ⟨rfl,rfl,rfl,rfl,rfl⟩:=Jc h; rw [iLt_eq] at hK; exact ⟨JP h1,hK⟩
 case geq=>replace h:=Qb h; obtain ⟨h1,h⟩:=h; obtain ⟨rfl,rfl,rfl,rfl,rfl⟩:=Jc h; rw [iLe_eq] at hK; exact ⟨JP h1,hK⟩
 all_goals (replace h:=Qb h; obtain ⟨h1,h⟩:=h; obtain ⟨rfl,rfl,rfl,rfl,rfl⟩:=rI'_inv h; exact ⟨JP h1,hK⟩)
theorem ok_cvt (hr:RelS Fl Hl F H) {k:IntKind} {x:Arg} (h:exCvt k x F H d = .mk v rd wr upd al) (hK:K v rd wr (upd++Hl)):mev Fl Hl d K (.cvt k x):=by
 replace h:=Qv hr h; obtain ⟨u,e1,h⟩:=h
 replace h:=QV h; obtain ⟨k',a,e0,h⟩:=h; subst e0
 obtain ⟨rfl,rfl,rfl,rfl,rfl⟩:=rI_inv h
 rw [wrF_eq] at hK
 simp only [mev,e1]; exact hK
theorem ok_mkfn (hr:RelS Fl Hl F H) {fn:Fn} {caps:List Arg} (h:exMkfn fn caps F H d = .mk v rd wr upd al) (hK:K v rd wr (upd++Hl)):mev Fl Hl d K (.mkfn fn caps):=by
 replace h:=XW h; obtain ⟨vs,e1,h⟩:=h
 obtain ⟨rfl,rfl,rfl,rfl,rfl⟩:=Xu h
 rw [argsE_eq hr] at e1
 simp only [mev,e1]; exact hK
theorem ok_mksl (hr:RelS Fl Hl F H) {e z b:Nat} {zero:List AV} {l c:Arg} (hd:al=1->get Hl d=none) (h:exMksl e z b zero l c F H d = .mk v rd wr upd al) (hK:K v rd wr (upd++Hl)):mev Fl Hl d K (.mksl e z b zero l c):=by
 replace h:=Qv hr h; obtain ⟨u,e1,h⟩:=h
 replace h:=QV h; obtain ⟨k,a,e0,h⟩:=h; subst e0
 replace h:=Qv hr h; obtain ⟨w,e2,h⟩:=h
 replace h:=QV h; obtain ⟨k',a',e0,h⟩:=h; subst e0
 replace h:=iN_inv h; obtain ⟨n,e0,h⟩:=h; subst e0
 replace h:=iN_inv h; obtain ⟨m,e0,h⟩:=h; subst e0
 replace h:=Qb h; obtain ⟨h1,h⟩:=h
 replace h:=Qb h; obtain ⟨h2,h⟩:=h
 replace h:=Qb h; obtain ⟨h3,h⟩:=h
 replace h:=Qb h; obtain ⟨h4,h⟩:=h
 replace h:=Qb h; obtain ⟨h5,h⟩:=h
 replace h:=Qb h; obtain ⟨h6,h⟩:=h
 obtain ⟨rfl,rfl,rfl,rfl,rfl⟩:=XX h
 obtain rfl:=JP h1
 obtain rfl:=JP h2
 have h4:=Nat.le_of_ble_eq_true h4
 have h5:=Nat.le_of_ble_eq_true h5
 have h6:=Nat.le_of_ble_eq_true h6
 simp only [mev,e1,e2]
 refine ⟨Nat.eq_of_beq_eq_true h3,hd rfl,Int.natCast_nonneg n,by simp only [Int.ofNat_eq_natCast]; omega,by simp only [Int.ofNat_eq_natCast]; omega,?_,hK⟩
 show (b:Int)*(m:Int)<=(281474976710656:Nat)
 rw [← Int.natCast_mul]
 exact Int.ofNat_le.2 h6
theorem abE_inv (hr:RelS Fl Hl F H) {dd:Nat} {x:Option Arg} {k:Nat->Re} (h:abE F dd x k = .mk v rd wr upd al):∃ n:Nat,QY Fl dd x=some (n:Int)/\k n = .mk v rd wr upd al:=by
 cases x with
 | none=>exact ⟨dd,rfl,h⟩
 | some x =>
  obtain ⟨u,e1,h⟩:=Qv hr (show oV (QE F x) (fun v=>vInt v fun _ n=>iN n k)=_ from h)
  replace h:=QV h; obtain ⟨k',a,e0,h⟩:=h; subst e0
  replace h:=iN_inv h; obtain ⟨n,e0,h⟩:=h; subst e0
  exact ⟨n,by simp only [QY,e1]; rfl,h⟩
theorem ok_slc (hr:RelS Fl Hl F H) {z:Nat} {x:Arg} {lo hi:Option Arg} (h:exSlc z x lo hi F H d = .mk v rd wr upd al) (hK:K v rd wr (upd++Hl)):mev Fl Hl d K (.slc z x lo hi):=by
 replace h:=Qv hr h; obtain ⟨u,e1,h⟩:=h
 replace h:=vSl_inv h; rcases h with ⟨z',els,e0,h⟩ | ⟨i,j,n,e0,h⟩ | ⟨i,j,o,n,e0,h⟩ | ⟨e0,h⟩ <;> subst e0
 ·replace h:=abE_inv hr h; obtain ⟨l,e2,h⟩:=h
  replace h:=abE_inv hr h; obtain ⟨m,e3,h⟩:=h
  replace h:=Qb h; obtain ⟨h1,h⟩:=h
  replace h:=Qb h; obtain ⟨h2,h⟩:=h
  replace h:=Qb h; obtain ⟨h3,h⟩:=h
  obtain ⟨rfl,rfl,rfl,rfl,rfl⟩:=Xu h
  have h2:=Nat.le_of_ble_eq_true h2
  have h3:=Nat.le_of_ble_eq_true h3
  rw [orB_eq,Bool.or_eq_true] at h1
  have e2':QY Fl 0 lo=some (l:Int):=e2
  simp only [mev,e1,e2',e3]
  exact ⟨h1.imp Nat.eq_of_beq_eq_true isNilL_eq,by omega,by omega,by omega,by simpa using hK⟩
 ·replace h:=abE_inv hr h; obtain ⟨l,e2,h⟩:=h
  replace h:=abE_inv hr h; obtain ⟨m,e3,h⟩:=h
  replace h:=Xy h; obtain ⟨e,z',els,fl,e4,h⟩:=h
  replace h:=Qb h; obtain ⟨h1,h⟩:=h
  replace h:=Qb h; obtain ⟨h2,h⟩:=h
  replace h:=Qb h; obtain ⟨h3,h⟩:=h
  have h2:=Nat.le_of_ble_eq_true h2
  have h3:=Nat.le_of_ble_eq_true h3
  have e2':QY Fl 0 lo=some (l:Int):=e2
  simp only [mev,e1,e2',e3,hr.hp _ _ e4]
  refine ⟨Nat.eq_of_beq_eq_true h1,by omega,by omega,by omega,?_⟩
  rw [QJ] at h
  split at h
  ·rename_i hc
   rw [fN_eq,fN_eq] at h
   obtain ⟨rfl,rfl,rfl,rfl,rfl⟩:=XX h
   rw [orB_eq,nt_eq,Bool.or_eq_true] at hc
   refine .inl ⟨hc.imp (fun h=>by have:=Nat.eq_of_beq_eq_true h; omega) (fun h=>?_),by simpa using hK⟩
   have:l≠m:=fun e=>by subst e; simp [Nat.beq_refl] at h
   omega
  ·rename_i hc
   obtain ⟨rfl,rfl,rfl,rfl,rfl⟩:=XX h
   rw [orB_eq,nt_eq,Bool.or_eq_true,not_or] at hc
   refine .inr ⟨?_,hK⟩
   have:Nat.beq l m=true:=by simpa using hc.2
   have:=Nat.eq_of_beq_eq_true this
   omega
 ·exact (Xk h).elim
 ·replace h:=abE_inv hr h; obtain ⟨l,e2,h⟩:=h
  replace h:=abE_inv hr h; obtain ⟨m,e3,h⟩:=h
  replace h:=Qb h; obtain ⟨h1,h⟩:=h
  replace h:=Qb h; obtain ⟨h2,h⟩:=h
  obtain ⟨rfl,rfl,rfl,rfl,rfl⟩:=Xu h
  have h1:=Nat.eq_of_beq_eq_true h1
  have h2:=Nat.eq_of_beq_eq_true h2
  have e2':QY Fl 0 lo=some (l:Int):=e2
  have e3':QY Fl 0 hi=some (m:Int):=e3
  simp only [mev,e1,e2',e3']
  exact ⟨by omega,by omega,hK⟩
theorem ok_fa (hr:RelS Fl Hl F H) {x:Arg} (h:exFa off x F H d = .mk v rd wr upd al) (hK:K v rd wr (upd++Hl)):mev Fl Hl d K (.fa off x):=by
 replace h:=Qv hr h; obtain ⟨u,e1,h⟩:=h
 replace h:=vPtr_inv h; rcases h with ⟨i,j,o,e0,h⟩ | ⟨cs,e0,h⟩ <;> subst e0
 ·rw [fN_eq] at h; obtain ⟨rfl,rfl,rfl,rfl,rfl⟩:=Xu h; simp only [mev,e1]; exact hK
 ·obtain ⟨rfl,rfl,rfl,rfl,rfl⟩:=Xu h; simp only [mev,e1]; exact hK
theorem ok_fld (hr:RelS Fl Hl F H) {g:Bool} {n:Nat} {x:Arg} (h:exFld g off n x F H d = .mk v rd wr upd al) (hK:K v rd wr (upd++Hl)):mev Fl Hl d K (.fld g off n x):=by
 replace h:=Qv hr h; obtain ⟨u,e1,h⟩:=h
 replace h:=vAgg_inv h; obtain ⟨cs,e0,h⟩:=h; subst e0
 obtain ⟨rfl,rfl,rfl,rfl,hc⟩:=ldC_inv h
 simp only [mev,e1]
 rcases hc with ⟨rfl,h1,rfl⟩ | ⟨rfl,h1⟩
 ·rw [if_pos rfl]; exact ⟨h1,hK⟩
 ·rw [if_neg (by simp),h1]; exact hK
theorem lt_ble {t n:Nat} (h:Nat.ble (t+1) n=true):t<n:=Nat.le_of_ble_eq_true h
theorem ok_ixsl (hr:RelS Fl Hl F H) {z:Nat} {x i:Arg} (h:exIxsl z x i F H d = .mk v rd wr upd al) (hK:K v rd wr (upd++Hl)):mev Fl Hl d K (.ixsl z x i):=by
 replace h:=Qv hr h; obtain ⟨u,e1,h⟩:=h
 replace h:=Qv hr h; obtain ⟨w,e2,h⟩:=h
 replace h:=QV h; obtain ⟨k,a,e0,h⟩:=h; subst e0
 replace h:=iN_inv h; obtain ⟨t,e0,h⟩:=h; subst e0
 have et:(Int.ofNat t).toNat=t:=rfl
 replace h:=vSl_inv h; rcases h with ⟨z',els,e0,h⟩ | ⟨a,j,n,e0,h⟩ | ⟨a,j,o,n,e0,h⟩ | ⟨e0,h⟩ <;> subst e0
 ·replace h:=Qb h; obtain ⟨h1,h⟩:=h
  replace h:=XW h; obtain ⟨el,e3,h⟩:=h
  obtain ⟨rfl,rfl,rfl,rfl,rfl⟩:=Xu h
  rw [J7] at e3
  have hl:=(List.getElem?_eq_some_iff.1 e3).1
  simp only [mev,e1,e2,et,e3]
  exact ⟨Int.natCast_nonneg t,by simp only [Int.ofNat_eq_natCast]; omega,Nat.eq_of_beq_eq_true h1,hK⟩
 ·replace h:=Qb h; obtain ⟨h1,h⟩:=h
  replace h:=Xy h; obtain ⟨e,z',els,fl,e4,h⟩:=h
  replace h:=Qb h; obtain ⟨h2,h⟩:=h
  rw [fN_eq] at h; obtain ⟨rfl,rfl,rfl,rfl,rfl⟩:=XX h
  have h1:=lt_ble h1
  simp only [mev,e1,e2,et,hr.hp _ _ e4]
  exact ⟨Int.natCast_nonneg t,by simp only [Int.ofNat_eq_natCast]; omega,Nat.eq_of_beq_eq_true h2,hK⟩
 ·replace h:=Qb h; obtain ⟨h1,h⟩:=h
  replace h:=Qb h; obtain ⟨h2,h⟩:=h
  rw [fN_eq] at h; obtain ⟨rfl,rfl,rfl,rfl,rfl⟩:=Xu h
  have h1:=lt_ble h1
  simp only [mev,e1,e2,et]
  exact ⟨Int.natCast_nonneg t,by simp only [Int.ofNat_eq_natCast]; omega,Nat.eq_of_beq_eq_true h2,hK⟩
 ·exact (Xk h).elim
theorem ok_ixarr (hr:RelS Fl Hl F H) {len z:Nat} {x i:Arg} (h:exIxarr len z x i F H d = .mk v rd wr upd al) (hK:K v rd wr (upd++Hl)):mev Fl Hl d K (.ixarr len z x i):=by
 replace h:=Qv hr h; obtain ⟨u,e1,h⟩:=h
 replace h:=Qv hr h; obtain ⟨w,e2,h⟩:=h
 replace h:=QV h; obtain ⟨k,a,e0,h⟩:=h; subst e0
 replace h:=iN_inv h; obtain ⟨t,e0,h⟩:=h; subst e0
 have et:(Int.ofNat t).toNat=t:=rfl
 replace h:=Qb h; obtain ⟨h1,h⟩:=h
 have h1:=lt_ble h1
 replace h:=vPtr_inv h; rcases h with ⟨i,j,o,e0,h⟩ | ⟨cs,e0,h⟩ <;> subst e0
 ·rw [fN_eq] at h; obtain ⟨rfl,rfl,rfl,rfl,rfl⟩:=Xu h; simp only [mev,e1,e2,et]
  exact ⟨Int.natCast_nonneg t,by simp only [Int.ofNat_eq_natCast]; omega,hK⟩
 ·obtain ⟨rfl,rfl,rfl,rfl,rfl⟩:=Xu h; simp only [mev,e1,e2,et]
  exact ⟨Int.natCast_nonneg t,by simp only [Int.ofNat_eq_natCast]; omega,hK⟩
theorem ok_ixval (hr:RelS Fl Hl F H) {len z:Nat} {g:Bool} {x i:Arg} (h:exIxval len z g x i F H d = .mk v rd wr upd al) (hK:K v rd wr (upd++Hl)):mev Fl Hl d K (.ixval len z g x i):=by
 replace h:=Qv hr h; obtain ⟨u,e1,h⟩:=h
 replace h:=vAgg_inv h; obtain ⟨cs,e0,h⟩:=h; subst e0
 replace h:=Qv hr h; obtain ⟨w,e2,h⟩:=h
 replace h:=QV h; obtain ⟨k,a,e0,h⟩:=h; subst e0
 replace h:=iN_inv h; obtain ⟨t,e0,h⟩:=h; subst e0
 have et:(Int.ofNat t).toNat=t:=rfl
 replace h:=Qb h; obtain ⟨h1,h⟩:=h
 have h1:=lt_ble h1
 obtain ⟨rfl,rfl,rfl,rfl,hc⟩:=ldC_inv h
 simp only [mev,e1,e2,et]
 refine ⟨Int.natCast_nonneg t,by simp only [Int.ofNat_eq_natCast]; omega,?_⟩
 rcases hc with ⟨rfl,h1,rfl⟩ | ⟨rfl,h1⟩
 ·rw [if_pos rfl]; exact ⟨h1,hK⟩
 ·rw [if_neg (by simp),h1]; exact hK
theorem ok_ext (hr:RelS Fl Hl F H) {x:Arg} {i:Nat} (h:exExt x i F H d = .mk v rd wr upd al) (hK:K v rd wr (upd++Hl)):mev Fl Hl d K (.ext x i):=by
 replace h:=Qv hr h; obtain ⟨u,e1,h⟩:=h
 replace h:=vTup_inv h; obtain ⟨cs,e0,h⟩:=h; subst e0
 replace h:=XW h; obtain ⟨w,e2,h⟩:=h
 obtain ⟨rfl,rfl,rfl,rfl,rfl⟩:=Xu h
 rw [J7] at e2
 simp only [mev,e1,e2]; exact hK
theorem ok_len (hr:RelS Fl Hl F H) {x:Arg} (h:exLen x F H d = .mk v rd wr upd al) (hK:K v rd wr (upd++Hl)):mev Fl Hl d K (.len x):=by
 replace h:=Qv hr h; obtain ⟨u,e1,h⟩:=h
 replace h:=vSl_inv h; rcases h with ⟨z',els,e0,h⟩ | ⟨a,j,n,e0,h⟩ | ⟨a,j,o,n,e0,h⟩ | ⟨e0,h⟩ <;> subst e0 <;>
  (obtain ⟨rfl,rfl,rfl,rfl,rfl⟩:=rN_inv h; simp only [mev,e1]; exact hK)
theorem ok_lenc {n:Nat} (h:exLenc n F H d = .mk v rd wr upd al) (hK:K v rd wr (upd++Hl)):mev Fl Hl d K (.lenc n):=by
 obtain ⟨rfl,rfl,rfl,rfl,rfl⟩:=rN_inv (show rN n=_ from h); simp only [mev]; exact hK
theorem srcE_inv (hr:RelS Fl Hl F H) {z:Nat} {w:AV} {k:List Nat->List (List AV)->Re} (h:srcE H z w k = .mk v rd wr upd al):∃ r news,JH Hl z w=some (r,news)/\k r news = .mk v rd wr upd al:=by
 replace h:=vSl_inv h; rcases h with ⟨z',els,e0,h⟩ | ⟨i,j,n,e0,h⟩ | ⟨i,j,o,n,e0,h⟩ | ⟨e0,h⟩ <;> subst e0
 ·replace h:=Qb h; obtain ⟨h1,h⟩:=h
  rw [orB_eq,Bool.or_eq_true] at h1
  exact ⟨[],els,by simp only [JH]; rw [if_pos (h1.imp Nat.eq_of_beq_eq_true isNilL_eq)],h⟩
 ·replace h:=Xy h; obtain ⟨e,z',els,fl,e4,h⟩:=h
  replace h:=Qb h; obtain ⟨h1,h⟩:=h
  replace h:=Qb h; obtain ⟨h2,h⟩:=h
  exact ⟨[i],_,by simp only [JH,hr.hp _ _ e4]; rw [if_pos ⟨Nat.eq_of_beq_eq_true h1,Nat.le_of_ble_eq_true h2⟩],h⟩
 ·exact (Xk h).elim
 ·exact ⟨[],[],rfl,h⟩
theorem ok_app (hr:RelS Fl Hl F H) {e z b:Nat} {zero:List AV} {s x:Arg} (hd:al=1->get Hl d=none) (h:exApp e z b zero s x F H d = .mk v rd wr upd al) (hK:K v rd wr (upd++Hl)):mev Fl Hl d K (.app e z b zero s x):=by
 replace h:=Qv hr h; obtain ⟨u,e1,h⟩:=h
 replace h:=Qv hr h; obtain ⟨w,e2,h⟩:=h
 replace h:=vSl_inv h; rcases h with ⟨z',els,e0,h⟩ | ⟨i,j,n,e0,h⟩ | ⟨i,j,o,n,e0,h⟩ | ⟨e0,h⟩ <;> subst e0
 ·exact (Xk h).elim
 ·replace h:=Qb h; obtain ⟨h0,h⟩:=h
  obtain rfl:=Nat.eq_of_beq_eq_true h0
  replace h:=Xy h; obtain ⟨e',z',els,fl,e4,h⟩:=h
  replace h:=srcE_inv hr h; obtain ⟨r,news,e5,h⟩:=h
  replace h:=Qb h; obtain ⟨h1,h⟩:=h
  replace h:=Qb h; obtain ⟨h2,h⟩:=h
  replace h:=Qb h; obtain ⟨h3,h⟩:=h
  replace h:=Qb h; obtain ⟨h4,h⟩:=h
  replace h:=Qb h; obtain ⟨h5,h⟩:=h
  replace h:=Qb h; obtain ⟨h6,h⟩:=h
  replace h:=Qb h; obtain ⟨h7,h⟩:=h
  replace h:=Qb h; obtain ⟨h8,h⟩:=h
  rw [fN_eq] at h; obtain ⟨rfl,rfl,rfl,rfl,rfl⟩:=XX h
  rw [nt_eq] at h8
  simp only [mev,e1,e2,hr.hp _ _ e4,e5]
  exact ⟨Nat.eq_of_beq_eq_true h1,hd rfl,Nat.eq_of_beq_eq_true h2,Nat.eq_of_beq_eq_true h3,allLen_spec h4,Nat.le_of_ble_eq_true h5,Nat.le_of_ble_eq_true h6,
   .inl ⟨Nat.eq_of_beq_eq_true h7,by simpa using h8,hK⟩⟩
 ·exact (Xk h).elim
 ·replace h:=srcE_inv hr h; obtain ⟨r,news,e5,h⟩:=h
  replace h:=Qb h; obtain ⟨h1,h⟩:=h
  replace h:=Qb h; obtain ⟨h4,h⟩:=h
  replace h:=Qb h; obtain ⟨h5,h⟩:=h
  replace h:=Qb h; obtain ⟨h6,h⟩:=h
  rw [fN_eq] at h; obtain ⟨rfl,rfl,rfl,rfl,rfl⟩:=XX h
  simp only [mev,e1,e2,e5]
  exact ⟨Nat.eq_of_beq_eq_true h1,hd rfl,allLen_spec h4,Nat.le_of_ble_eq_true h5,Nat.le_of_ble_eq_true h6,hK⟩
theorem ok_mn (hr:RelS Fl Hl F H) {x y:Arg} (h:exMn x y F H d = .mk v rd wr upd al) (hK:K v rd wr (upd++Hl)):mev Fl Hl d K (.mn x y):=by
 replace h:=Qv hr h; obtain ⟨u,e1,h⟩:=h
 replace h:=QV h; obtain ⟨k,a,e0,h⟩:=h; subst e0
 replace h:=Qv hr h; obtain ⟨w,e2,h⟩:=h
 replace h:=QV h; obtain ⟨k',b,e0,h⟩:=h; subst e0
 simp only [mev,e1,e2]
 rw [QJ,iLe_eq] at h
 split at h
 ·rename_i hc; obtain ⟨rfl,rfl,rfl,rfl,rfl⟩:=Xu h; rw [Int.min_eq_left (of_decide_eq_true hc)]; exact hK
 ·rename_i hc; obtain ⟨rfl,rfl,rfl,rfl,rfl⟩:=Xu h
  have hc:¬ a<=b:=fun h=>hc (decide_eq_true h)
  rw [Int.min_eq_right (by omega)]; exact hK
theorem ok_mx (hr:RelS Fl Hl F H) {x y:Arg} (h:exMx x y F H d = .mk v rd wr upd al) (hK:K v rd wr (upd++Hl)):mev Fl Hl d K (.mx x y):=by
 replace h:=Qv hr h; obtain ⟨u,e1,h⟩:=h
 replace h:=QV h; obtain ⟨k,a,e0,h⟩:=h; subst e0
 replace h:=Qv hr h; obtain ⟨w,e2,h⟩:=h
 replace h:=QV h; obtain ⟨k',b,e0,h⟩:=h; subst e0
 simp only [mev,e1,e2]
 rw [QJ,iLe_eq] at h
 split at h
 ·rename_i hc; obtain ⟨rfl,rfl,rfl,rfl,rfl⟩:=Xu h; rw [Int.max_eq_right (of_decide_eq_true hc)]; exact hK
 ·rename_i hc; obtain ⟨rfl,rfl,rfl,rfl,rfl⟩:=Xu h
  have hc:¬ a<=b:=fun h=>hc (decide_eq_true h)
  rw [Int.max_eq_left (by omega)]; exact hK
theorem ok_mn3 (hr:RelS Fl Hl F H) {x y z:Arg} (h:exMn3 x y z F H d = .mk v rd wr upd al) (hK:K v rd wr (upd++Hl)):mev Fl Hl d K (.mn3 x y z):=by
 replace h:=Qv hr h; obtain ⟨u,e1,h⟩:=h
 replace h:=QV h; obtain ⟨k,a,e0,h⟩:=h; subst e0
 replace h:=Qv hr h; obtain ⟨w,e2,h⟩:=h
 replace h:=QV h; obtain ⟨k',b,e0,h⟩:=h; subst e0
 replace h:=Qv hr h; obtain ⟨w,e3,h⟩:=h
 replace h:=QV h; obtain ⟨k',b,e0,h⟩:=h; subst e0
 obtain ⟨rfl,rfl,rfl,rfl,rfl⟩:=rI'_inv h
 simp only [mev,e1,e2,e3]; exact hK
theorem ok_mx3 (hr:RelS Fl Hl F H) {x y z:Arg} (h:exMx3 x y z F H d = .mk v rd wr upd al) (hK:K v rd wr (upd++Hl)):mev Fl Hl d K (.mx3 x y z):=by
 replace h:=Qv hr h; obtain ⟨u,e1,h⟩:=h
 replace h:=QV h; obtain ⟨k,a,e0,h⟩:=h; subst e0
 replace h:=Qv hr h; obtain ⟨w,e2,h⟩:=h
 replace h:=QV h; obtain ⟨k',b,e0,h⟩:=h; subst e0
 replace h:=Qv hr h; obtain ⟨w,e3,h⟩:=h
 replace h:=QV h; obtain ⟨k',b,e0,h⟩:=h; subst e0
 obtain ⟨rfl,rfl,rfl,rfl,rfl⟩:=rI'_inv h
 simp only [mev,e1,e2,e3]; exact hK
theorem ok_beq (hr:RelS Fl Hl F H) {x y:Arg} (h:exBeq neg x y F H d = .mk v rd wr upd al) (hK:K v rd wr (upd++Hl)):mev Fl Hl d K (.beq neg x y):=by
 replace h:=Qv hr h; obtain ⟨u,e1,h⟩:=h
 replace h:=vBool_inv h; obtain ⟨a,e0,h⟩:=h; subst e0
 replace h:=Qv hr h; obtain ⟨w,e2,h⟩:=h
 replace h:=vBool_inv h; obtain ⟨b,e0,h⟩:=h; subst e0
 obtain ⟨rfl,rfl,rfl,rfl,rfl⟩:=Jc h
 simp only [mev,e1,e2]
 have:nt (xorB neg (xorB a b))=(neg != (a == b)):=by cases neg <;> cases a <;> cases b <;> rfl
 rw [this] at hK; exact hK
theorem eqIL_eq:∀ (a b:List Int),eqIL a b=decide (a=b)
 | [],[]=>rfl
 | [],_::_=>rfl
 | _::_,[]=>rfl
 | x::a,y::b=>by
  show Q6 (iEq x y) (eqIL a b) false=_
  rw [QJ,iEq_eq,eqIL_eq a b]
  by_cases h:x=y
  ·subst h; simp
  ·simp [h]
theorem ok_aeq (hr:RelS Fl Hl F H) {n:Nat} {x y:Arg} (h:exAeq neg n x y F H d = .mk v rd wr upd al) (hK:K v rd wr (upd++Hl)):mev Fl Hl d K (.aeq neg n x y):=by
 replace h:=Qv hr h; obtain ⟨u,e1,h⟩:=h
 replace h:=vAgg_inv h; obtain ⟨as,e0,h⟩:=h; subst e0
 replace h:=Qv hr h; obtain ⟨w,e2,h⟩:=h
 replace h:=vAgg_inv h; obtain ⟨bs,e0,h⟩:=h; subst e0
 replace h:=XW h; obtain ⟨la,e3,h⟩:=h
 replace h:=XW h; obtain ⟨lb,e4,h⟩:=h
 replace h:=Qb h; obtain ⟨h1,h⟩:=h
 replace h:=Qb h; obtain ⟨h2,h⟩:=h
 obtain ⟨rfl,rfl,rfl,rfl,rfl⟩:=Jc h
 rw [xorB_eq,eqIL_eq] at hK
 simp only [mev,e1,e2,e3,e4]
 exact ⟨Nat.eq_of_beq_eq_true h1,Nat.eq_of_beq_eq_true h2,hK⟩
theorem ok_mkif (hr:RelS Fl Hl F H) {t:Nat} {x:Arg} (h:exMkif t x F H d = .mk v rd wr upd al) (hK:K v rd wr (upd++Hl)):mev Fl Hl d K (.mkif t x):=by
 replace h:=Qv hr h; obtain ⟨u,e1,h⟩:=h
 replace h:=Qb h; obtain ⟨h1,h⟩:=h
 obtain ⟨rfl,rfl,rfl,rfl,rfl⟩:=Xu h
 simp only [mev,e1]; exact ⟨h1,hK⟩
theorem ok_mkbm (hr:RelS Fl Hl F H) {t:String} {x:Arg} (h:exMkbm t x F H d = .mk v rd wr upd al) (hK:K v rd wr (upd++Hl)):mev Fl Hl d K (.mkbm t x):=by
 replace h:=Qv hr h; obtain ⟨u,e1,h⟩:=h
 replace h:=Qb h; obtain ⟨h1,h⟩:=h
 obtain ⟨rfl,rfl,rfl,rfl,rfl⟩:=Xu h
 simp only [mev,e1]; exact ⟨h1,hK⟩
theorem ok_ifnil (hr:RelS Fl Hl F H) {x:Arg} (h:exIfnil neg x F H d = .mk v rd wr upd al) (hK:K v rd wr (upd++Hl)):mev Fl Hl d K (.ifnil neg x):=by
 replace h:=Qv hr h; obtain ⟨u,e1,h⟩:=h
 replace h:=vIf_inv h; rcases h with ⟨e0,h⟩ | ⟨t,w,e0,h⟩ <;> subst e0
 ·obtain ⟨rfl,rfl,rfl,rfl,rfl⟩:=Jc h; rw [nt_eq] at hK; simp only [mev,e1]; exact hK
 ·obtain ⟨rfl,rfl,rfl,rfl,rfl⟩:=Jc h; simp only [mev,e1]; exact hK
theorem ok_mkbnd (hr:RelS Fl Hl F H) {f:Nat} {x:Arg} (h:exMkbnd f x F H d = .mk v rd wr upd al) (hK:K v rd wr (upd++Hl)):mev Fl Hl d K (.mkbnd f x):=by
 replace h:=Qv hr h; obtain ⟨u,e1,h⟩:=h
 obtain ⟨rfl,rfl,rfl,rfl,rfl⟩:=Xu h
 simp only [mev,e1]; exact hK
theorem ok_slen (hr:RelS Fl Hl F H) {x:Arg} (h:exSlen x F H d = .mk v rd wr upd al) (hK:K v rd wr (upd++Hl)):mev Fl Hl d K (.slen x):=by
 replace h:=Qv hr h; obtain ⟨u,e1,h⟩:=h
 replace h:=vStr_inv h; obtain ⟨s,e0,h⟩:=h; subst e0
 obtain ⟨rfl,rfl,rfl,rfl,rfl⟩:=rN_inv h; simp only [mev,e1]; exact hK
theorem ok_sidx (hr:RelS Fl Hl F H) {x i:Arg} (h:exSidx x i F H d = .mk v rd wr upd al) (hK:K v rd wr (upd++Hl)):mev Fl Hl d K (.sidx x i):=by
 replace h:=Qv hr h; obtain ⟨u,e1,h⟩:=h
 replace h:=vStr_inv h; obtain ⟨s,e0,h⟩:=h; subst e0
 replace h:=Qv hr h; obtain ⟨w,e2,h⟩:=h
 replace h:=QV h; obtain ⟨k,a,e0,h⟩:=h; subst e0
 replace h:=iN_inv h; obtain ⟨t,e0,h⟩:=h; subst e0
 have et:(Int.ofNat t).toNat=t:=rfl
 replace h:=XW h; obtain ⟨b,e3,h⟩:=h
 obtain ⟨rfl,rfl,rfl,rfl,rfl⟩:=rI'_inv h
 rw [J7] at e3
 simp only [mev,e1,e2,et,e3]; exact ⟨Int.natCast_nonneg t,hK⟩
theorem ok_stake (hr:RelS Fl Hl F H) {x i:Arg} (h:exStake x i F H d = .mk v rd wr upd al) (hK:K v rd wr (upd++Hl)):mev Fl Hl d K (.stake x i):=by
 replace h:=Qv hr h; obtain ⟨u,e1,h⟩:=h
 replace h:=vStr_inv h; obtain ⟨s,e0,h⟩:=h; subst e0
 replace h:=Qv hr h; obtain ⟨w,e2,h⟩:=h
 replace h:=QV h; obtain ⟨k,a,e0,h⟩:=h; subst e0
 replace h:=iN_inv h; obtain ⟨t,e0,h⟩:=h; subst e0
 have et:(Int.ofNat t).toNat=t:=rfl
 replace h:=Qb h; obtain ⟨h1,h⟩:=h
 have h1:=Nat.le_of_ble_eq_true h1
 obtain ⟨rfl,rfl,rfl,rfl,rfl⟩:=Xu h
 simp only [mev,e1,e2,et]; exact ⟨Int.natCast_nonneg t,by simp only [Int.ofNat_eq_natCast]; omega,hK⟩
theorem ok_sdrop (hr:RelS Fl Hl F H) {x i:Arg} (h:exSdrop x i F H d = .mk v rd wr upd al) (hK:K v rd wr (upd++Hl)):mev Fl Hl d K (.sdrop x i):=by
 replace h:=Qv hr h; obtain ⟨u,e1,h⟩:=h
 replace h:=vStr_inv h; obtain ⟨s,e0,h⟩:=h; subst e0
 replace h:=Qv hr h; obtain ⟨w,e2,h⟩:=h
 replace h:=QV h; obtain ⟨k,a,e0,h⟩:=h; subst e0
 replace h:=iN_inv h; obtain ⟨t,e0,h⟩:=h; subst e0
 have et:(Int.ofNat t).toNat=t:=rfl
 replace h:=Qb h; obtain ⟨h1,h⟩:=h
 have h1:=Nat.le_of_ble_eq_true h1
 obtain ⟨rfl,rfl,rfl,rfl,rfl⟩:=Xu h
 simp only [mev,e1,e2,et]; exact ⟨Int.natCast_nonneg t,by simp only [Int.ofNat_eq_natCast]; omega,hK⟩
theorem ok_seq (hr:RelS Fl Hl F H) {x y:Arg} (h:exSeq neg x y F H d = .mk v rd wr upd al) (hK:K v rd wr (upd++Hl)):mev Fl Hl d K (.seq neg x y):=by
 replace h:=Qv hr h; obtain ⟨u,e1,h⟩:=h
 replace h:=vStr_inv h; obtain ⟨s,e0,h⟩:=h; subst e0
 replace h:=Qv hr h; obtain ⟨w,e2,h⟩:=h
 replace h:=vStr_inv h; obtain ⟨t,e0,h⟩:=h; subst e0
 obtain ⟨rfl,rfl,rfl,rfl,rfl⟩:=Jc h
 simp only [mev,e1,e2]; exact hK
theorem ok_mkmap (hd:al=1->get Hl d=none) (h:exMkmap F H d = .mk v rd wr upd al) (hK:K v rd wr (upd++Hl)):mev Fl Hl d K .mkmap:=by
 obtain ⟨rfl,rfl,rfl,rfl,rfl⟩:=XX h
 exact ⟨hd rfl,hK⟩
theorem allLenI_spec {z:Nat}:∀ {l:List (List Int)},allLenI z l=true->∀ el∈l,el.length=z
 | [],_,el,h=>by cases h
 | e::r,h,el,he=>by
  have h:Q6 (Nat.beq e.length z) (allLenI z r) false=true:=h
  rw [QJ] at h
  split at h
  ·rename_i h1
   rcases List.mem_cons.1 he with rfl | he
   ·exact Nat.eq_of_beq_eq_true h1
   ·exact allLenI_spec h el he
  ·cases h
theorem memIL_eq (a:List Int):∀ l:List (List Int),memIL a l=decide (a∈l)
 | []=>rfl
 | x::l=>by
  show Q6 (eqIL a x) true (memIL a l)=_
  rw [QJ,eqIL_eq,memIL_eq a l]
  by_cases h:a=x
  ·subst h; simp
  ·simp [h]
theorem ok_mapadd (hr:RelS Fl Hl F H) {m k y:Arg} (h:exMapadd nk m k y F H d = .mk v rd wr upd al) (hK:K v rd wr (upd++Hl)):mev Fl Hl d K (.mapadd nk m k y):=by
 replace h:=Qv hr h; obtain ⟨u,e1,h⟩:=h
 replace h:=vMp_inv h; obtain ⟨i,e0,h⟩:=h; subst e0
 replace h:=Qv hr h; obtain ⟨w,e2,h⟩:=h
 replace h:=vAgg_inv h; obtain ⟨cs,e0,h⟩:=h; subst e0
 replace h:=Qv hr h; obtain ⟨w,e3,h⟩:=h
 replace h:=vBool_inv h; obtain ⟨t,e0,h⟩:=h; subst e0
 replace h:=Qb h; obtain ⟨e0,h⟩:=h; subst e0
 replace h:=obMset_inv h; obtain ⟨ks,e4,h⟩:=h
 replace h:=XW h; obtain ⟨l,e5,h⟩:=h
 replace h:=Qb h; obtain ⟨h1,h⟩:=h
 replace h:=Qb h; obtain ⟨h2,h⟩:=h
 replace h:=Qb h; obtain ⟨h3,h⟩:=h
 obtain ⟨rfl,rfl,rfl,rfl,rfl⟩:=XX h
 rw [nt_eq,memIL_eq] at h3
 simp only [mev,e1,e2,e3,hr.hp _ _ e4,e5]
 exact ⟨Nat.eq_of_beq_eq_true h1,allLenI_spec h2,by simpa using h3,hK⟩
theorem ok_mhas (hr:RelS Fl Hl F H) {m k:Arg} (h:exMhas nk m k F H d = .mk v rd wr upd al) (hK:K v rd wr (upd++Hl)):mev Fl Hl d K (.mhas nk m k):=by
 replace h:=Qv hr h; obtain ⟨u,e1,h⟩:=h
 replace h:=vMp_inv h; obtain ⟨i,e0,h⟩:=h; subst e0
 replace h:=Qv hr h; obtain ⟨w,e2,h⟩:=h
 replace h:=vAgg_inv h; obtain ⟨cs,e0,h⟩:=h; subst e0
 replace h:=obMset_inv h; obtain ⟨ks,e4,h⟩:=h
 replace h:=XW h; obtain ⟨l,e5,h⟩:=h
 replace h:=Qb h; obtain ⟨h1,h⟩:=h
 replace h:=Qb h; obtain ⟨h2,h⟩:=h
 simp only [mev,e1,e2,hr.hp _ _ e4,e5]
 refine ⟨Nat.eq_of_beq_eq_true h1,allLenI_spec h2,?_⟩
 rw [← memIL_eq]
 cases hm:memIL l ks <;> (rw [hm] at h; have h:Re.mk _ [i] [] [] 0=_:=h; obtain ⟨rfl,rfl,rfl,rfl,rfl⟩:=XX h; exact hK)
theorem ok_isnil (hr:RelS Fl Hl F H) {sl:Bool} {x:Arg} (h:exIsnil sl neg x F H d = .mk v rd wr upd al) (hK:K v rd wr (upd++Hl)):mev Fl Hl d K (.isnil sl neg x):=by
 replace h:=Qv hr h; obtain ⟨u,e1,h⟩:=h
 simp only [mev,e1]
 cases sl with
 | true =>
  replace h:=vNil_inv (show vNil u _ _ _ _ _ _=_ from h); rcases h with ⟨e0,h⟩ | ⟨z',els,e0,h⟩ | ⟨i,j,n,e0,h⟩ | ⟨e0,h⟩ | ⟨i,j,o,e0,h⟩ | ⟨cs,e0,h⟩ <;> subst e0
  ·obtain ⟨rfl,rfl,rfl,rfl,rfl⟩:=Jc h; rw [nt_eq] at hK; exact hK
  ·cases els with
   | nil=>exact (Xk h).elim
   | cons e r=>obtain ⟨rfl,rfl,rfl,rfl,rfl⟩:=Jc (show rB neg=_ from h); exact hK
  ·cases n with
   | zero=>exact (Xk h).elim
   | succ n=>obtain ⟨rfl,rfl,rfl,rfl,rfl⟩:=Jc (show rB neg=_ from h); exact hK
  ·exact (Xk h).elim
  ·exact (Xk h).elim
  ·exact (Xk h).elim
 | false =>
  replace h:=vNil_inv (show vNil u _ _ _ _ _ _=_ from h); rcases h with ⟨e0,h⟩ | ⟨z',els,e0,h⟩ | ⟨i,j,n,e0,h⟩ | ⟨e0,h⟩ | ⟨i,j,o,e0,h⟩ | ⟨cs,e0,h⟩ <;> subst e0
  ·exact (Xk h).elim
  ·exact (Xk h).elim
  ·exact (Xk h).elim
  ·obtain ⟨rfl,rfl,rfl,rfl,rfl⟩:=Jc h; rw [nt_eq] at hK; exact hK
  ·obtain ⟨rfl,rfl,rfl,rfl,rfl⟩:=Jc h; exact hK
  ·obtain ⟨rfl,rfl,rfl,rfl,rfl⟩:=Jc h; exact hK
theorem ok_un (hr:RelS Fl Hl F H) {op:UnOp} {x:Arg} (h:exUn op x F H d = .mk v rd wr upd al) (hK:K v rd wr (upd++Hl)):mev Fl Hl d K (.un op x):=by
 replace h:=Qv hr h; obtain ⟨u,e1,h⟩:=h
 cases op
 case neg =>
  replace h:=QV (show vInt u _=_ from h); obtain ⟨k,n,e0,h⟩:=h; subst e0
  obtain ⟨rfl,rfl,rfl,rfl,rfl⟩:=rI_inv h
  rw [wrF_eq,iNeg_eq,← Int.zero_sub] at hK
  simp only [mev,e1]; exact hK
 case xor =>
  replace h:=QV (show vInt u _=_ from h); obtain ⟨k,n,e0,h⟩:=h; subst e0
  obtain ⟨rfl,rfl,rfl,rfl,rfl⟩:=rI'_inv h
  simp only [mev,e1]; exact hK
 case not =>
  replace h:=vBool_inv (show vBool u _=_ from h); obtain ⟨b,e0,h⟩:=h; subst e0
  obtain ⟨rfl,rfl,rfl,rfl,rfl⟩:=Jc h
  rw [nt_eq] at hK
  simp only [mev,e1]; exact hK
 case plus=>exact (Xk h).elim
theorem ok_slst (hr:RelS Fl Hl F H) {n z:Nat} {x:Arg} (h:exSlst n z x F H d = .mk v rd wr upd al) (hK:K v rd wr (upd++Hl)):mev Fl Hl d K (.slst n z x):=by
 replace h:=Qv hr h; obtain ⟨u,e1,h⟩:=h
 replace h:=vPtr_inv h; rcases h with ⟨i,j,o,e0,h⟩ | ⟨cs,e0,h⟩ <;> subst e0
 ·replace h:=Qb h; obtain ⟨h1,h⟩:=h
  replace h:=Qb h; obtain ⟨h2,h⟩:=h
  replace h:=Xy h; obtain ⟨e,z',els,fl,e4,h⟩:=h
  replace h:=XW h; obtain ⟨el,e5,h⟩:=h
  rw [J7] at e5
  replace h:=Qb h; obtain ⟨h3,h⟩:=h
  replace h:=Qb h; obtain ⟨h4,h⟩:=h
  replace h:=Qb h; obtain ⟨h5,h⟩:=h
  replace h:=Qb h; obtain ⟨h6,h⟩:=h
  obtain ⟨rfl,rfl,rfl,rfl,rfl⟩:=XX h
  obtain rfl:=Nat.eq_of_beq_eq_true h1
  obtain rfl:=Nat.eq_of_beq_eq_true h2
  have h3:=Nat.eq_of_beq_eq_true h3
  obtain rfl:els=[el]:=by
   cases els with
   | nil=>cases h3
   | cons q l =>
    have hq:some q=some el:=e5
    injection hq with hq; subst hq
    simp at h3; rw [h3]
  subst h4
  rw [nt_eq] at h6
  simp only [mev,e1,hr.hp _ _ e4]
  exact ⟨Nat.eq_of_beq_eq_true h5,(fun hn=>by subst hn; cases h6),hK⟩
 ·exact (Xk h).elim
theorem ok_slarr (hr:RelS Fl Hl F H) {n:Nat} {x:Arg} {lo hi:Option Arg} (h:exSlarr n x lo hi F H d = .mk v rd wr upd al) (hK:K v rd wr (upd++Hl)):mev Fl Hl d K (.slarr n x lo hi):=by
 replace h:=Qv hr h; obtain ⟨u,e1,h⟩:=h
 replace h:=vPtr_inv h; rcases h with ⟨i,j,o,e0,h⟩ | ⟨cs,e0,h⟩ <;> subst e0
 ·replace h:=abE_inv hr h; obtain ⟨l,e2,h⟩:=h
  replace h:=abE_inv hr h; obtain ⟨m,e3,h⟩:=h
  replace h:=Qb h; obtain ⟨h1,h⟩:=h
  replace h:=Qb h; obtain ⟨h2,h⟩:=h
  replace h:=Qb h; obtain ⟨h3,h⟩:=h
  rw [fN_eq,fN_eq] at h
  obtain ⟨rfl,rfl,rfl,rfl,rfl⟩:=Xu h
  have h2:=Nat.le_of_ble_eq_true h2
  have h3:=Nat.le_of_ble_eq_true h3
  have e2':QY Fl 0 lo=some (l:Int):=e2
  rw [orB_eq,nt_eq,Bool.or_eq_true] at h1
  simp only [mev,e1,e2',e3]
  refine ⟨by omega,h1.imp (fun h=>by have:=Nat.eq_of_beq_eq_true h; omega) (fun h=>?_),by omega,by omega,by simpa using hK⟩
  have:¬ m<=l:=fun e=>by rw [Nat.ble_eq_true_of_le e] at h; cases h
  omega
 ·replace h:=abE_inv hr h; obtain ⟨l,e2,h⟩:=h
  replace h:=abE_inv hr h; obtain ⟨m,e3,h⟩:=h
  replace h:=Qb h; obtain ⟨h1,h⟩:=h
  replace h:=Qb h; obtain ⟨h2,h⟩:=h
  replace h:=Qb h; obtain ⟨h3,h⟩:=h
  replace h:=Qb h; obtain ⟨h4,h⟩:=h
  obtain ⟨rfl,rfl,rfl,rfl,rfl⟩:=Xu h
  have h1:=Nat.eq_of_beq_eq_true h1
  have h2:=Nat.eq_of_beq_eq_true h2
  have e2':QY Fl 0 lo=some (l:Int):=e2
  rw [nt_eq] at h4
  simp only [mev,e1,e2',e3]
  refine ⟨by omega,by omega,Nat.le_of_ble_eq_true h3,fun e=>by subst e; simp [Nat.beq_refl] at h4,hK⟩
theorem ok_clr (hr:RelS Fl Hl F H) {z:Nat} {x:Arg} (h:exClr z x F H d = .mk v rd wr upd al) (hK:K v rd wr (upd++Hl)):mev Fl Hl d K (.clr z x):=by
 replace h:=Qv hr h; obtain ⟨u,e1,h⟩:=h
 replace h:=vSl_inv h; rcases h with ⟨z',els,e0,h⟩ | ⟨i,j,n,e0,h⟩ | ⟨i,j,o,n,e0,h⟩ | ⟨e0,h⟩ <;> subst e0
 ·exact (Xk h).elim
 ·replace h:=Xy h; obtain ⟨e,z',els,fl,e4,h⟩:=h
  replace h:=Qb h; obtain ⟨h1,h⟩:=h
  replace h:=Qb h; obtain ⟨h2,h⟩:=h
  replace h:=Qb h; obtain ⟨h3,h⟩:=h
  obtain ⟨rfl,rfl,rfl,rfl,rfl⟩:=XX h
  simp only [mev,e1,hr.hp _ _ e4]
  exact ⟨Nat.eq_of_beq_eq_true h1,Nat.le_of_ble_eq_true h2,Nat.le_of_ble_eq_true h3,hK⟩
 ·exact (Xk h).elim
 ·exact (Xk h).elim
theorem ok_cpy (hr:RelS Fl Hl F H) {x y:Arg} (h:exCpy x y F H d = .mk v rd wr upd al) (hK:K v rd wr (upd++Hl)):mev Fl Hl d K (.cpy x y):=by
 replace h:=Qv hr h; obtain ⟨u,e1,h⟩:=h
 replace h:=Qv hr h; obtain ⟨w,e2,h⟩:=h
 replace h:=vSl_inv h; rcases h with ⟨z',els,e0,h⟩ | ⟨i,j,n,e0,h⟩ | ⟨i,j,o,n,e0,h⟩ | ⟨e0,h⟩ <;> subst e0
 ·exact (Xk h).elim
 ·replace h:=Xy h; obtain ⟨e,z',els,fl,e4,h⟩:=h
  replace h:=Qb h; obtain ⟨h1,h⟩:=h
  replace h:=srcE_inv hr h; obtain ⟨r,news,e5,h⟩:=h
  replace h:=Qb h; obtain ⟨h2,h⟩:=h
  replace h:=Qb h; obtain ⟨h3,h⟩:=h
  replace h:=Qb h; obtain ⟨h4,h⟩:=h
  replace h:=Qb h; obtain ⟨h5,h⟩:=h
  replace h:=Qb h; obtain ⟨h6,h⟩:=h
  rw [fN_eq] at h
  obtain ⟨rfl,rfl,rfl,rfl,rfl⟩:=XX h
  rw [nt_eq] at h3
  simp only [mev,e1,e2,hr.hp _ _ e4,e5]
  exact ⟨Nat.eq_of_beq_eq_true h1,allLen_spec h2,by simpa using h3,Nat.le_of_ble_eq_true h4,Nat.le_of_ble_eq_true h5,Nat.le_of_ble_eq_true h6,hK⟩
 ·replace h:=Xy h; obtain ⟨e,z',els,fl,e4,h⟩:=h
  replace h:=srcE_inv hr h; obtain ⟨r,news,e5,h⟩:=h
  replace h:=XW h; obtain ⟨el,e6,h⟩:=h
  rw [J7] at e6
  replace h:=Qb h; obtain ⟨h2,h⟩:=h
  replace h:=Qb h; obtain ⟨h3,h⟩:=h
  replace h:=Qb h; obtain ⟨h4,h⟩:=h
  replace h:=Qb h; obtain ⟨h5,h⟩:=h
  rw [fN_eq] at h
  obtain ⟨rfl,rfl,rfl,rfl,rfl⟩:=XX h
  rw [nt_eq] at h3
  simp only [mev,e1,e2,hr.hp _ _ e4,e5,e6]
  exact ⟨allLen_spec h2,by simpa using h3,Nat.le_of_ble_eq_true h4,Nat.le_of_ble_eq_true h5,hK⟩
 ·exact (Xk h).elim
end
end Go.Proofs.YthmbjgnjfjjibaaGreatDoor
namespace Go.Proofs.YthmbjgnjfjjibaaGreatDoor
open Go.RowKit
set_option maxRecDepth 100000
variable {name:String}
section
variable {P:Program} {N:Nat} {ops:Array Oper} {o:Oper} {mo:MOper} {F:Fr} {H:Hp}
theorem VR.bm_inv {w:World} {S:Nat->Prop} {ρ:Rho} {t:Nat} {v:AV} {c:Value} (h:VR w S ρ (.bm name (.ifc t v)) c):∃ cx,c = .func (.method name) #[.iface t cx] #[]/\VR w S ρ v cx:=by
 cases h with
 | cl h=>cases h with
  | bm _ _ c h=>cases h with
   | ifc _ _ cx h=>exact ⟨cx,rfl,.cl h⟩
theorem enters_bm (hc:QN P N ops o=some mo) {g:Arg} {as:List Arg} (hop:mo.op = .callv g as) {t:TypeId} {v:AV} {vs:List AV} {f:FuncId} (hg:Qe F g=some (.bm name (.ifc t v))) (hm:methF P t name=some f) (hent:Xj P f=true) (hv:XT F as=some vs) :
  Enters P o mo F f (v::vs):=by
 obtain ⟨e1,_⟩:=Q3 hc
 rw [hop] at e1
 intro S ρ a w hF
 cases ho:o.op with
 | call c =>
  rw [ho] at e1
  simp only [Q7,J0] at e1
  split at e1
  ·split at e1
   ·split at e1 <;> simp at e1
   ·cases e1
  ·rename_i tt hcal
   split at e1
   ·rename_i as' has
    injection e1 with e1
    injection e1 with e2 e3
    subst e2 e3
    obtain ⟨q1,q2⟩:=cargs_ok hF _ _ _ has (fun t ht=>by simp [MOper.slots,hop,MOp.slots,ht]) hv
    have hfv:=Qd (x:=.tmp tt) (r:=.t tt) rfl hF (fun k hk=>List.mem_append_left _ (by rw [hop]; exact List.mem_append_left _ hk)) hg
    obtain ⟨cx,e4,e5⟩:=hfv.bm_inv
    obtain ⟨k,hk⟩:∃ k,P.types.size+Made.depth=k+1:=⟨P.types.size+99,rfl⟩
    have earr:c.args.map a.eval=(c.args.toList.map a.eval).toArray:=by rw [← Array.toList_map,Array.toArray_toList]
    refine ⟨#[cx]++c.args.map a.eval,?_,by rw [earr]; simp at q1; simp [q1],fun j u hj=>?_⟩
    ·have hext:(#[Value.iface t cx]++c.args.map a.eval).extract 1 (#[Value.iface t cx]++c.args.map a.eval).size=c.args.map a.eval:=by
      apply Array.ext'
      simp [List.take_of_length_le]
     simp only [execOp,ho,Sem.run_bind,resolve,hcal,Sem.run_pure,Result.andThen_ok,e4,Deferred.ofValue,invoke]
     simp only [Array.getElem?_append,callMethod,hext]
     simp [Sem.run_bind,run_program,hk,run_method hm,XU hent]
    ·cases j with
     | zero =>
      simp at hj; subst hj
      rw [Array.getD_eq_getD_getElem?,Array.getElem?_append_left (by simp)]
      simpa using e5
     | succ j =>
      have:=q2 j u (by simpa using hj)
      rw [earr]
      rw [Array.getD_eq_getD_getElem?] at this ⊢
      rw [Array.getElem?_append_right (by simp)]
      simpa using this
   ·cases e1
  all_goals (repeat' split at e1) <;> simp at e1
 | _=>rw [ho] at e1; simp only [Q7,J2] at e1; (repeat' split at e1) <;> first | contradiction | (unfold JW at e1; (repeat' split at e1) <;> (cases e1; done)) | (cases e1; done) | (obtain ⟨r,_,e2⟩:=map_some e1; cases e2)
end
-- drawn regions
def FpLe (a b:Fp):Prop:=(∀ i,i∈a.1->i∈b.1)/\(∀ i,i∈a.2->i∈b.2)
inductive FpsLe:List Fp->List Fp->Prop where
 | nil:FpsLe [] []
 | cons {a b:Fp} {l m:List Fp} (h:FpLe a b) (hs:FpsLe l m):FpsLe (a::l) (b::m)
theorem FpsLe.at_ {l m:List Fp} (h:FpsLe l m):l.length=m.length/\∀ (j:Nat) (a:Fp),l[j]?=some a->∃ b,m[j]?=some b/\FpLe a b:=by
 induction h with
 | nil=>exact ⟨rfl,fun j a h=>by simp at h⟩
 | cons h _ ih =>
  refine ⟨by simp [ih.1],fun j a hj=>?_⟩
  cases j with
  | zero=>simp at hj; subst hj; exact ⟨_,rfl,h⟩
  | succ j=>simpa using ih.2 j a (by simpa using hj)
theorem J8 (a b:Bool):QM a b=(a&&b):=by cases a <;> rfl
theorem memB_eq (n:Nat):∀ l:List Nat,memB n l=true ↔ n∈l
 | []=>⟨(fun h=>by cases h),(fun h=>by cases h)⟩
 | x::l=>by
  show Q6 (Nat.beq x n) true (memB n l)=true ↔ _
  rw [QJ]
  split
  ·rename_i h; have:=Nat.eq_of_beq_eq_true h; simp [this]
  ·rename_i h
   have hne:x≠n:=fun e=>h (by rw [e]; exact Nat.beq_refl n)
   rw [memB_eq n l]; simp [Ne.symm hne]
theorem ovB_eq:∀ a b:List Nat,ovB a b=true ↔ ∃ i,i∈a/\i∈b
 | [],b=>⟨(fun h=>by cases h),(fun ⟨i,h,_⟩=>by cases h)⟩
 | x::a,b=>by
  show Q6 (memB x b) true (ovB a b)=true ↔ _
  rw [QJ]
  split
  ·rename_i h; exact ⟨fun _=>⟨x,by simp,(memB_eq x b).1 h⟩,fun _=>rfl⟩
  ·rename_i h
   rw [ovB_eq a b]
   refine ⟨fun ⟨i,h1,h2⟩=>⟨i,by simp [h1],h2⟩,fun ⟨i,h1,h2⟩=>?_⟩
   rcases List.mem_cons.1 h1 with rfl | h1
   ·exact absurd ((memB_eq i b).2 h2) h
   ·exact ⟨i,h1,h2⟩
theorem okN1_spec {ms:List Nat} {k:Nat} {fx:Fp}:∀ {l:List (Nat×Fp)},okN1 ms k fx l=true->∀ y,y∈l->(ms.getD y.1 0).testBit k=true\/(ovB fx.2 y.2.1=false/\ovB fx.2 y.2.2=false/\ovB fx.1 y.2.2=false)
 | [],_,y,hy=>by cases hy
 | z::l,h,y,hy=>by
  have h:Q6 (orB (Nat.testBit (ms.getD z.1 0) k) (nt (orB (ovB fx.2 z.2.1) (orB (ovB fx.2 z.2.2) (ovB fx.1 z.2.2))))) (okN1 ms k fx l) false=true:=h
  rw [QJ] at h
  split at h
  ·rename_i h1
   rcases List.mem_cons.1 hy with rfl | hy
   ·rw [orB_eq,nt_eq,orB_eq,orB_eq] at h1
    simpa using h1
   ·exact okN1_spec h y hy
  ·cases h
inductive Before {α:Type}:List α->α->α->Prop where
 | here {x y:α} {l:List α} (h:y∈l):Before (x::l) x y
 | there {x y z:α} {l:List α} (h:Before l x y):Before (z::l) x y
theorem okN_pair {ms:List Nat} {l:List (Nat×Fp)} {x y:Nat×Fp} (hb:Before l x y) (h:okN ms l=true):(ms.getD y.1 0).testBit x.1=true\/(ovB x.2.2 y.2.1=false/\ovB x.2.2 y.2.2=false/\ovB x.2.1 y.2.2=false):=by
 induction hb with
 | here hm =>
  rename_i x y l
  have h:Q6 (okN1 ms x.1 x.2 l) (okN ms l) false=true:=h
  rw [QJ] at h
  split at h
  ·rename_i h1; exact okN1_spec h1 _ hm
  ·cases h
 | there _ ih =>
  rename_i x y z l _
  have h:Q6 (okN1 ms z.1 z.2 l) (okN ms l) false=true:=h
  rw [QJ] at h
  split at h
  ·exact ih h
  ·cases h
theorem nzF_mem:∀ {l:List Fp} {k j:Nat} {x:Fp},l[j]?=some x->¬ (x.1=[]/\x.2=[])->(k+j,x)∈nzF l k
 | [],k,j,x,h,_=>by simp at h
 | z::l,k,j,x,h,hx=>by
  show _∈Q6 (QM (isNilL z.1) (isNilL z.2)) (nzF l (k+1)) ((k,z)::nzF l (k+1))
  rw [QJ]
  cases j with
  | zero =>
   simp at h; subst h
   rw [if_neg fun h=>hx (by rw [J8,Bool.and_eq_true] at h; exact ⟨isNilL_eq h.1,isNilL_eq h.2⟩)]
   simp
  | succ j =>
   have:=nzF_mem (k:=k+1) (by simpa using h) hx
   rw [show k+1+j=k+(j+1) by omega] at this
   split
   ·exact this
   ·exact List.mem_cons_of_mem _ this
theorem nzF_before:∀ {l:List Fp} {k i j:Nat} {x y:Fp},i<j->l[i]?=some x->l[j]?=some y->¬ (x.1=[]/\x.2=[])->¬ (y.1=[]/\y.2=[])->Before (nzF l k) (k+i,x) (k+j,y)
 | [],k,i,j,x,y,_,h,_,_,_=>by simp at h
 | z::l,k,i,j,x,y,hij,h1,h2,hx,hy=>by
  show Before (Q6 (QM (isNilL z.1) (isNilL z.2)) (nzF l (k+1)) ((k,z)::nzF l (k+1))) _ _
  rw [QJ]
  obtain ⟨j,rfl⟩:∃ j',j=j'+1:=⟨j-1,by omega⟩
  have hj:l[j]?=some y:=by simpa using h2
  cases i with
  | zero =>
   simp at h1; subst h1
   rw [if_neg fun h=>hx (by rw [J8,Bool.and_eq_true] at h; exact ⟨isNilL_eq h.1,isNilL_eq h.2⟩)]
   have:=nzF_mem (k:=k+1) hj hy
   rw [show k+1+j=k+(j+1) by omega] at this
   exact .here this
  | succ i =>
   have:=nzF_before (k:=k+1) (i:=i) (j:=j) (by omega) (by simpa using h1) hj hx hy
   rw [show k+1+j=k+(j+1) by omega,show k+1+i=k+(i+1) by omega] at this
   split
   ·exact this
   ·exact .there this
theorem overlap_iff {a b:List Nat}:overlap a b=true ↔ ∃ i,i∈a/\i∈b:=by
 unfold overlap
 rw [List.any_eq_true]
 simp
theorem okDr_ok {ms:List MOper} {fps fps':List Fp} (h:okDr ms fps'.reverse=true) (hl:FpsLe fps fps') (hlen:fps.length=ms.length):JB (ms.zip fps)=true:=by
 unfold okDr at h
 rw [J8,Bool.and_eq_true] at h
 obtain ⟨h1,h2⟩:=h
 rw [List.reverseAux_eq,List.reverse_reverse,List.append_nil] at h2
 have hz:(ms.zip fps).map (·.1.pre)=ms.map (·.pre):=by
  rw [show (fun x:MOper×Fp=>x.1.pre)=(fun m:MOper=>m.pre) ∘ (·.1) from rfl,← List.map_map,List.map_fst_zip (by omega)]
 have hs:(ms.map fun m=>(m,(([],[]):Fp))).map (·.1.pre)=ms.map (·.pre):=by simp
 have at_:∀ {j:Nat} {y:MOper×Fp},(ms.zip fps)[j]?=some y->ms[j]?=some y.1/\fps[j]?=some y.2:=fun {j y} hy=>by
  rw [List.getElem?_zip_eq_some] at hy; exact hy
 have st:∀ {j:Nat} {m:MOper},ms[j]?=some m->(ms.map fun m=>(m,(([],[]):Fp)))[j]?=some (m,([],[])):=fun {j m} hm=>by simp [hm]
 unfold JB
 refine List.all_eq_true.2 fun ⟨y,j⟩ hy=>?_
 rw [List.mk_mem_zipIdx_iff_getElem?] at hy
 obtain ⟨y1,y2⟩:=at_ hy
 simp only [okRow,Bool.and_eq_true]
 refine ⟨List.all_eq_true.2 fun k hk=>?_,List.all_eq_true.2 fun ⟨x,k⟩ hx=>?_⟩
 ·have:=okDraw_pre h1 (st y1) k hk
  simpa using this
 ·rw [List.mk_mem_zipIdx_iff_getElem?] at hx
  obtain ⟨x1,x2⟩:=at_ hx
  by_cases hkj:k<j
  ·rw [hz]
   by_cases hm:((masks (ms.map (·.pre)) []).getD j 0).testBit k=true
   ·simp only [hm,Bool.or_true]
   ·have hc:Xw x y=false:=by
     cases hcl:Xw x y with
     | false=>rfl
     | true =>
      exfalso
      -- by slots?
      have e:Xw x y=(Xw (x.1,([],[])) (y.1,([],[]))||(overlap x.2.2 (y.2.1++y.2.2)||overlap x.2.1 y.2.2)):=by
       simp [Xw,overlap,Bool.or_assoc]
      rw [e,Bool.or_eq_true] at hcl
      rcases hcl with hcl | hcl
      ·have:=okDraw_pair h1 (st x1) (st y1) hkj hcl
       rw [hs] at this
       exact hm this
      ·obtain ⟨fx,gx,lx⟩:=hl.at_.2 k x.2 x2
       obtain ⟨fy,gy,ly⟩:=hl.at_.2 j y.2 y2
       have hxn:¬ (fx.1=[]/\fx.2=[]):=fun ⟨e1,e2⟩=>by
        have n1:x.2.1=[]:=List.eq_nil_iff_forall_not_mem.2 fun i hi=>by have:=lx.1 i hi; rw [e1] at this; cases this
        have n2:x.2.2=[]:=List.eq_nil_iff_forall_not_mem.2 fun i hi=>by have:=lx.2 i hi; rw [e2] at this; cases this
        rw [n1,n2] at hcl; simp [overlap] at hcl
       have hyn:¬ (fy.1=[]/\fy.2=[]):=fun ⟨e1,e2⟩=>by
        have n1:y.2.1=[]:=List.eq_nil_iff_forall_not_mem.2 fun i hi=>by have:=ly.1 i hi; rw [e1] at this; cases this
        have n2:y.2.2=[]:=List.eq_nil_iff_forall_not_mem.2 fun i hi=>by have:=ly.2 i hi; rw [e2] at this; cases this
        rw [n1,n2] at hcl; simp [overlap] at hcl
       have hb:=nzF_before (k:=0) hkj gx gy hxn hyn
       have:=okN_pair hb h2
       simp only [Nat.zero_add] at this
       rcases this with this | ⟨t1,t2,t3⟩
       ·exact hm this
       ·have f:∀ {a b:List Nat},ovB a b=false->∀ i,i∈a->i∈b->False:=fun {a b} hf i ha hb=>by
         have:=(ovB_eq a b).2 ⟨i,ha,hb⟩
         rw [hf] at this; cases this
        rw [Bool.or_eq_true,overlap_iff,overlap_iff] at hcl
        rcases hcl with ⟨i,i1,i2⟩ | ⟨i,i1,i2⟩
        ·rcases List.mem_append.1 i2 with i2 | i2
         ·exact f t1 i (lx.2 i i1) (ly.1 i i2)
         ·exact f t2 i (lx.2 i i1) (ly.2 i i2)
        ·exact f t3 i (lx.1 i i1) (ly.2 i i2)
    simp [hc]
  ·simp [hkj]
end Go.Proofs.YthmbjgnjfjjibaaGreatDoor
