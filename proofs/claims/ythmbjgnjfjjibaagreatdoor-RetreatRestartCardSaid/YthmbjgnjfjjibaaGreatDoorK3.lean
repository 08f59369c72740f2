/-
  Parts of the proof: E6 E7 E8 E9 E10 E11 E12 E13 E14 E15 E16 E18 L25.
-/
import Derived.Test.YthmbjgnjfjjibaaGreatDoorK2
import Derived.RecoverIn
import Derived.OpenShut
import Derived.SizedLaws
import Derived.ProofKit
set_option linter.unusedVariables false
set_option linter.unusedSimpArgs false
namespace Go.Proofs.YthmbjgnjfjjibaaGreatDoor
open Go.RowKit
set_option maxRecDepth 100000
variable {cs':List AV}
variable {els:List (List AV)}
mutual
theorem closed_scoped (D:List Nat):∀ v:AV,QB v=true->Qr D v=true
 | .any,_=>rfl
 | .und,_=>rfl
 | .bool _,_=>rfl
 | .int _ _,_=>rfl
 | .str _,_=>rfl
 | .nilp,_=>rfl
 | .ptr _ _ _,h=>by cases h
 | .rp _,_=>rfl
 | .nils,_=>rfl
 | .sl _ _ _,h=>by cases h
 | .sa _ _ _ _,h=>by cases h
 | .rs _ _,_=>rfl
 | .fn _ cs,h=>by simp only [QB] at h; simp only [Qr]; exact X3 D cs h
 | .nilf,_=>rfl
 | .agg cs,h=>by simp only [QB] at h; simp only [Qr]; exact X3 D cs h
 | .tup cs,h=>by simp only [QB] at h; simp only [Qr]; exact X3 D cs h
 | .nilm,_=>rfl
 | .mp _,h=>by cases h
 | .nili,_=>rfl
 | .ifc _ _,_=>rfl
 | .bm _ _,_=>rfl
 | .yl _,h=>by cases h
 | .bnd _ _,h=>by cases h
 | .anyb,_=>rfl
theorem X3 (D:List Nat):∀ l:List AV,Qi l=true->Qy D l=true
 | [],_=>rfl
 | v::l,h=>by
  simp only [Qi,Bool.and_eq_true] at h
  simp only [Qy,Bool.and_eq_true]
  exact ⟨closed_scoped D v h.1,X3 D l h.2⟩
end
section
variable {Hl Hs:Hp} {h:HT} {rd:List Nat}
theorem own_at {I:Nat->Prop} {w:World} {S:Nat->Prop} {ρ:Rho} (hH:HRi I w S ρ Hl) {i e z':Nat} {fl:Bool} (hI:I i) (hg:get Hl i=some (.cells e z' els fl))
  {b z cap:Nat} (hρ:ρ i=some (some b,z,cap)):z'=z/\∃ C:Array Value,els.length<=cap ∧
   (∀ (j:Nat) (el:List AV) (k:Nat) (v:AV),els[j]?=some el->el[k]?=some v->w.cell? ⟨b,j*z+k,none⟩=some (C.getD (j*z+k) undef)/\(C.getD (j*z+k) undef).oneCell'=true ∧
    if fl=true then CR w S v (C.getD (j*z+k) undef) else VR w S ρ v (C.getD (j*z+k) undef)):=by
 obtain ⟨hz,_,_,C,hC,_,h2,_,h4⟩:=Xz hH hI hg hρ
 obtain ⟨bk,z1,c1,q1,q2⟩:=hH.ob i _ hI hg
 rw [hρ] at q1
 injection q1 with q1
 obtain ⟨rfl,rfl,rfl⟩:some b=bk/\z=z1/\cap=c1:=by simpa using q1
 obtain ⟨_,_,_,C',hC',_,_,_,h5⟩:=q2
 rw [hC] at hC'
 injection hC' with hC'
 injection hC' with hC'
 subst hC'
 refine ⟨hz,C,h2,fun j el k v hj hk=>⟨(h4 j el k v hj hk).1,h5 j el k v hj hk⟩⟩
def LdOK (Hl Hs:Hp) (rd:List Nat) (v v':AV):Prop :=
 ∀ (w:World) (S:Nat->Prop) (ρ:Rho) (c:Value),HRi (fun i=>i∈rd\/get Hs i≠none) w S ρ Hl->VR w S ρ v c->CR w (fun b=>S b\/(false=false/\Jb ρ Hl (fun i=>i∈rd) b)) v' c
theorem LdOK.closed {v:AV} (hc:QB v=true):LdOK Hl Hs rd v v:=fun w S ρ c _ hv=>(hv.closed hc).mono (fun _ h=>.inl h) (fun _ _ _ h=>h)
theorem ldV_ptr {i j o e z:Nat} {fl:Bool} {el cs:List AV} (hi:i∈rd) (hg:get Hl i=some (.cells e z els fl)) (hj:els[j]?=some el)
  (hcs:∀ (k:Nat) (v':AV),cs[k]?=some v'->∃ v,(el.drop o)[k]?=some v/\(fl=true->v'=v)/\(fl=false->LdOK Hl Hs rd v v')):LdOK Hl Hs rd (.ptr i j o) (.rp cs):=fun w S ρ c hH hv=>by
 obtain ⟨b,z0,cap,hρ,rfl⟩:=hv.ptr_inv
 obtain ⟨rfl,C,_,hc⟩:=own_at hH (.inl hi) hg hρ
 refine .rp cs b (j*z+o) (fun k=>C.getD (j*z+(o+k)) undef) (.inr ⟨rfl,i,_,_,_,hi,hg,rfl,hρ⟩) (fun k v' hk=>?_) (fun k v' hk=>?_)
 ·obtain ⟨v,h1,_⟩:=hcs k v' hk
  rw [List.getElem?_drop] at h1
  obtain ⟨g1,g2,_⟩:=hc j el (o+k) v hj h1
  rw [Nat.add_assoc]; exact ⟨g1,g2⟩
 ·obtain ⟨v,h1,h2,h3⟩:=hcs k v' hk
  rw [List.getElem?_drop] at h1
  obtain ⟨_,_,g3⟩:=hc j el (o+k) v hj h1
  cases fl with
  | true=>rw [h2 rfl]; rw [if_pos rfl] at g3; exact g3.mono (fun _ h=>.inl h) (fun _ _ _ h=>h)
  | false=>rw [if_neg (by simp)] at g3; exact h3 rfl w S ρ _ hH g3
theorem ldV_sl {i j n e z:Nat} {els':List (List AV)} {fl:Bool} (hi:i∈rd) (hg:get Hl i=some (.cells e z els fl)) (hb:j+n<=els.length)
  (hlen:els'.length=n) (hcs:∀ (q:Nat) (el':List AV),els'[q]?=some el'->∃ el,els[j+q]?=some el/\∀ (k:Nat) (v':AV),el'[k]?=some v'->∃ v,el[k]?=some v/\(fl=true->v'=v)/\(fl=false->LdOK Hl Hs rd v v')) :
  LdOK Hl Hs rd (.sl i j n) (.rs z els'):=fun w S ρ c hH hv=>by
 rcases hv.sl_inv with ⟨b,z0,cap,cap',hρ,hjc,hn,rfl⟩ | ⟨z0,hρ,rfl,rfl,rfl⟩
 ·obtain ⟨rfl,C,_,hc⟩:=own_at hH (.inl hi) hg hρ
  rw [← hlen]
  refine .rs z els' b (j*z) cap' (fun q k=>C.getD ((j+q)*z+k) undef) (.inr ⟨rfl,i,_,_,_,hi,hg,rfl,hρ⟩) (by omega) (fun q el' k v' hq hk=>?_) (fun q el' k v' hq hk=>?_)
  ·obtain ⟨el,h0,h1⟩:=hcs q el' hq
   obtain ⟨v,h2,_⟩:=h1 k v' hk
   obtain ⟨g1,g2,_⟩:=hc (j+q) el k v h0 h2
   rw [← Nat.add_mul]; exact ⟨g1,g2⟩
  ·obtain ⟨el,h0,h1⟩:=hcs q el' hq
   obtain ⟨v,h2,h3,h4⟩:=h1 k v' hk
   obtain ⟨_,_,g3⟩:=hc (j+q) el k v h0 h2
   cases fl with
   | true=>rw [h3 rfl]; rw [if_pos rfl] at g3; exact g3.mono (fun _ h=>.inl h) (fun _ _ _ h=>h)
   | false=>rw [if_neg (by simp)] at g3; exact h4 rfl w S ρ _ hH g3
 ·obtain rfl:els'=[]:=List.length_eq_zero_iff.1 hlen
  exact .rs0 z none 0
def LdLs (Hl Hs:Hp) (rd:List Nat) (l l':List AV):Prop:=l'.length=l.length/\∀ (k:Nat) (v':AV),l'[k]?=some v'->∃ v,l[k]?=some v/\LdOK Hl Hs rd v v'
theorem ldV_agg {cs:List AV} (h:LdLs Hl Hs rd cs cs'):LdOK Hl Hs rd (.agg cs) (.agg cs'):=fun w S ρ c hH hv=>by
 obtain ⟨C,rfl,h1,h2,h3⟩:=hv.agg_inv
 refine .agg cs' C (h1.trans h.1.symm) (fun j v' hj=>?_) (fun j v' hj=>?_)
 ·obtain ⟨v,g1,_⟩:=h.2 j v' hj; exact h2 j v g1
 ·obtain ⟨v,g1,g2⟩:=h.2 j v' hj; exact g2 w S ρ _ hH (h3 j v g1)
theorem ldV_fn {f:Fn} {cs:List AV} (h:LdLs Hl Hs rd cs cs'):LdOK Hl Hs rd (.fn f cs) (.fn f cs'):=fun w S ρ c hH hv=>by
 obtain ⟨C,rfl,h1,h3⟩:=hv.fn_inv
 refine .fn f cs' C (h1.trans h.1.symm) (fun j v' hj=>?_)
 obtain ⟨v,g1,g2⟩:=h.2 j v' hj; exact g2 w S ρ _ hH (h3 j v g1)
mutual
theorem ldV_ok (hob:∀ i o,obE h i=some o->get Hl i=some o/\i∈rd):∀ (f:Nat) (v v':AV),ldV h f v=some v'->LdOK Hl Hs rd v v'
 | 0,v,v',e=>by simp [ldV] at e
 | f+1,v,v',e=>by
  unfold ldV at e
  split at e
  ·cases e
  ·rename_i f' i j o heq
   cases heq
   split at e
   ·rename_i e0 z els fl hg
    obtain ⟨hg,hi⟩:=hob _ _ hg
    split at e
    ·rename_i el hj
     rw [J7] at hj
     split at e
     ·injection e with e; subst e
      exact ldV_ptr hi hg hj fun k v' hk=>⟨v',hk,fun _=>rfl,fun h=>by cases h⟩
     ·split at e
      ·rename_i cs hcs
       injection e with e; subst e
       obtain ⟨l1,l2⟩:=ldL_ok hob f _ _ hcs
       exact ldV_ptr hi hg hj fun k v' hk=>by
        obtain ⟨v,g1,g2⟩:=l2 k v' hk
        exact ⟨v,g1,(fun h=>by cases h),fun _=>g2⟩
      ·cases e
    ·cases e
   ·cases e
  ·rename_i f' i j n heq
   cases heq
   split at e
   ·rename_i e0 z els fl hg
    obtain ⟨hg,hi⟩:=hob _ _ hg
    split at e
    ·rename_i hb
     have hb:=Nat.le_of_ble_eq_true hb
     split at e
     ·injection e with e; subst e
      refine ldV_sl hi hg hb (by simp; omega) fun q el' hq=>?_
      rw [List.getElem?_take] at hq
      split at hq
      ·rw [List.getElem?_drop] at hq
       exact ⟨el',hq,fun k v' hk=>⟨v',hk,fun _=>rfl,fun h=>by cases h⟩⟩
      ·cases hq
     ·split at e
      ·rename_i cs hcs
       injection e with e; subst e
       obtain ⟨l1,l2⟩:=ldE_ok hob f _ _ hcs
       refine ldV_sl hi hg hb (by rw [l1]; simp; omega) fun q el' hq=>?_
       obtain ⟨el,g1,g2⟩:=l2 q el' hq
       rw [List.getElem?_take] at g1
       split at g1
       ·rw [List.getElem?_drop] at g1
        refine ⟨el,g1,fun k v' hk=>?_⟩
        obtain ⟨v,g3,g4⟩:=g2.2 k v' hk
        exact ⟨v,g3,(fun h=>by cases h),fun _=>g4⟩
       ·cases g1
      ·cases e
    ·cases e
   ·cases e
  ·rename_i f' cs heq
   cases heq
   split at e
   ·rename_i hc; injection e with e; subst e; exact LdOK.closed (by simpa [QB] using hc)
   ·split at e
    ·rename_i cs' hcs; injection e with e; subst e; exact ldV_agg (ldL_ok hob f _ _ hcs)
    ·cases e
  ·rename_i f' g cs heq
   cases heq
   split at e
   ·rename_i hc; injection e with e; subst e; exact LdOK.closed (by simpa [QB] using hc)
   ·split at e
    ·rename_i cs' hcs; injection e with e; subst e; exact ldV_fn (ldL_ok hob f _ _ hcs)
    ·cases e
  ·split at e
   ·rename_i hc; injection e with e; subst e; exact LdOK.closed hc
   ·cases e
theorem ldL_ok (hob:∀ i o,obE h i=some o->get Hl i=some o/\i∈rd):∀ (f:Nat) (l l':List AV),ldL h f l=some l'->LdLs Hl Hs rd l l'
 | 0,l,l',e=>by simp [ldL] at e
 | f+1,[],l',e=>by
  simp only [ldL,Option.some.injEq] at e
  subst e; exact ⟨rfl,fun k v' h=>by simp at h⟩
 | f+1,v::l,l',e=>by
  simp only [ldL] at e
  split at e
  ·rename_i x r hx hr
   injection e with e; subst e
   have i1:=ldV_ok hob f v x hx
   obtain ⟨i2,i3⟩:=ldL_ok hob f l r hr
   refine ⟨by simp [i2],fun k v' hk=>?_⟩
   cases k with
   | zero=>simp at hk; subst hk; exact ⟨v,rfl,i1⟩
   | succ k=>simpa using i3 k v' (by simpa using hk)
  ·cases e
theorem ldE_ok (hob:∀ i o,obE h i=some o->get Hl i=some o/\i∈rd):∀ (f:Nat) (l l':List (List AV)),ldE h f l=some l'->l'.length=l.length/\∀ (q:Nat) (el':List AV),l'[q]?=some el'->∃ el,l[q]?=some el/\LdLs Hl Hs rd el el'
 | 0,l,l',e=>by simp [ldE] at e
 | f+1,[],l',e=>by
  simp only [ldE,Option.some.injEq] at e
  subst e; exact ⟨rfl,fun k v' h=>by simp at h⟩
 | f+1,v::l,l',e=>by
  simp only [ldE] at e
  split at e
  ·rename_i x r hx hr
   injection e with e; subst e
   have i1:=ldL_ok hob f v x hx
   obtain ⟨i2,i3⟩:=ldE_ok hob f l r hr
   refine ⟨by simp [i2],fun k v' hk=>?_⟩
   cases k with
   | zero=>simp at hk; subst hk; exact ⟨v,rfl,i1⟩
   | succ k=>simpa using i3 k v' (by simpa using hk)
  ·cases e
end
theorem hands_ld (hob:∀ i o,obE h i=some o->get Hl i=some o/\i∈rd) {f:Nat} {vs vs':List AV} (e:ldL h f vs=some vs'):Hands Hl [] rd false vs vs':=fun w S ρ C hH hv=>by
 obtain ⟨l1,l2⟩:=ldL_ok (Hs:=[]) hob f vs vs' e
 refine ⟨hv.1.trans l1.symm,fun j v' hj=>?_⟩
 obtain ⟨v,g1,g2⟩:=l2 j v' hj
 exact .cl (g2 w S ρ _ hH (hv.2 j v g1))
theorem hands_same {al:Bool} {vs:List AV} (hs:Qy (Qa Hs) vs=true):Hands Hl Hs rd al vs vs:=(hvs_same hs).hands
end
end Go.Proofs.YthmbjgnjfjjibaaGreatDoor
namespace Go.Proofs.YthmbjgnjfjjibaaGreatDoor
open Go.RowKit
set_option maxRecDepth 100000
section lists
variable {α:Type}
theorem get_fm (f:Nat->Option α) (i:Nat):∀ l:List Nat,get (l.filterMap fun k=>(f k).map fun v=>(k,v)) i=if i∈l then f i else none
 | []=>by simp [get]
 | k::l=>by
  have ih:=get_fm f i l
  cases hk:f k with
  | none =>
   rw [List.filterMap_cons_none (by simp [hk]),ih]
   by_cases e:i=k
   ·subst e; simp [hk]
   ·simp [e]
  | some v =>
   rw [List.filterMap_cons_some (b:=(k,v)) (by simp [hk])]
   simp only [get]
   by_cases e:k=i
   ·subst e; simp [hk]
   ·rw [if_neg e,ih]; simp [Ne.symm e]
theorem nodupK_fm (f:Nat->Option α):∀ l:List Nat,l.Nodup->Xn (l.filterMap fun k=>(f k).map fun v=>(k,v))=true
 | [],_=>rfl
 | k::l,h=>by
  obtain ⟨h1,h2⟩:=List.nodup_cons.1 h
  have ih:=nodupK_fm f l h2
  cases hk:f k with
  | none=>rw [List.filterMap_cons_none (by simp [hk])]; exact ih
  | some v =>
   rw [List.filterMap_cons_some (b:=(k,v)) (by simp [hk])]
   simp only [Xn,get_fm,if_neg h1,Option.isNone_none,Bool.true_and]
   exact ih
end lists
noncomputable def toFr (F:FT):Fr:=(List.range 256).filterMap fun k=>(gF F k).map fun v=>(k,v)
theorem get_toFr (F:FT):get (toFr F)=gF F:=by
 funext n
 unfold toFr
 rw [get_fm]
 by_cases h:n<256
 ·rw [if_pos (List.mem_range.2 h)]
 ·rw [if_neg (fun e=>h (List.mem_range.1 e)),gF_ge F h]
theorem nodup_toFr (F:FT):Xn (toFr F)=true:=nodupK_fm _ _ List.nodup_range
def doneOb:Ob->Ob
 | .lp r Fl=>.lp { r with state:=.done,pending:=some .ret } Fl
 | o=>o
def conc (σ:Nat->Ob) (i:Nat):EO->Ob
 | .ob o=>o
 | .lp _ _ _ _=>σ i
 | .busy _=>σ i
 | .done _=>doneOb (σ i)
noncomputable def hpF (G:Hp) (σ:Nat->Ob) (h:HT) (i:Nat):Option Ob:=match gH h i with
 | some o=>some (conc σ i o)
 | none=>get G i
noncomputable def toHp (G:Hp) (σ:Nat->Ob) (h:HT):Hp:=((List.range 4096).filterMap fun k=>((gH h k).map (conc σ k)).map fun v=>(k,v))++G
theorem X1 (G:Hp) (σ:Nat->Ob) (h:HT):get (toHp G σ h)=hpF G σ h:=by
 funext n
 unfold toHp hpF
 rw [QU,get_fm]
 by_cases hn:n<4096
 ·rw [if_pos (List.mem_range.2 hn)]
  cases gH h n <;> rfl
 ·rw [if_neg (fun e=>hn (List.mem_range.1 e)),gH_ge h hn]
  rfl
structure GOK (G:Hp) (gl:GlT) (gk:List Nat):Prop where
 far:∀ i ob,get G i=some ob->4096<=i/\i∈gk/\∃ g cs,ob = .glob g cs
 gl:∀ g cs,gl g=some cs->get G (5000000+g)=some (.glob g cs)
structure Inv (h:HT) (nx:Nat):Prop where
 top:nx<=4091
 fresh:∀ i,nx<=i->gH h i=none
 fm:∀ i o,gH h i=some (.ob o)->noFm o=true
structure Wf (P:Program) (σ:Nat->Ob) (h:HT):Prop where
 lp:∀ i ps x y F,gH h i=some (.lp ps x y F)->∃ N r Fl,N<=256/\σ i = .lp r Fl/\Rec0 P N ps x y r/\get Fl=gF F/\Xn Fl=true/\ps.all (fun p=>decide (p<N))=true/\plC x=true/\plC y=true
 busy:∀ i F,gH h i=some (.busy F)->∃ r Fl,σ i = .lp r Fl/\get Fl=gF F/\Xn Fl=true
 done:∀ i F,gH h i=some (.done F)->∃ r Fl,σ i = .lp r Fl/\get Fl=gF F/\Xn Fl=true
structure Adv (h:HT) (nx:Nat) (h':HT) (nx':Nat):Prop where
 inv:Inv h' nx'
 dom:∀ i,gH h i≠none->gH h' i≠none
 le:nx<=nx'
 bs:∀ i F,gH h i=some (.busy F)->gH h' i=some (.busy F)
 nw:∀ i,gH h' i≠none->gH h i≠none\/nx<=i
 lb:∀ i ps x y F,gH h' i=some (.lp ps x y F)->gH h i=some (.lp ps x y F)
 bb:∀ i F,gH h' i=some (.busy F)->gH h i=some (.busy F)
 db:∀ i F,gH h' i=some (.done F)->gH h i=some (.done F)\/∃ ps x y,gH h i=some (.lp ps x y F)
variable {h:HT}
theorem Adv.refl {nx:Nat} (i:Inv h nx):Adv h nx h nx:=⟨i,fun _ h=>h,Nat.le_refl _,fun _ _ h=>h,fun _ h=>.inl h,fun _ _ _ _ _ h=>h,fun _ _ h=>h,fun _ _ h=>.inl h⟩
theorem Adv.trans {h1 h2:HT} {nx n1 n2:Nat} (a:Adv h nx h1 n1) (b:Adv h1 n1 h2 n2):Adv h nx h2 n2 :=
 ⟨b.inv,fun i hi=>b.dom i (a.dom i hi),Nat.le_trans a.le b.le,fun i F hi=>b.bs i F (a.bs i F hi),fun i hi=>(b.nw i hi).elim (fun h=>a.nw i h) (fun h=>.inr (Nat.le_trans a.le h)),fun i ps x y F hi=>a.lb i ps x y F (b.lb i ps x y F hi),fun i F hi=>a.bb i F (b.bb i F hi),
  fun i F hi=>(b.db i F hi).elim (fun h=>a.db i F h) fun ⟨ps,x,y,h⟩=>.inr ⟨ps,x,y,a.lb i ps x y F h⟩⟩
theorem Adv.wf {P:Program} {σ:Nat->Ob} {h':HT} {nx nx':Nat} (a:Adv h nx h' nx') (w:Wf P σ h):Wf P σ h' :=
 ⟨fun i ps x y F hi=>w.lp i ps x y F (a.lb i ps x y F hi),fun i F hi=>w.busy i F (a.bb i F hi),fun i F hi=>(a.db i F hi).elim (fun h=>w.done i F h) fun ⟨ps,x,y,h⟩=>by
  obtain ⟨N,r,Fl,_,h1,_,h2,h3,_⟩:=w.lp i ps x y F h
  exact ⟨r,Fl,h1,h2,h3⟩⟩
section
variable {P:Program} {N:Nat} {Z:List Nat} {F F':Fr} {H H':Hp}
theorem Conf.congr {S:Nat->Prop} {ρ:Rho} {a:Act} {w:World} (h:Conf N Z F H S ρ a w) (hF:get F=get F') (hH:get H=get H'):Conf N Z F' H' S ρ a w :=
 ⟨hF ▸ h.fr,hH ▸ h.defers,hH ▸ h.hp,fun i hi=>by rw [← hH]; exact h.z i hi⟩
theorem weak_eq (hF:get F=get F') (hH:get H=get H'):Weak N Z F H F' H':=fun S ρ a w h=>⟨S,ρ,h.congr hF hH,by rw [← hH]; exact ExtZ.refl _ _ _ _ _⟩
theorem weak_nil (hH:get H=get H'):Weak N Z F H [] H':=fun S ρ a w h=>⟨S,ρ,⟨⟨h.fr.size,fun t v hv=>by simp [get] at hv⟩,hH ▸ h.defers,hH ▸ h.hp,fun i hi=>by rw [← hH]; exact h.z i hi⟩,by rw [← hH]; exact ExtZ.refl _ _ _ _ _⟩
theorem fcg_eq {sem:Array Value->World->(Ending->World->Prop)->Prop} {vs:List AV} {r:AV} {H1 H1':Hp} {al:Bool} (h:FCg sem vs H r H' al) (e:get H=get H1) (e':get H'=get H1'):FCg sem vs H1 r H1' al:=by
 unfold FCg at h ⊢
 rw [← e,← e']; exact h
end
variable {rd wr:List Nat} {r:Re}
variable {N:Nat}
section
variable {P:Program} {G:Hp} {gl:GlT} {gk:List Nat} {σ:Nat->Ob} {h h':HT} {nx nx':Nat} {Fl:Fr} {Hl:Hp} {F:FT}
theorem obE_some {i:Nat} {o:Ob} (e:obE h i=some o):gH h i=some (.ob o):=by
 unfold obE at e
 cases hg:gH h i with
 | none=>rw [hg] at e; cases e
 | some x=>rw [hg] at e; cases x <;> first | (injection e with e; subst e; rfl) | cases e
theorem hp_ob (hH:get Hl=hpF G σ h) {i:Nat} {o:Ob} (e:obE h i=some o):get Hl i=some o:=by
 rw [hH,hpF,obE_some e]; rfl
theorem Xh (hF:get Fl=gF F) (hH:get Hl=hpF G σ h):RelS Fl Hl F h:=⟨fun n=>by rw [hF],fun i o e=>hp_ob hH e⟩
theorem gH_lt {i:Nat} {o:EO} (e:gH h i=some o):i<4096:=Nat.lt_of_not_le fun hl=>by rw [gH_ge h (by omega)] at e; cases e
theorem hpF_none (hG:GOK G gl gk) (hi:Inv h nx):hpF G σ h nx=none:=by
 unfold hpF
 rw [hi.fresh nx (Nat.le_refl _)]
 cases hg:get G nx with
 | none=>simp only [hg]
 | some ob=>have:=(hG.far nx ob hg).1; have:=hi.top; omega
theorem hpF_G (hG:GOK G gl gk) {i:Nat} {ob:Ob} (hg:get G i=some ob):hpF G σ h i=some ob:=by
 unfold hpF
 rw [gH_ge h (by have:=(hG.far i ob hg).1; omega)]
 exact hg
-- frames
theorem get_params_none:∀ (l:List AV) (k t:Nat),t<k->get (params l k) t=none
 | [],k,t,_=>rfl
 | u::l,k,t,ht=>by
  simp only [params,get]
  rw [if_neg (by omega)]
  exact get_params_none l (k+1) t (by omega)
theorem gF_parE:∀ (l:List AV) (k:Nat) (F:FT) (n:Nat),k+l.length<=256->gF (parE l k F) n=(get (params l k) n).or (gF F n)
 | [],k,F,n,_=>rfl
 | u::l,k,F,n,hl=>by
  have e:parE (u::l) k F=parE l (k+1) (sF F k u):=rfl
  simp only [List.length_cons] at hl
  rw [e,gF_parE l (k+1) (sF F k u) n (by omega),gF_sF F (by omega)]
  simp only [params,get]
  by_cases hk:k=n
  ·subst hk
   rw [if_pos rfl,if_pos rfl,get_params_none l (k+1) k (by omega)]
   rfl
  ·rw [if_neg hk,if_neg hk]
theorem get_par {vs:List AV} (hl:vs.length<=256):get (params vs 0)=gF (parE vs 0 e2):=by
 funext n
 rw [gF_parE vs 0 e2 n (by omega),gF_e]
 simp
theorem get_putE {mo:MOper} (hF:get Fl=gF F) (hd:dstOK N mo.dst=true) (hN:N<=256) (v:AV):get (putF Fl mo.dst v)=gF (putE F mo.dst v):=by
 cases hm:mo.dst with
 | none=>exact hF
 | some d =>
  rw [hm] at hd
  have hd':d<N:=by simpa [dstOK] using hd
  have e:putE F (some d) v=sF F d v:=rfl
  funext n
  rw [e,gF_sF F (by omega)]
  show get ((d,v)::Fl) n=_
  simp only [get,hF]
theorem get_putPs {N:Nat} (hN:N<=256):∀ (ps:List Nat) (vs:List AV) (Fl:Fr) (F:FT),ps.all (fun p=>decide (p<N))=true->get Fl=gF F->get (putPs Fl ps vs)=gF (putPsE ps vs F)
 | [],vs,Fl,F,_,hF=>by cases vs <;> exact hF
 | p::ps,[],Fl,F,_,hF=>hF
 | p::ps,v::vs,Fl,F,hp,hF=>by
  simp only [List.all_cons,Bool.and_eq_true,decide_eq_true_eq] at hp
  have e:putPsE (p::ps) (v::vs) F=putPsE ps vs (sF F p v):=rfl
  have e1:putPs Fl (p::ps) (v::vs)=putPs ((p,v)::Fl) ps vs:=rfl
  rw [e,e1]
  refine get_putPs hN ps vs _ _ hp.2 ?_
  funext n
  rw [gF_sF F (by omega)]
  simp only [get,hF]
-- results
theorem resE_ok (hF:get Fl=gF F) (hH:get Hl=hpF G σ h) {x:ResultVar} {v:AV} (e:resE P F h x=some v):resV P Fl Hl x=some v:=by
 cases x with
 | tmp t=>simp only [resV,hF]; exact e
 | cell a ty =>
  simp only [resE] at e
  simp only [resV,hF]
  split at e
  ·rename_i i j o ha
   split at e
   ·rename_i e0 z els fl hg
    split at e
    ·rename_i el hj
     rw [J7] at hj
     simp only [ha,hp_ob hH hg,hj]
     split at e
     ·rename_i n h1 h2
      simp only [h1,h2]
      split at e
      ·rename_i hb
       rw [if_pos (Nat.le_of_ble_eq_true hb)]; exact e
      ·cases e
     ·rename_i n h1 h2
      simp only [h1,h2]
      rw [← J7]; exact e
     ·cases e
    ·cases e
   ·cases e
  ·cases e
theorem ressE_ok (hF:get Fl=gF F) (hH:get Hl=hpF G σ h):∀ {l:List ResultVar} {vs:List AV},ressE P F h l=some vs->JD P Fl Hl l=some vs
 | [],vs,e=>e
 | x::l,vs,e=>by
  simp only [ressE] at e
  split at e
  ·rename_i v vs' h1 h2
   injection e with e; subst e
   simp only [JD,resE_ok hF hH h1,ressE_ok hF hH h2]
  ·cases e
-- objects put
theorem gH_applyU:∀ (l:Hp) (h:HT) (i:Nat),(∀ x∈l,x.1<4096)->gH (applyU l h) i=match get l i with | some o=>some (.ob o) | none=>gH h i
 | [],h,i,_=>rfl
 | x::l,h,i,hl=>by
  have e:applyU (x::l) h=sH (applyU l h) x.1 (.ob x.2):=rfl
  rw [e,gH_sH _ (hl x (by simp))]
  obtain ⟨k,o⟩:=x
  simp only [get]
  by_cases hk:k=i
  ·rw [if_pos hk,if_pos hk]
  ·rw [if_neg hk,if_neg hk]; exact gH_applyU l h i fun y hy=>hl y (by simp [hy])
theorem updOK_spec {al:Nat}:∀ {l:Hp},updOK l h nx al=true->∀ x∈l,noFm x.2=true/\((gH h x.1=none/\x.1=nx/\al=1)\/∃ o,gH h x.1=some (.ob o))
 | [],_,x,hx=>by cases hx
 | (k,o)::l,e,x,hx=>by
  have e1:updOK ((k,o)::l) h nx al=Q6 (@Option.rec EO (fun _=>Bool) (Q6 (Nat.beq k nx) (Nat.beq al 1) false) (fun o => @EO.rec (fun _=>Bool) (fun _=>true) (fun _ _ _ _=>false) (fun _=>false) (fun _=>false) o) (gH h k)) (Q6 (noFm o) (updOK l h nx al) false) false:=rfl
  rw [e1,QJ] at e
  split at e
  ·rename_i hb
   rw [QJ] at e
   split at e
   ·rename_i hf
    rcases List.mem_cons.1 hx with rfl | hx
    ·refine ⟨hf,?_⟩
     cases hg:gH h k with
     | none =>
      rw [hg] at hb
      have hb':Q6 (Nat.beq k nx) (Nat.beq al 1) false=true:=hb
      rw [QJ] at hb'
      split at hb'
      ·rename_i h1; exact .inl ⟨rfl,Nat.eq_of_beq_eq_true h1,Nat.eq_of_beq_eq_true hb'⟩
      ·cases hb'
     | some q =>
      rw [hg] at hb
      cases q with
      | ob o'=>exact .inr ⟨o',rfl⟩
      | lp=>cases hb
      | busy=>cases hb
      | done=>cases hb
    ·exact updOK_spec e x hx
   ·cases e
  ·cases e
theorem put_ok (hi:Inv h nx) {al:Nat} {upd:Hp} (hn:nx<=4090) (ha:al<=1) (hu:updOK upd h nx al=true) (hH:get Hl=hpF G σ h) :
  get (upd++Hl)=hpF G σ (applyU upd h)/\Adv h nx (applyU upd h) (al+nx):=by
 have hs:=updOK_spec hu
 have top:=hi.top
 have hlt:∀ x∈upd,x.1<4096:=fun x hx=>by
  rcases (hs x hx).2 with ⟨_,e,_⟩ | ⟨o,e⟩
  ·omega
  ·exact gH_lt e
 have hg:=fun i=>gH_applyU upd h i hlt
 have old:∀ i (q:EO),gH h i=some q->(∀ o,q ≠ .ob o)->gH (applyU upd h) i=some q:=fun i q e hq=>by
  rw [hg]
  cases hu':get upd i with
  | none=>exact e
  | some o =>
   rcases (hs _ (Js hu')).2 with ⟨e0,_⟩ | ⟨o',e0⟩
   ·rw [e0] at e; cases e
   ·rw [e0] at e; injection e with e; exact absurd e.symm (hq o')
 have back:∀ i (q:EO),gH (applyU upd h) i=some q->(∀ o,q ≠ .ob o)->gH h i=some q:=fun i q e hq=>by
  rw [hg] at e
  cases hu':get upd i with
  | none=>rw [hu'] at e; exact e
  | some o=>rw [hu'] at e; injection e with e; exact absurd e.symm (hq o)
 refine ⟨?_,⟨⟨by omega,fun i hle=>?_,fun i o e=>?_⟩,fun i hne e=>?_,by omega,fun i F e=>old i _ e fun o=>by simp,fun i e=>?_,fun i ps x y F e=>back i _ e fun o=>by simp,fun i F e=>back i _ e fun o=>by simp,fun i F e=>.inl (back i _ e fun o=>by simp)⟩⟩
 ·funext i
  rw [QU,hH]
  unfold hpF
  rw [hg]
  cases hu':get upd i with
  | none=>simp
  | some o=>simp [conc]
 ·rw [hg]
  cases hu':get upd i with
  | none=>exact hi.fresh i (by omega)
  | some o =>
   rcases (hs _ (Js hu')).2 with ⟨_,e1,e2⟩ | ⟨o',e0⟩
   ·have e1:i=nx:=e1
    omega
   ·have e0:gH h i=some (.ob o'):=e0
    rw [hi.fresh i (by omega)] at e0; cases e0
 ·rw [hg] at e
  cases hu':get upd i with
  | none=>rw [hu'] at e; exact hi.fm i o e
  | some o' =>
   rw [hu'] at e
   injection e with e; injection e with e; subst e
   exact (hs _ (Js hu')).1
 ·rw [hg] at e
  cases hu':get upd i with
  | none=>rw [hu'] at e; exact hne e
  | some o=>rw [hu'] at e; cases e
 ·rw [hg] at e
  cases hu':get upd i with
  | none=>rw [hu'] at e; exact .inl e
  | some o =>
   rcases (hs _ (Js hu')).2 with ⟨_,e1,_⟩ | ⟨o',e0⟩
   ·exact .inr (Nat.le_of_eq e1.symm)
   ·have e0:gH h i=some (.ob o'):=e0
    exact .inl (by rw [e0]; simp)
theorem plE_inv {v:AV} (e:plE r h nx = .ok v h' nx' rd wr):∃ upd al,r = .mk v rd wr upd al/\((upd=[]/\h'=h/\nx'=nx)\/(nx<=4090/\al<=1/\updOK upd h nx al=true/\h'=applyU upd h/\nx'=al+nx)):=by
 cases r with
 | no=>cases e
 | mk v0 rd0 wr0 upd al =>
  cases upd with
  | nil =>
   have e:Cr.ok v0 h nx rd0 wr0 = .ok v h' nx' rd wr:=e
   injection e with e1 e2 e3 e4 e5
   subst e1 e2 e3 e4 e5
   exact ⟨[],al,rfl,.inl ⟨rfl,rfl,rfl⟩⟩
  | cons x l =>
   have e:JQ (Nat.ble nx 4090) (JQ (Nat.ble al 1) (JQ (updOK (x::l) h nx al) (.ok v0 (applyU (x::l) h) (Nat.add al nx) rd0 wr0))) = .ok v h' nx' rd wr:=e
   cases h1:Nat.ble nx 4090 with
   | false=>rw [h1] at e; cases e
   | true =>
    rw [h1] at e
    cases h2:Nat.ble al 1 with
    | false=>rw [h2] at e; cases e
    | true =>
     rw [h2] at e
     cases h3:updOK (x::l) h nx al with
     | false=>rw [h3] at e; cases e
     | true =>
      rw [h3] at e
      have e:Cr.ok v0 (applyU (x::l) h) (Nat.add al nx) rd0 wr0 = .ok v h' nx' rd wr:=e
      injection e with e1 e2 e3 e4 e5
      subst e1 e2 e3 e4 e5
      exact ⟨_,al,rfl,.inr ⟨Nat.le_of_ble_eq_true h1,Nat.le_of_ble_eq_true h2,h3,rfl,rfl⟩⟩
abbrev GYes (Fl:Fr) (mo:MOper):Prop:=mo.guard=none\/∃ g want,mo.guard=some (g,want)/\get Fl g=some (.bool want)
def StepTo (P:Program) (G:Hp) (σ:Nat->Ob) (N:Nat) (ops:Array Oper) (o:Oper) (mo:MOper) (Fl:Fr) (Hl:Hp) (rd wr:List Nat) (v:AV) (h':HT):Prop :=
 ∃ rd' wr' Hl',StepM P N ops o mo Fl Hl rd' wr' v Hl'/\FpLe (rd',wr') (rd,wr)/\get Hl'=hpF G σ h'
theorem Qo {ops:Array Oper} {o:Oper} {mo:MOper} (hi:Inv h nx) (hG:GOK G gl gk) (hH:get Hl=hpF G σ h) (hc:QN P N ops o=some mo) (hg:GYes Fl mo) {v:AV}
  (e:plE r h nx = .ok v h' nx' rd wr) (ok:∀ {upd:Hp} {al:Nat} {K:AV->List Nat->List Nat->Hp->Prop},(al=1->get Hl nx=none)->r = .mk v rd wr upd al->K v rd wr (upd++Hl)->mev Fl Hl nx K mo.op) :
  StepTo P G σ N ops o mo Fl Hl rd wr v h'/\Adv h nx h' nx':=by
 obtain ⟨upd,al,hr,hcase⟩:=plE_inv e
 obtain ⟨v1,rd1,wr1,H1,⟨rfl,rfl,rfl,rfl⟩,hs⟩:=stepM_op hc (K:=fun v' rd' wr' H1=>v'=v/\rd'=rd/\wr'=wr/\H1=upd++Hl) (ok (fun _=>by rw [hH]; exact hpF_none hG hi) hr ⟨rfl,rfl,rfl,rfl⟩) hg
 rcases hcase with ⟨rfl,rfl,rfl⟩ | ⟨h1,h2,h3,rfl,rfl⟩
 ·exact ⟨⟨_,_,_,hs,⟨fun _ h=>h,fun _ h=>h⟩,hH⟩,.refl hi⟩
 ·obtain ⟨q1,q2⟩:=put_ok hi h1 h2 h3 hH
  exact ⟨⟨_,_,_,hs,⟨fun _ h=>h,fun _ h=>h⟩,q1⟩,q2⟩
end
end Go.Proofs.YthmbjgnjfjjibaaGreatDoor
namespace Go.Proofs.YthmbjgnjfjjibaaGreatDoor
open Go.RowKit
set_option maxRecDepth 100000
def SCl (P:Program) (G:Hp) (sh:Nat->Bool) (cl:X5):Prop:=∀ {f:Nat} {vs:List AV} {h:HT} {nx:Nat} {r:AV} {h':HT} {nx':Nat} {rd wr:List Nat},cl f vs h nx = .ok r h' nx' rd wr->Inv h nx →
 Adv h nx h' nx' ∧
 (∀ {σ:Nat->Ob} {N:Nat} {ops:Array Oper} {o:Oper} {mo:MOper} {Fl:Fr} {Hl:Hp},Wf P σ h->QN P N ops o=some mo->GYes Fl mo->Enters P o mo Fl f vs->get Hl=hpF G σ h->StepTo P G σ N ops o mo Fl Hl rd wr r h') ∧
 (sh f=true->∃ hr h1,(∀ i o,gH hr i=some o->gH h i=some o)/\nmL hr vs=true/\nmAll hr nx=true/\(∀ i,gH h' i=match gH h1 i with | some o=>some o | none=>gH h i)/\Adv hr nx h1 nx' ∧
  ∀ {σ:Nat->Ob} {Hs Hs':Hp},Wf P σ hr->get Hs=hpF G σ hr->get Hs'=hpF G σ h1->FC P f vs Hs r Hs' true)
def SYd (P:Program) (G:Hp) (yd:X5):Prop:=∀ {i:Nat} {vs:List AV} {h:HT} {nx:Nat} {r:AV} {h':HT} {nx':Nat} {rd wr:List Nat},yd i vs h nx = .ok r h' nx' rd wr->Inv h nx →
 Adv h nx h' nx' ∧
 ∀ {σ:Nat->Ob} {N:Nat} {ops:Array Oper} {o:Oper} {mo:MOper} {Fl:Fr} {Hl:Hp},Wf P σ h->QN P N ops o=some mo->GYes Fl mo->EntersG P o mo Fl (XB P) (.yl i::vs)->get Hl=hpF G σ h->StepTo P G σ N ops o mo Fl Hl rd wr r h'
variable {r:AV} {h':HT} {rd wr:List Nat} {nx':Nat}
theorem oC_inv {α:Type} {x:Option α} {k:α->Cr} (e:oC x k = .ok r h' nx' rd wr):∃ a,x=some a/\k a = .ok r h' nx' rd wr:=by
 cases x with
 | none=>cases e
 | some a=>exact ⟨a,rfl,e⟩
theorem guardC_inv {b:Bool} {c:Cr} (e:JQ b c = .ok r h' nx' rd wr):b=true/\c = .ok r h' nx' rd wr:=by
 cases b with
 | false=>cases e
 | true=>exact ⟨rfl,e⟩
section
variable {P:Program} {N:Nat} {ops:Array Oper} {o:Oper} {mo:MOper}
theorem stepM_nilc_m {F:Fr} {H:Hp} (hc:QN P N ops o=some mo) {x:Arg} {name:String} {t:Nat} {v:AV} {f:FuncId} (hop:mo.op = .nilc x) (hx:Qe F x=some (.bm name (.ifc t v))) (hm:methF P t name=some f) (hg:GYes F mo) :
  StepM P N ops o mo F H [] [] (.bm name (.ifc t v)) H:=stepM_opt hc (fun _ _=>rfl) (fun _ h=>by cases h) (by
 rw [hop]
 exact OpT.pure fun S ρ a w hF _=>by
  obtain ⟨e1,_⟩:=Q3 hc
  rw [hop] at e1
  cases ho:o.op with
  | nilCheck y =>
   rw [ho] at e1
   obtain ⟨r,hr,e2⟩:=map_some e1
   injection e2 with e2; subst e2
   have hv:=Qd hr hF (fun _ h=>h) hx
   obtain ⟨c,e3,e4⟩:=hv.bm_inv
   obtain ⟨k,hk⟩:∃ k,P.types.size+Made.depth=k+1:=⟨P.types.size+99,rfl⟩
   refine ⟨.func (.method name) #[.iface t c] #[],?_,by rw [← e3]; exact hv⟩
   simp [execOp,ho,e3,Sem.run_bind,run_program,hk,run_nilAhead hm]
  | call c=>rw [ho] at e1; simp only [Q7,J0] at e1; (repeat' split at e1) <;> simp at e1
  | _=>rw [ho] at e1; simp only [Q7,J2] at e1; (repeat' split at e1) <;> first | contradiction | (unfold JW at e1; (repeat' split at e1) <;> (cases e1; done)) | (cases e1; done) | (obtain ⟨r,_,e2⟩:=map_some e1; cases e2)) hg
end
variable {F':FT} {fps:List Fp}
section
variable {P:Program} {G:Hp} {gl:GlT} {gk:List Nat} {σ:Nat->Ob} {h h':HT} {nx nx':Nat} {Fl:Fr} {Hl:Hp} {F:FT} {sh:Nat->Bool} {cl yd:X5} {N:Nat} {ops:Array Oper} {o:Oper} {mo:MOper} {v:AV} {rd wr:List Nat}
theorem Qs (hi:Inv h nx) {r:Re} (e:plE r h nx = .ok v h' nx' rd wr):Adv h nx h' nx':=by
 obtain ⟨upd,al,hr,hcase⟩:=plE_inv e
 rcases hcase with ⟨rfl,rfl,rfl⟩ | ⟨h1,h2,h3,rfl,rfl⟩
 ·exact .refl hi
 ·exact (put_ok (G:=[]) hi h1 h2 h3 (X1 [] (fun _=>.dead) h)).2
def StepK (P:Program) (G:Hp) (σ:Nat->Ob) (F:FT) (h:HT) (op:MOp) (rd wr:List Nat) (v:AV) (h':HT):Prop :=
 ∀ {N:Nat} {ops:Array Oper} {o:Oper} {mo:MOper} {Fl:Fr} {Hl:Hp},Wf P σ h->get Fl=gF F->get Hl=hpF G σ h->QN P N ops o=some mo->GYes Fl mo->mo.op=op->StepTo P G σ N ops o mo Fl Hl rd wr v h'
theorem invE_inv {nm:String} {g:AV} {vs:List AV} (e:invE P cl h nx nm g vs = .ok v h' nx' rd wr):∃ t u f,g = .ifc t u/\methF P t nm=some f/\Xj P f=true/\cl f (u::vs) h nx = .ok v h' nx' rd wr:=by
 unfold invE at e
 split at e
 ·rename_i t u
  obtain ⟨f,hm,e⟩:=oC_inv e
  obtain ⟨hent,e⟩:=guardC_inv e
  exact ⟨t,u,f,rfl,hm,hent,e⟩
 ·cases e
theorem op_step (hG:GOK G gl gk) (hcl:SCl P G sh cl) (hyd:SYd P G yd) (hi:Inv h nx) (op:MOp)
  (e:callOp op P gl cl yd F h nx = .ok v h' nx' rd wr):Adv h nx h' nx'/\StepK P G σ F h op rd wr v h':=by
 cases op with
 | call f as =>
  obtain ⟨vs,hv,e⟩:=oC_inv (x:=argsE F as) (k:=fun vs=>cl f vs h nx) e
  obtain ⟨q1,q2,_⟩:=hcl e hi
  exact ⟨q1,fun hw hF hH hc hg hop=>q2 hw hc hg (enters_call hc hop ((argsE_eq (Xh hF hH) as).symm.trans hv)) hH⟩
 | callv x as =>
  obtain ⟨g,hx,e⟩:=oC_inv (x:=QE F x) (k:=fun g=>oC (argsE F as) fun vs=>callvE P cl yd h nx g vs) e
  obtain ⟨vs,hv,e⟩:=oC_inv e
  unfold callvE at e
  split at e
  ·obtain ⟨hent,e⟩:=guardC_inv e
   obtain ⟨q1,q2,_⟩:=hcl e hi
   exact ⟨q1,fun hw hF hH hc hg hop=>q2 hw hc hg (enters_callv hc hop ((XZ (Xh hF hH) x).symm.trans hx) hent ((argsE_eq (Xh hF hH) as).symm.trans hv)) hH⟩
  ·obtain ⟨hent,e⟩:=guardC_inv e
   obtain ⟨q1,q2,_⟩:=hcl e hi
   exact ⟨q1,fun hw hF hH hc hg hop=>q2 hw hc hg (enters_callb hc hop ((XZ (Xh hF hH) x).symm.trans hx) hent ((argsE_eq (Xh hF hH) as).symm.trans hv)) hH⟩
  ·obtain ⟨t,u,f,eg,hm,hent,e9⟩:=invE_inv e
   subst eg
   obtain ⟨q1,q2,_⟩:=hcl e9 hi
   exact ⟨q1,fun hw hF hH hc hg hop=>q2 hw hc hg (enters_bm hc hop ((XZ (Xh hF hH) x).symm.trans hx) hm hent ((argsE_eq (Xh hF hH) as).symm.trans hv)) hH⟩
  ·obtain ⟨q1,q2⟩:=hyd e hi
   exact ⟨q1,fun hw hF hH hc hg hop=>q2 hw hc hg (enters_yield hc hop ((XZ (Xh hF hH) x).symm.trans hx) ((argsE_eq (Xh hF hH) as).symm.trans hv)) hH⟩
  ·cases e
 | inv nm x as =>
  obtain ⟨g,hx,e⟩:=oC_inv (x:=QE F x) (k:=fun g=>oC (argsE F as) fun vs=>invE P cl h nx nm g vs) e
  obtain ⟨vs,hv,e⟩:=oC_inv e
  obtain ⟨t,u,f,eg,hm,hent,e9⟩:=invE_inv e
  subst eg
  obtain ⟨q1,q2,_⟩:=hcl e9 hi
  exact ⟨q1,fun hw hF hH hc hg hop=>q2 hw hc hg (enters_inv hc hop ((XZ (Xh hF hH) x).symm.trans hx) hm hent ((argsE_eq (Xh hF hH) as).symm.trans hv)) hH⟩
 | nilc x =>
  obtain ⟨u,hx,e⟩:=oC_inv (x:=QE F x) (k:=fun v=>nilcE P v x F h nx) e
  unfold nilcE at e
  split at e
  ·obtain ⟨f,hm,e⟩:=oC_inv e
   injection e with e1 e2 e3 e4 e5
   subst e1 e2 e3 e4 e5
   exact ⟨.refl hi,fun hw hF hH hc hg hop=>⟨_,_,_,stepM_nilc_m hc hop ((XZ (Xh hF hH) x).symm.trans hx) hm hg,⟨fun _ h=>h,fun _ h=>h⟩,hH⟩⟩
  ·exact ⟨Qs hi e,fun hw hF hH hc hg hop=>(Qo (r:=exNilc x F h nx) hi hG hH hc hg e (fun hd hr hK=>by rw [hop]; exact ok_nilc (Xh hF hH) hr hK)).1⟩
 | ldg n g =>
  obtain ⟨cs,hx,e⟩:=oC_inv (x:=gl g) (k:=fun cs=>JQ (Nat.ble n cs.length) (.ok (.agg (cs.take n)) h nx [5000000+g] [])) e
  obtain ⟨hb,e⟩:=guardC_inv e
  injection e with e1 e2 e3 e4 e5
  subst e1 e2 e3 e4 e5
  refine ⟨.refl hi,fun {N ops o mo Fl Hl} hw hF hH hc hg hop=>?_⟩
  have hgl:get Hl (5000000+g)=some (.glob g cs):=by rw [hH]; exact hpF_G hG (hG.gl g cs hx)
  obtain ⟨v1,rd1,wr1,H1,⟨rfl,rfl,rfl,rfl⟩,hs⟩:=stepM_op (F:=Fl) (H:=Hl) hc (d:=nx) (K:=fun v' rd' wr' H1=>v' = .agg (cs.take n)/\rd'=[5000000+g]/\wr'=[]/\H1=Hl) (by
   rw [hop]; simp only [mev,hgl]; exact ⟨trivial,Nat.le_of_ble_eq_true hb,trivial,trivial,trivial,trivial⟩) hg
  exact ⟨_,_,_,hs,⟨fun _ h=>h,fun _ h=>h⟩,hH⟩
 | mv x0=>exact ⟨Qs (r:=exMv x0 F h nx) hi e,fun hw hF hH hc hg hop=>(Qo (r:=exMv x0 F h nx) hi hG hH hc hg e (fun hd hr hK=>by rw [hop]; exact ok_mv (Xh hF hH) hr hK)).1⟩
 | pick x0 x1 x2=>exact ⟨Qs (r:=exPick x0 x1 x2 F h nx) hi e,fun hw hF hH hc hg hop=>(Qo (r:=exPick x0 x1 x2 F h nx) hi hG hH hc hg e (fun hd hr hK=>by rw [hop]; exact ok_pick (Xh hF hH) hr hK)).1⟩
 | alloc x0 x1 x2=>exact ⟨Qs (r:=exAlloc x0 x1 x2 F h nx) hi e,fun hw hF hH hc hg hop=>(Qo (r:=exAlloc x0 x1 x2 F h nx) hi hG hH hc hg e (fun hd hr hK=>by rw [hop]; exact ok_alloc hd hr hK)).1⟩
 | box x0 x1 x2=>exact ⟨Qs (r:=exBox x0 x1 x2 F h nx) hi e,fun hw hF hH hc hg hop=>(Qo (r:=exBox x0 x1 x2 F h nx) hi hG hH hc hg e (fun hd hr hK=>by rw [hop]; exact ok_box (Xh hF hH) hd hr hK)).1⟩
 | build x0 x1=>exact ⟨Qs (r:=exBuild x0 x1 F h nx) hi e,fun hw hF hH hc hg hop=>(Qo (r:=exBuild x0 x1 F h nx) hi hG hH hc hg e (fun hd hr hK=>by rw [hop]; exact ok_build (Xh hF hH) hr hK)).1⟩
 | bslice x0 x1 x2 x3 x4=>exact ⟨Qs (r:=exBslice x0 x1 x2 x3 x4 F h nx) hi e,fun hw hF hH hc hg hop=>(Qo (r:=exBslice x0 x1 x2 x3 x4 F h nx) hi hG hH hc hg e (fun hd hr hK=>by rw [hop]; exact ok_bslice (Xh hF hH) hd hr hK)).1⟩
 | ld x0 x1 x2=>exact ⟨Qs (r:=exLd x0 x1 x2 F h nx) hi e,fun hw hF hH hc hg hop=>(Qo (r:=exLd x0 x1 x2 F h nx) hi hG hH hc hg e (fun hd hr hK=>by rw [hop]; exact ok_ld (Xh hF hH) hr hK)).1⟩
 | st x0 x1 x2=>exact ⟨Qs (r:=exSt x0 x1 x2 F h nx) hi e,fun hw hF hH hc hg hop=>(Qo (r:=exSt x0 x1 x2 F h nx) hi hG hH hc hg e (fun hd hr hK=>by rw [hop]; exact ok_st (Xh hF hH) hr hK)).1⟩
 | bin x0 x1 x2=>exact ⟨Qs (r:=exBin x0 x1 x2 F h nx) hi e,fun hw hF hH hc hg hop=>(Qo (r:=exBin x0 x1 x2 F h nx) hi hG hH hc hg e (fun hd hr hK=>by rw [hop]; exact ok_bin (Xh hF hH) hr hK)).1⟩
 | un x0 x1=>exact ⟨Qs (r:=exUn x0 x1 F h nx) hi e,fun hw hF hH hc hg hop=>(Qo (r:=exUn x0 x1 F h nx) hi hG hH hc hg e (fun hd hr hK=>by rw [hop]; exact ok_un (Xh hF hH) hr hK)).1⟩
 | cvt x0 x1=>exact ⟨Qs (r:=exCvt x0 x1 F h nx) hi e,fun hw hF hH hc hg hop=>(Qo (r:=exCvt x0 x1 F h nx) hi hG hH hc hg e (fun hd hr hK=>by rw [hop]; exact ok_cvt (Xh hF hH) hr hK)).1⟩
 | mkfn x0 x1=>exact ⟨Qs (r:=exMkfn x0 x1 F h nx) hi e,fun hw hF hH hc hg hop=>(Qo (r:=exMkfn x0 x1 F h nx) hi hG hH hc hg e (fun hd hr hK=>by rw [hop]; exact ok_mkfn (Xh hF hH) hr hK)).1⟩
 | mksl x0 x1 x2 x3 x4 x5=>exact ⟨Qs (r:=exMksl x0 x1 x2 x3 x4 x5 F h nx) hi e,fun hw hF hH hc hg hop=>(Qo (r:=exMksl x0 x1 x2 x3 x4 x5 F h nx) hi hG hH hc hg e (fun hd hr hK=>by rw [hop]; exact ok_mksl (Xh hF hH) hd hr hK)).1⟩
 | slc x0 x1 x2 x3=>exact ⟨Qs (r:=exSlc x0 x1 x2 x3 F h nx) hi e,fun hw hF hH hc hg hop=>(Qo (r:=exSlc x0 x1 x2 x3 F h nx) hi hG hH hc hg e (fun hd hr hK=>by rw [hop]; exact ok_slc (Xh hF hH) hr hK)).1⟩
 | slst x0 x1 x2=>exact ⟨Qs (r:=exSlst x0 x1 x2 F h nx) hi e,fun hw hF hH hc hg hop=>(Qo (r:=exSlst x0 x1 x2 F h nx) hi hG hH hc hg e (fun hd hr hK=>by rw [hop]; exact ok_slst (Xh hF hH) hr hK)).1⟩
 | slarr x0 x1 x2 x3=>exact ⟨Qs (r:=exSlarr x0 x1 x2 x3 F h nx) hi e,fun hw hF hH hc hg hop=>(Qo (r:=exSlarr x0 x1 x2 x3 F h nx) hi hG hH hc hg e (fun hd hr hK=>by rw [hop]; exact ok_slarr (Xh hF hH) hr hK)).1⟩
 | fa x0 x1=>exact ⟨Qs (r:=exFa x0 x1 F h nx) hi e,fun hw hF hH hc hg hop=>(Qo (r:=exFa x0 x1 F h nx) hi hG hH hc hg e (fun hd hr hK=>by rw [hop]; exact ok_fa (Xh hF hH) hr hK)).1⟩
 | fld x0 x1 x2 x3=>exact ⟨Qs (r:=exFld x0 x1 x2 x3 F h nx) hi e,fun hw hF hH hc hg hop=>(Qo (r:=exFld x0 x1 x2 x3 F h nx) hi hG hH hc hg e (fun hd hr hK=>by rw [hop]; exact ok_fld (Xh hF hH) hr hK)).1⟩
 | ixsl x0 x1 x2=>exact ⟨Qs (r:=exIxsl x0 x1 x2 F h nx) hi e,fun hw hF hH hc hg hop=>(Qo (r:=exIxsl x0 x1 x2 F h nx) hi hG hH hc hg e (fun hd hr hK=>by rw [hop]; exact ok_ixsl (Xh hF hH) hr hK)).1⟩
 | ixarr x0 x1 x2 x3=>exact ⟨Qs (r:=exIxarr x0 x1 x2 x3 F h nx) hi e,fun hw hF hH hc hg hop=>(Qo (r:=exIxarr x0 x1 x2 x3 F h nx) hi hG hH hc hg e (fun hd hr hK=>by rw [hop]; exact ok_ixarr (Xh hF hH) hr hK)).1⟩
 | ixval x0 x1 x2 x3 x4=>exact ⟨Qs (r:=exIxval x0 x1 x2 x3 x4 F h nx) hi e,fun hw hF hH hc hg hop=>(Qo (r:=exIxval x0 x1 x2 x3 x4 F h nx) hi hG hH hc hg e (fun hd hr hK=>by rw [hop]; exact ok_ixval (Xh hF hH) hr hK)).1⟩
 | ext x0 x1=>exact ⟨Qs (r:=exExt x0 x1 F h nx) hi e,fun hw hF hH hc hg hop=>(Qo (r:=exExt x0 x1 F h nx) hi hG hH hc hg e (fun hd hr hK=>by rw [hop]; exact ok_ext (Xh hF hH) hr hK)).1⟩
 | len x0=>exact ⟨Qs (r:=exLen x0 F h nx) hi e,fun hw hF hH hc hg hop=>(Qo (r:=exLen x0 F h nx) hi hG hH hc hg e (fun hd hr hK=>by rw [hop]; exact ok_len (Xh hF hH) hr hK)).1⟩
 | lenc x0=>exact ⟨Qs (r:=exLenc x0 F h nx) hi e,fun hw hF hH hc hg hop=>(Qo (r:=exLenc x0 F h nx) hi hG hH hc hg e (fun hd hr hK=>by rw [hop]; exact ok_lenc hr hK)).1⟩
 | app x0 x1 x2 x3 x4 x5=>exact ⟨Qs (r:=exApp x0 x1 x2 x3 x4 x5 F h nx) hi e,fun hw hF hH hc hg hop=>(Qo (r:=exApp x0 x1 x2 x3 x4 x5 F h nx) hi hG hH hc hg e (fun hd hr hK=>by rw [hop]; exact ok_app (Xh hF hH) hd hr hK)).1⟩
 | cpy x0 x1=>exact ⟨Qs (r:=exCpy x0 x1 F h nx) hi e,fun hw hF hH hc hg hop=>(Qo (r:=exCpy x0 x1 F h nx) hi hG hH hc hg e (fun hd hr hK=>by rw [hop]; exact ok_cpy (Xh hF hH) hr hK)).1⟩
 | clr x0 x1=>exact ⟨Qs (r:=exClr x0 x1 F h nx) hi e,fun hw hF hH hc hg hop=>(Qo (r:=exClr x0 x1 F h nx) hi hG hH hc hg e (fun hd hr hK=>by rw [hop]; exact ok_clr (Xh hF hH) hr hK)).1⟩
 | s2ap x0 x1=>cases e
 | aeq8 x0 x1 x2=>cases e
 | mn x0 x1=>exact ⟨Qs (r:=exMn x0 x1 F h nx) hi e,fun hw hF hH hc hg hop=>(Qo (r:=exMn x0 x1 F h nx) hi hG hH hc hg e (fun hd hr hK=>by rw [hop]; exact ok_mn (Xh hF hH) hr hK)).1⟩
 | mn3 x0 x1 x2=>exact ⟨Qs (r:=exMn3 x0 x1 x2 F h nx) hi e,fun hw hF hH hc hg hop=>(Qo (r:=exMn3 x0 x1 x2 F h nx) hi hG hH hc hg e (fun hd hr hK=>by rw [hop]; exact ok_mn3 (Xh hF hH) hr hK)).1⟩
 | mx3 x0 x1 x2=>exact ⟨Qs (r:=exMx3 x0 x1 x2 F h nx) hi e,fun hw hF hH hc hg hop=>(Qo (r:=exMx3 x0 x1 x2 F h nx) hi hG hH hc hg e (fun hd hr hK=>by rw [hop]; exact ok_mx3 (Xh hF hH) hr hK)).1⟩
 | sdrop x0 x1=>exact ⟨Qs (r:=exSdrop x0 x1 F h nx) hi e,fun hw hF hH hc hg hop=>(Qo (r:=exSdrop x0 x1 F h nx) hi hG hH hc hg e (fun hd hr hK=>by rw [hop]; exact ok_sdrop (Xh hF hH) hr hK)).1⟩
 | mx x0 x1=>exact ⟨Qs (r:=exMx x0 x1 F h nx) hi e,fun hw hF hH hc hg hop=>(Qo (r:=exMx x0 x1 F h nx) hi hG hH hc hg e (fun hd hr hK=>by rw [hop]; exact ok_mx (Xh hF hH) hr hK)).1⟩
 | isnil x0 x1 x2=>exact ⟨Qs (r:=exIsnil x0 x1 x2 F h nx) hi e,fun hw hF hH hc hg hop=>(Qo (r:=exIsnil x0 x1 x2 F h nx) hi hG hH hc hg e (fun hd hr hK=>by rw [hop]; exact ok_isnil (Xh hF hH) hr hK)).1⟩
 | beq x0 x1 x2=>exact ⟨Qs (r:=exBeq x0 x1 x2 F h nx) hi e,fun hw hF hH hc hg hop=>(Qo (r:=exBeq x0 x1 x2 F h nx) hi hG hH hc hg e (fun hd hr hK=>by rw [hop]; exact ok_beq (Xh hF hH) hr hK)).1⟩
 | mkmap  => exact ⟨Qs (r:=exMkmap  F h nx) hi e,fun hw hF hH hc hg hop=>(Qo (r:=exMkmap  F h nx) hi hG hH hc hg e (fun hd hr hK=>by rw [hop]; exact ok_mkmap hd hr hK)).1⟩
 | slen x0=>exact ⟨Qs (r:=exSlen x0 F h nx) hi e,fun hw hF hH hc hg hop=>(Qo (r:=exSlen x0 F h nx) hi hG hH hc hg e (fun hd hr hK=>by rw [hop]; exact ok_slen (Xh hF hH) hr hK)).1⟩
 | scat x0 x1=>cases e
 | seq x0 x1 x2=>exact ⟨Qs (r:=exSeq x0 x1 x2 F h nx) hi e,fun hw hF hH hc hg hop=>(Qo (r:=exSeq x0 x1 x2 F h nx) hi hG hH hc hg e (fun hd hr hK=>by rw [hop]; exact ok_seq (Xh hF hH) hr hK)).1⟩
 | b2s x0=>cases e
 | s2b x0=>cases e
 | stake x0 x1=>exact ⟨Qs (r:=exStake x0 x1 F h nx) hi e,fun hw hF hH hc hg hop=>(Qo (r:=exStake x0 x1 F h nx) hi hG hH hc hg e (fun hd hr hK=>by rw [hop]; exact ok_stake (Xh hF hH) hr hK)).1⟩
 | sidx x0 x1=>exact ⟨Qs (r:=exSidx x0 x1 F h nx) hi e,fun hw hF hH hc hg hop=>(Qo (r:=exSidx x0 x1 F h nx) hi hG hH hc hg e (fun hd hr hK=>by rw [hop]; exact ok_sidx (Xh hF hH) hr hK)).1⟩
 | aeqx x0 x1 x2 x3=>cases e
 | bot  => cases e
 | mapadd x0 x1 x2 x3=>exact ⟨Qs (r:=exMapadd x0 x1 x2 x3 F h nx) hi e,fun hw hF hH hc hg hop=>(Qo (r:=exMapadd x0 x1 x2 x3 F h nx) hi hG hH hc hg e (fun hd hr hK=>by rw [hop]; exact ok_mapadd (Xh hF hH) hr hK)).1⟩
 | mhas x0 x1 x2=>exact ⟨Qs (r:=exMhas x0 x1 x2 F h nx) hi e,fun hw hF hH hc hg hop=>(Qo (r:=exMhas x0 x1 x2 F h nx) hi hG hH hc hg e (fun hd hr hK=>by rw [hop]; exact ok_mhas (Xh hF hH) hr hK)).1⟩
 | lenm x0=>cases e
 | mkif x0 x1=>exact ⟨Qs (r:=exMkif x0 x1 F h nx) hi e,fun hw hF hH hc hg hop=>(Qo (r:=exMkif x0 x1 F h nx) hi hG hH hc hg e (fun hd hr hK=>by rw [hop]; exact ok_mkif (Xh hF hH) hr hK)).1⟩
 | mkbm x0 x1=>exact ⟨Qs (r:=exMkbm x0 x1 F h nx) hi e,fun hw hF hH hc hg hop=>(Qo (r:=exMkbm x0 x1 F h nx) hi hG hH hc hg e (fun hd hr hK=>by rw [hop]; exact ok_mkbm (Xh hF hH) hr hK)).1⟩
 | ifnil x0 x1=>exact ⟨Qs (r:=exIfnil x0 x1 F h nx) hi e,fun hw hF hH hc hg hop=>(Qo (r:=exIfnil x0 x1 F h nx) hi hG hH hc hg e (fun hd hr hK=>by rw [hop]; exact ok_ifnil (Xh hF hH) hr hK)).1⟩
 | aeq x0 x1 x2 x3=>exact ⟨Qs (r:=exAeq x0 x1 x2 x3 F h nx) hi e,fun hw hF hH hc hg hop=>(Qo (r:=exAeq x0 x1 x2 x3 F h nx) hi hG hH hc hg e (fun hd hr hK=>by rw [hop]; exact ok_aeq (Xh hF hH) hr hK)).1⟩
 | mkbnd x0 x1=>exact ⟨Qs (r:=exMkbnd x0 x1 F h nx) hi e,fun hw hF hH hc hg hop=>(Qo (r:=exMkbnd x0 x1 F h nx) hi hG hH hc hg e (fun hd hr hK=>by rw [hop]; exact ok_mkbnd (Xh hF hH) hr hK)).1⟩
 | fins x0 x1 x2=>cases e
 | flk x0 x1=>cases e
theorem stepO_inv {r:Cr} {k:AV->T3 EO->Nat->Fp->Os} (e:stepO r k = .ok F' h' nx' fps):∃ v h1 n1 rd wr,r = .ok v h1 n1 rd wr/\k v h1 n1 (rd,wr) = .ok F' h' nx' fps:=by
 cases r with
 | no=>cases e
 | ok v h1 n1 rd wr=>exact ⟨v,h1,n1,rd,wr,rfl,e⟩
theorem guardE_inv {g:Option (Nat×Bool)} {x y:Os} (e:guardE F g x y = .ok F' h' nx' fps) :
  ((g=none\/∃ t want,g=some (t,want)/\gF F t=some (.bool want))/\x = .ok F' h' nx' fps)\/(∃ t want,g=some (t,want)/\(gF F t=some (.bool (!want))\/gF F t=some .und)/\y = .ok F' h' nx' fps):=by
 cases g with
 | none=>exact .inl ⟨.inl rfl,e⟩
 | some p =>
  obtain ⟨t,want⟩:=p
  have e : @Option.rec AV (fun _=>Os) .no (fun v=>vGd v (fun b=>Q6 (xorB b want) y x) y) (gF F t) = .ok F' h' nx' fps:=e
  cases hv:gF F t with
  | none=>rw [hv] at e; cases e
  | some v =>
   rw [hv] at e
   have e:vGd v (fun b=>Q6 (xorB b want) y x) y = .ok F' h' nx' fps:=e
   cases v with
   | bool b =>
    have e:Q6 (xorB b want) y x = .ok F' h' nx' fps:=e
    cases b <;> cases want
    ·exact .inl ⟨.inr ⟨t,false,rfl,hv⟩,e⟩
    ·exact .inr ⟨t,true,rfl,.inl hv,e⟩
    ·exact .inr ⟨t,false,rfl,.inl hv,e⟩
    ·exact .inl ⟨.inr ⟨t,true,rfl,hv⟩,e⟩
   | und=>exact .inr ⟨t,want,rfl,.inr hv,e⟩
   | _=>cases e
def RowK (P:Program) (G:Hp) (σ:Nat->Ob) (F:FT) (h:HT) (ml:List MOper) (new:List Fp) (F':FT) (h':HT):Prop :=
 Wf P σ h->∀ N,N<=256->∀ Fl Hl,get Fl=gF F->get Hl=hpF G σ h->∀ K:List Fp->Fr->Hp->Prop,(∀ fps F1 H1,FpsLe fps new.reverse->get F1=gF F'->get H1=hpF G σ h'->K fps F1 H1)->RS P N ml Fl Hl K
theorem ops_ok (hG:GOK G gl gk) (hcl:SCl P G sh cl) (hyd:SYd P G yd):∀ (ml:List MOper) {F:FT} {h:HT} {nx:Nat} {fps0:List Fp} {F':FT} {h':HT} {nx':Nat} {fps':List Fp},opsE P gl cl yd ml F h nx fps0 = .ok F' h' nx' fps' →
  Inv h nx->∃ new,fps'=new++fps0/\new.length=ml.length/\Adv h nx h' nx'/\RowK P G σ F h ml new F' h'
 | [],F,h,nx,fps0,F',h',nx',fps',e,hi=>by
  have e:Os.ok F h nx fps0 = .ok F' h' nx' fps':=e
  injection e with e1 e2 e3 e4
  subst e1 e2 e3 e4
  exact ⟨[],rfl,rfl,.refl hi,fun hw N hN Fl Hl hF hH K hK=>rs_nil (hK [] Fl Hl .nil hF hH)⟩
 | mo::ml,F,h,nx,fps0,F',h',nx',fps',e,hi=>by
  have e:guardE F mo.guard (stepO (callOp mo.op P gl cl yd F h nx) fun v H nx fp=>opsE P gl cl yd ml (putE F mo.dst v) H nx (fp::fps0)) (opsE P gl cl yd ml (putE F mo.dst .und) h nx (([],[])::fps0)) = .ok F' h' nx' fps':=e
  rcases guardE_inv e with ⟨hg,e⟩ | ⟨t,want,hg,hv,e⟩
  ·obtain ⟨v,h1,n1,rd,wr,e1,e⟩:=stepO_inv e
   obtain ⟨a1,s1⟩:=op_step hG hcl hyd hi mo.op e1
   obtain ⟨new,n2,n3,a2,k2⟩:=ops_ok hG hcl hyd ml e a1.inv
   refine ⟨new++[(rd,wr)],by rw [n2]; simp,by simp [n3],a1.trans a2,fun hw N hN Fl Hl hF hH K hK=>rs_cons fun ops o hc=>?_⟩
   have hg':GYes Fl mo:=by unfold GYes; rw [hF]; exact hg
   obtain ⟨rd',wr',Hl',q1,q2,q3⟩:=s1 hw hF hH hc hg' rfl
   refine ⟨v,rd',wr',Hl',q1,k2 (a1.wf hw) N hN _ _ (get_putE hF (Q3 hc).2.2.1 hN v) q3 _ fun fps F1 H1 hf h2 h3=>hK _ _ _ ?_ h2 h3⟩
   rw [List.reverse_append]
   exact .cons q2 hf
  ·obtain ⟨new,n2,n3,a2,k2⟩:=ops_ok hG hcl hyd ml e hi
   refine ⟨new++[([],[])],by rw [n2]; simp,by simp [n3],a2,fun hw N hN Fl Hl hF hH K hK=>rs_cons fun ops o hc=>?_⟩
   refine ⟨.und,[],[],Hl,stepM_skip hc hg (by rw [hF]; exact hv),k2 hw N hN _ _ (get_putE hF (Q3 hc).2.2.1 hN .und) hH _ fun fps F1 H1 hf h2 h3=>hK _ _ _ ?_ h2 h3⟩
   rw [List.reverse_append]
   exact .cons ⟨fun _ h=>h,fun _ h=>h⟩ hf
end
end Go.Proofs.YthmbjgnjfjjibaaGreatDoor
namespace Go.Proofs.YthmbjgnjfjjibaaGreatDoor
open Go.RowKit
set_option maxRecDepth 100000
variable {h1:HT}
variable {hr:HT}
variable {ops:Array Oper} {N:Nat}
variable {F:FT}
section
variable {h:HT} {D:List Nat}
theorem isS_iff {α:Type} {x:Option α}:isS x=true ↔ x≠none:=by cases x <;> simp [isS]
mutual
theorem nmV_sc (hD:∀ i,gH h i≠none->i∈D):∀ v:AV,nmV h v=true->Qr D v=true
 | .any,_=>rfl
 | .und,_=>rfl
 | .bool _,_=>rfl
 | .int _ _,_=>rfl
 | .str _,_=>rfl
 | .nilp,_=>rfl
 | .ptr i _ _,e=>by simp only [Qr]; simpa using hD i (isS_iff.1 e)
 | .rp _,_=>rfl
 | .nils,_=>rfl
 | .sl i _ _,e=>by simp only [Qr]; simpa using hD i (isS_iff.1 e)
 | .sa i _ _ _,e=>by simp only [Qr]; simpa using hD i (isS_iff.1 e)
 | .rs _ _,_=>rfl
 | .fn _ cs,e=>by simp only [Qr]; exact nmL_sc hD cs e
 | .nilf,_=>rfl
 | .agg cs,e=>by simp only [Qr]; exact nmL_sc hD cs e
 | .tup cs,e=>by simp only [Qr]; exact nmL_sc hD cs e
 | .nilm,_=>rfl
 | .mp i,e=>by simp only [Qr]; simpa using hD i (isS_iff.1 e)
 | .nili,_=>rfl
 | .ifc _ _,_=>rfl
 | .bm _ _,_=>rfl
 | .yl i,e=>by simp only [Qr]; simpa using hD i (isS_iff.1 e)
 | .bnd _ v,e=>by simp only [Qr]; exact nmV_sc hD v e
 | .anyb,_=>rfl
theorem nmL_sc (hD:∀ i,gH h i≠none->i∈D):∀ l:List AV,nmL h l=true->Qy D l=true
 | [],_=>rfl
 | v::l,e=>by
  have e:QM (nmV h v) (nmL h l)=true:=e
  rw [J8,Bool.and_eq_true] at e
  simp only [Qy,Bool.and_eq_true]
  exact ⟨nmV_sc hD v e.1,nmL_sc hD l e.2⟩
end
theorem nmE_sc (hD:∀ i,gH h i≠none->i∈D):∀ l:List (List AV),nmE h l=true->scopedE D l=true
 | [],_=>rfl
 | v::l,e=>by
  have e:QM (nmL h v) (nmE h l)=true:=e
  rw [J8,Bool.and_eq_true] at e
  simp only [scopedE,Bool.and_eq_true]
  exact ⟨nmL_sc hD v e.1,nmE_sc hD l e.2⟩
theorem nmOb_sc (hD:∀ i,gH h i≠none->i∈D) {o:Ob} (e:nmOb h o=true):Q4 D o=true:=by
 cases o with
 | dead=>rfl
 | cells e0 z els fl =>
  cases fl with
  | true=>rfl
  | false=>exact nmE_sc hD els e
 | mset ks=>rfl
 | lp r Fl=>cases e
 | fm kvs=>cases e
 | glob g cs=>rfl
theorem nm16_at {t:Sx (Option AV)} (e:Jn h t=true) (d:Dg):nmO h (gX t d)=true:=by
 obtain ⟨a0,a1,a2,a3,a4,a5,a6,a7,a8,a9,a10,a11,a12,a13,a14,a15⟩:=t
 have e:QM (nmO h a0) (QM (nmO h a1) (QM (nmO h a2) (QM (nmO h a3) (QM (nmO h a4) (QM (nmO h a5) (QM (nmO h a6) (QM (nmO h a7) (QM (nmO h a8) (QM (nmO h a9) (QM (nmO h a10) (QM (nmO h a11) (QM (nmO h a12) (QM (nmO h a13) (QM (nmO h a14) (nmO h a15)))))))))))))))=true:=e
 simp only [J8,Bool.and_eq_true] at e
 obtain ⟨h0,h1,h2,h3,h4,h5,h6,h7,h8,h9,h10,h11,h12,h13,h14,h15⟩:=e
 exact @Dg.casesOn (fun d=>nmO h (gX (Sx.mk a0 a1 a2 a3 a4 a5 a6 a7 a8 a9 a10 a11 a12 a13 a14 a15) d)=true) d h0 h1 h2 h3 h4 h5 h6 h7 h8 h9 h10 h11 h12 h13 h14 h15
theorem nmF_at' {t:FT} (e:nmF h t=true) (d:Dg):Jn h (gX t d)=true:=by
 obtain ⟨a0,a1,a2,a3,a4,a5,a6,a7,a8,a9,a10,a11,a12,a13,a14,a15⟩:=t
 have e:QM (Jn h a0) (QM (Jn h a1) (QM (Jn h a2) (QM (Jn h a3) (QM (Jn h a4) (QM (Jn h a5) (QM (Jn h a6) (QM (Jn h a7) (QM (Jn h a8) (QM (Jn h a9) (QM (Jn h a10) (QM (Jn h a11) (QM (Jn h a12) (QM (Jn h a13) (QM (Jn h a14) (Jn h a15)))))))))))))))=true:=e
 simp only [J8,Bool.and_eq_true] at e
 obtain ⟨h0,h1,h2,h3,h4,h5,h6,h7,h8,h9,h10,h11,h12,h13,h14,h15⟩:=e
 exact @Dg.casesOn (fun d=>Jn h (gX (Sx.mk a0 a1 a2 a3 a4 a5 a6 a7 a8 a9 a10 a11 a12 a13 a14 a15) d)=true) d h0 h1 h2 h3 h4 h5 h6 h7 h8 h9 h10 h11 h12 h13 h14 h15
theorem nmF_at (e:nmF h F=true) {t:Nat} {v:AV} (hv:gF F t=some v):nmV h v=true:=by
 have ht:t<256:=Nat.lt_of_not_le fun hl=>by rw [gF_ge F (by omega)] at hv; cases hv
 have:=nm16_at (nmF_at' e (hi t)) (lo t)
 have e2:gX (gX F (hi t)) (lo t)=some v:=by unfold gF at hv; rw [ky_lt ht] at hv; exact hv
 rw [e2] at this
 exact this
theorem fr_sc (hD:∀ i,gH h i≠none->i∈D) (e:nmF h F=true) {Fl:Fr} (hF:get Fl=gF F) (hn:Xn Fl=true):Qy D (Fl.map (·.2))=true:=by
 have key:∀ l:Fr,(∀ x,x∈l->x∈Fl)->Qy D (l.map (·.2))=true:=by
  intro l
  induction l with
  | nil=>intro _; rfl
  | cons x l ih =>
   intro hs
   simp only [List.map_cons,Qy,Bool.and_eq_true]
   refine ⟨nmV_sc hD _ (nmF_at e (t:=x.1) ?_),ih fun y hy=>hs y (by simp [hy])⟩
   rw [← hF]; exact nodupK_get hn (hs x (by simp))
 exact key Fl fun _ h=>h
theorem nmAll_at:∀ {n:Nat},nmAll h n=true->∀ i o,i<n->gH h i=some o->nmEO h o=true
 | 0,_,i,o,hi,_=>by omega
 | n+1,e,i,o,hi,ho=>by
  have e:Q6 (@Option.rec EO (fun _=>Bool) true (fun o=>nmEO h o) (gH h n)) (nmAll h n) false=true:=e
  rw [QJ] at e
  split at e
  ·rename_i hb
   by_cases hin:i=n
   ·subst hin; rw [ho] at hb; exact hb
   ·exact nmAll_at e i o (by omega) ho
  ·cases e
theorem namesE_mem:∀ {n i:Nat},i<n->gH h i≠none->i∈namesE h n
 | 0,i,hi,_=>by omega
 | n+1,i,hi,ho=>by
  show i∈Q6 (isS (gH h n)) (n::namesE h n) (namesE h n)
  rw [QJ]
  by_cases hin:i=n
  ·subst hin; rw [if_pos (isS_iff.2 ho)]; simp
  ·have:=namesE_mem (n:=n) (i:=i) (by omega) ho
   split
   ·exact List.mem_cons_of_mem _ this
   ·exact this
end
section
variable {P:Program} {G:Hp} {gl:GlT} {gk:List Nat} {σ σ':Nat->Ob} {h h':HT} {nx nx':Nat} {Hl:Hp}
theorem hpF_put {i:Nat} (hi:i<4096) (o:EO):hpF G σ (sH h i o)=fun j=>if i=j then some (conc σ i o) else hpF G σ h j:=by
 funext j
 unfold hpF
 rw [gH_sH h hi]
 by_cases e:i=j
 ·subst e; simp
 ·simp [e]
theorem hpF_sig {i:Nat} (hs:∀ j,j≠i->σ' j=σ j) {q:EO} (hq:gH h i=some q):hpF G σ' h=fun j=>if i=j then some (conc σ' i q) else hpF G σ h j:=by
 funext j
 unfold hpF
 by_cases e:i=j
 ·subst e; simp [hq]
 ·rw [if_neg e]
  cases hg:gH h j with
  | none=>rfl
  | some o=>cases o <;> simp [conc,hs j (Ne.symm e)]
theorem get_cons (i:Nat) (o:Ob) (H:Hp):get ((i,o)::H)=fun j=>if i=j then some o else get H j:=rfl
theorem hpF_dom (a:∀ i,gH h i≠none->gH h' i≠none) {i:Nat} (e:hpF G σ h' i=none):hpF G σ h i=none:=by
 unfold hpF at e ⊢
 cases hg:gH h i with
 | none =>
  cases hg':gH h' i with
  | none=>rw [hg'] at e; exact e
  | some o=>rw [hg'] at e; cases e
 | some o =>
  cases hg':gH h' i with
  | none=>exact absurd hg' (a i (by rw [hg]; simp))
  | some o=>rw [hg'] at e; cases e
theorem get_over (a:∀ i,gH h i≠none->gH h' i≠none) (hH:get Hl=hpF G σ h):get (toHp G σ h'++Hl)=hpF G σ h':=by
 funext i
 rw [QU,X1,hH]
 cases e:hpF G σ h' i with
 | none=>simp [hpF_dom a e]
 | some o=>simp
theorem stepM_move {o:Oper} {mo:MOper} {F:Fr} {H H1:Hp} {rd wr rd' wr':List Nat} {v:AV} (hs:StepM P N ops o mo F H rd wr v H1) (hall:∀ i,(i∈rd'\/i∈wr') ↔ (i∈rd\/i∈wr)) (hw:∀ i,i∈wr'->i∈wr)
  (hm:∀ i,i∈wr->i ∉ wr'->get H1 i=get H i/\get H i≠none):StepM P N ops o mo F H rd' wr' v H1:=by
 refine ⟨fun i hi=>?_,fun i hi=>hs.on i (hw i hi),?_⟩
 ·by_cases h:i∈wr
  ·exact (hm i h hi).1
  ·exact hs.off i h
 ·have e1:(fun i=>i∈rd'\/i∈wr')=(fun i=>i∈rd\/i∈wr):=funext fun i=>propext (hall i)
  have e2:(fun i=>i∈wr'/\get H i=none)=(fun i=>i∈wr/\get H i=none):=funext fun i=>propext ⟨fun h=>⟨hw i h.1,h.2⟩,fun h=>⟨Classical.byContradiction fun hn=>(hm i h.1 hn).2 h.2,h.2⟩⟩
  intro rn S ρ a w Q K h1 h2 h3 h4 h5 h6 h7
  rw [e1] at h5
  rw [e1,e2] at h7
  exact hs.gt rn S ρ a w Q K h1 h2 h3 h4 h5 (fun i hi hn=>h6 i (Classical.byContradiction fun hn'=>(hm i hi hn').2 hn) hn) h7
theorem step_part (hG:GOK G gl gk) (hi:Inv h' nx') {o:Oper} {mo:MOper} {F:Fr} {v:AV} (hsub:∀ i ob,get G i=some ob->get Hl i=some ob) (hs:StepM P N ops o mo F Hl [] (Qa (toHp G σ h')) v (toHp G σ h'++Hl)) :
  ∃ rd' wr',StepM P N ops o mo F Hl rd' wr' v (toHp G σ h'++Hl)/\(∀ i,i∈rd'->i∈gk)/\(∀ i,i∈wr'->i∈namesE h' nx'):=by
 have key:∀ i,i∈Qa (toHp G σ h') ↔ (gH h' i≠none\/get G i≠none):=fun i=>by
  rw [Qp,X1]
  unfold hpF
  cases hg:gH h' i with
  | none=>simp
  | some o=>simp
 have far:∀ i,get G i≠none->gH h' i=none:=fun i hg=>by
  cases hgg:get G i with
  | none=>exact absurd hgg hg
  | some ob=>exact gH_ge h' (by have:=(hG.far i ob hgg).1; omega)
 refine ⟨Qa G,(Qa (toHp G σ h')).filter fun i=>isS (gH h' i),stepM_move hs (fun i=>?_) (fun i hi=>(List.mem_filter.1 hi).1) (fun i h1 h2=>?_),fun i hi=>?_,fun i hi'=>?_⟩
 ·rw [List.mem_filter,key,Qp,isS_iff]
  constructor
  ·rintro (h | h)
   ·exact .inr (.inr h)
   ·exact .inr h.1
  ·rintro (h | h | h)
   ·cases h
   ·exact .inr ⟨.inl h,h⟩
   ·exact .inl h
 ·rw [List.mem_filter,isS_iff] at h2
  have hgn:gH h' i=none:=Classical.byContradiction fun hn=>h2 ⟨h1,hn⟩
  have hgG:get G i≠none:=((key i).1 h1).resolve_left fun h=>h hgn
  cases hgg:get G i with
  | none=>exact absurd hgg hgG
  | some ob =>
   rw [QU,X1,hpF_G hG hgg,hsub i ob hgg]
   exact ⟨rfl,by simp⟩
 ·cases hgg:get G i with
  | none=>exact absurd hgg (Qp.1 hi)
  | some ob=>exact (hG.far i ob hgg).2.1
 ·have h2:=isS_iff.1 (List.mem_filter.1 hi').2
  exact namesE_mem (Nat.lt_of_not_le fun hl=>h2 (hi.fresh i hl)) h2
theorem all_sc' {D:List Nat} {k:HT} {i:Nat} (hG:GOK G gl gk) (hw:Wf P σ h) (hn:∀ o,gH h i=some o->nmEO k o=true) (hD:∀ i,gH k i≠none->i∈D) {ob:Ob} (e:hpF G σ h i=some ob):Q4 D ob=true:=by
 unfold hpF at e
 cases hg:gH h i with
 | none =>
  rw [hg] at e
  obtain ⟨_,_,g,cs,rfl⟩:=hG.far i ob e
  rfl
 | some o =>
  rw [hg] at e
  injection e with e
  have hno:=hn o hg
  cases o with
  | ob o=>subst e; exact nmOb_sc hD hno
  | lp ps x y F =>
   obtain ⟨N,r,Fl,_,h1,_,h2,h3,_⟩:=hw.lp i ps x y F hg
   simp only [conc] at e
   rw [h1] at e; subst e
   exact fr_sc hD hno h2 h3
  | busy F =>
   obtain ⟨r,Fl,h1,h2,h3⟩:=hw.busy i F hg
   simp only [conc] at e
   rw [h1] at e; subst e
   exact fr_sc hD hno h2 h3
  | done F =>
   obtain ⟨r,Fl,h1,h2,h3⟩:=hw.done i F hg
   simp only [conc] at e
   rw [h1] at e; subst e
   exact fr_sc hD hno h2 h3
theorem all_sc {D:List Nat} (hG:GOK G gl gk) (hi:Inv h nx) (hw:Wf P σ h) (hn:nmAll h nx=true) (hD:∀ i,gH h i≠none->i∈D) {i:Nat} {ob:Ob} (e:hpF G σ h i=some ob):Q4 D ob=true :=
 all_sc' hG hw (fun o hg=>nmAll_at hn i o (Nat.lt_of_not_le fun hl=>by rw [hi.fresh i hl] at hg; cases hg) hg) hD e
theorem names_hl (hH:get Hl=hpF G σ h):∀ i,gH h i≠none->i∈Qa Hl:=fun i hi=>by
 rw [Qp,hH]
 unfold hpF
 cases hg:gH h i with
 | none=>exact absurd hg hi
 | some o=>simp
theorem hpF_sub (hG:GOK G gl gk) (hs:∀ i o,gH hr i=some o->gH h i=some o) {i:Nat} {ob:Ob} (e:hpF G σ hr i=some ob):hpF G σ h i=some ob:=by
 unfold hpF at e
 cases hg:gH hr i with
 | some o=>rw [hg] at e; unfold hpF; rw [hs i o hg]; exact e
 | none=>rw [hg] at e; exact hpF_G hG e
theorem hpF_ov (hG:GOK G gl gk) (hov:∀ i,gH h' i=match gH h1 i with | some o=>some o | none=>gH h i) (i:Nat):(hpF G σ h1 i).or (hpF G σ h i)=hpF G σ h' i:=by
 have ho:=hov i
 cases hg:gH h1 i with
 | some o =>
  rw [hg] at ho
  unfold hpF
  rw [hg,ho]; rfl
 | none =>
  rw [hg] at ho
  replace ho:gH h' i=gH h i:=ho
  have e1:hpF G σ h1 i=get G i:=by unfold hpF; rw [hg]
  have e2:hpF G σ h' i=hpF G σ h i:=by unfold hpF; rw [ho]
  rw [e1,e2]
  cases hgg:get G i with
  | none=>rfl
  | some ob=>rw [hpF_G hG hgg]; rfl
theorem Wf.sub (hw:Wf P σ h) (hs:∀ i o,gH hr i=some o->gH h i=some o):Wf P σ hr :=
 ⟨fun i ps x y F e=>hw.lp i ps x y F (hs i _ e),fun i F e=>hw.busy i F (hs i _ e),fun i F e=>hw.done i F (hs i _ e)⟩
theorem Inv.sub (hi:Inv h nx) (hs:∀ i o,gH hr i=some o->gH h i=some o):Inv hr nx :=
 ⟨hi.top,fun i hl=>(by
  cases hg:gH hr i with
  | none=>rfl
  | some o=>have:=hs i o hg; rw [hi.fresh i hl] at this; cases this),fun i o e=>hi.fm i o (hs i _ e)⟩
theorem Adv.ov (a:Adv hr nx h1 nx') (hi:Inv h nx) (hs:∀ i o,gH hr i=some o->gH h i=some o) (hov:∀ i,gH h' i=match gH h1 i with | some o=>some o | none=>gH h i):Adv h nx h' nx':=by
 have cs:∀ i o,gH h' i=some o->gH h1 i=some o\/gH h i=some o:=fun i o e=>by
  rw [hov] at e
  cases hg:gH h1 i with
  | none=>rw [hg] at e; exact .inr e
  | some o'=>rw [hg] at e; exact .inl e
 refine ⟨⟨a.inv.top,fun i hl=>?_,fun i o e=>(cs i _ e).elim (fun e=>a.inv.fm i o e) fun e=>hi.fm i o e⟩,fun i hi' e=>?_,a.le,fun i F e=>?_,fun i e=>?_,fun i ps x y F e=>(cs i _ e).elim (fun e=>hs i _ (a.lb i ps x y F e)) id,
  fun i F e=>(cs i _ e).elim (fun e=>hs i _ (a.bb i F e)) id,fun i F e=>(cs i _ e).elim (fun e=>(a.db i F e).elim (fun e=>.inl (hs i _ e)) fun ⟨ps,x,y,e⟩=>.inr ⟨ps,x,y,hs i _ e⟩) .inl⟩
 ·rw [hov,a.inv.fresh i hl]; exact hi.fresh i (Nat.le_trans a.le hl)
 ·rw [hov] at e
  cases hg:gH h1 i with
  | none=>rw [hg] at e; exact hi' e
  | some o=>rw [hg] at e; cases e
 ·rw [hov]
  cases hg:gH h1 i with
  | none=>exact e
  | some o =>
   rcases a.nw i (by rw [hg]; simp) with hn | hn
   ·cases hgr:gH hr i with
    | none=>exact absurd hgr hn
    | some o' =>
     have:=hs i o' hgr
     rw [e] at this; injection this with this; subst this
     have:=a.bs i F hgr
     rw [hg] at this; exact this
   ·rw [hi.fresh i hn] at e; cases e
 ·rw [hov] at e
  cases hg:gH h1 i with
  | none=>rw [hg] at e; exact .inl e
  | some o =>
   rcases a.nw i (by rw [hg]; simp) with hn | hn
   ·cases hgr:gH hr i with
    | none=>exact absurd hgr hn
    | some o'=>exact .inl (by rw [hs i o' hgr]; simp)
   ·exact .inr hn
end
theorem reach_sub {h:HT}:∀ (n:Nat) (todo:List Nat) (A:HT),(∀ i o,gH A i=some o->gH h i=some o)->∀ i o,gH (reachE h n todo A) i=some o->gH h i=some o
 | 0,todo,A,hA=>hA
 | n+1,[],A,hA=>hA
 | n+1,k::l,A,hA=>by
  have e:reachE h (n+1) (k::l) A = @Option.rec EO (fun _=>HT) (@Option.rec EO (fun _=>HT) (reachE h n l A) (fun o=>reachE h n (rnEO o l) (sH A k o)) (gH h k)) (fun _=>reachE h n l A) (gH A k):=rfl
  rw [e]
  cases gH A k with
  | some o=>exact reach_sub n l A hA
  | none =>
   cases hk:gH h k with
   | none=>exact reach_sub n l A hA
   | some o =>
    refine reach_sub n (rnEO o l) (sH A k o) fun i o' ho=>?_
    rw [gH_sH A (gH_lt hk)] at ho
    split at ho
    ·rename_i e; subst e; rw [hk]; exact ho
    ·exact hA i o' ho
theorem ovE_succ (h1:HT) (n:Nat) (h:HT):ovE h1 (n+1) h = @Option.rec EO (fun _=>HT) (ovE h1 n h) (fun o=>sH (ovE h1 n h) n o) (gH h1 n):=rfl
theorem gH_ovE (h1:HT) (h:HT) (i:Nat) (n:Nat) (hn:n<=4096):gH (ovE h1 n h) i=if i<n then (match gH h1 i with | some o=>some o | none=>gH h i) else gH h i:=by
 induction n with
 | zero=>rw [if_neg (Nat.not_lt_zero i)]; rfl
 | succ n ih =>
  have ih:=ih (by omega)
  rw [ovE_succ]
  cases hg:gH h1 n with
  | none =>
   show gH (ovE h1 n h) i=_
   rw [ih]
   by_cases hin:i=n
   ·subst hin; simp [hg]
   ·by_cases hlt:i<n
    ·rw [if_pos hlt,if_pos (by omega)]
    ·rw [if_neg hlt,if_neg (by omega)]
  | some o =>
   show gH (sH (ovE h1 n h) n o) i=_
   rw [gH_sH _ (by omega),ih]
   by_cases hin:n=i
   ·subst hin; simp [hg]
   ·rw [if_neg hin]
    by_cases hlt:i<n
    ·rw [if_pos hlt,if_pos (by omega)]
    ·rw [if_neg hlt,if_neg (by omega)]
end Go.Proofs.YthmbjgnjfjjibaaGreatDoor
namespace Go.Proofs.YthmbjgnjfjjibaaGreatDoor
open Go.RowKit
set_option maxRecDepth 100000
def PostK (G:Hp) (σ:Nat->Ob) (e:Exit) (F':FT) (h':HT):Post:=fun e1 F1 H1=>e1=e/\get F1=gF F'/\get H1=hpF G σ h'
structure CoK (P:Program) (G:Hp) (c:MC) (F:FT) (h:HT) (nx:Nat) (e:Exit) (F':FT) (h':HT) (nx':Nat):Prop where
 adv:Adv h nx h' nx'
 ex:∀ l,e ≠ .goto l
 aw:∀ σ,Wf P σ h->∀ N,N<=256->∀ Z rn,(rn=none\/plC c=true)->∀ Fl Hl,get Fl=gF F->get Hl=hpF G σ h->AW P N Z rn c (PostK G σ e F' h') Fl Hl
def SCo (P:Program) (G:Hp) (co:CoT):Prop:=∀ {c:MC} {F:FT} {h:HT} {nx:Nat} {e:Exit} {F':FT} {h':HT} {nx':Nat},co c F h nx = .ok e F' h' nx'->Inv h nx->CoK P G c F h nx e F' h' nx'
variable {F:FT}
variable {r:Rs}
section
variable {e:Exit} {F':FT} {h':HT} {nx':Nat}
theorem seqR_inv {k:KT} (q:seqR r k = .ok e F' h' nx'):(∃ F1 h1 n1,r = .ok .normal F1 h1 n1/\k F1 h1 n1 = .ok e F' h' nx')\/(((∃ i,e = .exit i)\/e = .ret)/\r = .ok e F' h' nx'):=by
 cases r with
 | no=>cases q
 | ok e0 F1 h1 n1 =>
  cases e0 with
  | normal=>exact .inl ⟨F1,h1,n1,rfl,q⟩
  | exit i =>
   have q:Rs.ok (.exit i) F1 h1 n1 = .ok e F' h' nx':=q
   injection q with q1 q2 q3 q4
   subst q1 q2 q3 q4
   exact .inr ⟨.inl ⟨i,rfl⟩,rfl⟩
  | ret =>
   have q:Rs.ok .ret F1 h1 n1 = .ok e F' h' nx':=q
   injection q with q1 q2 q3 q4
   subst q1 q2 q3 q4
   exact .inr ⟨.inr rfl,rfl⟩
  | _=>cases q
theorem seqN_inv {k:KT} (q:seqN r k = .ok e F' h' nx'):∃ F1 h1 n1,r = .ok .normal F1 h1 n1/\k F1 h1 n1 = .ok e F' h' nx':=by
 unfold seqN at q
 split at q
 ·rename_i F1 h1 n1; exact ⟨F1,h1,n1,rfl,q⟩
 ·cases q
theorem blkR_inv {id:Nat} (q:blkR id r = .ok e F' h' nx'):(e = .normal/\(r = .ok .normal F' h' nx'\/r = .ok (.exit id) F' h' nx'))\/(∃ i,e = .exit i/\i≠id/\r = .ok e F' h' nx')\/(e = .ret/\r = .ok e F' h' nx'):=by
 cases r with
 | no=>cases q
 | ok e0 F1 h1 n1 =>
  cases e0 with
  | normal =>
   have q:Rs.ok .normal F1 h1 n1 = .ok e F' h' nx':=q
   injection q with q1 q2 q3 q4
   subst q1 q2 q3 q4
   exact .inl ⟨rfl,.inl rfl⟩
  | exit i =>
   have q:Q6 (Nat.beq i id) (Rs.ok .normal F1 h1 n1) (.ok (.exit i) F1 h1 n1) = .ok e F' h' nx':=q
   rw [QJ] at q
   split at q
   ·rename_i hb
    have hb:=Nat.eq_of_beq_eq_true hb
    injection q with q1 q2 q3 q4
    subst q1 q2 q3 q4 hb
    exact .inl ⟨rfl,.inr rfl⟩
   ·rename_i hb
    injection q with q1 q2 q3 q4
    subst q1 q2 q3 q4
    exact .inr (.inl ⟨i,rfl,fun e=>hb (by subst e; exact Nat.beq_refl i),rfl⟩)
  | ret =>
   have q:Rs.ok .ret F1 h1 n1 = .ok e F' h' nx':=q
   injection q with q1 q2 q3 q4
   subst q1 q2 q3 q4
   exact .inr (.inr ⟨rfl,rfl⟩)
  | _=>cases q
theorem condR_inv {x:Arg} {a b:Rs} (q:condR F x a b = .ok e F' h' nx'):∃ t,QE F x=some (.bool t)/\(if t=true then a else b) = .ok e F' h' nx':=by
 unfold condR at q
 cases hx:QE F x with
 | none=>rw [hx] at q; cases q
 | some v =>
  rw [hx] at q
  cases v with
  | bool t =>
   have q:Q6 t a b = .ok e F' h' nx':=q
   rw [QJ] at q
   exact ⟨t,rfl,q⟩
  | _=>cases q
theorem regR_inv {r:Os} {ops:List MOper} {draw:Bool} (q:regR r ops draw = .ok e F' h' nx'):e = .normal/\∃ fps,r = .ok F' h' nx' fps/\(draw=true->okDr ops fps=true):=by
 cases r with
 | no=>cases q
 | ok F1 h1 n1 fps =>
  have q:Q6 draw (Q6 (okDr ops fps) (Rs.ok .normal F1 h1 n1) .no) (.ok .normal F1 h1 n1) = .ok e F' h' nx':=q
  rw [QJ] at q
  split at q
  ·rw [QJ] at q
   split at q
   ·rename_i hb
    injection q with q1 q2 q3 q4
    subst q1 q2 q3 q4
    exact ⟨rfl,fps,rfl,fun _=>hb⟩
   ·cases q
  ·rename_i hd
   injection q with q1 q2 q3 q4
   subst q1 q2 q3 q4
   exact ⟨rfl,fps,rfl,fun h=>absurd h hd⟩
theorem oR_inv {α:Type} {x:Option α} {k:α->Rs} (q:oR x k = .ok e F' h' nx'):∃ a,x=some a/\k a = .ok e F' h' nx':=by
 cases x with
 | none=>cases q
 | some a=>exact ⟨a,rfl,q⟩
end
variable {h:HT}
theorem inv_sH {nx:Nat} {i:Nat} {o:EO} (hi:Inv h nx) (hin:i<nx) (ho:∀ b,o = .ob b->noFm b=true):Inv (sH h i o) nx:=by
 have top:=hi.top
 have hg:=fun j=>gH_sH h (n:=i) (by omega) j o
 refine ⟨hi.top,fun j hj=>?_,fun j b e=>?_⟩
 ·rw [hg,if_neg (by omega)]; exact hi.fresh j hj
 ·rw [hg] at e
  split at e
  ·injection e with e; exact ho b e
  ·exact hi.fm j b e
theorem inv_sH' {nx:Nat} {o:EO} (hi:Inv h nx) (hn:nx<=4090) (ho:∀ b,o ≠ .ob b):Inv (sH h nx o) (nx+1):=by
 have hg:=fun j=>gH_sH h (n:=nx) (by omega) j o
 refine ⟨by omega,fun j hj=>?_,fun j b e=>?_⟩
 ·rw [hg,if_neg (by omega)]; exact hi.fresh j (by omega)
 ·rw [hg] at e
  split at e
  ·injection e with e; exact absurd e (ho b)
  ·exact hi.fm j b e
variable {ps:List Nat}
theorem comp_rfunc {P:Program} {N:Nat} {g:Arg} {x y:MC} {code:Code} (hc:Qq P N code=some (.rfunc g ps x y)):ps.all (fun p=>decide (p<N))=true:=by
 cases code <;> simp [Qq] at hc
 case rangeFunc gop ps' ca cb =>
  split at hc
  ·split at hc
   ·rename_i hps
    simp at hc
    obtain ⟨rfl,rfl,rfl,rfl⟩:=hc
    simpa using hps
   ·cases hc
  ·cases hc
 all_goals (repeat' split at hc) <;> cases hc
theorem fpLe_mk {a b c d:List Nat} (h1:∀ i,i∈a->i∈c) (h2:∀ i,i∈b->i∈d):FpLe (a,b) (c,d):=⟨h1,h2⟩
def setS (σ:Nat->Ob) (i:Nat) (o:Ob):Nat->Ob:=fun j=>if j=i then o else σ j
variable {σ:Nat->Ob}
theorem setS_ne {i:Nat} {o:Ob}:∀ j,j≠i->setS σ i o j=σ j:=fun j hj=>by simp [setS,hj]
theorem setS_at {i:Nat} {o:Ob}:setS σ i o i=o:=by simp [setS]
section
variable {P:Program} {G:Hp} {gl:GlT} {gk:List Nat} {σ:Nat->Ob} {co:CoT}
theorem yEnd_inv {i:Nat} {x y:MC} {v:AV} {h':HT} {nx':Nat} {rd wr:List Nat} (q:yEnd gk i ps x y F r = .ok v h' nx' rd wr) :
  ∃ e F2 h2 o,r = .ok e F2 h2 nx'/\h'=sH h2 i o/\rd=gk/\wr=namesE h' nx'/\((e = .normal/\v = .bool true/\o = .lp ps x y F)\/(e = .ret/\v = .bool false/\o = .done F)):=by
 unfold yEnd at q
 split at q
 ·rename_i F2 h2 n2
  unfold yPut at q
  injection q with q1 q2 q3 q4 q5
  subst q1 q2 q3 q4 q5
  exact ⟨_,F2,h2,_,rfl,rfl,rfl,rfl,.inl ⟨rfl,rfl,rfl⟩⟩
 ·rename_i F2 h2 n2
  unfold yPut at q
  injection q with q1 q2 q3 q4 q5
  subst q1 q2 q3 q4 q5
  exact ⟨_,F2,h2,_,rfl,rfl,rfl,rfl,.inr ⟨rfl,rfl,rfl⟩⟩
 ·cases q
theorem yield_ok (hG:GOK G gl gk) (hco:SCo P G co):SYd P G (yieldE gk co):=by
 intro i vs h nx r h' nx' rd wr q hi
 unfold yieldE at q
 split at q
 ·rename_i ps x y F hgi
  split at q
  ·rename_i hb
   rw [J8,J8,Bool.and_eq_true,Bool.and_eq_true] at hb
   obtain ⟨hlen,hnl,hna⟩:=hb
   replace hlen:=Nat.eq_of_beq_eq_true hlen
   obtain ⟨e0,F2,h2,o,q9,rfl,rfl,rfl,hcase⟩:=yEnd_inv q
   obtain ⟨F1,h1,n1,qx,qy⟩:=seqN_inv q9
   have hin:i<nx:=Nat.lt_of_not_le fun hl=>by rw [hi.fresh i hl] at hgi; cases hgi
   have top:=hi.top
   have i4:i<4096:=by omega
   have inv0:Inv (sH h i (.busy F)) nx:=inv_sH hi hin fun b e=>by cases e
   have g0:=fun j=>gH_sH h (n:=i) i4 j (EO.busy F)
   have kx:=hco qx inv0
   have ky:=hco qy kx.adv.inv
   have a02:=kx.adv.trans ky.adv
   have ho:∀ b,o ≠ .ob b:=fun b e=>by subst e; rcases hcase with ⟨_,_,e⟩ | ⟨_,_,e⟩ <;> cases e
   have g2:=fun j=>gH_sH h2 (n:=i) i4 j o
   have hb1:gH h1 i=some (.busy F):=kx.adv.bs i F (by rw [g0,if_pos rfl])
   have hb2:gH h2 i=some (.busy F):=ky.adv.bs i F hb1
   have adv:Adv h nx (sH h2 i o) nx':=by
    refine ⟨inv_sH a02.inv (Nat.lt_of_lt_of_le hin a02.le) (fun b e=>absurd e (ho b)),fun j hj=>?_,a02.le,fun j Fj hj=>?_,fun j hj=>?_,fun j ps' x' y' F' hj=>?_,fun j Fj hj=>?_,fun j Fj hj=>?_⟩
    ·rw [g2]
     split
     ·simp
     ·rename_i hne; exact a02.dom j (by rw [g0,if_neg hne]; exact hj)
    ·have hne:i≠j:=fun e=>by subst e; rw [hgi] at hj; cases hj
     rw [g2,if_neg hne]; exact a02.bs j Fj (by rw [g0,if_neg hne]; exact hj)
    ·rw [g2] at hj
     split at hj
     ·rename_i e; subst e
      exact .inl (by rw [hgi]; simp)
     ·rename_i hne
      have:=a02.nw j hj
      rwa [g0,if_neg hne] at this
    ·rw [g2] at hj
     split at hj
     ·rename_i e; subst e
      injection hj with hj
      rcases hcase with ⟨_,_,e⟩ | ⟨_,_,e⟩
      ·rw [e] at hj; injection hj with e1 e2 e3 e4; subst e1 e2 e3 e4; exact hgi
      ·rw [e] at hj; cases hj
     ·rename_i hne
      have:=a02.lb j _ _ _ _ hj
      rw [g0,if_neg hne] at this; exact this
    ·rw [g2] at hj
     split at hj
     ·injection hj with hj
      rcases hcase with ⟨_,_,e⟩ | ⟨_,_,e⟩ <;> (rw [e] at hj; cases hj)
     ·rename_i hne
      have:=a02.bb j _ hj
      rw [g0,if_neg hne] at this; exact this
    ·rw [g2] at hj
     split at hj
     ·rename_i e; subst e
      injection hj with hj
      rcases hcase with ⟨_,_,e⟩ | ⟨_,_,e⟩
      ·rw [e] at hj; cases hj
      ·rw [e] at hj; injection hj with e1; subst e1; exact .inr ⟨_,_,_,hgi⟩
     ·rename_i hne
      have:=a02.db j _ hj
      rw [g0,if_neg hne] at this; exact this
   refine ⟨adv,fun {σ N ops o' mo Fl Hl} hw hc hg hent hH=>?_⟩
   obtain ⟨N0,r0,Fl0,hN0,s1,s2,s3,s4,s5,s6,s7⟩:=hw.lp i ps x y F hgi
   have hlist:∀ (ob:Ob),get ((i,ob)::Hl)=fun j=>if i=j then some ob else hpF G σ h j:=fun ob=>by rw [get_cons,hH]
   -- a round
   have wf0:∀ ob:Loop,Wf P (setS σ i (.lp ob Fl0)) (sH h i (.busy F)):=fun ob=>by
    refine ⟨fun j ps' x' y' F' hj=>?_,fun j F' hj=>?_,fun j F' hj=>?_⟩
    ·rw [g0] at hj
     split at hj
     ·cases hj
     ·rename_i hne; rw [setS_ne j (Ne.symm hne)]; exact hw.lp j _ _ _ _ hj
    ·rw [g0] at hj
     split at hj
     ·rename_i e; subst e; injection hj with hj; injection hj with hj; subst hj
      exact ⟨ob,Fl0,setS_at,s3,s4⟩
     ·rename_i hne; rw [setS_ne j (Ne.symm hne)]; exact hw.busy j _ hj
    ·rw [g0] at hj
     split at hj
     ·cases hj
     ·rename_i hne; rw [setS_ne j (Ne.symm hne)]; exact hw.done j _ hj
   have hp0:∀ ob:Loop,get ((i,.lp ob Fl0)::Hl)=hpF G (setS σ i (.lp ob Fl0)) (sH h i (.busy F)):=fun ob=>by
    rw [hlist,hpF_sig (σ:=σ) (i:=i) setS_ne (q:=.busy F) (by rw [g0,if_pos rfl])]
    funext j
    by_cases e:i=j
    ·subst e; simp [conc,setS_at]
    ·rw [if_neg e,if_neg e,hpF_put i4]; simp only [if_neg e]
   have hp12:∀ (k:HT),gH k i=some (.busy F)->∀ ob:Loop,get ((i,.lp ob Fl0)::toHp G σ k)=hpF G (setS σ i (.lp ob Fl0)) k:=fun k hk ob=>by
    rw [get_cons,X1,hpF_sig (σ:=σ) (i:=i) setS_ne hk]
    funext j
    by_cases e:i=j
    ·subst e; simp [conc,setS_at]
    ·rw [if_neg e,if_neg e]
   have nn:∀ j,get ((i,Ob.dead)::Hl) j≠none->get ((i,Ob.dead)::toHp G σ h2) j≠none:=fun j hj=>by
    rw [hlist] at hj
    rw [get_cons,X1]
    by_cases e:i=j
    ·simp [e]
    ·simp only [if_neg e] at hj ⊢
     intro e2
     refine hj (hpF_dom (h:=h) (h':=h2) (fun k hk=>?_) e2)
     by_cases ek:i=k
     ·subst ek; rw [hb2]; simp
     ·exact a02.dom k (by rw [g0,if_neg ek]; exact hk)
   obtain ⟨jump,hej,hv,hr1⟩:∃ jump:Option Code,((e0 = .normal/\jump=none)\/(e0 = .ret/\jump=some .ret))/\r = .bool jump.isNone ∧
     Ob.lp { r0 with state:=if jump.isNone then .ready else .done,pending:=jump } Fl0=conc σ i o:=by
    rcases hcase with ⟨e1,e2,e3⟩ | ⟨e1,e2,e3⟩
    ·exact ⟨none,.inl ⟨e1,rfl⟩,e2,by rw [rec_same s2.state s2.pending,e3]; exact s1.symm⟩
    ·refine ⟨some .ret,.inr ⟨e1,rfl⟩,e2,?_⟩
     rw [e3]; simp only [conc,s1]; rfl
   have hfc:=Jm (P:=P) (N:=N0) s2.ca s2.cb (li:=i) (ps:=ps) (vs:=vs) (J:=Hl) (J1:=toHp G σ h1) (J':=toHp G σ h2) (Fb:=toFr F1) (Z0:=Qa ((i,Ob.dead)::Hl)) e0 jump hej s5 hlen
    (fun j hj=>Qp.1 hj) (by simp [Qa]) (fun j hj=>Qp.2 hj) (fun j hj=>nn j (Qp.1 hj)) s2.state s2.params rfl rfl s2.size (fun t v hv=>Js hv)
    (fun l ob=>XG (kx.aw (setS σ i (.lp ob Fl0)) (wf0 ob) N0 hN0 _ (some l) (.inr s6) (putPs Fl0 ps vs) ((i,.lp ob Fl0)::Hl) (get_putPs hN0 ps vs Fl0 F s5 s3) (hp0 ob)) fun e F3 H3 ⟨p1,p2,p3⟩ =>
     ⟨p1,weak_eq (p2.trans (get_toFr F1).symm) (p3.trans (hp12 h1 hb1 ob).symm)⟩)
    (fun l ob=>XG (ky.aw (setS σ i (.lp ob Fl0)) (kx.adv.wf (wf0 ob)) N0 hN0 _ (some l) (.inr s7) (toFr F1) ((i,.lp ob Fl0)::toHp G σ h1) (get_toFr F1) (hp12 h1 hb1 ob)) fun e F3 H3 ⟨p1,p2,p3⟩ =>
     ⟨p1,weak_nil (p3.trans (hp12 h2 hb2 ob).symm)⟩)
   have hfin:get ((i,conc σ i o)::toHp G σ h2)=hpF G σ (sH h2 i o):=by rw [get_cons,X1,hpF_put i4]
   have hfc2:FCg (XB P) (.yl i::vs) Hl r (toHp G σ (sH h2 i o)) true:=by
    rw [hv]
    refine fcg_eq hfc ?_ ?_
    ·rw [hlist,hH]
     funext j
     by_cases e:i=j
     ·subst e; simp [hpF,hgi,conc,s1]
     ·rw [if_neg e]
    ·rw [hr1,hfin,X1]
   have hD:=names_hl hH
   have hst:=step_callg (sem:=XB P) yieldSem_mono hc hg hent hfc2 (rd:=[])
    (hands_same (by
     simp only [Qy,Qr,Bool.and_eq_true]
     exact ⟨List.contains_iff_mem.2 (hD i fun e=>by rw [hgi] at e; cases e),nmL_sc hD vs hnl⟩)) (fun e=>by cases e) (fun j ob hj=>hj)
    (fun j ob hj=>all_sc hG hi hw hna hD (by rw [← hH]; exact hj)) (fun j hj=>by cases hj) (fun j _ hj=>hj)
    (fun j hj hj'=>hj (by rw [hH]; rw [X1] at hj'; exact hpF_dom adv.dom hj'))
   obtain ⟨rd',wr',hst',w1,w2⟩:=step_part hG adv.inv (fun j ob hj=>by rw [hH]; exact hpF_G hG hj) hst
   exact ⟨rd',wr',_,hst',fpLe_mk w1 w2,get_over adv.dom hH⟩
  ·cases q
 ·cases q
end
end Go.Proofs.YthmbjgnjfjjibaaGreatDoor
namespace Go.Proofs.YthmbjgnjfjjibaaGreatDoor
open Go.RowKit
set_option maxRecDepth 100000
theorem pl_seq {a b:MC} (h:plC (.seq a b)=true):plC a=true/\plC b=true:=by
 have h:QM (plC a) (plC b)=true:=h
 rwa [J8,Bool.and_eq_true] at h
theorem pl_cond {x:Arg} {a b:MC} (h:plC (.cond x a b)=true):plC a=true/\plC b=true:=by
 have h:QM (plC a) (plC b)=true:=h
 rwa [J8,Bool.and_eq_true] at h
theorem nodupK_append {α:Type}:∀ {A B:List (Nat×α)},Xn A=true->Xn B=true->(∀ i,get A i≠none->get B i=none)->Xn (A++B)=true
 | [],B,_,hB,_=>hB
 | (k,v)::A,B,hA,hB,hd=>by
  simp only [Xn,Bool.and_eq_true,Option.isNone_iff_eq_none] at hA
  simp only [List.cons_append,Xn,Bool.and_eq_true,Option.isNone_iff_eq_none]
  refine ⟨?_,nodupK_append hA.2 hB fun i hi=>hd i fun e=>?_⟩
  ·rw [QU,hA.1]
   exact hd k (by simp [get])
  ·simp only [get] at e
   split at e
   ·cases e
   ·exact hi e
theorem subH_of {H:Hp}:∀ {L:Hp},(∀ x,x∈L->get H x.1=some x.2)->SubH H L
 | [],_=>.nil
 | (i,ob)::L,h=>.cons (h (i,ob) (by simp)) (subH_of fun x hx=>h x (by simp [hx]))
theorem get_filter {α:Type} (k:Nat):∀ (L:List (Nat×α)) (i:Nat),get (L.filter fun z=>z.1 != k) i=if k=i then none else get L i
 | [],i=>by simp [get]
 | (a,v)::L,i=>by
  have ih:=get_filter k L i
  by_cases ha:a=k
  ·subst ha
   rw [List.filter_cons_of_neg (by simp),ih]
   by_cases e:a=i
   ·simp [e]
   ·simp [get,e]
  ·rw [List.filter_cons_of_pos (by simpa using ha)]
   simp only [get,ih]
   by_cases e:a=i
   ·subst e; simp [Ne.symm ha]
   ·simp [e]
variable {F F':FT} {h h':HT} {ps:List Nat} {nx':Nat}
section
variable {P:Program} {G:Hp} {gl:GlT} {gk:List Nat} {σ:Nat->Ob} {co:CoT} {cl:X5} {sh:Nat->Bool}
theorem nodup_toHp (hG:GOK G gl gk) (hnd:Xn G=true) (h:HT):Xn (toHp G σ h)=true:=by
 unfold toHp
 refine nodupK_append (nodupK_fm _ _ List.nodup_range) hnd fun i hi=>?_
 rw [get_fm] at hi
 cases hg:get G i with
 | none=>rfl
 | some ob =>
  have:=(hG.far i ob hg).1
  rw [if_neg (fun e=>by have:=List.mem_range.1 e; omega)] at hi
  exact absurd rfl hi
theorem rfE_inv {x y:MC} {nx:Nat} {g:AV} {e:Exit} (q:rfE P sh cl ps x y F h nx g = .ok e F' h' nx') :
  ∃ f cs r h1 rd wr,g = .fn (.func f) cs/\sh f=true/\Xj P f=true/\nx<=4090/\plC x=true/\plC y=true/\nmF h F=true/\cl f (.yl nx::cs) (sH h nx (.lp ps x y F)) (nx+1) = .ok r h1 nx' rd wr/\F'=F/\h'=sH h1 nx (.ob .dead) ∧
   ((e = .normal/\∃ ps' x' y' F0,gH h1 nx=some (.lp ps' x' y' F0))\/(e = .ret/\∃ F0,gH h1 nx=some (.done F0))):=by
 unfold rfE at q
 split at q
 ·rename_i f cs
  split at q
  ·rename_i hb
   simp only [Bool.and_eq_true] at hb
   obtain ⟨⟨⟨⟨⟨b1,b2⟩,b3⟩,b4⟩,b5⟩,b6⟩:=hb
   unfold rfEnd at q
   split at q
   ·rename_i r h1 n1 rd wr hcl
    split at q
    ·rename_i ps' x' y' F0 hg
     injection q with q1 q2 q3 q4
     subst q1 q2 q3 q4
     exact ⟨f,cs,r,h1,rd,wr,rfl,b1,b2,Nat.le_of_ble_eq_true b3,b4,b5,b6,hcl,rfl,rfl,.inl ⟨rfl,_,_,_,_,hg⟩⟩
    ·rename_i F0 hg
     injection q with q1 q2 q3 q4
     subst q1 q2 q3 q4
     exact ⟨f,cs,r,h1,rd,wr,rfl,b1,b2,Nat.le_of_ble_eq_true b3,b4,b5,b6,hcl,rfl,rfl,.inr ⟨rfl,_,hg⟩⟩
    ·cases q
   ·cases q
  ·cases q
 ·cases q
theorem rfunc_ok (hG:GOK G gl gk) (hnd:Xn G=true) (hcl:SCl P G sh cl) {g:Arg} {x y:MC} {nx:Nat} {v:AV} {e:Exit} (hv:QE F g=some v)
  (q:rfE P sh cl ps x y F h nx v = .ok e F' h' nx') (hi:Inv h nx):CoK P G (.rfunc g ps x y) F h nx e F' h' nx':=by
 obtain ⟨f,cs,r,h1,rd,wr,rfl,hsh,hent,hn,px,py,hnf,qc,rfl,rfl,hcase⟩:=rfE_inv q
 have i4:nx<4096:=by omega
 have inv0:Inv (sH h nx (.lp ps x y F')) (nx+1):=inv_sH' hi hn fun b e=>by cases e
 have g0:=fun j=>gH_sH h (n:=nx) i4 j (EO.lp ps x y F')
 have g2:=fun j=>gH_sH h1 (n:=nx) i4 j (EO.ob .dead)
 obtain ⟨a,_,hsh'⟩:=hcl qc inv0
 obtain ⟨hr,k1,sub,hnl,hna,hov,ak,hfc⟩:=hsh' hsh
 have fr:=hi.fresh nx (Nat.le_refl _)
 have adv:Adv h nx (sH h1 nx (.ob .dead)) nx':=by
  refine ⟨inv_sH a.inv (by have:=a.le; omega) (fun b e=>by injection e with e; subst e; rfl),fun j hj=>?_,by have:=a.le; omega,fun j Fj hj=>?_,fun j hj=>?_,fun j ps' x' y' F1 hj=>?_,fun j Fj hj=>?_,fun j Fj hj=>?_⟩
  ·rw [g2]
   split
   ·simp
   ·rename_i hne; exact a.dom j (by rw [g0,if_neg hne]; exact hj)
  ·have hne:nx≠j:=fun e=>by subst e; rw [fr] at hj; cases hj
   rw [g2,if_neg hne]; exact a.bs j Fj (by rw [g0,if_neg hne]; exact hj)
  ·rw [g2] at hj
   split at hj
   ·rename_i e; exact .inr (Nat.le_of_eq e)
   ·rename_i hne
    have:=a.nw j hj
    rw [g0,if_neg hne] at this
    exact this.imp id fun h=>by omega
  ·rw [g2] at hj
   split at hj
   ·cases hj
   ·rename_i hne
    have:=a.lb j _ _ _ _ hj
    rw [g0,if_neg hne] at this; exact this
  ·rw [g2] at hj
   split at hj
   ·cases hj
   ·rename_i hne
    have:=a.bb j _ hj
    rw [g0,if_neg hne] at this; exact this
  ·rw [g2] at hj
   split at hj
   ·cases hj
   ·rename_i hne
    have:=a.db j _ hj
    rw [g0,if_neg hne] at this; exact this
 refine ⟨adv,fun l el=>(by subst el; rcases hcase with ⟨e,_⟩ | ⟨e,_⟩ <;> cases e),fun σ hw N hN Z rn hp Fl Hl hF hH=>?_⟩
 have hrn:rn=none:=hp.resolve_right fun e=>by cases e
 subst hrn
 refine QC (weak_eq (F':=toFr F') (H':=toHp G σ h) (hF.trans (get_toFr F').symm) (hH.trans (X1 G σ h).symm)) fun code hc=>?_
 have hps:=comp_rfunc hc
 have hgT:=X1 G σ h
 have hfrh:hpF G σ h nx=none:=hpF_none hG hi
 -- the part,without the loop's own name
 have gr:∀ i,nx≠i->∀ o,gH hr i=some o->gH h i=some o:=fun i hne o ho=>by
  have:=sub i o ho
  rwa [g0,if_neg hne] at this
 have rnx:gH hr nx=some (.lp ps x y F'):=by
  have e:QM (isS (gH hr nx)) (nmL hr cs)=true:=hnl
  rw [J8,Bool.and_eq_true] at e
  cases hg:gH hr nx with
  | none=>exact absurd hg (isS_iff.1 e.1)
  | some o =>
   have:=sub nx o hg
   rw [g0,if_pos rfl] at this
   rw [← this]
 have gL:∀ (k:HT) (i:Nat),get ((toHp G σ k).filter fun z=>z.1 != nx) i=if nx=i then none else hpF G σ k i:=fun k i=>by
  rw [get_filter,X1]
 generalize hLr:((toHp G σ hr).filter fun z=>z.1 != nx)=Lr
 have gLr:∀ i,get Lr i=if nx=i then none else hpF G σ hr i:=fun i=>by rw [← hLr]; exact gL hr i
 have memLr:∀ z,z∈Lr->z.1≠nx/\hpF G σ hr z.1=some z.2:=fun z hz=>by
  rw [← hLr,List.mem_filter] at hz
  refine ⟨by simpa using hz.2,?_⟩
  rw [← X1 G σ hr]; exact nodupK_get (nodup_toHp hG hnd hr) hz.1
 have hsubF:∀ i ob,nx≠i->hpF G σ hr i=some ob->hpF G σ h i=some ob:=fun i ob hne e=>by
  unfold hpF at e
  cases hg:gH hr i with
  | some o=>rw [hg] at e; unfold hpF; rw [gr i hne o hg]; exact e
  | none=>rw [hg] at e; exact hpF_G hG e
 have hD:∀ i,gH hr i≠none->i∈nx::Qa Lr:=fun i hi'=>by
  by_cases e:nx=i
  ·subst e; simp
  ·refine List.mem_cons_of_mem _ (Qp.2 ?_)
   rw [gLr,if_neg e]
   unfold hpF
   cases hg:gH hr i with
   | none=>exact absurd hg hi'
   | some o=>simp
 obtain ⟨jump,hej,hr1⟩:∃ jump:Option Code,((e = .normal/\jump=none)\/(e = .ret/\jump=some .ret))/\∀ r0:Loop,Rec0 P N ps x y r0->∃ r1:Loop,r1.state ≠ .busy/\r1.pending=jump ∧
   ∀ q,gH h1 nx=some q->conc (setS σ nx (.lp r0 (toFr F'))) nx q = .lp r1 (toFr F'):=by
  rcases hcase with ⟨e1,ps',x',y',F0,e2⟩ | ⟨e1,F0,e2⟩
  ·exact ⟨none,.inl ⟨e1,rfl⟩,fun r0 hr=>⟨r0,by rw [hr.state]; simp,hr.pending,fun q hq=>by
    have hq':=Option.some.inj (e2.symm.trans hq)
    rw [← hq']; exact setS_at⟩⟩
  ·exact ⟨some .ret,.inr ⟨e1,rfl⟩,fun r0 hr=>⟨{ r0 with state:=.done,pending:=some .ret },by simp,rfl,fun q hq=>by
    have hq':=Option.some.inj (e2.symm.trans hq)
    rw [← hq']
    show doneOb (setS σ nx (.lp r0 (toFr F')) nx)=_
    rw [setS_at]; rfl⟩⟩
 obtain ⟨q1,hq1⟩:∃ q,gH k1 nx=some q:=by
  cases hg:gH k1 nx with
  | none=>exact absurd hg (ak.dom nx (by rw [rnx]; simp))
  | some q=>exact ⟨q,rfl⟩
 have hq1':gH h1 nx=some q1:=by rw [hov,hq1]
 refine aw_rfunc (li:=nx) (Hs:=Lr) (H':=(toHp G σ k1).filter fun z=>z.1 != nx) (f:=f) (caps:=cs) (rv:=r) (jump:=jump) hej ?_ hent ?_ (nodup_toFr F') ?_ ?_ ?_ ?_ ?_ ?_ (fun r0 hr0=>?_) ?_ code hc
 ·rw [← XZ (Xh (F:=F') (h:=h) (get_toFr F') hgT) g]; exact hv
 ·rw [hgT]; exact hfrh
 ·have hsc:=nmL_sc hD _ hnl
  unfold Qy at hsc
  rw [Bool.and_eq_true] at hsc
  exact hsc.2
 ·refine subH_of fun z hz=>?_
  obtain ⟨z1,z2⟩:=memLr z hz
  rw [hgT]; exact hsubF z.1 z.2 (Ne.symm z1) z2
 ·refine List.all_eq_true.2 fun z hz=>?_
  obtain ⟨z1,z2⟩:=memLr z hz
  refine all_sc' (h:=h) (k:=hr) (i:=z.1) hG hw (fun o hg=>?_) hD (hsubF z.1 z.2 (Ne.symm z1) z2)
  have hin:z.1<nx:=Nat.lt_of_not_le fun hl=>by rw [hi.fresh z.1 hl] at hg; cases hg
  cases hgr:gH hr z.1 with
  | some o' =>
   have eo:=Option.some.inj (hg.symm.trans (gr z.1 (Ne.symm z1) o' hgr))
   rw [eo]
   exact nmAll_at hna z.1 o' (by omega) hgr
  | none =>
   unfold hpF at z2
   rw [hgr] at z2
   have:=(hG.far z.1 z.2 z2).1
   omega
 ·exact fr_sc (h:=hr) hD (nmAll_at hna nx _ (by omega) rnx) (get_toFr F') (nodup_toFr F')
 ·refine List.all_eq_true.2 fun i hi'=>?_
  rw [Qp,gL] at hi'
  by_cases hne:nx=i
  ·rw [if_pos hne] at hi'; exact absurd rfl hi'
  ·rw [if_neg hne] at hi'
   cases hg:get (toHp G σ h) i with
   | none=>simp
   | some ob =>
    have:i∈Qa Lr:=by
     rw [Qp,gLr,if_neg hne]
     intro e
     rw [hgT] at hg
     unfold hpF at hi' e
     cases hgr:gH hr i with
     | some o=>rw [hgr] at e; cases e
     | none =>
      rw [hgr] at e
      cases hgk:gH k1 i with
      | none=>rw [hgk] at hi'; exact hi' e
      | some o =>
       rcases ak.nw i (by rw [hgk]; simp) with hn' | hn'
       ·exact hn' hgr
       ·unfold hpF at hg
        rw [hi.fresh i (by omega)] at hg
        replace hg:get G i=some ob:=hg
        replace e:get G i=none:=e
        rw [e] at hg; cases hg
    rw [List.contains_iff_mem.2 this]; rfl
 ·refine List.all_eq_true.2 fun i hi'=>List.contains_iff_mem.2 ?_
  rw [Qp,gLr] at hi'
  rw [Qp,gL]
  by_cases hne:nx=i
  ·rw [if_pos hne] at hi'; exact absurd rfl hi'
  ·rw [if_neg hne] at hi' ⊢
   exact fun e=>hi' (hpF_dom ak.dom e)
 ·obtain ⟨r1,t1,t2,t3⟩:=hr1 r0 hr0
  refine ⟨r1,t1,t2,hfc (σ:=setS σ nx (.lp r0 (toFr F'))) ?_ ?_ ?_⟩
  ·refine Wf.sub (h:=sH h nx (.lp ps x y F')) ?_ sub
   refine ⟨fun j ps' x' y' F1 hj=>?_,fun j F1 hj=>?_,fun j F1 hj=>?_⟩
   ·rw [g0] at hj
    split at hj
    ·rename_i e; subst e
     injection hj with hj; injection hj with e1 e2 e3 e4; subst e1 e2 e3 e4
     exact ⟨N,r0,toFr F',hN,setS_at,hr0,get_toFr F',nodup_toFr F',hps,px,py⟩
    ·rename_i hne; rw [setS_ne j (Ne.symm hne)]; exact hw.lp j _ _ _ _ hj
   ·rw [g0] at hj
    split at hj
    ·cases hj
    ·rename_i hne; rw [setS_ne j (Ne.symm hne)]; exact hw.busy j _ hj
   ·rw [g0] at hj
    split at hj
    ·cases hj
    ·rename_i hne; rw [setS_ne j (Ne.symm hne)]; exact hw.done j _ hj
  ·rw [get_cons,hpF_sig (σ:=σ) (i:=nx) setS_ne rnx]
   funext j
   by_cases e:nx=j
   ·subst e; simp only [if_pos]; exact congrArg some setS_at.symm
   ·simp only [if_neg e]; rw [gLr,if_neg e]
  ·rw [get_cons,hpF_sig (σ:=σ) (i:=nx) setS_ne hq1,t3 q1 hq1']
   funext j
   by_cases e:nx=j
   ·subst e; simp only [if_pos]
   ·simp only [if_neg e]; rw [gL,if_neg e]
 ·refine ⟨rfl,get_toFr F',?_⟩
  rw [get_cons]
  funext j
  by_cases e:nx=j
  ·subst e; rw [if_pos rfl,hpF_put i4]; simp [conc]
  ·rw [if_neg e,QU,gL,if_neg e,hgT,hpF_put i4]
   simp only [if_neg e]
   have ho:=hpF_ov (σ:=σ) (h:=sH h nx (.lp ps x y F')) (h':=h1) (h1:=k1) hG hov j
   rw [hpF_put i4] at ho
   simp only [if_neg e] at ho
   exact ho
end
end Go.Proofs.YthmbjgnjfjjibaaGreatDoor
namespace Go.Proofs.YthmbjgnjfjjibaaGreatDoor
open Go.RowKit
set_option maxRecDepth 100000
variable {F F':FT} {h h':HT} {nx':Nat}
section
variable {P:Program} {G:Hp} {gl:GlT} {gk:List Nat} {co:CoT} {cl:X5} {sh:Nat->Bool}
theorem seq_co {a b:MC} {nx:Nat} {e:Exit} {ra:KT} {rb:KT} (iha:∀ {e:Exit} {F':FT} {h':HT} {nx':Nat},ra F h nx = .ok e F' h' nx'->CoK P G a F h nx e F' h' nx')
  (ihb:∀ {F:FT} {h:HT} {nx:Nat},rb F h nx = .ok e F' h' nx'->Inv h nx->CoK P G b F h nx e F' h' nx') (q:seqR (ra F h nx) rb = .ok e F' h' nx'):CoK P G (.seq a b) F h nx e F' h' nx':=by
 rcases seqR_inv q with ⟨F1,h1,n1,q1,q2⟩ | ⟨he,q1⟩
 ·have ka:=iha q1
  have kb:=ihb q2 ka.adv.inv
  exact ⟨ka.adv.trans kb.adv,kb.ex,fun σ hw N hN Z rn hp Fl Hl hF hH=>aw_seq (XG (ka.aw σ hw N hN Z rn (hp.imp id fun h=>(pl_seq h).1) Fl Hl hF hH) fun e1 F2 H2 ⟨p1,p2,p3⟩=>by
   subst p1; exact kb.aw σ (ka.adv.wf hw) N hN Z rn (hp.imp id fun h=>(pl_seq h).2) F2 H2 p2 p3)⟩
 ·have ka:=iha q1
  exact ⟨ka.adv,ka.ex,fun σ hw N hN Z rn hp Fl Hl hF hH=>aw_seq (XG (ka.aw σ hw N hN Z rn (hp.imp id fun h=>(pl_seq h).1) Fl Hl hF hH) fun e1 F2 H2 ⟨p1,p2,p3⟩=>by
   subst p1
   rcases he with ⟨i,rfl⟩ | rfl <;> exact ⟨rfl,p2,p3⟩)⟩
theorem loop_adv {x:MC} {body:KT} {e:Exit} {F':FT} {h':HT} {nx':Nat} (ih:∀ {F:FT} {h:HT} {nx:Nat} {e:Exit} {F':FT} {h':HT} {nx':Nat},body F h nx = .ok e F' h' nx'->Inv h nx->CoK P G x F h nx e F' h' nx') :
  ∀ (n:Nat) {F:FT} {h:HT} {nx:Nat},loopR body n F h nx = .ok e F' h' nx'->Inv h nx->Adv h nx h' nx'/\∀ l,e ≠ .goto l
 | 0,F,h,nx,q,_=>by cases q
 | n+1,F,h,nx,q,hi=>by
  have q:seqR (body F h nx) (loopR body n) = .ok e F' h' nx':=q
  rcases seqR_inv q with ⟨F1,h1,n1,q1,q2⟩ | ⟨he,q1⟩
  ·have k:=ih q1 hi
   obtain ⟨a,b⟩:=loop_adv ih n q2 k.adv.inv
   exact ⟨k.adv.trans a,b⟩
  ·have k:=ih q1 hi
   exact ⟨k.adv,k.ex⟩
theorem loop_co {x:MC} {body:KT} {n:Nat} {nx:Nat} {e:Exit} (ih:∀ {F:FT} {h:HT} {nx:Nat} {e:Exit} {F':FT} {h':HT} {nx':Nat},body F h nx = .ok e F' h' nx'->Inv h nx->CoK P G x F h nx e F' h' nx')
  (q:loopR body n F h nx = .ok e F' h' nx') (hi:Inv h nx):CoK P G (.loop x) F h nx e F' h' nx':=by
 obtain ⟨adv,ex⟩:=loop_adv ih n q hi
 refine ⟨adv,ex,fun σ hw N hN Z rn hp Fl Hl hF hH=>aw_loop (fun n Fl Hl=>∃ F h nx,get Fl=gF F/\get Hl=hpF G σ h/\Inv h nx/\Wf P σ h/\loopR body n F h nx = .ok e F' h' nx') n ⟨F,h,nx,hF,hH,hi,hw,q⟩ ?_⟩
 rintro m Fl1 Hl1 ⟨F1,h1,n1,hF1,hH1,hi1,hw1,q1⟩
 cases m with
 | zero=>cases q1
 | succ m =>
  have q1:seqR (body F1 h1 n1) (loopR body m) = .ok e F' h' nx':=q1
  rcases seqR_inv q1 with ⟨F2,h2,n2,q2,q3⟩ | ⟨he,q2⟩
  ·have k:=ih q2 hi1
   exact XG (k.aw σ hw1 N hN Z rn hp Fl1 Hl1 hF1 hH1) fun e1 F3 H3 ⟨p1,p2,p3⟩=>by
    subst p1
    exact ⟨m,F3,H3,Nat.lt_succ_self m,Weak.refl _ _ _ _,F2,h2,n2,p2,p3,k.adv.inv,k.adv.wf hw1,q3⟩
  ·have k:=ih q2 hi1
   exact XG (k.aw σ hw1 N hN Z rn hp Fl1 Hl1 hF1 hH1) fun e1 F3 H3 ⟨p1,p2,p3⟩=>by
    subst p1
    rcases he with ⟨i,rfl⟩ | rfl <;> exact ⟨rfl,p2,p3⟩
theorem evC_ok (hm:P.follows .mixedOrders=true) (hG:GOK G gl gk) (hnd:Xn G=true) (hcl:SCl P G sh cl) (hco:SCo P G co) (c:MC):∀ {F:FT} {h:HT} {nx:Nat} {e:Exit} {F':FT} {h':HT} {nx':Nat},
  evC P sh gk gl cl co c F h nx = .ok e F' h' nx'->Inv h nx->CoK P G c F h nx e F' h' nx':=by
 induction c with
 | skip =>
  intro F h nx e F' h' nx' q hi
  have q:Rs.ok .normal F h nx = .ok e F' h' nx':=q
  injection q with q1 q2 q3 q4
  subst q1 q2 q3 q4
  exact ⟨.refl hi,fun l e=>(by cases e),fun σ hw N hN Z rn hp Fl Hl hF hH=>aw_skip ⟨rfl,hF,hH⟩⟩
 | reg ops draw =>
  intro F h nx e F' h' nx' q hi
  have q:regR (opsE P gl cl (yieldE gk co) ops F h nx []) ops draw = .ok e F' h' nx':=q
  obtain ⟨rfl,fps,q,hd⟩:=regR_inv q
  obtain ⟨_,_,_,adv,_⟩:=ops_ok (σ:=fun _=>.dead) hG hcl (yield_ok hG hco) ops q hi
  refine ⟨adv,fun l e=>(by cases e),fun σ hw N hN Z rn hp Fl Hl hF hH=>?_⟩
  obtain ⟨new,n1,n2,_,k⟩:=ops_ok (σ:=σ) hG hcl (yield_ok hG hco) ops q hi
  rw [List.append_nil] at n1
  subst n1
  cases draw with
  | false=>exact aw_reg (k hw N hN Fl Hl hF hH _ fun fps F1 H1 hf h1 h2 _=>⟨rfl,h1,h2⟩)
  | true =>
   refine aw_draw hm (k hw N hN Fl Hl hF hH _ fun fps F1 H1 hf h1 h2=>⟨okDr_ok (by rw [List.reverse_reverse]; exact hd rfl) hf ?_,fun _=>⟨rfl,h1,h2⟩⟩)
   rw [hf.at_.1,List.length_reverse]; exact n2
 | seq a b iha ihb =>
  intro F h nx e F' h' nx' q hi
  exact seq_co (ra:=evC P sh gk gl cl co a) (rb:=evC P sh gk gl cl co b) (fun q=>iha q hi) (fun q hi=>ihb q hi) q
 | cond x a b iha ihb =>
  intro F h nx e F' h' nx' q hi
  have q:condR F x (evC P sh gk gl cl co a F h nx) (evC P sh gk gl cl co b F h nx) = .ok e F' h' nx':=q
  obtain ⟨t,ht,q⟩:=condR_inv q
  cases t with
  | true =>
   have k:=iha q hi
   exact ⟨k.adv,k.ex,fun σ hw N hN Z rn hp Fl Hl hF hH=>aw_cond ((XZ (Xh hF hH) x).symm.trans ht) (fun _=>k.aw σ hw N hN Z rn (hp.imp id fun h=>(pl_cond h).1) Fl Hl hF hH) fun e=>by cases e⟩
  | false =>
   have k:=ihb q hi
   exact ⟨k.adv,k.ex,fun σ hw N hN Z rn hp Fl Hl hF hH=>aw_cond ((XZ (Xh hF hH) x).symm.trans ht) (fun e=>by cases e) fun _=>k.aw σ hw N hN Z rn (hp.imp id fun h=>(pl_cond h).2) Fl Hl hF hH⟩
 | block id c ih =>
  intro F h nx e F' h' nx' q hi
  have q:blkR id (evC P sh gk gl cl co c F h nx) = .ok e F' h' nx':=q
  rcases blkR_inv q with ⟨rfl,q | q⟩ | ⟨i,rfl,hne,q⟩ | ⟨rfl,q⟩
  ·have k:=ih q hi
   exact ⟨k.adv,k.ex,fun σ hw N hN Z rn hp Fl Hl hF hH=>aw_block (XG (k.aw σ hw N hN Z rn hp Fl Hl hF hH) fun e1 F3 H3 ⟨p1,p2,p3⟩=>by subst p1; exact ⟨rfl,p2,p3⟩)⟩
  ·have k:=ih q hi
   exact ⟨k.adv,fun l e=>(by cases e),fun σ hw N hN Z rn hp Fl Hl hF hH=>aw_block (XG (k.aw σ hw N hN Z rn hp Fl Hl hF hH) fun e1 F3 H3 ⟨p1,p2,p3⟩=>by
    subst p1; simp only [InBlock,if_pos]; exact ⟨rfl,p2,p3⟩)⟩
  ·have k:=ih q hi
   exact ⟨k.adv,k.ex,fun σ hw N hN Z rn hp Fl Hl hF hH=>aw_block (XG (k.aw σ hw N hN Z rn hp Fl Hl hF hH) fun e1 F3 H3 ⟨p1,p2,p3⟩=>by
    subst p1; simp only [InBlock,if_neg hne]; exact ⟨rfl,p2,p3⟩)⟩
  ·have k:=ih q hi
   exact ⟨k.adv,k.ex,fun σ hw N hN Z rn hp Fl Hl hF hH=>aw_block (XG (k.aw σ hw N hN Z rn hp Fl Hl hF hH) fun e1 F3 H3 ⟨p1,p2,p3⟩=>by subst p1; exact ⟨rfl,p2,p3⟩)⟩
 | loop c ih =>
  intro F h nx e F' h' nx' q hi
  exact loop_co (body:=evC P sh gk gl cl co c) (n:=1000000) (fun q hi=>ih q hi) q hi
 | exit id =>
  intro F h nx e F' h' nx' q hi
  have q:Rs.ok (.exit id) F h nx = .ok e F' h' nx':=q
  injection q with q1 q2 q3 q4
  subst q1 q2 q3 q4
  exact ⟨.refl hi,fun l e=>(by cases e),fun σ hw N hN Z rn hp Fl Hl hF hH=>aw_exit ⟨rfl,hF,hH⟩⟩
 | ret =>
  intro F h nx e F' h' nx' q hi
  have q:Rs.ok .ret F h nx = .ok e F' h' nx':=q
  injection q with q1 q2 q3 q4
  subst q1 q2 q3 q4
  exact ⟨.refl hi,fun l e=>(by cases e),fun σ hw N hN Z rn hp Fl Hl hF hH=>aw_ret ⟨rfl,hF,hH⟩⟩
 | rfunc g ps a b _ _ =>
  intro F h nx e F' h' nx' q hi
  obtain ⟨v,hv,q⟩:=oR_inv (x:=QE F g) (k:=fun v=>rfE P sh cl ps a b F h nx v) q
  exact rfunc_ok hG hnd hcl hv q hi
 | scope c ih =>
  intro F h nx e F' h' nx' q hi
  have k:=ih q hi
  refine ⟨k.adv,k.ex,fun σ hw N hN Z rn hp Fl Hl hF hH=>?_⟩
  have hrn:rn=none:=hp.resolve_right fun e=>by cases e
  subst hrn
  exact aw_scope (XG (k.aw σ hw N hN Z none (.inl rfl) Fl Hl hF hH) fun e1 F3 H3 ⟨p1,p2,p3⟩=>⟨p1 ▸ k.ex,p1,p2,p3⟩)
 | lab =>
  intro F h nx e F' h' nx' q hi
  have q:Rs.ok .normal F h nx = .ok e F' h' nx':=q
  injection q with q1 q2 q3 q4
  subst q1 q2 q3 q4
  exact ⟨.refl hi,fun l e=>(by cases e),fun σ hw N hN Z rn hp Fl Hl hF hH=>aw_lab ⟨rfl,hF,hH⟩⟩
end
end Go.Proofs.YthmbjgnjfjjibaaGreatDoor
namespace Go.Proofs.YthmbjgnjfjjibaaGreatDoor
open Go.RowKit
set_option maxRecDepth 100000
section
variable {P:Program}
theorem fc_exact {f:FuncId} {fn:Func} {code:Code} {mc:MC} {args vs:List AV} {H H':Hp} (hf:P.funcs[f]?=some fn) (hb:fn.body=some code) (hc:Qq P fn.ntmps code=some mc) (hn:args.length<=fn.ntmps)
  (h:AW P fn.ntmps (Qa H) none mc (fun e F1 H1=>(e = .normal\/e = .ret)/\JD P F1 H1 fn.results.toList=some vs/\get H1=get H') (params args 0) H):FC P f args H (Xl vs) H' true:=by
 intro w S ρ cargs hH hargs
 refine callsIn_wide.1 (callsIn_of_wp_marks (F:=Fence.wide) (n:=0) hf hb trivial ?_)
 have hsz:(cargs++Array.replicate (fn.ntmps-cargs.size) undef).size=fn.ntmps:=by simp [hargs.1]; omega
 have hcf:Conf fn.ntmps (Qa H) (params args 0) H S ρ { tmps:=cargs++Array.replicate (fn.ntmps-cargs.size) undef,defers:=[] } w:=by
  refine ⟨⟨hsz,fun t v hv=>?_⟩,Marks.nil _ _,hH,fun i hi=>Qp.1 hi⟩
  obtain ⟨_,h2⟩:=get_params args 0 t v hv
  rw [Nat.sub_zero] at h2
  have hl:t<cargs.size:=by rw [hargs.1]; exact (List.getElem?_eq_some_iff.1 h2).1
  have:=hargs.2 t v h2
  rw [Array.getD_eq_getD_getElem?] at this ⊢
  rw [Array.getElem?_append_left hl]; exact this
 refine wpIn_mono (h code hc S ρ _ w hcf) fun e a' w0 ⟨hfr,F',H'',S',ρ',⟨he,hvs,hge⟩,cf0,ex0⟩=>?_
 obtain ⟨Ds,d1,hDs⟩:=hfr.2
 replace d1:a'.defers=Ds.map (fun D=>({ target:=.collected D,args := #[] }:Deferred)):=by rw [d1]; exact List.append_nil _
 obtain ⟨d2,d3⟩:=cf0.defers
 have dcol:JG a'.defers=Ds:=by rw [d1]; have:=colD_map Ds []; rw [List.append_nil] at this; rw [this]; exact List.append_nil _
 rw [dcol] at d2 d3
 suffices hlv:LeavesInM Fence.wide 0 P fn a'.tmps (fun e w'=>∃ cv S' ρ',e = .returned cv/\VR w' S' ρ' (Xl vs) cv/\HRF w' S' ρ' (get H') ∧
   Keep w w' (LiveF ρ (get H) All)/\(∀ b,S' b->(true=true/\S b)\/LiveF ρ (get H) All b\/w.heap.size<=b)/\(∀ b,LiveF ρ' (get H') All b->LiveF ρ (get H) All b\/w.heap.size<=b) ∧
   (∀ i,get H i≠none->ρ' i=ρ i)/\(∀ i,get H i≠none->get H' i≠none)) a'.defers .returning w0 by
  rcases he with rfl | rfl <;> exact hlv
 rw [d1]
 refine leaves_marks Ds w0 d2 (fun D hD=>(d3 D hD).1) fun w' hq=>?_
 have hcell:∀ (a:Addr) (c:Value),w0.cell? a=some c->w'.cell? a=some c:=fun a c hc=>quiet_cell (fun D h=>(d3 D h).1) hq hc
 have cffr:FRN fn.ntmps w' S' ρ' (get F') a':=⟨cf0.fr.size,fun t v hv=>(cf0.fr.at_ t v hv).mono (fun _ h=>h) (fun a c _ hc=>hcell a c hc) (fun _ _ h=>h)⟩
 have cfhp:HRF w' S' ρ' (get H''):=quiet_hrf cf0.hp d3 hq
 have exkeep:Keep w w' (LiveF ρ (get H) All):=⟨hq.os.trans ex0.keep.os,hq.tape.trans ex0.keep.tape,hq.output.trans ex0.keep.output,Nat.le_trans ex0.keep.size hq.size,fun k hk1 hk2 =>
  (hq.block k (Nat.lt_of_lt_of_le hk1 ex0.keep.size) fun hd=>by have:=hDs k hd; omega).trans (ex0.keep.block k hk1 hk2)⟩
 obtain ⟨cs,g1,g2,g3⟩:=run_resVs (P:=P) cffr cfhp _ vs hvs
 have k1:HRF w' S' ρ' (get H'):=hge ▸ cfhp
 have hres:∃ cv,(results fn a'.tmps).run P w' = .ok cv w'/\VR w' S' ρ' (Xl vs) cv:=by
  have hm:(fn.results.mapM (rvRun a')).run P w' = .ok cs.toArray w':=by
   rw [Array.mapM_eq_mapM_toList]
   simp only [Sem.run_map,g1,Result.andThen_ok]
  refine ⟨if h:cs.toArray.size=1 then cs.toArray[0] else .tuple cs.toArray,?_,?_⟩
  ·have e0:results fn a'.tmps=(do let vs ← fn.results.mapM (rvRun a'); Pure.pure (if h:vs.size=1 then vs[0] else .tuple vs)):=by
    unfold results
    congr 2
   rw [e0,Sem.run_bind,hm]
   rfl
  ·clear hvs h
   match vs,cs,g2,g3 with
   | [],[],_,_=>exact .tup [] #[] rfl fun j v h=>by simp at h
   | [v],[c],_,g3 =>
    obtain ⟨c',h1,h2⟩:=g3 0 v rfl
    simp at h1; subst h1
    simpa [Xl] using h2
   | v1::v2::vs,c1::c2::cs,g2,g3 =>
    have hne:¬ ((c1::c2::cs).toArray.size=1):=by simp
    rw [dif_neg hne]
    refine .tup _ _ (by simpa using g2) fun j v hj=>?_
    obtain ⟨c,h1,h2⟩:=g3 j v hj
    have e:(c1::c2::cs).toArray.getD j undef=c:=by
     rw [Array.getD_eq_getD_getElem?,List.getElem?_toArray,h1]; rfl
    rw [e]; exact h2
 obtain ⟨cv,r1,r2⟩:=hres
 refine ⟨cv,r1,cv,S',ρ',rfl,r2,k1,exkeep,fun b hb=>?_,fun b hb=>?_,fun i hi=>ex0.rho i (Qp.2 hi),fun i hi=>?_⟩
 ·exact (ex0.fresh b hb).elim (fun h=>.inl ⟨rfl,h⟩) fun h=>.inr h
 ·rw [← hge] at hb; exact ex0.own b hb
 ·rw [← hge]; exact cf0.z i (Qp.2 hi)
end
noncomputable def nrmV (v:AV) (k:AV->Cr):Cr := @AV.rec (fun _=>(AV->Cr)->Cr) (fun _=>(List AV->Cr)->Cr) (fun _=>(List (List AV)->Cr)->Cr)
 (fun k=>k .any)
 (fun k=>k .und)
 (fun b k => @Bool.rec (fun _=>Cr) (k (.bool false)) (k (.bool true)) b)
 (fun kd n k=>fI n fun n => @IntKind.rec (fun _=>Cr) (k (.int .i8 n)) (k (.int .i16 n)) (k (.int .i32 n)) (k (.int .i64 n)) (k (.int .u8 n)) (k (.int .u16 n)) (k (.int .u32 n)) (k (.int .u64 n)) kd)
 (fun s k=>k (.str s))
 (fun k=>k .nilp)
 (fun i j o k=>k (.ptr i j o))
 (fun _ ih k=>ih fun cs=>k (.rp cs))
 (fun k=>k .nils)
 (fun i j n k=>k (.sl i j n))
 (fun i j o n k=>k (.sa i j o n))
 (fun z _ ih k=>fN z fun z=>ih fun els=>k (.rs z els))
 (fun f _ ih k=>ih fun cs=>k (.fn f cs))
 (fun k=>k .nilf)
 (fun _ ih k=>ih fun cs=>k (.agg cs))
 (fun _ ih k=>ih fun cs=>k (.tup cs))
 (fun k=>k .nilm)
 (fun i k=>k (.mp i))
 (fun k=>k .nili)
 (fun t _ ih k=>fN t fun t=>ih fun v=>k (.ifc t v))
 (fun m _ ih k=>ih fun v=>k (.bm m v))
 (fun i k=>k (.yl i))
 (fun f _ ih k=>ih fun v=>k (.bnd f v))
 (fun k=>k .anyb)
 (fun k=>k []) (fun _ _ ih iht k=>ih fun x=>iht fun l=>k (x::l))
 (fun k=>k []) (fun _ _ ih iht k=>ih fun x=>iht fun l=>k (x::l)) v k
noncomputable def nrmEl (v:List (List AV)) (k:List (List AV)->Cr):Cr := @AV.rec_2 (fun _=>(AV->Cr)->Cr) (fun _=>(List AV->Cr)->Cr) (fun _=>(List (List AV)->Cr)->Cr)
 (fun k=>k .any)
 (fun k=>k .und)
 (fun b k => @Bool.rec (fun _=>Cr) (k (.bool false)) (k (.bool true)) b)
 (fun kd n k=>fI n fun n => @IntKind.rec (fun _=>Cr) (k (.int .i8 n)) (k (.int .i16 n)) (k (.int .i32 n)) (k (.int .i64 n)) (k (.int .u8 n)) (k (.int .u16 n)) (k (.int .u32 n)) (k (.int .u64 n)) kd)
 (fun s k=>k (.str s))
 (fun k=>k .nilp)
 (fun i j o k=>k (.ptr i j o))
 (fun _ ih k=>ih fun cs=>k (.rp cs))
 (fun k=>k .nils)
 (fun i j n k=>k (.sl i j n))
 (fun i j o n k=>k (.sa i j o n))
 (fun z _ ih k=>fN z fun z=>ih fun els=>k (.rs z els))
 (fun f _ ih k=>ih fun cs=>k (.fn f cs))
 (fun k=>k .nilf)
 (fun _ ih k=>ih fun cs=>k (.agg cs))
 (fun _ ih k=>ih fun cs=>k (.tup cs))
 (fun k=>k .nilm)
 (fun i k=>k (.mp i))
 (fun k=>k .nili)
 (fun t _ ih k=>fN t fun t=>ih fun v=>k (.ifc t v))
 (fun m _ ih k=>ih fun v=>k (.bm m v))
 (fun i k=>k (.yl i))
 (fun f _ ih k=>ih fun v=>k (.bnd f v))
 (fun k=>k .anyb)
 (fun k=>k []) (fun _ _ ih iht k=>ih fun x=>iht fun l=>k (x::l))
 (fun k=>k []) (fun _ _ ih iht k=>ih fun x=>iht fun l=>k (x::l)) v k
mutual
theorem nrmV_eq:∀ (v:AV) (k:AV->Cr),nrmV v k=k v
 | .any,_=>rfl
 | .und,_=>rfl
 | .bool b,k=>by cases b <;> rfl
 | .int kd n,k=>by
  have e:nrmV (.int kd n) k=fI n fun n => @IntKind.rec (fun _=>Cr) (k (.int .i8 n)) (k (.int .i16 n)) (k (.int .i32 n)) (k (.int .i64 n)) (k (.int .u8 n)) (k (.int .u16 n)) (k (.int .u32 n)) (k (.int .u64 n)) kd:=rfl
  rw [e,fI_eq]; cases kd <;> rfl
 | .str _,_=>rfl
 | .nilp,_=>rfl
 | .ptr _ _ _,_=>rfl
 | .rp cs,k=>nrmL_eq cs fun cs=>k (.rp cs)
 | .nils,_=>rfl
 | .sl _ _ _,_=>rfl
 | .sa _ _ _ _,_=>rfl
 | .rs z els,k=>by
  have e:nrmV (.rs z els) k=fN z fun z=>nrmEl els fun els=>k (.rs z els):=rfl
  rw [e,fN_eq]; exact nrmE_eq els fun els=>k (.rs z els)
 | .fn f cs,k=>nrmL_eq cs fun cs=>k (.fn f cs)
 | .nilf,_=>rfl
 | .agg cs,k=>nrmL_eq cs fun cs=>k (.agg cs)
 | .tup cs,k=>nrmL_eq cs fun cs=>k (.tup cs)
 | .nilm,_=>rfl
 | .mp _,_=>rfl
 | .nili,_=>rfl
 | .ifc t v,k=>by
  have e:nrmV (.ifc t v) k=fN t fun t=>nrmV v fun v=>k (.ifc t v):=rfl
  rw [e,fN_eq]; exact nrmV_eq v fun v=>k (.ifc t v)
 | .bm m v,k=>nrmV_eq v fun v=>k (.bm m v)
 | .yl _,_=>rfl
 | .bnd f v,k=>nrmV_eq v fun v=>k (.bnd f v)
 | .anyb,_=>rfl
theorem nrmL_eq:∀ (l:List AV) (k:List AV->Cr),nrmL l k=k l
 | [],_=>rfl
 | v::l,k=>by
  have e:nrmL (v::l) k=nrmV v fun x=>nrmL l fun l=>k (x::l):=rfl
  rw [e,nrmV_eq,nrmL_eq]
theorem nrmE_eq:∀ (l:List (List AV)) (k:List (List AV)->Cr),nrmEl l k=k l
 | [],_=>rfl
 | v::l,k=>by
  have e:nrmEl (v::l) k=nrmL v fun x=>nrmEl l fun l=>k (x::l):=rfl
  rw [e,nrmL_eq,nrmE_eq]
end
theorem noROE_eq:∀ {l:List (List AV)},noROE' l=true->∀ el∈l,∀ v∈el,noRO v=true
 | [],_,el,h,_,_=>by cases h
 | e::r,hn,el,h,v,hv=>by
  unfold noROE' at hn
  split at hn
  ·rename_i h1
   rcases List.mem_cons.1 h with rfl | h
   ·exact Jr h1 hv
   ·exact noROE_eq hn el h v hv
  ·cases hn
section
variable {h:HT} {Hl H0:Hp} {al':Bool}
mutual
theorem fzV_ok (hob:∀ i o,obE h i=some o->get Hl i=some o/\get H0 i=none):∀ (f:Nat) (v r:AV) (al:Bool),fzV h f v = .ok r al->(al'=true\/al=false)->RC Hl H0 al' v r
 | 0,v,r,al,e,_=>by simp [fzV] at e
 | f+1,v,r,al,e,ha=>by
  unfold fzV at e
  split at e
  ·cases e
  ·rename_i f' i j n heq
   cases heq
   split at e
   ·rename_i e0 z els hg
    split at e
    ·rename_i hb
     injection e with e1 e2
     subst e1 e2
     refine rc_freeze (hob _ _ hg).1 (hob _ _ hg).2 (Nat.le_of_ble_eq_true hb) (ha.imp id fun h=>noROE_eq (by simpa using h))
    ·cases e
   ·cases e
  ·rename_i f' vs heq
   cases heq
   split at e
   ·rename_i vs' al1 hv
    injection e with e1 e2
    subst e1 e2
    exact rc_tup (fzL_ok hob f vs vs' _ hv ha)
   ·cases e
  ·rename_i f' vs heq
   cases heq
   split at e
   ·rename_i hc
    injection e with e1 e2
    subst e1 e2
    refine Xq (closed_scoped _ _ (by simpa [QB] using hc)) (ha.imp id fun h=>?_)
    simpa [noRO] using h
   ·split at e
    ·rename_i vs' al1 hv
     injection e with e1 e2
     subst e1 e2
     exact rc_agg (fzL_ok hob f vs vs' _ hv ha)
    ·cases e
  ·split at e
   ·rename_i hc
    injection e with e1 e2
    subst e1 e2
    exact Xq (closed_scoped _ _ hc) (ha.imp id fun h=>by simpa using h)
   ·cases e
theorem fzL_ok (hob:∀ i o,obE h i=some o->get Hl i=some o/\get H0 i=none):∀ (f:Nat) (l l':List AV) (al:Bool),fzL h f l=some (l',al)->(al'=true\/al=false)->RCs Hl H0 al' l l'
 | 0,l,l',al,e,_=>by simp [fzL] at e
 | f+1,[],l',al,e,_=>by
  simp only [fzL,Option.some.injEq,Prod.mk.injEq] at e
  obtain ⟨rfl,rfl⟩:=e
  exact .nil
 | f+1,v::l,l',al,e,ha=>by
  simp only [fzL] at e
  split at e
  ·rename_i x a r b hx hr
   simp only [Option.some.injEq,Prod.mk.injEq] at e
   obtain ⟨rfl,rfl⟩:=e
   refine .cons (fzV_ok hob f v x a hx (ha.imp id fun h=>?_)) (fzL_ok hob f l r b hr (ha.imp id fun h=>?_))
   ·cases a <;> simp_all
   ·cases b <;> simp_all
  ·cases e
end
end
end Go.Proofs.YthmbjgnjfjjibaaGreatDoor
namespace Go.Proofs.YthmbjgnjfjjibaaGreatDoor
open Go.RowKit
set_option maxRecDepth 100000
variable {al':Bool}
variable {al:Bool}
variable {r:AV} {h h':HT} {rd wr:List Nat} {nx':Nat}
section
variable {P:Program} {pol:Pol} {G:Hp} {gl:GlT} {gk:List Nat} {co:CoT} {cl:X5}
theorem fnI_inv {f nt:Nat} {rs:List ResultVar} {mc:MC} (e:fnI P f=some ⟨nt,rs,mc⟩):∃ fn code,P.funcs[f]?=some fn/\fn.body=some code/\Qq P fn.ntmps code=some mc/\nt=fn.ntmps/\rs=fn.results.toList:=by
 unfold fnI at e
 split at e
 ·rename_i fn hf
  split at e
  ·rename_i c hb
   split at e
   ·rename_i mc' hc
    injection e with e
    injection e with e1 e2 e3
    subst e1 e2 e3
    exact ⟨fn,c,hf,hb,hc,rfl,rfl⟩
   ·cases e
  ·cases e
 ·cases e
theorem bodyE_inv {f:Nat} {vs:List AV} {nx:Nat} {k:List AV->HT->Nat->Cr} (e:bodyE P pol gk gl cl co f vs h nx k = .ok r h' nx' rd wr) :
  ∃ nt rs mc e0 F1 h1 n1 out,fnI P f=some ⟨nt,rs,mc⟩/\vs.length<=nt/\nt<=256/\evC P pol.shared gk gl cl co mc (parE vs 0 e2) h nx = .ok e0 F1 h1 n1/\(e0 = .normal\/e0 = .ret)/\ressE P F1 h1 rs=some out/\k out h1 n1 = .ok r h' nx' rd wr:=by
 unfold bodyE at e
 split at e
 ·rename_i nt rs mc hf
  split at e
  ·rename_i hb
   rw [Bool.and_eq_true] at hb
   unfold endR at e
   split at e
   ·rename_i F1 h1 n1 he
    replace e:(match ressE P F1 h1 rs with | some out=>k out h1 n1 | none=>Cr.no) = .ok r h' nx' rd wr:=e
    split at e
    ·rename_i out ho
     exact ⟨nt,rs,mc,_,F1,h1,n1,out,hf,Nat.le_of_ble_eq_true hb.1,Nat.le_of_ble_eq_true hb.2,he,.inl rfl,ho,e⟩
    ·cases e
   ·rename_i F1 h1 n1 he
    replace e:(match ressE P F1 h1 rs with | some out=>k out h1 n1 | none=>Cr.no) = .ok r h' nx' rd wr:=e
    split at e
    ·rename_i out ho
     exact ⟨nt,rs,mc,_,F1,h1,n1,out,hf,Nat.le_of_ble_eq_true hb.1,Nat.le_of_ble_eq_true hb.2,he,.inr rfl,ho,e⟩
    ·cases e
   ·cases e
  ·cases e
 ·cases e
theorem body_ok (hm:P.follows .mixedOrders=true) (hG:GOK G gl gk) (hnd:Xn G=true) (hcl:SCl P G pol.shared cl) (hco:SCo P G co) {f:Nat} {vs:List AV} {nx:Nat} {k:List AV->HT->Nat->Cr}
  (e:bodyE P pol gk gl cl co f vs h nx k = .ok r h' nx' rd wr) (hi:Inv h nx):∃ out h1 n1,k out h1 n1 = .ok r h' nx' rd wr/\Adv h nx h1 n1/\∃ fn code mc,P.funcs[f]?=some fn/\fn.body=some code/\Qq P fn.ntmps code=some mc/\vs.length<=fn.ntmps ∧
   ∀ σ,Wf P σ h->∀ Z Hl,get Hl=hpF G σ h->AW P fn.ntmps Z none mc (fun e F1 H1=>(e = .normal\/e = .ret)/\JD P F1 H1 fn.results.toList=some out/\get H1=hpF G σ h1) (params vs 0) Hl:=by
 obtain ⟨nt,rs,mc,e0,F1,h1,n1,out,hf,hl,h256,he,hex,ho,hk⟩:=bodyE_inv e
 obtain ⟨fn,code,f1,f2,f3,rfl,rfl⟩:=fnI_inv hf
 have ck:=evC_ok hm hG hnd hcl hco mc he hi
 refine ⟨out,h1,n1,hk,ck.adv,fn,code,mc,f1,f2,f3,hl,fun σ hw Z Hl hH=>?_⟩
 refine XG (ck.aw σ hw fn.ntmps h256 Z none (.inl rfl) (params vs 0) Hl (get_par (by omega)) hH) fun e1 F2 H2 ⟨p1,p2,p3⟩=>⟨p1 ▸ hex,ressE_ok p2 p3 ho,p3⟩
theorem toPR_inv {c:Cr} (e:toPR c = .ok r al):∃ v h nx rd wr,c = .ok v h nx rd wr/\fzV h 400 v = .ok r al:=by
 cases c with
 | no=>cases e
 | ok v h nx rd wr =>
  refine ⟨v,h,nx,rd,wr,rfl,?_⟩
  have e : @Fz.rec (fun _=>PR) .no (fun v al=>.ok v al) (fzV h 400 v) = .ok r al:=e
  cases hf:fzV h 400 v with
  | no=>rw [hf] at e; cases e
  | ok v' al' =>
   rw [hf] at e
   have e:PR.ok v' al' = .ok r al:=e
   injection e with e1 e2
   subst e1 e2
   rfl
theorem inv_e3:Inv e3 0:=⟨by omega,fun i _=>gH_e i,fun i o e=>by rw [gH_e] at e; cases e⟩
theorem wf_e3 {σ:Nat->Ob}:Wf P σ e3:=⟨fun i _ _ _ _ e=>(by rw [gH_e] at e; cases e),fun i _ e=>(by rw [gH_e] at e; cases e),fun i _ e=>(by rw [gH_e] at e; cases e)⟩
def OraOK (P:Program) (ora:Nat->List AV->PR):Prop:=∀ f vs r al,ora f vs = .ok r al->(al=false->FC P f vs [] r [] false)/\(al=true->FC P f vs [] r [] true/\Qi vs=true)
theorem fc_frameG (hG:GOK G gl gk) {f:Nat} {vs:List AV} (hc:Qi vs=true) (h:FC P f vs [] r [] true):FC P f vs G r G true:=by
 intro w S ρ cargs hH hv
 have n0:∀ b,¬ LiveF (fun _=>none) (get ([]:Hp)) All b:=fun b ⟨i,ob,z,cap,_,q,_⟩=>by cases q
 refine Calls.mono (h w S (fun _=>none) cargs ⟨hH.hS,fun _ _=>rfl,⟨fun i ob _ q=>(by cases q),fun i j oi oj b z z' c c' _ _ _ q=>(by cases q)⟩⟩ ⟨hv.1,fun j v hj=>(hv.2 j v hj).scope (D:=[]) (Xf (X3 [] _ hc) (List.mem_of_getElem? hj)) (fun i hi=>by cases hi)⟩) ?_
 rintro e w' ⟨cv,S',ρ',rfl,q1,q2,q3,q4,q5,q6,q7⟩
 have hn:∀ i,ρ' i=none:=fun i=>q2.dom i rfl
 have hcell:∀ (a:Addr) (c:Value),S a.block->w.cell? a=some c->w'.cell? a=some c:=fun a c _ hc=>q3.cell (fun hl=>n0 _ hl) hc
 have nl:∀ ρ b,¬ LiveF ρ (get G) All b:=fun ρ b ⟨i,ob,z,cap,_,g1,g2,_⟩=>by
  obtain ⟨_,_,g,cs,rfl⟩:=hG.far i ob g1
  cases g2
 refine ⟨cv,fun b=>S b\/S' b,ρ,rfl,q1.mono (fun b hb=>.inr hb) (fun _ _ _ h=>h) (fun i x hx=>by rw [hn i] at hx; cases hx),⟨fun b hb=>hb.elim (fun hb=>Nat.lt_of_lt_of_le (hH.hS b hb) q3.size) (q2.hS b),hH.dom,⟨fun i ob hi hg=>?_,fun i j oi oj b z z' c c' _ _ _ g1 _ g2=>?_⟩⟩,
  q3.mono (fun b hb=>(n0 b hb).elim),fun b hb=>?_,fun b hb=>(nl _ _ hb).elim,fun _ _=>rfl,fun _ h=>h⟩
 ·obtain ⟨bk,z,cap,g1,g2⟩:=hH.at_.ob i ob hi hg
  obtain ⟨_,_,g,cs,rfl⟩:=hG.far i ob hg
  exact ⟨bk,z,cap,g1,g2.mono (fun b hb=>.inl hb) hcell (fun _ _ h=>h) fun b _ hl=>(by cases hl)⟩
 ·obtain ⟨_,_,g,cs,rfl⟩:=hG.far i oi g1
  cases g2
 ·rcases hb with hb | hb
  ·exact .inl ⟨rfl,hb⟩
  ·exact (q4 b hb).elim .inl fun h=>h.elim (fun h=>(n0 b h).elim) fun h=>.inr (.inr h)
theorem pure_ok (hm:P.follows .mixedOrders=true) (hG:GOK G gl gk) (hnd:Xn G=true) (hcl:SCl P G pol.shared cl) (hco:SCo P G co) (hora:OraOK P pol.ora) {f:Nat} {vs:List AV}
  (e:pureE P pol gk gl cl co f vs = .ok r al) (ha:al'=true\/al=false) (hg:al'=true\/G=[]):FC P f vs [] r [] false\/FC P f vs G r G al':=by
 unfold pureE at e
 cases ho:pol.ora f vs with
 | ok r' a0 =>
  rw [ho] at e
  have e:PR.ok r' a0 = .ok r al:=e
  injection e with e1 e2
  subst e1 e2
  obtain ⟨h1,h2⟩:=hora f vs r' a0 ho
  cases a0 with
  | false=>exact .inl (h1 rfl)
  | true =>
   obtain ⟨h3,h4⟩:=h2 rfl
   obtain rfl:al'=true:=ha.resolve_right (by simp)
   exact .inr (fc_frameG hG h4 h3)
 | no =>
  rw [ho] at e
  have e:toPR (bodyE P pol gk gl cl co f vs e3 0 fun out H nx=>.ok (Xl out) H nx [] []) = .ok r al:=e
  obtain ⟨v,h,nx,rd,wr,eb,hf⟩:=toPR_inv e
  obtain ⟨out,h1,n1,hk,adv,fn,code,mc,f1,f2,f3,hl,haw⟩:=body_ok hm hG hnd hcl hco eb inv_e3
  injection hk with k1 k2 k3 k4 k5
  subst k1 k2
  refine .inr (fc_of_aw f1 f2 f3 hl (XG (haw (fun _=>.dead) wf_e3 (Qa G) G ?_) fun e1 F1 H1 ⟨p1,p2,p3⟩=>⟨p1,out,p2,fzV_ok (fun i o hi=>⟨hp_ob p3 hi,?_⟩) 400 _ _ _ hf ha,fun i ob hi=>.inl ⟨?_,?_,?_⟩,fun i hi=>?_⟩))
  ·funext i
   unfold hpF
   rw [gH_e]
  ·cases hgi:get G i with
   | none=>rfl
   | some ob=>have:=(hG.far i ob hgi).1; have:=gH_lt (obE_some hi); omega
  ·rw [p3]; exact hpF_G hG hi
  ·obtain ⟨_,_,g,cs,rfl⟩:=hG.far i ob hi; rfl
  ·rcases hg with hg | hg
   ·exact .inl hg
   ·subst hg; simp [get] at hi
  ·cases hgi:get G i with
   | none=>exact absurd hgi (Qp.1 hi)
   | some ob=>exact ⟨ob,rfl,by rw [p3,hpF_G hG hgi]; simp⟩
end
theorem rangeE_mem:∀ {n i:Nat},i<n->i∈rangeE n
 | 0,i,hi=>by omega
 | n+1,i,hi=>by
  show i∈n::rangeE n
  by_cases e:i=n
  ·subst e; simp
  ·exact List.mem_cons_of_mem _ (rangeE_mem (by omega))
def Gb (G:Hp):Bool->Hp
 | true=>G
 | false=>[]
variable {G:Hp}
theorem gok_b {gl:GlT} {gk:List Nat} (h:GOK G gl gk):∀ b,GOK (Gb G b) (Q6 b gl fun _=>none) (Q6 b gk [])
 | true=>h
 | false=>⟨fun i ob e=>by simp [Gb,get] at e,fun g cs e=>by cases e⟩
theorem nodup_b (h:Xn G=true):∀ b,Xn (Gb G b)=true
 | true=>h
 | false=>rfl
section
variable {P:Program} {pol:Pol} {G:Hp} {σ:Nat->Ob}
theorem prA_inv {c:PR} {w0:List Nat} {nx:Nat} (e:prA c w0 h nx = .ok r h' nx' rd wr):∃ al,c = .ok r al/\h'=h/\nx'=nx/\rd=w0/\wr=[]:=by
 cases c with
 | no=>cases e
 | ok v al =>
  have e:Cr.ok v h nx w0 [] = .ok r h' nx' rd wr:=e
  injection e with e1 e2 e3 e4 e5
  subst e1 e2 e3 e4 e5
  exact ⟨al,rfl,rfl,rfl,rfl,rfl⟩
theorem prL_inv {c:PR} {r0:List Nat} {nx:Nat} (e:prL c r0 h nx = .ok r h' nx' rd wr):c = .ok r false/\h'=h/\nx'=nx/\rd=r0/\wr=[]:=by
 cases c with
 | no=>cases e
 | ok v al =>
  cases al with
  | true=>cases e
  | false =>
   have e:Cr.ok v h nx r0 [] = .ok r h' nx' rd wr:=e
   injection e with e1 e2 e3 e4 e5
   subst e1 e2 e3 e4 e5
   exact ⟨rfl,rfl,rfl,rfl,rfl⟩
theorem doCall_ok (hm:P.follows .mixedOrders=true) (hG:GOK G pol.gl pol.gk) (hnd:Xn G=true) (hora:OraOK P pol.ora) (clb:Bool->X5) (cob:Bool->CoT)
  (ih:∀ b,SCl P (Gb G b) pol.shared (clb b)/\SCo P (Gb G b) (cob b)) (b:Bool):SCl P (Gb G b) pol.shared (doCall P pol b clb cob):=by
 intro f vs h nx r h' nx' rd wr e hi
 have hGb:=gok_b hG b
 have hnb:=nodup_b hnd b
 unfold doCall at e
 split at e
 ·rename_i hs
  have sub:=reach_sub (h:=h) 100000 (rnL vs []) e3 fun i o ho=>by rw [gH_e] at ho; cases ho
  generalize reachE h 100000 (rnL vs []) e3=hr at e sub
  unfold callPart at e
  obtain ⟨hnl,e⟩:=guardC_inv e
  obtain ⟨hna,e⟩:=guardC_inv e
  have hir:=hi.sub sub
  obtain ⟨out,h1,n1,hk,adv,fn,code,mc,f1,f2,f3,hl,haw⟩:=body_ok hm hGb hnb (ih b).1 (ih b).2 e hir
  have top1:=adv.inv.top
  have hov:∀ i,gH (ovE h1 n1 h) i=match gH h1 i with | some o=>some o | none=>gH h i:=fun i=>by
   rw [gH_ovE h1 h i n1 (by omega)]
   split
   ·rfl
   ·rename_i hlt; rw [adv.inv.fresh i (by omega)]
  injection hk with k1 k2 k3 k4 k5
  subst k1 k2 k3 k4 k5
  have hfc:∀ {σ:Nat->Ob} {Hs Hs':Hp},Wf P σ hr->get Hs=hpF (Gb G b) σ hr->get Hs'=hpF (Gb G b) σ h1->FC P f vs Hs (Xl out) Hs' true:=fun {σ Hs Hs'} hw hH hH' =>
   fc_exact f1 f2 f3 hl (XG (haw σ hw (Qa Hs) Hs hH) fun e1 F1 H1 ⟨p1,p2,p3⟩=>⟨p1,p2,p3.trans hH'.symm⟩)
  refine ⟨adv.ov hi sub hov,fun {σ N ops o mo Fl Hl} hw hc hg hent hH=>?_,fun _=>⟨hr,h1,sub,hnl,hna,hov,adv,hfc⟩⟩
  have hwr:=hw.sub sub
  have hT:=X1 (Gb G b) σ hr
  have hT1:=X1 (Gb G b) σ h1
  have hD:=names_hl hT
  have hst:=JC (H:=Hl) hc hg hent (hfc hwr hT hT1) (rd:=[]) (hands_same (nmL_sc hD vs hnl)) (fun e=>by cases e) (fun j ob hj=>by rw [hH]; rw [hT] at hj; exact hpF_sub hGb sub hj)
   (fun j ob hj=>all_sc hGb hir hwr hna hD (by rw [← hT]; exact hj)) (fun j hj=>by cases hj)
   (fun j hj hj'=>by
    rw [hT1] at hj
    rw [hT] at hj'
    rw [hH]
    have hgG:get (Gb G b) j=none:=by
     cases hgg:get (Gb G b) j with
     | none=>rfl
     | some ob=>rw [hpF_G hGb hgg] at hj'; cases hj'
    have hgr:gH hr j=none:=by
     cases hgr:gH hr j with
     | none=>rfl
     | some o=>unfold hpF at hj'; rw [hgr] at hj'; cases hj'
    have hg1:gH h1 j≠none:=fun e=>by
     unfold hpF at hj
     rw [e] at hj
     exact hj hgG
    rcases adv.nw j hg1 with hn | hn
    ·exact absurd hgr hn
    ·unfold hpF
     rw [hi.fresh j hn]; exact hgG)
   (fun j hj hj'=>hj (by rw [hT]; rw [hT1] at hj'; exact hpF_dom adv.dom hj'))
  obtain ⟨rd',wr',hst',w1,w2⟩:=step_part hGb adv.inv (fun j ob hj=>by rw [hH]; exact hpF_G hGb hj) hst
  refine ⟨rd',wr',_,hst',fpLe_mk w1 w2,?_⟩
  funext j
  rw [QU,hT1,hH]
  exact hpF_ov hGb hov j
 ·rename_i hs
  have hno:pol.shared f=true->∃ hr h1,(∀ i o,gH hr i=some o->gH h i=some o)/\nmL hr vs=true/\nmAll hr nx=true/\(∀ i,gH h' i=match gH h1 i with | some o=>some o | none=>gH h i)/\Adv hr nx h1 nx' ∧
    ∀ {σ:Nat->Ob} {Hs Hs':Hp},Wf P σ hr->get Hs=hpF (Gb G b) σ hr->get Hs'=hpF (Gb G b) σ h1->FC P f vs Hs r Hs' true:=fun h=>by rw [hs] at h; cases h
  split at e
  ·rename_i hcv
   rw [nrmL_eq] at e
   obtain ⟨al,ep,rfl,rfl,rfl,rfl⟩:=prA_inv e
   refine ⟨.refl hi,fun {σ N ops o mo Fl Hl} hw hc hg hent hH=>?_,hno⟩
   rcases pure_ok (al':=true) hm hGb hnb (ih b).1 (ih b).2 hora ep (.inl rfl) (.inl rfl) with hfc | hfc
   ·have hst:=JC (H:=Hl) hc hg hent hfc (rd:=[]) (hands_same (Hs:=[]) (X3 _ _ hcv)) (fun _=>rfl) (fun j ob hj=>by simp [get] at hj) (fun j ob hj=>by simp [get] at hj) (fun j hj=>by cases hj)
     (fun j hj=>absurd rfl hj) (fun j hj=>absurd rfl hj)
    exact ⟨[],_,_,hst,fpLe_mk (fun j hj=>by cases hj) (fun j hj=>by cases hj),hH⟩
   ·have hst:=JC (H:=Hl) hc hg hent hfc (rd:=[]) (hands_same (X3 _ _ hcv)) (fun e=>by cases e) (fun j ob hj=>by rw [hH]; exact hpF_G hGb hj)
     (fun j ob hj=>by obtain ⟨_,_,g,cs,rfl⟩:=hGb.far j ob hj; rfl) (fun j hj=>by cases hj) (fun j hj hj'=>absurd hj' hj) (fun j hj=>hj)
    have hsame:∀ j,get (Gb G b++Hl) j=get Hl j:=fun j=>by
     rw [QU,hH]
     cases hgj:get (Gb G b) j with
     | none=>rfl
     | some ob=>rw [hpF_G hGb hgj]; rfl
    have hst':=stepM_move hst (rd':=Qa (Gb G b)) (wr':=[]) (fun i=>by simp) (fun i hi=>by cases hi) (fun i h1 _=>⟨hsame i,fun e=>by
     rw [hH] at e
     cases hgj:get (Gb G b) i with
     | none=>exact Qp.1 h1 hgj
     | some ob=>rw [hpF_G hGb hgj] at e; cases e⟩)
    refine ⟨_,_,_,hst',fpLe_mk (fun j hj=>?_) (fun j hj=>by cases hj),?_⟩
    ·cases hgj:get (Gb G b) j with
     | none=>exact absurd hgj (Qp.1 hj)
     | some ob=>exact (hGb.far j ob hgj).2.1
    ·funext j
     rw [QU,hH]
     cases hgj:get (Gb G b) j with
     | none=>rfl
     | some ob=>rw [hpF_G hGb hgj]; rfl
  ·split at e
   ·rename_i vs' hld
    rw [nrmL_eq] at e
    obtain ⟨ep,rfl,rfl,rfl,rfl⟩:=prL_inv e
    have hGf:=gok_b hG false
    have hfc:FC P f vs' [] r [] false:=(pure_ok (al':=false) hm hGf rfl (ih false).1 (ih false).2 hora ep (.inr rfl) (.inr rfl)).elim id id
    refine ⟨.refl hi,fun {σ N ops o mo Fl Hl} hw hc hg hent hH=>?_,hno⟩
    have hst:=JC (H:=Hl) hc hg hent hfc (rd:=rangeE nx') (hands_ld (fun i o hio=>⟨hp_ob hH hio,rangeE_mem (Nat.lt_of_not_le fun hl=>by have:=obE_some hio; rw [hi.fresh i hl] at this; cases this)⟩) hld)
     (fun _=>rfl) (fun j ob hj=>by simp [get] at hj) (fun j ob hj=>by simp [get] at hj) (fun j hj=>rfl) (fun j hj=>absurd rfl hj) (fun j hj=>absurd rfl hj)
    exact ⟨_,_,_,hst,fpLe_mk (fun j hj=>hj) (fun j hj=>by cases hj),hH⟩
   ·cases e
theorem lev_ok (hm:P.follows .mixedOrders=true) (hG:GOK G pol.gl pol.gk) (hnd:Xn G=true) (hora:OraOK P pol.ora) :
  ∀ n b,SCl P (Gb G b) pol.shared (lev P pol n b).1/\SCo P (Gb G b) (lev P pol n b).2
 | 0,b=>⟨fun e=>(by cases e),fun e=>(by cases e)⟩
 | n+1,b=>by
  have ih:=lev_ok hm hG hnd hora n
  refine ⟨fun {f vs h nx r h' nx' rd wr} e hi=>?_,fun {c F h nx e0 F' h' nx'} e hi=>?_⟩
  ·have e:Q6 (pol.rk f n) (doCall P pol b (fun b=>(lev P pol n b).1) (fun b=>(lev P pol n b).2) f vs h nx) ((lev P pol n b).1 f vs h nx) = .ok r h' nx' rd wr:=e
   rw [QJ] at e
   split at e
   ·exact doCall_ok hm hG hnd hora _ _ ih b e hi
   ·exact (ih b).1 e hi
  ·exact evC_ok hm (gok_b hG b) (nodup_b hnd b) (ih b).1 (ih b).2 c e hi
noncomputable def evalP (P:Program) (pol:Pol) (n:Nat) (f:Nat) (vs:List AV):PR:=pureE P pol pol.gk pol.gl (lev P pol n true).1 (lev P pol n true).2 f vs
theorem eval_fc (hm:P.follows .mixedOrders=true) (hG:GOK G pol.gl pol.gk) (hnd:Xn G=true) (hora:OraOK P pol.ora) {n f:Nat} {vs:List AV}
  (e:evalP P pol n f vs = .ok r al):FC P f vs [] r [] false\/FC P f vs G r G true :=
 pure_ok (al':=true) hm hG hnd (lev_ok hm hG hnd hora n true).1 (lev_ok hm hG hnd hora n true).2 hora e (.inl rfl) (.inl rfl)
noncomputable def evalN (P:Program) (pol:Pol) (n:Nat) (f:Nat) (vs:List AV):PR:=pureE P pol [] (fun _=>none) (lev P pol n false).1 (lev P pol n false).2 f vs
theorem eval_fcn (hm:P.follows .mixedOrders=true) (hG:GOK G pol.gl pol.gk) (hnd:Xn G=true) (hora:OraOK P pol.ora) {n f:Nat} {vs:List AV}
  (e:evalN P pol n f vs = .ok r al) (ha:al'=true\/al=false):FC P f vs [] r [] false\/FC P f vs [] r [] al' :=
 pure_ok (al':=al') hm (gok_b hG false) rfl (lev_ok hm hG hnd hora n false).1 (lev_ok hm hG hnd hora n false).2 hora e ha (.inr rfl)
end
end Go.Proofs.YthmbjgnjfjjibaaGreatDoor
namespace Go.Proofs.YthmbjgnjfjjibaaGreatDoor
open Go.RowKit
set_option maxRecDepth 100000
abbrev mk_ (D:Nat):Deferred:={ target:=.collected D,args := #[] }
variable {S S':Nat->Prop} {ρ ρ':Rho} {w w':World}
section
variable {P:Program}
structure At (N:Nat) (w0:World) (S0:Nat->Prop) (F:Fr) (H:Hp) (S:Nat->Prop) (ρ:Rho) (a:Act) (w:World):Prop where
 fr:FRN N w S ρ (get F) a
 hp:HRF w S ρ (get H)
 keep:Keep w0 w (fun _=>False)
 fresh:∀ b,S b->S0 b\/w0.heap.size<=b
 own:∀ b,LiveF ρ (get H) All b->w0.heap.size<=b
def DC (P:Program) (g:FuncId) (vs:List AV) (H:Hp):Prop :=
 ∀ (w:World) (S:Nat->Prop) (ρ:Rho) (A:Array Value),HRF w S ρ (get H)->VRs w S ρ vs A->CallsDIn Fence.wide 0 P g A .returning w fun e u' w'=>u' = .returning/\(∃ cv,e = .returned cv) ∧
  ∃ S' ρ',HRF w' S' ρ' (get H)/\Keep w w' (LiveF ρ (get H) All)/\(∀ b,S b->S' b)/\(∀ b,S' b->S b\/LiveF ρ (get H) All b\/w.heap.size<=b)/\(∀ b,LiveF ρ' (get H) All b->LiveF ρ (get H) All b\/w.heap.size<=b)/\(∀ i,get H i≠none->ρ' i=ρ i)
def DR (P:Program) (w:World) (S:Nat->Prop) (ρ:Rho) (g:FuncId) (vs:List AV) (d:Deferred):Prop:=∃ cap,d.target = .fn (.func g) cap/\Xj P g=true/\VRs w S ρ vs (d.args++cap)
inductive DLs (P:Program) (w:World) (S:Nat->Prop) (ρ:Rho):List (Nat×List AV)->List Deferred->Prop
 | nil:DLs P w S ρ [] []
 | mark (D:Nat) {gs:List (Nat×List AV)} {ds:List Deferred}:DLs P w S ρ gs ds->DLs P w S ρ gs (mk_ D::ds)
 | call {g:Nat} {vs:List AV} {d:Deferred} {gs:List (Nat×List AV)} {ds:List Deferred}:DR P w S ρ g vs d->DLs P w S ρ gs ds->DLs P w S ρ ((g,vs)::gs) (d::ds)
theorem VRs.mono (hS:∀ b,S b->S' b) (hw:∀ a c,S a.block->w.cell? a=some c->w'.cell? a=some c) (hρ:∀ i x,ρ i=some x->ρ' i=some x) {vs:List AV} {C:Array Value} (h:VRs w S ρ vs C):VRs w' S' ρ' vs C :=
 ⟨h.1,fun j v hj=>(h.2 j v hj).mono hS hw hρ⟩
theorem DLs.mono (hS:∀ b,S b->S' b) (hw:∀ a c,S a.block->w.cell? a=some c->w'.cell? a=some c) (hρ:∀ i x,ρ i=some x->ρ' i=some x) {gs:List (Nat×List AV)} {ds:List Deferred} (h:DLs P w S ρ gs ds):DLs P w' S' ρ' gs ds:=by
 induction h with
 | nil=>exact .nil
 | mark D _ ih=>exact .mark D ih
 | call hd _ ih =>
  obtain ⟨cap,h1,h2,h3⟩:=hd
  exact .call ⟨cap,h1,h2,h3.mono hS hw hρ⟩ ih
theorem DLs.marks {w:World} {S:Nat->Prop} {ρ:Rho} {gs:List (Nat×List AV)} {ds:List Deferred}:∀ (Ds:List Nat),DLs P w S ρ gs ds->DLs P w S ρ gs (Ds.map mk_++ds)
 | [],h=>h
 | D::Ds,h=>.mark D (DLs.marks Ds h)
theorem run_invoke {g:FuncId} (h:Xj P g=true) (cap args:Array Value) (w:World):(invoke (.fn (.func g) cap) args).run P w = .ok (.enter g (args++cap)) w:=by
 simp [invoke,XU h]
theorem leaves_dl {fn:Func} {N:Nat} {F:Fr} {H:Hp} {w0:World} {S0:Nat->Prop} {a:Act} {R:Ending->World->Prop}
  (hend:∀ S ρ w,At N w0 S0 F H S ρ a w->LeavesIn Fence.wide 0 P fn a.tmps R [] .returning w):∀ (ds:List Deferred) (gs:List (Nat×List AV)) (S:Nat->Prop) (ρ:Rho) (w:World),
  (∀ p∈gs,DC P p.1 p.2 H)->At N w0 S0 F H S ρ a w->Marks ds w (LiveF ρ (get H) All)->(∀ D∈JG ds,w0.heap.size<=D)->DLs P w S ρ gs ds->LeavesInM Fence.wide 0 P fn a.tmps R ds .returning w
 | [],_,S,ρ,w,_,h,_,_,_=>hend S ρ w h
 | d::ds,gs,S,ρ,w,hdc,h,hm,hn,hl=>by
  cases hl with
  | mark D hl =>
   obtain ⟨m1,m2⟩:=hm
   have m1:(D::JG ds).Nodup:=m1
   obtain ⟨n1,n2⟩:=List.nodup_cons.1 m1
   have h0:=m2 D (by show D∈D::JG ds; simp)
   have hq:Keep w (w.putObj D (.deferred none)) (fun b=>b∈[D]):=⟨rfl,rfl,rfl,by simp,fun k hk hne=>World.putObj_heap_other (fun e=>hne (by simp [e]))⟩
   have hD:∀ D'∈[D],w.heap[D']?=some (.deferred (some []))/\¬ LiveF ρ (get H) All D':=fun D' h'=>by rw [List.mem_singleton.1 h']; exact h0
   have hcell:∀ (x:Addr) (c:Value),w.cell? x=some c->(w.putObj D (.deferred none)).cell? x=some c:=fun x c hc=>quiet_cell (fun D' h'=>(hD D' h').1) hq hc
   have hDn:=hn D (by show D∈D::JG ds; simp)
   refine ⟨by simp,.inl ⟨D,_,rfl,run_takeDeferred h0.1,leaves_dl hend ds gs S ρ _ hdc
    ⟨⟨h.fr.size,fun t v hv=>(h.fr.at_ t v hv).mono (fun _ h=>h) (fun x c _ hc=>hcell x c hc) (fun _ _ h=>h)⟩,quiet_hrf h.hp hD hq,h.keep.trans hq (fun b hb=>.inr (by rw [List.mem_singleton.1 hb]; exact hDn)),h.fresh,h.own⟩
    ⟨n2,fun D' h'=>?_⟩ (fun D' h'=>hn D' (by show D'∈D::JG ds; simp [h'])) (hl.mono (fun _ h=>h) (fun x c _ hc=>hcell x c hc) (fun _ _ h=>h))⟩⟩
   have hne:D'≠D:=fun e=>n1 (e ▸ h')
   have q:=m2 D' (by show D'∈D::JG ds; simp [h'])
   exact ⟨(World.putObj_heap_other hne).trans q.1,q.2⟩
  | call hd hl =>
   rename_i g vs gs
   obtain ⟨cap,h1,h2,h3⟩:=hd
   have hcol:JG (d::ds)=JG ds:=by show (match d.target with | .collected D=>D::JG ds | _=>JG ds)=JG ds; rw [h1]
   rw [Marks,hcol] at hm
   rw [hcol] at hn
   refine ⟨by simp,.inr ⟨fun h=>(by cases h),.func g,cap,g,d.args++cap,h1,by rw [h1]; exact run_invoke h2 cap d.args w,fun _ _=>trivial,?_⟩⟩
   refine (hdc (g,vs) (by simp) w S ρ _ h.hp h3).mono ?_
   rintro e u' w' ⟨rfl,⟨cv,rfl⟩,S',ρ',q1,q2,q3,q4,q5,q6⟩
   have hcell:∀ (x:Addr) (c:Value),S x.block->w.cell? x=some c->w'.cell? x=some c:=fun x c hs hc=>q2.cell (fun ⟨i,ob,z,cp,_,g1,g2,g3⟩=>(h.hp.cells_ne g1 g2 g3).1 hs) hc
   have hρ:∀ i x,ρ i=some x->ρ' i=some x:=fun i x hx=>by
    rw [q6 i fun e=>by rw [h.hp.dom i e] at hx; cases hx]; exact hx
   exact leaves_dl hend ds gs S' ρ' w' (fun p hp=>hdc p (by simp [hp]))
    ⟨⟨h.fr.size,fun t v hv=>(h.fr.at_ t v hv).mono q3 hcell hρ⟩,q1,h.keep.trans q2 (fun b hb=>.inr (h.own b hb)),fun b hb=>(q4 b hb).elim (h.fresh b) fun hb=>.inr (hb.elim (h.own b) (Nat.le_trans h.keep.size)),
     fun b hb=>(q5 b hb).elim (h.own b) (Nat.le_trans h.keep.size)⟩
    ⟨hm.1,fun D hD=>by
     obtain ⟨r1,r2⟩:=hm.2 D hD
     have hlt:=(Array.getElem?_eq_some_iff.1 r1).1
     exact ⟨(q2.block D hlt r2).trans r1,fun hl=>(q5 D hl).elim r2 (by omega)⟩⟩
    hn (hl.mono q3 hcell hρ)
theorem end_at {fn:Func} {F:Fr} {H:Hp} {w0:World} {S0:Nat->Prop} {ρ0:Rho} {a':Act} {vs:List AV} {r:AV} {al:Bool} (h:At fn.ntmps w0 S0 F H S' ρ' a' w') (hvs:JD P F H fn.results.toList=some vs) (hrc:RC H [] al (Xl vs) r) :
  LeavesIn Fence.wide 0 P fn a'.tmps (fun e w'=>∃ cv S' ρ',e = .returned cv/\VR w' S' ρ' r cv/\HRF w' S' ρ' (get ([]:Hp))/\Keep w0 w' (LiveF ρ0 (get ([]:Hp)) All)/\(∀ b,S' b->(al=true/\S0 b)\/LiveF ρ0 (get ([]:Hp)) All b\/w0.heap.size<=b) ∧
   (∀ b,LiveF ρ' (get ([]:Hp)) All b->LiveF ρ0 (get ([]:Hp)) All b\/w0.heap.size<=b)/\(∀ i,get ([]:Hp) i≠none->ρ' i=ρ0 i)/\(∀ i,get ([]:Hp) i≠none->get ([]:Hp) i≠none)) [] .returning w':=by
 obtain ⟨cs,g1,g2,g3⟩:=run_resVs (P:=P) h.fr h.hp _ vs hvs
 obtain ⟨k1,k2⟩:=hrf_weak (keptH_nil (H:=H) (al:=al)) h.hp
 have hres:∃ cv,(results fn a'.tmps).run P w' = .ok cv w'/\VR w' S' ρ' (Xl vs) cv:=by
  have hm:(fn.results.mapM (rvRun a')).run P w' = .ok cs.toArray w':=by
   rw [Array.mapM_eq_mapM_toList]
   simp only [Sem.run_map,g1,Result.andThen_ok]
  refine ⟨if h:cs.toArray.size=1 then cs.toArray[0] else .tuple cs.toArray,?_,?_⟩
  ·have e0:results fn a'.tmps=(do let vs ← fn.results.mapM (rvRun a'); Pure.pure (if h:vs.size=1 then vs[0] else .tuple vs)):=by
    unfold results
    congr 2
   rw [e0,Sem.run_bind,hm]
   rfl
  ·match vs,cs,g2,g3 with
   | [],[],_,_=>exact .tup [] #[] rfl fun j v h=>by simp at h
   | [v],[c],_,g3 =>
    obtain ⟨c',h1,h2⟩:=g3 0 v rfl
    simp at h1; subst h1
    simpa [Xl] using h2
   | v1::v2::vs,c1::c2::cs,g2,g3 =>
    have hne:¬ ((c1::c2::cs).toArray.size=1):=by simp
    rw [dif_neg hne]
    refine .tup _ _ (by simpa using g2) fun j v hj=>?_
    obtain ⟨c,h1,h2⟩:=g3 j v hj
    have e:(c1::c2::cs).toArray.getD j undef=c:=by
     rw [Array.getD_eq_getD_getElem?,List.getElem?_toArray,h1]; rfl
    rw [e]; exact h2
 obtain ⟨cv,r1,r2⟩:=hres
 have r3:=hrc S' ρ' w' cv h.hp r2
 refine ⟨cv,r1,cv,_,_,rfl,r3,k1,h.keep.mono (fun b hb=>hb.elim),fun b hb=>?_,fun b hb=>?_,fun i hi=>absurd rfl hi,fun i hi=>hi⟩
 ·rcases hb with ⟨ha,hb⟩ | ⟨i,ob,z,cap,_,hg,hl,hr⟩
  ·rcases h.fresh b hb with h1 | h1
   ·exact .inl ⟨ha,h1⟩
   ·exact .inr (.inr h1)
  ·exact .inr (.inr (h.own b ⟨i,ob,z,cap,trivial,hg,hl,hr⟩))
 ·obtain ⟨i,ob,z,cap,_,hg,hl,hr⟩:=hb
  cases hg
end
end Go.Proofs.YthmbjgnjfjjibaaGreatDoor
namespace Go.Proofs.YthmbjgnjfjjibaaGreatDoor
open Go.RowKit
set_option maxRecDepth 100000
variable {gs:List (Nat×List AV)}
variable {F:Fr} {N:Nat}
variable {id:Nat} {w:World}
section
variable {P:Program}
theorem steps_marks:∀ (Ds:List Nat) (w:World) (fr:Frame) (cs:List Frame),fr.mode = .returning->fr.defers=Ds.map mk_->Ds.Nodup->(∀ D∈Ds,w.heap[D]?=some (.deferred (some []))) →
  ∃ w',Keep w w' (fun b=>b∈Ds)/\StepsIn (Machine.fenced P Fence.wide) P (lone fr cs w) (lone { fr with defers:=[] } cs w')
 | [],w,fr,cs,hm,hd,_,_=>⟨w,Keep.refl _ _,by
  have:({ fr with defers:=[] }:Frame)=fr:=by cases fr; simp at hd ⊢; exact hd
  rw [this]; exact StepsIn.refl _⟩
 | D::Ds,w,fr,cs,hm,hd,hn,hD=>by
  obtain ⟨n1,n2⟩:=List.nodup_cons.1 hn
  have h0:=hD D (by simp)
  have h1:=step_collected (P:=P) (cs:=cs) (by rw [hm]; simp) hd rfl (run_takeDeferred h0)
  have hk0:Keep w (w.putObj D (.deferred none)) (fun b=>b=D):=⟨rfl,rfl,rfl,by simp,fun k hk hne=>World.putObj_heap_other hne⟩
  obtain ⟨w',hk,hs⟩:=steps_marks Ds (w.putObj D (.deferred none)) { fr with defers:=[]++Ds.map mk_ } cs hm rfl n2 (fun D' h'=>by
   have hne:D'≠D:=fun e=>n1 (e ▸ h')
   rw [hk0.block D' ((Array.getElem?_eq_some_iff.1 (hD D' (by simp [h']))).1) hne]
   exact hD D' (by simp [h']))
  exact ⟨w',(hk0.mono fun b hb=>by simp [hb]).trans hk fun b hb=>.inl (by simp [hb]),.head (fenced_wide P _) h1 hs⟩
theorem dc_of_aw {g:FuncId} {fn:Func} {code:Code} {mc:MC} {vs:List AV} {H:Hp} (hf:P.funcs[g]?=some fn) (hb:fn.body=some code) (hc:Qq P fn.ntmps code=some mc) (hn:vs.length<=fn.ntmps) (hr:fn.results = #[])
  (h:AW P fn.ntmps (Qa H) none mc (fun e F1 H1=>(e = .normal\/e = .ret)/\get H1=get H) (params vs 0) H):DC P g vs H:=by
 intro w S ρ cargs hH hargs
 refine ⟨trivial,fun c₀ cs hu hroom=>?_⟩
 let b:Frame:={ (default:Frame) with fn:=g,kind:=.deferred,roundOf:=none }
 have henter:Frame.enter P g cargs .deferred =
   b.atR { tmps:=cargs++Array.replicate (fn.ntmps-cargs.size) undef,defers:=[] } [.code code]:=by
  simp [Frame.enter,Frame.atR,hf,hb,b]
 have hc0:({ c₀ with mode:=.returning }:Frame)=c₀ := by rw [← hu]
 have hsz:(cargs++Array.replicate (fn.ntmps-cargs.size) undef).size=fn.ntmps:=by simp [hargs.1]; omega
 have hcf:Conf fn.ntmps (Qa H) (params vs 0) H S ρ { tmps:=cargs++Array.replicate (fn.ntmps-cargs.size) undef,defers:=[] } w:=by
  refine ⟨⟨hsz,fun t v hv=>?_⟩,Marks.nil _ _,hH,fun i hi=>Qp.1 hi⟩
  obtain ⟨_,h2⟩:=get_params vs 0 t v hv
  rw [Nat.sub_zero] at h2
  have hl:t<cargs.size:=by rw [hargs.1]; exact (List.getElem?_eq_some_iff.1 h2).1
  have:=hargs.2 t v h2
  rw [Array.getD_eq_getD_getElem?] at this ⊢
  rw [Array.getElem?_append_left hl]; exact this
 obtain ⟨e,a',w0,⟨hfr,F',H'',S',ρ',⟨he,hge⟩,cf0,ex0⟩,harr⟩:=h code hc S ρ _ w hcf b [] (c₀ :: cs) rfl trivial hroom
 rw [← henter] at harr
 obtain ⟨Ds,d1,hDs⟩:=hfr.2
 replace d1:a'.defers=Ds.map mk_:=by rw [d1]; exact List.append_nil _
 obtain ⟨d2,d3⟩:=cf0.defers
 have dcol:JG a'.defers=Ds:=by rw [d1]; have:=colD_map Ds []; rw [List.append_nil] at this; rw [this]; exact List.append_nil _
 rw [dcol] at d2 d3
 have fin:∀ todo,StepsIn (Machine.fenced P Fence.wide) P (lone (Frame.enter P g cargs .deferred) (c₀ :: cs) w) (lone { b.atR a' todo with mode:=.returning } (c₀ :: cs) w0) →
   ∃ e u' w' fr,(u'=FrameMode.returning/\(∃ cv,e=Ending.returned cv)/\∃ S' ρ',HRF w' S' ρ' (get H)/\Keep w w' (LiveF ρ (get H) All)/\(∀ b,S b->S' b)/\(∀ b,S' b->S b\/LiveF ρ (get H) All b\/w.heap.size<=b)/\(∀ b,LiveF ρ' (get H) All b->LiveF ρ (get H) All b\/w.heap.size<=b)/\(∀ i,get H i≠none->ρ' i=ρ i)) ∧
    ComesIn (Machine.fenced P Fence.wide) P (lone (Frame.enter P g cargs .deferred) (c₀ :: cs) w) (lone fr ({ c₀ with mode:=u' }::cs) w') e/\fr.kind = .deferred/\fr.fn=g/\fr.going P w' e:=fun todo hs=>by
  obtain ⟨w',hq,hs2⟩:=steps_marks (P:=P) Ds w0 { b.atR a' todo with mode:=.returning } (c₀ :: cs) rfl d1 d2 fun D hD=>(d3 D hD).1
  refine ⟨.returned (.tuple #[]),.returning,w',_,⟨rfl,⟨_,rfl⟩,S',ρ',?_,?_,ex0.sub,ex0.fresh,fun b hb=>ex0.own b (by rw [hge]; exact hb),fun i hi=>ex0.rho i (Qp.2 hi)⟩,by rw [hc0]; exact hs.trans hs2,rfl,rfl,rfl,rfl,fn,hf,by simp [results,hr]⟩
  ·have:=quiet_hrf cf0.hp d3 hq; rwa [hge] at this
  ·exact ⟨hq.os.trans ex0.keep.os,hq.tape.trans ex0.keep.tape,hq.output.trans ex0.keep.output,Nat.le_trans ex0.keep.size hq.size,fun k hk1 hk2 =>
    (hq.block k (Nat.lt_of_lt_of_le hk1 ex0.keep.size) fun hd=>by have:=hDs k hd; omega).trans (ex0.keep.block k hk1 hk2)⟩
 rcases he with rfl | rfl
 ·exact fin [] (StepsIn.trans harr (.one (fenced_wide P _) (stepR_end rfl)))
 ·obtain ⟨todo,hs⟩:=harr.1 rfl
  exact fin todo hs
def DfC (P:Program) (N:Nat) (cd:Code) (F F':Fr) (g:FuncId) (vs:List AV):Prop:=∀ S ρ a w,FRN N w S ρ (get F) a →
 cd.wpIn (Fc none) 0 P (fun e a' w'=>e = .normal/\w'=w/\FRN N w S ρ (get F') a'/\∃ d,a'.defers=d::a.defers/\DR P w S ρ g vs d) a w
theorem one_op {N:Nat} {o:Oper} {rn:Option Nat} (hg:o.guard=none) {Q:Exit->Act->World->Prop} {a:Act} (h:o.wpIn (Fc rn) 0 P a w (fun a' w'=>Q .normal a' w') Q):(Code.region id #[o] false).wpIn (Fc rn) 0 P Q a w:=by
 refine wpIn_region ?_
 show wpOpsIn _ _ _ _ _ [0] _ _
 simp only [wpOpsIn]
 have:Region.wanted o (yielded #[o] a.tmps)=true:=by simp [Region.wanted,hg]
 show (if Region.wanted o (yielded #[o] a.tmps)=true then _ else _)
 rw [if_pos this]
 exact h
theorem dfc_call {g t:Nat} {o:Oper} {ty:TypeId} {v:AV} (hg:o.guard=none) (hd:o.dst=none) (ho:o.op = .defer { callee:=.value (.func g),args := #[.tmp t],argTypes := #[ty] }) (hv:get F t=some v) (he:Xj P g=true) :
  DfC P N (.region id #[o] false) F F g [v]:=fun S ρ a w hF=>by
 refine one_op (N:=N) hg ⟨fun _ _=>trivial,?_⟩
 have hr:(o.semAt (Fc none).round a.eval).run P w = .ok (.defer { target:=.fn (.func g) #[],args := #[a.tmps.getD t undef] }) w:=by
  rw [show (Fc none).round=none from rfl,Oper.semAt_none]
  simp [execOp,ho,resolve,Deferred.ofValue,Act.eval]
 rw [hr,Oper.uponIn_defer]
 refine ⟨rfl,rfl,?_,_,by rw [hd]; rfl,#[],rfl,he,by simp,fun j u hj=>?_⟩
 ·rw [hd]; exact ⟨hF.size,hF.at_⟩
 ·cases j with
  | zero=>simp at hj; subst hj; simpa using hF.at_ t v hv
  | succ j=>simp at hj
theorem dfc_clo {g t1 t2 tm:Nat} {o1 o2:Oper} {v1 v2:AV} (hg1:o1.guard=none) (hg2:o2.guard=none) (hd1:o1.dst=some tm) (hd2:o2.dst=none) (hN:tm<N) (ho1:o1.op = .makeFunc (.func g) #[] #[.tmp t1,.tmp t2])
  (ho2:o2.op = .defer { callee:=.value (.tmp tm),args := #[],argTypes := #[] }) (hv1:get F t1=some v1) (hv2:get F t2=some v2) (he:Xj P g=true) :
  DfC P N (.region id #[o1,o2] false) F ((tm,.fn (.func g) [v1,v2])::F) g [v1,v2]:=fun S ρ a w hF=>by
 have hvr:VRs w S ρ [v1,v2] #[a.tmps.getD t1 undef,a.tmps.getD t2 undef]:=⟨by simp,fun j u hj=>by
  match j,hj with
  | 0,hj=>simp at hj; subst hj; simpa using hF.at_ t1 v1 hv1
  | 1,hj=>simp at hj; subst hj; simpa using hF.at_ t2 v2 hv2⟩
 have hF2:FRN N w S ρ (get ((tm,.fn (.func g) [v1,v2])::F)) (a.put (some tm) (.func (.func g) #[] #[a.tmps.getD t1 undef,a.tmps.getD t2 undef])):=by
  have:=hF.put (dst:=some tm) (v:=.fn (.func g) [v1,v2]) (fun _ _ h=>h) (by simpa [dstOK] using hN) (.fn (.func g) [v1,v2] #[a.tmps.getD t1 undef,a.tmps.getD t2 undef] hvr.1 hvr.2)
  refine ⟨this.size,fun t v hv=>this.at_ t v ?_⟩
  simp only [get] at hv
  by_cases ht:tm=t
  ·subst ht; simpa using hv
  ·rw [if_neg ht] at hv; rw [if_neg (by simpa using Ne.symm ht)]; exact hv
 refine wpIn_region ?_
 show wpOpsIn _ _ _ _ _ [0,1] _ _
 simp only [wpOpsIn]
 show (if Region.wanted o1 (yielded #[o1,o2] a.tmps)=true then _ else _)
 rw [if_pos (by simp [Region.wanted,hg1])]
 refine ⟨fun _ _=>trivial,?_⟩
 have hr1:(o1.semAt (Fc none).round a.eval).run P w = .ok (.value (.func (.func g) #[] #[a.tmps.getD t1 undef,a.tmps.getD t2 undef])) w:=by
  rw [show (Fc none).round=none from rfl,Oper.semAt_none]
  simp [execOp,ho1,Instr.makeFunc,Act.eval]
 change Oper.uponIn (Fc none) 0 P o1 a _ _ ((o1.semAt (Fc none).round a.eval).run P w)
 rw [hr1,Oper.uponIn_value,hd1]
 show (if Region.wanted o2 (yielded #[o1,o2] _)=true then _ else _)
 rw [if_pos (by simp [Region.wanted,hg2])]
 refine ⟨fun _ _=>trivial,?_⟩
 have ht:(a.put (some tm) (.func (.func g) #[] #[a.tmps.getD t1 undef,a.tmps.getD t2 undef])).tmps.getD tm undef = .func (.func g) #[] #[a.tmps.getD t1 undef,a.tmps.getD t2 undef]:=by
  rw [put_getD (by rw [hF.size]; exact hN)]; simp
 have hr2:(o2.semAt (Fc none).round (a.put (some tm) (.func (.func g) #[] #[a.tmps.getD t1 undef,a.tmps.getD t2 undef])).eval).run P w = .ok (.defer { target:=.fn (.func g) #[a.tmps.getD t1 undef,a.tmps.getD t2 undef],args := #[] }) w:=by
  rw [show (Fc none).round=none from rfl,Oper.semAt_none]
  have ht':=ht
  simp only [Array.getD_eq_getD_getElem?] at ht'
  simp [execOp,ho2,resolve,Act.eval,ht',Deferred.ofValue]
 change Oper.uponIn (Fc none) 0 P o2 _ _ _ ((o2.semAt (Fc none).round (a.put (some tm) (.func (.func g) #[] #[a.tmps.getD t1 undef,a.tmps.getD t2 undef])).eval).run P w)
 rw [hr2,Oper.uponIn_defer]
 refine ⟨trivial,rfl,?_,_,by rw [hd2]; show _::(a.put _ _).defers=_; rw [put_defers],#[a.tmps.getD t1 undef,a.tmps.getD t2 undef],rfl,he,by simpa using hvr⟩
 rw [hd2]; exact ⟨hF2.size,hF2.at_⟩
def chain:List Code->Code->Code
 | [],c=>c
 | cd::l,c=>.seq cd (chain l c)
inductive DfL (P:Program) (N:Nat):List Code->Fr->Fr->List (Nat×List AV)->Prop
 | nil (F:Fr):DfL P N [] F F []
 | cons {cd:Code} {l:List Code} {F F1 F2:Fr} {g:Nat} {vs:List AV} {gs:List (Nat×List AV)}:DfC P N cd F F1 g vs->DfL P N l F1 F2 gs->DfL P N (cd::l) F F2 (gs++[(g,vs)])
theorem DLs.snoc {S:Nat->Prop} {ρ:Rho} {ds:List Deferred} {g:Nat} {vs:List AV} {d:Deferred} (h:DLs P w S ρ gs ds) (hd:DR P w S ρ g vs d):DLs P w S ρ (gs++[(g,vs)]) (ds++[d]):=by
 induction h with
 | nil=>exact .call hd .nil
 | mark D _ ih=>exact .mark D ih
 | call h1 _ ih=>exact .call h1 ih
theorem colD_call {d:Deferred} {g:FuncId} {cap:Array Value} (h:d.target = .fn (.func g) cap) (ds:List Deferred):JG (d::ds)=JG ds:=by
 show (match d.target with | .collected D=>D::JG ds | _=>JG ds)=JG ds; rw [h]
theorem chain_wp {l:List Code} {F':Fr} (h:DfL P N l F F' gs):∀ {S:Nat->Prop} {ρ:Rho} {a:Act} {w:World} {c:Code} {Q:Exit->Act->World->Prop},FRN N w S ρ (get F) a →
  (∀ a' ds,FRN N w S ρ (get F') a'->a'.defers=ds++a.defers->DLs P w S ρ gs ds->JG a'.defers=JG a.defers->c.wpIn (Fc none) 0 P Q a' w)->(chain l c).wpIn (Fc none) 0 P Q a w:=by
 induction h with
 | nil F=>intro S ρ a w c Q hF hk; exact hk a [] hF rfl .nil rfl
 | cons hd _ ih =>
  intro S ρ a w c Q hF hk
  refine wpIn_seq (wpIn_mono (hd S ρ a w hF) ?_)
  rintro e a1 w1 ⟨rfl,rfl,hF1,d,hd1,hdr⟩
  refine ih hF1 fun a2 ds hF2 h2 hl hcol=>hk a2 (ds++[d]) hF2 (by rw [h2,hd1]; simp) (hl.snoc hdr) ?_
  rw [hcol,hd1]
  obtain ⟨cap,q,_⟩:=hdr
  exact colD_call q _
variable {sh:Nat->Bool} {cl:X5} {co:CoT}
theorem wf_of_adv {h:HT} {n:Nat} {σ:Nat->Ob} (a:Adv e3 0 h n):Wf P σ h :=
 ⟨fun i ps x y F e=>(by have:=a.lb i ps x y F e; rw [gH_e] at this; cases this),fun i F e=>(by have:=a.bb i F e; rw [gH_e] at this; cases this),fun i F e=>(by
  rcases a.db i F e with h | ⟨ps,x,y,h⟩ <;> (rw [gH_e] at h; cases h))⟩
theorem fc_defers (hm:P.follows .mixedOrders=true) (hcl:SCl P [] sh cl) (hco:SCo P [] co) {f:FuncId} {fn:Func} {c0 c1:Code} {l:List Code} {m0 m1:MC} {vs:List AV} {F0 F0' F1:FT} {h0 h1:HT} {n0 n1:Nat} {e1:Exit} {out:List AV} {r:AV}
  (hf:P.funcs[f]?=some fn) (hb:fn.body=some (.seq c0 (chain l c1))) (hc0:Qq P fn.ntmps c0=some m0) (hc1:Qq P fn.ntmps c1=some m1) (hN:fn.ntmps<=256) (hl:vs.length<=fn.ntmps)
  (ev0:evC P sh [] (fun _=>none) cl co m0 (parE vs 0 e2) e3 0 = .ok .normal F0 h0 n0) (hdf:∀ Fl,get Fl=gF F0->∃ Fl',get Fl'=gF F0'/\DfL P fn.ntmps l Fl Fl' gs)
  (ev1:evC P sh [] (fun _=>none) cl co m1 F0' h0 n0 = .ok e1 F1 h1 n1) (he1:e1 = .normal\/e1 = .ret) (hdc:∀ Hl,get Hl=hpF [] (fun _=>.dead) h1->∀ p∈gs,DC P p.1 p.2 Hl)
  (hres:ressE P F1 h1 fn.results.toList=some out) {al al':Bool} (hfz:fzV h1 400 (Xl out) = .ok r al) (ha:al'=true\/al=false):FC P f vs [] r [] al':=by
 have hG:GOK ([]:Hp) (fun _=>none) []:=⟨fun i ob e=>by simp [get] at e,fun g cs e=>by cases e⟩
 have k0:=evC_ok hm hG rfl hcl hco m0 ev0 inv_e3
 have k1:=evC_ok hm hG rfl hcl hco m1 ev1 k0.adv.inv
 intro w S ρ cargs hH hargs
 refine callsIn_wide.1 (callsIn_of_wp_marks (F:=Fence.wide) (n:=0) hf hb trivial ?_)
 have hsz:(cargs++Array.replicate (fn.ntmps-cargs.size) undef).size=fn.ntmps:=by simp [hargs.1]; omega
 have hcf:Conf fn.ntmps [] (params vs 0) [] S ρ { tmps:=cargs++Array.replicate (fn.ntmps-cargs.size) undef,defers:=[] } w:=by
  refine ⟨⟨hsz,fun t v hv=>?_⟩,Marks.nil _ _,hH,fun i hi=>by cases hi⟩
  obtain ⟨_,h2⟩:=get_params vs 0 t v hv
  rw [Nat.sub_zero] at h2
  have hl:t<cargs.size:=by rw [hargs.1]; exact (List.getElem?_eq_some_iff.1 h2).1
  have:=hargs.2 t v h2
  rw [Array.getD_eq_getD_getElem?] at this ⊢
  rw [Array.getElem?_append_left hl]; exact this
 have nolive:∀ b,¬ LiveF ρ (get ([]:Hp)) All b:=fun b ⟨i,ob,z,cap,_,h1,_⟩=>by cases h1
 refine wpIn_seq (wpIn_mono (k0.aw (fun _=>.dead) (wf_e3) fn.ntmps hN [] none (.inl rfl) (params vs 0) [] (get_par (by omega)) (by funext i; unfold hpF; rw [gH_e]) c0 hc0 S ρ _ w hcf) ?_)
 rintro e a1 w1 ⟨hfr1,Fl,Hl,S1,ρ1,⟨rfl,hFl,hHl⟩,cf1,ex1⟩
 obtain ⟨Fl',hFl',hdl⟩:=hdf Fl hFl
 refine chain_wp hdl cf1.fr fun a2 ds hF2 hd2 hds hcol2=>?_
 have cf2:Conf fn.ntmps (Qa Hl) Fl' Hl S1 ρ1 a2 w1:=⟨hF2,⟨by rw [hcol2]; exact cf1.defers.1,by rw [hcol2]; exact cf1.defers.2⟩,cf1.hp,fun i hi=>Qp.1 hi⟩
 refine wpIn_mono (k1.aw (fun _=>.dead) (wf_of_adv k0.adv) fn.ntmps hN (Qa Hl) none (.inl rfl) Fl' Hl hFl' hHl c1 hc1 S1 ρ1 a2 w1 cf2) ?_
 rintro e a3 w3 ⟨hfr3,F3,H3,S3,ρ3,⟨rfl,hF3,hH3⟩,cf3,ex3⟩
 suffices hlv:LeavesInM Fence.wide 0 P fn a3.tmps (fun e w'=>∃ cv S' ρ',e = .returned cv/\VR w' S' ρ' r cv/\HRF w' S' ρ' (get ([]:Hp))/\Keep w w' (LiveF ρ (get ([]:Hp)) All)/\(∀ b,S' b->(al'=true/\S b)\/LiveF ρ (get ([]:Hp)) All b\/w.heap.size<=b) ∧
   (∀ b,LiveF ρ' (get ([]:Hp)) All b->LiveF ρ (get ([]:Hp)) All b\/w.heap.size<=b)/\(∀ i,get ([]:Hp) i≠none->ρ' i=ρ i)/\(∀ i,get ([]:Hp) i≠none->get ([]:Hp) i≠none)) a3.defers .returning w3 by
  rcases he1 with rfl | rfl <;> exact hlv
 have hvs:JD P F3 H3 fn.results.toList=some out:=ressE_ok hF3 hH3 hres
 have hrc:RC H3 [] al' (Xl out) r:=fzV_ok (fun i o hi=>⟨hp_ob hH3 hi,rfl⟩) 400 _ _ _ hfz ha
 obtain ⟨Ds0,d0,hDs0⟩:=hfr1.2
 obtain ⟨Ds3,d3,hDs3⟩:=hfr3.2
 have d0:a1.defers=Ds0.map mk_:=by rw [d0]; exact List.append_nil _
 have at3:At fn.ntmps w S F3 H3 S3 ρ3 a3 w3:=by
  refine ⟨cf3.fr,cf3.hp,(ex1.keep.mono fun b hb=>(nolive b hb).elim).trans ex3.keep fun b hb=>.inr ((ex1.own b hb).elim (fun h=>(nolive b h).elim) id),fun b hb=>?_,fun b hb=>?_⟩
  ·rcases ex3.fresh b hb with h | h | h
   ·exact (ex1.fresh b h).elim .inl fun h=>h.elim (fun h=>(nolive b h).elim) .inr
   ·exact .inr ((ex1.own b h).elim (fun h=>(nolive b h).elim) id)
   ·exact .inr (Nat.le_trans ex1.keep.size h)
  ·rcases ex3.own b hb with h | h
   ·exact (ex1.own b h).elim (fun h=>(nolive b h).elim) id
   ·exact Nat.le_trans ex1.keep.size h
 have hds3:DLs P w3 S3 ρ3 gs ds:=hds.mono ex3.sub (fun x c hs hc=>ex3.keep.cell (fun ⟨i,ob,z,cp,_,g1,g2,g3⟩=>(cf1.hp.cells_ne g1 g2 g3).1 hs) hc) fun i x hx=>by
  rw [ex3.rho i (Qp.2 fun e=>by rw [cf1.hp.dom i e] at hx; cases hx)]; exact hx
 have hall:DLs P w3 S3 ρ3 gs a3.defers:=by
  rw [d3,hd2,d0]
  refine DLs.marks Ds3 ?_
  have:∀ {gs ds},DLs P w3 S3 ρ3 gs ds->DLs P w3 S3 ρ3 gs (ds++Ds0.map mk_):=by
   intro gs ds h
   induction h with
   | nil =>
    have:=DLs.marks (P:=P) (w:=w3) (S:=S3) (ρ:=ρ3) Ds0 .nil
    rw [List.append_nil] at this; exact this
   | mark D _ ih=>exact .mark D ih
   | call h1 _ ih=>exact .call h1 ih
  exact this hds3
 refine leaves_dl (fun S ρ w h=>end_at h hvs hrc) a3.defers gs S3 ρ3 w3 (hdc H3 hH3) at3 cf3.defers (fun D hD=>?_) hall
 rw [d3,colD_map,hcol2,d0] at hD
 rcases List.mem_append.1 hD with hD | hD
 ·exact Nat.le_trans ex1.keep.size (hDs3 D hD)
 ·have e:JG (Ds0.map mk_)=Ds0:=by have:=colD_map Ds0 []; rw [List.append_nil] at this; rw [this]; exact List.append_nil _
  rw [e] at hD
  exact hDs0 D hD
end
end Go.Proofs.YthmbjgnjfjjibaaGreatDoor
namespace Go.Proofs.YthmbjgnjfjjibaaGreatDoor
open Go.RowKit
set_option maxRecDepth 100000
noncomputable def row903 (e z:Nat) (els:List (List AV)):HT:=sH e3 903 (EO.ob (.cells e z els true))
section
variable {P:Program} {pol:Pol} {cl:X5} {co:CoT}
theorem eval_row (hm:P.follows .mixedOrders=true) (hcl:SCl P [] pol.shared cl) (hco:SCo P [] co) {f:Nat} {vs:List AV} {e z:Nat} {els els':List (List AV)} {h1:HT} {n1:Nat} {rd wr:List Nat}
  (hb:bodyE P pol [] (fun _=>none) cl co f vs (row903 e z els) 904 (fun out H nx=>.ok (Xl out) H nx [] []) = .ok (.tup []) h1 n1 rd wr) (ho:obE h1 903=some (.cells e z els' true)) :
  FC P f vs [(903,.cells e z els true)] (.tup []) [(903,.cells e z els' true)] true:=by
 have hG:GOK ([]:Hp) (fun _=>none) []:=⟨fun i ob e=>by simp [get] at e,fun g cs e=>by cases e⟩
 have hg:∀ i,gH (row903 e z els) i=if i=903 then some (EO.ob (.cells e z els true)) else none:=fun i=>by
  unfold row903
  rw [gH_sH _ (by decide),gH_e]
  by_cases hi:i=903
  ·subst hi; rfl
  ·rw [if_neg hi,if_neg (Ne.symm hi)]
 have hi:Inv (row903 e z els) 904:=⟨by omega,fun i h=>by rw [hg,if_neg (by omega)],fun i o h=>by
  rw [hg] at h
  split at h
  ·injection h with h; injection h with h; subst h; rfl
  ·cases h⟩
 have hw:Wf P (fun _=>Ob.dead) (row903 e z els):=⟨fun i ps x y F h=>(by rw [hg] at h; split at h <;> cases h),fun i F h=>(by rw [hg] at h; split at h <;> cases h),fun i F h=>(by rw [hg] at h; split at h <;> cases h)⟩
 obtain ⟨out,h2,n2,hk,adv,fn,code,mc,f1,f2,f3,hl,haw⟩:=body_ok hm hG rfl hcl hco hb hi
 injection hk with k1 k2 k3 k4 k5
 subst k2
 have hH:get [(903,Ob.cells e z els true)]=hpF [] (fun _=>.dead) (row903 e z els):=by
  funext i
  unfold hpF
  rw [hg]
  by_cases h:i=903
  ·subst h; rfl
  ·rw [if_neg h]; simp [get,Ne.symm h]
 refine fc_of_aw f1 f2 f3 hl (XG (haw (fun _=>.dead) hw (Qa [(903,Ob.cells e z els true)]) _ hH) fun e1 F1 H1 ⟨p1,p2,p3⟩=>⟨p1,out,p2,?_,?_,?_⟩)
 ·rw [k1]
  intro S ρ w c _ hv
  obtain ⟨C,rfl,hn,_⟩:=hv.tup_inv
  exact .tup [] C hn fun j v h=>by simp at h
 ·intro i ob hgi
  simp only [get] at hgi
  split at hgi
  ·rename_i h; subst h
   injection hgi with hgi; subst hgi
   exact .inl ⟨hp_ob p3 ho,rfl,.inl rfl⟩
  ·cases hgi
 ·intro i hi
  have:i=903:=by simpa [Qa] using hi
  subst this
  exact ⟨_,rfl,by rw [hp_ob p3 ho]; simp⟩
end
end Go.Proofs.YthmbjgnjfjjibaaGreatDoor
namespace Go.Proofs.YthmbjgnjfjjibaaGreatDoor
open Go.RowKit Go.WideShapes Go.ChangeShapes Go.ChangeAt
inductive Sh where
 | int (k:IntKind)
 | bool
 | str
 | sl (z:Nat) (s:Sh)
 | st (ss:List Sh)
 | arr (n:Nat) (s:Sh)
mutual
def okSh (P:Program):Sh->TypeId->Bool
 | .int k,t=>match P.underlying t with | some (.int k')=>decide (k'=k)&&decide (P.cellsOf t=1) | _=>false
 | .bool,t=>match P.underlying t with | some .bool=>decide (P.cellsOf t=1) | _=>false
 | .str,t=>match P.underlying t with | some .string=>decide (P.cellsOf t=1) | _=>false
 | .sl z s,t=>match P.underlying t with | some (.slice e)=>decide (P.cellsOf t=1)&&decide (P.cellsOf e=z)&&decide (z≠0)&&decide (P.bytesOf e≠0)&&okSh P s e | _=>false
 | .st ss,t=>match P.underlying t with | some (.struct fs)=>okFs P ss fs.toList 0 (P.cellsOf t) | _=>false
 | .arr n s,t=>match P.underlying t with | some (.array n' e)=>decide (n'=n)&&decide (P.cellsOf t=n*P.cellsOf e)&&okSh P s e | _=>false
def okFs (P:Program):List Sh->List Field->Nat->Nat->Bool
 | [],[],o,n=>decide (o=n)
 | s::ss,f::fs,o,n=>decide (f.offset=o)&&okSh P s f.type&&okFs P ss fs (o+P.cellsOf f.type) n
 | _,_,_,_=>false
end
section
variable {H:Type}
mutual
def avD:Sh->DataW H->List AV
 | .int k,.lit (.int _ n)=>[.int k n]
 | .bool,.lit (.bool b)=>[.bool b]
 | .str,.lit (.string l)=>[.str ⟨l.toArray⟩]
 | .sl z _,.nil=>[.rs z []]
 | .sl z s,.slice els _=>[.rs z (els.map (avD s))]
 | .st ss,.agg ps=>avFs ss ps
 | .arr _ s,.agg ps=>ps.flatMap (avD s)
 | _,_=>[]
def avFs:List Sh->List (DataW H)->List AV
 | s::ss,d::ds=>avD s d++avFs ss ds
 | _,_=>[]
end
mutual
def Gd:Sh->DataW H->Prop
 | .int k,d=>∃ n,d = .lit (.int k n)/\(Lit.int k n).wf=true
 | .bool,d=>∃ b,d = .lit (.bool b)
 | .str,d=>∃ l,d = .lit (.string l)/\l.length<=140737488351232
 | .sl _ s,d=>d = .nil\/∃ els sp,d = .slice els sp/\els.length<=140737488351232/\∀ x,x∈els->Gd s x
 | .st ss,d=>∃ ps,d = .agg ps/\GdFs ss ps
 | .arr n s,d=>∃ ps,d = .agg ps/\ps.length=n/\∀ x,x∈ps->Gd s x
def GdFs:List Sh->List (DataW H)->Prop
 | [],ds=>ds=[]
 | s::ss,ds=>∃ d r,ds=d::r/\Gd s d/\GdFs ss r
end
abbrev Sall (w:World):Nat->Prop:=fun b=>b<w.heap.size
def Vs (w:World) (l:List AV) (cs:List Value):Prop :=
 l.length=cs.length/\∀ (j:Nat) (v:AV),l[j]?=some v->∃ c,cs[j]?=some c/\c.oneCell'=true/\CR w (Sall w) v c
theorem Vs.nil {w:World}:Vs w [] []:=⟨rfl,fun j v h=>by simp at h⟩
theorem Vs.one {w:World} {v:AV} {c:Value} (h:c.oneCell'=true) (hc:CR w (Sall w) v c):Vs w [v] [c]:=⟨rfl,fun j u hu=>by
 cases j with
 | zero=>simp at hu; subst hu; exact ⟨c,rfl,h,hc⟩
 | succ j=>simp at hu⟩
theorem Vs.append {w:World} {a b:List AV} {x y:List Value} (h:Vs w a x) (k:Vs w b y):Vs w (a++b) (x++y):=by
 refine ⟨by simp [h.1,k.1],fun j v hv=>?_⟩
 by_cases hj:j<a.length
 ·rw [List.getElem?_append_left hj] at hv
  rw [List.getElem?_append_left (by rw [← h.1]; exact hj)]
  exact h.2 j v hv
 ·rw [List.getElem?_append_right (by omega)] at hv
  rw [List.getElem?_append_right (by rw [← h.1]; omega),← h.1]
  exact k.2 _ v hv
section
variable {enc:TypeId×Value->H} {P:Program} {w:World} {base:Nat} {spare:Nat->Bool} {held:Bool}
theorem fields_av {n:Nat} (IH:∀ (s:Sh) (t:TypeId) (cs:List Value) (x:DataW H×List MemPlace),okSh P s t=true->(∀ n∈DataW.weights P t x.1,n<=140737488351232)->DataW.trod enc P w base spare held n t cs=some x->Gd s x.1/\cs.length=P.cellsOf t/\Vs w (avD s x.1) cs)
  (cs:List Value):∀ (ss:List Sh) (fs:List Field) (o:Nat) (xs:List (DataW H×List MemPlace)),okFs P ss fs o cs.length=true->xs.length=fs.length->o<=cs.length->(∀ n∈DataW.weightsEach P (fs.map (·.type)) (xs.map (·.1)),n<=140737488351232) →
   (∀ (i:Nat) (f:Field),fs[i]?=some f->DataW.trod enc P w base spare held n f.type ((cs.drop f.offset).take (P.cellsOf f.type))=xs[i]?) →
   GdFs ss (xs.map (·.1))/\Vs w (avFs ss (xs.map (·.1))) (cs.drop o)
 | [],[],o,xs,h,hl,_,_,_=>by
  have:xs=[]:=List.length_eq_zero_iff.1 (by simpa using hl)
  subst this
  simp only [okFs,decide_eq_true_eq] at h
  rw [h,List.drop_length]
  exact ⟨rfl,Vs.nil⟩
 | [],_::_,_,_,h,_,_,_,_=>by simp [okFs] at h
 | _::_,[],_,_,h,_,_,_,_=>by simp [okFs] at h
 | s::ss,f::fs,o,xs,h,hl,ho,hw,hx=>by
  simp only [okFs,Bool.and_eq_true,decide_eq_true_eq] at h
  obtain ⟨⟨h1,h2⟩,h3⟩:=h
  match xs,hl,hw with
  | x::xs,hl,hw =>
   simp only [List.map_cons,DataW.weightsEach,List.mem_append] at hw
   have e0:=hx 0 f rfl
   simp only [List.getElem?_cons_zero] at e0
   obtain ⟨g1,g2,g3⟩:=IH s f.type _ x h2 (fun n hn=>hw n (.inl hn)) e0
   rw [h1] at g2 g3
   have g4:P.cellsOf f.type<=cs.length-o:=by
    rw [List.length_take,List.length_drop] at g2; omega
   obtain ⟨q1,q2⟩:=fields_av IH cs ss fs (o+P.cellsOf f.type) xs h3 (by simpa using hl) (by omega) (fun n hn=>hw n (.inr hn)) fun i f' hf=>by
    have:=hx (i+1) f' (by simpa using hf)
    simpa using this
   refine ⟨⟨_,_,rfl,g1,q1⟩,?_⟩
   have e:cs.drop o=(cs.drop o).take (P.cellsOf f.type)++cs.drop (o+P.cellsOf f.type):=by
    rw [← List.drop_drop,List.take_append_drop]
   rw [e]
   exact g3.append q2
theorem elems_av {m:Nat} {s:Sh} {e:TypeId} (IH:∀ (cs:List Value) (x:DataW H×List MemPlace),(∀ n∈DataW.weights P e x.1,n<=140737488351232)->DataW.trod enc P w base spare held m e cs=some x->Gd s x.1/\cs.length=P.cellsOf e/\Vs w (avD s x.1) cs) :
  ∀ (xs:List (DataW H×List MemPlace)) (cs:List Value),cs.length=xs.length*P.cellsOf e->(∀ n∈DataW.weightsAll P e (xs.map (·.1)),n<=140737488351232) →
   (∀ (i:Nat),i<xs.length->DataW.trod enc P w base spare held m e ((cs.drop (i*P.cellsOf e)).take (P.cellsOf e))=xs[i]?) →
   (∀ d,d∈xs.map (·.1)->Gd s d)/\Vs w ((xs.map (·.1)).flatMap (avD s)) cs
 | [],cs,hl,_,_=>by
  have:cs=[]:=List.length_eq_zero_iff.1 (by simpa using hl)
  subst this
  exact ⟨fun d h=>by simp at h,Vs.nil⟩
 | x::xs,cs,hl,hw,hx=>by
  simp only [List.map_cons,DataW.weightsAll,List.mem_append] at hw
  have e0:=hx 0 (by simp)
  simp only [Nat.zero_mul,List.drop_zero,List.getElem?_cons_zero] at e0
  obtain ⟨g1,g2,g3⟩:=IH _ x (fun n hn=>hw n (.inl hn)) e0
  have hl':(cs.drop (P.cellsOf e)).length=xs.length*P.cellsOf e:=by
   rw [List.length_drop,hl,List.length_cons,Nat.add_mul]; omega
  obtain ⟨q1,q2⟩:=elems_av IH xs (cs.drop (P.cellsOf e)) hl' (fun n hn=>hw n (.inr hn)) fun i hi=>by
   have:=hx (i+1) (by simpa using hi)
   rw [List.getElem?_cons_succ] at this
   rw [← this,List.drop_drop,Nat.add_mul,Nat.one_mul,Nat.add_comm]
  refine ⟨fun d hd=>?_,?_⟩
  ·simp only [List.map_cons,List.mem_cons] at hd
   rcases hd with rfl | hd
   ·exact g1
   ·exact q1 d hd
  ·rw [← List.take_append_drop (P.cellsOf e) cs]
   simp only [List.map_cons,List.flatMap_cons]
   exact g3.append q2
theorem weights_all {e:TypeId}:∀ {l:List (DataW H)} {y:DataW H},y∈l->∀ n∈DataW.weights P e y,n∈DataW.weightsAll P e l
 | a::l,y,hy,n,hn=>by
  simp only [DataW.weightsAll,List.mem_append]
  rcases List.mem_cons.1 hy with rfl | hy
  ·exact .inl hn
  ·exact .inr (weights_all hy n hn)
theorem cell_spot {a:Addr} {v:Value} (h:w.cell? a=some v):a.spot=none:=by
 unfold World.cell? at h
 split at h
 ·split at h
  ·cases h
  ·rename_i h'; simpa using h'
 ·cases h
theorem trod_av:∀ (fuel:Nat) (s:Sh) (t:TypeId) (cs:List Value) (x:DataW H×List MemPlace),okSh P s t=true->(∀ n∈DataW.weights P t x.1,n<=140737488351232)->DataW.trod enc P w base spare held fuel t cs=some x->Gd s x.1/\cs.length=P.cellsOf t/\Vs w (avD s x.1) cs:=by
 intro fuel
 induction fuel with
 | zero=>intro s t cs x _ _ h; simp [DataW.trod] at h
 | succ n ih =>
  intro s t cs x hs hw h
  cases s with
  | int k =>
   simp only [okSh] at hs
   split at hs
   ·rename_i k' hk
    simp only [Bool.and_eq_true,decide_eq_true_eq] at hs
    obtain ⟨rfl,h1⟩:=hs
    obtain ⟨m,rfl,rfl,hwf⟩:=DataW.trod_int hk h
    refine ⟨by simp only [Gd]; exact ⟨m,rfl,hwf⟩,by simp [h1],?_⟩
    simp only [avD]
    exact Vs.one rfl (.int _ _)
   ·cases hs
  | bool =>
   simp only [okSh] at hs
   split at hs
   ·rename_i hk
    simp only [decide_eq_true_eq] at hs
    obtain ⟨b,rfl,rfl⟩:=DataW.trod_bool hk h
    refine ⟨by simp only [Gd]; exact ⟨b,rfl⟩,by simp [hs],?_⟩
    simp only [avD]
    exact Vs.one rfl (.bool _)
   ·cases hs
  | str =>
   simp only [okSh] at hs
   split at hs
   ·rename_i hk
    simp only [decide_eq_true_eq] at hs
    obtain ⟨b,rfl,rfl,hb⟩:=DataW.trod_string hk h
    refine ⟨by simp only [Gd]; exact ⟨_,rfl,hw _ (by simp [DataW.weights])⟩,by simp [hs],?_⟩
    simp only [avD]
    exact Vs.one rfl (.str _)
   ·cases hs
  | sl z s =>
   simp only [okSh] at hs
   split at hs
   ·rename_i e hk
    simp only [Bool.and_eq_true,decide_eq_true_eq] at hs
    obtain ⟨⟨⟨⟨h1,h2⟩,h3⟩,h5⟩,h4⟩:=hs
    rcases DataW.trod_slice hk h with ⟨rfl,rfl⟩ | ⟨a,len,cap,elems,rest,m,hm,rfl,rfl,hb,hl,hmx,hlen,hel,_,_⟩
    ·refine ⟨by simp only [Gd]; exact .inl trivial,by simp [h1],?_⟩
     simp only [avD]
     exact Vs.one rfl (.rs0 _ _ _)
    ·obtain rfl:n=m:=by omega
     simp only [DataW.weights,hk,List.mem_cons,List.mem_append] at hw
     have hwe:∀ y∈elems.map (·.1),∀ n∈DataW.weights P e y,n<=140737488351232:=fun y hy n hn=>hw n (.inr (.inl (weights_all hy n hn)))
     have hsz:len<=140737488351232:=by
      have h1:=hw _ (.inl rfl)
      simp only [List.length_map,hlen] at h1
      have h2:1<=P.bytesOf e:=by omega
      have h3:=Nat.mul_le_mul_left (len+rest.length) h2
      omega
     have each:∀ i y,elems[i]?=some y->∃ cs',w.cells? base (a.add (i*z)) z=some cs'/\Gd s y.1/\cs'.length=z/\Vs w (avD s y.1) cs':=by
      intro i y hy
      have hi:i<len:=by rw [← hlen]; exact (List.getElem?_eq_some_iff.1 hy).1
      have:=hel i hi
      rw [hy,h2,Option.bind_eq_some_iff] at this
      obtain ⟨cs',q1,q2⟩:=this
      obtain ⟨r1,r2,r3⟩:=ih s e cs' y h4 (hwe _ (List.mem_map.2 ⟨y,List.mem_of_getElem? hy,rfl⟩)) q2
      exact ⟨cs',q1,r1,r2.trans h2,r3⟩
     refine ⟨?_,by simp [h1],?_⟩
     ·simp only [Gd]
      refine .inr ⟨_,_,rfl,by simpa [hlen] using hsz,fun d hd=>?_⟩
      obtain ⟨y,hy,rfl⟩:=List.mem_map.1 hd
      obtain ⟨i,hi⟩:=List.getElem?_of_mem hy
      obtain ⟨_,_,g,_⟩:=each i y hi
      exact g
     ·simp only [avD]
      refine Vs.one rfl ?_
      by_cases h0:len=0
      ·have:elems=[]:=List.length_eq_zero_iff.1 (by omega)
       subst this
       subst h0
       exact .rs0 _ _ _
      ·have hy0:elems[0]?=some elems[0]:=by simp
       obtain ⟨cs0,c1,_,c2,_⟩:=each 0 _ hy0
       obtain ⟨_,_,c3⟩:=World.cells?_some c1
       have c4:=c3 0 (by omega)
       have hc0:cs0[0]?=some cs0[0]:=by simp
       rw [hc0] at c4
       have e0:(a.add (0*z)).add 0=a:=by simp [Addr.add]
       rw [e0] at c4
       have hsp:=cell_spot c4
       have hbk:=World.block_lt_of_cell? w _ c4
       obtain ⟨ab,ao,as⟩:=a
       simp only at hsp
       subst hsp
       have hadd:∀ j o,((⟨ab,ao,none⟩:Addr).add (j*z)).add o=⟨ab,ao+j*z+o,none⟩:=by
        intro j o
        unfold Addr.add
        split <;> split <;> simp_all [Nat.add_assoc]
       have main:∀ (j:Nat) (el:List AV) (o:Nat) (v:AV),((elems.map (·.1)).map (avD s))[j]?=some el->el[o]?=some v →
         ∃ c,w.cell? ⟨ab,ao+j*z+o,none⟩=some c/\c.oneCell'=true/\CR w (Sall w) v c:=by
        intro j el o v he hv
        simp only [List.map_map,List.getElem?_map,Option.map_eq_some_iff] at he
        obtain ⟨y,hy,rfl⟩:=he
        obtain ⟨cs',q1,_,q2,q3⟩:=each j y hy
        simp only [Function.comp] at hv
        obtain ⟨c,r1,r2,r3⟩:=q3.2 o v hv
        have ho:o<z:=by rw [← q2]; exact (List.getElem?_eq_some_iff.1 r1).1
        obtain ⟨_,_,p3⟩:=World.cells?_some q1
        have p4:=p3 o ho
        rw [r1,hadd] at p4
        exact ⟨c,p4,r2,r3⟩
       have hln:((elems.map (·.1)).map (avD s)).length=len:=by simp [hlen]
       have key:=CR.rs (w:=w) (S:=Sall w) z ((elems.map (·.1)).map (avD s)) ab ao cap (fun j o=>(w.cell? ⟨ab,ao+j*z+o,none⟩).getD undef) hbk (by rw [hln]; exact hl)
        (fun j el o v he hv=>by obtain ⟨c,r1,r2,_⟩:=main j el o v he hv; simp only [r1,Option.getD_some]; exact ⟨trivial,r2⟩)
        (fun j el o v he hv=>by obtain ⟨c,r1,_,r2⟩:=main j el o v he hv; simp only [r1,Option.getD_some]; exact r2)
       rw [hln] at key
       exact key
   ·cases hs
  | st ss =>
   simp only [okSh] at hs
   split at hs
   ·rename_i fs hk
    obtain ⟨xs,m,hm,rfl,hl,hlen,hf⟩:=DataW.trod_struct hk h
    obtain rfl:n=m:=by omega
    rw [← hl] at hs
    obtain ⟨q1,q2⟩:=fields_av ih cs ss fs.toList 0 xs hs (by simpa using hlen) (Nat.zero_le _) (by simp only [DataW.weights,hk] at hw; exact hw) fun i f hi=>hf i f (by simpa using hi)
    refine ⟨by simp only [Gd]; exact ⟨_,rfl,q1⟩,hl,?_⟩
    simp only [avD]
    simpa using q2
   ·cases hs
  | arr k s =>
   simp only [okSh] at hs
   split at hs
   ·rename_i k' e hk
    simp only [Bool.and_eq_true,decide_eq_true_eq] at hs
    obtain ⟨⟨rfl,h1⟩,h2⟩:=hs
    obtain ⟨xs,m,hm,rfl,hl,hlen,hf⟩:=DataW.trod_array hk h
    obtain rfl:n=m:=by omega
    obtain ⟨q1,q2⟩:=elems_av (fun cs x hn hx=>ih s e cs x h2 hn hx) xs cs (by rw [hl,h1,hlen]) (by simp only [DataW.weights,hk] at hw; exact hw) fun i hi=>hf i (by omega)
    refine ⟨by simp only [Gd]; exact ⟨_,rfl,by simp [hlen],q1⟩,hl,?_⟩
    simp only [avD]
    exact q2
   ·cases hs
def argA (s:Sh) (d:DataW H):AV:=match s with
 | .st _=>.agg (avD s d)
 | .arr _ _=>.agg (avD s d)
 | _=>(avD s d).headD .und
theorem one_cells {v:Value} {t:TypeId} {r:Go.Reach} (hu:∀ fs n e,P.underlying t≠some (.struct fs)/\P.underlying t≠some (.array n e)) (h:Value.okWide P w r base t v):v.cells = #[v]:=by
 unfold Value.okWide at h
 split at h
 ·rename_i fs hh; exact absurd hh (hu _ 0 0).1
 ·rename_i hh; exact absurd hh (hu #[] _ _).2
 ·cases v <;> first | rfl | (unfold Cell.okWide Cell.ok at h; split at h <;> simp_all)
theorem arg_av {s:Sh} {t:TypeId} {r:Go.Reach} {base':Nat} {v:Value} {d:DataW H} {ps:List MemPlace} (hs:okSh P s t=true) (hv:Value.okWide P w r base' t v) (hw:∀ n∈DataW.weights P t d,n<=140737488351232) (h:DataW.Trod enc P w base spare held t v d ps) :
  Gd s d/\CR w (Sall w) (argA s d) v:=by
 obtain ⟨fuel,hf⟩:=h
 obtain ⟨g1,g2,g3⟩:=trod_av fuel s t _ (d,ps) hs hw hf
 refine ⟨g1,?_⟩
 have hone:(∀ fs n e,P.underlying t≠some (.struct fs)/\P.underlying t≠some (.array n e))->CR w (Sall w) ((avD s d).headD .und) v:=fun hu=>by
  have e:=one_cells (w:=w) (r:=r) hu hv
  rw [e] at g3
  obtain ⟨l1,l2⟩:=g3
  match hl:avD s d,l1 with
  | [u],_ =>
   obtain ⟨c,hc,_,q⟩:=l2 0 u (by simp [hl])
   simp at hc; subst hc
   exact q
 have hagg:(∃ cs,v = .agg cs)->CR w (Sall w) (.agg (avD s d)) v:=fun ⟨cs,e⟩=>by
  subst e
  refine .agg _ cs (by simpa [Value.cells] using g3.1.symm) (fun j u hu=>?_) (fun j u hu=>?_)
  ·obtain ⟨c,hc,q,_⟩:=g3.2 j u hu
   have:cs[j]?=some c:=by simpa [Value.cells] using hc
   simp [this,q]
  ·obtain ⟨c,hc,_,q⟩:=g3.2 j u hu
   have:cs[j]?=some c:=by simpa [Value.cells] using hc
   simp [this,q]
 cases s with
 | st ss =>
  simp only [okSh] at hs
  split at hs
  ·rename_i fs hk
   refine hagg ?_
   unfold Value.okWide at hv
   rw [hk] at hv
   obtain ⟨cs,e,_⟩:=hv
   exact ⟨cs,e⟩
  ·cases hs
 | arr n s =>
  simp only [okSh] at hs
  split at hs
  ·rename_i hk
   refine hagg ?_
   unfold Value.okWide at hv
   rw [hk] at hv
   obtain ⟨cs,e,_⟩:=hv
   exact ⟨cs,e⟩
  ·cases hs
 | _ =>
  refine hone fun fs n e=>?_
  simp only [okSh] at hs
  split at hs
  ·rename_i hk; rw [hk]; exact ⟨by simp,by simp⟩
  ·cases hs
end
theorem rd_int {k:IntKind} (d:DataW H) (h:Gd (.int k) d):∃ n:Int,(Lit.int k n).wf=true/\avD (.int k) d=[.int k n]:=by
 simp only [Gd] at h
 obtain ⟨n,rfl,hw⟩:=h
 exact ⟨n,hw,by simp only [avD]⟩
theorem rd_list {α:Type} {s:Sh} (R:α->Prop) (f:α->List AV) (hs:∀ d:DataW H,Gd s d->∃ x,R x/\avD s d=f x):∀ els:List (DataW H),(∀ x,x∈els->Gd s x) →
  ∃ xs:List α,xs.length=els.length/\(∀ x∈xs,R x)/\els.map (avD s)=xs.map f
 | [],_=>⟨[],rfl,fun x h=>by simp at h,rfl⟩
 | d::els,h=>by
  obtain ⟨x,h1,h2⟩:=hs d (h d (by simp))
  obtain ⟨xs,q1,q2,q3⟩:=rd_list R f hs els fun x hx=>h x (by simp [hx])
  exact ⟨x::xs,by simp [q1],fun y hy=>by
   rcases List.mem_cons.1 hy with rfl | hy
   ·exact h1
   ·exact q2 y hy,by simp [h2,q3]⟩
theorem rd_sl {α:Type} {z:Nat} {s:Sh} (R:α->Prop) (f:α->List AV) (hs:∀ d:DataW H,Gd s d->∃ x,R x/\avD s d=f x) (d:DataW H) (h:Gd (.sl z s) d) :
  ∃ xs:List α,(xs.length<=140737488351232/\∀ x∈xs,R x)/\avD (.sl z s) d=[.rs z (xs.map f)]:=by
 simp only [Gd] at h
 rcases h with rfl | ⟨els,sp,rfl,hl,hg⟩
 ·exact ⟨[],⟨by simp,fun x h=>by simp at h⟩,by simp [avD]⟩
 ·obtain ⟨xs,q1,q2,q3⟩:=rd_list R f hs els hg
  exact ⟨xs,⟨by omega,q2⟩,by simp only [avD]; rw [q3]⟩
theorem rd_arr {α:Type} {n:Nat} {s:Sh} (R:α->Prop) (f:α->List AV) (hs:∀ d:DataW H,Gd s d->∃ x,R x/\avD s d=f x) (d:DataW H) (h:Gd (.arr n s) d) :
  ∃ xs:List α,(xs.length=n/\∀ x∈xs,R x)/\avD (.arr n s) d=xs.flatMap f:=by
 simp only [Gd] at h
 obtain ⟨ps,rfl,hl,hg⟩:=h
 obtain ⟨xs,q1,q2,q3⟩:=rd_list R f hs ps hg
 exact ⟨xs,⟨by omega,q2⟩,by simp only [avD]; rw [List.flatMap_def,q3,List.flatMap_def]⟩
theorem gd_len:∀ (ss:List Sh) (ds:List (DataW H)),GdFs ss ds->ds.length=ss.length
 | [],ds,h=>by simp only [GdFs] at h; subst h; rfl
 | s::ss,ds,h=>by
  simp only [GdFs] at h
  obtain ⟨d,r,rfl,_,h2⟩:=h
  simp [gd_len ss r h2]
theorem rd_nil (ds:List (DataW H)) (h:GdFs [] ds):avFs [] ds=[]:=by simp only [GdFs] at h; subst h; simp [avFs]
theorem rd_cons {s:Sh} {ss:List Sh} (ds:List (DataW H)) (h:GdFs (s::ss) ds):∃ (d:DataW H) (r:List (DataW H)),Gd s d/\GdFs ss r/\avFs (s::ss) ds=avD s d++avFs ss r:=by
 simp only [GdFs] at h
 obtain ⟨d,r,rfl,h1,h2⟩:=h
 exact ⟨d,r,h1,h2,by simp only [avFs]⟩
theorem rd_st {ss:List Sh} (d:DataW H) (h:Gd (.st ss) d):∃ ps:List (DataW H),GdFs ss ps/\avD (.st ss) d=avFs ss ps:=by
 simp only [Gd] at h
 obtain ⟨ps,rfl,h1⟩:=h
 exact ⟨ps,h1,by simp only [avD]⟩
end
def argAs {H:Type}:List Sh->List (DataW H)->List AV
 | s::ss,d::ds=>argA s d::argAs ss ds
 | _,_=>[]
def okShs (P:Program):List Sh->List TypeId->Bool
 | [],[]=>true
 | s::ss,t::ts=>okSh P s t&&decide (P.readableRec t=true)&&decide (t<P.types.size)&&okShs P ss ts
 | _,_=>false
section
variable {H:Type} {enc:TypeId×Value->H} {P:Program} {W:World} {base:Nat} {r:Go.Reach}
theorem args_av:∀ (ss:List Sh) (ts:List TypeId) (vs:List Value) (ds:List (DataW H)) (p:List MemPlace),okShs P ss ts=true->DataW.TrodAll enc P W 0 (fun _=>true) true ts vs ds p →
  (∀ (j:Nat) (t:TypeId) (v:Value),ts[j]?=some t->vs[j]?=some v->Value.okWide P W r base t v)->(∀ n∈DataW.weightsEach P ts ds,n<=140737488351232) →
  GdFs ss ds/\(argAs ss ds).length=vs.length/\∀ (j:Nat) (a:AV) (c:Value),(argAs ss ds)[j]?=some a->vs[j]?=some c->CR W (Sall W) a c
 | [],[],vs,ds,p,_,h,_,_=>by
  obtain ⟨rfl,rfl,rfl⟩:=trodAll_nil h
  exact ⟨rfl,rfl,fun j a c h=>by simp [argAs] at h⟩
 | [],_::_,_,_,_,h,_,_,_=>by simp [okShs] at h
 | _::_,[],_,_,_,h,_,_,_=>by simp [okShs] at h
 | s::ss,t::ts,vs,ds,p,h,hA,hv,hw=>by
  obtain ⟨v,vs,d,ds,p0,q0,rfl,rfl,rfl,h0,r0⟩:=trodAll_cons hA
  simp only [okShs,Bool.and_eq_true] at h
  simp only [DataW.weightsEach,List.mem_append] at hw
  obtain ⟨g1,g2⟩:=arg_av (r:=r) (base':=base) (v:=v) (d:=d) (ps:=p0) (enc:=enc) (w:=W) h.1.1.1 (hv 0 t v rfl rfl) (fun n hn=>hw n (.inl hn)) h0
  obtain ⟨q1,q2,q3⟩:=args_av ss ts vs ds q0 h.2 r0 (fun j t v h1 h2=>hv (j+1) t v (by simpa using h1) (by simpa using h2)) fun n hn=>hw n (.inr hn)
  refine ⟨⟨_,_,rfl,g1,q1⟩,by simp [argAs,q2],fun j a c ha hc=>?_⟩
  cases j with
  | zero=>simp [argAs] at ha hc; subst ha; subst hc; exact g2
  | succ j=>exact q3 j a c (by simpa [argAs] using ha) (by simpa using hc)
theorem args_back (hl:laidOutB P=true) {W':World} (hb:Below W.heap.size W W'):∀ (ss:List Sh) (ts:List TypeId) (vs:List Value) (ds:List (DataW H)) (p:List MemPlace),okShs P ss ts=true->DataW.TrodAll enc P W 0 (fun _=>true) true ts vs ds p →
  DataW.TrodAll enc P W' 0 (fun b=>decide (b<W.heap.size)) true ts vs ds p
 | [],[],vs,ds,p,_,h=>by
  obtain ⟨rfl,rfl,rfl⟩:=trodAll_nil h
  exact trodAll_mk0
 | [],_::_,_,_,_,h,_=>by simp [okShs] at h
 | _::_,[],_,_,_,h,_=>by simp [okShs] at h
 | s::ss,t::ts,vs,ds,p,h,hA=>by
  obtain ⟨v,vs,d,ds,p0,q0,rfl,rfl,rfl,h0,r0⟩:=trodAll_cons hA
  simp only [okShs,Bool.and_eq_true,decide_eq_true_eq] at h
  have lt0:∀ x∈p0,x.block<W.heap.size:=by obtain ⟨m,hm⟩:=h0; exact DataW.trod_lt m _ _ _ hm
  exact trodAll_cons_mk (Below.trod hl h.1.1.2 h.1.2 h0 hb lt0) (args_back hl hb ss ts vs ds q0 h.2 r0)
end
end Go.Proofs.YthmbjgnjfjjibaaGreatDoor
