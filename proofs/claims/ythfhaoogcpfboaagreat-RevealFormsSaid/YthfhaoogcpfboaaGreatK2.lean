/-
  Parts of the proof: L27 L28 L29 L30 L31 L32 Lf L25 Lg Lh Li.
-/
import Derived.Test.YthfhaoogcpfboaaGreatK1
import Derived.OpenShut
import Derived.SizedLaws
import Derived.ProofKit
set_option linter.unusedVariables false
set_option linter.unusedSimpArgs false
namespace Go.Proofs.YthfhaoogcpfboaaGreat
open Go.RowKit
section
variable {P:Program} {N:Nat} {Z:List Nat} {Q:Post} {F:Fr} {H:Hp}
def putPs (F:Fr):List Nat->List AV->Fr
 | p::ps,v::vs=>putPs ((p,v)::F) ps vs
 | _,_=>F
theorem frn_putPs {w:World} {S:Nat->Prop} {ρ:Rho} {ds:List Deferred}:∀ (ps:List Nat) (vs:List AV) (cs:List Value) (F:Fr) (tm:Array Value),ps.all (fun p=>decide (p<N))=true->vs.length=ps.length->cs.length=ps.length →
  (∀ (j:Nat) (v:AV),vs[j]?=some v->VR w S ρ v (cs.getD j undef))->FRN N w S ρ (get F) { tmps:=tm,defers:=ds } →
  FRN N w S ρ (get (putPs F ps vs)) { tmps:=(ps.zip cs).foldl (fun t (p,a)=>t.setIfInBounds p a) tm,defers:=ds }
 | [],vs,cs,F,tm,_,h1,_,_,h=>by
  obtain rfl:=List.eq_nil_of_length_eq_zero h1
  exact h
 | p::ps,vs,cs,F,tm,hp,h1,h2,hv,h=>by
  obtain ⟨v,vs,rfl⟩:∃ a l,vs=a::l:=by cases vs with | nil=>cases h1 | cons a l=>exact ⟨a,l,rfl⟩
  obtain ⟨c,cs,rfl⟩:∃ a l,cs=a::l:=by cases cs with | nil=>cases h2 | cons a l=>exact ⟨a,l,rfl⟩
  simp only [List.all_cons,Bool.and_eq_true,decide_eq_true_eq] at hp
  refine frn_putPs ps vs cs ((p,v)::F) (tm.setIfInBounds p c) hp.2 (by simpa using h1) (by simpa using h2) (fun j u hj=>by simpa using hv (j+1) u (by simpa using hj)) ⟨by simpa using h.size,fun t u hu=>?_⟩
  simp only [get] at hu
  have hs:p<tm.size:=by have:=h.size; simp at this; omega
  by_cases e:p=t
  ·subst e
   rw [if_pos rfl] at hu
   injection hu with hu; subst hu
   have:=hv 0 v rfl
   simpa [Array.getD_eq_getD_getElem?,hs] using this
  ·rw [if_neg e] at hu
   have:=h.at_ t u hu
   simpa [Array.getD_eq_getD_getElem?,Array.getElem?_setIfInBounds_ne e] using this
theorem lp_at {w:World} {S:Nat->Prop} {ρ:Rho} {li:Nat} {r:Loop} {Fl:Fr} {J:Hp} (hh:HRF w S ρ (get ((li,.lp r Fl)::J))) {b z cap:Nat} (hρ:ρ li=some (some b,z,cap)) :
  ¬ S b/\w.heap[b]?=some (.loop r)/\∀ t v,(t,v)∈Fl->VR w S ρ v (r.tmps.getD t undef):=by
 obtain ⟨bk,z',cap',q1,b',e1,q2,q3,q4⟩:=hh.at_.ob li (.lp r Fl) trivial (by simp [get])
 rw [hρ] at q1
 injection q1 with q1
 obtain ⟨rfl,_⟩:some b=bk/\_:=by simpa using q1
 injection e1 with e1; subst e1
 exact ⟨q2,q3,q4⟩
theorem lp_cell {w:World} {b:Nat} {r:Loop} (hb:w.heap[b]?=some (.loop r)) (o:Obj) {a:Addr} {c:Value} (hc:w.cell? a=some c):(w.putObj b o).cell? a=some c:=by
 have hne:a.block≠b:=fun e=>by
  unfold World.cell? at hc
  rw [e,hb] at hc
  simp at hc
 rw [World.cell?_of_block (w:=w) (World.putObj_heap_other hne)]; exact hc
theorem lp_put {w:World} {S:Nat->Prop} {ρ:Rho} {li:Nat} {r r':Loop} {Fl:Fr} {J:Hp} (hh:HRF w S ρ (get ((li,.lp r Fl)::J))) {b z cap:Nat} (hρ:ρ li=some (some b,z,cap)) (ht:r'.tmps=r.tmps) :
  HRF (w.putObj b (.loop r')) S ρ (get ((li,.lp r' Fl)::J))/\Keep w (w.putObj b (.loop r')) (fun c=>c=b):=by
 obtain ⟨hS,hb,hF⟩:=lp_at hh hρ
 have hlt:=(Array.getElem?_eq_some_iff.1 hb).1
 have hcell:∀ (a:Addr) (c:Value),S a.block->w.cell? a=some c->(w.putObj b (.loop r')).cell? a=some c:=fun a c _ hc=>lp_cell hb _ hc
 refine ⟨⟨fun c hc=>by simpa using hh.hS c hc,fun i hi=>hh.dom i (by simp only [get] at hi ⊢; split at hi <;> simp_all),⟨fun i ob _ hg=>?_,fun i j oi oj c z1 z2 c1 c2 _ _ hne hi hj hli hlj hri hrj=>?_⟩⟩,⟨rfl,rfl,rfl,by simp,fun k hk hne=>World.putObj_heap_other hne⟩⟩
 ·by_cases e:li=i
  ·subst e
   simp only [get,if_pos] at hg
   injection hg with hg; subst hg
   exact ⟨some b,z,cap,hρ,b,rfl,hS,World.putObj_heap_same hlt,fun t v hv=>by rw [ht]; exact (hF t v hv).mono (fun _ h=>h) hcell (fun _ _ h=>h)⟩
  ·have hg':get ((li,Ob.lp r Fl)::J) i=some ob:=by simp only [get,if_neg e] at hg ⊢; exact hg
   obtain ⟨bk,z1,c1,q1,q2⟩:=hh.at_.ob i ob trivial hg'
   refine ⟨bk,z1,c1,q1,q2.mono (fun _ h=>h) hcell (fun _ _ h=>h) fun c hc hl=>?_⟩
   subst hc
   have hne:c≠b:=fun h=>by
    subst h
    exact hh.at_.dis i li ob (.lp r Fl) c z1 z c1 cap trivial trivial (Ne.symm e) hg' (by simp [get]) hl rfl q1 hρ
   exact ⟨World.putObj_heap_other hne,(hh.cells_ne hg' hl q1).1⟩
 ·have conv:∀ i o,get ((li,Ob.lp r' Fl)::J) i=some o->o.live=true->∃ o',get ((li,Ob.lp r Fl)::J) i=some o'/\o'.live=true:=fun i o h hl=>by
   simp only [get] at h ⊢
   split
   ·exact ⟨_,rfl,rfl⟩
   ·rename_i e; rw [if_neg e] at h; exact ⟨o,h,hl⟩
  obtain ⟨oi',g1,g2⟩:=conv i oi hi hli
  obtain ⟨oj',g3,g4⟩:=conv j oj hj hlj
  exact hh.at_.dis i j oi' oj' c z1 z2 c1 c2 trivial trivial hne g1 g3 g2 g4 hri hrj
theorem lp_live {ρ:Rho} {li:Nat} {r r':Loop} {Fl Fl':Fr} {J:Hp} {b:Nat} (h:LiveF ρ (get ((li,.lp r Fl)::J)) All b):LiveF ρ (get ((li,.lp r' Fl')::J)) All b:=by
 obtain ⟨i,ob,z,cap,h0,h1,h2,h3⟩:=h
 simp only [get] at h1
 split at h1
 ·rename_i e; subst e; exact ⟨li,.lp r' Fl',z,cap,trivial,by simp [get],rfl,h3⟩
 ·rename_i e; exact ⟨i,ob,z,cap,trivial,by simp only [get,if_neg e]; exact h1,h2,h3⟩
theorem round_yield {x y:MC} {ca cb:Code} (hca:XW P N ca=some x) (hcb:XW P N cb=some y) {li:Nat} {ps:List Nat} {vs:List AV} {J J1 J':Hp} {Fb:Fr} {Z0:List Nat} (e0:Exit) (jump:Option Code) (hej:(e0 = .normal/\jump=none)\/(e0 = .ret/\jump=some .ret))
  (hps:ps.all (fun p=>decide (p<N))=true) (hvs:vs.length=ps.length) (hZ:∀ i,i∈Z0->get ((li,Ob.dead)::J) i≠none) (hliZ:li∈Z0) (hZJ:∀ i,get ((li,Ob.dead)::J) i≠none->i∈Z0) (hZJ':∀ i,i∈Z0->get ((li,Ob.dead)::J') i≠none)
  {r:Loop} (hr1:r.state = .ready) (hr2:r.params.toList=ps) (hr3:r.assign=ca) (hr4:r.body=cb) (hr5:r.tmps.size=N) (hnd:∀ t v,get F t=some v->(t,v)∈F)
  (hassign:∀ (l:Nat) (o:Loop),AW P N Z0 (some l) x (fun e F' H'=>e = .normal/\Weak N Z0 F' H' Fb ((li,.lp o F)::J1)) (putPs F ps vs) ((li,.lp o F)::J))
  (hbody:∀ (l:Nat) (o:Loop),AW P N Z0 (some l) y (fun e F' H'=>e=e0/\Weak N Z0 F' H' [] ((li,.lp o F)::J')) Fb ((li,.lp o F)::J1)) :
  FCg (Js P) (.yl li::vs) ((li,.lp r F)::J) (.bool jump.isNone) ((li,.lp { r with state:=if jump.isNone then .ready else .done,pending:=jump } F)::J') true:=by
 subst hr3 hr4
 intro w S ρ cargs hH hargs
 obtain ⟨cl⟩:=cargs
 obtain ⟨ha1,ha2⟩:=hargs
 obtain ⟨c0,cs,rfl⟩:∃ a l,cl=a::l:=by cases cl with | nil=>simp at ha1 | cons a l=>exact ⟨a,l,rfl⟩
 obtain ⟨b,z,cap,hρ,hc0⟩:=(show VR w S ρ (.yl li) c0 by simpa using ha2 0 (.yl li) rfl).yl_inv
 subst hc0
 obtain ⟨hS,hb,hF⟩:=lp_at hH hρ
 have hcs:cs.length=ps.length:=by simp at ha1; omega
 have nn:∀ {K:Hp} {o:Ob} {i:Nat},get ((li,Ob.dead)::K) i≠none->get ((li,o)::K) i≠none:=fun {K o i} h=>by
  simp only [get] at h ⊢
  split
  ·simp
  ·rename_i e; rw [if_neg e] at h; exact h
 refine ⟨b,cs.toArray,by simp,r.fn,_,r.assign,r.body,run_yield hb (by rw [← hr2] at hcs; simp [hcs]),roundIn_of_wpIn trivial ?_⟩
 have etm:(r.params.zip cs.toArray).foldl (fun tmps (t,a)=>tmps.setIfInBounds t a) r.tmps=(ps.zip cs).foldl (fun t (p,a)=>t.setIfInBounds p a) r.tmps:=by
  rw [← hr2,← Array.foldl_toList]
  simp
 rw [etm]
 have cf0:Conf N Z0 (putPs F ps vs) ((li,.lp r F)::J) S ρ { tmps:=(ps.zip cs).foldl (fun t (p,a)=>t.setIfInBounds p a) r.tmps,defers:=[] } w:=by
  refine ⟨frn_putPs ps vs cs F r.tmps hps hvs hcs (fun j v hj=>?_) ⟨hr5,fun t v hv=>hF t v (hnd t v hv)⟩,Marks.nil _ _,hH,fun i hi=>nn (hZ i hi)⟩
  have:=ha2 (j+1) v (by simpa using hj)
  simpa using this
 refine wpIn_mono (hassign b r r.assign hca S ρ _ w cf0) ?_
 rintro e a1 w1 ⟨ho,F',H',S1,ρ1,⟨rfl,hw⟩,cf1,ex1⟩
 obtain ⟨S2,ρ2,cf2,ex2⟩:=hw S1 ρ1 a1 w1 cf1
 have ex12:=ex1.trans ex2
 have hρ2:ρ2 li=some (some b,z,cap):=(ex12.rho li hliZ).trans hρ
 obtain ⟨hS2,hb2,hF2⟩:=lp_at cf2.hp hρ2
 obtain ⟨hp3,hk3⟩:=lp_put (r':={ r with state:=.busy }) cf2.hp hρ2 rfl
 refine ⟨w1.putObj b (.loop { r with state:=.busy }),run_beginRound hb2 hr1,?_⟩
 have cf3:Conf N Z0 Fb ((li,.lp { r with state:=.busy } F)::J1) S2 ρ2 a1 (w1.putObj b (.loop { r with state:=.busy })):=by
  refine ⟨⟨cf2.fr.size,fun t v hv=>(cf2.fr.at_ t v hv).mono (fun _ h=>h) (fun a c _ hc=>lp_cell hb2 _ hc) (fun _ _ h=>h)⟩,?_,hp3,fun i hi h0=>cf2.z i hi (by simp only [get] at h0 ⊢; split at h0 <;> simp_all)⟩
  obtain ⟨Ds,d1,d2,d3⟩:=cf2.defers
  refine ⟨Ds,d1,d2,fun D hD=>?_⟩
  obtain ⟨g1,g2⟩:=d3 D hD
  have hne:D≠b:=fun e=>by rw [e,hb2] at g1; cases g1
  exact ⟨(World.putObj_heap_other hne).trans g1,fun h=>g2 (lp_live h)⟩
 refine wpIn_mono (hbody b _ r.body hcb S2 ρ2 a1 _ cf3) ?_
 rintro e a4 w4 ⟨ho4,F4,H4,S4,ρ4,⟨rfl,hw4⟩,cf4,ex4⟩
 obtain ⟨S5,ρ5,cf5,ex5⟩:=hw4 S4 ρ4 a4 w4 cf4
 have ex45:=ex4.trans ex5
 have hρ5:ρ5 li=some (some b,z,cap):=(ex45.rho li hliZ).trans hρ2
 obtain ⟨hS5,hb5,hF5⟩:=lp_at cf5.hp hρ5
 obtain ⟨hp6,hk6⟩:=lp_put (r':={ r with state:=if jump.isNone then .ready else .done,pending:=jump }) cf5.hp hρ5 rfl
 have hlive0:LiveF ρ (get ((li,.lp r F)::J)) All b:=⟨li,.lp r F,z,cap,trivial,by simp [get],rfl,hρ⟩
 have live2:∀ c,LiveF ρ2 (get ((li,.lp { r with state:=.busy } F)::J1)) All c->LiveF ρ (get ((li,.lp r F)::J)) All c\/w.heap.size<=c:=fun c h=>ex12.own c (lp_live h)
 have sz1:w.heap.size<=w1.heap.size:=ex12.keep.size
 have sz3:w1.heap.size=(w1.putObj b (.loop { r with state:=.busy })).heap.size:=by simp
 have R:∃ cv S' ρ',Ending.returned (Value.bool jump.isNone)=Ending.returned cv/\VR (w4.putObj b (.loop { r with state:=if jump.isNone then .ready else .done,pending:=jump })) S' ρ' (.bool jump.isNone) cv ∧
   HRF (w4.putObj b (.loop { r with state:=if jump.isNone then .ready else .done,pending:=jump })) S' ρ' (get ((li,.lp { r with state:=if jump.isNone then .ready else .done,pending:=jump } F)::J')) ∧
   Keep w (w4.putObj b (.loop { r with state:=if jump.isNone then .ready else .done,pending:=jump })) (LiveF ρ (get ((li,.lp r F)::J)) All)/\(∀ c,S' c->(true=true/\S c)\/LiveF ρ (get ((li,.lp r F)::J)) All c\/w.heap.size<=c) ∧
   (∀ c,LiveF ρ' (get ((li,.lp { r with state:=if jump.isNone then .ready else .done,pending:=jump } F)::J')) All c->LiveF ρ (get ((li,.lp r F)::J)) All c\/w.heap.size<=c) ∧
   (∀ i,get ((li,Ob.lp r F)::J) i≠none->ρ' i=ρ i)/\(∀ i,get ((li,Ob.lp r F)::J) i≠none->get ((li,Ob.lp { r with state:=if jump.isNone then .ready else .done,pending:=jump } F)::J') i≠none):=by
  have inZ:∀ i,get ((li,Ob.lp r F)::J) i≠none->i∈Z0:=fun i h=>hZJ i (by
   simp only [get] at h ⊢
   split
   ·simp
   ·rename_i e; rw [if_neg e] at h; exact h)
  refine ⟨.bool jump.isNone,S5,ρ5,rfl,.cl (.bool _),hp6,?_,fun c hc=>?_,fun c hc=>?_,fun i hi=>(ex45.rho i (inZ i hi)).trans (ex12.rho i (inZ i hi)),fun i hi=>nn (hZJ' i (inZ i hi))⟩
  ·have k1:=ex12.keep
   have k2:=k1.trans hk3 (fun c h=>.inl (h ▸ hlive0))
   have k3:=k2.trans ex45.keep live2
   exact k3.trans hk6 (fun c h=>.inl (h ▸ hlive0))
  ·rcases ex45.fresh c hc with h | h | h
   ·exact (ex12.fresh c h).imp (fun h=>⟨rfl,h⟩) id
   ·exact .inr (live2 c h)
   ·exact .inr (.inr (by omega))
  ·rcases ex45.own c (lp_live hc) with h | h
   ·exact live2 c h
   ·exact .inr (by omega)
 rcases hej with ⟨rfl,rfl⟩ | ⟨rfl,rfl⟩
 ·exact ⟨_,_,run_endRound none hb5,R⟩
 ·exact ⟨_,_,run_endRound (some .ret) hb5,R⟩
end
end Go.Proofs.YthfhaoogcpfboaaGreat
namespace Go.Proofs.YthfhaoogcpfboaaGreat
open Go.RowKit
def nodupK {α:Type}:List (Nat×α)->Bool
 | []=>true
 | (k,_)::l=>(get l k).isNone&&nodupK l
theorem nodupK_get {α:Type}:∀ {F:List (Nat×α)} {t:Nat} {v:α},nodupK F=true->(t,v)∈F->get F t=some v
 | (k,u)::l,t,v,h,hm=>by
  simp only [nodupK,Bool.and_eq_true,Option.isNone_iff_eq_none] at h
  simp only [get]
  rcases List.mem_cons.1 hm with e | hm
  ·injection e with e1 e2; subst e1 e2; rw [if_pos rfl]
  ·have:=nodupK_get h.2 hm
   split
   ·rename_i e; subst e; rw [h.1] at this; cases this
   ·exact this
theorem get_mem {α:Type}:∀ {F:List (Nat×α)} {t:Nat} {v:α},get F t=some v->(t,v)∈F
 | (k,u)::l,t,v,h=>by
  simp only [get] at h
  split at h
  ·rename_i e; subst e; injection h with h; subst h; simp
  ·exact List.mem_cons_of_mem _ (get_mem h)
section
variable {P:Program} {N:Nat} {Z:List Nat} {Q:Post} {F:Fr} {H:Hp}
structure Rec0 (P:Program) (N:Nat) (ps:List Nat) (x y:MC) (r:Loop):Prop where
 state:r.state = .ready
 pending:r.pending=none
 params:r.params.toList=ps
 ca:XW P N r.assign=some x
 cb:XW P N r.body=some y
 size:r.tmps.size=N
theorem hrf_rec {w w1:World} {S:Nat->Prop} {ρ:Rho} (hH:HRF w S ρ (get H)) {li l:Nat} (hli:get H li=none) {r:Loop} (hsz:w.heap.size<=l) (hl:w1.heap[l]?=some (.loop r)) (hk:∀ k,k<w.heap.size->w1.heap[k]?=w.heap[k]?)
  (hs1:w.heap.size<=w1.heap.size) (hF:∀ t v,(t,v)∈F->VR w S ρ v (r.tmps.getD t undef)) :
  HRF w1 S (fun i=>if i=li then some (some l,0,0) else ρ i) (get ((li,.lp r F)::H))/\(∀ v c,VR w S ρ v c->VR w1 S (fun i=>if i=li then some (some l,0,0) else ρ i) v c):=by
 have hcell:∀ (a:Addr) (c:Value),S a.block->w.cell? a=some c->w1.cell? a=some c:=fun a c hs hc=>by
  rw [World.cell?_of_block (w:=w) (hk _ (hH.hS _ hs))]; exact hc
 have hρ:∀ i x,ρ i=some x->(if i=li then some (some l,0,0) else ρ i)=some x:=fun i x hx=>by
  rw [if_neg (fun e=>by subst e; rw [hH.dom i hli] at hx; cases hx)]; exact hx
 have hv:∀ v c,VR w S ρ v c->VR w1 S (fun i=>if i=li then some (some l,0,0) else ρ i) v c:=fun v c h=>h.mono (fun _ h=>h) hcell hρ
 refine ⟨⟨fun b hb=>Nat.lt_of_lt_of_le (hH.hS b hb) hs1,fun i hi=>?_,⟨fun i ob _ hg=>?_,fun i j oi oj b z z' c c' _ _ hne hgi hgj hli' hlj hri hrj=>?_⟩⟩,hv⟩
 ·simp only [get] at hi
  split at hi
  ·cases hi
  ·rename_i e
   rw [if_neg (Ne.symm e)]; exact hH.dom i hi
 ·simp only [get] at hg
  split at hg
  ·rename_i e
   subst e
   injection hg with hg; subst hg
   exact ⟨some l,0,0,if_pos rfl,l,rfl,fun hs=>by have:=hH.hS l hs; omega,hl,fun t v ht=>hv _ _ (hF t v ht)⟩
  ·rename_i e
   obtain ⟨bk,z,cap,q1,q2⟩:=hH.at_.ob i ob trivial hg
   refine ⟨bk,z,cap,hρ i _ q1,q2.mono (fun _ h=>h) hcell hρ fun b hb hlv=>?_⟩
   subst hb
   obtain ⟨g1,g2⟩:=hH.cells_ne hg hlv q1
   exact ⟨hk b g2,g1⟩
 ·have old:∀ i oi z c,i≠li->get ((li,Ob.lp r F)::H) i=some oi->oi.live=true->(if i=li then some (some l,0,0) else ρ i)=some (some b,z,c)->get H i=some oi/\ρ i=some (some b,z,c)/\b<w.heap.size:=fun i oi z c hi hg hlv hr=>by
   simp only [get,if_neg (Ne.symm hi)] at hg
   rw [if_neg hi] at hr
   exact ⟨hg,hr,(hH.cells_ne hg hlv hr).2⟩
  have new:∀ i z c,i=li->(if i=li then some (some l,0,0) else ρ i)=some (some b,z,c)->b=l:=fun i z c hi hr=>by
   rw [if_pos hi] at hr
   simp at hr; exact hr.1.symm
  by_cases hi:i=li
  ·by_cases hj:j=li
   ·exact hne (hi.trans hj.symm)
   ·have:=new i z c hi hri
    obtain ⟨_,_,h3⟩:=old j oj z' c' hj hgj hlj hrj
    omega
  ·obtain ⟨h1,h2,h3⟩:=old i oi z c hi hgi hli' hri
   by_cases hj:j=li
   ·have:=new j z' c' hj hrj
    omega
   ·obtain ⟨k1,k2,_⟩:=old j oj z' c' hj hgj hlj hrj
    exact hH.at_.dis i j oi oj b z z' c c' trivial trivial hne h1 k1 hli' hlj h2 k2
theorem hrf_kill {w:World} {S:Nat->Prop} {ρ:Rho} {li:Nat} {r:Loop} {K:Hp} (h:HRF w S ρ (get ((li,.lp r F)::K))):HRF w S ρ (get ((li,.dead)::K)):=by
 refine ⟨h.hS,fun i hi=>h.dom i (by simp only [get] at hi ⊢; split at hi <;> simp_all),⟨fun i ob _ hg=>?_,fun i j oi oj b z z' c c' _ _ hne hgi hgj hli hlj hri hrj=>?_⟩⟩
 ·by_cases e:li=i
  ·subst e
   obtain ⟨bk,z,cap,q1,_⟩:=h.at_.ob li (.lp r F) trivial (by simp [get])
   simp only [get,if_pos] at hg
   injection hg with hg; subst hg
   exact ⟨bk,z,cap,q1,trivial⟩
  ·exact h.at_.ob i ob trivial (by simp only [get,if_neg e] at hg ⊢; exact hg)
 ·have conv:∀ i o,get ((li,Ob.dead)::K) i=some o->o.live=true->get ((li,Ob.lp r F)::K) i=some o:=fun i o hg hl=>by
   simp only [get] at hg ⊢
   split
   ·rename_i e; rw [if_pos e] at hg; injection hg with hg; subst hg; cases hl
   ·rename_i e; rw [if_neg e] at hg; exact hg
  exact h.at_.dis i j oi oj b z z' c c' trivial trivial hne (conv i oi hgi hli) (conv j oj hgj hlj) hli hlj hri hrj
theorem live_li {ρ:Rho} {li l:Nat} {o:Ob} {b:Nat} (h:LiveF (fun i=>if i=li then some (some l,0,0) else ρ i) (get ((li,o)::H)) All b):b=l\/LiveF ρ (get H) All b:=by
 obtain ⟨i,ob,z,cap,_,h1,h2,h3⟩:=h
 simp only [get] at h1
 by_cases e:i=li
 ·have h3:(if i=li then some (some l,0,0) else ρ i)=some (some b,z,cap):=h3
  rw [if_pos e] at h3
  simp at h3; exact .inl h3.1.symm
 ·have h3:(if i=li then some (some l,0,0) else ρ i)=some (some b,z,cap):=h3
  rw [if_neg e] at h3
  rw [if_neg (Ne.symm e)] at h1
  exact .inr ⟨i,ob,z,cap,trivial,h1,h2,h3⟩
theorem live_dead {ρ:Rho} {li:Nat} {o:Ob} {b:Nat} (h:LiveF ρ (get ((li,.dead)::H)) All b):LiveF ρ (get ((li,o)::H)) All b:=by
 obtain ⟨i,ob,z,cap,h0,h1,h2,h3⟩:=h
 refine ⟨i,ob,z,cap,h0,?_,h2,h3⟩
 simp only [get] at h1 ⊢
 split
 ·rename_i e; rw [if_pos e] at h1; injection h1 with h1; subst h1; cases h2
 ·rename_i e; rw [if_neg e] at h1; exact h1
def scopedHl (li:Nat) (Hs:Hp):Bool:=Hs.all fun x=>Jh (li::Qh Hs) x.2
theorem aw_rfunc {g:Arg} {ps:List Nat} {x y:MC} {f:FuncId} {caps:List AV} (li:Nat) (Hs H':Hp) {rv:AV} {e0:Exit} {jump:Option Code} (hej:(e0 = .normal/\jump=none)\/(e0 = .ret/\jump=some .ret))
  (hg:Qj F g=some (.fn (.func f) caps)) (hent:entered P f=true) (hli:get H li=none) (hnd:nodupK F=true) (hcaps:XX (li::Qh Hs) caps=true)
  (hsub:SubH H Hs) (hsc:scopedHl li Hs=true) (hscF:XX (li::Qh Hs) (F.map (·.2))=true) (hnew:newOk H Hs H'=true) (hdom:domOk Hs H'=true)
  (hfc:∀ r0:Loop,Rec0 P N ps x y r0->∃ r1:Loop,r1.state ≠ .busy/\r1.pending=jump/\FC P f (.yl li::caps) ((li,.lp r0 F)::Hs) rv ((li,.lp r1 F)::H') true)
  (h:Q e0 F ((li,.dead)::(H'++H))):AW P N Z none (.rfunc g ps x y) Q F H:=fun code hc S ρ a w hcf=>by
 cases code <;> simp [XW] at hc
 case rangeFunc gop ps' ca cb =>
  split at hc
  ·rename_i g' x' y' hg' hx hy
   split at hc
   ·rename_i hps
    simp at hc
    obtain ⟨rfl,rfl,rfl,rfl⟩:=hc
    have hfv:=Qn hg' (ts:=g'.slots) (fun t _ v hv=>hcf.fr.at_ t v hv) (fun _ h=>h) hg
    obtain ⟨C,e4,e5,e6⟩:=hfv.fn_inv
    refine wpIn_rangeFunc fun fn _=>?_
    let r0:Loop:={ state:=.ready,pending:=none,fn:=fn,tmps:=a.tmps,params:=ps',assign:=ca,body:=cb,defers:=w.heap.size }
    let w1:World:=(w.alloc (.deferred (some []))).alloc (.loop r0)
    obtain ⟨r1,hr1,hr2,hfc⟩:=hfc r0 ⟨rfl,rfl,rfl,hx,hy,hcf.fr.size⟩
    have sz1:w1.heap.size=w.heap.size+2:=by simp [w1]
    have hk1:∀ k,k<w.heap.size->w1.heap[k]?=w.heap[k]?:=fun k hk=>by
     rw [Below.heap_alloc _ _ k (by simp; omega),Below.heap_alloc _ _ k hk]
    have hD1:w1.heap[w.heap.size]?=some (.deferred (some [])):=by
     rw [Below.heap_alloc _ _ _ (by simp)]; exact World.alloc_heap_new w _
    have hl1:w1.heap[w.heap.size+1]?=some (.loop r0):=by
     have:=World.alloc_heap_new (w.alloc (.deferred (some []))) (.loop r0)
     rwa [World.size_alloc] at this
    obtain ⟨hH1,hv1⟩:=hrf_rec (F:=F) hcf.hp hli (l:=w.heap.size+1) (by omega) hl1 hk1 (by omega) (fun t v ht=>hcf.fr.at_ t v (nodupK_get hnd ht))
    have hliv:∀ {b:Nat} {o:Ob},LiveF (fun i=>if i=li then some (some (w.heap.size+1),0,0) else ρ i) (get ((li,o)::H)) All b->b=w.heap.size+1\/LiveF ρ (get H) All b:=fun h=>live_li h
    generalize hρ1:(fun i=>if i=li then some (some (w.heap.size+1),0,0) else ρ i:Rho)=ρ1 at hH1 hv1 hliv
    have hρli:ρ1 li=some (some (w.heap.size+1),0,0):=by rw [← hρ1]; simp
    have hρo:∀ i,i≠li->ρ1 i=ρ i:=fun i hi=>by rw [← hρ1]; simp [hi]
    have hlive0:∀ b,LiveF ρ (get H) All b->b<w.heap.size:=fun b ⟨i,ob,z,cap,_,g1,g2,g3⟩=>(hcf.hp.cells_ne g1 g2 g3).2
    refine ⟨w.heap.size+1,[{ target:=.collected w.heap.size,args := #[] }],w1,⟨.fn (.func f) C,#[.func (.yield (w.heap.size+1)) #[] #[]]⟩,w1,f,#[.func (.yield (w.heap.size+1)) #[] #[]]++C,w1,?_,?_,fun f' _=>Fc_fn none f',?_,fun hd=>(Fc_depth none hd).elim,callsIn_Fc.2 ?_⟩
    ·rw [Fc_round]; exact run_enterLoop_outer fn a.tmps ps' ca cb
    ·have e7:a.eval (.const (.func (.yield (w.heap.size+1)) #[] #[])) = .func (.yield (w.heap.size+1)) #[] #[]:=rfl
     simp [resolve,rangeCall,e4,e7,Deferred.ofValue]
    ·simp [invoke,run_callFunc hent]
    ·have hvr:VRs w1 S ρ1 (.yl li::caps) (#[.func (.yield (w.heap.size+1)) #[] #[]]++C):=by
      refine ⟨by simp [e5]; omega,fun j u hj=>?_⟩
      cases j with
      | zero =>
       simp at hj; subst hj
       rw [Array.getD_eq_getD_getElem?,Array.getElem?_append_left (by simp)]
       exact .yl li _ 0 0 hρli
      | succ j =>
       have:=hv1 _ _ (e6 j u (by simpa using hj))
       rw [Array.getD_eq_getD_getElem?] at this ⊢
       rw [Array.getElem?_append_right (by simp)]
       simpa using this
     have hvs:XX (li::Qh Hs) (.yl li::caps)=true:=by simp [XX,QY,hcaps]
     have hhands:Hands ((li,.lp r0 F)::H) ((li,.lp r0 F)::Hs) [] true (.yl li::caps) (.yl li::caps):=fun w' S' ρ' C' hh hv=>⟨hv.1,fun j v hj=>Qd (H:=(li,.lp r0 F)::H) (Hs:=(li,.lp r0 F)::Hs) (Xs hvs (List.mem_of_getElem? hj)) w' S' ρ' _ hh (hv.2 j v hj)⟩
     have one:∀ {K:Hp} {o:Ob} {i:Nat} {ob:Ob},i≠li->(get ((li,o)::K) i=some ob ↔ get K i=some ob):=fun {K o i ob} hi=>by simp only [get,if_neg (Ne.symm hi)]
     have non:∀ {K:Hp} {o:Ob} {i:Nat},get ((li,o)::K) i=none ↔ i≠li/\get K i=none:=fun {K o i}=>by
      simp only [get]
      by_cases e:li=i
      ·simp [e]
      ·simp [e,Ne.symm e]
     have hsub':∀ i ob,get ((li,.lp r0 F)::Hs) i=some ob->get ((li,.lp r0 F)::H) i=some ob:=fun i ob hi=>by
      by_cases e:i=li
      ·subst e; simpa [get] using hi
      ·exact (one e).2 (hsub.at_ i ob ((one e).1 hi))
     have hsc':∀ i ob,get ((li,Ob.lp r0 F)::Hs) i=some ob->Jh (Qh ((li,Ob.lp r0 F)::Hs)) ob=true:=fun i ob hi=>by
      by_cases e:i=li
      ·subst e
       simp only [get,if_pos] at hi
       injection hi with hi; subst hi
       exact hscF
      ·exact List.all_eq_true.1 hsc (i,ob) (get_mem ((one e).1 hi))
     have hnew':∀ i,get ((li,Ob.lp r1 F)::H') i≠none->get ((li,Ob.lp r0 F)::Hs) i=none->get ((li,Ob.lp r0 F)::H) i=none:=fun i h1 h2=>by
      obtain ⟨e,h2⟩:=non.1 h2
      exact non.2 ⟨e,newOk_spec hnew i (fun h=>h1 (non.2 ⟨e,h⟩)) h2⟩
     have hdom':∀ i,get ((li,Ob.lp r0 F)::Hs) i≠none->get ((li,Ob.lp r1 F)::H') i≠none:=fun i h1 h2=>by
      obtain ⟨e,h2⟩:=non.1 h2
      exact domOk_spec hdom i (fun h=>h1 (non.2 ⟨e,h⟩)) h2
     refine call_core (sem:=fun c w R=>Calls P f c w R) (fun hr h=>Calls.mono h hr) (fc_g.1 hfc) hhands (fun h=>by cases h) hsub' hsc' (fun i h=>by cases h) hnew' hdom' hvr hH1.hS
      ⟨fun i ob _ hg=>hH1.at_.ob i ob trivial hg,fun i j oi oj b z z' c c' _ _=>hH1.at_.dis i j oi oj b z z' c c' trivial trivial⟩ (fun i _ hn=>hH1.dom i hn) fun cv w3 S3 ρ3 hv3 hpost hext=>?_
     have hoff:∀ i,i ∉ Qh ((li,Ob.lp r1 F)::H')->get (((li,Ob.lp r1 F)::H')++((li,.lp r0 F)::H)) i=get ((li,Ob.lp r0 F)::H) i:=fun i hi=>by
      rw [J6]
      cases hg:get ((li,Ob.lp r1 F)::H') i with
      | none=>rfl
      | some ob=>exact absurd (QE.2 (by rw [hg]; simp)) hi
     have hon:∀ i,i∈Qh ((li,Ob.lp r1 F)::H')->(get (((li,Ob.lp r1 F)::H')++((li,.lp r0 F)::H)) i).isSome=true:=fun i hi=>by
      rw [J6]
      cases hg:get ((li,Ob.lp r1 F)::H') i with
      | none=>exact absurd hg (QE.1 hi)
      | some ob=>rfl
     obtain ⟨g1,g2,g3⟩:=frame_step (rd:=[]) hH1 (fun _ _=>rfl) hoff hon hpost hext
     have efn:(fun i=>if i∈Qh ((li,Ob.lp r1 F)::H') then get (((li,Ob.lp r1 F)::H')++((li,.lp r0 F)::H)) i else get ((li,Ob.lp r0 F)::H) i)=get ((li,Ob.lp r1 F)::(H'++H)):=by
      funext i
      have:(if i∈Qh ((li,Ob.lp r1 F)::H') then get (((li,Ob.lp r1 F)::H')++((li,.lp r0 F)::H)) i else get ((li,Ob.lp r0 F)::H) i)=get (((li,Ob.lp r1 F)::H')++((li,.lp r0 F)::H)) i:=by
       split
       ·rfl
       ·rename_i hi; exact (hoff i hi).symm
      rw [this]
      simp only [List.cons_append,get]
      split
      ·rfl
      ·rename_i e; simp [J6,get,e]
     rw [efn] at g1 g2
     have hρ3:ρ3 li=some (some (w.heap.size+1),0,0):=(g2.rho li (by simp [get])).trans hρli
     obtain ⟨hS3,hb3,hF3⟩:=lp_at g1 hρ3
     obtain ⟨hp4,hk4⟩:=lp_put (r':={ r1 with state:=.exhausted }) g1 hρ3 rfl
     have hp5:=hrf_kill hp4
     have lv5:∀ b,LiveF ρ3 (get ((li,.dead)::(H'++H))) All b->LiveF ρ1 (get ((li,.lp r0 F)::H)) All b\/w1.heap.size<=b:=fun b hb=>g2.own b (live_dead hb)
     have lv6:∀ b,LiveF ρ3 (get ((li,.dead)::(H'++H))) All b->b≠w.heap.size+1:=fun b hb e=>by
      subst e
      obtain ⟨i,ob,z,cap,_,q1,q2,q3⟩:=hb
      by_cases ei:i=li
      ·subst ei; simp only [get,if_pos] at q1; injection q1 with q1; subst q1; cases q2
      ·exact g1.at_.dis i li ob (.lp r1 F) _ z 0 cap 0 trivial trivial ei ((one ei).2 ((one ei).1 q1)) (by simp [get]) q2 rfl q3 hρ3
     have R:Reach N Z Q S ρ H w a.defers e0 { a with defers:=[{ target:=.collected w.heap.size,args := #[] }]++a.defers } (w3.putObj (w.heap.size+1) (.loop { r1 with state:=.exhausted })):=by
      refine ⟨⟨by rcases hej with ⟨rfl,_⟩ | ⟨rfl,_⟩ <;> (intro h; cases h),fun d hd=>?_⟩,F,_,S3,ρ3,h,⟨⟨hcf.fr.size,fun t v hv=>?_⟩,?_,hp5,fun i hi=>?_⟩,?_⟩
      ·rcases List.mem_append.1 hd with hd | hd
       ·simp at hd; exact .inr ⟨w.heap.size,by rw [hd],Nat.le_refl _⟩
       ·exact .inl hd
      ·exact (g3 _ _ (hv1 _ _ (hcf.fr.at_ t v hv))).mono (fun _ h=>h) (fun a c _ hc=>lp_cell hb3 _ hc) (fun _ _ h=>h)
      ·obtain ⟨Ds,d1,d2,d3⟩:=hcf.defers
       have dlt:∀ D∈Ds,D<w.heap.size:=fun D hD=>(Array.getElem?_eq_some_iff.1 (d3 D hD).1).1
       refine ⟨w.heap.size::Ds,by rw [d1]; rfl,List.nodup_cons.2 ⟨fun hm=>Nat.lt_irrefl _ (dlt _ hm),d2⟩,fun D hD=>?_⟩
       have key:D<w1.heap.size/\w1.heap[D]?=some (.deferred (some []))/\¬ LiveF ρ1 (get ((li,.lp r0 F)::H)) All D/\D≠w.heap.size+1:=by
        rcases List.mem_cons.1 hD with rfl | hD
        ·exact ⟨by omega,hD1,fun hl=>(hliv hl).elim (by omega) (fun h=>Nat.lt_irrefl _ (hlive0 _ h)),by omega⟩
        ·have:=dlt D hD
         exact ⟨by omega,(hk1 D this).trans (d3 D hD).1,fun hl=>(hliv hl).elim (by omega) (d3 D hD).2,by omega⟩
       obtain ⟨k1,k2,k3,k4⟩:=key
       exact ⟨(World.putObj_heap_other k4).trans ((g2.keep.block D k1 k3).trans k2),fun hl=>(lv5 D hl).elim k3 (by omega)⟩
      ·have:=hcf.z i hi
       intro h0
       obtain ⟨_,h0⟩:=non.1 h0
       rw [J6] at h0
       cases hg:get H' i with
       | none=>rw [hg] at h0; exact this (by simpa using h0)
       | some ob=>rw [hg] at h0; simp at h0
      ·have sz3:=g2.keep.size
       refine ⟨⟨?_,?_,?_,by simp; omega,fun k hk hn=>?_⟩,g2.sub,fun b hb=>?_,fun b hb=>?_,fun i hi=>?_⟩
       ·exact g2.keep.os
       ·exact g2.keep.tape
       ·exact g2.keep.output
       ·rw [World.putObj_heap_other (by omega)]
        exact (g2.keep.block k (by omega) (fun hl=>(hliv hl).elim (by omega) hn)).trans (hk1 k hk)
       ·rcases g2.fresh b hb with h | h | h
        ·exact .inl h
        ·exact (hliv h).elim (fun h=>.inr (.inr (by omega))) (fun h=>.inr (.inl h))
        ·exact .inr (.inr (by omega))
       ·rcases lv5 b hb with h | h
        ·exact (hliv h).elim (fun h=>.inr (by omega)) .inl
        ·exact .inr (by omega)
       ·have hz:=hcf.z i hi
        have hne:i≠li:=fun e=>hz (by rw [e]; exact hli)
        exact (g2.rho i (fun h=>hz (non.1 h).2)).trans (hρo i hne)
     rcases hej with ⟨rfl,rfl⟩ | ⟨rfl,rfl⟩
     ·exact ⟨none,_,(run_endLoop hb3 hr1).trans (by rw [hr2]),R⟩
     ·exact ⟨some .ret,_,(run_endLoop hb3 hr1).trans (by rw [hr2]),wpIn_ret R⟩
   ·cases hc
  ·cases hc
 all_goals (repeat' split at hc) <;> cases hc
end
end Go.Proofs.YthfhaoogcpfboaaGreat
namespace Go.Proofs.YthfhaoogcpfboaaGreat
open Go.RowKit
section
variable {N:Nat} {Z:List Nat} {F F0:Fr} {H H0:Hp}
theorem hrf_cell {w:World} {S:Nat->Prop} {ρ:Rho} (hh:HRF w S ρ (get H)) {k e z:Nat} {v v':AV} {fl:Bool} (hk:get H k=some (.cells e z [[v]] fl)) (hv:∀ c,VR w S ρ v c->VR w S ρ v' c) :
  HRF w S ρ (get ((k,.cells e z [[v']] false)::H)):=by
 have conv:∀ i o,get ((k,Ob.cells e z [[v']] false)::H) i=some o->o.live=true->∃ o',get H i=some o'/\o'.live=true:=fun i o hg hl=>by
  simp only [get] at hg
  split at hg
  ·rename_i e1; subst e1; exact ⟨_,hk,rfl⟩
  ·exact ⟨o,hg,hl⟩
 refine ⟨hh.hS,fun i hi=>hh.dom i (by simp only [get] at hi; split at hi; cases hi; exact hi),⟨fun i ob _ hg=>?_,fun i j oi oj b z1 z2 c c' _ _ hne hgi hgj hli hlj hri hrj=>?_⟩⟩
 ·simp only [get] at hg
  split at hg
  ·rename_i e1
   subst e1
   injection hg with hg; subst hg
   obtain ⟨bk,z1,cap,q1,q2⟩:=hh.at_.ob k _ trivial hk
   refine ⟨bk,z1,cap,q1,?_⟩
   obtain ⟨hz,h⟩:=q2
   refine ⟨hz,?_⟩
   cases bk with
   | none=>exact absurd h.1 (by simp)
   | some b =>
    obtain ⟨h0,hm,C,hC,h1,h2,h3,h4⟩:=h
    refine ⟨h0,hm,C,hC,h1,by simpa using h2,fun j el hj=>?_,fun j el o u hj ho=>?_⟩
    ·have hlt:=(List.getElem?_eq_some_iff.1 hj).1
     have:j=0:=by simp at hlt; exact hlt
     subst this
     simp at hj; subst hj
     exact h3 0 [v] rfl
    ·have hlt:=(List.getElem?_eq_some_iff.1 hj).1
     have:j=0:=by simp at hlt; exact hlt
     subst this
     simp at hj; subst hj
     have hlt:=(List.getElem?_eq_some_iff.1 ho).1
     have:o=0:=by simp at hlt; exact hlt
     subst this
     simp at ho; subst ho
     obtain ⟨g1,g2⟩:=h4 0 [v] 0 v rfl rfl
     refine ⟨g1,?_⟩
     rw [if_neg (by simp)]
     refine hv _ ?_
     split at g2
     ·exact .cl g2
     ·exact g2
  ·exact hh.at_.ob i ob trivial hg
 ·obtain ⟨oi',g1,g2⟩:=conv i oi hgi hli
  obtain ⟨oj',g3,g4⟩:=conv j oj hgj hlj
  exact hh.at_.dis i j oi' oj' b z1 z2 c c' trivial trivial hne g1 g3 g2 g4 hri hrj
theorem live_cell {ρ:Rho} {k e z:Nat} {v v':AV} {fl:Bool} (hk:get H k=some (.cells e z [[v]] fl)) {b:Nat} (h:LiveF ρ (get ((k,.cells e z [[v']] false)::H)) All b):LiveF ρ (get H) All b:=by
 obtain ⟨i,ob,z1,cap,h0,h1,h2,h3⟩:=h
 simp only [get] at h1
 split at h1
 ·rename_i e1; subst e1; exact ⟨k,_,z1,cap,h0,hk,rfl,h3⟩
 ·exact ⟨i,ob,z1,cap,h0,h1,h2,h3⟩
theorem conf_cell {S:Nat->Prop} {ρ:Rho} {a:Act} {w:World} (hc:Conf N Z F H S ρ a w) {k e z:Nat} {v v':AV} {fl:Bool} (hk:get H k=some (.cells e z [[v]] fl)) (hv:∀ c,VR w S ρ v c->VR w S ρ v' c) :
  Conf N Z F ((k,.cells e z [[v']] false)::H) S ρ a w/\ExtZ Z w S ρ (get H) w S ρ (get ((k,.cells e z [[v']] false)::H)) :=
 ⟨⟨hc.fr,hc.defers.keep (Keep.refl _ _) (fun b hb=>.inl (live_cell hk hb)),hrf_cell hc.hp hk hv,fun i hi h0=>hc.z i hi (by simp only [get] at h0; split at h0; cases h0; exact h0)⟩,
  Keep.refl _ _,fun _ h=>h,fun _ h=>.inl h,fun b hb=>.inl (live_cell hk hb),fun _ _=>rfl⟩
theorem Q2 {i i' k e z:Nat} {ob:Ob} {v v':AV} {fl:Bool} (hi:get H i=some ob) (hi':get H i'=none) (hF:RenF i i' F F0) (hki:k≠i) (hk:get H k=some (.cells e z [[v]] fl)) (hr:Ren i i' v v') :
  Weak N Z F H F0 ((k,.cells e z [[v']] false)::(i',ob)::(i,.dead)::H):=fun S ρ a w hc=>by
 obtain ⟨S1,ρ1,c1,e1,hρ⟩:=weak_ren_s (Z:=Z) hi hi' hF S ρ a w hc
 have hki':k≠i':=fun e=>by subst e; rw [hi'] at hk; cases hk
 obtain ⟨c2,e2⟩:=conf_cell c1 (k:=k) (e:=e) (z:=z) (v:=v) (v':=v') (fl:=fl) (by simp only [get,if_neg (Ne.symm hki),if_neg (Ne.symm hki')]; exact hk) (fun c h=>by
  cases hr with
  | ptr j o =>
   obtain ⟨b,z,cap,q1,q2⟩:=h.ptr_inv
   rw [q2]; exact .ptr i' j o b z cap (hρ.trans q1)
  | sl j n =>
   rcases h.sl_inv with ⟨b,z,cap,cap',q1,q2,q3,q4⟩ | ⟨z,q1,q2,q3,q4⟩
   ·rw [q4]; exact .sl i' j n b z cap cap' (hρ.trans q1) q2 q3
   ·subst q2 q3; rw [q4]; exact .sl0 i' z (hρ.trans q1)
  | sa j o n =>
   cases h with
   | cl h=>cases h
   | sa _ _ _ _ b z cap cap' q1 q2=>exact .sa i' j o n b z cap cap' (hρ.trans q1) q2
  | mp =>
   cases h with
   | cl h=>cases h
   | mp _ b z cap q1=>exact .mp i' b z cap (hρ.trans q1)
  | yl =>
   cases h with
   | cl h=>cases h
   | yl _ b z cap q1=>exact .yl i' b z cap (hρ.trans q1)
  | same=>exact h)
 exact ⟨S1,ρ1,c2,e1.trans e2⟩
theorem weak_seed {i k e z e2 z2:Nat} {fl fl2:Bool} (hi:get H i=none) (hk:get H k=some (.cells e z [[.nils]] fl)) :
  Weak N Z F H F ((k,.cells e z [[.sl i 0 0]] false)::(i,.cells e2 z2 [] fl2)::H):=fun S ρ a w hc=>by
 let ρ':Rho:=fun j=>if j=i then some (none,z2,0) else ρ j
 have hρ:∀ j x,ρ j=some x->ρ' j=some x:=fun j x h=>by
  have:j≠i:=fun e=>by rw [e,hc.hp.dom i hi] at h; cases h
  simp [ρ',this,h]
 have hg:∀ j,get ((i,Ob.cells e2 z2 [] fl2)::H) j=if i=j then some (.cells e2 z2 [] fl2) else get H j:=fun j=>rfl
 have live:∀ j o b z c,get ((i,Ob.cells e2 z2 [] fl2)::H) j=some o->ρ' j=some (some b,z,c)->get H j=some o/\ρ j=some (some b,z,c):=fun j o b z c h1 h2=>by
  rw [hg] at h1
  by_cases ej:j=i
  ·subst ej; simp [ρ'] at h2
  ·rw [if_neg (Ne.symm ej)] at h1
   exact ⟨h1,by simpa [ρ',ej] using h2⟩
 have c1:Conf N Z F ((i,.cells e2 z2 [] fl2)::H) S ρ' a w:=by
  refine ⟨⟨hc.fr.size,fun t v hv=>(hc.fr.at_ t v hv).mono (fun _ h=>h) (fun _ _ _ h=>h) hρ⟩,hc.defers.keep (Keep.refl _ _) (fun b ⟨j,o,z,c,_,h1,h2,h3⟩=>?_),⟨hc.hp.hS,fun j hj=>?_,⟨fun j o _ hj=>?_,fun j m oj om b z z' c c' _ _ hne hgj hgm hlj hlm hrj hrm=>?_⟩⟩,fun j hj h0=>?_⟩
  ·obtain ⟨g1,g2⟩:=live j o b z c h1 h3
   exact .inl ⟨j,o,z,c,trivial,g1,h2,g2⟩
  ·rw [hg] at hj
   split at hj
   ·cases hj
   ·rename_i ej; simpa [ρ',Ne.symm ej] using hc.hp.dom j hj
  ·rw [hg] at hj
   split at hj
   ·rename_i ej
    subst ej
    injection hj with hj; subst hj
    exact ⟨none,z2,0,by simp [ρ'],rfl,rfl,rfl⟩
   ·obtain ⟨bk,z,cap,q1,q2⟩:=hc.hp.at_.ob j o trivial hj
    exact ⟨bk,z,cap,hρ j _ q1,q2.mono (fun _ h=>h) (fun _ _ _ h=>h) hρ fun b hb hl=>⟨rfl,(hc.hp.cells_ne hj hl (by rw [q1,hb])).1⟩⟩
  ·obtain ⟨g1,g2⟩:=live j oj b z c hgj hrj
   obtain ⟨g3,g4⟩:=live m om b z' c' hgm hrm
   exact hc.hp.at_.dis j m oj om b z z' c c' trivial trivial hne g1 g3 hlj hlm g2 g4
  ·rw [hg] at h0
   split at h0
   ·cases h0
   ·exact hc.z j hj h0
 have e1:ExtZ Z w S ρ (get H) w S ρ' (get ((i,Ob.cells e2 z2 [] fl2)::H)):=⟨Keep.refl _ _,fun _ h=>h,fun _ h=>.inl h,fun b ⟨j,o,z,c,_,h1,h2,h3⟩=>by
   obtain ⟨g1,g2⟩:=live j o b z c h1 h3
   exact .inl ⟨j,o,z,c,trivial,g1,h2,g2⟩,fun j hj=>by
   have:j≠i:=fun e=>hc.z j hj (by rw [e]; exact hi)
   simp [ρ',this]⟩
 have hki:k≠i:=fun e=>by subst e; rw [hi] at hk; cases hk
 obtain ⟨c2,e3⟩:=conf_cell c1 (k:=k) (e:=e) (z:=z) (v:=.nils) (v':=.sl i 0 0) (fl:=fl) (by rw [hg,if_neg (Ne.symm hki)]; exact hk) (fun c h=>by
  rw [h.nils_inv]; exact .sl0 i z2 (by simp [ρ']))
 exact ⟨S,ρ',c2,e1.trans e3⟩
end
end Go.Proofs.YthfhaoogcpfboaaGreat
namespace Go.Proofs.YthfhaoogcpfboaaGreat
open Go.RowKit
theorem rc_fnr {H H0:Hp} {al:Bool} {f:Fn} {vs rs:List AV} (h:RCs H H0 al vs rs):RC H H0 al (.fn f vs) (.fn f rs):=fun S ρ w c hh hv=>by
 obtain ⟨C,rfl,hn,h2⟩:=hv.fn_inv
 obtain ⟨e1,e2⟩:=h.at_
 refine .fn f rs C (by rw [hn,e1]) fun j r hj=>?_
 obtain ⟨v,g1,g2⟩:=e2 j r hj
 exact g2 S ρ w _ hh (h2 j v g1)
theorem Jc {H H0:Hp} {al:Bool} {i e z:Nat} {cs:List AV} (h:get H i=some (.cells e z [cs] true)) (h0:get H0 i=none) (hn:al=true\/noROL cs=true):RC H H0 al (.ptr i 0 0) (.rp cs):=fun S ρ w c hh hv=>by
 obtain ⟨b,z0,cap,hρ,rfl⟩:=hv.ptr_inv
 obtain ⟨bk,z1,c1,q1,hz,q2⟩:=hh.at_.ob i _ trivial h
 rw [hρ] at q1
 injection q1 with q1
 obtain ⟨rfl,rfl,rfl⟩:some b=bk/\z0=z1/\cap=c1:=by simpa using q1
 subst hz
 obtain ⟨hs,hm,C,hC,e1,e2,e3,e4⟩:=q2
 have hSb:Sw H H0 al S ρ b:=.inr ⟨i,_,z,cap,h0,h,rfl,hρ⟩
 have hcap:1<=cap:=by simpa using e2
 have hz:=e3 0 cs rfl
 refine .cl (CR.rp cs b (0*z+0) (fun o=>C.getD o undef) hSb (fun o v ho=>?_) (fun o v ho=>?_))
 ·have hlt:o<C.size:=by
   have:=(List.getElem?_eq_some_iff.1 ho).1
   rw [e1]
   calc o<1*z:=by omega
    _<=cap*z:=Nat.mul_le_mul_right _ hcap
  obtain ⟨g1,_⟩:=e4 0 cs o v rfl ho
  refine ⟨?_,by simpa using g1⟩
  rw [cell_of_row w b _ C e (0,0) hC]
  simpa using getD_some hlt
 ·obtain ⟨_,g2⟩:=e4 0 cs o v rfl ho
  rw [if_pos rfl] at g2
  simp only [Nat.zero_mul,Nat.zero_add] at g2
  rcases hn with rfl | hn
  ·exact g2.mono (fun b hb=>.inl ⟨rfl,hb⟩) (fun _ _ _ h=>h)
  ·exact g2.noRO (noROE_mem (els:=[cs]) (by simp [noROE,hn]) cs (by simp) v (List.mem_of_getElem? ho))
theorem rec_same {r:Loop} (h1:r.state = .ready) (h2:r.pending=none):{ r with state:=if (none:Option Code).isNone then .ready else .done,pending:=none }=r:=by
 cases r; simp_all
end Go.Proofs.YthfhaoogcpfboaaGreat
namespace Go.Proofs.YthfhaoogcpfboaaGreat
open Go.RowKit
section
variable {N:Nat} {Z:List Nat} {F F0:Fr} {H H0:Hp}
def Cells2 (w:World) (S:Nat->Prop) (ρ:Rho) (el el':List AV):Prop:=el'.length=el.length/\∀ (o:Nat) (v':AV),el'[o]?=some v'->∃ v:AV,el[o]?=some v/\∀ c,VR w S ρ v c->VR w S ρ v' c
theorem hrf_row {w:World} {S:Nat->Prop} {ρ:Rho} (hh:HRF w S ρ (get H)) {k e z:Nat} {el el':List AV} {fl:Bool} (hk:get H k=some (.cells e z [el] fl)) (hv:Cells2 w S ρ el el') :
  HRF w S ρ (get ((k,.cells e z [el'] false)::H)):=by
 have conv:∀ i o,get ((k,Ob.cells e z [el'] false)::H) i=some o->o.live=true->∃ o',get H i=some o'/\o'.live=true:=fun i o hg hl=>by
  simp only [get] at hg
  split at hg
  ·rename_i e1; subst e1; exact ⟨_,hk,rfl⟩
  ·exact ⟨o,hg,hl⟩
 refine ⟨hh.hS,fun i hi=>hh.dom i (by simp only [get] at hi; split at hi; cases hi; exact hi),⟨fun i ob _ hg=>?_,fun i j oi oj b z1 z2 c c' _ _ hne hgi hgj hli hlj hri hrj=>?_⟩⟩
 ·simp only [get] at hg
  split at hg
  ·rename_i e1
   subst e1
   injection hg with hg; subst hg
   obtain ⟨bk,z1,cap,q1,q2⟩:=hh.at_.ob k _ trivial hk
   refine ⟨bk,z1,cap,q1,?_⟩
   obtain ⟨hz,h⟩:=q2
   refine ⟨hz,?_⟩
   cases bk with
   | none=>exact absurd h.1 (by simp)
   | some b =>
    obtain ⟨h0,hm,C,hC,h1,h2,h3,h4⟩:=h
    refine ⟨h0,hm,C,hC,h1,by simpa using h2,fun j el1 hj=>?_,fun j el1 o u hj ho=>?_⟩
    ·have hlt:=(List.getElem?_eq_some_iff.1 hj).1
     have:j=0:=by simp at hlt; exact hlt
     subst this
     simp at hj; subst hj
     rw [hv.1]; exact h3 0 el rfl
    ·have hlt:=(List.getElem?_eq_some_iff.1 hj).1
     have:j=0:=by simp at hlt; exact hlt
     subst this
     simp at hj; subst hj
     obtain ⟨v,hv1,hv2⟩:=hv.2 o u ho
     obtain ⟨g1,g2⟩:=h4 0 el o v rfl hv1
     refine ⟨g1,?_⟩
     rw [if_neg (by simp)]
     refine hv2 _ ?_
     split at g2
     ·exact .cl g2
     ·exact g2
  ·exact hh.at_.ob i ob trivial hg
 ·obtain ⟨oi',g1,g2⟩:=conv i oi hgi hli
  obtain ⟨oj',g3,g4⟩:=conv j oj hgj hlj
  exact hh.at_.dis i j oi' oj' b z1 z2 c c' trivial trivial hne g1 g3 g2 g4 hri hrj
theorem live_row {ρ:Rho} {k e z:Nat} {el el':List AV} {fl:Bool} (hk:get H k=some (.cells e z [el] fl)) {b:Nat} (h:LiveF ρ (get ((k,.cells e z [el'] false)::H)) All b):LiveF ρ (get H) All b:=by
 obtain ⟨i,ob,z1,cap,h0,h1,h2,h3⟩:=h
 simp only [get] at h1
 split at h1
 ·rename_i e1; subst e1; exact ⟨k,_,z1,cap,h0,hk,rfl,h3⟩
 ·exact ⟨i,ob,z1,cap,h0,h1,h2,h3⟩
theorem conf_row {S:Nat->Prop} {ρ:Rho} {a:Act} {w:World} (hc:Conf N Z F H S ρ a w) {k e z:Nat} {el el':List AV} {fl:Bool} (hk:get H k=some (.cells e z [el] fl)) (hv:Cells2 w S ρ el el') :
  Conf N Z F ((k,.cells e z [el'] false)::H) S ρ a w/\ExtZ Z w S ρ (get H) w S ρ (get ((k,.cells e z [el'] false)::H)) :=
 ⟨⟨hc.fr,hc.defers.keep (Keep.refl _ _) (fun b hb=>.inl (live_row hk hb)),hrf_row hc.hp hk hv,fun i hi h0=>hc.z i hi (by simp only [get] at h0; split at h0; cases h0; exact h0)⟩,
  Keep.refl _ _,fun _ h=>h,fun _ h=>.inl h,fun b hb=>.inl (live_row hk hb),fun _ _=>rfl⟩
inductive RenL (i i':Nat):List AV->List AV->Prop where
 | nil:RenL i i' [] []
 | cons {v v':AV} {l l':List AV} (h:Ren i i' v v') (r:RenL i i' l l'):RenL i i' (v::l) (v'::l')
theorem RenL.refl (i i':Nat):∀ l,RenL i i' l l
 | []=>.nil
 | v::l=>.cons (.same v) (RenL.refl i i' l)
theorem Ren.vr {w:World} {S:Nat->Prop} {ρ:Rho} {i i':Nat} (hρ:ρ i'=ρ i) {v v':AV} (hr:Ren i i' v v') {c:Value} (h:VR w S ρ v c):VR w S ρ v' c:=by
 cases hr with
 | ptr j o =>
  obtain ⟨b,z,cap,q1,q2⟩:=h.ptr_inv
  rw [q2]; exact .ptr i' j o b z cap (hρ.trans q1)
 | sl j n =>
  rcases h.sl_inv with ⟨b,z,cap,cap',q1,q2,q3,q4⟩ | ⟨z,q1,q2,q3,q4⟩
  ·rw [q4]; exact .sl i' j n b z cap cap' (hρ.trans q1) q2 q3
  ·subst q2 q3; rw [q4]; exact .sl0 i' z (hρ.trans q1)
 | sa j o n =>
  cases h with
  | cl h=>cases h
  | sa _ _ _ _ b z cap cap' q1 q2=>exact .sa i' j o n b z cap cap' (hρ.trans q1) q2
 | mp =>
  cases h with
  | cl h=>cases h
  | mp _ b z cap q1=>exact .mp i' b z cap (hρ.trans q1)
 | yl =>
  cases h with
  | cl h=>cases h
  | yl _ b z cap q1=>exact .yl i' b z cap (hρ.trans q1)
 | same=>exact h
theorem RenL.cells2 {w:World} {S:Nat->Prop} {ρ:Rho} {i i':Nat} (hρ:ρ i'=ρ i) {el el':List AV} (h:RenL i i' el el'):Cells2 w S ρ el el':=by
 induction h with
 | nil=>exact ⟨rfl,fun o v h=>by simp at h⟩
 | cons h _ ih =>
  refine ⟨by simp [ih.1],fun o v' ho=>?_⟩
  cases o with
  | zero=>simp at ho; subst ho; exact ⟨_,rfl,fun c hc=>h.vr hρ hc⟩
  | succ o=>simpa using ih.2 o v' (by simpa using ho)
theorem QN {i i' k e z:Nat} {ob:Ob} {el el':List AV} {fl:Bool} (hi:get H i=some ob) (hi':get H i'=none) (hF:RenF i i' F F0) (hki:k≠i) (hk:get H k=some (.cells e z [el] fl)) (hr:RenL i i' el el') :
  Weak N Z F H F0 ((k,.cells e z [el'] false)::(i',ob)::(i,.dead)::H):=fun S ρ a w hc=>by
 obtain ⟨S1,ρ1,c1,e1,hρ⟩:=weak_ren_s (Z:=Z) hi hi' hF S ρ a w hc
 have hki':k≠i':=fun e=>by subst e; rw [hi'] at hk; cases hk
 obtain ⟨c2,e2⟩:=conf_row c1 (k:=k) (e:=e) (z:=z) (el:=el) (el':=el') (fl:=fl) (by simp only [get,if_neg (Ne.symm hki),if_neg (Ne.symm hki')]; exact hk) (hr.cells2 hρ)
 exact ⟨S1,ρ1,c2,e1.trans e2⟩
end
end Go.Proofs.YthfhaoogcpfboaaGreat
namespace Go.Proofs.YthfhaoogcpfboaaGreat
open Go.RowKit
section
variable {N:Nat} {Z:List Nat} {F F0:Fr} {H H0:Hp}
inductive LendL (H:Hp) (rd:List Nat):List AV->List AV->Prop where
 | nil:LendL H rd [] []
 | int {k:IntKind} {n:Int} {l l':List AV} (r:LendL H rd l l'):LendL H rd (.int k n::l) (.int k n::l')
 | bool {b:Bool} {l l':List AV} (r:LendL H rd l l'):LendL H rd (.bool b::l) (.bool b::l')
 | sl {i e z n:Nat} {els:List (List AV)} {l l':List AV} (hi:i∈rd) (hg:get H i=some (.cells e z els true)) (hn:els.length=n) (r:LendL H rd l l'):LendL H rd (.sl i 0 n::l) (.rs z els::l')
 | nils {z:Nat} {l l':List AV} (r:LendL H rd l l'):LendL H rd (.nils::l) (.rs z []::l')
theorem VR.rs_cr {w:World} {S:Nat->Prop} {ρ:Rho} {z:Nat} {els:List (List AV)} {c:Value} (h:VR w S ρ (.rs z els) c):CR w S (.rs z els) c:=by
 cases h with
 | cl h=>exact h
theorem VR.int_cr {w:World} {S:Nat->Prop} {ρ:Rho} {k:IntKind} {n:Int} {c:Value} (h:VR w S ρ (.int k n) c):CR w S (.int k n) c:=by
 cases h with
 | cl h=>exact h
theorem VR.bool_cr {w:World} {S:Nat->Prop} {ρ:Rho} {b:Bool} {c:Value} (h:VR w S ρ (.bool b) c):CR w S (.bool b) c:=by
 cases h with
 | cl h=>exact h
theorem LendL.at_ {Hs:Hp} {rd:List Nat} {el el':List AV} (h:LendL H rd el el'):∀ (o:Nat) (v':AV),el'[o]?=some v'->∃ v,el[o]?=some v ∧
  ∀ (w:World) (S:Nat->Prop) (ρ:Rho) (c:Value),HRi (fun i=>i∈rd\/get Hs i≠none) w S ρ H->VR w S ρ v c->CR w (fun b=>S b\/(false=false/\JI ρ H (fun i=>i∈rd) b)) v' c:=by
 induction h with
 | nil=>intro o v' ho; simp at ho
 | @int k n l l' _ ih =>
  intro o v' ho
  cases o with
  | zero=>simp at ho; subst ho; exact ⟨_,rfl,fun w S ρ c _ hv=>hv.int_cr.mono (fun b hb=>.inl hb) (fun _ _ _ h=>h)⟩
  | succ o=>simpa using ih o v' (by simpa using ho)
 | @bool b l l' _ ih =>
  intro o v' ho
  cases o with
  | zero=>simp at ho; subst ho; exact ⟨_,rfl,fun w S ρ c _ hv=>hv.bool_cr.mono (fun b hb=>.inl hb) (fun _ _ _ h=>h)⟩
  | succ o=>simpa using ih o v' (by simpa using ho)
 | @sl i e z n els l l' hi hg hn _ ih =>
  intro o v' ho
  cases o with
  | zero =>
   simp at ho; subst ho
   refine ⟨_,rfl,fun w S ρ c hh hv=>?_⟩
   have:=hv_sl (Hs:=Hs) hi hg (j:=0) (n:=n) (by omega) (els':=els) (by rw [List.drop_zero,List.take_of_length_le (by omega)])
   exact (this w S ρ c hh hv).rs_cr
  | succ o=>simpa using ih o v' (by simpa using ho)
 | @nils z l l' _ ih =>
  intro o v' ho
  cases o with
  | zero=>simp at ho; subst ho; exact ⟨_,rfl,fun w S ρ c _ hv=>by rw [hv.nils_inv]; exact .rs0 z none 0⟩
  | succ o=>simpa using ih o v' (by simpa using ho)
inductive SeedL (i:Nat):List AV->List AV->Prop where
 | here {l:List AV}:SeedL i (.nils::l) (.sl i 0 0::l)
 | next {v:AV} {l l':List AV} (r:SeedL i l l'):SeedL i (v::l) (v::l')
theorem SeedL.cells2 {w:World} {S:Nat->Prop} {ρ:Rho} {i z2:Nat} (hρ:ρ i=some (none,z2,0)) {el el':List AV} (h:SeedL i el el'):Cells2 w S ρ el el':=by
 induction h with
 | here =>
  refine ⟨rfl,fun o v' ho=>?_⟩
  cases o with
  | zero=>simp at ho; subst ho; exact ⟨.nils,rfl,fun c h=>by rw [h.nils_inv]; exact .sl0 i z2 hρ⟩
  | succ o=>exact ⟨v',by simpa using ho,fun c h=>h⟩
 | next _ ih =>
  refine ⟨by simp [ih.1],fun o v' ho=>?_⟩
  cases o with
  | zero=>simp at ho; subst ho; exact ⟨_,rfl,fun c h=>h⟩
  | succ o=>simpa using ih.2 o v' (by simpa using ho)
theorem Xy {i k e z e2 z2:Nat} {el el':List AV} {fl fl2:Bool} (hi:get H i=none) (hk:get H k=some (.cells e z [el] fl)) (hs:SeedL i el el') :
  Weak N Z F H F ((k,.cells e z [el'] false)::(i,.cells e2 z2 [] fl2)::H):=fun S ρ a w hc=>by
 let ρ':Rho:=fun j=>if j=i then some (none,z2,0) else ρ j
 have hρ:∀ j x,ρ j=some x->ρ' j=some x:=fun j x h=>by
  have:j≠i:=fun e=>by rw [e,hc.hp.dom i hi] at h; cases h
  simp [ρ',this,h]
 have hg:∀ j,get ((i,Ob.cells e2 z2 [] fl2)::H) j=if i=j then some (.cells e2 z2 [] fl2) else get H j:=fun j=>rfl
 have live:∀ j o b z c,get ((i,Ob.cells e2 z2 [] fl2)::H) j=some o->ρ' j=some (some b,z,c)->get H j=some o/\ρ j=some (some b,z,c):=fun j o b z c h1 h2=>by
  rw [hg] at h1
  by_cases ej:j=i
  ·subst ej; simp [ρ'] at h2
  ·rw [if_neg (Ne.symm ej)] at h1
   exact ⟨h1,by simpa [ρ',ej] using h2⟩
 have c1:Conf N Z F ((i,.cells e2 z2 [] fl2)::H) S ρ' a w:=by
  refine ⟨⟨hc.fr.size,fun t v hv=>(hc.fr.at_ t v hv).mono (fun _ h=>h) (fun _ _ _ h=>h) hρ⟩,hc.defers.keep (Keep.refl _ _) (fun b ⟨j,o,z,c,_,h1,h2,h3⟩=>?_),⟨hc.hp.hS,fun j hj=>?_,⟨fun j o _ hj=>?_,fun j m oj om b z z' c c' _ _ hne hgj hgm hlj hlm hrj hrm=>?_⟩⟩,fun j hj h0=>?_⟩
  ·obtain ⟨g1,g2⟩:=live j o b z c h1 h3
   exact .inl ⟨j,o,z,c,trivial,g1,h2,g2⟩
  ·rw [hg] at hj
   split at hj
   ·cases hj
   ·rename_i ej; simpa [ρ',Ne.symm ej] using hc.hp.dom j hj
  ·rw [hg] at hj
   split at hj
   ·rename_i ej
    subst ej
    injection hj with hj; subst hj
    exact ⟨none,z2,0,by simp [ρ'],rfl,rfl,rfl⟩
   ·obtain ⟨bk,z,cap,q1,q2⟩:=hc.hp.at_.ob j o trivial hj
    exact ⟨bk,z,cap,hρ j _ q1,q2.mono (fun _ h=>h) (fun _ _ _ h=>h) hρ fun b hb hl=>⟨rfl,(hc.hp.cells_ne hj hl (by rw [q1,hb])).1⟩⟩
  ·obtain ⟨g1,g2⟩:=live j oj b z c hgj hrj
   obtain ⟨g3,g4⟩:=live m om b z' c' hgm hrm
   exact hc.hp.at_.dis j m oj om b z z' c c' trivial trivial hne g1 g3 hlj hlm g2 g4
  ·rw [hg] at h0
   split at h0
   ·cases h0
   ·exact hc.z j hj h0
 have e1:ExtZ Z w S ρ (get H) w S ρ' (get ((i,Ob.cells e2 z2 [] fl2)::H)):=⟨Keep.refl _ _,fun _ h=>h,fun _ h=>.inl h,fun b ⟨j,o,z,c,_,h1,h2,h3⟩=>by
   obtain ⟨g1,g2⟩:=live j o b z c h1 h3
   exact .inl ⟨j,o,z,c,trivial,g1,h2,g2⟩,fun j hj=>by
   have:j≠i:=fun e=>hc.z j hj (by rw [e]; exact hi)
   simp [ρ',this]⟩
 have hki:k≠i:=fun e=>by subst e; rw [hi] at hk; cases hk
 obtain ⟨c2,e3⟩:=conf_row c1 (k:=k) (e:=e) (z:=z) (el:=el) (el':=el') (fl:=fl) (by rw [hg,if_neg (Ne.symm hki)]; exact hk) (hs.cells2 (z2:=z2) (by simp [ρ']))
 exact ⟨S,ρ',c2,e1.trans e3⟩
end
end Go.Proofs.YthfhaoogcpfboaaGreat
namespace Go.Proofs.YthfhaoogcpfboaaGreat
open Go.RowKit
theorem OR.out {w:World} {S:Nat->Prop} {ρ:Rho} {ob:Ob} {b z cap:Nat} (h:OR w S ρ ob (some b) z cap) (hl:ob.live=true):¬ S b:=by
 cases ob with
 | dead=>cases hl
 | glob g cs=>cases hl
 | lp r Fl=>obtain ⟨b',e,h0,_⟩:=h; injection e with e; subst e; exact h0
 | fm kvs=>obtain ⟨b',es,clock,e,h0,_⟩:=h; injection e with e; subst e; exact h0
 | mset ks=>obtain ⟨b',es,clock,e,h0,_⟩:=h; injection e with e; subst e; exact h0
 | cells e z' els flat=>exact h.2.1
section
variable {P:Program} {N:Nat} {F:Fr} {H:Hp} {ml:List MOper} {K:List Fp->Fr->Hp->Prop} {d:Nat} {g:Option (Nat×Bool)} {pre:List Nat}
theorem StepM.frz {ops:Array Oper} {o:Oper} {mo:MOper} {rd wr:List Nat} {e z:Nat} {els:List (List AV)} {H1:Hp} (hd:d∈wr) (h:StepM P N ops o mo F H rd wr (.sl d 0 els.length) ((d,.cells e z els true)::H1)) :
  StepM P N ops o mo F H rd wr (.rs z els) ((d,.dead)::H1):=by
 have gs:∀ {x:Ob},get ((d,x)::H1) d=some x:=fun {x}=>by simp [get]
 have gn:∀ {x y:Ob} {i:Nat},i≠d->get ((d,x)::H1) i=get ((d,y)::H1) i:=fun {x y i} hi=>by simp [get,Ne.symm hi]
 refine ⟨fun i hi=>?_,fun i hi=>?_,fun rn S ρ a w Q K' hl hN hF hS hH hn hK=>h.gt rn S ρ a w Q K' hl hN hF hS hH hn fun cv w' S' ρ' hv hh hx=>?_⟩
 ·rw [gn (y:=.cells e z els true) (fun q=>hi (by rw [q]; exact hd))]; exact h.off i hi
 ·by_cases q:i=d
  ·subst q; rw [gs]; rfl
  ·rw [gn (y:=.cells e z els true) q]; exact h.on i hi
 ·obtain ⟨bk,z1,c1,q1,hz,q2⟩:=hh.ob d _ (.inr hd) gs
  subst hz
  have hlive:∀ b,bk=some b->JI ρ' ((d,.cells e z els true)::H1) (fun i=>i∈rd\/i∈wr) b:=fun b hb=>⟨d,_,z,c1,.inr hd,gs,rfl,by rw [q1,hb]⟩
  have hne:∀ i ob b,(i∈rd\/i∈wr)->i≠d->get ((d,.cells e z els true)::H1) i=some ob->ob.live=true->∀ z' c',ρ' i=some (some b,z',c')->bk≠some b:=fun i ob b hi hid hg hlv z' c' hr hb =>
   hh.dis i d ob _ b z' z c' c1 hi (.inr hd) hid hg gs hlv rfl hr (by rw [q1,hb])
  refine hK cv w' (fun b=>S' b\/bk=some b) ρ' ?_ ⟨fun i ob hi hg=>?_,fun i j oi oj b z' z'' c' c'' hi hj hij hgi hgj hli hlj hri hrj=>?_⟩ ⟨hx.keep,fun b hb=>.inl (hx.sub b hb),fun b hb=>?_,fun b hb=>?_,fun b hb=>?_,hx.rho⟩
  ·rcases hv.sl_inv with ⟨b,z0,cap,cap',hρ,hjc,hnc,rfl⟩ | ⟨z0,hρ,_,h0,rfl⟩
   ·rw [q1] at hρ
    injection hρ with hρ
    obtain ⟨rfl,rfl,rfl⟩:bk=some b/\z=z0/\c1=cap:=by simpa using hρ
    obtain ⟨hs,hm,C,hC,e1,e2,e3,e4⟩:=q2
    have hq:=CR.rs (w:=w') (S:=fun x=>S' x\/some b=some x) z els b (0*z) cap' (fun q k=>C.getD (q*z+k) undef) (.inr rfl) hnc
     (fun q el k u hq hk=>by
      obtain ⟨g1,_⟩:=e4 q el k u hq hk
      have hkz:k<z:=Nat.lt_of_lt_of_le (List.getElem?_eq_some_iff.1 hk).1 (e3 _ el hq)
      have hql:q<els.length:=(List.getElem?_eq_some_iff.1 hq).1
      have hlt:q*z+k<C.size:=by
       rw [e1]
       calc q*z+k<q*z+z:=by omega
        _=(q+1)*z:=by rw [Nat.add_mul,Nat.one_mul]
        _<=c1*z:=Nat.mul_le_mul_right _ (by omega)
      refine ⟨?_,g1⟩
      rw [Nat.zero_mul,Nat.zero_add,cell_of_row w' b _ C e (0,0) hC]
      exact getD_some hlt)
     (fun q el k u hq hk=>by
      obtain ⟨_,g2⟩:=e4 q el k u hq hk
      rw [if_pos rfl] at g2
      exact g2.mono (fun x hx=>.inl hx) (fun _ _ _ h=>h))
    exact .cl hq
   ·obtain rfl:=List.eq_nil_of_length_eq_zero h0
    exact .cl (.rs0 z none 0)
  ·by_cases hid:i=d
   ·subst hid
    rw [gs] at hg
    injection hg with hg; subst hg
    exact ⟨bk,z,c1,q1,trivial⟩
   ·rw [gn (y:=.cells e z els true) hid] at hg
    obtain ⟨bk2,z2,c2,r1,r2⟩:=hh.ob i ob hi hg
    refine ⟨bk2,z2,c2,r1,r2.mono (fun b hb=>.inl hb) (fun _ _ _ h=>h) (fun _ _ h=>h) fun b hb hlv=>⟨rfl,?_⟩⟩
    subst hb
    rintro (hb | hb)
    ·exact r2.out hlv hb
    ·exact hne i ob b hi hid hg hlv z2 c2 r1 hb
  ·by_cases hid:i=d
   ·subst hid; rw [gs] at hgi; injection hgi with hgi; subst hgi; cases hli
   ·by_cases hjd:j=d
    ·subst hjd; rw [gs] at hgj; injection hgj with hgj; subst hgj; cases hlj
    ·rw [gn (y:=.cells e z els true) hid] at hgi
     rw [gn (y:=.cells e z els true) hjd] at hgj
     exact hh.dis i j oi oj b z' z'' c' c'' hi hj hij hgi hgj hli hlj hri hrj
  ·rcases hb with hb | hb
   ·exact hx.fresh b hb
   ·exact .inr (hx.own b (hlive b hb))
  ·rcases hb with hb | hb
   ·exact hx.size b hb
   ·subst hb
    obtain ⟨_,_,C,hC,_⟩:=q2
    exact (Array.getElem?_eq_some_iff.1 hC).1
  ·obtain ⟨i,ob,z',c',hi,hg,hlv,hr⟩:=hb
   by_cases hid:i=d
   ·subst hid; rw [gs] at hg; injection hg with hg; subst hg; cases hlv
   ·rw [gn (y:=.cells e z els true) hid] at hg
    exact hx.own b ⟨i,ob,z',c',hi,hg,hlv,hr⟩
theorem rs_opf {mo:MOper} {e z:Nat} {els:List (List AV)} (hg:gOK F mo.guard=true) (h:mev F H (mo.dst.getD 0) (fun v rd wr H1=>∃ H2,v = .sl d 0 els.length/\H1=(d,.cells e z els true)::H2/\d∈wr/\RS P N ml (putF F mo.dst (.rs z els)) ((d,.dead)::H2) (fun fps=>K ((rd,wr)::fps))) mo.op):RS P N (mo::ml) F H K :=
 rs_cons fun ops o hc=>by
  obtain ⟨v,rd,wr,H1,⟨H2,rfl,rfl,hw,hK⟩,hs⟩:=stepM_op hc h (gOK_spec hg)
  exact ⟨.rs z els,rd,wr,(d,.dead)::H2,hs.frz hw,hK⟩
theorem rs_bslf {e z len:Nat} {zero l:List AV} {els:List (List AV)} {ps:List (Nat×Arg)} (hg:gOK F g=true) (hf:fillS F z (reps len zero) ps=some l) (hz:zero.length=z) (hd:get H d=none) (he:chunks z len l=els) (hn:els.length=len) (hfl:Q7 l=true)
  (h:RS P N ml ((d,.rs z els)::F) ((d,.dead)::H) (fun fps=>K (([],[d])::fps))):RS P N (⟨some d,.bslice e z zero len ps,g,pre⟩::ml) F H K :=
 rs_opf (d:=d) (e:=e) (z:=z) (els:=els) hg (by subst hn; simp only [mev,hf]; exact ⟨hz,hd,H,rfl,by rw [he,hfl]; rfl,by simp,h⟩)
theorem rs_appf {α:Type} {f:α->List AV} {ys:List α} {e z by_ i n:Nat} {zero:List AV} {s x:Arg} {v:AV} {rd:List Nat} (hg:gOK F g=true) (hs:Qj F s=some (.sl i 0 0)) (hx:Qj F x=some v) (hi:get H i=some (.cells e z [] true)) (hsrc:JT H z v=some (rd,ys.map f))
  (hz:zero.length=z) (hd:get H d=none) (hird:i ∉ rd) (hl:∀ y,(f y).length=z) (hn:ys.length=n) (hb:n*by_<=140737488355328) (h63:n<=9223372036854775807) (hfl:∀ y,Q7 (f y)=true)
  (h:RS P N ml ((d,.rs z (ys.map f))::F) ((d,.dead)::(i,.dead)::H) (fun fps=>K ((rd,[i,d])::fps))):RS P N (⟨some d,.app e z by_ zero s x,g,pre⟩::ml) F H K :=
 rs_opf (d:=d) (e:=e) (z:=z) (els:=ys.map f) hg (by
  simp only [mev,hs,hx,hi,hsrc]
  exact ⟨hz,hd,trivial,trivial,fun el hel=>by obtain ⟨y,_,rfl⟩:=List.mem_map.1 hel; exact hl y,by rw [List.length_map]; simpa [hn] using hb,by rw [List.length_map]; simpa [hn] using h63,
   .inl ⟨rfl,hird,(i,.dead)::H,by simp,by rw [flat_map hfl]; rfl,by simp,h⟩⟩)
end
end Go.Proofs.YthfhaoogcpfboaaGreat
namespace Go.Proofs.YthfhaoogcpfboaaGreat
open Go.RowKit Go.WideShapes Go.ChangeShapes Go.ChangeAt
inductive Sh where
 | int (k:IntKind)
 | bool
 | str
 | sl (z:Nat) (s:Sh)
 | st (ss:List Sh)
 | arr (n:Nat) (s:Sh)
mutual
def okSh (P:Program):Sh->TypeId->Bool
 | .int k,t=>match P.underlying t with | some (.int k')=>decide (k'=k)&&decide (P.cellsOf t=1) | _=>false
 | .bool,t=>match P.underlying t with | some .bool=>decide (P.cellsOf t=1) | _=>false
 | .str,t=>match P.underlying t with | some .string=>decide (P.cellsOf t=1) | _=>false
 | .sl z s,t=>match P.underlying t with | some (.slice e)=>decide (P.cellsOf t=1)&&decide (P.cellsOf e=z)&&decide (z≠0)&&decide (P.bytesOf e≠0)&&okSh P s e | _=>false
 | .st ss,t=>match P.underlying t with | some (.struct fs)=>okFs P ss fs.toList 0 (P.cellsOf t) | _=>false
 | .arr n s,t=>match P.underlying t with | some (.array n' e)=>decide (n'=n)&&decide (P.cellsOf t=n*P.cellsOf e)&&okSh P s e | _=>false
def okFs (P:Program):List Sh->List Field->Nat->Nat->Bool
 | [],[],o,n=>decide (o=n)
 | s::ss,f::fs,o,n=>decide (f.offset=o)&&okSh P s f.type&&okFs P ss fs (o+P.cellsOf f.type) n
 | _,_,_,_=>false
end
section
variable {H:Type}
mutual
def avD:Sh->DataW H->List AV
 | .int k,.lit (.int _ n)=>[.int k n]
 | .bool,.lit (.bool b)=>[.bool b]
 | .str,.lit (.string l)=>[.str ⟨l.toArray⟩]
 | .sl z _,.nil=>[.rs z []]
 | .sl z s,.slice els _=>[.rs z (els.map (avD s))]
 | .st ss,.agg ps=>avFs ss ps
 | .arr _ s,.agg ps=>ps.flatMap (avD s)
 | _,_=>[]
def avFs:List Sh->List (DataW H)->List AV
 | s::ss,d::ds=>avD s d++avFs ss ds
 | _,_=>[]
end
mutual
def Gd:Sh->DataW H->Prop
 | .int k,d=>∃ n,d = .lit (.int k n)/\(Lit.int k n).wf=true
 | .bool,d=>∃ b,d = .lit (.bool b)
 | .str,d=>∃ l,d = .lit (.string l)/\l.length<=140737488351232
 | .sl _ s,d=>d = .nil\/∃ els sp,d = .slice els sp/\els.length<=140737488351232/\∀ x,x∈els->Gd s x
 | .st ss,d=>∃ ps,d = .agg ps/\GdFs ss ps
 | .arr n s,d=>∃ ps,d = .agg ps/\ps.length=n/\∀ x,x∈ps->Gd s x
def GdFs:List Sh->List (DataW H)->Prop
 | [],ds=>ds=[]
 | s::ss,ds=>∃ d r,ds=d::r/\Gd s d/\GdFs ss r
end
abbrev Sall (w:World):Nat->Prop:=fun b=>b<w.heap.size
def Vs (w:World) (l:List AV) (cs:List Value):Prop :=
 l.length=cs.length/\∀ (j:Nat) (v:AV),l[j]?=some v->∃ c,cs[j]?=some c/\c.oneCell'=true/\CR w (Sall w) v c
theorem Vs.nil {w:World}:Vs w [] []:=⟨rfl,fun j v h=>by simp at h⟩
theorem Vs.one {w:World} {v:AV} {c:Value} (h:c.oneCell'=true) (hc:CR w (Sall w) v c):Vs w [v] [c]:=⟨rfl,fun j u hu=>by
 cases j with
 | zero=>simp at hu; subst hu; exact ⟨c,rfl,h,hc⟩
 | succ j=>simp at hu⟩
theorem Vs.append {w:World} {a b:List AV} {x y:List Value} (h:Vs w a x) (k:Vs w b y):Vs w (a++b) (x++y):=by
 refine ⟨by simp [h.1,k.1],fun j v hv=>?_⟩
 by_cases hj:j<a.length
 ·rw [List.getElem?_append_left hj] at hv
  rw [List.getElem?_append_left (by rw [← h.1]; exact hj)]
  exact h.2 j v hv
 ·rw [List.getElem?_append_right (by omega)] at hv
  rw [List.getElem?_append_right (by rw [← h.1]; omega),← h.1]
  exact k.2 _ v hv
section
variable {enc:TypeId×Value->H} {P:Program} {w:World} {base:Nat} {spare:Nat->Bool} {held:Bool}
theorem fields_av {n:Nat} (IH:∀ (s:Sh) (t:TypeId) (cs:List Value) (x:DataW H×List MemPlace),okSh P s t=true->(∀ n∈DataW.weights P t x.1,n<=140737488351232)->DataW.trod enc P w base spare held n t cs=some x->Gd s x.1/\cs.length=P.cellsOf t/\Vs w (avD s x.1) cs)
  (cs:List Value):∀ (ss:List Sh) (fs:List Field) (o:Nat) (xs:List (DataW H×List MemPlace)),okFs P ss fs o cs.length=true->xs.length=fs.length->o<=cs.length->(∀ n∈DataW.weightsEach P (fs.map (·.type)) (xs.map (·.1)),n<=140737488351232) →
   (∀ (i:Nat) (f:Field),fs[i]?=some f->DataW.trod enc P w base spare held n f.type ((cs.drop f.offset).take (P.cellsOf f.type))=xs[i]?) →
   GdFs ss (xs.map (·.1))/\Vs w (avFs ss (xs.map (·.1))) (cs.drop o)
 | [],[],o,xs,h,hl,_,_,_=>by
  have:xs=[]:=List.length_eq_zero_iff.1 (by simpa using hl)
  subst this
  simp only [okFs,decide_eq_true_eq] at h
  rw [h,List.drop_length]
  exact ⟨rfl,Vs.nil⟩
 | [],_::_,_,_,h,_,_,_,_=>by simp [okFs] at h
 | _::_,[],_,_,h,_,_,_,_=>by simp [okFs] at h
 | s::ss,f::fs,o,xs,h,hl,ho,hw,hx=>by
  simp only [okFs,Bool.and_eq_true,decide_eq_true_eq] at h
  obtain ⟨⟨h1,h2⟩,h3⟩:=h
  match xs,hl,hw with
  | x::xs,hl,hw =>
   simp only [List.map_cons,DataW.weightsEach,List.mem_append] at hw
   have e0:=hx 0 f rfl
   simp only [List.getElem?_cons_zero] at e0
   obtain ⟨g1,g2,g3⟩:=IH s f.type _ x h2 (fun n hn=>hw n (.inl hn)) e0
   rw [h1] at g2 g3
   have g4:P.cellsOf f.type<=cs.length-o:=by
    rw [List.length_take,List.length_drop] at g2; omega
   obtain ⟨q1,q2⟩:=fields_av IH cs ss fs (o+P.cellsOf f.type) xs h3 (by simpa using hl) (by omega) (fun n hn=>hw n (.inr hn)) fun i f' hf=>by
    have:=hx (i+1) f' (by simpa using hf)
    simpa using this
   refine ⟨⟨_,_,rfl,g1,q1⟩,?_⟩
   have e:cs.drop o=(cs.drop o).take (P.cellsOf f.type)++cs.drop (o+P.cellsOf f.type):=by
    rw [← List.drop_drop,List.take_append_drop]
   rw [e]
   exact g3.append q2
theorem elems_av {m:Nat} {s:Sh} {e:TypeId} (IH:∀ (cs:List Value) (x:DataW H×List MemPlace),(∀ n∈DataW.weights P e x.1,n<=140737488351232)->DataW.trod enc P w base spare held m e cs=some x->Gd s x.1/\cs.length=P.cellsOf e/\Vs w (avD s x.1) cs) :
  ∀ (xs:List (DataW H×List MemPlace)) (cs:List Value),cs.length=xs.length*P.cellsOf e->(∀ n∈DataW.weightsAll P e (xs.map (·.1)),n<=140737488351232) →
   (∀ (i:Nat),i<xs.length->DataW.trod enc P w base spare held m e ((cs.drop (i*P.cellsOf e)).take (P.cellsOf e))=xs[i]?) →
   (∀ d,d∈xs.map (·.1)->Gd s d)/\Vs w ((xs.map (·.1)).flatMap (avD s)) cs
 | [],cs,hl,_,_=>by
  have:cs=[]:=List.length_eq_zero_iff.1 (by simpa using hl)
  subst this
  exact ⟨fun d h=>by simp at h,Vs.nil⟩
 | x::xs,cs,hl,hw,hx=>by
  simp only [List.map_cons,DataW.weightsAll,List.mem_append] at hw
  have e0:=hx 0 (by simp)
  simp only [Nat.zero_mul,List.drop_zero,List.getElem?_cons_zero] at e0
  obtain ⟨g1,g2,g3⟩:=IH _ x (fun n hn=>hw n (.inl hn)) e0
  have hl':(cs.drop (P.cellsOf e)).length=xs.length*P.cellsOf e:=by
   rw [List.length_drop,hl,List.length_cons,Nat.add_mul]; omega
  obtain ⟨q1,q2⟩:=elems_av IH xs (cs.drop (P.cellsOf e)) hl' (fun n hn=>hw n (.inr hn)) fun i hi=>by
   have:=hx (i+1) (by simpa using hi)
   rw [List.getElem?_cons_succ] at this
   rw [← this,List.drop_drop,Nat.add_mul,Nat.one_mul,Nat.add_comm]
  refine ⟨fun d hd=>?_,?_⟩
  ·simp only [List.map_cons,List.mem_cons] at hd
   rcases hd with rfl | hd
   ·exact g1
   ·exact q1 d hd
  ·rw [← List.take_append_drop (P.cellsOf e) cs]
   simp only [List.map_cons,List.flatMap_cons]
   exact g3.append q2
theorem weights_all {e:TypeId}:∀ {l:List (DataW H)} {y:DataW H},y∈l->∀ n∈DataW.weights P e y,n∈DataW.weightsAll P e l
 | a::l,y,hy,n,hn=>by
  simp only [DataW.weightsAll,List.mem_append]
  rcases List.mem_cons.1 hy with rfl | hy
  ·exact .inl hn
  ·exact .inr (weights_all hy n hn)
theorem cell_spot {a:Addr} {v:Value} (h:w.cell? a=some v):a.spot=none:=by
 unfold World.cell? at h
 split at h
 ·split at h
  ·cases h
  ·rename_i h'; simpa using h'
 ·cases h
theorem trod_av:∀ (fuel:Nat) (s:Sh) (t:TypeId) (cs:List Value) (x:DataW H×List MemPlace),okSh P s t=true->(∀ n∈DataW.weights P t x.1,n<=140737488351232)->DataW.trod enc P w base spare held fuel t cs=some x->Gd s x.1/\cs.length=P.cellsOf t/\Vs w (avD s x.1) cs:=by
 intro fuel
 induction fuel with
 | zero=>intro s t cs x _ _ h; simp [DataW.trod] at h
 | succ n ih =>
  intro s t cs x hs hw h
  cases s with
  | int k =>
   simp only [okSh] at hs
   split at hs
   ·rename_i k' hk
    simp only [Bool.and_eq_true,decide_eq_true_eq] at hs
    obtain ⟨rfl,h1⟩:=hs
    obtain ⟨m,rfl,rfl,hwf⟩:=DataW.trod_int hk h
    refine ⟨by simp only [Gd]; exact ⟨m,rfl,hwf⟩,by simp [h1],?_⟩
    simp only [avD]
    exact Vs.one rfl (.int _ _)
   ·cases hs
  | bool =>
   simp only [okSh] at hs
   split at hs
   ·rename_i hk
    simp only [decide_eq_true_eq] at hs
    obtain ⟨b,rfl,rfl⟩:=DataW.trod_bool hk h
    refine ⟨by simp only [Gd]; exact ⟨b,rfl⟩,by simp [hs],?_⟩
    simp only [avD]
    exact Vs.one rfl (.bool _)
   ·cases hs
  | str =>
   simp only [okSh] at hs
   split at hs
   ·rename_i hk
    simp only [decide_eq_true_eq] at hs
    obtain ⟨b,rfl,rfl,hb⟩:=DataW.trod_string hk h
    refine ⟨by simp only [Gd]; exact ⟨_,rfl,hw _ (by simp [DataW.weights])⟩,by simp [hs],?_⟩
    simp only [avD]
    exact Vs.one rfl (.str _)
   ·cases hs
  | sl z s =>
   simp only [okSh] at hs
   split at hs
   ·rename_i e hk
    simp only [Bool.and_eq_true,decide_eq_true_eq] at hs
    obtain ⟨⟨⟨⟨h1,h2⟩,h3⟩,h5⟩,h4⟩:=hs
    rcases DataW.trod_slice hk h with ⟨rfl,rfl⟩ | ⟨a,len,cap,elems,rest,m,hm,rfl,rfl,hb,hl,hmx,hlen,hel,_,_⟩
    ·refine ⟨by simp only [Gd]; exact .inl trivial,by simp [h1],?_⟩
     simp only [avD]
     exact Vs.one rfl (.rs0 _ _ _)
    ·obtain rfl:n=m:=by omega
     simp only [DataW.weights,hk,List.mem_cons,List.mem_append] at hw
     have hwe:∀ y∈elems.map (·.1),∀ n∈DataW.weights P e y,n<=140737488351232:=fun y hy n hn=>hw n (.inr (.inl (weights_all hy n hn)))
     have hsz:len<=140737488351232:=by
      have h1:=hw _ (.inl rfl)
      simp only [List.length_map,hlen] at h1
      have h2:1<=P.bytesOf e:=by omega
      have h3:=Nat.mul_le_mul_left (len+rest.length) h2
      omega
     have each:∀ i y,elems[i]?=some y->∃ cs',w.cells? base (a.add (i*z)) z=some cs'/\Gd s y.1/\cs'.length=z/\Vs w (avD s y.1) cs':=by
      intro i y hy
      have hi:i<len:=by rw [← hlen]; exact (List.getElem?_eq_some_iff.1 hy).1
      have:=hel i hi
      rw [hy,h2,Option.bind_eq_some_iff] at this
      obtain ⟨cs',q1,q2⟩:=this
      obtain ⟨r1,r2,r3⟩:=ih s e cs' y h4 (hwe _ (List.mem_map.2 ⟨y,List.mem_of_getElem? hy,rfl⟩)) q2
      exact ⟨cs',q1,r1,r2.trans h2,r3⟩
     refine ⟨?_,by simp [h1],?_⟩
     ·simp only [Gd]
      refine .inr ⟨_,_,rfl,by simpa [hlen] using hsz,fun d hd=>?_⟩
      obtain ⟨y,hy,rfl⟩:=List.mem_map.1 hd
      obtain ⟨i,hi⟩:=List.getElem?_of_mem hy
      obtain ⟨_,_,g,_⟩:=each i y hi
      exact g
     ·simp only [avD]
      refine Vs.one rfl ?_
      by_cases h0:len=0
      ·have:elems=[]:=List.length_eq_zero_iff.1 (by omega)
       subst this
       subst h0
       exact .rs0 _ _ _
      ·have hy0:elems[0]?=some elems[0]:=by simp
       obtain ⟨cs0,c1,_,c2,_⟩:=each 0 _ hy0
       obtain ⟨_,_,c3⟩:=World.cells?_some c1
       have c4:=c3 0 (by omega)
       have hc0:cs0[0]?=some cs0[0]:=by simp
       rw [hc0] at c4
       have e0:(a.add (0*z)).add 0=a:=by simp [Addr.add]
       rw [e0] at c4
       have hsp:=cell_spot c4
       have hbk:=World.block_lt_of_cell? w _ c4
       obtain ⟨ab,ao,as⟩:=a
       simp only at hsp
       subst hsp
       have hadd:∀ j o,((⟨ab,ao,none⟩:Addr).add (j*z)).add o=⟨ab,ao+j*z+o,none⟩:=by
        intro j o
        unfold Addr.add
        split <;> split <;> simp_all [Nat.add_assoc]
       have main:∀ (j:Nat) (el:List AV) (o:Nat) (v:AV),((elems.map (·.1)).map (avD s))[j]?=some el->el[o]?=some v →
         ∃ c,w.cell? ⟨ab,ao+j*z+o,none⟩=some c/\c.oneCell'=true/\CR w (Sall w) v c:=by
        intro j el o v he hv
        simp only [List.map_map,List.getElem?_map,Option.map_eq_some_iff] at he
        obtain ⟨y,hy,rfl⟩:=he
        obtain ⟨cs',q1,_,q2,q3⟩:=each j y hy
        simp only [Function.comp] at hv
        obtain ⟨c,r1,r2,r3⟩:=q3.2 o v hv
        have ho:o<z:=by rw [← q2]; exact (List.getElem?_eq_some_iff.1 r1).1
        obtain ⟨_,_,p3⟩:=World.cells?_some q1
        have p4:=p3 o ho
        rw [r1,hadd] at p4
        exact ⟨c,p4,r2,r3⟩
       have hln:((elems.map (·.1)).map (avD s)).length=len:=by simp [hlen]
       have key:=CR.rs (w:=w) (S:=Sall w) z ((elems.map (·.1)).map (avD s)) ab ao cap (fun j o=>(w.cell? ⟨ab,ao+j*z+o,none⟩).getD undef) hbk (by rw [hln]; exact hl)
        (fun j el o v he hv=>by obtain ⟨c,r1,r2,_⟩:=main j el o v he hv; simp only [r1,Option.getD_some]; exact ⟨trivial,r2⟩)
        (fun j el o v he hv=>by obtain ⟨c,r1,_,r2⟩:=main j el o v he hv; simp only [r1,Option.getD_some]; exact r2)
       rw [hln] at key
       exact key
   ·cases hs
  | st ss =>
   simp only [okSh] at hs
   split at hs
   ·rename_i fs hk
    obtain ⟨xs,m,hm,rfl,hl,hlen,hf⟩:=DataW.trod_struct hk h
    obtain rfl:n=m:=by omega
    rw [← hl] at hs
    obtain ⟨q1,q2⟩:=fields_av ih cs ss fs.toList 0 xs hs (by simpa using hlen) (Nat.zero_le _) (by simp only [DataW.weights,hk] at hw; exact hw) fun i f hi=>hf i f (by simpa using hi)
    refine ⟨by simp only [Gd]; exact ⟨_,rfl,q1⟩,hl,?_⟩
    simp only [avD]
    simpa using q2
   ·cases hs
  | arr k s =>
   simp only [okSh] at hs
   split at hs
   ·rename_i k' e hk
    simp only [Bool.and_eq_true,decide_eq_true_eq] at hs
    obtain ⟨⟨rfl,h1⟩,h2⟩:=hs
    obtain ⟨xs,m,hm,rfl,hl,hlen,hf⟩:=DataW.trod_array hk h
    obtain rfl:n=m:=by omega
    obtain ⟨q1,q2⟩:=elems_av (fun cs x hn hx=>ih s e cs x h2 hn hx) xs cs (by rw [hl,h1,hlen]) (by simp only [DataW.weights,hk] at hw; exact hw) fun i hi=>hf i (by omega)
    refine ⟨by simp only [Gd]; exact ⟨_,rfl,by simp [hlen],q1⟩,hl,?_⟩
    simp only [avD]
    exact q2
   ·cases hs
def argA (s:Sh) (d:DataW H):AV:=match s with
 | .st _=>.agg (avD s d)
 | .arr _ _=>.agg (avD s d)
 | _=>(avD s d).headD .und
theorem one_cells {v:Value} {t:TypeId} {r:Go.Reach} (hu:∀ fs n e,P.underlying t≠some (.struct fs)/\P.underlying t≠some (.array n e)) (h:Value.okWide P w r base t v):v.cells = #[v]:=by
 unfold Value.okWide at h
 split at h
 ·rename_i fs hh; exact absurd hh (hu _ 0 0).1
 ·rename_i hh; exact absurd hh (hu #[] _ _).2
 ·cases v <;> first | rfl | (unfold Cell.okWide Cell.ok at h; split at h <;> simp_all)
theorem arg_av {s:Sh} {t:TypeId} {r:Go.Reach} {base':Nat} {v:Value} {d:DataW H} {ps:List MemPlace} (hs:okSh P s t=true) (hv:Value.okWide P w r base' t v) (hw:∀ n∈DataW.weights P t d,n<=140737488351232) (h:DataW.Trod enc P w base spare held t v d ps) :
  Gd s d/\CR w (Sall w) (argA s d) v:=by
 obtain ⟨fuel,hf⟩:=h
 obtain ⟨g1,g2,g3⟩:=trod_av fuel s t _ (d,ps) hs hw hf
 refine ⟨g1,?_⟩
 have hone:(∀ fs n e,P.underlying t≠some (.struct fs)/\P.underlying t≠some (.array n e))->CR w (Sall w) ((avD s d).headD .und) v:=fun hu=>by
  have e:=one_cells (w:=w) (r:=r) hu hv
  rw [e] at g3
  obtain ⟨l1,l2⟩:=g3
  match hl:avD s d,l1 with
  | [u],_ =>
   obtain ⟨c,hc,_,q⟩:=l2 0 u (by simp [hl])
   simp at hc; subst hc
   exact q
 have hagg:(∃ cs,v = .agg cs)->CR w (Sall w) (.agg (avD s d)) v:=fun ⟨cs,e⟩=>by
  subst e
  refine .agg _ cs (by simpa [Value.cells] using g3.1.symm) (fun j u hu=>?_) (fun j u hu=>?_)
  ·obtain ⟨c,hc,q,_⟩:=g3.2 j u hu
   have:cs[j]?=some c:=by simpa [Value.cells] using hc
   simp [this,q]
  ·obtain ⟨c,hc,_,q⟩:=g3.2 j u hu
   have:cs[j]?=some c:=by simpa [Value.cells] using hc
   simp [this,q]
 cases s with
 | st ss =>
  simp only [okSh] at hs
  split at hs
  ·rename_i fs hk
   refine hagg ?_
   unfold Value.okWide at hv
   rw [hk] at hv
   obtain ⟨cs,e,_⟩:=hv
   exact ⟨cs,e⟩
  ·cases hs
 | arr n s =>
  simp only [okSh] at hs
  split at hs
  ·rename_i hk
   refine hagg ?_
   unfold Value.okWide at hv
   rw [hk] at hv
   obtain ⟨cs,e,_⟩:=hv
   exact ⟨cs,e⟩
  ·cases hs
 | _ =>
  refine hone fun fs n e=>?_
  simp only [okSh] at hs
  split at hs
  ·rename_i hk; rw [hk]; exact ⟨by simp,by simp⟩
  ·cases hs
end
theorem rd_int {k:IntKind} (d:DataW H) (h:Gd (.int k) d):∃ n:Int,(Lit.int k n).wf=true/\avD (.int k) d=[.int k n]:=by
 simp only [Gd] at h
 obtain ⟨n,rfl,hw⟩:=h
 exact ⟨n,hw,by simp only [avD]⟩
theorem rd_bool (d:DataW H) (h:Gd .bool d):∃ b:Bool,avD .bool d=[.bool b]:=by
 simp only [Gd] at h
 obtain ⟨n,rfl⟩:=h
 exact ⟨n,by simp only [avD]⟩
theorem rd_list {α:Type} {s:Sh} (R:α->Prop) (f:α->List AV) (hs:∀ d:DataW H,Gd s d->∃ x,R x/\avD s d=f x):∀ els:List (DataW H),(∀ x,x∈els->Gd s x) →
  ∃ xs:List α,xs.length=els.length/\(∀ x∈xs,R x)/\els.map (avD s)=xs.map f
 | [],_=>⟨[],rfl,fun x h=>by simp at h,rfl⟩
 | d::els,h=>by
  obtain ⟨x,h1,h2⟩:=hs d (h d (by simp))
  obtain ⟨xs,q1,q2,q3⟩:=rd_list R f hs els fun x hx=>h x (by simp [hx])
  exact ⟨x::xs,by simp [q1],fun y hy=>by
   rcases List.mem_cons.1 hy with rfl | hy
   ·exact h1
   ·exact q2 y hy,by simp [h2,q3]⟩
theorem rd_sl {α:Type} {z:Nat} {s:Sh} (R:α->Prop) (f:α->List AV) (hs:∀ d:DataW H,Gd s d->∃ x,R x/\avD s d=f x) (d:DataW H) (h:Gd (.sl z s) d) :
  ∃ xs:List α,(xs.length<=140737488351232/\∀ x∈xs,R x)/\avD (.sl z s) d=[.rs z (xs.map f)]:=by
 simp only [Gd] at h
 rcases h with rfl | ⟨els,sp,rfl,hl,hg⟩
 ·exact ⟨[],⟨by simp,fun x h=>by simp at h⟩,by simp [avD]⟩
 ·obtain ⟨xs,q1,q2,q3⟩:=rd_list R f hs els hg
  exact ⟨xs,⟨by omega,q2⟩,by simp only [avD]; rw [q3]⟩
theorem rd_arr {α:Type} {n:Nat} {s:Sh} (R:α->Prop) (f:α->List AV) (hs:∀ d:DataW H,Gd s d->∃ x,R x/\avD s d=f x) (d:DataW H) (h:Gd (.arr n s) d) :
  ∃ xs:List α,(xs.length=n/\∀ x∈xs,R x)/\avD (.arr n s) d=xs.flatMap f:=by
 simp only [Gd] at h
 obtain ⟨ps,rfl,hl,hg⟩:=h
 obtain ⟨xs,q1,q2,q3⟩:=rd_list R f hs ps hg
 exact ⟨xs,⟨by omega,q2⟩,by simp only [avD]; rw [List.flatMap_def,q3,List.flatMap_def]⟩
theorem gd_len:∀ (ss:List Sh) (ds:List (DataW H)),GdFs ss ds->ds.length=ss.length
 | [],ds,h=>by simp only [GdFs] at h; subst h; rfl
 | s::ss,ds,h=>by
  simp only [GdFs] at h
  obtain ⟨d,r,rfl,_,h2⟩:=h
  simp [gd_len ss r h2]
theorem rd_nil (ds:List (DataW H)) (h:GdFs [] ds):avFs [] ds=[]:=by simp only [GdFs] at h; subst h; simp [avFs]
theorem rd_cons {s:Sh} {ss:List Sh} (ds:List (DataW H)) (h:GdFs (s::ss) ds):∃ (d:DataW H) (r:List (DataW H)),Gd s d/\GdFs ss r/\avFs (s::ss) ds=avD s d++avFs ss r:=by
 simp only [GdFs] at h
 obtain ⟨d,r,rfl,h1,h2⟩:=h
 exact ⟨d,r,h1,h2,by simp only [avFs]⟩
theorem rd_st {ss:List Sh} (d:DataW H) (h:Gd (.st ss) d):∃ ps:List (DataW H),GdFs ss ps/\avD (.st ss) d=avFs ss ps:=by
 simp only [Gd] at h
 obtain ⟨ps,rfl,h1⟩:=h
 exact ⟨ps,h1,by simp only [avD]⟩
end
def argAs {H:Type}:List Sh->List (DataW H)->List AV
 | s::ss,d::ds=>argA s d::argAs ss ds
 | _,_=>[]
def okShs (P:Program):List Sh->List TypeId->Bool
 | [],[]=>true
 | s::ss,t::ts=>okSh P s t&&decide (P.readableRec t=true)&&decide (t<P.types.size)&&okShs P ss ts
 | _,_=>false
theorem hrf_start (w:World):HRF w (Sall w) (fun _=>none) (get []) :=
 ⟨fun _ h=>h,fun _ _=>rfl,⟨fun i o _ h=>by simp [get] at h,fun i j oi oj b z z' c c' _ _ _ h=>by simp [get] at h⟩⟩
theorem fc_row {P:Program} {f:FuncId} {args:List AV} {r:AV} {al:Bool} {c:Value} (h:FC P f args [] r [] al) {w:World} {cargs:Array Value} (ha:VRs w (Sall w) (fun _=>none) args cargs) (hr:∀ (w':World) S ρ cv,VR w' S ρ r cv->cv=c) :
  Calls P f cargs w fun e w'=>e = .returned c/\Below w.heap.size w w' :=
 (h w (Sall w) (fun _=>none) cargs (hrf_start w) ha).mono fun e w' ⟨cv,S',ρ',he,hv,_,hk,_⟩=>by
  have hc:=hr w' S' ρ' cv hv
  subst hc
  refine ⟨he,hk.os,hk.tape,hk.output,hk.size,fun k hlt=>hk.block k hlt ?_⟩
  rintro ⟨i,ob,z,cap,_,h0,_⟩
  simp [get] at h0
section
variable {H:Type} {enc:TypeId×Value->H} {P:Program} {W:World} {base:Nat} {r:Go.Reach}
theorem args_av:∀ (ss:List Sh) (ts:List TypeId) (vs:List Value) (ds:List (DataW H)) (p:List MemPlace),okShs P ss ts=true->DataW.TrodAll enc P W 0 (fun _=>true) true ts vs ds p →
  (∀ (j:Nat) (t:TypeId) (v:Value),ts[j]?=some t->vs[j]?=some v->Value.okWide P W r base t v)->(∀ n∈DataW.weightsEach P ts ds,n<=140737488351232) →
  GdFs ss ds/\(argAs ss ds).length=vs.length/\∀ (j:Nat) (a:AV) (c:Value),(argAs ss ds)[j]?=some a->vs[j]?=some c->CR W (Sall W) a c
 | [],[],vs,ds,p,_,h,_,_=>by
  obtain ⟨rfl,rfl,rfl⟩:=trodAll_nil h
  exact ⟨rfl,rfl,fun j a c h=>by simp [argAs] at h⟩
 | [],_::_,_,_,_,h,_,_,_=>by simp [okShs] at h
 | _::_,[],_,_,_,h,_,_,_=>by simp [okShs] at h
 | s::ss,t::ts,vs,ds,p,h,hA,hv,hw=>by
  obtain ⟨v,vs,d,ds,p0,q0,rfl,rfl,rfl,h0,r0⟩:=trodAll_cons hA
  simp only [okShs,Bool.and_eq_true] at h
  simp only [DataW.weightsEach,List.mem_append] at hw
  obtain ⟨g1,g2⟩:=arg_av (r:=r) (base':=base) (v:=v) (d:=d) (ps:=p0) (enc:=enc) (w:=W) h.1.1.1 (hv 0 t v rfl rfl) (fun n hn=>hw n (.inl hn)) h0
  obtain ⟨q1,q2,q3⟩:=args_av ss ts vs ds q0 h.2 r0 (fun j t v h1 h2=>hv (j+1) t v (by simpa using h1) (by simpa using h2)) fun n hn=>hw n (.inr hn)
  refine ⟨⟨_,_,rfl,g1,q1⟩,by simp [argAs,q2],fun j a c ha hc=>?_⟩
  cases j with
  | zero=>simp [argAs] at ha hc; subst ha; subst hc; exact g2
  | succ j=>exact q3 j a c (by simpa [argAs] using ha) (by simpa using hc)
theorem args_back (hl:laidOutB P=true) {W':World} (hb:Below W.heap.size W W'):∀ (ss:List Sh) (ts:List TypeId) (vs:List Value) (ds:List (DataW H)) (p:List MemPlace),okShs P ss ts=true->DataW.TrodAll enc P W 0 (fun _=>true) true ts vs ds p →
  DataW.TrodAll enc P W' 0 (fun b=>decide (b<W.heap.size)) true ts vs ds p
 | [],[],vs,ds,p,_,h=>by
  obtain ⟨rfl,rfl,rfl⟩:=trodAll_nil h
  exact trodAll_mk0
 | [],_::_,_,_,_,h,_=>by simp [okShs] at h
 | _::_,[],_,_,_,h,_=>by simp [okShs] at h
 | s::ss,t::ts,vs,ds,p,h,hA=>by
  obtain ⟨v,vs,d,ds,p0,q0,rfl,rfl,rfl,h0,r0⟩:=trodAll_cons hA
  simp only [okShs,Bool.and_eq_true,decide_eq_true_eq] at h
  have lt0:∀ x∈p0,x.block<W.heap.size:=by obtain ⟨m,hm⟩:=h0; exact DataW.trod_lt m _ _ _ hm
  exact trodAll_cons_mk (Below.trod hl h.1.1.2 h.1.2 h0 hb lt0) (args_back hl hb ss ts vs ds q0 h.2 r0)
end
theorem law_row {C:Checked} {os:Os} {f:FuncId} {fn:Func} {s:ChangeSpec} {H:Type} {enc:TypeId×Value->H} {tb:TypeId} {apart:Bool} (own:ownKnob C.prog.godebug=none) (started:os.Started) (noInit:C.prog.inits.idxOf? f=none) (hfn:C.prog.funcs[f]?=some fn)
  (hl:laidOutB C.prog=true) (hvars:s.vars=[]) (hr:fn.resultTypes = #[tb]) (htb:C.prog.underlying tb=some .bool) (ss:List Sh) (hss:okShs C.prog ss fn.params.toList=true)
  (hspec:∀ ds:List (DataW H),ds.length=ss.length->s.fn H ds={ results:=[.lit (.bool true)],args:=ds,vars:=[] })
  (witness:∃ (w:World) (tape:Tape) (i:Input),w.os=os/\(w.forCall tape i).Shaped C.prog/\i.vars=[]/\Input.okWide C.prog (w.forCall tape i) .any w.heap.size f i ∧
   s.pre6 enc C.prog fn [] apart (w.forCall tape i).memory i.args/\({}:Assume).holds C.prog (lone (Frame.enter C.prog f i.args .normal) [] (w.forCall tape i)))
  (hfc:∀ ds:List (DataW H),GdFs ss ds->∃ al,FC C.prog f (argAs ss ds) [] (.bool true) [] al) :
  ReturnsInHanded {} C os f .any (s.pre6 enc C.prog fn [] apart) (s.post enc C.prog fn apart true false false):=by
 refine returnsInHanded_of_change_sized (C:=C) own started noInit hfn witness ?_
 intro W base args ds gs before hval hW _ hsz _
 have hW':=hW
 obtain ⟨p,q,hA,hV,rfl,hfz,hnd⟩:=hW
 rw [hvars] at hV
 obtain ⟨rfl,rfl⟩:=trodVars_none hV
 have hw:∀ n∈DataW.weightsEach C.prog fn.params.toList ds,n<=140737488351232:=fun n hn=>by
  have hvt:s.plain.varTypes C.prog=[]:=by
   show DataSpec.varTypes C.prog s.plain=[]
   unfold DataSpec.varTypes
   simp [ChangeSpec.plain,hvars]
  rw [hvt] at hsz
  simp only [List.append_nil] at hsz
  have:=List.all_eq_true.1 hsz n hn
  exact (of_decide_eq_true this:n<=reachBytes)
 obtain ⟨g1,g2,g3⟩:=args_av (r:=.any) (base:=base) ss fn.params.toList args.toList ds p hss hA (fun j t v h1 h2=>hval j t v (by simpa using h1) (by simpa using h2)) hw
 obtain ⟨al,hc⟩:=hfc ds g1
 have hvr:VRs W (Sall W) (fun _=>none) (argAs ss ds) args:=⟨by simpa using g2.symm,fun j v hv=>.cl (by
  have hj:j<args.size:=by
   have:=(List.getElem?_eq_some_iff.1 hv).1
   rw [g2] at this; simpa using this
  have e:args.getD j undef=args[j]:=by simp [hj]
  rw [e]
  exact g3 j v _ hv (by simp [hj]))⟩
 refine (fc_row (c:=.bool true) hc hvr fun w' S ρ cv hv=>hv.bool_inv).mono fun e W' ⟨he,bel⟩=>?_
 subst he
 have hln:ds.length=ss.length:=gd_len ss ds g1
 have hsp:=hspec ds hln
 have hps:DataW.TrodAll enc C.prog W' W.heap.size (fun _=>false) false fn.resultTypes.toList ((Value.bool true).resultList fn.resultTypes.size) [.lit (.bool true)] []:=by
  rw [hr]
  exact trodAll_mk1 (shut_bool htb _)
 refine ⟨_,rfl,ds,[],_,[],p,[],hW',?_,?_,?_,bel.frame _,fun h=>by cases h⟩
 ·rw [List.append_nil,hsp]; exact hps
 ·rw [List.append_nil,hsp]; exact args_back hl bel ss _ _ _ _ hss hA
 ·rw [List.append_nil,hsp,hvars]; rfl
end Go.Proofs.YthfhaoogcpfboaaGreat
namespace Go.Proofs.YthfhaoogcpfboaaGreat
open Go.RowKit
def ev1 (F:Fr) (H:Hp) (d:Nat):MOp->Option (AV×List Nat×List Nat×Hp)
 | .mv x=>match Qj F x with
  | some v=>some (v,[],[],H)
  | none=>none
 | .pick c a b=>match Qj F c with
  | some (.bool t)=>match Qj F (if t=true then a else b) with
   | some v=>some (v,[],[],H)
   | none=>none
  | _=>none
 | .alloc e z zero=>match Nat.beq zero.length z,get H d with
  | true,none=>some (.ptr d 0 0,[],[d],(d,.cells e z [zero] true)::H)
  | _,_=>none
 | .box e z x=>match Qj F x with
  | some v=>match J8 v with
   | some cs=>match Nat.beq cs.length z,get H d with
    | true,none=>some (.ptr d 0 0,[],[d],(d,.cells e z [cs] (Q7 cs))::H)
    | _,_=>none
   | none=>none
  | none=>none
 | .build zero ps=>match fillA F zero ps with
  | some cs=>some (.agg cs,[],[],H)
  | none=>none
 | .ld g n x=>match Qj F x with
  | some (.ptr i j o)=>match get H i with
   | some (.cells _ _ els _)=>match els[j]? with
    | some el=>match g with
     | true=>match Nat.ble (o+n) el.length with
      | true=>some (.agg ((el.drop o).take n),[i],[],H)
      | false=>none
     | false=>match el[o]? with
      | some v=>some (v,[i],[],H)
      | none=>none
    | none=>none
   | _=>none
  | some (.rp cs)=>match g with
   | true=>match Nat.ble n cs.length with
    | true=>some (.agg (cs.take n),[],[],H)
    | false=>none
   | false=>match cs[0]? with
    | some v=>some (v,[],[],H)
    | none=>none
  | _=>none
 | .st n x y=>match Qj F x,Qj F y with
  | some (.ptr i j o),some u=>match get H i,J8 u with
   | some (.cells e z els fl),some cs=>match els[j]? with
    | some el=>match Nat.beq cs.length n,Nat.ble (o+n) el.length with
     | true,true=>some (.und,[],[i],(i,.cells e z (els.set j (J9 el o cs)) (fl&&Q7 cs))::H)
     | _,_=>none
    | none=>none
   | _,_=>none
  | _,_=>none
 | .un .not x=>match Qj F x with
  | some (.bool b)=>some (.bool (!b),[],[],H)
  | _=>none
 | .mkfn fn caps=>match Ul F caps with
  | some vs=>some (.fn fn vs,[],[],H)
  | none=>none
 | .fa off x=>match Qj F x with
  | some (.ptr i j o)=>some (.ptr i j (o+off),[],[],H)
  | some (.rp cs)=>some (.rp (cs.drop off),[],[],H)
  | _=>none
 | .ext x i=>match Qj F x with
  | some (.tup vs)=>match vs[i]? with
   | some v=>some (v,[],[],H)
   | none=>none
  | _=>none
 | .bin .lss x y=>match Qj F x,Qj F y with
  | some (.int .i64 a),some (.int .i64 b)=>some (.bool (decide (a<b)),[],[],H)
  | _,_=>none
 | _=>none
theorem ev1_spec {F:Fr} {H:Hp} {d:Nat} {op:MOp} {v:AV} {rd wr:List Nat} {H1:Hp} (h:ev1 F H d op=some (v,rd,wr,H1)) {K:AV->List Nat->List Nat->Hp->Prop} (hK:K v rd wr H1):mev F H d K op:=by
 unfold ev1 at h
 split at h
 all_goals first | (cases h; done) | skip
 all_goals (repeat' (split at h)) <;> first | (cases h; done) | skip
 all_goals (injection h with h; injection h with h1 h2; injection h2 with h2 h3; injection h3 with h3 h4; subst h1 h2 h3 h4)
 all_goals simp only [mev, *]
 all_goals first
  | exact hK
  | exact trivial
  | exact ⟨rfl,hK⟩
  | exact ⟨Nat.eq_of_beq_eq_true (by assumption),trivial,trivial⟩
  | (rw [if_pos trivial]; exact ⟨Nat.le_of_ble_eq_true (by assumption),trivial⟩)
  | exact ⟨Nat.eq_of_beq_eq_true (by assumption),Nat.le_of_ble_eq_true (by assumption),trivial⟩
def run (n:Nat) (ml:List MOper) (F:Fr) (H:Hp) (K:List Fp->Fr->Hp->Prop):Option (List MOper×Fr×Hp×(List Fp->Fr->Hp->Prop)) :=
 match n with
 | 0=>some (ml,F,H,K)
 | n+1=>match ml with
  | []=>none
  | ⟨dst,op,g,_⟩::ml=>match gOK F g with
   | true=>match ev1 F H (dst.getD 0) op with
    | some (v,rd,wr,H1)=>run n ml (putF F dst v) H1 fun fps=>K ((rd,wr)::fps)
    | none=>none
   | false=>match gNo F g with
    | true=>run n ml (putF F dst .und) H fun fps=>K (([],[])::fps)
    | false=>none
end Go.Proofs.YthfhaoogcpfboaaGreat
namespace Go.Proofs.YthfhaoogcpfboaaGreat
open Go.RowKit
inductive KS where
 | nil
 | seq (y:MC) (k:KS)
 | blk (id:Nat) (k:KS)
 | th (nx:Fr->Hp->Prop) (k:KS)
inductive RG where
 | aw (c:MC) (k:KS) (F:Fr) (H:Hp)
 | rs (ml:List MOper) (ms:Option (List MOper)) (acc:List Fp) (k:KS) (F:Fr) (H:Hp)
 | ex (e:Exit) (F:Fr) (H:Hp)
 | nx (p:Fr->Hp->Prop) (F:Fr) (H:Hp)
section
variable (P:Program) (N:Nat) (Z:List Nat) (rn:Option Nat)
def KS.post (Q:Post):KS->Post
 | .nil=>Q
 | .seq y k=>Then (AW P N Z rn y (KS.post Q k)) (KS.post Q k)
 | .blk id k=>InBlock id (KS.post Q k)
 | .th nx k=>Then nx (KS.post Q k)
def Kd (ms:Option (List MOper)) (acc:List Fp) (Q:Post) (fps:List Fp) (F:Fr) (H:Hp):Prop:=match ms with
 | none=>Zok Z H->Q .normal F H
 | some ms=>okDraw (ms.zip (acc.reverseAux fps))=true/\(Zok Z H->Q .normal F H)
def RGi (Q:Post):RG->Prop
 | .aw c k F H=>AW P N Z rn c (KS.post P N Z rn Q k) F H
 | .rs ml ms acc k F H=>RS P N ml F H (Kd Z ms acc (KS.post P N Z rn Q k))
 | .ex e F H=>Q e F H
 | .nx p F H=>p F H
end
def lv (F:Fr) (H:Hp):Exit->KS->RG
 | e,.nil=>.ex e F H
 | .normal,.seq y k=>.aw y k F H
 | .normal,.th nx _=>.nx nx F H
 | e,.seq _ k=>lv F H e k
 | e,.th _ k=>lv F H e k
 | .exit i,.blk id k=>match Nat.beq i id with
  | true=>lv F H .normal k
  | false=>lv F H (.exit i) k
 | e,.blk _ k=>lv F H e k
def st1:RG->Option RG
 | .aw c k F H=>match c with
  | .seq x y=>some (.aw x (.seq y k) F H)
  | .reg ms false=>some (.rs ms none [] k F H)
  | .reg ms true=>some (.rs ms (some ms) [] k F H)
  | .cond x y z=>match Qj F x with
   | some (.bool true)=>some (.aw y k F H)
   | some (.bool false)=>some (.aw z k F H)
   | _=>none
  | .block id x=>some (.aw x (.blk id k) F H)
  | .skip=>some (lv F H .normal k)
  | .exit i=>some (lv F H (.exit i) k)
  | .ret=>some (lv F H .ret k)
  | _=>none
 | .rs [] none _ k F H=>some (lv F H .normal k)
 | .rs [] (some ms) acc k F H=>match okDraw (ms.zip (acc.reverseAux [])) with
  | true=>some (lv F H .normal k)
  | false=>none
 | .rs (⟨dst,op,g,_⟩::ml) ms acc k F H=>match gOK F g with
  | true=>match ev1 F H (dst.getD 0) op with
   | some (v,rd,wr,H1)=>some (.rs ml ms ((rd,wr)::acc) k (putF F dst v) H1)
   | none=>none
  | false=>match gNo F g with
   | true=>some (.rs ml ms (([],[])::acc) k (putF F dst .und) H)
   | false=>none
 | _=>none
section
variable {P:Program} {N:Nat} {Z:List Nat} {rn:Option Nat} {Q:Post} {F:Fr} {H:Hp}
theorem lv_ok:∀ (k:KS) (e:Exit),RGi P N Z rn Q (lv F H e k)->KS.post P N Z rn Q k e F H
 | .nil,e,h=>by cases e <;> exact h
 | .seq y k,e,h=>by
  cases e with
  | normal=>exact h
  | _=>exact lv_ok k _ h
 | .th nx k,e,h=>by
  cases e with
  | normal=>exact h
  | _=>exact lv_ok k _ h
 | .blk id k,e,h=>by
  cases e with
  | exit i =>
   unfold lv at h
   show InBlock id (KS.post P N Z rn Q k) (.exit i) F H
   simp only [InBlock]
   split at h
   ·rename_i hb
    rw [if_pos (Nat.eq_of_beq_eq_true hb)]; exact lv_ok k _ h
   ·rename_i hb
    have hne:i≠id:=fun he=>by rw [he,Nat.beq_refl] at hb; cases hb
    rw [if_neg hne]; exact lv_ok k _ h
  | _=>exact lv_ok k _ h
theorem kd_cons {ms:Option (List MOper)} {acc:List Fp} {x:Fp} {R:Post}:(fun fps=>Kd Z ms acc R (x::fps))=Kd Z ms (x::acc) R:=by
 funext fps F H; cases ms <;> rfl
theorem st_ok (hm:P.follows .mixedOrders=true):∀ {r r':RG},st1 r=some r'->RGi P N Z rn Q r'->RGi P N Z rn Q r
 | .aw c k F H,r',h,h2=>by
  unfold st1 at h
  dsimp only at h
  split at h
  ·injection h with h; subst h; exact aw_seq h2
  ·injection h with h; subst h; exact aw_reg h2
  ·injection h with h; subst h; exact aw_draw hm h2
  ·split at h
   ·rename_i ha; injection h with h; subst h; exact Qc ha (fun _=>h2) (fun h=>by cases h)
   ·rename_i ha; injection h with h; subst h; exact Qc ha (fun h=>by cases h) (fun _=>h2)
   ·cases h
  ·injection h with h; subst h; exact aw_block h2
  ·injection h with h; subst h; exact aw_skip (lv_ok k _ h2)
  ·injection h with h; subst h; exact aw_exit (lv_ok k _ h2)
  ·injection h with h; subst h; exact aw_ret (lv_ok k _ h2)
  ·cases h
 | .rs [] none acc k F H,r',h,h2=>by
  injection h with h; subst h; exact rs_nil fun _=>lv_ok k _ h2
 | .rs [] (some ms) acc k F H,r',h,h2=>by
  unfold st1 at h
  dsimp only at h
  split at h
  ·rename_i ho; injection h with h; subst h; exact rs_nil ⟨ho,fun _=>lv_ok k _ h2⟩
  ·cases h
 | .rs (⟨dst,op,g,pre⟩::ml) ms acc k F H,r',h,h2=>by
  unfold st1 at h
  dsimp only at h
  split at h
  ·rename_i hg
   split at h
   ·rename_i v rd wr H1 he
    injection h with h; subst h
    refine Xh hg (ev1_spec he ?_)
    rw [kd_cons]; exact h2
   ·cases h
  ·split at h
   ·rename_i hg
    injection h with h; subst h
    refine rs_skip hg ?_
    rw [kd_cons]; exact h2
   ·cases h
 | .ex e F H,r',h,h2=>by cases h
 | .nx p F H,r',h,h2=>by cases h
def rn1:Nat->RG->Option RG
 | 0,r=>some r
 | n+1,r=>match st1 r with
  | some r'=>rn1 n r'
  | none=>none
theorem rn_ok (hm:P.follows .mixedOrders=true):∀ (n:Nat) {r r':RG},rn1 n r=some r'->RGi P N Z rn Q r'->RGi P N Z rn Q r
 | 0,r,r',h,h2=>by injection h with h; subst h; exact h2
 | n+1,r,r',h,h2=>by
  unfold rn1 at h
  split at h
  ·rename_i r1 h1; exact st_ok hm h1 (rn_ok hm n h h2)
  ·cases h
variable {c:MC} {k:KS} {r:RG} {nx:Fr->Hp->Prop} {ml:List MOper} {ms:Option (List MOper)} {acc:List Fp} {x:Fp} {e:Exit}
theorem go_a (hm:P.follows .mixedOrders=true) (n:Nat) (h:rn1 n (.aw c .nil F H)=some r) (h2:RGi P N Z rn Q r):AW P N Z rn c Q F H:=rn_ok hm n h h2
theorem go_k (hm:P.follows .mixedOrders=true) (n:Nat) (h:rn1 n (.aw c k F H)=some r) (h2:RGi P N Z rn Q r):AW P N Z rn c (KS.post P N Z rn Q k) F H:=rn_ok hm n h h2
theorem go_t (hm:P.follows .mixedOrders=true) (n:Nat) (h:rn1 n (.aw c (.th nx k) F H)=some r) (h2:RGi P N Z rn Q r):AW P N Z rn c (Then nx (KS.post P N Z rn Q k)) F H:=rn_ok hm n h h2
theorem go_p (hm:P.follows .mixedOrders=true) (n:Nat) (h:rn1 n (lv F H e k)=some r) (h2:RGi P N Z rn Q r):KS.post P N Z rn Q k e F H:=lv_ok k e (rn_ok hm n h h2)
theorem go_r (hm:P.follows .mixedOrders=true) (n:Nat) (h:rn1 n (.rs ml ms (x::acc) k F H)=some r) (h2:RGi P N Z rn Q r):RS P N ml F H (fun fps=>Kd Z ms acc (KS.post P N Z rn Q k) (x::fps)):=by
 rw [kd_cons]; exact rn_ok hm n h h2
theorem go_i {r0:RG} (hm:P.follows .mixedOrders=true) (n:Nat) (h:rn1 n r0=some r) (h2:RGi P N Z rn Q r):RGi P N Z rn Q r0:=rn_ok hm n h h2
theorem Q9 {ms:List MOper} (h:okDraw (ms.zip (acc.reverseAux []))=true) (h2:KS.post P N Z rn Q k .normal F H):RGi P N Z rn Q (.rs [] (some ms) acc k F H):=rs_nil ⟨h,fun _=>h2⟩
theorem Qz {p:Fr->Hp->Prop} (h:p F H):RGi P N Z rn Q (.nx p F H):=h
theorem Qt (h:Q e F H):RGi P N Z rn Q (.ex e F H):=h
def pickF (F:Fr):List Nat->Option Fr
 | []=>some []
 | t::ts=>match get F t,pickF F ts with
  | some v,some r=>some ((t,v)::r)
  | _,_=>none
theorem Qa {H H0:Hp}:∀ {F0:Fr},pickF F (F0.map (·.1))=some F0->XX (Qh H0) (F0.map (·.2))=true->KeptF H H0 F F0
 | [],_,_=>.nil
 | (t,v)::F0,h,hs=>by
  simp only [List.map_cons,pickF] at h
  split at h
  ·rename_i v' r hv hr
   injection h with h
   injection h with h3 h4
   injection h3 with _ h3
   subst h3 h4
   simp only [List.map_cons,XX,Bool.and_eq_true] at hs
   exact .cons hv (Qs hs.1 (.inl rfl)) (Qa hr hs.2)
  ·cases h
theorem hvs_same {Hs:Hp} {rd:List Nat} {al:Bool}:∀ {vs:List AV},XX (Qh Hs) vs=true->HVs H Hs rd al vs vs
 | [],_=>.nil
 | v::vs,h=>by
  simp only [XX,Bool.and_eq_true] at h
  exact .cons (Qd h.1) (hvs_same h.2)
end
end Go.Proofs.YthfhaoogcpfboaaGreat
namespace Go.Proofs.YthfhaoogcpfboaaGreat
open Go.RowKit
section
variable {P:Program} {N:Nat} {Z:List Nat} {rn:Option Nat} {Q:Post} {F F0:Fr} {H H0:Hp}
def pickH (H:Hp):List Nat->Option Hp
 | []=>some []
 | t::ts=>match get H t,pickH H ts with
  | some v,some r=>some ((t,v)::r)
  | _,_=>none
def scopedH (D:List Nat):Hp->Bool
 | []=>true
 | (_,ob)::r=>Jh D ob&&scopedH D r
theorem kS {D:List Nat}:∀ {H0:Hp},pickH H (H0.map (·.1))=some H0->scopedH D H0=true->KeptHs H D H0
 | [],_,_=>.nil
 | (t,v)::H0,h,hs=>by
  simp only [List.map_cons,pickH] at h
  split at h
  ·rename_i v' r hv hr
   injection h with h
   injection h with h3 h4
   injection h3 with _ h3
   subst h3 h4
   simp only [scopedH,Bool.and_eq_true] at hs
   exact .keep hv hs.1 (kS hr hs.2)
  ·cases h
def swN (i i' k:Nat):Nat:=match Nat.beq k i with
 | true=>i'
 | false=>k
def swV (i i':Nat):AV->AV
 | .ptr k j o=>.ptr (swN i i' k) j o
 | .sl k j n=>.sl (swN i i' k) j n
 | .sa k j o n=>.sa (swN i i' k) j o n
 | .mp k=>.mp (swN i i' k)
 | .yl k=>.yl (swN i i' k)
 | v=>v
def swF (i i':Nat) (F:Fr):Fr:=F.map fun p=>(p.1,swV i i' p.2)
def swH (i i':Nat) (H:Hp):Hp:=H.map fun p=>(swN i i' p.1,p.2)
theorem swN_eq {i i' k:Nat}:(k=i/\swN i i' k=i')\/swN i i' k=k:=by
 unfold swN
 cases h:Nat.beq k i
 ·exact .inr rfl
 ·exact .inl ⟨Nat.eq_of_beq_eq_true h,rfl⟩
theorem ren_sw {i i':Nat} (v:AV):Ren i i' (swV i' i v) v:=by
 cases v
 case ptr k j o=>rcases swN_eq (i:=i') (i':=i) (k:=k) with ⟨rfl,h⟩ | h <;> simp only [swV,h]; exact .ptr j o; exact .same _
 case sl k j o=>rcases swN_eq (i:=i') (i':=i) (k:=k) with ⟨rfl,h⟩ | h <;> simp only [swV,h]; exact .sl j o; exact .same _
 case sa k j o n=>rcases swN_eq (i:=i') (i':=i) (k:=k) with ⟨rfl,h⟩ | h <;> simp only [swV,h]; exact .sa j o n; exact .same _
 case mp k=>rcases swN_eq (i:=i') (i':=i) (k:=k) with ⟨rfl,h⟩ | h <;> simp only [swV,h]; exact .mp; exact .same _
 case yl k=>rcases swN_eq (i:=i') (i':=i) (k:=k) with ⟨rfl,h⟩ | h <;> simp only [swV,h]; exact .yl; exact .same _
 all_goals exact .same _
theorem renF_sw {i i':Nat} {F1:Fr}:∀ {F0:Fr},pickF F1 (F0.map (·.1))=some (swF i' i F0)->RenF i i' F1 F0
 | [],_=>.nil
 | (t,v)::F0,h=>by
  simp only [List.map_cons,pickF] at h
  split at h
  ·rename_i v' r hv hr
   injection h with h
   have h:(t,v')::r=(t,swV i' i v)::swF i' i F0:=h
   injection h with h3 h4
   injection h3 with _ h3
   subst h3 h4
   exact .cons hv (ren_sw v) (renF_sw hr)
  ·cases h
theorem wR (i i':Nat) {ob:Ob} (hF:KeptF H (swH i' i H0) F (swF i' i F0)) (hH:KeptHs H (Qh (swH i' i H0)) (swH i' i H0))
  (hc:(get (swH i' i H0) i,get (swH i' i H0) i',pickF (swF i' i F0) (F0.map (·.1)),pickF F0 (F0.map (·.1)),XX (Qh H0) (F0.map (·.2)),pickH ((i',ob)::(i,.dead)::swH i' i H0) (H0.map (·.1)),scopedH (Qh H0) H0)=(some ob,none,some (swF i' i F0),some F0,true,some H0,true)):Weak N [] F H F0 H0:=by
 simp only [Prod.mk.injEq] at hc
 obtain ⟨hi,hi',hR,h1,h2,h3,h4⟩:=hc
 exact QB hF hH (fun _ h=>by cases h) hi hi' (renF_sw hR) (Qa h1 h2) (kS h3 h4) (fun _ h=>by cases h)
theorem ret_pureM {rs:List ResultVar} {r:AV} {al:Bool} (h:(resVs P F H rs).map resOne=some r) (hs:QY [] r=true) (hn:noRO r=true):RetQ P [] rs r [] al .ret F H:=by
 cases hv:resVs P F H rs with
 | none=>rw [hv] at h; cases h
 | some vs=>rw [hv] at h; injection h with h; exact Jk hv h hs (.inr hn)
theorem rP {rs:List ResultVar} {r:AV} {al:Bool} (h:(resVs P F H rs).map resOne=some r:=by exact rfl) (hs:QY [] r=true:=by exact rfl) (hn:noRO r=true:=by exact rfl):AW P N Z rn .ret (RetQ P [] rs r [] al) F H:=aw_ret (ret_pureM h hs hn)
theorem bT {ml:List MOper} {K:List Fp->Fr->Hp->Prop} {d:Nat} {g:Option (Nat×Bool)} {pre:List Nat} {e z len:Nat} {zero l:List AV} {els:List (List AV)} {ps:List (Nat×Arg)} (hc:(gOK F g,fillS F z (reps len zero) ps,zero.length,get H d,chunks z len l,Q7 l)=(true,some l,z,none,els,true))
  (h:RS P N ml ((d,.sl d 0 len)::F) ((d,.cells e z els true)::H) (fun fps=>K (([],[d])::fps))):RS P N (⟨some d,.bslice e z zero len ps,g,pre⟩::ml) F H K:=by
 simp only [Prod.mk.injEq] at hc
 exact rs_bslice hc.1 hc.2.1 hc.2.2.1 hc.2.2.2.1 hc.2.2.2.2.1 hc.2.2.2.2.2 h
end
end Go.Proofs.YthfhaoogcpfboaaGreat
