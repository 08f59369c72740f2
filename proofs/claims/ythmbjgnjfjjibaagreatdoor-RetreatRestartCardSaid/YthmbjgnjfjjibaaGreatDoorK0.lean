/-
  Parts of the proof: L0 L1 L2 L3 L4 L5 L6 L7 L8 L9 L10 L11 Lm.
-/
import Derived.WalkKit
import Derived.Maps.AppendAt
import Derived.MapKept
import Derived.Laws.Cover3
import Derived.Laws.Pointers
import Derived.Laws.Small
set_option linter.unusedVariables false
set_option linter.unusedSimpArgs false
namespace Go.Proofs.YthmbjgnjfjjibaaGreatDoor
open Go.RowKit
set_option maxRecDepth 100000
inductive AV where
 | any
 | und
 | bool (b:Bool)
 | int (k:IntKind) (n:Int)
 | str (s:ByteArray)
 | nilp
 | ptr (i j o:Nat)
 | rp (cs:List AV)
 | nils
 | sl (i j n:Nat)
 | sa (i j o n:Nat)
 | rs (z:Nat) (els:List (List AV))
 | fn (f:Fn) (caps:List AV)
 | nilf
 | agg (cs:List AV)
 | tup (vs:List AV)
 | nilm
 | mp (i:Nat)
 | nili
 | ifc (t:Nat) (v:AV)
 | bm (name:String) (v:AV)
 | yl (i:Nat)
 | bnd (f:Fn) (v:AV)
 | anyb
inductive CR (w:World) (S:Nat->Prop):AV->Value->Prop where
 | any (c:Value):CR w S .any c
 | und:CR w S .und undef
 | bool (b:Bool):CR w S (.bool b) (.bool b)
 | int (k:IntKind) (n:Int):CR w S (.int k n) (.int k n)
 | str (s:ByteArray):CR w S (.str s) (.string s)
 | nilp:CR w S .nilp (.pointer none)
 | rp (cs:List AV) (b off:Nat) (cf:Nat->Value) (hS:S b)
   (h1:∀ o v,cs[o]?=some v->w.cell? ⟨b,off+o,none⟩=some (cf o)/\(cf o).oneCell'=true)
   (h2:∀ o v,cs[o]?=some v->CR w S v (cf o)):CR w S (.rp cs) (.pointer (some ⟨b,off,none⟩))
 | nils:CR w S .nils (.slice none 0 0)
 | rs0 (z:Nat) (a:Option Addr) (cap:Nat):CR w S (.rs z []) (.slice a 0 cap)
 | rs (z:Nat) (els:List (List AV)) (b off cap:Nat) (cf:Nat->Nat->Value) (hS:S b) (hcap:els.length<=cap)
   (h1:∀ j el o v,els[j]?=some el->el[o]?=some v->w.cell? ⟨b,off+j*z+o,none⟩=some (cf j o)/\(cf j o).oneCell'=true)
   (h2:∀ j el o v,els[j]?=some el->el[o]?=some v->CR w S v (cf j o)):CR w S (.rs z els) (.slice (some ⟨b,off,none⟩) els.length cap)
 | fn (f:Fn) (caps:List AV) (C:Array Value) (hn:C.size=caps.length) (h:∀ j v,caps[j]?=some v->CR w S v (C.getD j undef)) :
   CR w S (.fn f caps) (.func f #[] C)
 | nilf:CR w S .nilf .nilFunc
 | agg (cs:List AV) (C:Array Value) (hn:C.size=cs.length) (h1:∀ j v,cs[j]?=some v->(C.getD j undef).oneCell'=true)
   (h:∀ j v,cs[j]?=some v->CR w S v (C.getD j undef)):CR w S (.agg cs) (.agg C)
 | tup (cs:List AV) (C:Array Value) (hn:C.size=cs.length) (h:∀ j v,cs[j]?=some v->CR w S v (C.getD j undef)):CR w S (.tup cs) (.tuple C)
 | nilm:CR w S .nilm (.map none)
 | anyb (b:Bool):CR w S .anyb (.bool b)
 | nili:CR w S .nili .nilIface
 | ifc (t:Nat) (v:AV) (c:Value) (h:CR w S v c):CR w S (.ifc t v) (.iface t c)
 | bm (name:String) (v:AV) (c:Value) (h:CR w S v c):CR w S (.bm name v) (.func (.method name) #[c] #[])
variable {S S':Nat->Prop} {w w':World}
theorem CR.mono (hS:∀ b,S b->S' b) (hw:∀ a c,S a.block->w.cell? a=some c->w'.cell? a=some c) {v:AV} {c:Value}
  (h:CR w S v c):CR w' S' v c:=by
 induction h with
 | any c=>exact .any c
 | und=>exact .und
 | bool b=>exact .bool b
 | int k n=>exact .int k n
 | str s=>exact .str s
 | nilp=>exact .nilp
 | rp cs b off cf hb h1 _ ih=>exact .rp cs b off cf (hS b hb) (fun o v hv=>⟨hw _ _ hb (h1 o v hv).1,(h1 o v hv).2⟩) ih
 | nils=>exact .nils
 | rs0 z a cap=>exact .rs0 z a cap
 | rs z els b off cap cf hb hcap h1 _ ih =>
  exact .rs z els b off cap cf (hS b hb) hcap (fun j el o v he hv=>⟨hw _ _ hb (h1 j el o v he hv).1,(h1 j el o v he hv).2⟩) ih
 | fn f caps C hn _ ih=>exact .fn f caps C hn ih
 | nilf=>exact .nilf
 | agg cs C hn h1 _ ih=>exact .agg cs C hn h1 ih
 | tup cs C hn _ ih=>exact .tup cs C hn ih
 | nilm=>exact .nilm
 | anyb b=>exact .anyb b
 | nili=>exact .nili
 | ifc t v c _ ih=>exact .ifc t v c ih
 | bm name v c _ ih=>exact .bm name v c ih
abbrev Rho:=Nat->Option (Option Nat×Nat×Nat)
inductive VR (w:World) (S:Nat->Prop) (ρ:Rho):AV->Value->Prop where
 | cl {v:AV} {c:Value} (h:CR w S v c):VR w S ρ v c
 | ptr (i j o b z cap:Nat) (h:ρ i=some (some b,z,cap)):VR w S ρ (.ptr i j o) (.pointer (some ⟨b,j*z+o,none⟩))
 | sl (i j n b z cap cap':Nat) (h:ρ i=some (some b,z,cap)) (hc:j+cap'=cap) (hn:n<=cap'):VR w S ρ (.sl i j n) (.slice (some ⟨b,j*z,none⟩) n cap')
 | sl0 (i z:Nat) (h:ρ i=some (none,z,0)):VR w S ρ (.sl i 0 0) (.slice none 0 0)
 | sa (i j o n b z cap cap':Nat) (h:ρ i=some (some b,z,cap)) (hn:n<=cap'):VR w S ρ (.sa i j o n) (.slice (some ⟨b,j*z+o,none⟩) n cap')
 | fn (f:Fn) (caps:List AV) (C:Array Value) (hn:C.size=caps.length) (h:∀ j v,caps[j]?=some v->VR w S ρ v (C.getD j undef)) :
   VR w S ρ (.fn f caps) (.func f #[] C)
 | agg (cs:List AV) (C:Array Value) (hn:C.size=cs.length) (h1:∀ j v,cs[j]?=some v->(C.getD j undef).oneCell'=true)
   (h:∀ j v,cs[j]?=some v->VR w S ρ v (C.getD j undef)):VR w S ρ (.agg cs) (.agg C)
 | tup (cs:List AV) (C:Array Value) (hn:C.size=cs.length) (h:∀ j v,cs[j]?=some v->VR w S ρ v (C.getD j undef)):VR w S ρ (.tup cs) (.tuple C)
 | mp (i b z cap:Nat) (h:ρ i=some (some b,z,cap)):VR w S ρ (.mp i) (.map (some b))
 | yl (i b z cap:Nat) (h:ρ i=some (some b,z,cap)):VR w S ρ (.yl i) (.func (.yield b) #[] #[])
 | bnd (f:Fn) (v:AV) (c:Value) (h:VR w S ρ v c):VR w S ρ (.bnd f v) (.func f #[c] #[])
variable {ρ ρ':Rho}
theorem VR.mono (hS:∀ b,S b->S' b) (hw:∀ a c,S a.block->w.cell? a=some c->w'.cell? a=some c)
  (hρ:∀ i x,ρ i=some x->ρ' i=some x) {v:AV} {c:Value} (h:VR w S ρ v c):VR w' S' ρ' v c:=by
 induction h with
 | cl h=>exact .cl (h.mono hS hw)
 | ptr i j o b z cap h=>exact .ptr i j o b z cap (hρ _ _ h)
 | sl i j n b z cap cap' h hc hn=>exact .sl i j n b z cap cap' (hρ _ _ h) hc hn
 | sl0 i z h=>exact .sl0 i z (hρ _ _ h)
 | sa i j o n b z cap cap' h hn=>exact .sa i j o n b z cap cap' (hρ _ _ h) hn
 | fn f caps C hn _ ih=>exact .fn f caps C hn ih
 | agg cs C hn h1 _ ih=>exact .agg cs C hn h1 ih
 | tup cs C hn _ ih=>exact .tup cs C hn ih
 | mp i b z cap h=>exact .mp i b z cap (hρ _ _ h)
 | yl i b z cap h=>exact .yl i b z cap (hρ _ _ h)
 | bnd f v c _ ih=>exact .bnd f v c ih
inductive Ob where
 | dead
 | cells (e z:Nat) (els:List (List AV)) (flat:Bool)
 | mset (ks:List (List Int))
 | lp (r:Loop) (Fl:List (Nat×AV))
 | fm (kvs:List (Int×AV))
 | glob (g:Nat) (cs:List AV)
def Ob.live:Ob->Bool
 | .dead=>false
 | .glob _ _=>false
 | _=>true
def JO (l:List Int):Value:=.agg (l.map (Value.int .i64)).toArray
def OR (w:World) (S:Nat->Prop) (ρ:Rho) (ob:Ob) (bk:Option Nat) (z cap:Nat):Prop :=
 match ob with
 | .dead=>True
 | .glob g cs=>CR w S (.rp cs) (.pointer (some ⟨g,0,none⟩))
 | .lp r Fl=>∃ b,bk=some b/\¬ S b/\w.heap[b]?=some (.loop r)/\∀ t v,(t,v)∈Fl->VR w S ρ v (r.tmps.getD t undef)
 | .fm kvs=>∃ b es clock,bk=some b/\¬ S b/\w.heap[b]?=some (.map es clock)/\es.toList.map (fun x=>x.key)=kvs.map (fun x=>Value.int .i64 x.1)/\∀ (k:Nat) (x:Int×AV) (e:MapEntry),kvs[k]?=some x->es[k]?=some e->VR w S ρ x.2 e.val
 | .mset ks=>∃ b es clock,bk=some b/\¬ S b/\w.heap[b]?=some (.map es clock)/\es.toList.map (fun x=>x.key)=ks.map JO/\∀ x∈es.toList,x.val = .bool true
 | .cells e z' els flat=>z'=z/\match bk with
  | none=>els=[]/\cap=0
  | some b=>¬ S b/\cap<=maxLen/\∃ C:Array Value,w.heap[b]?=some (.cells C e (0,0))/\C.size=cap*z/\els.length<=cap/\(∀ (j:Nat) (el:List AV),els[j]?=some el->el.length<=z) ∧
   ∀ (j:Nat) (el:List AV) (o:Nat) (v:AV),els[j]?=some el->el[o]?=some v->(C.getD (j*z+o) undef).oneCell'=true/\if flat=true then CR w S v (C.getD (j*z+o) undef) else VR w S ρ v (C.getD (j*z+o) undef)
theorem OR.mono {ob:Ob} {bk:Option Nat} {z cap:Nat} (hS:∀ b,S b->S' b)
  (hw:∀ a c,S a.block->w.cell? a=some c->w'.cell? a=some c) (hρ:∀ i x,ρ i=some x->ρ' i=some x)
  (hb:∀ b,bk=some b->ob.live=true->w'.heap[b]?=w.heap[b]?/\¬ S' b) (h:OR w S ρ ob bk z cap):OR w' S' ρ' ob bk z cap:=by
 cases ob with
 | dead=>trivial
 | glob g cs=>exact CR.mono hS hw h
 | lp r Fl =>
  obtain ⟨b,e,h0,h1,h2⟩:=h
  obtain ⟨e1,e2⟩:=hb b e rfl
  exact ⟨b,e,e2,e1.trans h1,fun t v hv=>(h2 t v hv).mono hS hw hρ⟩
 | fm kvs =>
  obtain ⟨b,es,clock,e,h0,h1,h2,h3⟩:=h
  obtain ⟨e1,e2⟩:=hb b e rfl
  exact ⟨b,es,clock,e,e2,e1.trans h1,h2,fun k x e hx he=>(h3 k x e hx he).mono hS hw hρ⟩
 | mset ks =>
  obtain ⟨b,es,clock,e,h0,h1,h2⟩:=h
  obtain ⟨e1,e2⟩:=hb b e rfl
  exact ⟨b,es,clock,e,e2,e1.trans h1,h2⟩
 | cells e z' els flat =>
  obtain ⟨hz,h⟩:=h
  refine ⟨hz,?_⟩
  cases bk with
  | none=>exact h
  | some b =>
   obtain ⟨h0,hm,C,hC,h1,h2,h3,h4⟩:=h
   obtain ⟨e1,e2⟩:=hb b rfl rfl
   refine ⟨e2,hm,C,e1.trans hC,h1,h2,h3,fun j el o v he hv=>?_⟩
   obtain ⟨q1,q2⟩:=h4 j el o v he hv
   refine ⟨q1,?_⟩
   split at q2
   ·rename_i hf; rw [if_pos hf]; exact q2.mono hS hw
   ·rename_i hf; rw [if_neg hf]; exact q2.mono hS hw hρ
def get {α:Type}:List (Nat×α)->Nat->Option α
 | [],_=>none
 | (s,v)::F,t=>if s=t then some v else get F t
def LiveF (ρ:Rho) (h:Nat->Option Ob) (I:Nat->Prop) (b:Nat):Prop :=
 ∃ i ob z cap,I i/\h i=some ob/\ob.live=true/\ρ i=some (some b,z,cap)
abbrev Jb (ρ:Rho) (H:List (Nat×Ob)) (I:Nat->Prop) (b:Nat):Prop:=LiveF ρ (get H) I b
structure HRf (I:Nat->Prop) (w:World) (S:Nat->Prop) (ρ:Rho) (h:Nat->Option Ob):Prop where
 ob:∀ i o,I i->h i=some o->∃ bk z cap,ρ i=some (bk,z,cap)/\OR w S ρ o bk z cap
 dis:∀ i j oi oj b z z' c c',I i->I j->i≠j->h i=some oi->h j=some oj->oi.live=true->oj.live=true →
  ρ i=some (some b,z,c)->ρ j=some (some b,z',c')->False
abbrev HRi (I:Nat->Prop) (w:World) (S:Nat->Prop) (ρ:Rho) (H:List (Nat×Ob)):Prop:=HRf I w S ρ (get H)
structure HRF (w:World) (S:Nat->Prop) (ρ:Rho) (h:Nat->Option Ob):Prop where
 hS:∀ b,S b->b<w.heap.size
 dom:∀ i,h i=none->ρ i=none
 at_:HRf (fun _=>True) w S ρ h
structure Keep (w w':World) (O:Nat->Prop):Prop where
 os:w'.os=w.os
 tape:w'.tape=w.tape
 output:w'.output=w.output
 size:w.heap.size<=w'.heap.size
 block:∀ k,k<w.heap.size->¬ O k->w'.heap[k]?=w.heap[k]?
theorem Keep.refl (w:World) (O:Nat->Prop):Keep w w O:=⟨rfl,rfl,rfl,Nat.le_refl _,fun _ _ _=>rfl⟩
variable {O:Nat->Prop}
theorem Keep.trans {w1 w2:World} {O1:Nat->Prop} (h:Keep w w1 O) (h':Keep w1 w2 O1) (hO:∀ b,O1 b->O b\/w.heap.size<=b):Keep w w2 O :=
 ⟨h'.os.trans h.os,h'.tape.trans h.tape,h'.output.trans h.output,Nat.le_trans h.size h'.size,fun k hk hn =>
  (h'.block k (Nat.lt_of_lt_of_le hk h.size) (fun h1=>(hO k h1).elim hn (by omega))).trans (h.block k hk hn)⟩
variable {O':Nat->Prop}
theorem Keep.mono (h:Keep w w' O) (hO:∀ b,O b->O' b):Keep w w' O' :=
 ⟨h.os,h.tape,h.output,h.size,fun k hk hn=>h.block k hk (fun h1=>hn (hO k h1))⟩
theorem Keep.drawn (h:Keep w w' O) (n:Nat):Keep w { w' with drawn:=n } O:=⟨h.os,h.tape,h.output,h.size,h.block⟩
theorem Keep.cell (h:Keep w w' O) {a:Addr} {c:Value} (hn:¬ O a.block) (hc:w.cell? a=some c):w'.cell? a=some c:=by
 rw [World.cell?_of_block (w:=w) (h.block a.block (World.block_lt_of_cell? w a hc) hn)]; exact hc
structure Ext (w:World) (S O:Nat->Prop) (ρ:Rho) (w':World) (S' O':Nat->Prop) (ρ':Rho) (new:Nat->Prop):Prop where
 keep:Keep w w' O
 sub:∀ b,S b->S' b
 fresh:∀ b,S' b->S b\/O b\/w.heap.size<=b
 size:∀ b,S' b->b<w'.heap.size
 own:∀ b,O' b->O b\/w.heap.size<=b
 rho:∀ i,¬ new i->ρ' i=ρ i
theorem Ext.cells {new:Nat->Prop} (h:Ext w S O ρ w' S' O' ρ' new) (hd:∀ b,S b->¬ O b) :
  ∀ a c,S a.block->w.cell? a=some c->w'.cell? a=some c:=fun _ _ hs hc=>h.keep.cell (hd _ hs) hc
end Go.Proofs.YthmbjgnjfjjibaaGreatDoor
namespace Go.Proofs.YthmbjgnjfjjibaaGreatDoor
open Go.RowKit
set_option maxRecDepth 100000
inductive Arg where
 | t (n:Nat)
 | c (v:AV)
inductive MOp where
 | mv (x:Arg)
 | pick (c a b:Arg)
 | alloc (e z:Nat) (zero:List AV)
 | box (e z:Nat) (x:Arg)
 | build (zero:List AV) (parts:List (Nat×Nat×Arg))
 | bslice (e z:Nat) (zero:List AV) (len:Nat) (parts:List (Nat×Arg))
 | ld (agg:Bool) (n:Nat) (x:Arg)
 | st (n:Nat) (x v:Arg)
 | nilc (x:Arg)
 | bin (op:BinOp) (x y:Arg)
 | un (op:UnOp) (x:Arg)
 | cvt (k:IntKind) (x:Arg)
 | mkfn (fn:Fn) (caps:List Arg)
 | mksl (e z bytes:Nat) (zero:List AV) (l c:Arg)
 | slc (z:Nat) (x:Arg) (lo hi:Option Arg)
 | slarr (n:Nat) (x:Arg) (lo hi:Option Arg)
 | slst (n z:Nat) (x:Arg)
 | fa (off:Nat) (x:Arg)
 | fld (agg:Bool) (off n:Nat) (x:Arg)
 | ixsl (z:Nat) (x i:Arg)
 | ixarr (len z:Nat) (x i:Arg)
 | ixval (len z:Nat) (agg:Bool) (x i:Arg)
 | ext (x:Arg) (i:Nat)
 | len (x:Arg)
 | lenc (n:Nat)
 | app (e z bytes:Nat) (zero:List AV) (s x:Arg)
 | cpy (d s:Arg)
 | clr (z:Nat) (x:Arg)
 | s2ap (n:Nat) (x:Arg)
 | aeq8 (n:Nat) (x y:Arg)
 | mn (x y:Arg)
 | mn3 (x y z:Arg)
 | mx3 (x y z:Arg)
 | sdrop (x i:Arg)
 | mx (x y:Arg)
 | call (f:Nat) (args:List Arg)
 | callv (f:Arg) (args:List Arg)
 | isnil (sl neg:Bool) (x:Arg)
 | beq (neg:Bool) (x y:Arg)
 | mkmap
 | slen (x:Arg)
 | scat (x y:Arg)
 | seq (neg:Bool) (x y:Arg)
 | b2s (x:Arg)
 | s2b (x:Arg)
 | stake (x i:Arg)
 | sidx (x i:Arg)
 | aeqx (neg:Bool) (ks:List Nat) (x y:Arg)
 | bot
 | ldg (n g:Nat)
 | mapadd (n:Nat) (m k v:Arg)
 | mhas (n:Nat) (m k:Arg)
 | lenm (x:Arg)
 | mkif (t:Nat) (x:Arg)
 | mkbm (name:String) (x:Arg)
 | ifnil (neg:Bool) (x:Arg)
 | aeq (neg:Bool) (n:Nat) (x y:Arg)
 | inv (name:String) (x:Arg) (args:List Arg)
 | mkbnd (f:Nat) (x:Arg)
 | fins (m k v:Arg)
 | flk (m k:Arg)
def Jj:List AV->Nat->List AV->List AV
 | l,_,[]=>l
 | l,o,c::cs=>Jj (l.set o c) (o+1) cs
def Je (z:Nat):Nat->List AV->List (List AV)
 | 0,_=>[]
 | n+1,l=>l.take z::Je z n (l.drop z)
def reps:Nat->List AV->List AV
 | 0,_=>[]
 | n+1,l=>l++reps n l
def X4:AV->Option (List AV)
 | .any=>none
 | .und=>none
 | .tup _=>none
 | .agg cs=>some cs
 | v=>some [v]
mutual
def QB:AV->Bool
 | .ptr .. => false
 | .sl .. => false
 | .sa .. => false
 | .mp _=>false
 | .yl _=>false
 | .bnd .. => false
 | .fn _ caps=>Qi caps
 | .agg cs=>Qi cs
 | .tup cs=>Qi cs
 | _=>true
def Qi:List AV->Bool
 | []=>true
 | v::l=>QB v&&Qi l
end
def Qe (F:List (Nat×AV)):Arg->Option AV
 | .t n=>get F n
 | .c v=>some v
def XT (F:List (Nat×AV)):List Arg->Option (List AV)
 | []=>some []
 | x::l=>match Qe F x,XT F l with
  | some v,some vs=>some (v::vs)
  | _,_=>none
def convL (f:Value->Option AV):List Value->Option (List AV)
 | []=>some []
 | v::l=>if v.oneCell'=true then match f v,convL f l with
  | some x,some xs=>some (x::xs)
  | _,_=>none
  else none
def conv:Nat->Value->Option AV
 | _,.bool b=>some (.bool b)
 | _,.int k n=>some (.int k n)
 | _,.string s=>some (.str s)
 | _,.pointer none=>some .nilp
 | _,.slice none 0 0=>some .nils
 | _,.nilFunc=>some .nilf
 | _,.map none=>some .nilm
 | _,.nilIface=>some .nili
 | n+1,.agg C=>match convL (conv n) C.toList with
  | some cs=>some (.agg cs)
  | none=>none
 | _,_=>none
theorem convL_spec {w:World} {S:Nat->Prop} {f:Value->Option AV} (hf:∀ v x,f v=some x->CR w S x v):∀ (l:List Value) (xs:List AV),convL f l=some xs →
  xs.length=l.length/\∀ (j:Nat) (x:AV),xs[j]?=some x->∃ v,l[j]?=some v/\v.oneCell'=true/\CR w S x v
 | [],xs,h=>by simp [convL] at h; subst h; simp
 | v::l,xs,h=>by
  simp only [convL] at h
  split at h
  ·rename_i h1
   split at h
   ·rename_i x xs' hx hxs
    obtain ⟨e1,e2⟩:=convL_spec hf l xs' hxs
    injection h with h
    subst h
    refine ⟨by simp [e1],fun j y hy=>?_⟩
    cases j with
    | zero=>simp at hy; subst hy; exact ⟨v,by simp,h1,hf _ _ hx⟩
    | succ j=>simpa using e2 j y (by simpa using hy)
   ·cases h
  ·cases h
theorem conv_spec {w:World} {S:Nat->Prop}:∀ (n:Nat) (v:Value) (x:AV),conv n v=some x->CR w S x v:=by
 intro n
 induction n with
 | zero =>
  intro v x h
  unfold conv at h
  split at h <;> first | (injection h with h; subst h; constructor) | (cases h) | (rename_i h0; cases h0)
 | succ n ih =>
  intro v x h
  unfold conv at h
  split at h <;> first | (injection h with h; subst h; constructor; done) | (cases h; done) | skip
  ·rename_i C h0
   cases h0
   split at h
   ·rename_i cs hcs
    injection h with h
    subst h
    obtain ⟨e1,e2⟩:=convL_spec (w:=w) (S:=S) (f:=conv n) ih _ _ hcs
    refine .agg cs C (by simpa using e1.symm) (fun j v hv=>?_) (fun j v hv=>?_)
    ·obtain ⟨u,hu,h1,_⟩:=e2 j v hv
     have hj:C[j]?=some u:=by simpa using hu
     simp [hj,h1]
    ·obtain ⟨u,hu,_,h2⟩:=e2 j v hv
     have hj:C[j]?=some u:=by simpa using hu
     simp [hj,h2]
   ·cases h
end Go.Proofs.YthmbjgnjfjjibaaGreatDoor
namespace Go.Proofs.YthmbjgnjfjjibaaGreatDoor
open Go.RowKit
set_option maxRecDepth 100000
def Qu:Operand->Option Arg
 | .tmp t=>some (.t t)
 | .const v=>match conv 2 v with
  | some x=>some (.c x)
  | none=>none
 | .func f=>some (.c (.fn (.func f) []))
 | .global _=>none
def cargs:List Operand->Option (List Arg)
 | []=>some []
 | x::l=>match Qu x,cargs l with
  | some a,some as=>some (a::as)
  | _,_=>none
def tyZ (P:Program) (e:TypeId):Option (Nat×Nat×List AV) :=
 match P.info? e with
 | some i=>match i.zero with
  | some z=>match conv 2 z with
   | some x=>match X4 x with
    | some cs=>if cs.length=i.size/\z.cells.size=i.size then some (i.size,i.bytes,cs) else none
    | none=>none
   | none=>none
  | none=>none
 | none=>none
def QL (P:Program) (t:TypeId):Option Nat:=(P.info? t).map (·.size)
def aggP (P:Program) (t:TypeId):Option Bool :=
 match P.underlying t with
 | some (.struct _)=>some true
 | some (.array _ _)=>some true
 | some _=>some false
 | none=>none
def cparts (P:Program) (fields:Array Field):List (Nat×Operand)->Option (List (Nat×Nat×Arg))
 | []=>some []
 | (i,x)::l=>match fields[i]?,Qu x,cparts P fields l with
  | some f,some a,some r=>match QL P f.type with
   | some n=>some ((f.offset,n,a)::r)
   | none=>none
  | _,_,_=>none
def cpartsA (n:Nat):List (Nat×Operand)->Option (List (Nat×Nat×Arg))
 | []=>some []
 | (i,x)::l=>match Qu x,cpartsA n l with
  | some a,some r=>some ((i*n,n,a)::r)
  | _,_=>none
def cpartsS:List (Nat×Operand)->Option (List (Nat×Arg))
 | []=>some []
 | (i,x)::l=>match Qu x,cpartsS l with
  | some a,some r=>some ((i,a)::r)
  | _,_=>none
def copt:Option Operand->Option (Option Arg)
 | none=>some none
 | some x=>match Qu x with
  | some a=>some (some a)
  | none=>none
def nilFor (P:Program) (t:TypeId) (y:Operand):Option Bool:=match P.underlying t,y with
 | some (.slice _),.const (.slice none 0 0)=>some true
 | some (.pointer _),.const (.pointer none)=>some false
 | _,_=>none
def isBoolT (P:Program) (t:TypeId):Bool:=match P.underlying t with
 | some .bool=>true
 | _=>false
def isMapI (P:Program) (t:TypeId):Bool:=match P.underlying t with
 | some (.map k _)=>match P.underlying k with
  | some (.int .i64)=>true
  | _=>false
 | _=>false
def mapFn (P:Program) (t:TypeId):Bool:=isMapI P t&&match P.underlying t with
 | some (.map _ e)=>match P.info? e with
  | some i=>match i.zero with
   | some .nilFunc=>true
   | _=>false
  | none=>false
 | _=>false
def hasK (kvs:List (Int×AV)) (n:Int):Bool:=kvs.any fun x=>x.1 == n
def nodupI:List (Int×AV)->Bool
 | []=>true
 | x::l => !hasK l x.1&&nodupI l
def lkF (kvs:List (Int×AV)) (n:Int):AV:=match kvs.find? fun x=>x.1 == n with
 | some x=>.tup [x.2,.bool true]
 | none=>.tup [.nilf,.bool false]
def isIntT (P:Program) (t:TypeId):Bool:=match P.underlying t with
 | some (.int _)=>true
 | _=>false
def notIf (P:Program) (t:TypeId):Bool:=match P.underlying t with
 | some (.interface _)=>false
 | some _=>true
 | none=>false
def isIf (P:Program) (t:TypeId):Bool:=match P.underlying t with
 | some (.interface _)=>true
 | _=>false
def XH (P:Program):Nat->List Field->Bool
 | _,[]=>true
 | i, f :: l => P.plainKey f.type && (match P.underlying f.type with | some (.int .i64) => true | _ => false) && decide (f.offset = i) && !(f.name == "_") && XH P (i + 1) l
def vecS (P:Program) (t:TypeId):Option Nat:=match P.underlying t with
 | some (.struct fs)=>if XH P 0 fs.toList=true/\P.stoodInHeld t=false/\P.eqGuardType P.depth t=false then some fs.size else none
 | _=>none
def nestF (P:Program):Nat->List Field->Option Nat
 | _,[]=>some 0
 | i,f::l=>match vecS P f.type with
  | some m => if aggP P f.type = some true ∧ QL P f.type = some m ∧ f.offset = i ∧ f.name ≠ "_" then (nestF P (i + m) l).map (m + ·) else none
  | none=>if XH P i [f]=true then (nestF P (i+1) l).map (1 + ·) else none
def vecN (P:Program) (t:TypeId):Option Nat:=match P.underlying t with
 | some (.struct fs)=>if P.stoodInHeld t=false/\P.eqGuardType P.depth t=false then nestF P 0 fs.toList else none
 | _=>none
def vecK (P:Program) (t:TypeId):Option Nat:=match vecS P t with
 | some n=>some n
 | none=>vecN P t
def mapS (P:Program) (t:TypeId):Option Nat:=match P.underlying t with
 | some (.map k e)=>match vecK P k,P.info? e with
  | some n,some i=>match i.zero with
   | some (.bool false)=>some n
   | _=>none
  | _,_=>none
 | _=>none
def isI64T (P:Program) (t:TypeId):Bool:=match P.underlying t with
 | some (.int .i64)=>true
 | _=>false
theorem isI64T_spec {P:Program} {t:TypeId} (h:isI64T P t=true):P.underlying t=some (.int .i64):=by
 unfold isI64T at h
 split at h
 ·rename_i h1; exact h1
 ·cases h
def vecAr (P:Program) (t:TypeId):Option Nat:=match P.underlying t with
 | some (.array n e)=>if isI64T P e=true/\P.cellsOf e=1/\aggP P e=some false/\QL P e=some 1/\(P.info? e).isSome=true/\P.eqGuardType P.depth t=false then some n else none
 | _=>none
def vecE (P:Program) (e:TypeId):Option Nat:=match vecS P e with
 | some m=>some m
 | none=>vecAr P e
def vecT (P:Program) (t:TypeId):Option Nat:=match P.underlying t with
 | some (.array n e)=>match vecE P e with
  | some m=>if P.eqGuardType P.depth t=false/\P.cellsOf e=m/\aggP P e=some true/\QL P e=some m/\(P.info? e).isSome=true then some (n*m) else none
  | none=>vecAr P t
 | _=>match vecS P t with
  | some n=>some n
  | none=>vecN P t
inductive Sc where
 | i (n:Int)
 | b (x:Bool)
 | s (l:List UInt8)
deriving DecidableEq
def scL:List AV->Option (List Sc)
 | []=>some []
 | .int .i64 n::l=>(scL l).map (.i n :: ·)
 | .bool b::l=>(scL l).map (.b b :: ·)
 | .str s::l=>(scL l).map (.s s.toList :: ·)
 | _=>none
def scFields (P:Program):Nat->List Field->Bool
 | _,[]=>true
 | i, f :: l => P.plainKey f.type && (match P.underlying f.type with | some (.int .i64) => true | some .bool => true | some .string => true | _ => false) && decide (f.offset = i) && !(f.name == "_") && scFields P (i + 1) l
def kindT (P:Program) (t:TypeId):Nat:=match P.underlying t with
 | some (.int _)=>0
 | some .bool=>1
 | _=>2
def kindsF (P:Program) (fs:List Field):List Nat:=fs.map fun f=>kindT P f.type
def scK1:Sc->Nat
 | .i _=>0
 | .b _=>1
 | .s _=>2
def scK (l:List Sc):List Nat:=l.map scK1
def scT (P:Program) (t:TypeId):Option (List Nat):=match P.underlying t with
 | some (.struct fs)=>if scFields P 0 fs.toList=true/\P.stoodInHeld t=false/\P.eqGuardType P.depth t=false then some (kindsF P fs.toList) else none
 | _=>none
def isStrT (P:Program) (t:TypeId):Bool:=match P.underlying t with
 | some .string=>true
 | _=>false
def isU8T (P:Program) (t:TypeId):Bool:=match P.underlying t with
 | some (.int .u8)=>true
 | _=>false
def vecA8 (P:Program) (t:TypeId):Option Nat:=match P.underlying t with
 | some (.array n e)=>if isU8T P e=true/\P.cellsOf e=1/\aggP P e=some false/\QL P e=some 1/\(P.info? e).isSome=true/\P.eqGuardType P.depth t=false then some n else none
 | _=>none
def u8L:List AV->Option (List Int)
 | []=>some []
 | .int .u8 n::l=>(u8L l).map (n :: ·)
 | _=>none
def JW (P:Program) (op:BinOp) (t:TypeId) (a b:Arg):Option MOp :=
 if isStrT P t=true then match op with
  | .add=>some (.scat a b)
  | .eql=>some (.seq false a b)
  | .neq=>some (.seq true a b)
  | _=>none
 else match scT P t,op with
  | some n,.eql=>some (.aeqx false n a b)
  | some n,.neq=>some (.aeqx true n a b)
  | none,.eql=>match vecA8 P t with
   | some n=>some (.aeq8 n a b)
   | none=>none
  | _,_=>none
def Jg:List AV->Option (List Int)
 | []=>some []
 | .int .i64 n::l=>(Jg l).map (n :: ·)
 | _=>none
def J2 (P:Program) (op:BinOp) (t:TypeId) (x y:Operand):Option MOp :=
 if isIf P t then match op,y with
  | .eql,.const .nilIface=>(Qu x).map (.ifnil false)
  | .neq,.const .nilIface=>(Qu x).map (.ifnil true)
  | _,_=>none
 else match vecT P t,op,Qu x,Qu y with
  | some n,.eql,some a,some b=>some (.aeq false n a b)
  | some n,.neq,some a,some b=>some (.aeq true n a b)
  | none,_,some a,some b=>JW P op t a b
  | _,_,_,_=>none
def Xj (P:Program) (f:FuncId):Bool:=match P.funcs[f]? with
 | some fn => fn.body.isSome && !(fn.name == "runtime.NumGoroutine")
 | none=>false
def J0 (P:Program) (c:Call):Option MOp :=
 match c.callee with
 | .value (.func f)=>if Xj P f then match cargs c.args.toList with
   | some as=>some (.call f as)
   | none=>none
  else none
 | .value (.tmp t)=>match cargs c.args.toList with
   | some as=>some (.callv (.t t) as)
   | none=>none
 | .invoke recv name=>match Qu recv,cargs c.args.toList with
  | some r,some as=>some (.inv name r as)
  | _,_=>none
 | .builtin .len=>match c.args.toList,c.argTypes.toList with
  | [x],[t]=>match P.underlying t,Qu x with
   | some (.slice _),some a=>some (.len a)
   | some (.array n _),_=>some (.lenc n)
   | some (.map _ _),some a=>some (.lenm a)
   | some .string,some a=>some (.slen a)
   | _,_=>none
  | _,_=>none
 | .builtin .append=>match c.args.toList,c.argTypes.toList with
  | [s,x],[t,u]=>if t=u then match P.underlying t,Qu s,Qu x with
    | some (.slice e),some a,some b=>match tyZ P e with
     | some (z,by_,zero)=>if z=0 then none else some (.app e z by_ zero a b)
     | none=>none
    | _,_,_=>none
   else none
  | _,_=>none
 | .builtin .copy=>match c.args.toList,c.argTypes.toList with
  | [d,s],[t,_]=>match P.underlying t,Qu d,Qu s with
    | some (.slice e),some a,some b=>if QL P e=some 1 then some (.cpy a b) else none
    | _,_,_=>none
  | _,_=>none
 | .builtin .clear=>match c.args.toList,c.argTypes.toList with
  | [d],[t]=>match P.underlying t,Qu d with
    | some (.slice e),some a=>match tyZ P e with
     | some (z,_,_)=>if z=0 then none else some (.clr z a)
     | none=>none
    | _,_=>none
  | _,_=>none
 | .builtin .min=>match c.args.toList with
  | [x,y]=>match Qu x,Qu y with
   | some a,some b=>some (.mn a b)
   | _,_=>none
  | [x,y,z]=>match Qu x,Qu y,Qu z with
   | some a,some b,some c=>some (.mn3 a b c)
   | _,_,_=>none
  | _=>none
 | .builtin .max=>match c.args.toList with
  | [x,y]=>match Qu x,Qu y with
   | some a,some b=>some (.mx a b)
   | _,_=>none
  | [x,y,z]=>match Qu x,Qu y,Qu z with
   | some a,some b,some c=>some (.mx3 a b c)
   | _,_,_=>none
  | _=>none
 | _=>none
def Q7 (P:Program):Op->Option MOp
 | .move x=>(Qu x).map .mv
 | .assign x=>(Qu x).map .mv
 | .pick c a b=>match Qu c,Qu a,Qu b with
  | some c,some a,some b=>some (.pick c a b)
  | _,_,_=>none
 | .alloc e=>match tyZ P e with
  | some (z,_,zero)=>some (.alloc e z zero)
  | none=>none
 | .box e x=>match QL P e,Qu x with
  | some z,some a=>some (.box e z a)
  | _,_=>none
 | .build t parts=>match P.underlying t,tyZ P t with
  | some (.struct fields),some (_,_,zero)=>match cparts P fields parts.toList with
   | some ps=>if fields.toList.all (fun f=>(QL P f.type).isSome)=true then some (.build zero ps) else none
   | none=>none
  | some (.array _ e),some (_,_,zero)=>match QL P e with
   | some n=>match cpartsA n parts.toList with
    | some ps=>some (.build zero ps)
    | none=>none
   | none=>none
  | _,_=>none
 | .buildSlice t len parts=>match P.underlying t with
  | some (.slice e)=>match tyZ P e,cpartsS parts.toList with
   | some (z,_,zero),some ps=>if len*z<=2^24/\z≠0/\len<=4096 then some (.bslice e z zero len ps) else none
   | _,_=>none
  | _=>none
 | .load t x=>match aggP P t,QL P t,Qu x with
  | some g,some n,some a=>some (.ld g n a)
  | some true,some n,none=>match x with
   | .global g=>some (.ldg n g)
   | _=>none
  | some false,some n,none=>match x with
   | .global _=>some .bot
   | _=>none
  | _,_,_=>none
 | .store t x v=>match QL P t,Qu x,Qu v with
  | some n,some a,some b=>some (.st n a b)
  | _,_,_=>none
 | .nilCheck x=>(Qu x).map .nilc
 | .binOp op t x y _=>if isIntT P t then match Qu x,Qu y with
   | some a,some b=>some (.bin op a b)
   | _,_=>none
  else if isBoolT P t then match op,Qu x,Qu y with
   | .eql,some a,some b=>some (.beq false a b)
   | .neq,some a,some b=>some (.beq true a b)
   | _,_,_=>none
  else match nilFor P t y,op,Qu x with
   | some sl,.eql,some a=>some (.isnil sl false a)
   | some sl,.neq,some a=>some (.isnil sl true a)
   | none,_,_=>J2 P op t x y
   | _,_,_=>none
 | .makeMap _ none=>some .mkmap
 | .mapUpdate t m k v=>match mapS P t,Qu m,Qu k,Qu v with
   | some n,some a,some b,some c=>some (.mapadd n a b c)
   | _,_,_,_=>none
 | .lookup t m k false=>match mapS P t,Qu m,Qu k with
   | some n,some a,some b=>some (.mhas n a b)
   | _,_,_=>none
 | .insert t m k v=>if isMapI P t then match Qu m,Qu k,Qu v with
   | some a,some b,some c=>some (.fins a b c)
   | _,_,_=>none
  else none
 | .lookup t m k true=>if mapFn P t then match Qu m,Qu k with
   | some a,some b=>some (.flk a b)
   | _,_=>none
  else none
 | .unOp op _ x=>(Qu x).map (.un op)
 | .sliceToArrayPointer t x=>match P.underlying t,Qu x with
  | some (.array n e),some a=>if QL P e=some 1/\n≠0 then some (.s2ap n a) else none
  | _,_=>none
 | .convert src dst x=>match P.underlying src,P.underlying dst with
  | some (.int _),some (.int k)=>(Qu x).map (.cvt k)
  | some .string,some (.slice e)=>if isU8T P e=true then (Qu x).map .s2b else none
  | some (.slice e),some .string=>if isU8T P e=true then (Qu x).map .b2s else none
  | _,_=>none
 | .makeInterface t x=>if notIf P t then (Qu x).map (.mkif t) else none
 | .makeFunc fn first captured=>if first.size=0 then (cargs captured.toList).map (.mkfn fn) else match fn,first.toList,captured.toList with
  | .method name,[x],[]=>(Qu x).map (.mkbm name)
  | .func f,[x],[]=>(Qu x).map (.mkbnd f)
  | _,_,_=>none
 | .makeSlice t l c=>match P.underlying t with
  | some (.slice e)=>match tyZ P e,Qu l,Qu c with
   | some (z,by_,zero),some a,some b=>if z=0 then none else some (.mksl e z by_ zero a b)
   | _,_,_=>none
  | _=>none
 | .slice t x lo hi none=>match P.underlying t,Qu x,copt lo,copt hi with
  | some (.slice e),some a,some l,some h=>match QL P e with
   | some z=>if z=0 then none else some (.slc z a l h)
   | none=>none
  | some (.array n e),some a,some l,some h=>if QL P e=some 1 then some (.slarr n a l h) else match l,h,QL P e with
   | none,none,some z=>if z=0 then none else some (.slst n z a)
   | _,_,_=>none
  | some .string,some a,some none,some (some h)=>some (.stake a h)
  | some .string,some a,some (some l),some none=>some (.sdrop a l)
  | _,_,_,_=>none
 | .fieldAddr s x f=>match P.underlying s,Qu x with
  | some (.struct fields),some a=>match fields[f]? with
   | some fd=>match QL P fd.type with
    | some n=>if n=0 then none else some (.fa fd.offset a)
    | none=>none
   | none=>none
  | _,_=>none
 | .field t x f=>match P.underlying t,Qu x with
  | some (.struct fields),some a=>match fields[f]? with
   | some fd=>match aggP P fd.type,QL P fd.type with
    | some g,some n=>some (.fld g fd.offset n a)
    | _,_=>none
   | none=>none
  | _,_=>none
 | .indexAddr t x i=>match P.underlying t,Qu x,Qu i with
  | some (.slice e),some a,some b=>match QL P e with
   | some z=>some (.ixsl z a b)
   | none=>none
  | some (.array n e),some a,some b=>match QL P e with
   | some z=>some (.ixarr n z a b)
   | none=>none
  | _,_,_=>none
 | .index t x i=>match P.underlying t,Qu x,Qu i with
  | some (.array n e),some a,some b=>match aggP P e,QL P e with
   | some g,some z=>some (.ixval n z g a b)
   | _,_=>none
  | some .string,some a,some b=>some (.sidx a b)
  | _,_,_=>none
 | .extract x i=>(Qu x).map (.ext · i)
 | .panic _=>some .bot
 | .call c=>J0 P c
 | _=>none
def binV (op:BinOp) (k k':IntKind) (a b:Int) (K:AV->Prop):Prop :=
 match op with
 | .shl=>0<=b/\K (.int k (k.wrap (a*2^min b.toNat k.bits)))
 | .shr=>0<=b/\K (.int k (a.fdiv (2^min b.toNat k.bits)))
 | .add=>k=k'/\K (.int k (k.wrap (a+b)))
 | .sub=>k=k'/\K (.int k (k.wrap (a-b)))
 | .mul=>k=k'/\K (.int k (k.wrap (a*b)))
 | .quo=>k=k'/\b≠0/\K (.int k (k.wrap (a.tdiv b)))
 | .rem=>k=k'/\b≠0/\K (.int k (a.tmod b))
 | .and=>k=k'/\K (.int k (bits .and k a b))
 | .or=>k=k'/\K (.int k (bits .or k a b))
 | .xor=>k=k'/\K (.int k (bits .xor k a b))
 | .andNot=>k=k'/\K (.int k (bits .andNot k a b))
 | .eql=>k=k'/\K (.bool (a == b))
 | .neq=>k=k'/\K (.bool (a != b))
 | .lss=>k=k'/\K (.bool (decide (a<b)))
 | .leq=>k=k'/\K (.bool (decide (a<=b)))
 | .gtr=>k=k'/\K (.bool (decide (a>b)))
 | .geq=>k=k'/\K (.bool (decide (a ≥ b)))
def fillA (F:List (Nat×AV)):List AV->List (Nat×Nat×Arg)->Option (List AV)
 | l,[]=>some l
 | l,(off,n,x)::r=>match Qe F x with
  | some v=>match X4 v with
   | some cs=>if cs.length=n/\off+n<=l.length then fillA F (Jj l off cs) r else none
   | none=>none
  | none=>none
def fillS (F:List (Nat×AV)) (z:Nat):List AV->List (Nat×Arg)->Option (List AV)
 | l,[]=>some l
 | l,(i,x)::r=>match Qe F x with
  | some v=>match X4 v with
   | some cs=>if cs.length=z/\i*z+z<=l.length then fillS F z (Jj l (i*z) cs) r else none
   | none=>none
  | none=>none
def QY (F:List (Nat×AV)) (d:Int):Option Arg->Option Int
 | none=>some d
 | some x=>match Qe F x with
  | some (.int _ n)=>some n
  | _=>none
def JH (H:List (Nat×Ob)) (z:Nat):AV->Option (List Nat×List (List AV))
 | .nils=>some ([],[])
 | .rs z' els=>if z'=z\/els=[] then some ([],els) else none
 | .sl i j n=>match get H i with
  | some (.cells _ z' els _)=>if z'=z/\j+n<=els.length then some ([i],(els.drop j).take n) else none
  | _=>none
 | _=>none
def nilK (sl neg:Bool) (ov:Option AV) (K:AV->Prop):Prop:=match sl,ov with
 | true,some .nils=>K (.bool (!neg))
 | true,some (.rs _ [])=>K .anyb
 | true,some (.rs _ (_::_))=>K (.bool neg)
 | true,some (.sl _ _ 0)=>K .anyb
 | true,some (.sl _ _ (_+1))=>K (.bool neg)
 | false,some .nilp=>K (.bool (!neg))
 | false,some (.ptr ..)=>K (.bool neg)
 | false,some (.rp _)=>K (.bool neg)
 | _,_=>False
def rowS (s:ByteArray):List (List AV):=s.toList.map fun b=>[.int .u8 b.toNat]
def bytesL:List AV->Option (List Int)
 | []=>some []
 | .int .u8 n::l=>(bytesL l).map (n :: ·)
 | _=>none
def byteE:List (List AV)->Option (List Int)
 | []=>some []
 | [.int .u8 n]::l=>(byteE l).map (n :: ·)
 | _=>none
def strN (l:List Int):ByteArray:=⟨(l.map fun n=>UInt8.ofNat n.toNat).toArray⟩
def bytesV (H:List (Nat×Ob)):AV->Option (List Nat×List Int)
 | .nils=>some ([],[])
 | .rs 1 els=>(byteE els).map fun l=>([],l)
 | .sl i j n=>match get H i with
  | some (.cells _ 1 els _)=>if j+n<=els.length then (byteE ((els.drop j).take n)).map fun l=>([i],l) else none
  | _=>none
 | .sa i j o n=>match get H i with
  | some (.cells _ _ els _)=>match els[j]? with
   | some el=>if o+n<=el.length then (bytesL ((el.drop o).take n)).map fun l=>([i],l) else none
   | none=>none
  | _=>none
 | _=>none
def X2 (els:List (List AV)):Bool:=match els with
 | []=>true
 | e::r=>Qi e&&X2 r
def mev (F:List (Nat×AV)) (H:List (Nat×Ob)) (d:Nat) (K:AV->List Nat->List Nat->List (Nat×Ob)->Prop):MOp->Prop
 | .mv x=>match Qe F x with
  | some v=>K v [] [] H
  | none=>False
 | .pick c a b=>match Qe F c with
  | some (.bool t)=>match Qe F (if t=true then a else b) with
   | some v=>K v [] [] H
   | none=>False
  | _=>False
 | .alloc e z zero=>zero.length=z/\get H d=none/\K (.ptr d 0 0) [] [d] ((d,.cells e z [zero] true)::H)
 | .box e z x=>match Qe F x with
  | some v=>match X4 v with
   | some cs=>cs.length=z/\get H d=none/\K (.ptr d 0 0) [] [d] ((d,.cells e z [cs] (Qi cs))::H)
   | none=>False
  | none=>False
 | .build zero parts=>match fillA F zero parts with
  | some cs=>K (.agg cs) [] [] H
  | none=>False
 | .bslice e z zero len parts=>match fillS F z (reps len zero) parts with
  | some l=>zero.length=z/\get H d=none/\K (.sl d 0 len) [] [d] ((d,.cells e z (Je z len l) (Qi l))::H)
  | none=>False
 | .ld g n x=>match Qe F x with
  | some (.ptr i j o)=>match get H i with
   | some (.cells _ _ els _)=>match els[j]? with
    | some el=>if g=true then o+n<=el.length/\K (.agg ((el.drop o).take n)) [i] [] H else match el[o]? with
     | some v=>K v [i] [] H
     | none=>False
    | none=>False
   | _=>False
  | some (.rp cs)=>if g=true then n<=cs.length/\K (.agg (cs.take n)) [] [] H else match cs[0]? with
   | some v=>K v [] [] H
   | none=>False
  | _=>False
 | .st n x v=>match Qe F x,Qe F v with
  | some (.ptr i j o),some u=>match get H i,X4 u with
   | some (.cells e z els fl),some cs=>match els[j]? with
    | some el=>cs.length=n/\o+n<=el.length/\K .und [] [i] ((i,.cells e z (els.set j (Jj el o cs)) (fl&&Qi cs))::H)
    | none=>False
   | _,_=>False
  | _,_=>False
 | .nilc x=>match Qe F x with
  | some (.ptr i j o)=>K (.ptr i j o) [] [] H
  | some (.rp cs)=>K (.rp cs) [] [] H
  | _=>False
 | .bin op x y=>match Qe F x,Qe F y with
  | some (.int k a),some (.int k' b)=>binV op k k' a b fun v=>K v [] [] H
  | _,_=>False
 | .un op x=>match op,Qe F x with
  | .not,some (.bool b)=>K (.bool (!b)) [] [] H
  | .neg,some (.int k n)=>K (.int k (k.wrap (0-n))) [] [] H
  | .xor,some (.int k n)=>K (.int k (bits .xor k (if k.signed then -1 else k.max) n)) [] [] H
  | _,_=>False
 | .cvt k x=>match Qe F x with
  | some (.int _ n)=>K (.int k (k.wrap n)) [] [] H
  | _=>False
 | .mkfn fn caps=>match XT F caps with
  | some vs=>K (.fn fn vs) [] [] H
  | none=>False
 | .mksl e z by_ zero l c=>match Qe F l,Qe F c with
  | some (.int .i64 a),some (.int .i64 b)=>zero.length=z/\get H d=none/\0<=a/\a<=b/\b<=9223372036854775807/\(by_:Int)*b<=281474976710656 ∧
   K (.sl d 0 a.toNat) [] [d] ((d,.cells e z (List.replicate a.toNat zero) true)::H)
  | _,_=>False
 | .slc z x lo hi=>match Qe F x with
  | some (.rs z' els)=>match QY F 0 lo,QY F els.length hi with
   | some l,some h=>(z'=z\/els=[])/\0<=l/\l<=h/\h<=els.length/\K (.rs z ((els.drop l.toNat).take (h.toNat-l.toNat))) [] [] H
   | _,_=>False
  | some (.sl i j n)=>match QY F 0 lo,QY F n hi,get H i with
   | some l,some h,some (.cells _ z' _ _)=>z'=z/\0<=l/\l<=h/\h<=n/\(((l=0\/l<h)/\K (.sl i (j+l.toNat) (h.toNat-l.toNat)) [i] [] H)\/(l=h/\K (.rs z []) [i] [] H))
   | _,_,_=>False
  | some .nils=>match QY F 0 lo,QY F 0 hi with
   | some l,some h=>l=0/\h=0/\K .nils [] [] H
   | _,_=>False
  | _=>False
 | .slarr n x lo hi=>match Qe F x with
  | some (.ptr i j o)=>match QY F 0 lo,QY F n hi with
   | some l,some h=>0<=l/\(l=0\/l<h)/\l<=h/\h<=n/\K (.sa i j (o+l.toNat) (h.toNat-l.toNat)) [] [] H
   | _,_=>False
  | some (.rp cs)=>match QY F 0 lo,QY F n hi with
   | some l,some h=>l=0/\h=n/\n<=cs.length/\n≠0/\K (.rs 1 ((cs.take n).map fun c=>[c])) [] [] H
   | _,_=>False
  | _=>False
 | .slst n z x=>match Qe F x with
  | some (.ptr i 0 0)=>match get H i with
   | some (.cells _ z' [el] true)=>z'=n*z/\n≠0/\K (.rs z (Je z n el)) [] [i] ((i,.dead)::H)
   | _=>False
  | _=>False
 | .fa off x=>match Qe F x with
  | some (.ptr i j o)=>K (.ptr i j (o+off)) [] [] H
  | some (.rp cs)=>K (.rp (cs.drop off)) [] [] H
  | _=>False
 | .fld g off n x=>match Qe F x with
  | some (.agg cs)=>if g=true then off+n<=cs.length/\K (.agg ((cs.drop off).take n)) [] [] H else match cs[off]? with
   | some v=>K v [] [] H
   | none=>False
  | _=>False
 | .ixsl z x i=>match Qe F x,Qe F i with
  | some (.rs z' els),some (.int _ t)=>0<=t/\t<els.length/\z'=z/\match els[t.toNat]? with
   | some el=>K (.rp el) [] [] H
   | none=>False
  | some (.sl a j n),some (.int _ t)=>0<=t/\t<n/\match get H a with
   | some (.cells _ z' _ _)=>z'=z/\K (.ptr a (j+t.toNat) 0) [a] [] H
   | _=>False
  | some (.sa a j o n),some (.int _ t)=>0<=t/\t<n/\z=1/\K (.ptr a j (o+t.toNat)) [] [] H
  | _,_=>False
 | .ixarr len z x i=>match Qe F x,Qe F i with
  | some (.ptr a j o),some (.int _ t)=>0<=t/\t<len/\K (.ptr a j (o+t.toNat*z)) [] [] H
  | some (.rp cs),some (.int _ t)=>0<=t/\t<len/\K (.rp (cs.drop (t.toNat*z))) [] [] H
  | _,_=>False
 | .ixval len z g x i=>match Qe F x,Qe F i with
  | some (.agg cs),some (.int _ t)=>0<=t/\t<len/\(if g=true then t.toNat*z+z<=cs.length/\K (.agg ((cs.drop (t.toNat*z)).take z)) [] [] H else match cs[t.toNat*z]? with
   | some v=>K v [] [] H
   | none=>False)
  | _,_=>False
 | .ext x i=>match Qe F x with
  | some (.tup vs)=>match vs[i]? with
   | some v=>K v [] [] H
   | none=>False
  | _=>False
 | .len x=>match Qe F x with
  | some (.rs _ els)=>K (.int .i64 els.length) [] [] H
  | some (.sl _ _ n)=>K (.int .i64 n) [] [] H
  | some (.sa _ _ _ n)=>K (.int .i64 n) [] [] H
  | some .nils=>K (.int .i64 0) [] [] H
  | _=>False
 | .lenc n=>K (.int .i64 n) [] [] H
 | .app e z by_ zero s x=>match Qe F s,Qe F x with
  | some .nils,some v=>match JH H z v with
   | some (rd,news)=>zero.length=z/\get H d=none/\(∀ el∈news,el.length=z)/\news.length*by_<=140737488355328/\news.length<=9223372036854775807 ∧
    K (.sl d 0 news.length) rd [d] ((d,.cells e z news (X2 news))::H)
   | none=>False
  | some (.sl i 0 n),some v=>match get H i,JH H z v with
   | some (.cells e' z' els fl),some (rd,news)=>zero.length=z/\get H d=none/\e'=e/\z'=z/\(∀ el∈news,el.length=z) ∧
    (n+news.length)*by_<=140737488355328/\n+news.length<=9223372036854775807 ∧
    ((els.length=n/\i ∉ rd/\K (.sl d 0 (n+news.length)) rd [i,d] ((d,.cells e z (els++news) (fl&&X2 news))::(i,.dead)::H)) ∨
     (n<=els.length/\(∀ k∈rd,k=i)/\K (.sl d 0 (n+news.length)) [] [i,d] ((d,.cells e z (els.take n++news) (fl&&X2 news))::(i,.dead)::H)))
   | _,_=>False
  | _,_=>False
 | .cpy x y=>match Qe F x,Qe F y with
  | some (.sa i j o n),some v=>match get H i,JH H 1 v with
   | some (.cells e z els fl),some (rd,news)=>match els[j]? with
    | some el=>(∀ c∈news,c.length=1)/\i ∉ rd/\news.length<=n/\o+news.length<=el.length ∧
     K (.int .i64 news.length) rd [i] ((i,.cells e z (els.set j (Jj el o news.flatten)) (fl&&X2 news))::H)
    | none=>False
   | _,_=>False
  | some (.sl i j n),some v=>match get H i,JH H 1 v with
   | some (.cells e z els fl),some (rd,news)=>z=1/\(∀ c∈news,c.length=1)/\i ∉ rd/\news.length<=n/\j+n<=els.length/\0<n ∧
     K (.int .i64 news.length) rd [i] ((i,.cells e z (els.take j++news++els.drop (j+news.length)) (fl&&X2 news))::H)
   | _,_=>False
  | _,_=>False
 | .s2ap n x=>match Qe F x with
  | some (.rs z els)=>∃ l:List AV,z=1/\els=l.map (fun v=>[v])/\n<=l.length/\K (.rp (l.take n)) [] [] H
  | _=>False
 | .aeq8 n x y=>match Qe F x,Qe F y with
  | some (.agg as),some (.agg bs)=>match u8L as,u8L bs with
   | some la,some lb=>la.length=n/\lb.length=n/\K (.bool (decide (la=lb))) [] [] H
   | _,_=>False
  | _,_=>False
 | .clr z x=>match Qe F x with
  | some (.sl i j n)=>match get H i with
   | some (.cells e z' els fl)=>z'=z/\0<n/\j<=els.length/\K .any [] [i] ((i,.cells e z (els.take j) fl)::H)
   | _=>False
  | _=>False
 | .mn3 x y z=>match Qe F x,Qe F y,Qe F z with
  | some (.int k a),some (.int _ b),some (.int _ c)=>K (.int k (min (min a b) c)) [] [] H
  | _,_,_=>False
 | .mx3 x y z=>match Qe F x,Qe F y,Qe F z with
  | some (.int k a),some (.int _ b),some (.int _ c)=>K (.int k (max (max a b) c)) [] [] H
  | _,_,_=>False
 | .sdrop x i=>match Qe F x,Qe F i with
  | some (.str s),some (.int _ n)=>0<=n/\n<=s.size/\K (.str (s.extract n.toNat s.size)) [] [] H
  | _,_=>False
 | .mn x y=>match Qe F x,Qe F y with
  | some (.int k a),some (.int _ b)=>K (.int k (min a b)) [] [] H
  | _,_=>False
 | .mx x y=>match Qe F x,Qe F y with
  | some (.int k a),some (.int _ b)=>K (.int k (max a b)) [] [] H
  | _,_=>False
 | .isnil sl neg x=>nilK sl neg (Qe F x) fun v=>K v [] [] H
 | .beq neg x y=>match Qe F x,Qe F y with
  | some (.bool a),some (.bool b)=>K (.bool (neg != (a == b))) [] [] H
  | _,_=>False
 | .ldg n g=>match get H (5000000+g) with
  | some (.glob g' cs)=>g'=g/\n<=cs.length/\K (.agg (cs.take n)) [5000000+g] [] H
  | _=>False
 | .slen x=>match Qe F x with
  | some (.str s)=>K (.int .i64 s.size) [] [] H
  | _=>False
 | .scat x y=>match Qe F x,Qe F y with
  | some (.str a),some (.str b)=>a.size+b.size<=9223372036854775807/\K (.str (a++b)) [] [] H
  | _,_=>False
 | .seq neg x y=>match Qe F x,Qe F y with
  | some (.str a),some (.str b)=>K (.bool (neg != (a.toList == b.toList))) [] [] H
  | _,_=>False
 | .aeqx neg n x y=>match Qe F x,Qe F y with
  | some (.agg as),some (.agg bs)=>match scL as,scL bs with
   | some la,some lb=>scK la=n/\scK lb=n/\K (.bool (neg != decide (la=lb))) [] [] H
   | _,_=>False
  | _,_=>False
 | .b2s x=>match Qe F x with
  | some v=>match bytesV H v with
   | some (rd,l)=>K (.str (strN l)) rd [] H
   | none=>False
  | none=>False
 | .s2b x=>match Qe F x with
  | some (.str s)=>K (.rs 1 (rowS s)) [] [] H
  | _=>False
 | .stake x i=>match Qe F x,Qe F i with
  | some (.str s),some (.int _ n)=>0<=n/\n<=s.size/\K (.str (s.extract 0 n.toNat)) [] [] H
  | _,_=>False
 | .sidx x i=>match Qe F x,Qe F i with
  | some (.str s),some (.int _ n)=>match s.toList[n.toNat]? with
   | some b=>0<=n/\K (.int .u8 b.toNat) [] [] H
   | none=>False
  | _,_=>False
 | .bot=>False
 | .mkmap=>get H d=none/\K (.mp d) [] [d] ((d,.mset [])::H)
 | .mapadd nk m k v=>match Qe F m,Qe F k,Qe F v with
  | some (.mp i),some (.agg cs),some (.bool true)=>match get H i,Jg cs with
   | some (.mset ks),some l=>l.length=nk/\(∀ q∈ks,q.length=nk)/\l ∉ ks/\K .und [] [i] ((i,.mset (ks++[l]))::H)
   | _,_=>False
  | _,_,_=>False
 | .mhas nk m k=>match Qe F m,Qe F k with
  | some (.mp i),some (.agg cs)=>match get H i,Jg cs with
   | some (.mset ks),some l=>l.length=nk/\(∀ q∈ks,q.length=nk)/\K (.bool (decide (l∈ks))) [i] [] H
   | _,_=>False
  | _,_=>False
 | .lenm x=>match Qe F x with
  | some (.mp i)=>match get H i with
   | some (.mset ks)=>K (.int .i64 ks.length) [i] [] H
   | _=>False
  | _=>False
 | .mkif t x=>match Qe F x with
  | some v=>QB v=true/\K (.ifc t v) [] [] H
  | none=>False
 | .mkbm name x=>match Qe F x with
  | some v=>QB v=true/\K (.bm name v) [] [] H
  | none=>False
 | .ifnil neg x=>match Qe F x with
  | some .nili=>K (.bool (!neg)) [] [] H
  | some (.ifc _ _)=>K (.bool neg) [] [] H
  | _=>False
 | .aeq neg n x y=>match Qe F x,Qe F y with
  | some (.agg as),some (.agg bs)=>match Jg as,Jg bs with
   | some la,some lb=>la.length=n/\lb.length=n/\K (.bool (neg != decide (la=lb))) [] [] H
   | _,_=>False
  | _,_=>False
 | .mkbnd f x=>match Qe F x with
  | some v=>K (.bnd (.func f) v) [] [] H
  | none=>False
 | .fins m k v=>match Qe F m,Qe F k,Qe F v with
  | some (.mp i),some (.int .i64 n),some u=>match get H i with
   | some (.mset [])=>K .und [] [i] ((i,.fm [(n,u)])::H)
   | some (.fm kvs)=>hasK kvs n=false/\K .und [] [i] ((i,.fm (kvs++[(n,u)]))::H)
   | _=>False
  | _,_,_=>False
 | .flk m k=>match Qe F m,Qe F k with
  | some (.mp i),some (.int .i64 n)=>match get H i with
   | some (.fm kvs)=>nodupI kvs=true/\K (lkF kvs n) [i] [] H
   | _=>False
  | _,_=>False
 | .call .. => False
 | .callv .. => False
 | .inv .. => False
end Go.Proofs.YthmbjgnjfjjibaaGreatDoor
namespace Go.Proofs.YthmbjgnjfjjibaaGreatDoor
open Go.RowKit
set_option maxRecDepth 100000
def Arg.slots:Arg->List Nat
 | .t n=>[n]
 | .c _=>[]
def FRs (ts:List Nat) (F:List (Nat×AV)) (a:Act) (w:World) (S:Nat->Prop) (ρ:Rho):Prop :=
 ∀ t,t∈ts->∀ v,get F t=some v->VR w S ρ v (a.tmps.getD t undef)
def OpT (P:Program) (o:Oper) (ts:List Nat) (F:List (Nat×AV)) (H:List (Nat×Ob)) (rd wr:List Nat) (v:AV) (H1:List (Nat×Ob)):Prop :=
 ∀ (S:Nat->Prop) (ρ:Rho) (a:Act) (w:World) (Q:Exit->Act->World->Prop) (K:Act->World->Prop),FRs ts F a w S ρ->(∀ b,S b->b<w.heap.size) →
  HRi (fun i=>i∈rd\/i∈wr) w S ρ H->(∀ i,i∈wr->get H i=none->ρ i=none) →
  (∀ cv w' S' ρ',VR w' S' ρ' v cv->HRi (fun i=>i∈rd\/i∈wr) w' S' ρ' H1 →
   Ext w S (Jb ρ H fun i=>i∈rd\/i∈wr) ρ w' S' (Jb ρ' H1 fun i=>i∈rd\/i∈wr) ρ' (fun i=>i∈wr/\get H i=none)->K (a.put o.dst cv) w') →
  o.wp P a w K Q\/(o.asks P a w/\LetsOut Q)
section inv
variable {w:World} {S:Nat->Prop} {ρ:Rho} {c:Value}
theorem VR.int_inv {k:IntKind} {n:Int} (h:VR w S ρ (.int k n) c):c = .int k n:=by cases h with | cl h=>cases h; rfl
theorem VR.bool_inv {b:Bool} (h:VR w S ρ (.bool b) c):c = .bool b:=by cases h with | cl h=>cases h; rfl
theorem VR.nilp_inv (h:VR w S ρ .nilp c):c = .pointer none:=by cases h with | cl h=>cases h; rfl
theorem VR.nils_inv (h:VR w S ρ .nils c):c = .slice none 0 0:=by cases h with | cl h=>cases h; rfl
theorem VR.und_inv (h:VR w S ρ .und c):c=undef:=by cases h with | cl h=>cases h; rfl
theorem VR.ptr_inv {i j o:Nat} (h:VR w S ρ (.ptr i j o) c):∃ b z cap,ρ i=some (some b,z,cap)/\c = .pointer (some ⟨b,j*z+o,none⟩):=by
 cases h with
 | cl h=>cases h
 | ptr _ _ _ b z cap h=>exact ⟨b,z,cap,h,rfl⟩
theorem VR.sl_inv {i j n:Nat} (h:VR w S ρ (.sl i j n) c):(∃ b z cap cap',ρ i=some (some b,z,cap)/\j+cap'=cap/\n<=cap'/\c = .slice (some ⟨b,j*z,none⟩) n cap') ∨
  (∃ z,ρ i=some (none,z,0)/\j=0/\n=0/\c = .slice none 0 0):=by
 cases h with
 | cl h=>cases h
 | sl _ _ _ b z cap cap' h hc hn=>exact .inl ⟨b,z,cap,cap',h,hc,hn,rfl⟩
 | sl0 _ z h=>exact .inr ⟨z,h,rfl,rfl,rfl⟩
theorem VR.sa_inv {i j o n:Nat} (h:VR w S ρ (.sa i j o n) c):∃ b z cap cap',ρ i=some (some b,z,cap)/\n<=cap'/\c = .slice (some ⟨b,j*z+o,none⟩) n cap':=by
 cases h with
 | cl h=>cases h
 | sa _ _ _ _ b z cap cap' h hn=>exact ⟨b,z,cap,cap',h,hn,rfl⟩
theorem VR.rp_inv {cs:List AV} (h:VR w S ρ (.rp cs) c):∃ (b off:Nat) (cf:Nat->Value),c = .pointer (some ⟨b,off,none⟩)/\S b ∧
  (∀ o v,cs[o]?=some v->w.cell? ⟨b,off+o,none⟩=some (cf o)/\(cf o).oneCell'=true)/\(∀ o v,cs[o]?=some v->CR w S v (cf o)):=by
 cases h with
 | cl h=>cases h with
  | rp _ b off cf hS h1 h2=>exact ⟨b,off,cf,rfl,hS,h1,h2⟩
theorem VR.rs_inv {z:Nat} {els:List (List AV)} (h:VR w S ρ (.rs z els) c):(els=[]/\∃ a cap,c = .slice a 0 cap) ∨
  ∃ (b off cap:Nat) (cf:Nat->Nat->Value),c = .slice (some ⟨b,off,none⟩) els.length cap/\S b/\els.length<=cap ∧
   (∀ (j:Nat) (el:List AV) (o:Nat) (v:AV),els[j]?=some el->el[o]?=some v->w.cell? ⟨b,off+j*z+o,none⟩=some (cf j o)/\(cf j o).oneCell'=true) ∧
   (∀ (j:Nat) (el:List AV) (o:Nat) (v:AV),els[j]?=some el->el[o]?=some v->CR w S v (cf j o)):=by
 cases h with
 | cl h=>cases h with
  | rs0 z a cap=>exact .inl ⟨rfl,a,cap,rfl⟩
  | rs _ _ b off cap cf hS hcap h1 h2=>exact .inr ⟨b,off,cap,cf,rfl,hS,hcap,h1,h2⟩
theorem VR.agg_inv {cs:List AV} (h:VR w S ρ (.agg cs) c):∃ C:Array Value,c = .agg C/\C.size=cs.length/\(∀ j v,cs[j]?=some v->(C.getD j undef).oneCell'=true) ∧
  ∀ j v,cs[j]?=some v->VR w S ρ v (C.getD j undef):=by
 cases h with
 | cl h=>cases h with
  | agg _ C hn h1 h=>exact ⟨C,rfl,hn,h1,fun j v hv=>.cl (h j v hv)⟩
 | agg _ C hn h1 h=>exact ⟨C,rfl,hn,h1,h⟩
theorem VR.tup_inv {cs:List AV} (h:VR w S ρ (.tup cs) c):∃ C:Array Value,c = .tuple C/\C.size=cs.length/\∀ j v,cs[j]?=some v->VR w S ρ v (C.getD j undef):=by
 cases h with
 | cl h=>cases h with
  | tup _ C hn h=>exact ⟨C,rfl,hn,fun j v hv=>.cl (h j v hv)⟩
 | tup _ C hn h=>exact ⟨C,rfl,hn,h⟩
theorem VR.fn_inv {f:Fn} {cs:List AV} (h:VR w S ρ (.fn f cs) c):∃ C:Array Value,c = .func f #[] C/\C.size=cs.length/\∀ j v,cs[j]?=some v->VR w S ρ v (C.getD j undef):=by
 cases h with
 | cl h=>cases h with
  | fn _ _ C hn h=>exact ⟨C,rfl,hn,fun j v hv=>.cl (h j v hv)⟩
 | fn _ _ C hn h=>exact ⟨C,rfl,hn,h⟩
end inv
variable {r:Arg} {F:List (Nat×AV)} {ts:List Nat}
theorem Qd {x:Operand} (h:Qu x=some r) {a:Act} {w:World} {S:Nat->Prop} {ρ:Rho} (hF:FRs ts F a w S ρ)
  (hs:∀ t,t∈r.slots->t∈ts) {v:AV} (hv:Qe F r=some v):VR w S ρ v (a.eval x):=by
 cases x with
 | tmp t =>
  simp [Qu] at h; subst h
  exact hF t (hs t (by simp [Arg.slots])) v hv
 | const u =>
  simp only [Qu] at h
  split at h
  ·rename_i x hx
   injection h with h; subst h
   simp [Qe] at hv; subst hv
   exact .cl (conv_spec 2 u _ hx)
  ·cases h
 | global g=>simp [Qu] at h
 | func f =>
  simp [Qu] at h; subst h
  simp [Qe] at hv; subst hv
  exact .cl (.fn (.func f) [] #[] rfl (by simp))
theorem Ext.refl (w:World) (S O:Nat->Prop) (ρ:Rho) (new:Nat->Prop) (hS:∀ b,S b->b<w.heap.size):Ext w S O ρ w S O ρ new :=
 ⟨Keep.refl _ _,fun _ h=>h,fun _ h=>.inl h,hS,fun _ h=>.inl h,fun _ _=>rfl⟩
theorem OpT.pure {P:Program} {o:Oper} {H:List (Nat×Ob)} {rd:List Nat} {v:AV}
  (h:∀ (S:Nat->Prop) (ρ:Rho) (a:Act) (w:World),FRs ts F a w S ρ->HRi (fun i=>i∈rd) w S ρ H->∃ cv,(execOp a.eval o).run P w = .ok (.value cv) w/\VR w S ρ v cv) :
  OpT P o ts F H rd [] v H:=by
 intro S ρ a w Q K hF hS hH _ hK
 have hH':HRi (fun i=>i∈rd) w S ρ H:=⟨fun i ob hi=>hH.ob i ob (.inl hi),fun i j oi oj b z z' c c' hi hj=>hH.dis i j oi oj b z z' c c' (.inl hi) (.inl hj)⟩
 obtain ⟨cv,hr,hv⟩:=h S ρ a w hF hH'
 refine .inl ?_
 unfold Oper.wp
 rw [hr]
 exact hK cv w S ρ hv hH (Ext.refl _ _ _ _ _ hS)
variable {K:AV->Prop}
variable {op:BinOp} {k':IntKind}
variable {rx ry:Arg}
section pureOps
variable {P:Program} {o:Oper} {F:List (Nat×AV)} {H:List (Nat×Ob)}
theorem opt_mv {x:Operand} (hx:Qu x=some r) (ho:o.op = .move x\/o.op = .assign x) {v:AV} (hv:Qe F r=some v):OpT P o r.slots F H [] [] v H :=
 OpT.pure fun S ρ a w hF _=>⟨a.eval x,by rcases ho with ho | ho <;> simp [execOp,ho],Qd hx hF (fun _ h=>h) hv⟩
theorem opt_pick {c x y:Operand} {rc:Arg} (hc:Qu c=some rc) (hx:Qu x=some rx) (hy:Qu y=some ry) (ho:o.op = .pick c x y) {t:Bool} {v:AV}
  (ht:Qe F rc=some (.bool t)) (hv:Qe F (if t=true then rx else ry)=some v):OpT P o (rc.slots++rx.slots++ry.slots) F H [] [] v H :=
 OpT.pure fun S ρ a w hF _=>by
  have e:=(Qd hc hF (fun _ h=>by simp [h]) ht).bool_inv
  refine ⟨if t=true then a.eval x else a.eval y,by simp [execOp,ho,e,asBool],?_⟩
  split at hv
  ·rename_i h; rw [if_pos h]; exact Qd hx hF (fun _ h=>by simp [h]) hv
  ·rename_i h; rw [if_neg h]; exact Qd hy hF (fun _ h=>by simp [h]) hv
theorem opt_nilc {x:Operand} (hx:Qu x=some r) (ho:o.op = .nilCheck x) {v:AV} (hv:Qe F r=some v) (hn:(∃ i j k,v = .ptr i j k)\/∃ cs,v = .rp cs) :
  OpT P o r.slots F H [] [] v H :=
 OpT.pure fun S ρ a w hF _=>by
  have e:=Qd hx hF (fun _ h=>h) hv
  refine ⟨a.eval x,?_,e⟩
  rcases hn with ⟨i,j,k,rfl⟩ | ⟨cs,rfl⟩
  ·obtain ⟨b,z,cap,_,e⟩:=e.ptr_inv
   simp [execOp,ho,e]
  ·obtain ⟨b,off,cf,e,_⟩:=e.rp_inv
   simp [execOp,ho,e]
theorem run_eqGuard_int {t:TypeId} {x y:Operand} {k:IntKind} {n m:Int} (w:World):(eqGuard op t x y (.int k n) (.int k' m)).run P w = .ok () w:=by
 unfold eqGuard
 cases op <;> simp
theorem opt_bin {t yt:TypeId} {x y:Operand} (hx:Qu x=some rx) (hy:Qu y=some ry) (ho:o.op = .binOp op t x y yt)
  {k:IntKind} {n m:Int} (h1:Qe F rx=some (.int k n)) (h2:Qe F ry=some (.int k' m)) (h:binV op k k' n m K) :
  ∃ v,K v/\OpT P o (rx.slots++ry.slots) F H [] [] v H:=by
 -- the value does not depend on the world
 have one:∃ v cv,K v/\(∀ w:World,(binOp op t (.int k n) (.int k' m)).run P w = .ok cv w)/\∀ w S,CR w S v cv:=by
  cases op <;> simp only [binV] at h
  case shl=>exact ⟨_,_,h.2,fun w=>by simp [binOp,Op.shift,Int.not_lt.2 h.1],fun _ _=>.int _ _⟩
  case shr=>exact ⟨_,_,h.2,fun w=>by simp [binOp,Op.shift,Int.not_lt.2 h.1],fun _ _=>.int _ _⟩
  case add=>obtain ⟨rfl,h⟩:=h; exact ⟨_,_,h,fun w=>by simp [binOp,Op.intArith],fun _ _=>.int _ _⟩
  case sub=>obtain ⟨rfl,h⟩:=h; exact ⟨_,_,h,fun w=>by simp [binOp,Op.intArith],fun _ _=>.int _ _⟩
  case mul=>obtain ⟨rfl,h⟩:=h; exact ⟨_,_,h,fun w=>by simp [binOp,Op.intArith],fun _ _=>.int _ _⟩
  case quo=>obtain ⟨rfl,h0,h⟩:=h; exact ⟨_,_,h,fun w=>by simp [binOp,Op.intDiv,h0],fun _ _=>.int _ _⟩
  case rem=>obtain ⟨rfl,h0,h⟩:=h; exact ⟨_,_,h,fun w=>by simp [binOp,Op.intDiv,h0],fun _ _=>.int _ _⟩
  case and=>obtain ⟨rfl,h⟩:=h; exact ⟨_,_,h,fun w=>by simp [binOp,Op.intBits,bits],fun _ _=>.int _ _⟩
  case or=>obtain ⟨rfl,h⟩:=h; exact ⟨_,_,h,fun w=>by simp [binOp,Op.intBits,bits],fun _ _=>.int _ _⟩
  case xor=>obtain ⟨rfl,h⟩:=h; exact ⟨_,_,h,fun w=>by simp [binOp,Op.intBits,bits],fun _ _=>.int _ _⟩
  case andNot=>obtain ⟨rfl,h⟩:=h; exact ⟨_,_,h,fun w=>by simp [binOp,Op.intBits,bits],fun _ _=>.int _ _⟩
  case eql=>obtain ⟨rfl,h⟩:=h; exact ⟨_,_,h,fun w=>by simp [binOp,Op.intCmp],fun _ _=>.bool _⟩
  case neq=>obtain ⟨rfl,h⟩:=h; exact ⟨_,_,h,fun w=>by simp [binOp,Op.intCmp],fun _ _=>.bool _⟩
  case lss=>obtain ⟨rfl,h⟩:=h; exact ⟨_,_,h,fun w=>by simp [binOp,Op.intCmp],fun _ _=>.bool _⟩
  case leq=>obtain ⟨rfl,h⟩:=h; exact ⟨_,_,h,fun w=>by simp [binOp,Op.intCmp],fun _ _=>.bool _⟩
  case gtr=>obtain ⟨rfl,h⟩:=h; exact ⟨_,_,h,fun w=>by simp [binOp,Op.intCmp],fun _ _=>.bool _⟩
  case geq=>obtain ⟨rfl,h⟩:=h; exact ⟨_,_,h,fun w=>by simp [binOp,Op.intCmp],fun _ _=>.bool _⟩
 obtain ⟨v,cv,hK,hr,hcr⟩:=one
 refine ⟨v,hK,OpT.pure fun S ρ a w hF _=>?_⟩
 have e1:=(Qd hx hF (fun _ h=>by simp [h]) h1).int_inv
 have e2:=(Qd hy hF (fun _ h=>by simp [h]) h2).int_inv
 exact ⟨cv,by simp [execOp,ho,e1,e2,run_eqGuard_int,hr w],.cl (hcr w S)⟩
theorem opt_un {op:UnOp} {t:TypeId} {x:Operand} (hx:Qu x=some r)
  (h:match op,Qe F r with
   | .not,some (.bool b)=>K (.bool (!b))
   | .neg,some (.int k n)=>K (.int k (k.wrap (0-n)))
   | .xor,some (.int k n)=>K (.int k (bits .xor k (if k.signed then -1 else k.max) n))
   | _,_=>False) (ho:o.op = .unOp op t x):∃ v,K v/\OpT P o r.slots F H [] [] v H:=by
 cases hv:Qe F r with
 | none=>rw [hv] at h; cases op <;> exact h.elim
 | some v =>
  rw [hv] at h
  cases op <;> cases v <;> first | exact h.elim | skip
  ·rename_i k n
   refine ⟨_,h,OpT.pure fun S ρ a w hF _=>?_⟩
   have e:=(Qd hx hF (fun _ h=>h) hv).int_inv
   exact ⟨_,by simp [execOp,ho,e,Op.unary,Op.intArith],.cl (.int _ _)⟩
  ·rename_i k n
   refine ⟨_,h,OpT.pure fun S ρ a w hF _=>?_⟩
   have e:=(Qd hx hF (fun _ h=>h) hv).int_inv
   have hb:Op.intBits .xor k (if k.signed=true then -1 else k.max) n=Pure.pure (.int k (bits .xor k (if k.signed=true then -1 else k.max) n)):=rfl
   exact ⟨_,by simp [execOp,ho,e,Op.unary,hb],.cl (.int _ _)⟩
  ·rename_i b
   refine ⟨_,h,OpT.pure fun S ρ a w hF _=>?_⟩
   have e:=(Qd hx hF (fun _ h=>h) hv).bool_inv
   exact ⟨_,by simp [execOp,ho,e,Op.unary],.cl (.bool _)⟩
end pureOps
end Go.Proofs.YthmbjgnjfjjibaaGreatDoor
namespace Go.Proofs.YthmbjgnjfjjibaaGreatDoor
open Go.RowKit
set_option maxRecDepth 100000
variable {rz:Arg} {k'':IntKind}
variable {ry:Arg} {ats:Array TypeId}
variable {rx:Arg}
variable {C:Array Value}
variable {K:AV->Prop} {fields:Array Field} {fd:Field}
variable {r:Arg} {k':IntKind}
section
variable {P:Program} {o:Oper} {F:List (Nat×AV)} {H:List (Nat×Ob)}
theorem info_of_sizeP {t:TypeId} {n:Nat} (h:QL P t=some n):∃ i,P.info? t=some i/\i.size=n:=by
 unfold QL at h
 cases hi:P.info? t with
 | none=>simp [hi] at h
 | some i=>simp [hi] at h; exact ⟨i,rfl,h⟩
theorem QF {t:TypeId} {n:Nat} (h:QL P t=some n) (w:World):(sizeOf t).run P w = .ok n w:=by
 obtain ⟨i,hi,hn⟩:=info_of_sizeP h
 simp [sizeOf,typeInfo,hi,hn]
theorem run_isAggP {t:TypeId} {g:Bool} (h:aggP P t=some g) (w:World):(isAgg t).run P w = .ok g w:=by
 unfold aggP at h
 cases hu:P.underlying t with
 | none=>simp [hu] at h
 | some d=>cases d <;> simp [hu] at h <;> subst h <;> simp [isAgg,run_underlying hu]
theorem opt_cvt {src dst:TypeId} {x:Operand} {k ks:IntKind} (hx:Qu x=some r) (ho:o.op = .convert src dst x) (h1:P.underlying src=some (.int ks)) (h2:P.underlying dst=some (.int k))
 {n:Int} (hv:Qe F r=some (.int k' n)):OpT P o r.slots F H [] [] (.int k (k.wrap n)) H :=
 OpT.pure fun S ρ a w hF _=>by
  have e:=(Qd hx hF (fun _ h=>h) hv).int_inv
  exact ⟨.int k (k.wrap n),by simp [execOp,ho,e,convert,run_underlying h1,run_underlying h2,Conv.intToInt],.cl (.int _ _)⟩
def XP:List Arg->List Nat
 | []=>[]
 | x::l=>x.slots++XP l
theorem cargs_ok {ts:List Nat} {a:Act} {w:World} {S:Nat->Prop} {ρ:Rho} (hF:FRs ts F a w S ρ):∀ (l:List Operand) (rs:List Arg) (vs:List AV),cargs l=some rs →
  (∀ t,t∈XP rs->t∈ts)->XT F rs=some vs->(l.map a.eval).length=vs.length/\∀ j v,vs[j]?=some v->VR w S ρ v ((l.map a.eval).toArray.getD j undef)
 | [],rs,vs,h,_,hv=>by
  simp [cargs] at h; subst h
  simp [XT] at hv; subst hv
  simp
 | x::l,rs,vs,h,hs,hv=>by
  simp only [cargs] at h
  split at h
  ·rename_i r rs' hx hl
   injection h with h; subst h
   simp only [XT] at hv
   split at hv
   ·rename_i v vs' h1 h2
    injection hv with hv; subst hv
    obtain ⟨e1,e2⟩:=cargs_ok hF l rs' vs' hl (fun t ht=>hs t (by simp [XP,ht])) h2
    refine ⟨by simpa using e1,fun j u hu=>?_⟩
    cases j with
    | zero=>simp at hu; subst hu; simpa using Qd hx hF (fun t ht=>hs t (by simp [XP,ht])) h1
    | succ j=>simpa using e2 j u (by simpa using hu)
   ·cases hv
  ·cases h
theorem opt_mkfn {fn:Fn} {first captured:Array Operand} {rs:List Arg} (hf:first.size=0) (hc:cargs captured.toList=some rs) (ho:o.op = .makeFunc fn first captured)
  {vs:List AV} (hv:XT F rs=some vs):OpT P o (XP rs) F H [] [] (.fn fn vs) H :=
 OpT.pure fun S ρ a w hF _=>by
  obtain ⟨e1,e2⟩:=cargs_ok hF _ _ _ hc (fun _ h=>h) hv
  have h0:first = #[]:=Array.size_eq_zero_iff.1 hf
  refine ⟨.func fn #[] (captured.map a.eval),by simp [execOp,ho,h0,Instr.makeFunc],.fn fn vs _ (by simpa using e1) fun j v h=>?_⟩
  have:=e2 j v h
  have e:(captured.map a.eval)=(captured.toList.map a.eval).toArray:=by rw [← Array.toList_map,Array.toArray_toList]
  rw [e]; exact this
theorem run_fieldPlace {a:Addr} {f:Field} {n:Nat} (h:QL P f.type=some n) (hn:n≠0) (w:World):(fieldPlace a f).run P w = .ok (a.add f.offset) w:=by
 simp [fieldPlace,QF h,hn]
theorem X7 (b off k:Nat):(⟨b,off,none⟩:Addr).add k=⟨b,off+k,none⟩:=by unfold Addr.add; split <;> simp_all
theorem opt_fa {s:TypeId} {f n:Nat} {x:Operand} (hs:P.underlying s=some (.struct fields)) (hf:fields[f]?=some fd) (hz:QL P fd.type=some n)
  (hn:n≠0) (hx:Qu x=some r) (ho:o.op = .fieldAddr s x f)
  (h:match Qe F r with
   | some (.ptr i j p)=>K (.ptr i j (p+fd.offset))
   | some (.rp cs)=>K (.rp (cs.drop fd.offset))
   | _=>False):∃ v,K v/\OpT P o r.slots F H [] [] v H:=by
 split at h
 ·rename_i i j p hv
  refine ⟨_,h,OpT.pure fun S ρ a w hF _=>?_⟩
  obtain ⟨b,z,cap,hρ,e⟩:=(Qd hx hF (fun _ h=>h) hv).ptr_inv
  refine ⟨.pointer (some ⟨b,j*z+(p+fd.offset),none⟩),?_,.ptr _ _ _ b z cap hρ⟩
  simp [execOp,ho,e,Instr.fieldAt,run_underlying hs,hf,Instr.sureAddr,run_fieldPlace hz hn,X7,Nat.add_assoc]
 ·rename_i cs hv
  refine ⟨_,h,OpT.pure fun S ρ a w hF _=>?_⟩
  obtain ⟨b,off,cf,e,hS,h1,h2⟩:=(Qd hx hF (fun _ h=>h) hv).rp_inv
  refine ⟨.pointer (some ⟨b,off+fd.offset,none⟩),?_,.cl (.rp _ b _ (fun k=>cf (fd.offset+k)) hS (fun k v hk=>?_) (fun k v hk=>?_))⟩
  ·simp [execOp,ho,e,Instr.fieldAt,run_underlying hs,hf,Instr.sureAddr,run_fieldPlace hz hn,X7]
  ·rw [List.getElem?_drop] at hk
   rw [Nat.add_assoc]; exact h1 _ v hk
  ·rw [List.getElem?_drop] at hk
   exact h2 _ v hk
 ·exact h.elim
theorem getD_extract (C:Array Value) (a n j:Nat) (hj:j<n) (h:a+n<=C.size):(C.extract a (a+n)).getD j undef=C.getD (a+j) undef:=by
 have h1:j<(C.extract a (a+n)).size:=by simp; omega
 have h2:a+j<C.size:=by omega
 simp only [Array.getD_eq_getD_getElem?,Array.getElem?_eq_getElem h1,Array.getElem?_eq_getElem h2,Option.getD_some,Array.getElem_extract]
theorem part_agg {w:World} {S:Nat->Prop} {ρ:Rho} {cs:List AV} (hn:C.size=cs.length) (h1:∀ j v,cs[j]?=some v->(C.getD j undef).oneCell'=true)
  (h:∀ j v,cs[j]?=some v->VR w S ρ v (C.getD j undef)) {off n:Nat} (hb:off+n<=cs.length):VR w S ρ (.agg ((cs.drop off).take n)) (.agg (C.extract off (off+n))):=by
 refine .agg _ _ (by simp; omega) (fun j v hv=>?_) (fun j v hv=>?_)
 all_goals
  have hj:j<n:=by
   have:=(List.getElem?_eq_some_iff.1 hv).1
   simp at this; omega
  rw [List.getElem?_take,if_pos hj,List.getElem?_drop] at hv
  rw [getD_extract C off n j hj (by omega)]
 ·exact h1 _ v hv
 ·exact h _ v hv
theorem getD_some {j:Nat} (h:j<C.size):C[j]?=some (C.getD j undef):=by simp [Array.getD,h]
theorem JJ {ty:TypeId} {g:Bool} {n:Nat} (hg:aggP P ty=some g) (hz:QL P ty=some n) (w:World) (C:Array Value) (off:Nat) (hb:off<C.size\/g=true) :
  (part ty C off).run P w = .ok (if g=true then .agg (C.extract off (off+n)) else C.getD off undef) w:=by
 cases g with
 | true=>simp [part,run_isAggP hg,QF hz]
 | false =>
  have h1:off<C.size:=by simpa using hb
  simp [part,run_isAggP hg,Array.getD,h1]
theorem opt_fld {t:TypeId} {f n:Nat} {g:Bool} {x:Operand} (hs:P.underlying t=some (.struct fields)) (hf:fields[f]?=some fd)
  (hg:aggP P fd.type=some g) (hz:QL P fd.type=some n) (hx:Qu x=some r) (ho:o.op = .field t x f)
  (h:match Qe F r with
   | some (.agg cs)=>if g=true then fd.offset+n<=cs.length/\K (.agg ((cs.drop fd.offset).take n)) else match cs[fd.offset]? with
    | some v=>K v
    | none=>False
   | _=>False):∃ v,K v/\OpT P o r.slots F H [] [] v H:=by
 split at h
 ·rename_i cs hv
  cases g with
  | true =>
   simp only [if_true] at h
   refine ⟨_,h.2,OpT.pure fun S ρ a w hF _=>?_⟩
   obtain ⟨C,e,hn,h1,h2⟩:=(Qd hx hF (fun _ h=>h) hv).agg_inv
   exact ⟨.agg (C.extract fd.offset (fd.offset+n)),by simp [execOp,ho,e,Instr.field,run_underlying hs,hf,asAgg,JJ hg hz],part_agg hn h1 h2 h.1⟩
  | false =>
   simp only [Bool.false_eq_true,if_false] at h
   split at h
   ·rename_i v hv'
    refine ⟨v,h,OpT.pure fun S ρ a w hF _=>?_⟩
    obtain ⟨C,e,hn,h1,h2⟩:=(Qd hx hF (fun _ h=>h) hv).agg_inv
    have hl:fd.offset<C.size:=by rw [hn]; exact (List.getElem?_eq_some_iff.1 hv').1
    exact ⟨C.getD fd.offset undef,by simp [execOp,ho,e,Instr.field,run_underlying hs,hf,asAgg,JJ hg hz,hl],h2 _ v hv'⟩
   ·exact h.elim
 ·exact h.elim
theorem opt_ixval {t e:TypeId} {len z:Nat} {g:Bool} {x i:Operand} {ri:Arg} (hs:P.underlying t=some (.array len e)) (hg:aggP P e=some g) (hz:QL P e=some z)
  (hx:Qu x=some rx) (hi:Qu i=some ri) (ho:o.op = .index t x i)
  (h:match Qe F rx,Qe F ri with
   | some (.agg cs),some (.int _ k)=>0<=k/\k<len/\(if g=true then k.toNat*z+z<=cs.length/\K (.agg ((cs.drop (k.toNat*z)).take z)) else match cs[k.toNat*z]? with
    | some v=>K v
    | none=>False)
   | _,_=>False):∃ v,K v/\OpT P o (rx.slots++ri.slots) F H [] [] v H:=by
 split at h
 ·rename_i cs ik k hv hk
  obtain ⟨k0,k1,h⟩:=h
  cases g with
  | true =>
   simp only [if_true] at h
   refine ⟨_,h.2,OpT.pure fun S ρ a w hF _=>?_⟩
   obtain ⟨C,e1,hn,h1,h2⟩:=(Qd hx hF (fun _ h=>by simp [h]) hv).agg_inv
   have e2:=(Qd hi hF (fun _ h=>by simp [h]) hk).int_inv
   exact ⟨.agg (C.extract (k.toNat*z) (k.toNat*z+z)),by simp [execOp,ho,e1,e2,Instr.index,asIntOf,run_underlying hs,k0,k1,QF hz,JJ hg hz],part_agg hn h1 h2 h.1⟩
  | false =>
   simp only [Bool.false_eq_true,if_false] at h
   split at h
   ·rename_i v hv'
    refine ⟨v,h,OpT.pure fun S ρ a w hF _=>?_⟩
    obtain ⟨C,e1,hn,h1,h2⟩:=(Qd hx hF (fun _ h=>by simp [h]) hv).agg_inv
    have e2:=(Qd hi hF (fun _ h=>by simp [h]) hk).int_inv
    have hl:k.toNat*z<C.size:=by rw [hn]; exact (List.getElem?_eq_some_iff.1 hv').1
    exact ⟨C.getD (k.toNat*z) undef,by simp [execOp,ho,e1,e2,Instr.index,asIntOf,run_underlying hs,k0,k1,QF hz,JJ hg hz,hl],h2 _ v hv'⟩
   ·exact h.elim
 ·exact h.elim
theorem opt_ext {x:Operand} {i:Nat} (hx:Qu x=some r) (ho:o.op = .extract x i) {vs:List AV} (hv:Qe F r=some (.tup vs)) {v:AV} (hi:vs[i]?=some v) :
  OpT P o r.slots F H [] [] v H :=
 OpT.pure fun S ρ a w hF _=>by
  obtain ⟨C,e,hn,h2⟩:=(Qd hx hF (fun _ h=>h) hv).tup_inv
  have hl:i<C.size:=by rw [hn]; exact (List.getElem?_eq_some_iff.1 hi).1
  have hu:=getD_some hl
  have h3:=h2 _ v hi
  generalize C.getD i undef=u at hu h3
  exact ⟨u,by simp [execOp,ho,e,Instr.extract,hu],h3⟩
theorem opt_len {t e:TypeId} {x:Operand} (ht:P.underlying t=some (.slice e)) (hx:Qu x=some r)
  (ho:o.op = .call { callee:=.builtin .len,args := #[x],argTypes := #[t] })
  (h:match Qe F r with
   | some (.rs _ els)=>K (.int .i64 els.length)
   | some (.sl _ _ n)=>K (.int .i64 n)
   | some (.sa _ _ _ n)=>K (.int .i64 n)
   | some .nils=>K (.int .i64 0)
   | _=>False):∃ v,K v/\OpT P o r.slots F H [] [] v H:=by
 have run:∀ (a:Act) (w:World) (A:Option Addr) (n c:Nat),a.eval x = .slice A n c->(execOp a.eval o).run P w = .ok (.value (.int .i64 n)) w:=by
  intro a w A n c e
  simp [execOp,ho,e,resolve,invoke,builtin,Builtin.len_,run_underlying ht,goInt]
 split at h
 ·rename_i z els hv
  refine ⟨_,h,OpT.pure fun S ρ a w hF _=>?_⟩
  rcases (Qd hx hF (fun _ h=>h) hv).rs_inv with ⟨rfl,A,c,e⟩ | ⟨b,off,cap,cf,e,_⟩
  ·exact ⟨_,run a w _ _ _ e,.cl (.int _ _)⟩
  ·exact ⟨_,run a w _ _ _ e,.cl (.int _ _)⟩
 ·rename_i i j n hv
  refine ⟨_,h,OpT.pure fun S ρ a w hF _=>?_⟩
  rcases (Qd hx hF (fun _ h=>h) hv).sl_inv with ⟨b,z,cap,cap',_,_,_,e⟩ | ⟨z,_,_,rfl,e⟩
  ·exact ⟨_,run a w _ _ _ e,.cl (.int _ _)⟩
  ·exact ⟨_,run a w _ _ _ e,.cl (.int _ _)⟩
 ·rename_i i j p n hv
  refine ⟨_,h,OpT.pure fun S ρ a w hF _=>?_⟩
  obtain ⟨b,z,cap,cap',_,_,e⟩:=(Qd hx hF (fun _ h=>h) hv).sa_inv
  exact ⟨_,run a w _ _ _ e,.cl (.int _ _)⟩
 ·rename_i hv
  refine ⟨_,h,OpT.pure fun S ρ a w hF _=>?_⟩
  exact ⟨_,run a w _ _ _ (Qd hx hF (fun _ h=>h) hv).nils_inv,.cl (.int _ _)⟩
 ·exact h.elim
theorem opt_lenc {t e:TypeId} {n:Nat} {x:Operand} (ht:P.underlying t=some (.array n e)) (ho:o.op = .call { callee:=.builtin .len,args := #[x],argTypes := #[t] }) (ts:List Nat) :
  OpT P o ts F H [] [] (.int .i64 n) H :=
 OpT.pure fun S ρ a w hF _=>⟨.int .i64 n,by simp [execOp,ho,resolve,invoke,builtin,Builtin.len_,run_underlying ht,goInt],.cl (.int _ _)⟩
theorem opt_mn {x y:Operand} (hx:Qu x=some rx) (hy:Qu y=some ry) (ho:o.op = .call { callee:=.builtin .min,args := #[x,y],argTypes:=ats })
  {k:IntKind} {n m:Int} (h1:Qe F rx=some (.int k n)) (h2:Qe F ry=some (.int k' m)):OpT P o (rx.slots++ry.slots) F H [] [] (.int k (min n m)) H :=
 OpT.pure fun S ρ a w hF _=>by
  have e1:=(Qd hx hF (fun _ h=>by simp [h]) h1).int_inv
  have e2:=(Qd hy hF (fun _ h=>by simp [h]) h2).int_inv
  have e:(if m<n then m else n)=min n m:=by rw [Int.min_def]; split <;> split <;> omega
  exact ⟨.int k (min n m),by simp [execOp,ho,resolve,invoke,builtin,e1,e2,Builtin.min_,Builtin.min2,e],.cl (.int _ _)⟩
theorem opt_mn3 {x y z:Operand} (hx:Qu x=some rx) (hy:Qu y=some ry) (hz:Qu z=some rz) (ho:o.op = .call { callee:=.builtin .min,args := #[x,y,z],argTypes:=ats })
  {k:IntKind} {n m q:Int} (h1:Qe F rx=some (.int k n)) (h2:Qe F ry=some (.int k' m)) (h3:Qe F rz=some (.int k'' q)):OpT P o (rx.slots++ry.slots++rz.slots) F H [] [] (.int k (min (min n m) q)) H :=
 OpT.pure fun S ρ a w hF _=>by
  have e1:=(Qd hx hF (fun _ h=>by simp [h]) h1).int_inv
  have e2:=(Qd hy hF (fun _ h=>by simp [h]) h2).int_inv
  have e3:=(Qd hz hF (fun _ h=>by simp [h]) h3).int_inv
  have e:(if q<(if m<n then m else n) then q else (if m<n then m else n))=min (min n m) q:=by rw [Int.min_def,Int.min_def]; (repeat' split) <;> omega
  exact ⟨.int k (min (min n m) q),by simp [execOp,ho,resolve,invoke,builtin,e1,e2,e3,Builtin.min_,Builtin.min2,e],.cl (.int _ _)⟩
theorem opt_mx3 {x y z:Operand} (hx:Qu x=some rx) (hy:Qu y=some ry) (hz:Qu z=some rz) (ho:o.op = .call { callee:=.builtin .max,args := #[x,y,z],argTypes:=ats })
  {k:IntKind} {n m q:Int} (h1:Qe F rx=some (.int k n)) (h2:Qe F ry=some (.int k' m)) (h3:Qe F rz=some (.int k'' q)):OpT P o (rx.slots++ry.slots++rz.slots) F H [] [] (.int k (max (max n m) q)) H :=
 OpT.pure fun S ρ a w hF _=>by
  have e1:=(Qd hx hF (fun _ h=>by simp [h]) h1).int_inv
  have e2:=(Qd hy hF (fun _ h=>by simp [h]) h2).int_inv
  have e3:=(Qd hz hF (fun _ h=>by simp [h]) h3).int_inv
  have e:(if q>(if m>n then m else n) then q else (if m>n then m else n))=max (max n m) q:=by rw [Int.max_def,Int.max_def]; (repeat' split) <;> omega
  exact ⟨.int k (max (max n m) q),by simp [execOp,ho,resolve,invoke,builtin,e1,e2,e3,Builtin.max_,Builtin.max2,e],.cl (.int _ _)⟩
theorem opt_mx {x y:Operand} (hx:Qu x=some rx) (hy:Qu y=some ry) (ho:o.op = .call { callee:=.builtin .max,args := #[x,y],argTypes:=ats })
  {k:IntKind} {n m:Int} (h1:Qe F rx=some (.int k n)) (h2:Qe F ry=some (.int k' m)):OpT P o (rx.slots++ry.slots) F H [] [] (.int k (max n m)) H :=
 OpT.pure fun S ρ a w hF _=>by
  have e1:=(Qd hx hF (fun _ h=>by simp [h]) h1).int_inv
  have e2:=(Qd hy hF (fun _ h=>by simp [h]) h2).int_inv
  have e:(if m>n then m else n)=max n m:=by rw [Int.max_def]; split <;> split <;> omega
  exact ⟨.int k (max n m),by simp [execOp,ho,resolve,invoke,builtin,e1,e2,Builtin.max_,Builtin.max2,e],.cl (.int _ _)⟩
end
end Go.Proofs.YthmbjgnjfjjibaaGreatDoor
namespace Go.Proofs.YthmbjgnjfjjibaaGreatDoor
open Go.RowKit
set_option maxRecDepth 100000
variable {rh rl:Option Arg}
variable {h:Int}
variable {ri rx:Arg}
variable {K:AV->List Nat->Prop}
variable {cap:Nat} {S:Nat->Prop} {ρ:Rho} {w:World}
section
variable {P:Program} {o:Oper} {F:List (Nat×AV)} {H:List (Nat×Ob)}
theorem Xz {I:Nat->Prop} (hH:HRi I w S ρ H) {i e z':Nat} {els:List (List AV)} {fl:Bool} (hI:I i) (hg:get H i=some (.cells e z' els fl))
  {b z:Nat} (hρ:ρ i=some (some b,z,cap)):z'=z/\¬ S b/\cap<=maxLen/\∃ C:Array Value,w.heap[b]?=some (.cells C e (0,0))/\C.size=cap*z/\els.length<=cap ∧
   (∀ (j:Nat) (el:List AV),els[j]?=some el->el.length<=z) ∧
   ∀ (j:Nat) (el:List AV) (k:Nat) (v:AV),els[j]?=some el->el[k]?=some v->w.cell? ⟨b,j*z+k,none⟩=some (C.getD (j*z+k) undef)/\(C.getD (j*z+k) undef).oneCell'=true/\VR w S ρ v (C.getD (j*z+k) undef):=by
 obtain ⟨bk,z1,cap1,h1,hz,h2⟩:=hH.ob i _ hI hg
 rw [hρ] at h1
 injection h1 with h1
 obtain ⟨rfl,rfl,rfl⟩:some b=bk/\z=z1/\cap=cap1:=by simpa using h1
 obtain ⟨hs,hm,C,hC,e1,e2,e3,e4⟩:=h2
 refine ⟨hz,hs,hm,C,hC,e1,e2,e3,fun j el k v hj hk=>?_⟩
 obtain ⟨q1,q2⟩:=e4 j el k v hj hk
 have hjl:j<els.length:=(List.getElem?_eq_some_iff.1 hj).1
 have hkl:k<el.length:=(List.getElem?_eq_some_iff.1 hk).1
 have hel:=e3 j el hj
 have hlt:j*z+k<C.size:=by
  rw [e1]
  calc j*z+k<j*z+z:=by omega
   _=(j+1)*z:=by rw [Nat.add_mul,Nat.one_mul]
   _<=cap*z:=Nat.mul_le_mul_right _ (by omega)
 refine ⟨?_,q1,?_⟩
 ·rw [cell_of_row w b _ C e (0,0) hC]; exact getD_some hlt
 ·by_cases hf:fl=true
  ·rw [if_pos hf] at q2; exact .cl q2
  ·rw [if_neg hf] at q2; exact q2
theorem J4 {t:TypeId} {n:Nat} (hg:aggP P t=some true) (hz:QL P t=some n) (w:World) (a:Addr) (f:Nat->Value) (h:∀ j,j<n->w.cell? (a.add j)=some (f j)) :
  (loadVar t a).run P w = .ok (.agg ((List.range n).map f).toArray) w:=by
 simp [loadVar,run_isAggP hg,QF hz,run_loadCells w a n f h]
theorem run_loadVar_one {t:TypeId} (hg:aggP P t=some false) (w:World) (a:Addr) (v:Value) (h:w.cell? a=some v):(loadVar t a).run P w = .ok v w:=by
 simp [loadVar,run_isAggP hg,h]
theorem JV {n:Nat} {f:Nat->Value} {j:Nat} (h:j<n):((List.range n).map f).toArray.getD j undef=f j:=by
 simp [Array.getD,h]
theorem opt_ldg {t:TypeId} {n g:Nat} {cs:List AV} (hg:aggP P t=some true) (hz:QL P t=some n) (ho:o.op = .load t (.global g)) (hi:get H (5000000+g)=some (.glob g cs)) (hn:n<=cs.length) (ts:List Nat) :
  OpT P o ts F H [5000000+g] [] (.agg (cs.take n)) H:=by
 refine OpT.pure fun S ρ a w hF hH=>?_
 obtain ⟨bk,z,cap,_,q⟩:=hH.ob _ _ (List.mem_singleton.2 rfl) hi
 obtain ⟨b,off,cf,e,hS,h1,h2⟩:=VR.rp_inv (ρ:=ρ) (.cl q)
 have e0:(⟨g,0,none⟩:Addr)=⟨b,off,none⟩:=by simpa using e
 have hcell:∀ k,k<n->w.cell? ((⟨g,0,none⟩:Addr).add k)=some (cf k):=fun k hk=>by
  have hk':cs[k]?=some (cs[k]'(by omega)):=List.getElem?_eq_getElem (by omega)
  rw [e0,X7]
  exact (h1 k _ hk').1
 refine ⟨.agg ((List.range n).map cf).toArray,?_,.cl (.agg _ _ (by simp; omega) (fun k v hk=>?_) (fun k v hk=>?_))⟩
 ·simp [execOp,ho,Act.eval,Instr.loadAt,Instr.sureAddr,J4 hg hz w _ _ hcell]
 all_goals
  have hkn:k<n:=by
   have:=(List.getElem?_eq_some_iff.1 hk).1
   simp at this; omega
  rw [List.getElem?_take,if_pos hkn] at hk
  rw [JV hkn]
 ·exact (h1 k v hk).2
 ·exact h2 k v hk
theorem opt_ld {t:TypeId} {n:Nat} {g:Bool} {x:Operand} {r:Arg} (hg:aggP P t=some g) (hz:QL P t=some n) (hx:Qu x=some r) (ho:o.op = .load t x)
  (h:match Qe F r with
   | some (.ptr i j p)=>match get H i with
    | some (.cells _ _ els _)=>match els[j]? with
     | some el=>if g=true then p+n<=el.length/\K (.agg ((el.drop p).take n)) [i] else match el[p]? with
      | some v=>K v [i]
      | none=>False
     | none=>False
    | _=>False
   | some (.rp cs)=>if g=true then n<=cs.length/\K (.agg (cs.take n)) [] else match cs[0]? with
    | some v=>K v []
    | none=>False
   | _=>False):∃ v rd,K v rd/\OpT P o r.slots F H rd [] v H:=by
 split at h
 ·rename_i i j p hv
  split at h
  ·rename_i e z' els fl hi
   split at h
   ·rename_i el hj
    cases g with
    | true =>
     simp only [if_true] at h
     refine ⟨_,_,h.2,OpT.pure fun S ρ a w hF hH=>?_⟩
     obtain ⟨b,z,cap,hρ,e⟩:=(Qd hx hF (fun _ h=>h) hv).ptr_inv
     obtain ⟨_,_,_,C,_,_,_,_,hc⟩:=Xz hH (by simp) hi hρ
     have hcell:∀ k,k<n->w.cell? ((⟨b,j*z+p,none⟩:Addr).add k)=some (C.getD (j*z+(p+k)) undef):=fun k hk=>by
      have hk':el[p+k]?=some (el[p+k]'(by omega)):=List.getElem?_eq_getElem (by omega)
      rw [X7,Nat.add_assoc]
      exact (hc j el (p+k) _ hj hk').1
     refine ⟨.agg ((List.range n).map fun k=>C.getD (j*z+(p+k)) undef).toArray,?_,.agg _ _ (by simp; omega) (fun k v hk=>?_) (fun k v hk=>?_)⟩
     ·simp [execOp,ho,e,Instr.loadAt,Instr.sureAddr,J4 hg hz w _ _ hcell]
     all_goals
      have hkn:k<n:=by
       have:=(List.getElem?_eq_some_iff.1 hk).1
       simp at this; omega
      rw [List.getElem?_take,if_pos hkn,List.getElem?_drop] at hk
      rw [JV hkn]
     ·exact (hc j el (p+k) v hj hk).2.1
     ·exact (hc j el (p+k) v hj hk).2.2
    | false =>
     simp only [Bool.false_eq_true,if_false] at h
     split at h
     ·rename_i v hp
      refine ⟨_,_,h,OpT.pure fun S ρ a w hF hH=>?_⟩
      obtain ⟨b,z,cap,hρ,e⟩:=(Qd hx hF (fun _ h=>h) hv).ptr_inv
      obtain ⟨_,_,_,C,_,_,_,_,hc⟩:=Xz hH (by simp) hi hρ
      obtain ⟨q1,_,q3⟩:=hc j el p v hj hp
      exact ⟨_,by simp [execOp,ho,e,Instr.loadAt,Instr.sureAddr,run_loadVar_one hg w _ _ q1],q3⟩
     ·exact h.elim
   ·exact h.elim
  ·exact h.elim
 ·rename_i cs hv
  cases g with
  | true =>
   simp only [if_true] at h
   refine ⟨_,_,h.2,OpT.pure fun S ρ a w hF hH=>?_⟩
   obtain ⟨b,off,cf,e,hS,h1,h2⟩:=(Qd hx hF (fun _ h=>h) hv).rp_inv
   have hcell:∀ k,k<n->w.cell? ((⟨b,off,none⟩:Addr).add k)=some (cf k):=fun k hk=>by
    have hk':cs[k]?=some (cs[k]'(by omega)):=List.getElem?_eq_getElem (by omega)
    rw [X7]
    exact (h1 k _ hk').1
   refine ⟨.agg ((List.range n).map cf).toArray,?_,.cl (.agg _ _ (by simp; omega) (fun k v hk=>?_) (fun k v hk=>?_))⟩
   ·simp [execOp,ho,e,Instr.loadAt,Instr.sureAddr,J4 hg hz w _ _ hcell]
   all_goals
    have hkn:k<n:=by
     have:=(List.getElem?_eq_some_iff.1 hk).1
     simp at this; omega
    rw [List.getElem?_take,if_pos hkn] at hk
    rw [JV hkn]
   ·exact (h1 k v hk).2
   ·exact h2 k v hk
  | false =>
   simp only [Bool.false_eq_true,if_false] at h
   split at h
   ·rename_i v hp
    refine ⟨_,_,h,OpT.pure fun S ρ a w hF hH=>?_⟩
    obtain ⟨b,off,cf,e,hS,h1,h2⟩:=(Qd hx hF (fun _ h=>h) hv).rp_inv
    have q:=(h1 0 v hp).1
    rw [Nat.add_zero] at q
    exact ⟨_,by simp [execOp,ho,e,Instr.loadAt,Instr.sureAddr,run_loadVar_one hg w _ _ q],.cl (h2 0 v hp)⟩
   ·exact h.elim
 ·exact h.elim
theorem opt_ixsl {t e:TypeId} {z:Nat} {x i:Operand} (ht:P.underlying t=some (.slice e)) (hz:QL P e=some z) (hx:Qu x=some rx) (hi:Qu i=some ri)
  (ho:o.op = .indexAddr t x i)
  (h:match Qe F rx,Qe F ri with
   | some (.rs z' els),some (.int _ k)=>0<=k/\k<els.length/\z'=z/\match els[k.toNat]? with
    | some el=>K (.rp el) []
    | none=>False
   | some (.sl a j n),some (.int _ k)=>0<=k/\k<n/\match get H a with
    | some (.cells _ z' _ _)=>z'=z/\K (.ptr a (j+k.toNat) 0) [a]
    | _=>False
   | some (.sa a j p n),some (.int _ k)=>0<=k/\k<n/\z=1/\K (.ptr a j (p+k.toNat)) []
   | _,_=>False):∃ v rd,K v rd/\OpT P o (rx.slots++ri.slots) F H rd [] v H:=by
 have run:∀ (a:Act) (w:World) (A:Addr) (n c:Nat) (ik:IntKind) (k:Int),a.eval x = .slice (some A) n c->a.eval i = .int ik k->0<=k->k<n →
   (execOp a.eval o).run P w = .ok (.value (.pointer (some (A.add (k.toNat*z))))) w:=by
  intro a w A n c ik k e1 e2 h0 h1
  simp [execOp,ho,e1,e2,Instr.indexAt,asIntOf,run_underlying ht,h0,h1,QF hz]
 split at h
 ·rename_i z' els ik k hv hk
  obtain ⟨k0,k1,rfl,h⟩:=h
  split at h
  ·rename_i el hel
   refine ⟨_,_,h,OpT.pure fun S ρ a w hF hH=>?_⟩
   have e2:=(Qd hi hF (fun _ h=>by simp [h]) hk).int_inv
   rcases (Qd hx hF (fun _ h=>by simp [h]) hv).rs_inv with ⟨rfl,A,c,e⟩ | ⟨b,off,cap,cf,e,hS,hc,h1,h2⟩
   ·simp at hel
   ·refine ⟨_,run a w _ _ _ _ _ e e2 k0 k1,?_⟩
    rw [X7]
    exact .cl (.rp el b _ (fun q=>cf k.toNat q) hS (fun q v hq=>h1 _ el q v hel hq) (fun q v hq=>h2 _ el q v hel hq))
  ·exact h.elim
 ·rename_i a0 j n ik k hv hk
  obtain ⟨k0,k1,h⟩:=h
  split at h
  ·rename_i eo z' els fl hob
   obtain ⟨rfl,h⟩:=h
   refine ⟨_,_,h,OpT.pure fun S ρ a w hF hH=>?_⟩
   have e2:=(Qd hi hF (fun _ h=>by simp [h]) hk).int_inv
   rcases (Qd hx hF (fun _ h=>by simp [h]) hv).sl_inv with ⟨b,z,cap,cap',hρ,_,_,e⟩ | ⟨z,_,_,rfl,e⟩
   ·obtain ⟨rfl,_⟩:=Xz hH (by simp) hob hρ
    refine ⟨_,run a w _ _ _ _ _ e e2 k0 k1,?_⟩
    rw [X7,← Nat.add_mul]
    exact .ptr a0 (j+k.toNat) 0 b z' cap hρ
   ·simp at k1; omega
  ·exact h.elim
 ·rename_i a0 j p n ik k hv hk
  obtain ⟨k0,k1,rfl,h⟩:=h
  refine ⟨_,_,h,OpT.pure fun S ρ a w hF hH=>?_⟩
  have e2:=(Qd hi hF (fun _ h=>by simp [h]) hk).int_inv
  obtain ⟨b,z,cap,cap',hρ,hn,e⟩:=(Qd hx hF (fun _ h=>by simp [h]) hv).sa_inv
  refine ⟨_,run a w _ _ _ _ _ e e2 k0 k1,?_⟩
  rw [X7,Nat.mul_one,Nat.add_assoc]
  exact .ptr a0 j (p+k.toNat) b z cap hρ
 ·exact h.elim
theorem opt_ixarr {t e:TypeId} {len z:Nat} {x i:Operand} (ht:P.underlying t=some (.array len e)) (hz:QL P e=some z) (hx:Qu x=some rx) (hi:Qu i=some ri)
  (ho:o.op = .indexAddr t x i) {K:AV->Prop}
  (h:match Qe F rx,Qe F ri with
   | some (.ptr a j p),some (.int _ k)=>0<=k/\k<len/\K (.ptr a j (p+k.toNat*z))
   | some (.rp cs),some (.int _ k)=>0<=k/\k<len/\K (.rp (cs.drop (k.toNat*z)))
   | _,_=>False):∃ v,K v/\OpT P o (rx.slots++ri.slots) F H [] [] v H:=by
 have run:∀ (a:Act) (w:World) (A:Addr) (ik:IntKind) (k:Int),a.eval x = .pointer (some A)->a.eval i = .int ik k->0<=k->k<len →
   (execOp a.eval o).run P w = .ok (.value (.pointer (some (A.add (k.toNat*z))))) w:=by
  intro a w A ik k e1 e2 h0 h1
  simp [execOp,ho,e1,e2,Instr.indexAt,asIntOf,run_underlying ht,h0,h1,QF hz,Instr.sureAddr]
 split at h
 ·rename_i a0 j p ik k hv hk
  obtain ⟨k0,k1,h⟩:=h
  refine ⟨_,h,OpT.pure fun S ρ a w hF hH=>?_⟩
  have e2:=(Qd hi hF (fun _ h=>by simp [h]) hk).int_inv
  obtain ⟨b,z',cap,hρ,e⟩:=(Qd hx hF (fun _ h=>by simp [h]) hv).ptr_inv
  refine ⟨_,run a w _ _ _ e e2 k0 k1,?_⟩
  rw [X7,Nat.add_assoc]
  exact .ptr a0 j _ b z' cap hρ
 ·rename_i cs ik k hv hk
  obtain ⟨k0,k1,h⟩:=h
  refine ⟨_,h,OpT.pure fun S ρ a w hF hH=>?_⟩
  have e2:=(Qd hi hF (fun _ h=>by simp [h]) hk).int_inv
  obtain ⟨b,off,cf,e,hS,h1,h2⟩:=(Qd hx hF (fun _ h=>by simp [h]) hv).rp_inv
  refine ⟨_,run a w _ _ _ e e2 k0 k1,?_⟩
  rw [X7]
  refine .cl (.rp _ b _ (fun q=>cf (k.toNat*z+q)) hS (fun q v hq=>?_) (fun q v hq=>?_))
  ·rw [List.getElem?_drop] at hq; rw [Nat.add_assoc]; exact h1 _ v hq
  ·rw [List.getElem?_drop] at hq; exact h2 _ v hq
 ·exact h.elim
theorem copt_ok {x:Option Operand} {r:Option Arg} (hx:copt x=some r) {ts:List Nat} {a:Act} (hF:FRs ts F a w S ρ)
  (hs:∀ t,(∃ q,r=some q/\t∈q.slots)->t∈ts) {d n:Int} (hv:QY F d r=some n):(x.map a.eval=none/\n=d)\/∃ k,x.map a.eval=some (.int k n):=by
 cases x with
 | none =>
  simp [copt] at hx; subst hx
  simp [QY] at hv; subst hv
  exact .inl ⟨rfl,rfl⟩
 | some x =>
  simp only [copt] at hx
  split at hx
  ·rename_i q hq
   injection hx with hx; subst hx
   simp only [QY] at hv
   split at hv
   ·rename_i ik m hm
    injection hv with hv; subst hv
    exact .inr ⟨_,by simp [(Qd hq hF (fun t ht=>hs t ⟨_,rfl,ht⟩) hm).int_inv]; rfl⟩
   ·cases hv
  ·cases hx
theorem Jp (isSlice:Bool) {n:Nat} {lo hi:Option Value} {l:Int} (hlo:(lo=none/\l=0)\/∃ k,lo=some (.int k l)) (hhi:(hi=none/\h=n)\/∃ k,hi=some (.int k h))
  (h0:0<=l) (h1:l<=h) (h2:h<=cap) (w:World):(Instr.sliceBounds isSlice n cap lo hi none).run P w = .ok (l.toNat,h.toNat,cap) w:=by
 have hh0:0<=h:=by omega
 have eh:(h.toNat:Int)=h:=Int.toNat_of_nonneg (by omega)
 rcases hlo with ⟨rfl,rfl⟩ | ⟨k,rfl⟩ <;> rcases hhi with ⟨rfl,rfl⟩ | ⟨k',rfl⟩ <;>
  simp [Instr.sliceBounds,run_sliceBound,h0,h1,h2,eh,hh0]
def XO:Option Arg->List Nat
 | none=>[]
 | some r=>r.slots
theorem opt_slc {t e:TypeId} {z:Nat} {x:Operand} {lo hi:Option Operand} (ht:P.underlying t=some (.slice e)) (hz:QL P e=some z) (hx:Qu x=some rx)
  (hlo:copt lo=some rl) (hhi:copt hi=some rh) (ho:o.op = .slice t x lo hi none)
  (h:match Qe F rx with
   | some (.rs z' els)=>match QY F 0 rl,QY F els.length rh with
    | some l,some q=>(z'=z\/els=[])/\0<=l/\l<=q/\q<=els.length/\K (.rs z ((els.drop l.toNat).take (q.toNat-l.toNat))) []
    | _,_=>False
   | some (.sl i j n)=>match QY F 0 rl,QY F n rh,get H i with
    | some l,some q,some (.cells _ z' _ _)=>z'=z/\0<=l/\l<=q/\q<=n/\(((l=0\/l<q)/\K (.sl i (j+l.toNat) (q.toNat-l.toNat)) [i])\/(l=q/\K (.rs z []) [i]))
    | _,_,_=>False
   | some .nils=>match QY F 0 rl,QY F 0 rh with
    | some l,some q=>l=0/\q=0/\K .nils []
    | _,_=>False
   | _=>False):∃ v rd,K v rd/\OpT P o (rx.slots++XO rl++XO rh) F H rd [] v H:=by
 have run:∀ (a:Act) (w:World) (A:Option Addr) (n c:Nat) (l h:Int),a.eval x = .slice A n c->((lo.map a.eval=none/\l=0)\/∃ k,lo.map a.eval=some (.int k l)) →
   ((hi.map a.eval=none/\h=n)\/∃ k,hi.map a.eval=some (.int k h))->0<=l->l<=h->h<=c →
   (execOp a.eval o).run P w = .ok (.value (.slice (if c=l.toNat then A else A.map (·.add (l.toNat*z))) (h.toNat-l.toNat) (c-l.toNat))) w:=by
  intro a w A n c l h e1 e2 e3 h0 h1 h2
  simp [execOp,ho,e1,Instr.sliceAt,run_underlying ht,Instr.slice,Jp true e2 e3 h0 h1 h2,QF hz]
 have sl:∀ {a:Act} {w:World} {S:Nat->Prop} {ρ:Rho},FRs (rx.slots++XO rl++XO rh) F a w S ρ->∀ {d n},QY F d rl=some n->(lo.map a.eval=none/\n=d)\/∃ k,lo.map a.eval=some (.int k n) :=
  fun hF _ _ hv=>copt_ok hlo hF (fun t ⟨q,hq,ht⟩=>by subst hq; simp [XO,ht]) hv
 have sh:∀ {a:Act} {w:World} {S:Nat->Prop} {ρ:Rho},FRs (rx.slots++XO rl++XO rh) F a w S ρ->∀ {d n},QY F d rh=some n->(hi.map a.eval=none/\n=d)\/∃ k,hi.map a.eval=some (.int k n) :=
  fun hF _ _ hv=>copt_ok hhi hF (fun t ⟨q,hq,ht⟩=>by subst hq; simp [XO,ht]) hv
 split at h
 ·rename_i z' els hv
  split at h
  ·rename_i l h' hl hh
   obtain ⟨hzz,l0,l1,h2,h⟩:=h
   refine ⟨_,_,h,OpT.pure fun S ρ a w hF hH=>?_⟩
   rcases (Qd hx hF (fun _ h=>by simp [h]) hv).rs_inv with ⟨rfl,A,c,e1⟩ | ⟨b,off,cap,cf,e1,hS,hc,h3,h4⟩
   ·simp at h2
    have hl0:l=0:=by omega
    have hh0:h'=0:=by omega
    subst hl0 hh0
    refine ⟨_,run a w _ _ _ _ _ e1 (sl hF hl) (sh hF hh) (by omega) (by omega) (by omega),?_⟩
    simp
    exact .cl (.rs0 _ _ _)
   ·refine ⟨_,run a w _ _ _ _ _ e1 (sl hF hl) (sh hF hh) l0 l1 (by omega),?_⟩
    by_cases hlh:h'.toNat-l.toNat=0
    ·rw [hlh]; simp only [List.take_zero]
     exact .cl (.rs0 _ _ _)
    ·have hz':z'=z:=by
      rcases hzz with hzz | hzz
      ·exact hzz
      ·subst hzz; simp at h2; omega
     subst hz'
     rw [if_neg (by omega)]
     have hlen:((els.drop l.toNat).take (h'.toNat-l.toNat)).length=h'.toNat-l.toNat:=by simp; omega
     have q:=CR.rs (w:=w) (S:=S) z' ((els.drop l.toNat).take (h'.toNat-l.toNat)) b (off+l.toNat*z') (cap-l.toNat) (fun j k=>cf (l.toNat+j) k) hS (by omega)
      (fun j el k v hj hk=>by
       rw [List.getElem?_take] at hj
       split at hj
       ·rw [List.getElem?_drop] at hj
        have:=h3 _ el k v hj hk
        rw [show off+l.toNat*z'+j*z'+k=off+(l.toNat+j)*z'+k by rw [Nat.add_mul]; omega]
        exact this
       ·cases hj)
      (fun j el k v hj hk=>by
       rw [List.getElem?_take] at hj
       split at hj
       ·rw [List.getElem?_drop] at hj
        exact h4 _ el k v hj hk
       ·cases hj)
     rw [hlen] at q
     simpa [X7] using VR.cl (ρ:=ρ) q
  ·exact h.elim
 ·rename_i i j n hv
  split at h
  ·rename_i l h' e' z' els fl hl hh hob
   obtain ⟨rfl,l0,l1,h2,h⟩:=h
   rcases h with ⟨l2,h⟩ | ⟨lq,h⟩
   case inr =>
    refine ⟨_,_,h,OpT.pure fun S ρ a w hF hH=>?_⟩
    rcases (Qd hx hF (fun _ h=>by simp [h]) hv).sl_inv with ⟨b,z,cap,cap',hρ,hjc,hn,e1⟩ | ⟨z,hρ,rfl,rfl,e1⟩
    ·refine ⟨_,run a w _ _ _ _ _ e1 (sl hF hl) (sh hF hh) l0 l1 (by omega),?_⟩
     rw [show h'.toNat-l.toNat=0 by omega]
     exact .cl (.rs0 _ _ _)
    ·refine ⟨_,run a w _ _ _ _ _ e1 (sl hF hl) (sh hF hh) l0 l1 (by omega),?_⟩
     rw [show h'.toNat-l.toNat=0 by omega]
     exact .cl (.rs0 _ _ _)
   refine ⟨_,_,h,OpT.pure fun S ρ a w hF hH=>?_⟩
   rcases (Qd hx hF (fun _ h=>by simp [h]) hv).sl_inv with ⟨b,z,cap,cap',hρ,hjc,hn,e1⟩ | ⟨z,hρ,rfl,rfl,e1⟩
   ·obtain ⟨rfl,_⟩:=Xz hH (by simp) hob hρ
    refine ⟨_,run a w _ _ _ _ _ e1 (sl hF hl) (sh hF hh) l0 l1 (by omega),?_⟩
    have q:=VR.sl (w:=w) (S:=S) i (j+l.toNat) (h'.toNat-l.toNat) b z' cap (cap'-l.toNat) hρ (by omega) (by omega)
    by_cases hc:cap'=l.toNat
    ·rw [if_pos hc]
     have hl0:l=0:=by omega
     subst hl0
     simpa using q
    ·rw [if_neg hc]
     simpa [X7,Nat.add_mul] using q
   ·have hl0:l=0:=by simp at h2; omega
    have hh0:h'=0:=by simp at h2; omega
    subst hl0 hh0
    refine ⟨_,run a w _ _ _ _ _ e1 (sl hF hl) (sh hF hh) (by omega) (by omega) (by omega),?_⟩
    simp
    exact .sl0 i z hρ
  ·exact h.elim
 ·rename_i hv
  split at h
  ·rename_i l h' hl hh
   obtain ⟨rfl,rfl,h⟩:=h
   refine ⟨_,_,h,OpT.pure fun S ρ a w hF hH=>?_⟩
   refine ⟨_,run a w _ _ _ _ _ (Qd hx hF (fun _ h=>by simp [h]) hv).nils_inv (sl hF hl) (sh hF hh) (by omega) (by omega) (by omega),?_⟩
   simp
   exact .cl .nils
  ·exact h.elim
 ·exact h.elim
theorem opt_slarr {t e:TypeId} {n:Nat} {x:Operand} {lo hi:Option Operand} (ht:P.underlying t=some (.array n e)) (hz:QL P e=some 1) (hx:Qu x=some rx)
  (hlo:copt lo=some rl) (hhi:copt hi=some rh) (ho:o.op = .slice t x lo hi none) {i j p:Nat} (hv:Qe F rx=some (.ptr i j p)) {l:Int} (hl:QY F 0 rl=some l) (hh:QY F n rh=some h)
  (l0:0<=l) (l2:l=0\/l<h) (l1:l<=h) (h2:h<=n):OpT P o (rx.slots++XO rl++XO rh) F H [] [] (.sa i j (p+l.toNat) (h.toNat-l.toNat)) H :=
 OpT.pure fun S ρ a w hF hH=>by
  obtain ⟨b,z,cap,hρ,e1⟩:=(Qd hx hF (fun _ h=>by simp [h]) hv).ptr_inv
  have sl:=copt_ok hlo hF (fun t ⟨q,hq,ht⟩=>by subst hq; simp [XO,ht]) hl
  have sh:=copt_ok hhi hF (fun t ⟨q,hq,ht⟩=>by subst hq; simp [XO,ht]) hh
  refine ⟨.slice (some (if n=l.toNat then ⟨b,j*z+p,none⟩ else (⟨b,j*z+p,none⟩:Addr).add (l.toNat*1))) (h.toNat-l.toNat) (n-l.toNat),?_,?_⟩
  ·simp [execOp,ho,e1,Instr.sliceAt,run_underlying ht,Instr.sureAddr,Jp false sl sh l0 l1 h2,QF hz]
  ·have q:=VR.sa (w:=w) (S:=S) i j (p+l.toNat) (h.toNat-l.toNat) b z cap (n-l.toNat) hρ (by omega)
   by_cases hc:n=l.toNat
   ·have hl0:l=0:=by omega
    subst hl0
    simpa [hc] using q
   ·rw [if_neg hc,X7]
    simpa [Nat.add_assoc] using q
theorem opt_slarr_r {t e:TypeId} {n:Nat} {x:Operand} {lo hi:Option Operand} (ht:P.underlying t=some (.array n e)) (hz:QL P e=some 1) (hx:Qu x=some rx)
  (hlo:copt lo=some rl) (hhi:copt hi=some rh) (ho:o.op = .slice t x lo hi none) {cs:List AV} (hv:Qe F rx=some (.rp cs)) (hl:QY F 0 rl=some 0) (hh:QY F n rh=some (n:Int))
  (hn:n<=cs.length) (h0:n≠0):OpT P o (rx.slots++XO rl++XO rh) F H [] [] (.rs 1 ((cs.take n).map fun c=>[c])) H :=
 OpT.pure fun S ρ a w hF hH=>by
  obtain ⟨b,off,cf,e1,hS,q1,q2⟩:=(Qd hx hF (fun _ h=>by simp [h]) hv).rp_inv
  have sl:=copt_ok hlo hF (fun t ⟨q,hq,ht⟩=>by subst hq; simp [XO,ht]) hl
  have sh:=copt_ok hhi hF (fun t ⟨q,hq,ht⟩=>by subst hq; simp [XO,ht]) hh
  refine ⟨.slice (some ⟨b,off,none⟩) n n,?_,?_⟩
  ·simp [execOp,ho,e1,Instr.sliceAt,run_underlying ht,Instr.sureAddr,Jp false sl sh (Int.le_refl 0) (Int.natCast_nonneg n) (Int.le_refl _),QF hz,h0,X7]
  ·have hlen:((cs.take n).map fun c=>[c]).length=n:=by simp; omega
   have h1:∀ (j:Nat) (el:List AV) (o:Nat) (v:AV),((cs.take n).map fun c=>[c])[j]?=some el->el[o]?=some v->o=0/\cs[j]?=some v:=fun j el o v he hv=>by
    rw [List.getElem?_map,List.getElem?_take] at he
    split at he
    ·cases hc:cs[j]? with
     | none=>rw [hc] at he; cases he
     | some c =>
      rw [hc] at he
      injection he with he; subst he
      have ho0:o=0:=by
       have:=(List.getElem?_eq_some_iff.1 hv).1
       simpa using this
      subst ho0
      exact ⟨rfl,hv⟩
    ·cases he
   have q:=CR.rs (w:=w) (S:=S) 1 ((cs.take n).map fun c=>[c]) b off n (fun j _=>cf j) hS (by omega) (fun j el o v he hv=>by
    obtain ⟨rfl,h2⟩:=h1 j el o v he hv
    simpa using q1 j v h2) (fun j el o v he hv=>q2 j v (h1 j el o v he hv).2)
   rw [hlen] at q
   exact .cl q
theorem opt_s2ap {t e:TypeId} {n:Nat} {x:Operand} (ht:P.underlying t=some (.array n e)) (hx:Qu x=some rx) (ho:o.op = .sliceToArrayPointer t x) {l:List AV} (hv:Qe F rx=some (.rs 1 (l.map fun v=>[v])))
  (hn:n<=l.length) (h0:n≠0):OpT P o rx.slots F H [] [] (.rp (l.take n)) H :=
 OpT.pure fun S ρ a w hF hH=>by
  rcases (Qd hx hF (fun _ h=>h) hv).rs_inv with ⟨h1,_⟩ | ⟨b,off,cap,cf,e1,hS,hcap,q1,q2⟩
  ·have:l=[]:=List.map_eq_nil_iff.1 h1
   subst this; exact absurd (Nat.le_zero.1 hn) h0
  ·rw [List.length_map] at e1
   refine ⟨.pointer (some ⟨b,off,none⟩),?_,.cl (.rp _ b off (fun o=>cf o 0) hS (fun o v ho=>?_) fun o v ho=>?_)⟩
   ·simp [execOp,ho,e1,Instr.arrayAt,run_underlying ht,Nat.not_lt.2 hn]
   ·rw [List.getElem?_take] at ho
    split at ho
    ·have:=q1 o [v] 0 v (by rw [List.getElem?_map,ho]; rfl) rfl
     rwa [Nat.mul_one,Nat.add_zero] at this
    ·cases ho
   ·rw [List.getElem?_take] at ho
    split at ho
    ·exact q2 o [v] 0 v (by rw [List.getElem?_map,ho]; rfl) rfl
    ·cases ho
end
end Go.Proofs.YthmbjgnjfjjibaaGreatDoor
namespace Go.Proofs.YthmbjgnjfjjibaaGreatDoor
open Go.RowKit
set_option maxRecDepth 100000
def CellsR (w:World) (S:Nat->Prop) (ρ:Rho) (A:List AV) (C:Array Value):Prop :=
 C.size=A.length/\∀ (k:Nat) (v:AV),A[k]?=some v->(C.getD k undef).oneCell'=true/\VR w S ρ v (C.getD k undef)
theorem JE:∀ {l:List AV} {v:AV},Qi l=true->v∈l->QB v=true
 | u::l,v,h,hv=>by
  simp only [Qi,Bool.and_eq_true] at h
  rcases List.mem_cons.1 hv with rfl | hv
  ·exact h.1
  ·exact JE h.2 hv
variable {S:Nat->Prop} {ρ:Rho} {w:World}
theorem VR.closed {v:AV} {c:Value} (h:VR w S ρ v c) (hc:QB v=true):CR w S v c:=by
 induction h with
 | cl h=>exact h
 | ptr=>simp [QB] at hc
 | sl=>simp [QB] at hc
 | sl0=>simp [QB] at hc
 | sa=>simp [QB] at hc
 | fn f caps C hn _ ih =>
  simp only [QB] at hc
  exact .fn f caps C hn fun j v hj=>ih j v hj (JE hc (List.mem_of_getElem? hj))
 | agg cs C hn h1 _ ih =>
  simp only [QB] at hc
  exact .agg cs C hn h1 fun j v hj=>ih j v hj (JE hc (List.mem_of_getElem? hj))
 | tup cs C hn _ ih =>
  simp only [QB] at hc
  exact .tup cs C hn fun j v hj=>ih j v hj (JE hc (List.mem_of_getElem? hj))
 | mp=>simp [QB] at hc
 | yl=>simp [QB] at hc
 | bnd=>simp [QB] at hc
theorem cellsR_one {v:AV} {c:Value} (h:VR w S ρ v c) (h1:c.oneCell'=true):CellsR w S ρ [v] c.cells:=by
 have e:c.cells = #[c]:=by cases c <;> simp_all [Value.cells,Value.oneCell']
 rw [e]
 refine ⟨rfl,fun k u hk=>?_⟩
 cases k with
 | zero=>simp at hk; subst hk; exact ⟨h1,h⟩
 | succ k=>simp at hk
theorem VR.one {v:AV} {c:Value} (h:VR w S ρ v c) (hv:X4 v=some [v]) (hn:∀ cs,v ≠ .agg cs):c.oneCell'=true:=by
 cases h with
 | cl h =>
  cases h <;> first | rfl | (simp [X4] at hv; done) | exact absurd rfl (hn _)
 | agg=>exact absurd rfl (hn _)
 | tup=>simp [X4] at hv
 | _=>rfl
theorem acells_ok {v:AV} {c:Value} {cs:List AV} (h:VR w S ρ v c) (hv:X4 v=some cs):CellsR w S ρ cs c.cells:=by
 by_cases hag:∃ l,v = .agg l
 ·obtain ⟨l,rfl⟩:=hag
  simp [X4] at hv; subst hv
  obtain ⟨C,rfl,hn,h1,h2⟩:=h.agg_inv
  exact ⟨hn,fun k u hk=>⟨h1 k u hk,h2 k u hk⟩⟩
 ·have hn:∀ l,v ≠ .agg l:=fun l e=>hag ⟨l,e⟩
  have e:cs=[v]:=by cases v <;> simp_all [X4]
  subst e
  exact cellsR_one h (h.one hv hn)
theorem length_setAt:∀ (cs l:List AV) (o:Nat),(Jj l o cs).length=l.length
 | [],l,o=>rfl
 | c::cs,l,o=>by simp [Jj,length_setAt cs]
theorem getElem?_setAt:∀ (cs l:List AV) (o k:Nat),o+cs.length<=l.length->(Jj l o cs)[k]?=if o<=k/\k<o+cs.length then cs[k-o]? else l[k]?
 | [],l,o,k,_=>by simp [Jj]; omega
 | c::cs,l,o,k,h=>by
  simp only [List.length_cons] at h
  simp only [Jj]
  rw [getElem?_setAt cs (l.set o c) (o+1) k (by simp; omega)]
  by_cases h1:o+1<=k/\k<o+1+cs.length
  ·rw [if_pos h1,if_pos (by simp; omega),show k-o=(k-(o+1))+1 by omega]
   simp
  ·rw [if_neg h1,List.getElem?_set]
   by_cases h2:o=k
   ·subst h2
    rw [if_pos rfl,if_pos (by omega),if_pos (by simp)]
    simp
   ·rw [if_neg h2,if_neg (by simp; omega)]
theorem foldl_setAt:∀ (l:List Value) (s off:Nat) (C:Array Value),off+s+l.length<=C.size →
  ((l.zipIdx s).foldl (fun cs (x:Value×Nat)=>cs.setIfInBounds (off+x.2) x.1) C).size=C.size ∧
  ∀ k,((l.zipIdx s).foldl (fun cs (x:Value×Nat)=>cs.setIfInBounds (off+x.2) x.1) C)[k]?=if off+s<=k/\k<off+s+l.length then l[k-(off+s)]? else C[k]?
 | [],s,off,C,_=>by simp; omega
 | c::l,s,off,C,h=>by
  simp only [List.length_cons] at h
  simp only [List.zipIdx_cons,List.foldl_cons]
  obtain ⟨e1,e2⟩:=foldl_setAt l (s+1) off (C.setIfInBounds (off+s) c) (by simp; omega)
  refine ⟨by rw [e1]; simp,fun k=>?_⟩
  rw [e2 k]
  by_cases h1:off+(s+1)<=k/\k<off+(s+1)+l.length
  ·rw [if_pos h1,if_pos (by simp; omega),show k-(off+s)=(k-(off+(s+1)))+1 by omega]
   simp
  ·rw [if_neg h1,Array.getElem?_setIfInBounds]
   by_cases h2:off+s=k
   ·subst h2
    rw [if_pos rfl,if_pos (by omega),if_pos (by simp)]
    simp
   ·rw [if_neg h2,if_neg (by simp; omega)]
variable {C:Array Value} {A:List AV}
theorem CellsR.at_ (h:CellsR w S ρ A C) {k:Nat} {v:AV} (hk:A[k]?=some v) :
  ∃ c,C[k]?=some c/\c.oneCell'=true/\VR w S ρ v c:=by
 obtain ⟨h1,h2⟩:=h.2 k v hk
 have hl:k<C.size:=by rw [h.1]; exact (List.getElem?_eq_some_iff.1 hk).1
 exact ⟨_,getD_some hl,h1,h2⟩
theorem cellsR_of (hn:C.size=A.length) (h:∀ (k:Nat) (v:AV),A[k]?=some v->∃ c,C[k]?=some c/\c.oneCell'=true/\VR w S ρ v c) :
  CellsR w S ρ A C:=⟨hn,fun k v hk=>by
 obtain ⟨c,hc,h1,h2⟩:=h k v hk
 have e:C.getD k undef=c:=by simp [hc]
 rw [e]; exact ⟨h1,h2⟩⟩
theorem cellsR_part {cs:List AV} {c:Value} (h:CellsR w S ρ A C) (hc:CellsR w S ρ cs c.cells) {off:Nat} (hb:off+cs.length<=A.length) :
  CellsR w S ρ (Jj A off cs) (c.cells.zipIdx.foldl (fun x (q:Value×Nat)=>x.setIfInBounds (off+q.2) q.1) C):=by
 have hl:c.cells.toList.length=cs.length:=by simpa using hc.1
 obtain ⟨e1,e2⟩:=foldl_setAt c.cells.toList 0 off C (by rw [h.1,hl]; omega)
 have e0:c.cells.zipIdx.foldl (fun x (q:Value×Nat)=>x.setIfInBounds (off+q.2) q.1) C=(c.cells.toList.zipIdx 0).foldl (fun x (q:Value×Nat)=>x.setIfInBounds (off+q.2) q.1) C:=by
  rw [← Array.foldl_toList]
  simp
 rw [e0]
 refine cellsR_of (by rw [e1,length_setAt]; exact h.1) fun k v hk=>?_
 rw [getElem?_setAt cs A off k hb] at hk
 rw [e2 k,hl]
 by_cases h1:off<=k/\k<off+cs.length
 ·rw [if_pos h1] at hk
  rw [Nat.add_zero,if_pos h1]
  obtain ⟨u,hu,h2,h3⟩:=hc.at_ hk
  exact ⟨u,by simpa using hu,h2,h3⟩
 ·rw [if_neg h1] at hk
  rw [Nat.add_zero,if_neg h1]
  exact h.at_ hk
variable {by_:Nat}
section
variable {P:Program} {o:Oper} {F:List (Nat×AV)} {H:List (Nat×Ob)}
theorem tyZ_ok {e:TypeId} {z:Nat} {zero:List AV} (h:tyZ P e=some (z,by_,zero)):∃ i zv,P.info? e=some i/\i.zero=some zv/\i.size=z/\i.bytes=by_/\zero.length=z ∧
  zv.cells.size=z/\∀ (w:World) (S:Nat->Prop) (ρ:Rho),CellsR w S ρ zero zv.cells:=by
 unfold tyZ at h
 split at h
 ·rename_i i hi
  split at h
  ·rename_i zv hz
   split at h
   ·rename_i x hx
    split at h
    ·rename_i cs hcs
     split at h
     ·rename_i hl
      simp only [Option.some.injEq,Prod.mk.injEq] at h
      obtain ⟨rfl,rfl,rfl⟩:=h
      exact ⟨i,zv,hi,hz,rfl,rfl,hl.1,hl.2,fun w S ρ=>acells_ok (.cl (conv_spec 2 zv x hx)) hcs⟩
     ·cases h
    ·cases h
   ·cases h
  ·cases h
 ·cases h
theorem tyZ_size {e:TypeId} {z:Nat} {zero:List AV} (h:tyZ P e=some (z,by_,zero)):QL P e=some z:=by
 obtain ⟨i,zv,hi,_,hz,_⟩:=tyZ_ok h
 simp [QL,hi,hz]
theorem Ju (h:CellsR w S ρ A C) (hc:Qi A=true) {k:Nat} {v:AV} (hk:A[k]?=some v) :
  CR w S v (C.getD k undef):=(h.2 k v hk).2.closed (JE hc (List.mem_of_getElem? hk))
theorem OpT.fresh {ts:List Nat} {d e z:Nat} {els:List (List AV)} {fl:Bool} {v:AV} (hd:get H d=none)
  (h:∀ (S:Nat->Prop) (ρ:Rho) (a:Act) (w:World),FRs ts F a w S ρ->∃ (C:Array Value) (cap:Nat) (cv:Value),(execOp a.eval o).run P w = .ok (.value cv) (w.alloc (.cells C e)) ∧
   C.size=cap*z/\els.length<=cap/\cap<=maxLen/\(∀ (j:Nat) (el:List AV),els[j]?=some el->el.length<=z) ∧
   (∀ (j:Nat) (el:List AV) (k:Nat) (u:AV),els[j]?=some el->el[k]?=some u->(C.getD (j*z+k) undef).oneCell'=true/\if fl=true then CR w S u (C.getD (j*z+k) undef) else VR w S ρ u (C.getD (j*z+k) undef)) ∧
   ∀ (w':World) (ρ':Rho),ρ' d=some (some w.heap.size,z,cap)->VR w' S ρ' v cv) :
  OpT P o ts F H [] [d] v ((d,.cells e z els fl)::H):=by
 intro S ρ a w Q K hF hS hH hnew hK
 obtain ⟨C,cap,cv,hr,h1,h2,h3,h4,h5,h6⟩:=h S ρ a w hF
 have hρd:ρ d=none:=hnew d (by simp) hd
 let ρ':Rho:=fun i=>if i=d then some (some w.heap.size,z,cap) else ρ i
 have hρ'd:ρ' d=some (some w.heap.size,z,cap):=by simp [ρ']
 have hρ'o:∀ i,i≠d->ρ' i=ρ i:=fun i hi=>by simp [ρ',hi]
 have hext:∀ i x,ρ i=some x->ρ' i=some x:=fun i x hx=>by
  rw [hρ'o i (fun e=>by subst e; rw [hρd] at hx; cases hx)]; exact hx
 have hcell:∀ (a:Addr) (c:Value),S a.block->w.cell? a=some c->(w.alloc (.cells C e)).cell? a=some c:=fun a c hs hc=>by
  rw [World.cell?_alloc_lt w _ a (hS _ hs)]; exact hc
 refine .inl ?_
 unfold Oper.wp
 rw [hr]
 refine hK cv _ S ρ' (h6 _ ρ' hρ'd) ⟨fun i ob hi hg=>?_,fun i j oi oj b z1 z2 c1 c2 hi hj hne=>?_⟩ ⟨⟨rfl,rfl,rfl,by simp,fun k hk _=>Below.heap_alloc w _ k hk⟩,fun _ h=>h,fun _ h=>.inl h,fun b hb=>?_,fun b hb=>?_,fun i hi=>?_⟩
 ·have hid:i=d:=by simpa using hi
  subst hid
  simp [get] at hg
  subst hg
  refine ⟨some w.heap.size,z,cap,hρ'd,rfl,fun hs=>?_,h3,C,heap_alloc_new w _,h1,h2,h4,fun j el k u hj hk=>?_⟩
  ·have:=hS _ hs; omega
  ·obtain ⟨q1,q2⟩:=h5 j el k u hj hk
   refine ⟨q1,?_⟩
   by_cases hf:fl=true
   ·rw [if_pos hf] at q2 ⊢; exact q2.mono (fun _ h=>h) hcell
   ·rw [if_neg hf] at q2 ⊢; exact q2.mono (fun _ h=>h) hcell hext
 ·have e1:i=d:=by simpa using hi
  have e2:j=d:=by simpa using hj
  exact absurd (e1.trans e2.symm) hne
 ·have:=hS b hb; simp; omega
 ·obtain ⟨i,ob,z',cap',hi,_,_,hr'⟩:=hb
  have hid:i=d:=by simpa using hi
  subst hid
  rw [hρ'd] at hr'
  simp at hr'
  exact .inr (by omega)
 ·exact hρ'o i (fun e=>hi ⟨by simp [e],by rw [e]; exact hd⟩)
theorem opt_alloc {e:TypeId} {z d:Nat} {zero:List AV} (hz:tyZ P e=some (z,by_,zero)) (ho:o.op = .alloc e) (hd:get H d=none) (ts:List Nat) (hcl:Qi zero=true) :
  OpT P o ts F H [] [d] (.ptr d 0 0) ((d,.cells e z [zero] true)::H):=by
 obtain ⟨i,zv,hi,hzv,hs,_,hzl,hcs,hcr⟩:=tyZ_ok hz
 refine OpT.fresh hd fun S ρ a w hF=>⟨zv.cells,1,.pointer (some ⟨w.heap.size,0,none⟩),?_,by omega,by simp,by unfold maxLen; omega,fun j el hj=>?_,fun j el k u hj hk=>?_,fun w' ρ' h=>?_⟩
 ·simp [execOp,ho,Instr.alloc,zeroValue,typeInfo,hi,hzv,newVar,newRow]
 ·cases j with
  | zero=>simp at hj; subst hj; omega
  | succ j=>simp at hj
 ·cases j with
  | zero =>
   simp at hj; subst hj
   rw [Nat.zero_mul,Nat.zero_add,if_pos rfl]
   exact ⟨((hcr w S ρ).2 k u hk).1,Ju (hcr w S ρ) hcl hk⟩
  | succ j=>simp at hj
 ·have q:=VR.ptr (w:=w') (S:=S) (ρ:=ρ') d 0 0 w.heap.size z 1 h
  simpa using q
theorem opt_box {e:TypeId} {z d:Nat} {x:Operand} {r:Arg} (hz:QL P e=some z) (hx:Qu x=some r) (ho:o.op = .box e x) (hd:get H d=none) {v:AV} {cs:List AV}
  (hv:Qe F r=some v) (hcs:X4 v=some cs) (hl:cs.length=z):OpT P o r.slots F H [] [d] (.ptr d 0 0) ((d,.cells e z [cs] (Qi cs))::H):=by
 refine OpT.fresh hd fun S ρ a w hF=>?_
 have hvr:=Qd hx hF (fun _ h=>h) hv
 have hc:=acells_ok hvr hcs
 refine ⟨(a.eval x).cells,1,.pointer (some ⟨w.heap.size,0,none⟩),?_,by rw [hc.1,hl]; omega,by simp,by unfold maxLen; omega,fun j el hj=>?_,fun j el k u hj hk=>?_,fun w' ρ' h=>?_⟩
 ·simp [execOp,ho,Instr.box,newVar,newRow]
 ·cases j with
  | zero=>simp at hj; subst hj; omega
  | succ j=>simp at hj
 ·cases j with
  | zero =>
   simp at hj; subst hj
   rw [Nat.zero_mul,Nat.zero_add]
   refine ⟨(hc.2 k u hk).1,?_⟩
   by_cases hf:Qi cs=true
   ·rw [if_pos hf]; exact Ju hc hf hk
   ·rw [if_neg hf]; exact (hc.2 k u hk).2
  | succ j=>simp at hj
 ·have q:=VR.ptr (w:=w') (S:=S) (ρ:=ρ') d 0 0 w.heap.size z 1 h
  simpa using q
theorem cellsR_reps {zero:List AV} {Z:Array Value} (h:CellsR w S ρ zero Z) (hz:zero.length≠0) (n:Nat) :
  CellsR w S ρ (reps n zero) ((Array.range (n*zero.length)).map (Z[· % Z.size]!)):=by
 have hlen:∀ n,(reps n zero).length=n*zero.length:=fun n=>by
  induction n with
  | zero=>simp [reps]
  | succ n ih=>simp [reps,ih,Nat.add_mul]; omega
 have hget:∀ n k,k<n*zero.length->(reps n zero)[k]?=zero[k % zero.length]?:=fun n=>by
  induction n with
  | zero=>intro k hk; simp at hk
  | succ n ih =>
   intro k hk
   simp only [reps]
   by_cases h1:k<zero.length
   ·rw [List.getElem?_append_left h1,Nat.mod_eq_of_lt h1]
   ·rw [List.getElem?_append_right (by omega),ih (k-zero.length) (by rw [Nat.add_mul] at hk; omega)]
    congr 1
    rw [Nat.mod_eq_sub_mod (a:=k) (by omega)]
 refine cellsR_of (by simp [hlen]) fun k v hk=>?_
 have hkl:k<n*zero.length:=by rw [← hlen]; exact (List.getElem?_eq_some_iff.1 hk).1
 rw [hget n k hkl] at hk
 obtain ⟨c,hc,h1,h2⟩:=h.at_ hk
 refine ⟨c,?_,h1,h2⟩
 have hm:k % Z.size<Z.size:=Nat.mod_lt _ (by rw [h.1]; omega)
 rw [← h.1] at hc
 have e:Z[k % Z.size]! = c:=by rw [getElem!_pos Z _ hm]; exact (Array.getElem?_eq_some_iff.1 hc).2
 simp [hkl,e]
theorem fillS_ok {w:World} {S:Nat->Prop} {ρ:Rho} {z:Nat} {ts:List Nat} {a:Act} (hF:FRs ts F a w S ρ):∀ (parts:List (Nat×Operand)) (ps:List (Nat×Arg)) (A A':List AV) (C:Array Value),cpartsS parts=some ps →
  (∀ t,t∈XP (ps.map (·.2))->t∈ts)->CellsR w S ρ A C->fillS F z A ps=some A' →
  ∃ C',Instr.fill (fun i=>some (i*z,z)) C (parts.map fun x=>(x.1,a.eval x.2))=some C'/\CellsR w S ρ A' C'
 | [],ps,A,A',C,h,_,hc,hf=>by
  simp [cpartsS] at h; subst h
  simp [fillS] at hf; subst hf
  exact ⟨C,by simp [Instr.fill],hc⟩
 | (i,x)::parts,ps,A,A',C,h,hs,hc,hf=>by
  simp only [cpartsS] at h
  split at h
  ·rename_i r ps' hr hps
   injection h with h; subst h
   simp only [fillS] at hf
   split at hf
   ·rename_i v hv
    split at hf
    ·rename_i cs hcs
     split at hf
     ·rename_i hb
      have hvr:=Qd hr hF (fun t ht=>hs t (by simp [XP,ht])) hv
      have hcc:=acells_ok hvr hcs
      have hcp:=cellsR_part hc hcc (off:=i*z) (by omega)
      obtain ⟨C',e1,e2⟩:=fillS_ok hF parts ps' _ A' _ hps (fun t ht=>hs t (by simp only [List.map_cons,XP]; exact List.mem_append_right _ ht)) hcp hf
      refine ⟨C',?_,e2⟩
      have g1:(a.eval x).cells.size=z:=by rw [hcc.1]; exact hb.1
      have g2:¬ (i*z+(a.eval x).cells.size>C.size):=by rw [g1,hc.1]; omega
      simp only [List.map_cons,Instr.fill]
      rw [if_neg (by simp [g1]; rw [g1] at g2; omega)]
      exact e1
     ·cases hf
    ·cases hf
   ·cases hf
  ·cases h
theorem fillA_ok {w:World} {S:Nat->Prop} {ρ:Rho} {ts:List Nat} {a:Act} (hF:FRs ts F a w S ρ) (place:Nat->Option (Nat×Nat)) (comp:List (Nat×Operand)->Option (List (Nat×Nat×Arg)))
  (h0:comp []=some []) (hcomp:∀ i x l ps,comp ((i,x)::l)=some ps->∃ off n r ps',place i=some (off,n)/\Qu x=some r/\comp l=some ps'/\ps=(off,n,r)::ps') :
  ∀ (parts:List (Nat×Operand)) (ps:List (Nat×Nat×Arg)) (A A':List AV) (C:Array Value),comp parts=some ps →
  (∀ t,t∈XP (ps.map (·.2.2))->t∈ts)->CellsR w S ρ A C->fillA F A ps=some A' →
  ∃ C',Instr.fill place C (parts.map fun x=>(x.1,a.eval x.2))=some C'/\CellsR w S ρ A' C'
 | [],ps,A,A',C,h,_,hc,hf=>by
  rw [h0] at h; injection h with h; subst h
  simp [fillA] at hf; subst hf
  exact ⟨C,by simp [Instr.fill],hc⟩
 | (i,x)::parts,ps,A,A',C,h,hs,hc,hf=>by
  obtain ⟨off,n,r,ps',hp,hr,hps,rfl⟩:=hcomp i x parts ps h
  simp only [fillA] at hf
  split at hf
  ·rename_i v hv
   split at hf
   ·rename_i cs hcs
    split at hf
    ·rename_i hb
     have hvr:=Qd hr hF (fun t ht=>hs t (by simp [XP,ht])) hv
     have hcc:=acells_ok hvr hcs
     have hcp:=cellsR_part hc hcc (off:=off) (by omega)
     obtain ⟨C',e1,e2⟩:=fillA_ok hF place comp h0 hcomp parts ps' _ A' _ hps (fun t ht=>hs t (by simp only [List.map_cons,XP]; exact List.mem_append_right _ ht)) hcp hf
     refine ⟨C',?_,e2⟩
     have g1:(a.eval x).cells.size=n:=by rw [hcc.1]; exact hb.1
     have g2:¬ (off+(a.eval x).cells.size>C.size):=by rw [g1,hc.1]; omega
     simp only [List.map_cons,Instr.fill,hp]
     rw [if_neg (by simp [g1]; rw [g1] at g2; omega)]
     exact e1
    ·cases hf
   ·cases hf
  ·cases hf
end
end Go.Proofs.YthmbjgnjfjjibaaGreatDoor
namespace Go.Proofs.YthmbjgnjfjjibaaGreatDoor
open Go.RowKit
set_option maxRecDepth 100000
variable {parts:Array (Nat×Operand)} {ps:List (Nat×Nat×Arg)} {by_:Nat}
section
variable {P:Program} {o:Oper} {F:List (Nat×AV)} {H:List (Nat×Ob)}
theorem run_places (w:World):∀ (l:List Field),(∀ f∈l,(QL P f.type).isSome=true)->(l.mapM fun f=>Prod.mk f.offset <$> sizeOf f.type:Sem (List (Nat×Nat))).run P w =
  .ok (l.map fun f=>(f.offset,(QL P f.type).getD 0)) w
 | [],_=>by simp
 | f::l,hl=>by
  obtain ⟨m,hm⟩:=Option.isSome_iff_exists.1 (hl f (by simp))
  have:=run_places w l fun g hg=>hl g (by simp [hg])
  simp [QF hm,hm,this]
theorem opt_build_struct {t:TypeId} {fields:Array Field} {n:Nat} {zero cs:List AV} (ht:P.underlying t=some (.struct fields))
  (hz:tyZ P t=some (n,by_,zero)) (hp:cparts P fields parts.toList=some ps) (hall:fields.toList.all (fun f=>(QL P f.type).isSome)=true) (ho:o.op = .build t parts) (hf:fillA F zero ps=some cs) :
  OpT P o (XP (ps.map (·.2.2))) F H [] [] (.agg cs) H:=by
 obtain ⟨i,zv,hi,hzv,_,_,_,_,hcr⟩:=tyZ_ok hz
 refine OpT.pure fun S ρ a w hF _=>?_
 have hpl:=run_places (P:=P) w fields.toList (fun f hf=>(List.all_eq_true.1 hall) f hf)
 obtain ⟨C',e1,e2⟩:=fillA_ok hF (fun i=>((fields.toList.map fun f=>(f.offset,(QL P f.type).getD 0)).toArray)[i]?) (cparts P fields) rfl
  (fun i x l ps h=>by
   simp only [cparts] at h
   split at h
   ·rename_i f r ps' h1 h2 h3
    split at h
    ·rename_i m hm
     injection h with h
     exact ⟨f.offset,m,r,ps',by simp [h1,hm],h2,h3,h.symm⟩
    ·cases h
   ·cases h) parts.toList ps zero cs zv.cells hp (fun _ h=>h) (hcr w S ρ) hf
 refine ⟨.agg C',?_,.agg cs C' e2.1 (fun j v h=>(e2.2 j v h).1) fun j v h=>(e2.2 j v h).2⟩
 have e3:(parts.map fun x=>(x.1,a.eval x.2)).toList=parts.toList.map fun x=>(x.1,a.eval x.2):=by simp
 simp [execOp,ho,Instr.build,zeroValue,typeInfo,hi,hzv,run_underlying ht,Array.mapM_eq_mapM_toList,hpl]
 simp at e1
 rw [e1]
 simp
theorem opt_build_array {t e:TypeId} {len n m:Nat} {zero cs:List AV} (ht:P.underlying t=some (.array len e))
  (hz:tyZ P t=some (n,by_,zero)) (hm:QL P e=some m) (hp:cpartsA m parts.toList=some ps) (ho:o.op = .build t parts) (hf:fillA F zero ps=some cs) :
  OpT P o (XP (ps.map (·.2.2))) F H [] [] (.agg cs) H:=by
 obtain ⟨i,zv,hi,hzv,_,_,_,_,hcr⟩:=tyZ_ok hz
 refine OpT.pure fun S ρ a w hF _=>?_
 obtain ⟨C',e1,e2⟩:=fillA_ok hF (fun i=>some (i*m,m)) (cpartsA m) rfl
  (fun i x l ps h=>by
   simp only [cpartsA] at h
   split at h
   ·rename_i r ps' h2 h3
    injection h with h
    exact ⟨i*m,m,r,ps',rfl,h2,h3,h.symm⟩
   ·cases h) parts.toList ps zero cs zv.cells hp (fun _ h=>h) (hcr w S ρ) hf
 refine ⟨.agg C',?_,.agg cs C' e2.1 (fun j v h=>(e2.2 j v h).1) fun j v h=>(e2.2 j v h).2⟩
 simp [execOp,ho,Instr.build,zeroValue,typeInfo,hi,hzv,run_underlying ht,QF hm]
 rw [e1]
 simp
theorem length_chunks (z:Nat):∀ (n:Nat) (l:List AV),(Je z n l).length=n
 | 0,_=>rfl
 | n+1,l=>by simp [Je,length_chunks z n]
theorem getElem?_chunks (z:Nat):∀ (n:Nat) (l:List AV) (j:Nat),(Je z n l)[j]?=if j<n then some ((l.drop (j*z)).take z) else none
 | 0,l,j=>by simp [Je]
 | n+1,l,j=>by
  cases j with
  | zero=>simp [Je]
  | succ j =>
   simp only [Je,List.getElem?_cons_succ,getElem?_chunks z n,List.drop_drop,Nat.add_lt_add_iff_right]
   rw [show z+j*z=(j+1)*z by rw [Nat.add_mul]; omega]
theorem length_reps (l:List AV):∀ n,(reps n l).length=n*l.length
 | 0=>by simp [reps]
 | n+1=>by simp [reps,length_reps l n,Nat.add_mul]; omega
theorem length_fillS {F:List (Nat×AV)} {z:Nat}:∀ (ps:List (Nat×Arg)) (A A':List AV),fillS F z A ps=some A'->A'.length=A.length
 | [],A,A',h=>by simp [fillS] at h; subst h; rfl
 | (i,x)::ps,A,A',h=>by
  simp only [fillS] at h
  split at h
  ·split at h
   ·split at h
    ·rw [length_fillS ps _ _ h,length_setAt]
    ·cases h
   ·cases h
  ·cases h
theorem opt_bslice {t e:TypeId} {z len d:Nat} {zero l:List AV} {ps:List (Nat×Arg)} (ht:P.underlying t=some (.slice e)) (hz:tyZ P e=some (z,by_,zero))
  (hp:cpartsS parts.toList=some ps) (hl:len*z<=2^24) (hz0:z≠0) (hlen:len<=4096) (ho:o.op = .buildSlice t len parts) (hd:get H d=none) (hf:fillS F z (reps len zero) ps=some l) :
  OpT P o (XP (ps.map (·.2))) F H [] [d] (.sl d 0 len) ((d,.cells e z (Je z len l) (Qi l))::H):=by
 obtain ⟨i,zv,hi,hzv,hs,_,hzl,hcs,hcr⟩:=tyZ_ok hz
 refine OpT.fresh hd fun S ρ a w hF=>?_
 have h0:CellsR w S ρ (reps len zero) ((Array.range (len*z)).map (zv.cells[· % zv.cells.size]!)):=by
  have:=cellsR_reps (hcr w S ρ) (by omega) len
  rwa [hzl] at this
 obtain ⟨C',e1,e2⟩:=fillS_ok hF parts.toList ps _ l _ hp (fun _ h=>h) h0 hf
 have hll:l.length=len*z:=by rw [length_fillS ps _ _ hf,length_reps,hzl]
 refine ⟨C',len,.slice (some ⟨w.heap.size,0,none⟩) len len,?_,by rw [e2.1,hll],by rw [length_chunks]; exact Nat.le_refl _,by unfold maxLen; omega,fun j el hj=>?_,fun j el k u hj hk=>?_,fun w' ρ' h=>?_⟩
 ·have hne:¬ (len*z>2^24):=by omega
  by_cases hl0:len*z=0
  ·have hlz:len=0:=by rcases Nat.mul_eq_zero.1 hl0 with h | h; exact h; exact absurd h hz0
   subst hlz
   have e0:∀ f:Nat->Value,(Array.range 0).map f = #[]:=fun _=>by simp [Array.range_zero']
   rw [Nat.zero_mul,e0] at e1
   simp [execOp,ho,Instr.buildSlice,run_underlying ht,QF (tyZ_size hz),newRow]
   rw [e0,e1]
   simp
  ·simp [execOp,ho,Instr.buildSlice,run_underlying ht,QF (tyZ_size hz),hl0,zeroValue,typeInfo,hi,hzv,newRow]
   rw [if_neg (by omega)]
   rw [e1]
   simp
 ·rw [getElem?_chunks] at hj
  split at hj
  ·injection hj with hj; subst hj; simp; omega
  ·cases hj
 ·rw [getElem?_chunks] at hj
  split at hj
  ·injection hj with hj; subst hj
   have hkz:k<z:=by
    have:=(List.getElem?_eq_some_iff.1 hk).1
    simp at this; omega
   rw [List.getElem?_take,if_pos hkz,List.getElem?_drop] at hk
   refine ⟨(e2.2 _ u hk).1,?_⟩
   by_cases hcl:Qi l=true
   ·rw [if_pos hcl]; exact Ju e2 hcl hk
   ·rw [if_neg hcl]; exact (e2.2 _ u hk).2
  ·cases hj
 ·have q:=VR.sl (w:=w') (S:=S) (ρ:=ρ') d 0 len w.heap.size z len len h (by omega) (Nat.le_refl _)
  simpa using q
theorem opt_mksl {t e:TypeId} {z d:Nat} {zero:List AV} {l c:Operand} {rl rc:Arg} (ht:P.underlying t=some (.slice e)) (hz:tyZ P e=some (z,by_,zero)) (hz0:z≠0)
  (hl:Qu l=some rl) (hc:Qu c=some rc) (ho:o.op = .makeSlice t l c) (hd:get H d=none) (hcl:Qi zero=true) {n q:Int} (h1:Qe F rl=some (.int .i64 n)) (h2:Qe F rc=some (.int .i64 q))
  (h0:0<=n) (hnq:n<=q) (h63:q<=9223372036854775807) (hb:(by_:Int)*q<=281474976710656) :
  OpT P o (rl.slots++rc.slots) F H [] [d] (.sl d 0 n.toNat) ((d,.cells e z (List.replicate n.toNat zero) true)::H):=by
 obtain ⟨i,zv,hi,hzv,hs,hby,hzl,hcs,hcr⟩:=tyZ_ok hz
 obtain ⟨m,rfl⟩:=Int.eq_ofNat_of_zero_le h0
 obtain ⟨q,rfl⟩:=Int.eq_ofNat_of_zero_le (Int.le_trans h0 hnq)
 refine OpT.fresh hd fun S ρ a w hF=>?_
 have e1:=(Qd hl hF (fun _ h=>by simp [h]) h1).int_inv
 have e2:=(Qd hc hF (fun _ h=>by simp [h]) h2).int_inv
 have hrun:=run_make (P:=P) w t e i zv ht hi hzv .i64 .i64 (m:Int) (q:Int) (by omega) (by omega) (by rw [hby]; omega) (by omega)
 have hR:=cellsR_reps (hcr w S ρ) (by omega) m
 rw [hzl] at hR
 refine ⟨madeCells zv.cells (q*z),q,.slice (some ⟨w.heap.size,0,none⟩) m q,?_,by simp [size_madeCells],by simp; omega,by unfold maxLen; omega,fun j el hj=>?_,fun j el k u hj hk=>?_,fun w' ρ' h=>?_⟩
 ·simp only [Int.toNat_natCast,hs] at hrun
  simp [execOp,ho,e1,e2,hrun]
 ·rw [List.getElem?_replicate] at hj
  split at hj
  ·injection hj with hj; subst hj; omega
  ·cases hj
 ·rw [List.getElem?_replicate] at hj
  split at hj
  ·rename_i hjm
   injection hj with hj; subst hj
   have hkz:k<z:=by have:=(List.getElem?_eq_some_iff.1 hk).1; omega
   have hlt:j*z+k<q*z:=by
    calc j*z+k<j*z+z:=by omega
     _=(j+1)*z:=by rw [Nat.add_mul,Nat.one_mul]
     _<=q*z:=Nat.mul_le_mul_right _ (by simp at hjm; omega)
   have hmod:(j*z+k) % z=k:=by rw [Nat.mul_comm,Nat.mul_add_mod,Nat.mod_eq_of_lt hkz]
   have hcell:(madeCells zv.cells (q*z)).getD (j*z+k) undef=zv.cells.getD k undef:=by
    have hk':k<zv.cells.size:=by omega
    have e1:(madeCells zv.cells (q*z))[j*z+k]?=some (zv.cells[k]'hk'):=by
     unfold madeCells
     have e:zv.cells[(j*z+k) % zv.cells.size]! = zv.cells[k]'hk':=by
      rw [hcs,hmod]; exact getElem!_pos zv.cells k hk'
     simp [hlt,e]
    simp [e1,hk']
   rw [hcell,if_pos rfl]
   exact ⟨((hcr w S ρ).2 k u hk).1,Ju (hcr w S ρ) hcl hk⟩
  ·cases hj
 ·have q:=VR.sl (w:=w') (S:=S) (ρ:=ρ') d 0 m w.heap.size z q q h (by omega) (by omega)
  simpa using q
end
section
variable {P:Program} {o:Oper} {F:List (Nat×AV)} {H:List (Nat×Ob)}
theorem opt_slst {t e:TypeId} {n z:Nat} {x:Operand} {rx:Arg} (ht:P.underlying t=some (.array n e)) (hz:QL P e=some z) (hz0:z≠0) (hx:Qu x=some rx)
  (ho:o.op = .slice t x none none none) {i e':Nat} {el:List AV} (hv:Qe F rx=some (.ptr i 0 0)) (hi:get H i=some (.cells e' (n*z) [el] true)) (hn:n≠0) :
  OpT P o rx.slots F H [] [i] (.rs z (Je z n el)) ((i,.dead)::H):=by
 intro S ρ a w Q K hF hS hH _ hK
 obtain ⟨b,z1,cap,hρ,e1⟩:=(Qd hx hF (fun _ h=>h) hv).ptr_inv
 obtain ⟨bk,z2,c2,q1,hz2,q2⟩:=hH.ob i _ (.inr (List.mem_singleton.2 rfl)) hi
 rw [hρ] at q1
 injection q1 with q1
 obtain ⟨rfl,rfl,rfl⟩:some b=bk/\z1=z2/\cap=c2:=by simpa using q1
 subst hz2
 obtain ⟨hs,hm,C,hC,e2,e3,e4,e5⟩:=q2
 have gs:∀ {x:Ob},get ((i,x)::H) i=some x:=fun {x}=>by simp [get]
 have gn:∀ {x:Ob} {k:Nat},k≠i->get ((i,x)::H) k=get H k:=fun {x k} hk=>by simp [get,Ne.symm hk]
 have hlb:Jb ρ H (fun k=>k∈[]\/k∈[i]) b:=⟨i,_,n*z,cap,.inr (List.mem_singleton.2 rfl),hi,rfl,hρ⟩
 refine .inl ?_
 have hr:(execOp a.eval o).run P w = .ok (.value (.slice (some ⟨b,0,none⟩) n n)) w:=by
  have sl:=Jp (P:=P) false (n:=n) (cap:=n) (lo:=none) (hi:=none) (l:=0) (h:=n) (.inl ⟨rfl,rfl⟩) (.inl ⟨rfl,rfl⟩) (Int.le_refl 0) (Int.natCast_nonneg n) (Int.le_refl _)
  simp [execOp,ho,e1,Instr.sliceAt,run_underlying ht,Instr.sureAddr,sl,QF hz,hn,X7]
 unfold Oper.wp
 rw [hr]
 have hel:∀ (k:Nat) (v:AV),el[k]?=some v->w.cell? ⟨b,k,none⟩=some (C.getD k undef)/\(C.getD k undef).oneCell'=true/\CR w S v (C.getD k undef):=fun k v hk=>by
  obtain ⟨g1,g2⟩:=e5 0 el k v rfl hk
  rw [if_pos rfl] at g2
  rw [Nat.zero_mul,Nat.zero_add] at g1 g2
  have h0:=e4 0 el rfl
  have hkl:=(List.getElem?_eq_some_iff.1 hk).1
  have hlt:k<C.size:=by
   rw [e2]
   have hc1:1<=cap:=e3
   calc k<1*(n*z):=by omega
    _<=cap*(n*z):=Nat.mul_le_mul_right _ hc1
  refine ⟨?_,g1,g2⟩
  rw [cell_of_row w b _ C e' (0,0) hC]
  exact getD_some hlt
 refine hK _ w (fun x=>S x\/b=x) ρ (.cl ?_) ⟨fun k ob hk hg=>?_,fun k j ok oj b' z' z'' c' c'' hk hj hkj hgk hgj hlk hlj hrk hrj=>?_⟩ ⟨Keep.refl _ _,fun x hx=>.inl hx,fun x hx=>?_,fun x hx=>?_,fun x hx=>?_,fun _ _=>rfl⟩
 ·have hq:=CR.rs (w:=w) (S:=fun x=>S x\/b=x) z (Je z n el) b 0 n (fun q k=>C.getD (q*z+k) undef) (.inr rfl) (by rw [length_chunks]; exact Nat.le_refl _)
   (fun q el' k u hq hk=>by
    rw [getElem?_chunks] at hq
    split at hq
    ·injection hq with hq; subst hq
     rw [List.getElem?_take] at hk
     split at hk
     ·rw [List.getElem?_drop] at hk
      obtain ⟨g1,g2,_⟩:=hel _ u hk
      rw [Nat.zero_add]
      exact ⟨g1,g2⟩
     ·cases hk
    ·cases hq)
   (fun q el' k u hq hk=>by
    rw [getElem?_chunks] at hq
    split at hq
    ·injection hq with hq; subst hq
     rw [List.getElem?_take] at hk
     split at hk
     ·rw [List.getElem?_drop] at hk
      exact (hel _ u hk).2.2.mono (fun x hx=>.inl hx) (fun _ _ _ h=>h)
     ·cases hk
    ·cases hq)
  rw [length_chunks] at hq
  exact hq
 ·have hki:k=i:=by rcases hk with hk | hk; cases hk; exact List.mem_singleton.1 hk
  subst hki
  rw [gs] at hg
  injection hg with hg; subst hg
  exact ⟨some b,n*z,cap,hρ,trivial⟩
 ·have hki:k=i:=by rcases hk with hk | hk; cases hk; exact List.mem_singleton.1 hk
  subst hki
  rw [gs] at hgk
  injection hgk with hgk; subst hgk; cases hlk
 ·rcases hx with hx | rfl
  ·exact .inl hx
  ·exact .inr (.inl hlb)
 ·rcases hx with hx | rfl
  ·exact hS x hx
  ·exact (Array.getElem?_eq_some_iff.1 hC).1
 ·obtain ⟨k,ob,z',c',hk,hg,hlv,hr'⟩:=hx
  have hki:k=i:=by rcases hk with hk | hk; cases hk; exact List.mem_singleton.1 hk
  subst hki
  rw [gs] at hg
  injection hg with hg; subst hg; cases hlv
end
end Go.Proofs.YthmbjgnjfjjibaaGreatDoor
namespace Go.Proofs.YthmbjgnjfjjibaaGreatDoor
open Go.RowKit
set_option maxRecDepth 100000
theorem window {j j' z k p n:Nat} (hk:k<z) (hp:p+n<=z) (hne:j'≠j):¬ (j*z+p<=j'*z+k/\j'*z+k<j*z+p+n):=by
 rcases Nat.lt_or_gt_of_ne hne with h | h
 ·have:(j'+1)*z<=j*z:=Nat.mul_le_mul_right _ h
  rw [Nat.add_mul,Nat.one_mul] at this; omega
 ·have:(j+1)*z<=j'*z:=Nat.mul_le_mul_right _ h
  rw [Nat.add_mul,Nat.one_mul] at this; omega
theorem splice_get (C:Array Value) (off:Nat) (vs:List Value) (h:off+vs.length<=C.size) :
  ((C.toList.take off++vs++C.toList.drop (off+vs.length)).toArray).size=C.size ∧
  ∀ k:Nat,((C.toList.take off++vs++C.toList.drop (off+vs.length)).toArray)[k]?=if off<=k/\k<off+vs.length then vs[k-off]? else C[k]?:=by
 refine ⟨by simp; omega,fun k=>?_⟩
 have hl1:(C.toList.take off).length=off:=by simp; omega
 simp only [List.getElem?_toArray]
 by_cases h1:k<off
 ·rw [List.append_assoc,List.getElem?_append_left (by omega),List.getElem?_take,if_pos h1,if_neg (by omega)]
  simp
 ·by_cases h2:k<off+vs.length
  ·rw [List.append_assoc,List.getElem?_append_right (by omega),List.getElem?_append_left (by omega),if_pos (by omega),hl1]
  ·rw [List.getElem?_append_right (by simp; omega),if_neg (by omega),List.getElem?_drop]
   simp only [List.length_append,hl1]
   rw [show off+vs.length+(k-(off+vs.length))=k by omega]
   simp
variable {S:Nat->Prop} {ρ:Rho} {w:World}
variable {els:List (List AV)}
section
variable {P:Program} {o:Oper} {F:List (Nat×AV)} {H:List (Nat×Ob)}
theorem OpT.modify {ts:List Nat} {rd:List Nat} {i e z:Nat} {els':List (List AV)} {fl fl':Bool} {v:AV} (hi:get H i=some (.cells e z els fl)) (hird:i ∉ rd)
  (h:∀ (S:Nat->Prop) (ρ:Rho) (a:Act) (w:World),FRs ts F a w S ρ->HRi (fun k=>k∈rd\/k∈[i]) w S ρ H->∃ b cap,ρ i=some (some b,z,cap) ∧
   ∀ C:Array Value,w.heap[b]?=some (.cells C e (0,0))->C.size=cap*z->els.length<=cap →
    (∀ (j:Nat) (el:List AV),els[j]?=some el->el.length<=z) →
    (∀ (j:Nat) (el:List AV) (k:Nat) (u:AV),els[j]?=some el->el[k]?=some u->(C.getD (j*z+k) undef).oneCell'=true/\if fl=true then CR w S u (C.getD (j*z+k) undef) else VR w S ρ u (C.getD (j*z+k) undef)) →
    ∃ (C':Array Value) (cv:Value),((execOp a.eval o).run P w = .ok (.value cv) (w.setRow b C')\/((execOp a.eval o).run P w = .ok .skip (w.setRow b C')/\cv=undef))/\C'.size=C.size ∧
     els'.length<=cap/\(∀ (j:Nat) (el:List AV),els'[j]?=some el->el.length<=z) ∧
     (∀ (j:Nat) (el:List AV) (k:Nat) (u:AV),els'[j]?=some el->el[k]?=some u->(C'.getD (j*z+k) undef).oneCell'=true/\if fl'=true then CR w S u (C'.getD (j*z+k) undef) else VR w S ρ u (C'.getD (j*z+k) undef)) ∧
     ∀ w',CR w' S v cv) :
  OpT P o ts F H rd [i] v ((i,.cells e z els' fl')::H):=by
 intro S ρ a w Q K hF hS hH _ hK
 obtain ⟨b,cap,hρ,h⟩:=h S ρ a w hF hH
 obtain ⟨bk,z1,cap1,h1,hz,h2⟩:=hH.ob i _ (by simp) hi
 rw [hρ] at h1
 obtain ⟨rfl,rfl,rfl⟩:some b=bk/\z=z1/\cap=cap1:=by simpa using h1
 obtain ⟨hs,hm,C,hC,e1,e2,e3,e4⟩:=h2
 obtain ⟨C',cv,hr,f1,f2,f3,f4,f5⟩:=h C hC e1 e2 e3 e4
 have hcell:∀ (a:Addr) (c:Value),S a.block->w.cell? a=some c->(w.setRow b C').cell? a=some c:=fun a c hsb hc=>by
  rw [World.cell?_of_block (w:=w) (setRow_other w b a.block C' (fun e=>by rw [e] at hsb; exact hs hsb))]; exact hc
 have hget:∀ k,k≠i->get ((i,Ob.cells e z els' fl')::H) k=get H k:=fun k hk=>by simp [get,Ne.symm hk]
 have hgeti:get ((i,Ob.cells e z els' fl')::H) i=some (.cells e z els' fl'):=by simp [get]
 have hblk:∀ k,k≠b->(w.setRow b C').heap[k]?=w.heap[k]?:=fun k hk=>setRow_other w b k C' hk
 have hsz:(w.setRow b C').heap.size=w.heap.size:=by simp [World.setRow]
 have live_i:Jb ρ H (fun k=>k∈rd\/k∈[i]) b:=⟨i,_,z,cap,by simp,hi,rfl,hρ⟩
 have fin:K (a.put o.dst cv) (w.setRow b C'):=by
  refine hK cv _ S ρ (.cl (f5 _)) ⟨fun k ob hk hg=>?_,fun k l ok ol b' z' z'' c' c'' hk hl hne hgk hgl hlk hll hrk hrl=>?_⟩
   ⟨⟨rfl,rfl,rfl,by rw [hsz]; exact Nat.le_refl _,fun k hk hn=>hblk k (fun e=>by subst e; exact hn live_i)⟩,fun _ h=>h,fun _ h=>.inl h,fun b' hb'=>by rw [hsz]; exact hS b' hb',fun b' hb'=>?_,fun _ _=>rfl⟩
  ·by_cases hki:k=i
   ·subst hki
    rw [hgeti] at hg
    injection hg with hg; subst hg
    refine ⟨some b,z,cap,hρ,rfl,hs,hm,C',setRow_heap w b C C' e (0,0) hC,by rw [f1,e1],f2,f3,fun j el q u hj hq=>?_⟩
    obtain ⟨g1,g2⟩:=f4 j el q u hj hq
    refine ⟨g1,?_⟩
    by_cases hf:fl'=true
    ·rw [if_pos hf] at g2 ⊢; exact g2.mono (fun _ h=>h) hcell
    ·rw [if_neg hf] at g2 ⊢; exact g2.mono (fun _ h=>h) hcell (fun _ _ h=>h)
   ·rw [hget k hki] at hg
    obtain ⟨bk',z',cap',g1,g2⟩:=hH.ob k ob hk hg
    refine ⟨bk',z',cap',g1,g2.mono (fun _ h=>h) hcell (fun _ _ h=>h) fun b' hb' hl=>?_⟩
    subst hb'
    have hne:b'≠b:=fun e=>by subst e; exact hH.dis k i ob _ b' z' z cap' cap hk (by simp) hki hg hi hl rfl g1 hρ
    refine ⟨hblk b' hne,?_⟩
    cases ob with
    | dead=>cases hl
    | glob g0 cs0=>cases hl
    | cells e'' z'' els'' fl''=>exact g2.2.1
    | lp r1 Fl1 =>
     obtain ⟨b1,e1,q3,_⟩:=g2
     injection e1 with e1; subst e1; exact q3
    | fm kvs =>
     obtain ⟨b1,es,clk,e1,q3,_⟩:=g2
     injection e1 with e1; subst e1; exact q3
    | mset ks =>
     obtain ⟨b1,es,clk,e1,q3,_⟩:=g2
     injection e1 with e1; subst e1; exact q3
  ·by_cases hki:k=i
   ·subst hki
    have hli:l≠k:=Ne.symm hne
    rw [hget l hli] at hgl
    exact hH.dis k l _ _ b' z' z'' c' c'' hk hl hne hi hgl rfl hll hrk hrl
   ·rw [hget k hki] at hgk
    by_cases hli:l=i
    ·subst hli
     exact hH.dis k l _ _ b' z' z'' c' c'' hk hl hne hgk hi hlk rfl hrk hrl
    ·rw [hget l hli] at hgl
     exact hH.dis k l _ _ b' z' z'' c' c'' hk hl hne hgk hgl hlk hll hrk hrl
  ·obtain ⟨k,ob,z',cap',hk,hg,hl,hrk⟩:=hb'
   by_cases hki:k=i
   ·subst hki; exact .inl ⟨k,_,z',cap',hk,hi,rfl,hrk⟩
   ·rw [hget k hki] at hg; exact .inl ⟨k,ob,z',cap',hk,hg,hl,hrk⟩
 refine .inl ?_
 unfold Oper.wp
 rcases hr with hr | ⟨hr,rfl⟩
 ·rw [hr]; exact fin
 ·rw [hr]; exact fin
theorem set_cells {z cap:Nat} {fl flc:Bool} {C:Array Value} {cs:List AV} {D:Array Value} {j p:Nat} {el:List AV} (h1:C.size=cap*z) (h2:els.length<=cap)
  (h3:∀ (j:Nat) (el:List AV),els[j]?=some el->el.length<=z)
  (h4:∀ (j:Nat) (el:List AV) (k:Nat) (u:AV),els[j]?=some el->el[k]?=some u->(C.getD (j*z+k) undef).oneCell'=true/\if fl=true then CR w S u (C.getD (j*z+k) undef) else VR w S ρ u (C.getD (j*z+k) undef))
  (hj:els[j]?=some el) (hp:p+cs.length<=el.length) (hD:CellsR w S ρ cs D) (hfl:flc=true->Qi cs=true) :
  let C':=(C.toList.take (j*z+p)++D.toList++C.toList.drop (j*z+p+D.toList.length)).toArray
  C'.size=C.size/\(els.set j (Jj el p cs)).length<=cap/\(∀ (i:Nat) (el':List AV),(els.set j (Jj el p cs))[i]?=some el'->el'.length<=z) ∧
  ∀ (i:Nat) (el':List AV) (k:Nat) (u:AV),(els.set j (Jj el p cs))[i]?=some el'->el'[k]?=some u->(C'.getD (i*z+k) undef).oneCell'=true ∧
   if (fl&&flc)=true then CR w S u (C'.getD (i*z+k) undef) else VR w S ρ u (C'.getD (i*z+k) undef):=by
 have hjl:j<els.length:=(List.getElem?_eq_some_iff.1 hj).1
 have hel:=h3 j el hj
 have hDl:D.toList.length=cs.length:=by simpa using hD.1
 have hfit:j*z+p+D.toList.length<=C.size:=by
  rw [h1,hDl]
  calc j*z+p+cs.length<=j*z+z:=by omega
   _=(j+1)*z:=by rw [Nat.add_mul,Nat.one_mul]
   _<=cap*z:=Nat.mul_le_mul_right _ (by omega)
 obtain ⟨s1,s2⟩:=splice_get C (j*z+p) D.toList hfit
 intro C'
 refine ⟨s1,by simpa using h2,fun i el' hi=>?_,fun i el' k u hi hk=>?_⟩
 ·rw [List.getElem?_set] at hi
  by_cases hij:j=i
  ·subst hij
   rw [if_pos rfl,if_pos hjl] at hi
   injection hi with hi; subst hi; rw [length_setAt]; exact hel
  ·rw [if_neg hij] at hi
   exact h3 i el' hi
 ·have getD_C':C'.getD (i*z+k) undef=if j*z+p<=i*z+k/\i*z+k<j*z+p+D.toList.length then D.getD (i*z+k-(j*z+p)) undef else C.getD (i*z+k) undef:=by
   have e:=s2 (i*z+k)
   rw [Array.getD_eq_getD_getElem?,e]
   split <;> simp
  have weaken:∀ c:Value,(if fl=true then CR w S u c else VR w S ρ u c)->VR w S ρ u c:=fun c h=>by
   by_cases hf:fl=true
   ·rw [if_pos hf] at h; exact .cl h
   ·rw [if_neg hf] at h; exact h
  rw [getD_C']
  rw [List.getElem?_set] at hi
  by_cases hij:j=i
  ·subst hij
   rw [if_pos rfl,if_pos hjl] at hi
   injection hi with hi; subst hi
   rw [getElem?_setAt cs el p k hp] at hk
   by_cases hkp:p<=k/\k<p+cs.length
   ·rw [if_pos hkp] at hk
    rw [if_pos (by rw [hDl]; omega),show j*z+k-(j*z+p)=k-p by omega]
    obtain ⟨g1,g2⟩:=hD.2 (k-p) u hk
    refine ⟨g1,?_⟩
    split
    ·rename_i hf
     exact Ju hD (hfl (by simp at hf; exact hf.2)) hk
    ·exact g2
   ·rw [if_neg hkp] at hk
    rw [if_neg (by rw [hDl]; omega)]
    obtain ⟨g1,g2⟩:=h4 j el k u hj hk
    refine ⟨g1,?_⟩
    split
    ·rename_i hf
     simp at hf
     rw [if_pos hf.1] at g2; exact g2
    ·exact weaken _ g2
  ·rw [if_neg hij] at hi
   have hkz:k<z:=Nat.lt_of_lt_of_le (List.getElem?_eq_some_iff.1 hk).1 (h3 i el' hi)
   rw [if_neg (by rw [hDl]; exact window hkz (by omega) (Ne.symm hij))]
   obtain ⟨g1,g2⟩:=h4 i el' k u hi hk
   refine ⟨g1,?_⟩
   split
   ·rename_i hf
    simp at hf
    rw [if_pos hf.1] at g2; exact g2
   ·exact weaken _ g2
theorem Xi {cs:List AV} {D:Array Value} (h:CellsR w S ρ cs D):∀ v∈D.toList,v.oneCell'=true:=by
 intro v hv
 obtain ⟨k,hk⟩:=List.getElem?_of_mem hv
 have hkl:k<cs.length:=by
  have:=(List.getElem?_eq_some_iff.1 hk).1
  rw [← h.1]; simpa using this
 obtain ⟨c,hc,h1,_⟩:=h.at_ (List.getElem?_eq_getElem hkl)
 have e:D[k]?=some v:=by simpa using hk
 rw [e] at hc
 injection hc with hc
 rw [hc]; exact h1
theorem opt_st {t:TypeId} {n i j p e z:Nat} {x y:Operand} {rx ry:Arg} {fl:Bool} {el cs:List AV} {u:AV} (hz:QL P t=some n) (hx:Qu x=some rx) (hy:Qu y=some ry) (ho:o.op = .store t x y)
  (hv:Qe F rx=some (.ptr i j p)) (hu:Qe F ry=some u) (hi:get H i=some (.cells e z els fl)) (hcs:X4 u=some cs) (hj:els[j]?=some el) (hn:cs.length=n) (hp:p+n<=el.length) :
  OpT P o (rx.slots++ry.slots) F H [] [i] .und ((i,.cells e z (els.set j (Jj el p cs)) (fl&&Qi cs))::H):=by
 refine OpT.modify (i:=i) hi (by simp) fun S ρ a w hF hH=>?_
 obtain ⟨b,z0,cap,hρ,e1⟩:=(Qd hx hF (fun _ h=>by simp [h]) hv).ptr_inv
 obtain ⟨rfl,_⟩:=Xz hH (by simp) hi hρ
 refine ⟨b,cap,hρ,fun C hC h1 h2 h3 h4=>?_⟩
 have hD:=acells_ok (Qd hy hF (fun _ h=>by simp [h]) hu) hcs
 obtain ⟨s1,s2,s3,s4⟩:=set_cells (flc:=Qi cs) (cs:=cs) (p:=p) h1 h2 h3 h4 hj (by omega) hD (fun h=>h)
 have hjl:j<els.length:=(List.getElem?_eq_some_iff.1 hj).1
 have hfit:j*z+p+(a.eval y).cells.toList.length<=C.size:=by
  have:=h3 j el hj
  have hDl:(a.eval y).cells.toList.length=cs.length:=by simpa using hD.1
  rw [h1,hDl]
  calc j*z+p+cs.length<=j*z+z:=by omega
   _=(j+1)*z:=by rw [Nat.add_mul,Nat.one_mul]
   _<=cap*z:=Nat.mul_le_mul_right _ (by omega)
 have hst:=run_storeCells_at P b (j*z+p) e (a.eval y).cells.toList 0 C w hC (by simpa using hfit) (Xi hD)
 refine ⟨_,undef,.inr ⟨?_,rfl⟩,s1,s2,s3,s4,fun _=>.und⟩
 have hsz:(a.eval y).cells.size=n:=by rw [hD.1]; exact hn
 simp only [Nat.add_zero] at hst
 simp [execOp,ho,e1,Instr.storeAt,Instr.sureAddr,storeVar,QF hz,hsz,hst]
end
end Go.Proofs.YthmbjgnjfjjibaaGreatDoor
namespace Go.Proofs.YthmbjgnjfjjibaaGreatDoor
open Go.RowKit
set_option maxRecDepth 100000
theorem getElem?_flatten_u {z:Nat}:∀ (els:List (List AV)),(∀ el∈els,el.length=z)->∀ (q:Nat),0<z->els.flatten[q]?=(els[q / z]?).bind (·[q % z]?)
 | [],_,q,_=>by simp
 | el::els,h,q,hz=>by
  have hl:el.length=z:=h el (by simp)
  have ih:=getElem?_flatten_u els (fun x hx=>h x (by simp [hx]))
  simp only [List.flatten_cons]
  by_cases hq:q<z
  ·rw [List.getElem?_append_left (by omega),Nat.div_eq_of_lt hq,Nat.mod_eq_of_lt hq]
   simp
  ·rw [List.getElem?_append_right (by omega),hl,ih (q-z) hz]
   have e1:q / z=(q-z) / z+1:=by
    rw [← Nat.add_div_right _ hz,Nat.sub_add_cancel (by omega)]
   have e2:q % z=(q-z) % z:=by rw [Nat.mod_eq_sub_mod (by omega)]
   rw [e1,e2]
   simp
theorem QQ {z:Nat}:∀ (els:List (List AV)),(∀ el∈els,el.length=z)->els.flatten.length=els.length*z
 | [],_=>by simp
 | el::els,h=>by
  simp [h el (by simp),QQ els (fun x hx=>h x (by simp [hx])),Nat.add_mul]; omega
theorem flatE_mem:∀ {els:List (List AV)} {el:List AV},X2 els=true->el∈els->Qi el=true
 | e::r,el,h,he=>by
  simp only [X2,Bool.and_eq_true] at h
  rcases List.mem_cons.1 he with rfl | he
  ·exact h.1
  ·exact flatE_mem h.2 he
theorem closedL_append:∀ (a b:List AV),Qi (a++b)=(Qi a&&Qi b)
 | [],b=>by simp [Qi]
 | v::a,b=>by simp [Qi,closedL_append a b,Bool.and_assoc]
theorem closedL_flatten:∀ {els:List (List AV)},X2 els=true->Qi els.flatten=true
 | [],_=>rfl
 | e::r,h=>by
  simp only [X2,Bool.and_eq_true] at h
  simp [closedL_append,h.1,closedL_flatten h.2]
variable {rx ry:Arg} {els:List (List AV)} {e0:TypeId}
variable {rd:List Nat}
variable {news:List (List AV)} {S:Nat->Prop} {ρ:Rho} {w:World}
section
variable {P:Program} {o:Oper} {F:List (Nat×AV)} {H:List (Nat×Ob)}
theorem src_cells {z:Nat} (hz:0<z) (hn:∀ el∈news,el.length=z) (A:Addr) (f:Nat->Nat->Value)
  (h:∀ (j:Nat) (el:List AV) (k:Nat) (u:AV),news[j]?=some el->el[k]?=some u->w.cell? (A.add (j*z+k))=some (f j k)/\(f j k).oneCell'=true/\VR w S ρ u (f j k)) :
  ∃ D:Array Value,(loadCells A (news.length*z)).run P w = .ok D w/\CellsR w S ρ news.flatten D/\∀ q u,D.toList[q]?=some u->w.cell? (A.add q)=some u:=by
 have at_:∀ q,q<news.length*z->∃ el u,news[q / z]?=some el/\el[q % z]?=some u:=fun q hq=>by
  have h1:q / z<news.length:=Nat.div_lt_of_lt_mul (by rw [Nat.mul_comm]; exact hq)
  have h2:q % z<z:=Nat.mod_lt _ hz
  have h3:=hn _ (List.getElem_mem h1)
  exact ⟨news[q / z],news[q / z][q % z]'(by omega),List.getElem?_eq_getElem h1,List.getElem?_eq_getElem (by omega)⟩
 have cell:∀ q,q<news.length*z->w.cell? (A.add q)=some (f (q / z) (q % z)):=fun q hq=>by
  obtain ⟨el,u,h1,h2⟩:=at_ q hq
  have:=(h _ el _ u h1 h2).1
  rwa [Nat.mul_comm,Nat.div_add_mod] at this
 refine ⟨((List.range (news.length*z)).map fun q=>f (q / z) (q % z)).toArray,run_loadCells w A _ _ cell,cellsR_of (by simp [QQ news hn]) fun q u hq=>?_,fun q u hq=>?_⟩
 ·have hql:q<news.length*z:=by rw [← QQ news hn]; exact (List.getElem?_eq_some_iff.1 hq).1
  rw [getElem?_flatten_u news hn q hz] at hq
  obtain ⟨el,u',h1,h2⟩:=at_ q hql
  simp [h1,h2] at hq
  subst hq
  obtain ⟨_,g2,g3⟩:=h _ el _ u' h1 h2
  exact ⟨_,by simp [hql],g2,g3⟩
 ·have hql:q<news.length*z:=by
   have:=(List.getElem?_eq_some_iff.1 hq).1
   simpa using this
  simp [hql] at hq
  rw [cell q hql,hq]
theorem src_ok {z:Nat} {v:AV} {c:Value} {I:Nat->Prop} (hz:0<z) (hs:JH H z v=some (rd,news))
  (hn:∀ el∈news,el.length=z) (hv:VR w S ρ v c) (hH:HRi I w S ρ H) (hI:∀ i,i∈rd->I i) :
  ∃ (A:Option Addr) (cap:Nat) (D:Array Value),c = .slice A news.length cap/\(Builtin.firstCells z news.length c).run P w = .ok D w/\CellsR w S ρ news.flatten D ∧
   (news≠[]->∃ a,A=some a/\∀ q u,D.toList[q]?=some u->w.cell? (a.add q)=some u):=by
 have empty:∀ (A:Option Addr) (cap:Nat),∃ (A':Option Addr) (cap':Nat) (D:Array Value),Value.slice A 0 cap = .slice A' ([]:List (List AV)).length cap' ∧
   (Builtin.firstCells z ([]:List (List AV)).length (.slice A 0 cap)).run P w = .ok D w/\CellsR w S ρ ([]:List (List AV)).flatten D ∧
   (([]:List (List AV))≠[]->∃ a,A'=some a/\∀ q u,D.toList[q]?=some u->w.cell? (a.add q)=some u):=fun A cap=>by
  refine ⟨A,cap,#[],rfl,?_,⟨rfl,by simp⟩,fun h=>absurd rfl h⟩
  cases A with
  | none=>simp [Builtin.firstCells]
  | some a=>simp [Builtin.firstCells,loadCells,loadCellsFrom]
 cases v <;> simp only [JH] at hs <;> first | (cases hs; done) | skip
 ·-- nils
  simp at hs
  obtain ⟨rfl,rfl⟩:=hs
  rw [hv.nils_inv]
  exact empty none 0
 ·-- sl
  rename_i i j n
  split at hs
  ·rename_i e z' els fl hob
   split at hs
   ·rename_i hb
    obtain ⟨rfl,hb⟩:=hb
    simp only [Option.some.injEq,Prod.mk.injEq] at hs
    obtain ⟨rfl,rfl⟩:=hs
    have hlen:((els.drop j).take n).length=n:=by simp; omega
    rcases hv.sl_inv with ⟨b,z,cap,cap',hρ,_,_,rfl⟩ | ⟨z,hρ,rfl,rfl,rfl⟩
    ·obtain ⟨rfl,_,_,C,_,_,_,_,hc⟩:=Xz hH (hI i (by simp)) hob hρ
     obtain ⟨D,e1,e2,e3⟩:=src_cells (P:=P) hz hn ⟨b,j*z',none⟩ (fun q k=>C.getD ((j+q)*z'+k) undef) (fun q el k u hq hk=>by
      rw [List.getElem?_take] at hq
      split at hq
      ·rw [List.getElem?_drop] at hq
       rw [X7,← Nat.add_assoc,← Nat.add_mul]
       exact hc (j+q) el k u hq hk
      ·cases hq)
     rw [hlen] at e1 ⊢
     exact ⟨_,cap',D,rfl,by simpa [Builtin.firstCells] using e1,e2,fun _=>⟨_,rfl,e3⟩⟩
    ·simpa using empty none 0
   ·cases hs
  ·cases hs
 ·-- rs
  rename_i z' els
  split at hs
  ·rename_i hzz
   simp only [Option.some.injEq,Prod.mk.injEq] at hs
   obtain ⟨rfl,rfl⟩:=hs
   rcases hv.rs_inv with ⟨rfl,A,cap,rfl⟩ | ⟨b,off,cap,cf,rfl,hS,hcap,h1,h2⟩
   ·exact empty A cap
   ·by_cases he:els=[]
    ·subst he; simpa using empty (some ⟨b,off,none⟩) cap
    ·have hz':z'=z:=hzz.resolve_right he
     subst hz'
     obtain ⟨D,e1,e2,e3⟩:=src_cells (P:=P) (ρ:=ρ) hz hn ⟨b,off,none⟩ cf (fun q el k u hq hk=>by
      rw [X7,← Nat.add_assoc]
      exact ⟨(h1 q el k u hq hk).1,(h1 q el k u hq hk).2,.cl (h2 q el k u hq hk)⟩)
     exact ⟨_,cap,D,rfl,by simpa [Builtin.firstCells] using e1,e2,fun _=>⟨_,rfl,e3⟩⟩
  ·cases hs
theorem opt_cpy {t u e:TypeId} {x y:Operand} {i j p n z:Nat} {v:AV} {fl:Bool} {el:List AV} (ht:P.underlying t=some (.slice e0)) (hz:QL P e0=some 1)
  (hx:Qu x=some rx) (hy:Qu y=some ry) (ho:o.op = .call { callee:=.builtin .copy,args := #[x,y],argTypes := #[t,u] }) (hv:Qe F rx=some (.sa i j p n)) (hu:Qe F ry=some v)
  (hi:get H i=some (.cells e z els fl)) (hs:JH H 1 v=some (rd,news)) (hj:els[j]?=some el) (hn:∀ c∈news,c.length=1) (hird:i ∉ rd) (hl:news.length<=n) (hp:p+news.length<=el.length) :
  OpT P o (rx.slots++ry.slots) F H rd [i] (.int .i64 news.length) ((i,.cells e z (els.set j (Jj el p news.flatten)) (fl&&X2 news))::H):=by
 refine OpT.modify (i:=i) hi hird fun S ρ a w hF hH=>?_
 obtain ⟨b,z0,cap,cap',hρ,hn',e1⟩:=(Qd hx hF (fun _ h=>by simp [h]) hv).sa_inv
 obtain ⟨rfl,_⟩:=Xz hH (by simp) hi hρ
 refine ⟨b,cap,hρ,fun C hC h1 h2 h3 h4=>?_⟩
 obtain ⟨A,capy,D,e2,e3,hD,_⟩:=src_ok (P:=P) (by omega) hs hn (Qd hy hF (fun _ h=>by simp [h]) hu) hH (fun k hk=>.inl hk)
 have hfl:news.flatten.length=news.length:=by simpa using QQ news hn
 obtain ⟨s1,s2,s3,s4⟩:=set_cells (flc:=X2 news) (cs:=news.flatten) (p:=p) h1 h2 h3 h4 hj (by omega) hD (fun h=>closedL_flatten h)
 have hDl:D.toList.length=news.length:=by rw [← hfl]; simpa using hD.1
 have hjl:j<els.length:=(List.getElem?_eq_some_iff.1 hj).1
 have hfit:j*z+p+D.toList.length<=C.size:=by
  have:=h3 j el hj
  rw [h1,hDl]
  calc j*z+p+news.length<=j*z+z:=by omega
   _=(j+1)*z:=by rw [Nat.add_mul,Nat.one_mul]
   _<=cap*z:=Nat.mul_le_mul_right _ (by omega)
 have hst:=run_storeCells_at P b (j*z+p) e D.toList 0 C w hC (by simpa using hfit) (Xi hD)
 refine ⟨_,.int .i64 news.length,.inl ?_,s1,s2,s3,s4,fun _=>.int _ _⟩
 have hmin:Nat.min news.length n=news.length:=Nat.min_eq_left hl
 simp only [Nat.add_zero] at hst
 rw [e2] at e3
 simp [execOp,ho,e1,e2,resolve,invoke,builtin,Builtin.copy_,run_underlying ht,Builtin.lenOf,QF hz,hmin,e3,hst,goInt]
theorem flatten_one:∀ {news:List (List AV)},(∀ c∈news,c.length=1)->∀ {q k:Nat} {el:List AV} {u:AV},news[q]?=some el->el[k]?=some u->k=0/\news.flatten[q]?=some u
 | [],_,q,k,el,u,h,_=>by simp at h
 | c::r,hn,q,k,el,u,h,hk=>by
  have h1:=hn c (by simp)
  obtain ⟨x,rfl⟩:∃ x,c=[x]:=by
   match c,h1 with
   | [x],_=>exact ⟨x,rfl⟩
  cases q with
  | zero =>
   simp at h; subst h
   cases k with
   | zero=>simpa using hk
   | succ k=>simp at hk
  | succ q =>
   have:=flatten_one (news:=r) (fun c hc=>hn c (by simp [hc])) (by simpa using h) hk
   simpa using this
theorem set_row1 {cap:Nat} {fl:Bool} {C:Array Value} {D:Array Value} {j:Nat} (h1:C.size=cap*1) (h2:els.length<=cap)
  (h3:∀ (j:Nat) (el:List AV),els[j]?=some el->el.length<=1)
  (h4:∀ (j:Nat) (el:List AV) (k:Nat) (u:AV),els[j]?=some el->el[k]?=some u->(C.getD (j*1+k) undef).oneCell'=true/\if fl=true then CR w S u (C.getD (j*1+k) undef) else VR w S ρ u (C.getD (j*1+k) undef))
  (hn:∀ c∈news,c.length=1) (hj:j+news.length<=els.length) (hD:CellsR w S ρ news.flatten D) :
  let C':=(C.toList.take j++D.toList++C.toList.drop (j+D.toList.length)).toArray
  let els':=els.take j++news++els.drop (j+news.length)
  C'.size=C.size/\els'.length<=cap/\(∀ (i:Nat) (el':List AV),els'[i]?=some el'->el'.length<=1) ∧
  ∀ (i:Nat) (el':List AV) (k:Nat) (u:AV),els'[i]?=some el'->el'[k]?=some u->(C'.getD (i*1+k) undef).oneCell'=true ∧
   if (fl&&X2 news)=true then CR w S u (C'.getD (i*1+k) undef) else VR w S ρ u (C'.getD (i*1+k) undef):=by
 have hfl:news.flatten.length=news.length:=by simpa using QQ news hn
 have hDl:D.toList.length=news.length:=by rw [← hfl]; simpa using hD.1
 have hfit:j+D.toList.length<=C.size:=by rw [h1,hDl]; omega
 obtain ⟨s1,s2⟩:=splice_get C j D.toList hfit
 intro C' els'
 have at_:∀ i,els'[i]?=if i<j then els[i]? else if i<j+news.length then news[i-j]? else els[i]?:=fun i=>by
  simp only [els']
  by_cases h:i<j
  ·rw [if_pos h,List.append_assoc,List.getElem?_append_left (by simp; omega),List.getElem?_take,if_pos h]
  ·rw [if_neg h]
   by_cases h':i<j+news.length
   ·rw [if_pos h',List.getElem?_append_left (by simp; omega),List.getElem?_append_right (by simp; omega)]
    congr 1; simp; omega
   ·rw [if_neg h',List.getElem?_append_right (by simp; omega),List.getElem?_drop]
    congr 1; simp; omega
 have weaken:∀ {u:AV} (c:Value),(if fl=true then CR w S u c else VR w S ρ u c)->VR w S ρ u c:=fun c h=>by
  by_cases hf:fl=true
  ·rw [if_pos hf] at h; exact .cl h
  ·rw [if_neg hf] at h; exact h
 refine ⟨s1,by simp only [els']; simp; omega,fun i el' hi=>?_,fun i el' k u hi hk=>?_⟩
 ·rw [at_] at hi
  split at hi
  ·exact h3 i el' hi
  ·split at hi
   ·exact Nat.le_of_eq (hn el' (List.mem_of_getElem? hi))
   ·exact h3 i el' hi
 ·have getD_C':∀ q,C'.getD q undef=if j<=q/\q<j+D.toList.length then D.getD (q-j) undef else C.getD q undef:=fun q=>by
   have e:=s2 q
   rw [Array.getD_eq_getD_getElem?,e]
   split <;> simp
  have old:els[i]?=some el'->¬ (j<=i/\i<j+news.length)->(C'.getD (i*1+k) undef).oneCell'=true/\if (fl&&X2 news)=true then CR w S u (C'.getD (i*1+k) undef) else VR w S ρ u (C'.getD (i*1+k) undef):=fun hi hne=>by
   have hk0:k=0:=by have:=(List.getElem?_eq_some_iff.1 hk).1; have:=h3 i el' hi; omega
   subst hk0
   obtain ⟨g1,g2⟩:=h4 i el' 0 u hi hk
   rw [getD_C',if_neg (by rw [hDl]; omega)]
   refine ⟨g1,?_⟩
   split
   ·rename_i hf
    simp at hf
    rw [if_pos hf.1] at g2; exact g2
   ·exact weaken _ g2
  rw [at_] at hi
  split at hi
  ·rename_i h; exact old hi (by omega)
  ·split at hi
   ·rename_i h h'
    obtain ⟨rfl,hq⟩:=flatten_one hn hi hk
    rw [getD_C',if_pos (by rw [hDl]; omega),show i*1+0-j=i-j by omega]
    obtain ⟨g1,g2⟩:=hD.2 (i-j) u hq
    refine ⟨g1,?_⟩
    split
    ·rename_i hf
     simp at hf
     exact Ju hD (closedL_flatten hf.2) hq
    ·exact g2
   ·rename_i h h'; exact old hi (by omega)
theorem opt_cpyr {t u e:TypeId} {x y:Operand} {i j n:Nat} {v:AV} {fl:Bool} (ht:P.underlying t=some (.slice e0)) (hz:QL P e0=some 1)
  (hx:Qu x=some rx) (hy:Qu y=some ry) (ho:o.op = .call { callee:=.builtin .copy,args := #[x,y],argTypes := #[t,u] }) (hv:Qe F rx=some (.sl i j n)) (hu:Qe F ry=some v)
  (hi:get H i=some (.cells e 1 els fl)) (hs:JH H 1 v=some (rd,news)) (hn:∀ c∈news,c.length=1) (hird:i ∉ rd) (hl:news.length<=n) (hj:j+n<=els.length) (h0:0<n) :
  OpT P o (rx.slots++ry.slots) F H rd [i] (.int .i64 news.length) ((i,.cells e 1 (els.take j++news++els.drop (j+news.length)) (fl&&X2 news))::H):=by
 refine OpT.modify (i:=i) hi hird fun S ρ a w hF hH=>?_
 rcases (Qd hx hF (fun _ h=>by simp [h]) hv).sl_inv with ⟨b,z0,cap,cap',hρ,hc,hn',e1⟩ | ⟨z0,hρ,hj0,hn0,e1⟩
 ·obtain ⟨rfl,_⟩:=Xz hH (by simp) hi hρ
  refine ⟨b,cap,hρ,fun C hC h1 h2 h3 h4=>?_⟩
  obtain ⟨A,capy,D,e2,e3,hD,_⟩:=src_ok (P:=P) (by omega) hs hn (Qd hy hF (fun _ h=>by simp [h]) hu) hH (fun k hk=>.inl hk)
  have hfl:news.flatten.length=news.length:=by simpa using QQ news hn
  have hDl:D.toList.length=news.length:=by rw [← hfl]; simpa using hD.1
  have hfit:j+D.toList.length<=C.size:=by rw [h1,hDl]; omega
  obtain ⟨s1,s2,s3,s4⟩:=set_row1 h1 h2 h3 h4 hn (Nat.le_trans (Nat.add_le_add_left hl j) hj) hD
  have hst:=run_storeCells_at P b j e D.toList 0 C w hC (by simpa using hfit) (Xi hD)
  refine ⟨_,.int .i64 news.length,.inl ?_,s1,s2,s3,s4,fun _=>.int _ _⟩
  have hmin:Nat.min news.length n=news.length:=Nat.min_eq_left hl
  simp only [Nat.add_zero] at hst
  rw [e2] at e3
  simp [execOp,ho,e1,e2,resolve,invoke,builtin,Builtin.copy_,run_underlying ht,Builtin.lenOf,QF hz,hmin,e3,hst,goInt]
 ·exact absurd h0 (by omega)
theorem opt_clr {t:TypeId} {x:Operand} {i j n z by_ e:Nat} {zero:List AV} {fl:Bool} (ht:P.underlying t=some (.slice e0)) (hz:tyZ P e0=some (z,by_,zero)) (hz0:z≠0) (hx:Qu x=some rx)
  (ho:o.op = .call { callee:=.builtin .clear,args := #[x],argTypes := #[t] }) (hv:Qe F rx=some (.sl i j n)) (hi:get H i=some (.cells e z els fl)) (hn:0<n) (hj:j<=els.length) :
  OpT P o rx.slots F H [] [i] .any ((i,.cells e z (els.take j) fl)::H):=by
 obtain ⟨i0,zv,hi0,hzv,hs,hby,hzl,hcs,hcr⟩:=tyZ_ok hz
 refine OpT.modify (i:=i) hi (by simp) fun S ρ a w hF hH=>?_
 rcases (Qd hx hF (fun _ h=>h) hv).sl_inv with ⟨b,z0,cap,cap',hρ,hc,hn',e1⟩ | ⟨z0,hρ,h1,h2,e1⟩
 case inr=>omega
 obtain ⟨rfl,_⟩:=Xz hH (by simp) hi hρ
 refine ⟨b,cap,hρ,fun C hC h1 h2 h3 h4=>?_⟩
 have hD:CellsR w S ρ (reps n zero) (Builtin.zeroCells zv.cells n):=by
  have:=cellsR_reps (hcr w S ρ) (by omega) n
  rw [show zero.length=zv.cells.size by omega] at this
  exact this
 have hsz:(Builtin.zeroCells zv.cells n).size=n*z:=by rw [size_zeroCells,hcs]
 have hfit:j*z+(Builtin.zeroCells zv.cells n).toList.length<=C.size:=by
  rw [Array.length_toList,hsz,h1,← Nat.add_mul]; exact Nat.mul_le_mul_right _ (by omega)
 have hst:=run_storeCells_at P b (j*z) e (Builtin.zeroCells zv.cells n).toList 0 C w hC (by simpa using hfit) (Xi hD)
 simp only [Nat.add_zero] at hst
 have hlow:∀ q,q<j*z->(C.toList.take (j*z)++(Builtin.zeroCells zv.cells n).toList++C.toList.drop (j*z+(Builtin.zeroCells zv.cells n).toList.length)).toArray.getD q undef=C.getD q undef:=fun q hq=>by
  have hqC:q<C.size:=by omega
  rw [Array.getD_eq_getD_getElem?,Array.getD_eq_getD_getElem?,List.getElem?_toArray,List.append_assoc,List.getElem?_append_left (by simp; omega),List.getElem?_take_of_lt hq]
  simp
 have htk:∀ (k:Nat) (el:List AV),(els.take j)[k]?=some el->k<j/\els[k]?=some el:=fun k el h=>by
  rw [List.getElem?_take] at h
  split at h
  ·exact ⟨by assumption,h⟩
  ·cases h
 refine ⟨(C.toList.take (j*z)++(Builtin.zeroCells zv.cells n).toList++C.toList.drop (j*z+(Builtin.zeroCells zv.cells n).toList.length)).toArray,.tuple #[],.inl ?_,?_,?_,fun k el hk=>h3 k el (htk k el hk).2,fun k el q u hk hq=>?_,fun _=>.any _⟩
 ·obtain ⟨m,rfl⟩:∃ m,n=m+1:=⟨n-1,by omega⟩
  simp [execOp,ho,e1,resolve,invoke,builtin,Builtin.clear_,run_underlying ht,zeroValue,typeInfo,hi0,hzv,hst]
 ·simp only [List.size_toArray,List.length_append,List.length_take,List.length_drop,Array.length_toList]
  rw [Array.length_toList] at hfit
  omega
 ·simp; omega
 ·obtain ⟨hkj,hk⟩:=htk k el hk
  have hqz:q<z:=Nat.lt_of_lt_of_le (List.getElem?_eq_some_iff.1 hq).1 (h3 k el hk)
  have hlt:k*z+q<j*z:=by
   calc k*z+q<k*z+z:=by omega
    _=(k+1)*z:=by rw [Nat.add_mul,Nat.one_mul]
    _<=j*z:=Nat.mul_le_mul_right _ (by omega)
  rw [hlow _ hlt]; exact h4 k el q u hk hq
end
end Go.Proofs.YthmbjgnjfjjibaaGreatDoor
namespace Go.Proofs.YthmbjgnjfjjibaaGreatDoor
open Go.RowKit
set_option maxRecDepth 100000
variable {ty:TypeId}
section
variable {P:Program} {o:Oper} {F:List (Nat×AV)} {H:List (Nat×Ob)}
theorem run_append_zero {t e:TypeId} {i:TypeInfo} {z:Nat} (ht:P.underlying t=some (.slice e)) (hi:P.info? e=some i) (w:World) (base:Nat) (s:Value) (n:Nat) (xs:List Value) (hs:i.size=z)
  (hown:w.ownsRow base e z s n xs) (A:Option Addr) (cap:Nat):(Builtin.append_ #[t,t] ty #[s,.slice A 0 cap]).run P w = .ok s w:=by
 have e0:∀ A:Option Addr,(Builtin.firstCells z 0 (.slice A 0 cap)).run P w = .ok #[] w:=fun A=>by
  cases A <;> simp [Builtin.firstCells,loadCells,loadCellsFrom]
 rcases hown.2 with ⟨rfl,rfl⟩ | ⟨g,cap',cur,rfl,_,_,hnc,_⟩
 ·simp [Builtin.append_,run_underlying ht,sizeOf,typeInfo,hi,Builtin.lenOf,hs,e0]
 ·simp [Builtin.append_,run_underlying ht,sizeOf,typeInfo,hi,Builtin.lenOf,hs,e0,hnc,storeCells]
theorem run_append_any {t e:TypeId} {z by_:Nat} {zero:List AV} (ht:P.underlying t=some (.slice e)) (hz:tyZ P e=some (z,by_,zero)) (hz0:z≠0) (w:World) (s:Value) (n:Nat) (xs:List Value)
  (hown:w.ownsRow 0 e z s n xs) (A:Option Addr) (m cap:Nat) (D:Array Value) (hDl:D.size=m*z) (h1:∀ v∈D.toList,v.oneCell'=true)
  (hA:m≠0->∃ a,A=some a/\∀ q u,D.toList[q]?=some u->w.cell? (a.add q)=some u) (h63:n+m<=maxLen) (hb:(n+m)*by_<=140737488355328) :
  ∃ v' w',(Builtin.append_ #[t,t] ty #[s,.slice A m cap]).run P w = .ok v' w'/\w'.ownsRow 0 e z v' (n+m) (xs++D.toList)/\w.grownBy w' s.ownBlock ∧
   (v'.ownBlock=s.ownBlock\/v'.ownBlock=some w.heap.size):=by
 obtain ⟨i,zv,hi,hzv,hs,hby,_,hzs,_⟩:=tyZ_ok hz
 by_cases hm:m=0
 ·subst hm
  have hD:D.toList=[]:=by
   apply List.eq_nil_of_length_eq_zero
   simpa using hDl
  exact ⟨s,w,run_append_zero ht hi w 0 s n xs hs hown A cap,by simpa [hD] using hown,World.grownBy.refl w _,.inl rfl⟩
 ·obtain ⟨a,rfl,hc⟩:=hA hm
  obtain ⟨v',w',hr,h2,h3,_,h5⟩:=run_append_own_at (P:=P) w 0 t ty e i zv z by_ ht hi hzv hs hby hzs (by omega) s n xs hown a m cap D.toList (by simpa using hDl) hc h1 h63 hb (Nat.zero_le _)
  exact ⟨v',w',hr,h2,h3,h5⟩
theorem OpT.appended {ts:List Nat} {d e z n:Nat} {rd:List Nat} {old:Option Nat} {els news:List (List AV)} {fl:Bool} {H1:List (Nat×Ob)} (hd:get H d=none) (hz0:z≠0)
  (hH1:∀ k,get H1 k=if k=d then some (.cells e z (els++news) (fl&&X2 news)) else if some k=old then some .dead else get H k)
  (hrd:∀ k,some k=old->k ∉ rd/\∃ ob,get H k=some ob/\ob.live=true) (hels:els.length=n) (hn:∀ el∈news,el.length=z) (wr:List Nat) (hwr:∀ k,k∈wr ↔ k=d\/some k=old)
  (h:∀ (S:Nat->Prop) (ρ:Rho) (a:Act) (w:World),FRs ts F a w S ρ->(∀ b,S b->b<w.heap.size)->HRi (fun k=>k∈rd\/k∈wr) w S ρ H →
   ∃ (s:Value) (xs:List Value) (D:Array Value) (v':Value) (w':World),w.ownsRow 0 e z s n xs/\CellsR w S ρ news.flatten D ∧
    (execOp a.eval o).run P w = .ok (.value v') w'/\w'.ownsRow 0 e z v' (n+news.length) (xs++D.toList)/\w.grownBy w' s.ownBlock/\(v'.ownBlock=s.ownBlock\/v'.ownBlock=some w.heap.size) ∧
    (∀ b,s.ownBlock=some b->∃ k ob z' cap,old=some k/\get H k=some ob/\ob.live=true/\ρ k=some (some b,z',cap)) ∧
    (∀ (j:Nat) (el:List AV),els[j]?=some el->el.length<=z) ∧
    ∀ (j:Nat) (el:List AV) (k:Nat) (u:AV),els[j]?=some el->el[k]?=some u->∃ c,xs[j*z+k]?=some c/\c.oneCell'=true/\if fl=true then CR w S u c else VR w S ρ u c) :
  OpT P o ts F H rd wr (.sl d 0 (n+news.length)) H1:=by
 intro S ρ a w Q K hF hS hH hnew hK
 obtain ⟨s,xs,D,v',w',hown,hD,hr,hown',hg,hblk,hold,hell,hcells⟩:=h S ρ a w hF hS hH
 have hρd:ρ d=none:=hnew d ((hwr d).2 (.inl rfl)) hd
 have hdold:some d≠old:=fun e=>by
  obtain ⟨_,ob,h1,_⟩:=hrd d e
  rw [hd] at h1; cases h1
 have hDl:D.toList.length=news.length*z:=by
  have:=hD.1
  rw [QQ news hn] at this
  simpa using this
 have hxl:xs.length=n*z:=hown.1
 -- where the new row lies
 have place:∃ (bk:Option Nat) (cap:Nat),bk=v'.ownBlock/\(∀ (w0:World) (ρ':Rho),ρ' d=some (bk,z,cap)->VR w0 S ρ' (.sl d 0 (n+news.length)) v') ∧
   (bk=none->n+news.length=0/\cap=0)/\(∀ b,bk=some b->cap<=maxLen/\∃ C:Array Value,w'.heap[b]?=some (.cells C e (0,0))/\C.size=cap*z/\n+news.length<=cap/\C.toList.take ((n+news.length)*z)=xs++D.toList):=by
  rcases hown'.2 with ⟨rfl,h0⟩ | ⟨g,cap,cur,rfl,_,h1,h2,h3,h4,h5⟩
  ·refine ⟨none,0,rfl,fun w0 ρ' hρ'=>?_,fun _=>⟨h0,rfl⟩,fun b hb=>by cases hb⟩
   rw [h0]
   exact .sl0 d z hρ'
  ·refine ⟨some g,cap,rfl,fun w0 ρ' hρ'=>?_,fun h=>(by cases h),fun b hb=>?_⟩
   ·have q:=VR.sl (w:=w0) (S:=S) (ρ:=ρ') d 0 (n+news.length) g z cap cap hρ' (by omega) h2
    simpa using q
   ·injection hb with hb; subst hb
    exact ⟨h3,cur,h1,h4,h2,h5⟩
 obtain ⟨bk,cap,hbk,hv',hbn,hbs⟩:=place
 let ρ':Rho:=fun i=>if i=d then some (bk,z,cap) else ρ i
 have hρ'd:ρ' d=some (bk,z,cap):=by simp [ρ']
 have hρ'o:∀ i,i≠d->ρ' i=ρ i:=fun i hi=>by simp [ρ',hi]
 have hext:∀ i x,ρ i=some x->ρ' i=some x:=fun i x hx=>by
  rw [hρ'o i (fun e=>by subst e; rw [hρd] at hx; cases hx)]; exact hx
 have old_S:∀ b,s.ownBlock=some b->¬ S b/\b<w.heap.size:=fun b hb=>by
  obtain ⟨k,ob,z',c',hk,hg1,hl,hrk⟩:=hold b hb
  obtain ⟨bk1,z1,c1,q1,q2⟩:=hH.ob k ob (.inr ((hwr k).2 (.inr hk.symm))) hg1
  rw [hrk] at q1
  injection q1 with q1
  obtain ⟨rfl,rfl,rfl⟩:some b=bk1/\z'=z1/\c'=c1:=by simpa using q1
  cases ob with
  | dead=>cases hl
  | glob g0 cs0=>cases hl
  | cells e1 z1 els1 fl1 =>
   obtain ⟨_,q3,_,C,q4,_⟩:=q2
   exact ⟨q3,(Array.getElem?_eq_some_iff.1 q4).1⟩
  | lp r1 Fl1 =>
   obtain ⟨b1,e1,q3,q4,_⟩:=q2
   injection e1 with e1; subst e1
   exact ⟨q3,(Array.getElem?_eq_some_iff.1 q4).1⟩
  | fm kvs =>
   obtain ⟨b1,es,clk,e1,q3,q4,_⟩:=q2
   injection e1 with e1; subst e1
   exact ⟨q3,(Array.getElem?_eq_some_iff.1 q4).1⟩
  | mset ks =>
   obtain ⟨b1,es,clk,e1,q3,q4,_⟩:=q2
   injection e1 with e1; subst e1
   exact ⟨q3,(Array.getElem?_eq_some_iff.1 q4).1⟩
 have hcell:∀ (a:Addr) (c:Value),S a.block->w.cell? a=some c->w'.cell? a=some c:=fun a c hs hc =>
  hg.cell hc fun e=>(old_S a.block e.symm).1 hs
 have bk_new:∀ b,bk=some b->s.ownBlock=some b\/b=w.heap.size:=fun b hb=>by
  rw [hbk] at hb
  rcases hblk with h | h
  ·rw [h] at hb; exact .inl hb
  ·rw [h] at hb; injection hb with hb; exact .inr hb.symm
 have weaken:∀ (u:AV) (c:Value),(if fl=true then CR w S u c else VR w S ρ u c)->VR w S ρ u c:=fun u c h=>by
  by_cases hf:fl=true
  ·rw [if_pos hf] at h; exact .cl h
  ·rw [if_neg hf] at h; exact h
 have getd:get H1 d=some (.cells e z (els++news) (fl&&X2 news)):=by rw [hH1,if_pos rfl]
 have get_old:∀ k,k≠d->some k=old->get H1 k=some .dead:=fun k h1 h2=>by rw [hH1,if_neg h1,if_pos h2]
 have get_else:∀ k,k≠d->some k≠old->get H1 k=get H k:=fun k h1 h2=>by rw [hH1,if_neg h1,if_neg h2]
 refine .inl ?_
 unfold Oper.wp
 rw [hr]
 refine hK v' w' S ρ' (hv' _ ρ' hρ'd) ⟨fun k ob hk hgk=>?_,fun k l ok ol b z1 z2 c1 c2 hk hl hne hgk hgl hlk hll hrk hrl=>?_⟩
  ⟨⟨hg.os,hg.tape,hg.output,hg.size,fun k hk hn=>?_⟩,fun _ h=>h,fun _ h=>.inl h,fun b hb=>Nat.lt_of_lt_of_le (hS b hb) hg.size,fun b hb=>?_,fun i hi=>hρ'o i fun e=>hi ⟨(hwr i).2 (.inl e),by rw [e]; exact hd⟩⟩
 ·by_cases hkd:k=d
  ·subst hkd
   rw [getd] at hgk
   injection hgk with hgk; subst hgk
   refine ⟨bk,z,cap,hρ'd,rfl,?_⟩
   cases hbk':bk with
   | none =>
    obtain ⟨h0,h1⟩:=hbn hbk'
    have e1:els=[]:=List.eq_nil_of_length_eq_zero (by omega)
    have e2:news=[]:=List.eq_nil_of_length_eq_zero (by omega)
    exact ⟨by simp [e1,e2],h1⟩
   | some b =>
    obtain ⟨hm,C,hC,h1,h2,h3⟩:=hbs b hbk'
    have hnS:¬ S b:=fun hs=>by
     rcases bk_new b hbk' with h | h
     ·exact (old_S b h).1 hs
     ·have:=hS b hs; omega
    refine ⟨hnS,hm,C,hC,h1,by simpa [hels] using h2,fun j el hj=>?_,fun j el q u hj hq=>?_⟩
    ·by_cases hjn:j<els.length
     ·rw [List.getElem?_append_left hjn] at hj; exact hell j el hj
     ·rw [List.getElem?_append_right (by omega)] at hj
      exact Nat.le_of_eq (hn el (List.mem_of_getElem? hj))
    ·have at_:∀ r c,r<(n+news.length)*z->(xs++D.toList)[r]?=some c->C.getD r undef=c:=fun r c hr hc=>by
      rw [← h3,List.getElem?_take,if_pos hr] at hc
      have e:C[r]?=some c:=by simpa using hc
      simp [e]
     by_cases hjn:j<els.length
     ·rw [List.getElem?_append_left hjn] at hj
      obtain ⟨c,g1,g2,g3⟩:=hcells j el q u hj hq
      have hlt:=(List.getElem?_eq_some_iff.1 g1).1
      have e:=at_ (j*z+q) c (by
       rw [hxl] at hlt
       exact Nat.lt_of_lt_of_le hlt (Nat.mul_le_mul_right _ (by omega))) (by rw [List.getElem?_append_left hlt]; exact g1)
      rw [e]
      refine ⟨g2,?_⟩
      by_cases hf:(fl&&X2 news)=true
      ·rw [if_pos hf]
       simp at hf
       rw [if_pos hf.1] at g3
       exact g3.mono (fun _ h=>h) hcell
      ·rw [if_neg hf]; exact (weaken u c g3).mono (fun _ h=>h) hcell hext
     ·rw [List.getElem?_append_right (by omega)] at hj
      have hel:=hn el (List.mem_of_getElem? hj)
      have hqz:q<z:=by rw [← hel]; exact (List.getElem?_eq_some_iff.1 hq).1
      have hjl:j-els.length<news.length:=(List.getElem?_eq_some_iff.1 hj).1
      have hf':news.flatten[(j-els.length)*z+q]?=some u:=by
       rw [getElem?_flatten_u news hn _ (by omega),Nat.mul_comm,Nat.mul_add_div (by omega),Nat.mul_add_mod,Nat.div_eq_of_lt hqz,Nat.mod_eq_of_lt hqz,Nat.add_zero,hj]
       exact hq
      obtain ⟨c,g1,g2,g3⟩:=hD.at_ hf'
      have hidx:j*z+q=xs.length+((j-els.length)*z+q):=by
       rw [hxl,← hels]
       have:j*z=els.length*z+(j-els.length)*z:=by rw [← Nat.add_mul]; congr 1; omega
       omega
      have e:=at_ (j*z+q) c (by
       calc j*z+q<j*z+z:=by omega
        _=(j+1)*z:=by rw [Nat.add_mul,Nat.one_mul]
        _<=(n+news.length)*z:=Nat.mul_le_mul_right _ (by omega)) (by
       rw [hidx,List.getElem?_append_right (by omega),show xs.length+((j-els.length)*z+q)-xs.length=(j-els.length)*z+q by omega]
       simpa using g1)
      rw [e]
      refine ⟨g2,?_⟩
      by_cases hf:(fl&&X2 news)=true
      ·rw [if_pos hf]
       simp at hf
       exact (g3.closed (JE (flatE_mem hf.2 (List.mem_of_getElem? hj)) (List.mem_of_getElem? hq))).mono (fun _ h=>h) hcell
      ·rw [if_neg hf]; exact g3.mono (fun _ h=>h) hcell hext
  ·by_cases hko:some k=old
   ·rw [get_old k hkd hko] at hgk
    injection hgk with hgk; subst hgk
    obtain ⟨_,ob,g1,_⟩:=hrd k hko
    obtain ⟨bk1,z1,c1,q1,_⟩:=hH.ob k ob hk g1
    exact ⟨bk1,z1,c1,by rw [hρ'o k hkd]; exact q1,trivial⟩
   ·rw [get_else k hkd hko] at hgk
    obtain ⟨bk1,z1,c1,q1,q2⟩:=hH.ob k ob hk hgk
    refine ⟨bk1,z1,c1,by rw [hρ'o k hkd]; exact q1,q2.mono (fun _ h=>h) hcell hext fun b hb hl=>?_⟩
    subst hb
    have hsb:s.ownBlock≠some b:=fun e=>by
     obtain ⟨k',ob',z',c',h1,h2,h3,h4⟩:=hold b e
     have hkk:k≠k':=fun e=>hko (by rw [e]; exact h1.symm)
     exact hH.dis k k' ob ob' b z1 z' c1 c' hk (.inr ((hwr k').2 (.inr h1.symm))) hkk hgk h2 hl h3 q1 h4
    cases ob with
    | dead=>cases hl
    | glob g0 cs0=>cases hl
    | cells e1 z1' els1 fl1 =>
     obtain ⟨_,q3,_,C,q4,_⟩:=q2
     exact ⟨hg.block b (Array.getElem?_eq_some_iff.1 q4).1 (Ne.symm hsb),q3⟩
    | lp r1 Fl1 =>
     obtain ⟨b1,e1,q3,q4,_⟩:=q2
     injection e1 with e1; subst e1
     exact ⟨hg.block b (Array.getElem?_eq_some_iff.1 q4).1 (Ne.symm hsb),q3⟩
    | fm kvs =>
     obtain ⟨b1,es,clk,e1,q3,q4,_⟩:=q2
     injection e1 with e1; subst e1
     exact ⟨hg.block b (Array.getElem?_eq_some_iff.1 q4).1 (Ne.symm hsb),q3⟩
    | mset ks =>
     obtain ⟨b1,es,clk,e1,q3,q4,_⟩:=q2
     injection e1 with e1; subst e1
     exact ⟨hg.block b (Array.getElem?_eq_some_iff.1 q4).1 (Ne.symm hsb),q3⟩
 ·-- distinct
  have other:∀ k ok b z1 c1,(k∈rd\/k∈wr)->k≠d->get H1 k=some ok->ok.live=true->ρ' k=some (some b,z1,c1)->get H k=some ok/\ρ k=some (some b,z1,c1)/\some k≠old/\b<w.heap.size/\s.ownBlock≠some b:=by
   intro k ok b z1 c1 hk hkd hgk hlk hrk
   rw [hρ'o k hkd] at hrk
   by_cases hko:some k=old
   ·rw [get_old k hkd hko] at hgk
    injection hgk with hgk; subst hgk; cases hlk
   ·rw [get_else k hkd hko] at hgk
    refine ⟨hgk,hrk,hko,?_,fun e=>?_⟩
    ·obtain ⟨bk1,z1',c1',q1,q2⟩:=hH.ob k ok hk hgk
     rw [hrk] at q1
     injection q1 with q1
     obtain ⟨rfl,rfl,rfl⟩:some b=bk1/\z1=z1'/\c1=c1':=by simpa using q1
     cases ok with
     | dead=>cases hlk
     | glob g0 cs0=>cases hlk
     | cells e1 z1' els1 fl1 =>
      obtain ⟨_,q3,_,C,q4,_⟩:=q2
      exact (Array.getElem?_eq_some_iff.1 q4).1
     | lp r1 Fl1 =>
      obtain ⟨b1,e1,q3,q4,_⟩:=q2
      injection e1 with e1; subst e1
      exact (Array.getElem?_eq_some_iff.1 q4).1
     | fm kvs =>
      obtain ⟨b1,es,clk,e1,q3,q4,_⟩:=q2
      injection e1 with e1; subst e1
      exact (Array.getElem?_eq_some_iff.1 q4).1
     | mset ks =>
      obtain ⟨b1,es,clk,e1,q3,q4,_⟩:=q2
      injection e1 with e1; subst e1
      exact (Array.getElem?_eq_some_iff.1 q4).1
    ·obtain ⟨k',ob',z',c',h1,h2,h3,h4⟩:=hold b e
     have hkk:k≠k':=fun e=>hko (by rw [e]; exact h1.symm)
     exact hH.dis k k' ok ob' b z1 z' c1 c' hk (.inr ((hwr k').2 (.inr h1.symm))) hkk hgk h2 hlk h3 hrk h4
  by_cases hkd:k=d
  ·subst hkd
   rw [hρ'd] at hrk
   injection hrk with hrk
   obtain ⟨rfl,rfl,rfl⟩:bk=some b/\z=z1/\cap=c1:=by simpa using hrk
   obtain ⟨_,_,_,h4,h5⟩:=other l ol b z2 c2 hl (Ne.symm hne) hgl hll hrl
   rcases bk_new b rfl with h | h
   ·exact h5 h
   ·omega
  ·obtain ⟨g1,g2,g3,g4,g5⟩:=other k ok b z1 c1 hk hkd hgk hlk hrk
   by_cases hld:l=d
   ·subst hld
    rw [hρ'd] at hrl
    injection hrl with hrl
    obtain ⟨rfl,rfl,rfl⟩:bk=some b/\z=z2/\cap=c2:=by simpa using hrl
    rcases bk_new b rfl with h | h
    ·exact g5 h
    ·omega
   ·obtain ⟨f1,f2,_,_,_⟩:=other l ol b z2 c2 hl hld hgl hll hrl
    exact hH.dis k l ok ol b z1 z2 c1 c2 hk hl hne g1 f1 hlk hll g2 f2
 ·refine hg.block k hk fun e=>hn ?_
  obtain ⟨k',ob',z',c',h1,h2,h3,h4⟩:=hold k e.symm
  exact ⟨k',ob',z',c',.inr ((hwr k').2 (.inr h1.symm)),h2,h3,h4⟩
 ·obtain ⟨k,ob,z',c',hk,hgk,hl,hrk⟩:=hb
  by_cases hkd:k=d
  ·subst hkd
   rw [hρ'd] at hrk
   injection hrk with hrk
   obtain ⟨rfl,rfl,rfl⟩:bk=some b/\z=z'/\cap=c':=by simpa using hrk
   rcases bk_new b rfl with h | h
   ·obtain ⟨k',ob',z'',c'',h1,h2,h3,h4⟩:=hold b h
    exact .inl ⟨k',ob',z'',c'',.inr ((hwr k').2 (.inr h1.symm)),h2,h3,h4⟩
   ·exact .inr (by omega)
  ·rw [hρ'o k hkd] at hrk
   by_cases hko:some k=old
   ·rw [get_old k hkd hko] at hgk
    injection hgk with hgk; subst hgk; cases hl
   ·rw [get_else k hkd hko] at hgk
    exact .inl ⟨k,ob,z',c',hk,hgk,hl,hrk⟩
end
end Go.Proofs.YthmbjgnjfjjibaaGreatDoor
namespace Go.Proofs.YthmbjgnjfjjibaaGreatDoor
open Go.RowKit
set_option maxRecDepth 100000
theorem convL_closed {f:Value->Option AV} (hf:∀ v x,f v=some x->QB x=true):∀ (l:List Value) (xs:List AV),convL f l=some xs->Qi xs=true
 | [],xs,h=>by simp [convL] at h; subst h; rfl
 | v::l,xs,h=>by
  simp only [convL] at h
  split at h
  ·split at h
   ·rename_i x xs' hx hxs
    injection h with h; subst h
    simp [Qi,hf v x hx,convL_closed hf l xs' hxs]
   ·cases h
  ·cases h
theorem conv_closed:∀ (n:Nat) (v:Value) (x:AV),conv n v=some x->QB x=true:=by
 intro n
 induction n with
 | zero =>
  intro v x h
  unfold conv at h
  split at h <;> first | (injection h with h; subst h; rfl) | (cases h; done) | (rename_i h0; cases h0)
 | succ n ih =>
  intro v x h
  unfold conv at h
  split at h <;> first | (injection h with h; subst h; rfl) | (cases h; done) | skip
  split at h
  ·rename_i m C hq h0 cs hcs
   injection h with h; subst h
   simp only [QB]
   cases hq
   exact convL_closed ih _ _ hcs
  ·cases h
theorem acells_closed {v:AV} {cs:List AV} (h:X4 v=some cs) (hv:QB v=true):Qi cs=true:=by
 cases v <;> simp [X4] at h <;> subst h <;> simp_all [Qi,QB]
variable {α:Type}
variable {els:List (List AV)}
variable {rx ry:Arg} {news:List (List AV)} {rd:List Nat}
variable {by_:Nat}
section
variable {P:Program} {o:Oper} {F:List (Nat×AV)} {H:List (Nat×Ob)}
theorem tyZ_closed {e:TypeId} {z:Nat} {zero:List AV} (h:tyZ P e=some (z,by_,zero)):Qi zero=true:=by
 unfold tyZ at h
 split at h
 ·split at h
  ·split at h
   ·rename_i x hx
    split at h
    ·rename_i cs hcs
     split at h
     ·simp only [Option.some.injEq,Prod.mk.injEq] at h
      obtain ⟨rfl,rfl,rfl⟩:=h
      exact acells_closed hcs (conv_closed 2 _ x hx)
     ·cases h
    ·cases h
   ·cases h
  ·cases h
 ·cases h
theorem opt_app_nil {t e:TypeId} {z d:Nat} {zero:List AV} {x y:Operand} {v:AV} (ht:P.underlying t=some (.slice e)) (hz:tyZ P e=some (z,by_,zero)) (hz0:z≠0)
  (hx:Qu x=some rx) (hy:Qu y=some ry) (ho:o.op = .call { callee:=.builtin .append,args := #[x,y],argTypes := #[t,t] }) (hv:Qe F rx=some .nils) (hu:Qe F ry=some v)
  (hs:JH H z v=some (rd,news)) (hd:get H d=none) (hn:∀ el∈news,el.length=z) (hb:news.length*by_<=140737488355328) (h63:news.length<=9223372036854775807) :
  OpT P o (rx.slots++ry.slots) F H rd [d] (.sl d 0 news.length) ((d,.cells e z news (X2 news))::H):=by
 have q:=OpT.appended (P:=P) (o:=o) (F:=F) (H:=H) (ts:=rx.slots++ry.slots) (d:=d) (e:=e) (z:=z) (n:=0) (rd:=rd) (old:=none) (els:=[]) (news:=news) (fl:=true)
  (H1:=(d,.cells e z news (X2 news))::H) hd hz0 (fun k=>by
   by_cases h:d=k
   ·simp [get,h]
   ·simp [get,h,Ne.symm h]) (fun k h=>by cases h) rfl hn [d] (fun k=>by simp)
  (fun S ρ a w hF hS hH=>by
   have e1:=(Qd hx hF (fun _ h=>by simp [h]) hv).nils_inv
   obtain ⟨A,cap,D,e2,e3,hD,hA⟩:=src_ok (P:=P) (by omega) hs hn (Qd hy hF (fun _ h=>by simp [h]) hu) hH (fun k hk=>.inl hk)
   have hDl:D.size=news.length*z:=by rw [hD.1]; exact QQ news hn
   obtain ⟨v',w',hr,h2,h3,h4⟩:=run_append_any (ty:=o.type) ht hz hz0 w (.slice none 0 0) 0 [] (World.ownsRow_nil w 0 e z) A news.length cap D hDl (Xi hD)
    (fun hm=>hA fun e=>by subst e; simp at hm) (by unfold maxLen; omega) (by rw [Nat.zero_add]; exact hb)
   refine ⟨.slice none 0 0,[],D,v',w',World.ownsRow_nil w 0 e z,hD,?_,by simpa using h2,h3,h4,fun b h=>(by cases h),fun j el h=>(by simp at h),fun j el k u h=>(by simp at h)⟩
   simp [execOp,ho,e1,e2,resolve,invoke,builtin,hr])
 simpa using q
theorem opt_app {t e:TypeId} {z d i n:Nat} {zero:List AV} {x y:Operand} {v:AV} {fl:Bool} (ht:P.underlying t=some (.slice e)) (hz:tyZ P e=some (z,by_,zero)) (hz0:z≠0)
  (hx:Qu x=some rx) (hy:Qu y=some ry) (ho:o.op = .call { callee:=.builtin .append,args := #[x,y],argTypes := #[t,t] }) (hv:Qe F rx=some (.sl i 0 n)) (hu:Qe F ry=some v)
  (hi:get H i=some (.cells e z els fl)) (hs:JH H z v=some (rd,news)) (hd:get H d=none) (hl:els.length=n) (hird:i ∉ rd) (hn:∀ el∈news,el.length=z)
  (hb:(n+news.length)*by_<=140737488355328) (h63:n+news.length<=9223372036854775807) :
  OpT P o (rx.slots++ry.slots) F H rd [i,d] (.sl d 0 (n+news.length)) ((d,.cells e z (els++news) (fl&&X2 news))::(i,.dead)::H):=by
 have hdi:d≠i:=fun h=>by subst h; rw [hd] at hi; cases hi
 refine OpT.appended (e:=e) (n:=n) (old:=some i) (els:=els) (news:=news) (fl:=fl) hd hz0 (fun k=>?_) (fun k h=>?_) hl hn [i,d] (fun k=>by simp; exact ⟨fun h=>h.symm,fun h=>h.symm⟩) (fun S ρ a w hF hS hH=>?_)
 ·by_cases h1:d=k
  ·simp [get,h1]
  ·by_cases h2:i=k
   ·simp [get,h1,h2,Ne.symm h1]
   ·simp [get,h1,h2,Ne.symm h1,Ne.symm h2]
 ·injection h with h; subst h; exact ⟨hird,_,hi,rfl⟩
 ·obtain ⟨A,cap,D,e2,e3,hD,hA⟩:=src_ok (P:=P) (by omega) hs hn (Qd hy hF (fun _ h=>by simp [h]) hu) hH (fun k hk=>.inl hk)
  have hDl:D.size=news.length*z:=by rw [hD.1]; exact QQ news hn
  have run:∀ (s:Value) (xs:List Value),a.eval x=s->w.ownsRow 0 e z s n xs->∃ v' w',(execOp a.eval o).run P w = .ok (.value v') w'/\w'.ownsRow 0 e z v' (n+news.length) (xs++D.toList)/\w.grownBy w' s.ownBlock ∧
    (v'.ownBlock=s.ownBlock\/v'.ownBlock=some w.heap.size):=fun s xs e1 hown=>by
   obtain ⟨v',w',hr,h2⟩:=run_append_any (ty:=o.type) ht hz hz0 w s n xs hown A news.length cap D hDl (Xi hD)
    (fun hm=>hA fun e=>by subst e; simp at hm) (by unfold maxLen; omega) hb
   exact ⟨v',w',by simp [execOp,ho,e1,e2,resolve,invoke,builtin,hr],h2⟩
  rcases (Qd hx hF (fun _ h=>by simp [h]) hv).sl_inv with ⟨b,z0,cap',cap'',hρ,hc,hnc,e1⟩ | ⟨z0,hρ,_,rfl,e1⟩
  ·obtain ⟨bk1,z1,c1,q1,q0,q2⟩:=hH.ob i _ (by simp) hi
   rw [hρ] at q1
   injection q1 with q1
   obtain ⟨rfl,rfl,rfl⟩:some b=bk1/\z0=z1/\cap'=c1:=by simpa using q1
   subst q0
   obtain ⟨hs',hm,C,hC,f1,f2,f3,f4⟩:=q2
   obtain rfl:cap''=cap':=by omega
   have hnz:n*z<=C.size:=by rw [f1]; exact Nat.mul_le_mul_right _ hnc
   have hown:w.ownsRow 0 e z (.slice (some ⟨b,0,none⟩) n cap'') n (C.toList.take (n*z)) :=
    ⟨by simp; omega,.inr ⟨b,cap'',C,rfl,Nat.zero_le _,hC,hnc,hm,f1,rfl⟩⟩
   obtain ⟨v',w',g1,g2,g3,g4⟩:=run _ _ (by rw [e1]; simp) hown
   refine ⟨_,_,D,v',w',hown,hD,g1,g2,g3,g4,fun b' hb'=>?_,f3,fun j el k u hj hk=>?_⟩
   ·simp [Value.ownBlock] at hb'
    subst hb'
    exact ⟨i,_,z,cap'',rfl,hi,rfl,hρ⟩
   ·obtain ⟨p1,p2⟩:=f4 j el k u hj hk
    have hjl:j<els.length:=(List.getElem?_eq_some_iff.1 hj).1
    have hkl:k<z:=Nat.lt_of_lt_of_le (List.getElem?_eq_some_iff.1 hk).1 (f3 j el hj)
    have hlt:j*z+k<n*z:=by
     calc j*z+k<j*z+z:=by omega
      _=(j+1)*z:=by rw [Nat.add_mul,Nat.one_mul]
      _<=n*z:=Nat.mul_le_mul_right _ (by omega)
    refine ⟨C.getD (j*z+k) undef,?_,p1,p2⟩
    rw [List.getElem?_take,if_pos hlt]
    have:=getD_some (C:=C) (j:=j*z+k) (by omega)
    simpa using this
  ·have hel:els=[]:=List.eq_nil_of_length_eq_zero hl
   subst hel
   have hown:=World.ownsRow_nil w 0 e z
   obtain ⟨v',w',g1,g2,g3,g4⟩:=run _ _ e1 hown
   exact ⟨_,_,D,v',w',hown,hD,g1,g2,g3,g4,fun b' hb'=>(by simp [Value.ownBlock] at hb'),fun j el h=>(by simp at h),fun j el k u h=>(by simp at h)⟩
theorem List.mem_take_at {l:List α} {n j:Nat} {x:α} (h:(l.take n)[j]?=some x):j<n/\l[j]?=some x:=by
 rw [List.getElem?_take] at h
 split at h
 ·exact ⟨by assumption,h⟩
 ·cases h
theorem opt_app_own {t e:TypeId} {z d i n:Nat} {zero:List AV} {x y:Operand} {v:AV} {fl:Bool} (ht:P.underlying t=some (.slice e)) (hz:tyZ P e=some (z,by_,zero)) (hz0:z≠0)
  (hx:Qu x=some rx) (hy:Qu y=some ry) (ho:o.op = .call { callee:=.builtin .append,args := #[x,y],argTypes := #[t,t] }) (hv:Qe F rx=some (.sl i 0 n)) (hu:Qe F ry=some v)
  (hi:get H i=some (.cells e z els fl)) (hs:JH H z v=some (rd,news)) (hd:get H d=none) (hl:n<=els.length) (hird:∀ k∈rd,k=i) (hn:∀ el∈news,el.length=z)
  (hb:(n+news.length)*by_<=140737488355328) (h63:n+news.length<=9223372036854775807) :
  OpT P o (rx.slots++ry.slots) F H [] [i,d] (.sl d 0 (n+news.length)) ((d,.cells e z (els.take n++news) (fl&&X2 news))::(i,.dead)::H):=by
 have hdi:d≠i:=fun h=>by subst h; rw [hd] at hi; cases hi
 refine OpT.appended (e:=e) (n:=n) (rd:=[]) (old:=some i) (els:=els.take n) (news:=news) (fl:=fl) hd hz0 (fun k=>?_) (fun k h=>?_) (by simp; omega) hn [i,d] (fun k=>by simp; exact ⟨fun h=>h.symm,fun h=>h.symm⟩) (fun S ρ a w hF hS hH=>?_)
 ·by_cases h1:d=k
  ·simp [get,h1]
  ·by_cases h2:i=k
   ·simp [get,h1,h2,Ne.symm h1]
   ·simp [get,h1,h2,Ne.symm h1,Ne.symm h2]
 ·injection h with h; subst h; exact ⟨by simp,_,hi,rfl⟩
 ·obtain ⟨A,cap,D,e2,e3,hD,hA⟩:=src_ok (P:=P) (by omega) hs hn (Qd hy hF (fun _ h=>by simp [h]) hu) hH (fun k hk=>.inr (by rw [hird k hk]; simp))
  have hDl:D.size=news.length*z:=by rw [hD.1]; exact QQ news hn
  have run:∀ (s:Value) (xs:List Value),a.eval x=s->w.ownsRow 0 e z s n xs->∃ v' w',(execOp a.eval o).run P w = .ok (.value v') w'/\w'.ownsRow 0 e z v' (n+news.length) (xs++D.toList)/\w.grownBy w' s.ownBlock ∧
    (v'.ownBlock=s.ownBlock\/v'.ownBlock=some w.heap.size):=fun s xs e1 hown=>by
   obtain ⟨v',w',hr,h2⟩:=run_append_any (ty:=o.type) ht hz hz0 w s n xs hown A news.length cap D hDl (Xi hD)
    (fun hm=>hA fun e=>by subst e; simp at hm) (by unfold maxLen; omega) hb
   exact ⟨v',w',by simp [execOp,ho,e1,e2,resolve,invoke,builtin,hr],h2⟩
  rcases (Qd hx hF (fun _ h=>by simp [h]) hv).sl_inv with ⟨b,z0,cap',cap'',hρ,hc,hnc,e1⟩ | ⟨z0,hρ,_,rfl,e1⟩
  ·obtain ⟨bk1,z1,c1,q1,q0,q2⟩:=hH.ob i _ (by simp) hi
   rw [hρ] at q1
   injection q1 with q1
   obtain ⟨rfl,rfl,rfl⟩:some b=bk1/\z0=z1/\cap'=c1:=by simpa using q1
   subst q0
   obtain ⟨hs',hm,C,hC,f1,f2,f3,f4⟩:=q2
   obtain rfl:cap''=cap':=by omega
   have hnz:n*z<=C.size:=by rw [f1]; exact Nat.mul_le_mul_right _ hnc
   have hown:w.ownsRow 0 e z (.slice (some ⟨b,0,none⟩) n cap'') n (C.toList.take (n*z)) :=
    ⟨by simp; omega,.inr ⟨b,cap'',C,rfl,Nat.zero_le _,hC,hnc,hm,f1,rfl⟩⟩
   obtain ⟨v',w',g1,g2,g3,g4⟩:=run _ _ (by rw [e1]; simp) hown
   refine ⟨_,_,D,v',w',hown,hD,g1,g2,g3,g4,fun b' hb'=>?_,fun j el hj=>f3 j el (List.mem_take_at hj).2,fun j el k u hj hk=>?_⟩
   ·simp [Value.ownBlock] at hb'
    subst hb'
    exact ⟨i,_,z,cap'',rfl,hi,rfl,hρ⟩
   ·obtain ⟨hjl,hj⟩:=List.mem_take_at hj
    obtain ⟨p1,p2⟩:=f4 j el k u hj hk
    have hkl:k<z:=Nat.lt_of_lt_of_le (List.getElem?_eq_some_iff.1 hk).1 (f3 j el hj)
    have hlt:j*z+k<n*z:=by
     calc j*z+k<j*z+z:=by omega
      _=(j+1)*z:=by rw [Nat.add_mul,Nat.one_mul]
      _<=n*z:=Nat.mul_le_mul_right _ (by omega)
    refine ⟨C.getD (j*z+k) undef,?_,p1,p2⟩
    rw [List.getElem?_take,if_pos hlt]
    have:=getD_some (C:=C) (j:=j*z+k) (by omega)
    simpa using this
  ·skip
   have hown:=World.ownsRow_nil w 0 e z
   obtain ⟨v',w',g1,g2,g3,g4⟩:=run _ _ e1 hown
   exact ⟨_,_,D,v',w',hown,hD,g1,g2,g3,g4,fun b' hb'=>(by simp [Value.ownBlock] at hb'),fun j el h=>(by simp at h),fun j el k u h=>(by simp at h)⟩
def MOp.slots:MOp->List Nat
 | .mv x=>x.slots
 | .pick c a b=>c.slots++a.slots++b.slots
 | .alloc .. => []
 | .box _ _ x=>x.slots
 | .build _ ps=>XP (ps.map (·.2.2))
 | .bslice _ _ _ _ ps=>XP (ps.map (·.2))
 | .ld _ _ x=>x.slots
 | .st _ x v=>x.slots++v.slots
 | .nilc x=>x.slots
 | .bin _ x y=>x.slots++y.slots
 | .un _ x=>x.slots
 | .cvt _ x=>x.slots
 | .mkfn _ caps=>XP caps
 | .mksl _ _ _ _ l c=>l.slots++c.slots
 | .slc _ x lo hi=>x.slots++XO lo++XO hi
 | .slarr _ x lo hi=>x.slots++XO lo++XO hi
 | .slst _ _ x=>x.slots
 | .fa _ x=>x.slots
 | .fld _ _ _ x=>x.slots
 | .ixsl _ x i=>x.slots++i.slots
 | .ixarr _ _ x i=>x.slots++i.slots
 | .ixval _ _ _ x i=>x.slots++i.slots
 | .ext x _=>x.slots
 | .len x=>x.slots
 | .lenc _=>[]
 | .app _ _ _ _ s x=>s.slots++x.slots
 | .cpy d s=>d.slots++s.slots
 | .clr _ x=>x.slots
 | .s2ap _ x=>x.slots
 | .aeq8 _ x y=>x.slots++y.slots
 | .mn x y=>x.slots++y.slots
 | .mn3 x y z=>x.slots++y.slots++z.slots
 | .mx3 x y z=>x.slots++y.slots++z.slots
 | .sdrop x i=>x.slots++i.slots
 | .mx x y=>x.slots++y.slots
 | .call _ args=>XP args
 | .callv f args=>f.slots++XP args
 | .isnil _ _ x=>x.slots
 | .beq _ x y=>x.slots++y.slots
 | .mkmap=>[]
 | .slen x=>x.slots
 | .scat x y=>x.slots++y.slots
 | .seq _ x y=>x.slots++y.slots
 | .aeqx _ _ x y=>x.slots++y.slots
 | .b2s x=>x.slots
 | .s2b x=>x.slots
 | .stake x i=>x.slots++i.slots
 | .sidx x i=>x.slots++i.slots
 | .bot=>[]
 | .ldg _ _=>[]
 | .mapadd _ m k v=>m.slots++k.slots++v.slots
 | .mhas _ m k=>m.slots++k.slots
 | .lenm x=>x.slots
 | .mkif _ x=>x.slots
 | .mkbm _ x=>x.slots
 | .ifnil _ x=>x.slots
 | .aeq _ _ x y=>x.slots++y.slots
 | .inv _ x args=>x.slots++XP args
 | .mkbnd _ x=>x.slots
 | .fins m k v=>m.slots++k.slots++v.slots
 | .flk m k=>m.slots++k.slots
def Found (P:Program) (o:Oper) (m:MOp) (F:List (Nat×AV)) (H:List (Nat×Ob)) (K:AV->List Nat->List Nat->List (Nat×Ob)->Prop):Prop :=
 ∃ v rd wr H1,K v rd wr H1/\(∀ i,i ∉ wr->get H1 i=get H i)/\(∀ i,i∈wr->(get H1 i).isSome=true)/\OpT P o m.slots F H rd wr v H1
theorem QG {i k:Nat} {x:α} {L:List (Nat×α)} (h:k ∉ [i]):get ((i,x)::L) k=get L k:=by
 have:¬ i=k:=fun e=>h (by simp [e])
 simp [get,this]
theorem QK {i k:Nat} {x:α} {L:List (Nat×α)} (h:k∈[i]):(get ((i,x)::L) k).isSome=true:=by
 have:k=i:=by simpa using h
 subst this
 simp [get]
end
end Go.Proofs.YthmbjgnjfjjibaaGreatDoor
namespace Go.Proofs.YthmbjgnjfjjibaaGreatDoor
open Go.RowKit
set_option maxRecDepth 100000
variable {ks:List (List Int)}
variable {S:Nat->Prop} {ρ:Rho} {w:World}
variable {r:Arg} {yt:TypeId}
variable {neg:Bool}
variable {op:BinOp}
section
variable {P:Program} {o:Oper} {F:List (Nat×AV)} {H:List (Nat×Ob)}
theorem run_eqGuard_slice {t:TypeId} {x y:Operand} {a b:Option Addr} {n c n' c':Nat} (w:World):(eqGuard op t x y (.slice a n c) (.slice b n' c')).run P w = .ok () w:=by
 unfold eqGuard
 cases op <;> simp
theorem run_eqGuard_ptr {t:TypeId} {x y:Operand} {a b:Option Addr} (w:World):(eqGuard op t x y (.pointer a) (.pointer b)).run P w = .ok () w:=by
 unfold eqGuard
 cases op <;> simp
theorem run_eqGuard_bool {t:TypeId} {x y:Operand} {a b:Bool} (w:World):(eqGuard op t x y (.bool a) (.bool b)).run P w = .ok () w:=by
 unfold eqGuard
 cases op <;> simp
theorem run_nil_slice {t e:TypeId} {a:Option Addr} {n c:Nat} (h:P.underlying t=some (.slice e)) (w:World):(binOp (if neg=true then .neq else .eql) t (.slice a n c) (.slice none 0 0)).run P w = .ok (.bool (neg != a.isNone)) w:=by
 have h1:(Op.equal t (.slice a n c) (.slice none 0 0)).run P w = .ok a.isNone w:=run_equal_slice_nil w t e a n c h
 cases neg
 ·simp only [Bool.false_eq_true,if_false,binOp]
  simp [h1]
 ·simp only [if_true,binOp]
  simp [h1]
theorem run_nil_ptr {t e:TypeId} {a:Option Addr} (h:P.underlying t=some (.pointer e)) (w:World):(binOp (if neg=true then .neq else .eql) t (.pointer a) (.pointer none)).run P w = .ok (.bool (neg != a.isNone)) w:=by
 have h1:(Op.equal t (.pointer a) (.pointer none)).run P w = .ok a.isNone w:=run_equal_pointer_nil w t a (by rw [h]; simp [Program.pointee,h])
 cases neg
 ·simp only [Bool.false_eq_true,if_false,binOp]
  simp [h1]
 ·simp only [if_true,binOp]
  simp [h1]
theorem run_bool_eq {t:TypeId} {a b:Bool} (h:P.underlying t=some .bool) (w:World):(binOp (if neg=true then .neq else .eql) t (.bool a) (.bool b)).run P w = .ok (.bool (neg != (a == b))) w:=by
 have h1:(Op.equal t (.bool a) (.bool b)).run P w = .ok (a == b) w:=run_equal_bool w t a b h
 cases neg
 ·simp only [Bool.false_eq_true,if_false,binOp]
  simp [h1]
 ·simp only [if_true,binOp]
  simp [h1]
theorem nilFor_spec {t:TypeId} {y:Operand} {sl:Bool} (h:nilFor P t y=some sl):(sl=true/\(∃ e,P.underlying t=some (.slice e))/\y = .const (.slice none 0 0))\/(sl=false/\(∃ e,P.underlying t=some (.pointer e))/\y = .const (.pointer none)):=by
 unfold nilFor at h
 split at h
 ·rename_i e hu
  injection h with h; exact .inl ⟨h.symm,⟨e,hu⟩,rfl⟩
 ·rename_i e hu
  injection h with h; exact .inr ⟨h.symm,⟨e,hu⟩,rfl⟩
 ·cases h
theorem opt_isnil {sl:Bool} {t:TypeId} {x y:Operand} (hx:Qu x=some r) (ho:o.op = .binOp (if neg=true then .neq else .eql) t x y yt) (hy:nilFor P t y=some sl) {K:AV->Prop} {ov:Option AV} (hov:Qe F r=ov)
  (h:nilK sl neg ov K):∃ v,K v/\OpT P o r.slots F H [] [] v H:=by
 rcases nilFor_spec hy with ⟨rfl,⟨e,hu⟩,rfl⟩ | ⟨rfl,⟨e,hu⟩,rfl⟩
 ·have go:∀ {v:AV},Qe F r=some v->∀ {res:AV},(∀ (w:World) (S:Nat->Prop) (ρ:Rho) (c:Value),VR w S ρ v c->∃ a n cap,c = .slice a n cap/\CR w S res (.bool (neg != a.isNone)))->OpT P o r.slots F H [] [] res H:=fun {v} hv {res} hc =>
   OpT.pure fun S ρ a w hF _=>by
    obtain ⟨ad,n,cap,e1,e2⟩:=hc w S ρ _ (Qd hx hF (fun _ h=>h) hv)
    have e3:a.eval (.const (.slice none 0 0)) = .slice none 0 0:=rfl
    exact ⟨_,by simp [execOp,ho,e1,e3,run_eqGuard_slice,run_nil_slice hu w],.cl e2⟩
  cases ov with
  | none=>exact False.elim h
  | some v=>cases v with
   | nils =>
    refine ⟨_,h,go hov fun w S ρ c hc=>⟨none,0,0,hc.nils_inv,?_⟩⟩
    have e:(neg != (none:Option Addr).isNone) = !neg:=by cases neg <;> rfl
    rw [e]; exact .bool _
   | rs z els =>
    cases els with
    | nil =>
     refine ⟨_,h,go hov fun w S ρ c hc=>?_⟩
     rcases hc.rs_inv with ⟨_,a,cap,e⟩ | ⟨b,off,cap,cf,e,_⟩
     ·exact ⟨a,0,cap,e,.anyb _⟩
     ·exact ⟨_,_,_,e,.anyb _⟩
    | cons el els =>
     refine ⟨_,h,go hov fun w S ρ c hc=>?_⟩
     rcases hc.rs_inv with ⟨e0,_⟩ | ⟨b,off,cap,cf,e,_⟩
     ·cases e0
     ·refine ⟨_,_,_,e,?_⟩
      rw [show (neg != (some (⟨b,off,none⟩:Addr)).isNone)=neg by cases neg <;> rfl]
      exact .bool _
   | sl i j n =>
    cases n with
    | zero =>
     refine ⟨_,h,go hov fun w S ρ c hc=>?_⟩
     rcases hc.sl_inv with ⟨b,z,cap,cap',_,_,_,e⟩ | ⟨z,_,_,_,e⟩
     ·exact ⟨_,_,_,e,.anyb _⟩
     ·exact ⟨_,_,_,e,.anyb _⟩
    | succ n =>
     refine ⟨_,h,go hov fun w S ρ c hc=>?_⟩
     rcases hc.sl_inv with ⟨b,z,cap,cap',_,_,_,e⟩ | ⟨z,_,_,e0,e⟩
     ·refine ⟨_,_,_,e,?_⟩
      rw [show (neg != (some (⟨b,j*z,none⟩:Addr)).isNone)=neg by cases neg <;> rfl]
      exact .bool _
     ·cases e0
   | _=>exact False.elim h
 ·have go:∀ {v:AV},Qe F r=some v->∀ {res:AV},(∀ (w:World) (S:Nat->Prop) (ρ:Rho) (c:Value),VR w S ρ v c->∃ a,c = .pointer a/\CR w S res (.bool (neg != a.isNone)))->OpT P o r.slots F H [] [] res H:=fun {v} hv {res} hc =>
   OpT.pure fun S ρ a w hF _=>by
    obtain ⟨ad,e1,e2⟩:=hc w S ρ _ (Qd hx hF (fun _ h=>h) hv)
    have e3:a.eval (.const (.pointer none)) = .pointer none:=rfl
    exact ⟨_,by simp [execOp,ho,e1,e3,run_eqGuard_ptr,run_nil_ptr hu w],.cl e2⟩
  have e0:(neg != (none:Option Addr).isNone) = !neg:=by cases neg <;> rfl
  have e1:∀ a:Addr,(neg != (some a).isNone)=neg:=fun a=>by cases neg <;> rfl
  cases ov with
  | none=>exact False.elim h
  | some v=>cases v with
   | nilp =>
    refine ⟨_,h,go hov fun w S ρ c hc=>⟨none,hc.nilp_inv,?_⟩⟩
    rw [e0]; exact .bool _
   | ptr i j k =>
    refine ⟨_,h,go hov fun w S ρ c hc=>?_⟩
    obtain ⟨b,z,cap,_,e⟩:=hc.ptr_inv
    refine ⟨_,e,?_⟩
    rw [e1]; exact .bool _
   | rp cs =>
    refine ⟨_,h,go hov fun w S ρ c hc=>?_⟩
    obtain ⟨b,off,cf,e,_⟩:=hc.rp_inv
    refine ⟨_,e,?_⟩
    rw [e1]; exact .bool _
   | _=>exact False.elim h
theorem opt_beq {t:TypeId} {x y:Operand} {rx ry:Arg} (hx:Qu x=some rx) (hy:Qu y=some ry) (ho:o.op = .binOp (if neg=true then .neq else .eql) t x y yt) (ht:P.underlying t=some .bool) {a b:Bool}
  (h1:Qe F rx=some (.bool a)) (h2:Qe F ry=some (.bool b)):OpT P o (rx.slots++ry.slots) F H [] [] (.bool (neg != (a == b))) H :=
 OpT.pure fun S ρ ac w hF _=>by
  have e1:=(Qd hx hF (fun _ h=>by simp [h]) h1).bool_inv
  have e2:=(Qd hy hF (fun _ h=>by simp [h]) h2).bool_inv
  exact ⟨_,by simp [execOp,ho,e1,e2,run_eqGuard_bool,run_bool_eq ht w],.cl (.bool _)⟩
theorem VR.mp_inv {c:Value} {i:Nat} (h:VR w S ρ (.mp i) c):∃ b z cap,ρ i=some (some b,z,cap)/\c = .map (some b):=by
 cases h with
 | cl h=>cases h
 | mp _ b z cap h=>exact ⟨b,z,cap,h,rfl⟩
theorem mset_inv {I:Nat->Prop} (hH:HRi I w S ρ H) {i:Nat} (hI:I i) (hg:get H i=some (.mset ks)) {b z cap:Nat} (hρ:ρ i=some (some b,z,cap)) :
  ¬ S b/\∃ es clock,w.heap[b]?=some (.map es clock)/\es.toList.map (fun x=>x.key)=ks.map JO/\∀ x∈es.toList,x.val = .bool true:=by
 obtain ⟨bk,z1,c1,q1,b1,es,clk,e1,q3,q4,q5⟩:=hH.ob i _ hI hg
 rw [hρ] at q1
 injection q1 with q1
 obtain ⟨rfl,rfl,rfl⟩:some b=bk/\z=z1/\cap=c1:=by simpa using q1
 injection e1 with e1; subst e1
 exact ⟨q3,es,clk,q4,q5⟩
theorem opt_lenm {t k e:TypeId} {x:Operand} (ht:P.underlying t=some (.map k e)) (hx:Qu x=some r) (ho:o.op = .call { callee:=.builtin .len,args := #[x],argTypes := #[t] }) {i:Nat} (hv:Qe F r=some (.mp i))
  (hi:get H i=some (.mset ks)):OpT P o r.slots F H [i] [] (.int .i64 ks.length) H :=
 OpT.pure fun S ρ ac w hF hH=>by
  obtain ⟨b,z,cap,h1,e1⟩:=(Qd hx hF (fun _ h=>h) hv).mp_inv
  obtain ⟨_,es,clk,h2,h3⟩:=mset_inv hH (by simp) hi h1
  have hlen:es.size=ks.length:=by simpa using congrArg List.length h3.1
  refine ⟨.int .i64 ks.length,?_,.cl (.int _ _)⟩
  simp [execOp,ho,e1,resolve,invoke,builtin,Builtin.len_,run_underlying ht,MapKept.run_getObj_map h2,goInt,hlen]
theorem opt_mkmap {t:TypeId} {d:Nat} (ho:o.op = .makeMap t none) (hd:get H d=none) (ts:List Nat):OpT P o ts F H [] [d] (.mp d) ((d,.mset [])::H):=by
 intro S ρ a w Q K hF hS hH hnew hK
 have hρd:ρ d=none:=hnew d (by simp) hd
 let ρ':Rho:=fun i=>if i=d then some (some w.heap.size,0,0) else ρ i
 have hρ'd:ρ' d=some (some w.heap.size,0,0):=by simp [ρ']
 have hρ'o:∀ i,i≠d->ρ' i=ρ i:=fun i hi=>by simp [ρ',hi]
 refine .inl ?_
 unfold Oper.wp
 have hr:(execOp a.eval o).run P w = .ok (.value (.map (some w.heap.size))) (w.alloc (.map #[] 0)):=by
  simp [execOp,ho,run_makeMap]
 rw [hr]
 refine hK _ _ S ρ' (.mp d w.heap.size 0 0 hρ'd) ⟨fun i ob hi hg=>?_,fun i j oi oj b z1 z2 c1 c2 hi hj hne=>?_⟩ ⟨⟨rfl,rfl,rfl,by simp,fun k hk _=>Below.heap_alloc w _ k hk⟩,fun _ h=>h,fun _ h=>.inl h,fun b hb=>?_,fun b hb=>?_,fun i hi=>?_⟩
 ·have hid:i=d:=by simpa using hi
  subst hid
  simp [get] at hg
  subst hg
  refine ⟨some w.heap.size,0,0,hρ'd,w.heap.size,#[],0,rfl,fun hs=>?_,heap_alloc_new w _,rfl,by simp⟩
  have:=hS _ hs; omega
 ·have e1:i=d:=by simpa using hi
  have e2:j=d:=by simpa using hj
  exact absurd (e1.trans e2.symm) hne
 ·have:=hS b hb; simp; omega
 ·obtain ⟨i,ob,z',cap',hi,_,_,hr'⟩:=hb
  have hid:i=d:=by simpa using hi
  subst hid
  rw [hρ'd] at hr'
  simp at hr'
  exact .inr (by omega)
 ·exact hρ'o i (fun e=>hi ⟨by simp [e],by rw [e]; exact hd⟩)
theorem isMapI_spec {t:TypeId} (h:isMapI P t=true):∃ k e,P.underlying t=some (.map k e)/\P.underlying k=some (.int .i64):=by
 unfold isMapI at h
 split at h
 ·rename_i k e hu
  split at h
  ·rename_i hk; exact ⟨k,e,hu,hk⟩
  ·cases h
 ·cases h
end
end Go.Proofs.YthmbjgnjfjjibaaGreatDoor
