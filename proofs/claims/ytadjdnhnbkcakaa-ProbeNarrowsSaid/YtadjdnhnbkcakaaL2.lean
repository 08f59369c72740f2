/-
  From the model's operations to ours ('compOp'), and what ours do to abstract values ('mev').
-/
import Derived.Test.YtadjdnhnbkcakaaL1
namespace Go.Proofs.Ytadjdnhnbkcakaa
open Go.RowKit

def carg : Operand → Option Arg
  | .tmp t => some (.t t)
  | .const v => match conv 2 v with
    | some x => some (.c x)
    | none => none
  | .func f => some (.c (.fn (.func f) []))
  | .global _ => none

def cargs : List Operand → Option (List Arg)
  | [] => some []
  | x :: l => match carg x, cargs l with
    | some a, some as => some (a :: as)
    | _, _ => none

/-- An element type's cells, bytes and zero cells. -/
def tyZ (P : Program) (e : TypeId) : Option (Nat × Nat × List AV) :=
  match P.info? e with
  | some i => match i.zero with
    | some z => match conv 2 z with
      | some x => match acells x with
        | some cs => if cs.length = i.size ∧ z.cells.size = i.size then some (i.size, i.bytes, cs) else none
        | none => none
      | none => none
    | none => none
  | none => none

def sizeP (P : Program) (t : TypeId) : Option Nat := (P.info? t).map (·.size)

def aggP (P : Program) (t : TypeId) : Option Bool :=
  match P.underlying t with
  | some (.struct _) => some true
  | some (.array _ _) => some true
  | some _ => some false
  | none => none

def cparts (P : Program) (fields : Array Field) : List (Nat × Operand) → Option (List (Nat × Nat × Arg))
  | [] => some []
  | (i, x) :: l => match fields[i]?, carg x, cparts P fields l with
    | some f, some a, some r => match sizeP P f.type with
      | some n => some ((f.offset, n, a) :: r)
      | none => none
    | _, _, _ => none

def cpartsA (n : Nat) : List (Nat × Operand) → Option (List (Nat × Nat × Arg))
  | [] => some []
  | (i, x) :: l => match carg x, cpartsA n l with
    | some a, some r => some ((i * n, n, a) :: r)
    | _, _ => none

def cpartsS : List (Nat × Operand) → Option (List (Nat × Arg))
  | [] => some []
  | (i, x) :: l => match carg x, cpartsS l with
    | some a, some r => some ((i, a) :: r)
    | _, _ => none

def copt : Option Operand → Option (Option Arg)
  | none => some none
  | some x => match carg x with
    | some a => some (some a)
    | none => none

/-- A comparison with nil: of slices (true), of pointers (false). -/
def nilFor (P : Program) (t : TypeId) (y : Operand) : Option Bool := match P.underlying t, y with
  | some (.slice _), .const (.slice none 0 0) => some true
  | some (.pointer _), .const (.pointer none) => some false
  | _, _ => none

def isBoolT (P : Program) (t : TypeId) : Bool := match P.underlying t with
  | some .bool => true
  | _ => false

/-- A map whose keys are integers. -/
def isMapI (P : Program) (t : TypeId) : Bool := match P.underlying t with
  | some (.map k _) => match P.underlying k with
    | some (.int .i64) => true
    | _ => false
  | _ => false

def isIntT (P : Program) (t : TypeId) : Bool := match P.underlying t with
  | some (.int _) => true
  | _ => false

/-- A function whose body the call enters. -/
def entered (P : Program) (f : FuncId) : Bool := match P.funcs[f]? with
  | some fn => fn.body.isSome && !(fn.name == "runtime.NumGoroutine")
  | none => false

def compCall (P : Program) (c : Call) : Option MOp :=
  match c.callee with
  | .value (.func f) => if entered P f then match cargs c.args.toList with
      | some as => some (.call f as)
      | none => none
    else none
  | .value (.tmp t) => match cargs c.args.toList with
      | some as => some (.callv (.t t) as)
      | none => none
  | .builtin .len => match c.args.toList, c.argTypes.toList with
    | [x], [t] => match P.underlying t, carg x with
      | some (.slice _), some a => some (.len a)
      | some (.array n _), _ => some (.lenc n)
      | some (.map _ _), some a => some (.lenm a)
      | _, _ => none
    | _, _ => none
  | .builtin .append => match c.args.toList, c.argTypes.toList with
    | [s, x], [t, u] => if t = u then match P.underlying t, carg s, carg x with
        | some (.slice e), some a, some b => match tyZ P e with
          | some (z, by_, zero) => if z = 0 then none else some (.app e z by_ zero a b)
          | none => none
        | _, _, _ => none
      else none
    | _, _ => none
  | .builtin .copy => match c.args.toList, c.argTypes.toList with
    | [d, s], [t, _] => match P.underlying t, carg d, carg s with
        | some (.slice e), some a, some b => if sizeP P e = some 1 then some (.cpy a b) else none
        | _, _, _ => none
    | _, _ => none
  | .builtin .min => match c.args.toList with
    | [x, y] => match carg x, carg y with
      | some a, some b => some (.mn a b)
      | _, _ => none
    | _ => none
  | .builtin .max => match c.args.toList with
    | [x, y] => match carg x, carg y with
      | some a, some b => some (.mx a b)
      | _, _ => none
    | _ => none
  | _ => none

def compOp (P : Program) : Op → Option MOp
  | .move x => (carg x).map .mv
  | .assign x => (carg x).map .mv
  | .pick c a b => match carg c, carg a, carg b with
    | some c, some a, some b => some (.pick c a b)
    | _, _, _ => none
  | .alloc e => match tyZ P e with
    | some (z, _, zero) => some (.alloc e z zero)
    | none => none
  | .box e x => match sizeP P e, carg x with
    | some z, some a => some (.box e z a)
    | _, _ => none
  | .build t parts => match P.underlying t, tyZ P t with
    | some (.struct fields), some (_, _, zero) => match cparts P fields parts.toList with
      | some ps => if fields.toList.all (fun f => (sizeP P f.type).isSome) = true then some (.build zero ps) else none
      | none => none
    | some (.array _ e), some (_, _, zero) => match sizeP P e with
      | some n => match cpartsA n parts.toList with
        | some ps => some (.build zero ps)
        | none => none
      | none => none
    | _, _ => none
  | .buildSlice t len parts => match P.underlying t with
    | some (.slice e) => match tyZ P e, cpartsS parts.toList with
      | some (z, _, zero), some ps => if len * z ≤ 2 ^ 24 ∧ z ≠ 0 ∧ len ≤ 4096 then some (.bslice e z zero len ps) else none
      | _, _ => none
    | _ => none
  | .load t x => match aggP P t, sizeP P t, carg x with
    | some g, some n, some a => some (.ld g n a)
    | _, _, _ => none
  | .store t x v => match sizeP P t, carg x, carg v with
    | some n, some a, some b => some (.st n a b)
    | _, _, _ => none
  | .nilCheck x => (carg x).map .nilc
  | .binOp op t x y _ => if isIntT P t then match carg x, carg y with
      | some a, some b => some (.bin op a b)
      | _, _ => none
    else if isBoolT P t then match op, carg x, carg y with
      | .eql, some a, some b => some (.beq false a b)
      | .neq, some a, some b => some (.beq true a b)
      | _, _, _ => none
    else match nilFor P t y, op, carg x with
      | some sl, .eql, some a => some (.isnil sl false a)
      | some sl, .neq, some a => some (.isnil sl true a)
      | _, _, _ => none
  | .makeMap _ none => some .mkmap
  | .mapUpdate t m k v => if isMapI P t then match carg m, carg k, carg v with
      | some a, some b, some c => some (.mapadd a b c)
      | _, _, _ => none
    else none
  | .unOp op _ x => (carg x).map (.un op)
  | .convert src dst x => match P.underlying src, P.underlying dst with
    | some (.int _), some (.int k) => (carg x).map (.cvt k)
    | _, _ => none
  | .makeFunc fn first captured => if first.size = 0 then (cargs captured.toList).map (.mkfn fn) else none
  | .makeSlice t l c => match P.underlying t with
    | some (.slice e) => match tyZ P e, carg l, carg c with
      | some (z, by_, zero), some a, some b => if z = 0 then none else some (.mksl e z by_ zero a b)
      | _, _, _ => none
    | _ => none
  | .slice t x lo hi none => match P.underlying t, carg x, copt lo, copt hi with
    | some (.slice e), some a, some l, some h => match sizeP P e with
      | some z => if z = 0 then none else some (.slc z a l h)
      | none => none
    | some (.array n e), some a, some l, some h => if sizeP P e = some 1 then some (.slarr n a l h) else none
    | _, _, _, _ => none
  | .fieldAddr s x f => match P.underlying s, carg x with
    | some (.struct fields), some a => match fields[f]? with
      | some fd => match sizeP P fd.type with
        | some n => if n = 0 then none else some (.fa fd.offset a)
        | none => none
      | none => none
    | _, _ => none
  | .field t x f => match P.underlying t, carg x with
    | some (.struct fields), some a => match fields[f]? with
      | some fd => match aggP P fd.type, sizeP P fd.type with
        | some g, some n => some (.fld g fd.offset n a)
        | _, _ => none
      | none => none
    | _, _ => none
  | .indexAddr t x i => match P.underlying t, carg x, carg i with
    | some (.slice e), some a, some b => match sizeP P e with
      | some z => some (.ixsl z a b)
      | none => none
    | some (.array n e), some a, some b => match sizeP P e with
      | some z => some (.ixarr n z a b)
      | none => none
    | _, _, _ => none
  | .index t x i => match P.underlying t, carg x, carg i with
    | some (.array n e), some a, some b => match aggP P e, sizeP P e with
      | some g, some z => some (.ixval n z g a b)
      | _, _ => none
    | _, _, _ => none
  | .extract x i => (carg x).map (.ext · i)
  | .call c => compCall P c
  | _ => none

/-- What binary operators give on integers; 'none': not served. -/
def binV (op : BinOp) (k k' : IntKind) (a b : Int) (K : AV → Prop) : Prop :=
  match op with
  | .shl => 0 ≤ b ∧ K (.int k (k.wrap (a * 2 ^ min b.toNat k.bits)))
  | .shr => 0 ≤ b ∧ K (.int k (a.fdiv (2 ^ min b.toNat k.bits)))
  | .add => k = k' ∧ K (.int k (k.wrap (a + b)))
  | .sub => k = k' ∧ K (.int k (k.wrap (a - b)))
  | .mul => k = k' ∧ K (.int k (k.wrap (a * b)))
  | .quo => k = k' ∧ b ≠ 0 ∧ K (.int k (k.wrap (a.tdiv b)))
  | .rem => k = k' ∧ b ≠ 0 ∧ K (.int k (a.tmod b))
  | .and => k = k' ∧ K (.int k (bits .and k a b))
  | .or => k = k' ∧ K (.int k (bits .or k a b))
  | .xor => k = k' ∧ K (.int k (bits .xor k a b))
  | .andNot => k = k' ∧ K (.int k (bits .andNot k a b))
  | .eql => k = k' ∧ K (.bool (a == b))
  | .neq => k = k' ∧ K (.bool (a != b))
  | .lss => k = k' ∧ K (.bool (decide (a < b)))
  | .leq => k = k' ∧ K (.bool (decide (a ≤ b)))
  | .gtr => k = k' ∧ K (.bool (decide (a > b)))
  | .geq => k = k' ∧ K (.bool (decide (a ≥ b)))

def fillA (F : List (Nat × AV)) : List AV → List (Nat × Nat × Arg) → Option (List AV)
  | l, [] => some l
  | l, (off, n, x) :: r => match aarg F x with
    | some v => match acells v with
      | some cs => if cs.length = n ∧ off + n ≤ l.length then fillA F (setAt l off cs) r else none
      | none => none
    | none => none

def fillS (F : List (Nat × AV)) (z : Nat) : List AV → List (Nat × Arg) → Option (List AV)
  | l, [] => some l
  | l, (i, x) :: r => match aarg F x with
    | some v => match acells v with
      | some cs => if cs.length = z ∧ i * z + z ≤ l.length then fillS F z (setAt l (i * z) cs) r else none
      | none => none
    | none => none

/-- A bound of a slice expression: absent, or an integer. -/
def abound (F : List (Nat × AV)) (d : Int) : Option Arg → Option Int
  | none => some d
  | some x => match aarg F x with
    | some (.int _ n) => some n
    | _ => none

/-- The elements behind a slice value, for an append's source. -/
def srcOf (H : List (Nat × Ob)) (z : Nat) : AV → Option (List Nat × List (List AV))
  | .nils => some ([], [])
  | .rs z' els => if z' = z ∨ els = [] then some ([], els) else none
  | .sl i j n => match get H i with
    | some (.cells _ z' els _) => if z' = z ∧ j + n ≤ els.length then some ([i], (els.drop j).take n) else none
    | _ => none
  | _ => none

/-- A comparison with nil. -/
def nilK (sl neg : Bool) (ov : Option AV) (K : AV → Prop) : Prop := match sl, ov with
  | true, some .nils => K (.bool (!neg))
  | true, some (.rs _ []) => K .anyb
  | true, some (.rs _ (_ :: _)) => K (.bool neg)
  | true, some (.sl _ _ 0) => K .anyb
  | true, some (.sl _ _ (_ + 1)) => K (.bool neg)
  | false, some .nilp => K (.bool (!neg))
  | false, some (.ptr ..) => K (.bool neg)
  | false, some (.rp _) => K (.bool neg)
  | _, _ => False

def addK (ks : List Int) (n : Int) : List Int := if ks.contains n then ks else ks ++ [n]

def flatE (els : List (List AV)) : Bool := match els with
  | [] => true
  | e :: r => closedL e && flatE r

/-- One operation that is no call. d: the name of what it makes. -/
def mev (F : List (Nat × AV)) (H : List (Nat × Ob)) (d : Nat) (K : AV → List Nat → List Nat → List (Nat × Ob) → Prop) : MOp → Prop
  | .mv x => match aarg F x with
    | some v => K v [] [] H
    | none => False
  | .pick c a b => match aarg F c with
    | some (.bool t) => match aarg F (if t = true then a else b) with
      | some v => K v [] [] H
      | none => False
    | _ => False
  | .alloc e z zero => zero.length = z ∧ get H d = none ∧ K (.ptr d 0 0) [] [d] ((d, .cells e z [zero] true) :: H)
  | .box e z x => match aarg F x with
    | some v => match acells v with
      | some cs => cs.length = z ∧ get H d = none ∧ K (.ptr d 0 0) [] [d] ((d, .cells e z [cs] (closedL cs)) :: H)
      | none => False
    | none => False
  | .build zero parts => match fillA F zero parts with
    | some cs => K (.agg cs) [] [] H
    | none => False
  | .bslice e z zero len parts => match fillS F z (reps len zero) parts with
    | some l => zero.length = z ∧ get H d = none ∧ K (.sl d 0 len) [] [d] ((d, .cells e z (chunks z len l) (closedL l)) :: H)
    | none => False
  | .ld g n x => match aarg F x with
    | some (.ptr i j o) => match get H i with
      | some (.cells _ _ els _) => match els[j]? with
        | some el => if g = true then o + n ≤ el.length ∧ K (.agg ((el.drop o).take n)) [i] [] H else match el[o]? with
          | some v => K v [i] [] H
          | none => False
        | none => False
      | _ => False
    | some (.rp cs) => if g = true then n ≤ cs.length ∧ K (.agg (cs.take n)) [] [] H else match cs[0]? with
      | some v => K v [] [] H
      | none => False
    | _ => False
  | .st n x v => match aarg F x, aarg F v with
    | some (.ptr i j o), some u => match get H i, acells u with
      | some (.cells e z els fl), some cs => match els[j]? with
        | some el => cs.length = n ∧ o + n ≤ el.length ∧ K .und [] [i] ((i, .cells e z (els.set j (setAt el o cs)) (fl && closedL cs)) :: H)
        | none => False
      | _, _ => False
    | _, _ => False
  | .nilc x => match aarg F x with
    | some (.ptr i j o) => K (.ptr i j o) [] [] H
    | some (.rp cs) => K (.rp cs) [] [] H
    | _ => False
  | .bin op x y => match aarg F x, aarg F y with
    | some (.int k a), some (.int k' b) => binV op k k' a b fun v => K v [] [] H
    | _, _ => False
  | .un op x => match op, aarg F x with
    | .not, some (.bool b) => K (.bool (!b)) [] [] H
    | .neg, some (.int k n) => K (.int k (k.wrap (0 - n))) [] [] H
    | _, _ => False
  | .cvt k x => match aarg F x with
    | some (.int _ n) => K (.int k (k.wrap n)) [] [] H
    | _ => False
  | .mkfn fn caps => match aargs F caps with
    | some vs => K (.fn fn vs) [] [] H
    | none => False
  | .mksl e z by_ zero l c => match aarg F l, aarg F c with
    | some (.int .i64 a), some (.int .i64 b) => zero.length = z ∧ get H d = none ∧ 0 ≤ a ∧ a = b ∧ a ≤ 9223372036854775807 ∧ (by_ : Int) * a ≤ 281474976710656 ∧
      K (.sl d 0 a.toNat) [] [d] ((d, .cells e z (List.replicate a.toNat zero) true) :: H)
    | _, _ => False
  | .slc z x lo hi => match aarg F x with
    | some (.rs z' els) => match abound F 0 lo, abound F els.length hi with
      | some l, some h => (z' = z ∨ els = []) ∧ 0 ≤ l ∧ l ≤ h ∧ h ≤ els.length ∧ K (.rs z ((els.drop l.toNat).take (h.toNat - l.toNat))) [] [] H
      | _, _ => False
    | some (.sl i j n) => match abound F 0 lo, abound F n hi, get H i with
      | some l, some h, some (.cells _ z' _ _) => z' = z ∧ 0 ≤ l ∧ (l = 0 ∨ l < h) ∧ l ≤ h ∧ h ≤ n ∧ K (.sl i (j + l.toNat) (h.toNat - l.toNat)) [i] [] H
      | _, _, _ => False
    | some .nils => match abound F 0 lo, abound F 0 hi with
      | some l, some h => l = 0 ∧ h = 0 ∧ K .nils [] [] H
      | _, _ => False
    | _ => False
  | .slarr n x lo hi => match aarg F x with
    | some (.ptr i j o) => match abound F 0 lo, abound F n hi with
      | some l, some h => 0 ≤ l ∧ (l = 0 ∨ l < h) ∧ l ≤ h ∧ h ≤ n ∧ K (.sa i j (o + l.toNat) (h.toNat - l.toNat)) [] [] H
      | _, _ => False
    | _ => False
  | .fa off x => match aarg F x with
    | some (.ptr i j o) => K (.ptr i j (o + off)) [] [] H
    | some (.rp cs) => K (.rp (cs.drop off)) [] [] H
    | _ => False
  | .fld g off n x => match aarg F x with
    | some (.agg cs) => if g = true then off + n ≤ cs.length ∧ K (.agg ((cs.drop off).take n)) [] [] H else match cs[off]? with
      | some v => K v [] [] H
      | none => False
    | _ => False
  | .ixsl z x i => match aarg F x, aarg F i with
    | some (.rs z' els), some (.int _ t) => 0 ≤ t ∧ t < els.length ∧ z' = z ∧ match els[t.toNat]? with
      | some el => K (.rp el) [] [] H
      | none => False
    | some (.sl a j n), some (.int _ t) => 0 ≤ t ∧ t < n ∧ match get H a with
      | some (.cells _ z' _ _) => z' = z ∧ K (.ptr a (j + t.toNat) 0) [a] [] H
      | _ => False
    | some (.sa a j o n), some (.int _ t) => 0 ≤ t ∧ t < n ∧ z = 1 ∧ K (.ptr a j (o + t.toNat)) [] [] H
    | _, _ => False
  | .ixarr len z x i => match aarg F x, aarg F i with
    | some (.ptr a j o), some (.int _ t) => 0 ≤ t ∧ t < len ∧ K (.ptr a j (o + t.toNat * z)) [] [] H
    | some (.rp cs), some (.int _ t) => 0 ≤ t ∧ t < len ∧ K (.rp (cs.drop (t.toNat * z))) [] [] H
    | _, _ => False
  | .ixval len z g x i => match aarg F x, aarg F i with
    | some (.agg cs), some (.int _ t) => 0 ≤ t ∧ t < len ∧ (if g = true then t.toNat * z + z ≤ cs.length ∧ K (.agg ((cs.drop (t.toNat * z)).take z)) [] [] H else match cs[t.toNat * z]? with
      | some v => K v [] [] H
      | none => False)
    | _, _ => False
  | .ext x i => match aarg F x with
    | some (.tup vs) => match vs[i]? with
      | some v => K v [] [] H
      | none => False
    | _ => False
  | .len x => match aarg F x with
    | some (.rs _ els) => K (.int .i64 els.length) [] [] H
    | some (.sl _ _ n) => K (.int .i64 n) [] [] H
    | some (.sa _ _ _ n) => K (.int .i64 n) [] [] H
    | some .nils => K (.int .i64 0) [] [] H
    | _ => False
  | .lenc n => K (.int .i64 n) [] [] H
  | .app e z by_ zero s x => match aarg F s, aarg F x with
    | some .nils, some v => match srcOf H z v with
      | some (rd, news) => zero.length = z ∧ get H d = none ∧ (∀ el ∈ news, el.length = z) ∧ news.length * by_ ≤ 140737488355328 ∧ news.length ≤ 9223372036854775807 ∧
        K (.sl d 0 news.length) rd [d] ((d, .cells e z news (flatE news)) :: H)
      | none => False
    | some (.sl i 0 n), some v => match get H i, srcOf H z v with
      | some (.cells e' z' els fl), some (rd, news) => zero.length = z ∧ get H d = none ∧ e' = e ∧ z' = z ∧ els.length = n ∧ i ∉ rd ∧ (∀ el ∈ news, el.length = z) ∧
        (n + news.length) * by_ ≤ 140737488355328 ∧ n + news.length ≤ 9223372036854775807 ∧
        K (.sl d 0 (n + news.length)) rd [i, d] ((d, .cells e z (els ++ news) (fl && flatE news)) :: (i, .dead) :: H)
      | _, _ => False
    | _, _ => False
  | .cpy x y => match aarg F x, aarg F y with
    | some (.sa i j o n), some v => match get H i, srcOf H 1 v with
      | some (.cells e z els fl), some (rd, news) => match els[j]? with
        | some el => (∀ c ∈ news, c.length = 1) ∧ i ∉ rd ∧ news.length ≤ n ∧ o + news.length ≤ el.length ∧
          K (.int .i64 news.length) rd [i] ((i, .cells e z (els.set j (setAt el o news.flatten)) (fl && flatE news)) :: H)
        | none => False
      | _, _ => False
    | _, _ => False
  | .mn x y => match aarg F x, aarg F y with
    | some (.int k a), some (.int _ b) => K (.int k (min a b)) [] [] H
    | _, _ => False
  | .mx x y => match aarg F x, aarg F y with
    | some (.int k a), some (.int _ b) => K (.int k (max a b)) [] [] H
    | _, _ => False
  | .isnil sl neg x => nilK sl neg (aarg F x) fun v => K v [] [] H
  | .beq neg x y => match aarg F x, aarg F y with
    | some (.bool a), some (.bool b) => K (.bool (neg != (a == b))) [] [] H
    | _, _ => False
  | .mkmap => get H d = none ∧ K (.mp d) [] [d] ((d, .mset []) :: H)
  | .mapadd m k v => match aarg F m, aarg F k, aarg F v with
    | some (.mp i), some (.int .i64 n), some _ => match get H i with
      | some (.mset ks) => K .und [] [i] ((i, .mset (addK ks n)) :: H)
      | _ => False
    | _, _, _ => False
  | .lenm x => match aarg F x with
    | some (.mp i) => match get H i with
      | some (.mset ks) => K (.int .i64 ks.length) [i] [] H
      | _ => False
    | _ => False
  | .call .. => False
  | .callv .. => False

end Go.Proofs.Ytadjdnhnbkcakaa
