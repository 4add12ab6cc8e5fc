import Derived.Orders
import Derived.Below
import Derived.Laws.World
import Derived.Lib.ItoaNum
import Derived.Deep.AppendSrc
import Derived.Laws.MakeOwn
import Derived.Laws.Tables
import Derived.Great.BuildSlice
import Derived.Laws.StructEq
set_option linter.all false
set_option linter.unusedVariables false
set_option linter.unusedSimpArgs false
set_option linter.unusedSectionVars false
/- The abstract machine: values as trees, blocks of the call's own by number. -/
namespace Go.Abs

inductive AV where
  | lit (v : Value)
  | sl (nil : Bool) (sz : Nat) (els : List (List AV))
  | emp
  | adr (sz : Nat) (els : List (List AV)) (i off : Nat)
  | agg (cs : List AV)
  | tup (vs : List AV)
  | loc (id i off : Nat)
  | lsl (id i len : Nat)
  | clo (fn : Fn) (first cap : List AV)
  | mp (id : Nat)
  | top
  | top1
  | err
  deriving Inhabited

/-- what keys a map has -/
inductive KD where
  | str
  | int (k : IntKind)
/-- blocks that hold no cells: maps with their entries in order; the record of a range over a function -/
inductive Ob where
  | smap (kd : KD) (es : List (Value × Value))
  | lp (r : Loop) (s : List (Nat × AV))
  | lpx

inductive Blk where
  | dead
  | resv
  | cells (own nil : Bool) (sz : Nat) (els : List (List AV))
  | obj (o : Ob)
  deriving Inhabited

structure St where
  slots : List (Nat × AV)
  heap : List Blk

def look : List (Nat × AV) → Nat → AV
  | [], _ => .top
  | (i, v) :: r, t => if i = t then v else look r t

def St.get (σ : St) (t : Nat) : AV := look σ.slots t
def St.put (σ : St) (d : Option Nat) (v : AV) : St :=
  match d with
  | some d => { σ with slots := (d, v) :: σ.slots }
  | none => σ

inductive Opd where
  | tmp (t : Nat)
  | val (v : AV)

def ev (s : Nat → AV) : Opd → AV
  | .tmp t => s t
  | .val v => v

/-- the kind of a cell that is compared -/
inductive CK where
  | ci
  | cs
  | cb

inductive AOp where
  | mv (x : Opd)
  | pick (c a b : Opd)
  | bin (op : BinOp) (x y : Opd)
  | eqAgg (neq : Bool) (ks : List CK) (x y : Opd)
  | eqBool (neq : Bool) (x y : Opd)
  | eqNil (neq : Bool) (x : Opd)
  | eqErr (neq : Bool) (x : Opd)
  | neg (x : Opd)
  | not (x : Opd)
  | cvInt (k : IntKind) (x : Opd)
  | cvStr (x : Opd)
  | cvB (x : Opd)
  | cvS (x : Opd)
  | ext (x : Opd) (i : Nat)
  | fld (off n : Nat) (isAgg : Bool) (x : Opd)
  | build (zero : List AV) (parts : List (Nat × Nat × Opd))
  | alloc (zero : List AV)
  | box (sz : Nat) (x : Opd)
  | bslice (sz len : Nat) (zero : List AV) (parts : List (Nat × Opd))
  | load (n : Nat) (isAgg : Bool) (a : Opd)
  | store (n : Nat) (a x : Opd)
  | faddr (off : Nat) (a : Opd)
  | iaddrS (sz : Nat) (x i : Opd)
  | iaddrA (len sz : Nat) (x i : Opd)
  | idxA (len sz : Nat) (isAgg : Bool) (x i : Opd)
  | idxS (x i : Opd)
  | slc (sz : Nat) (x : Opd) (lo hi : Option Opd)
  | slc0 (x hi mx : Opd)
  | slcS (x : Opd) (lo hi : Option Opd)
  | len (x : Opd)
  | lenS (x : Opd)
  | app (sz bytes : Nat) (s x : Opd)
  | mks (sz bytes : Nat) (zero : List AV) (len cap : Opd)
  | mkf (fn : Fn) (first caps : List Opd)
  | nilck (x : Opd)
  | minmax (mx : Bool) (xs : List Opd)
  | mkmap (kd : KD)
  | mlook (kd : KD) (commaOk : Bool) (zero : Value) (x k : Opd)
  | mset (kd : KD) (x k v : Opd)
  | call (raw : Bool) (f : Opd) (args : List Opd)
  | bad
  | copy (x y : Opd)

structure AOper where
  dst : Option Nat
  op : AOp
  guard : Option (Nat × Bool)
  fr : Nat

inductive ACode where
  | skip
  | reg (nfr : Nat) (ops : List AOper)
  | dreg (nfr : Nat) (ops : List (Nat × AOper)) (bef : List (List Nat))
  | seq (a b : ACode)
  | cond (c : Opd) (t e : ACode)
  | block (id : Nat) (b : ACode)
  | loop (b : ACode)
  | exit (id : Nat)
  | ret
  | range (f : Opd) (ps : List Nat) (asg body : ACode)

/-! values -/
def ofValue : Value → AV
  | .slice none 0 0 => .sl true 0 []
  | v => .lit v
def toLits : List AV → Option (List Value)
  | [] => some []
  | .lit v :: r => (toLits r).map (v :: ·)
  | _ => none
def mkAgg (cs : List AV) : AV :=
  match toLits cs with
  | some vs => .lit (.agg vs.toArray)
  | none => .agg cs
def AV.parts : AV → List AV
  | .agg cs => cs
  | .lit (.agg a) => a.toList.map ofValue
  | v => [v]
def isOne : AV → Bool
  | .lit (.agg _) => false
  | .lit (.tuple _) => false
  | .lit _ => true
  | .sl .. | .emp | .adr .. | .loc .. | .lsl .. | .clo .. | .mp _ | .top1 => true
  | _ => false
def cut (row : List AV) (off n : Nat) : List AV := (row.drop off).take n
def value (n : Nat) (isAgg : Bool) (cs : List AV) : Option AV :=
  if cs.length = n then
    if isAgg then some (mkAgg cs) else match cs with | [c] => some c | _ => none
  else none

/-- what a cell of a slice nil has: any size fits the nil slice -/
def szOk (nil : Bool) (a b : Nat) : Bool := nil || a == b

def binV (op : BinOp) : Value → Value → Option Value
  | .int k a, .int k' b =>
    if op = .shl then (if b < 0 then none else some (.int k (k.wrap (a * 2 ^ min b.toNat k.bits))))
    else if op = .shr then (if b < 0 then none else some (.int k (a.fdiv (2 ^ min b.toNat k.bits))))
    else if k = k' then
      match op with
      | .and => some (.int k (k.wrap (BitVec.ofInt k.bits a &&& BitVec.ofInt k.bits b).toNat))
      | .or => some (.int k (k.wrap (BitVec.ofInt k.bits a ||| BitVec.ofInt k.bits b).toNat))
      | .add => some (.int k (k.wrap (a + b)))
      | .sub => some (.int k (k.wrap (a - b)))
      | .mul => some (.int k (k.wrap (a * b)))
      | .quo => if b = 0 then none else some (.int k (k.wrap (a.tdiv b)))
      | .rem => if b = 0 then none else some (.int k (a.tmod b))
      | .eql => some (.bool (a == b))
      | .neq => some (.bool (a != b))
      | .lss => some (.bool (a < b))
      | .leq => some (.bool (a ≤ b))
      | .gtr => some (.bool (a > b))
      | .geq => some (.bool (a ≥ b))
      | _ => none
    else none
  | .string a, .string b =>
    match op with
    | .add => if ((a.size + b.size : Nat) : Int) > IntKind.i64.max then none else some (.string (a ++ b))
    | .eql => some (.bool (a.toList == b.toList))
    | .neq => some (.bool (!(a.toList == b.toList)))
    | .lss => some (.bool (Op.bytesLess a.toList b.toList))
    | _ => none
  | _, _ => none

def cellEq : CK → Value → Value → Option Bool
  | .ci, .int k a, .int k' b => if k = k' then some (a == b) else none
  | .cs, .string a, .string b => some (a.toList == b.toList)
  | .cb, .bool a, .bool b => some (a == b)
  | _, _, _ => none
def cellsEq : List CK → List Value → List Value → Option Bool
  | [], [], [] => some true
  | k :: ks, a :: r, b :: s => match cellEq k a b with
    | some c => if c then cellsEq ks r s else if r.length = ks.length ∧ s.length = ks.length then some false else none
    | none => none
  | _, _, _ => none

def boolV (b : Bool) : AV := .lit (.bool b)
def intV (n : Int) : AV := .lit (.int .i64 n)

def putCells (row : List AV) (off : Nat) (cs : List AV) : List AV := row.take off ++ cs ++ row.drop (off + cs.length)

/-- parts laid into cells: (offset, size, value) -/
def fillA (cells : List AV) : List (Nat × Nat × AV) → Option (List AV)
  | [] => some cells
  | (off, n, v) :: r =>
    if v.parts.length = n ∧ off + n ≤ cells.length ∧ v.parts.all isOne = true then fillA (putCells cells off v.parts) r else none

def rowsOf (sz : Nat) : Nat → List AV → List (List AV)
  | 0, _ => []
  | n + 1, cs => cs.take sz :: rowsOf sz n (cs.drop sz)

/-- the elements of a slice that is read -/
def elsOf (h : Nat → Blk) : AV → Option (Bool × Nat × List (List AV))
  | .sl nil sz els => some (nil, sz, els)
  | .emp => some (false, 0, [])
  | .lsl id i len => match h id with
    | .cells _ nil sz els => if len ≤ els.length - i then some (nil, sz, (els.drop i).take len) else none
    | _ => none
  | _ => none

def lenOf (h : Nat → Blk) : AV → Option Nat
  | .sl _ _ els => some els.length
  | .emp => some 0
  | .lsl id _ len => match h id with
    | .cells .. => some len
    | _ => none
  | _ => none

def boundOf (v : Option AV) (d : Nat) (y : Nat) : Option Nat :=
  match v with
  | none => some d
  | some (.lit (.int _ n)) => if 0 ≤ n ∧ n ≤ y then some n.toNat else none
  | _ => none

/-! maps -/
def keyIs : KD → Value → Bool
  | .str, .string _ => true
  | .int k, .int k' _ => k == k'
  | _, _ => false
def keyEq : Value → Value → Bool
  | .string a, .string b => a.data.toList == b.data.toList
  | .int k a, .int k' b => k == k' && a == b
  | _, _ => false
def mfind (k : Value) : List (Value × Value) → Option Value
  | [] => none
  | (a, v) :: r => if keyEq a k then some v else mfind k r
def mput (k v : Value) : List (Value × Value) → List (Value × Value)
  | [] => [(k, v)]
  | (a, u) :: r => if keyEq a k then (k, v) :: r else (a, u) :: mput k v r
def KD.same : KD → KD → Bool
  | .str, .str => true
  | .int k, .int k' => k == k'
  | _, _ => false

/-- the bytes of a list of bytes -/
def bytesA : List (List AV) → Option (List Int)
  | [] => some []
  | [.lit (.int .u8 n)] :: r => (bytesA r).map (n :: ·)
  | _ => none

/-- what an operation yields, and what it writes: (block, its new content) -/
def aop (fresh : Nat) (s : Nat → AV) (h : Nat → Blk) : AOp → Option (AV × List (Nat × Blk))
  | .mv x => some (ev s x, [])
  | .pick c a b => match ev s c, ev s a, ev s b with
    | .lit (.bool c), .lit a, .lit b => some (.lit (if c then a else b), [])
    | .lit (.bool c), a, b => some (if c then a else b, [])
    | _, _, _ => none
  | .bin op x y => match ev s x, ev s y with
    | .lit a, .lit b => (binV op a b).map fun v => (.lit v, [])
    | _, _ => none
  | .eqAgg neq ks x y => match ev s x, ev s y with
    | .lit (.agg a), .lit (.agg b) => (cellsEq ks a.toList b.toList).map fun e => (boolV (if neq then !e else e), [])
    | _, _ => none
  | .eqBool neq x y => match ev s x, ev s y with
    | .lit (.bool a), .lit (.bool b) => some (boolV (if neq then !(a == b) else a == b), [])
    | _, _ => none
  | .eqNil neq x => match ev s x with
    | .sl nil _ _ => some (boolV (if neq then !nil else nil), [])
    | .emp => some (boolV neq, [])
    | .lsl id _ _ => match h id with
      | .cells _ nil _ _ => some (boolV (if neq then !nil else nil), [])
      | _ => none
    | _ => none
  | .eqErr neq x => match ev s x with
    | .lit .nilIface => some (boolV (!neq), [])
    | .err => some (boolV neq, [])
    | _ => none
  | .cvS x => match elsOf h (ev s x) with
    | some (_, z, els) => if z = 1 ∧ els ≠ [] then (bytesA els).map fun xs => (.lit (.string ⟨(xs.map fun n => UInt8.ofNat n.toNat).toArray⟩), []) else none
    | none => none
  | .neg x => match ev s x with
    | .lit (.int k n) => some (.lit (.int k (k.wrap (0 - n))), [])
    | _ => none
  | .not x => match ev s x with
    | .lit (.bool b) => some (boolV (!b), [])
    | _ => none
  | .cvInt k x => match ev s x with
    | .lit (.int _ n) => some (.lit (.int k (k.wrap n)), [])
    | _ => none
  | .cvStr x => match ev s x with
    | .lit (.string b) => some (.lit (.string b), [])
    | _ => none
  | .cvB x => match ev s x with
    | .lit (.string b) => some (.sl false 1 (b.data.toList.map fun c => [.lit (.int .u8 c.toNat)]), [])
    | _ => none
  | .ext x i => match ev s x with
    | .tup vs => (vs[i]?).map fun v => (v, [])
    | _ => none
  | .fld off n isAgg x => match ev s x with
    | .agg cs => (value n isAgg (cut cs off n)).map fun v => (v, [])
    | .lit (.agg a) => (value n isAgg (cut (a.toList.map ofValue) off n)).map fun v => (v, [])
    | _ => none
  | .build zero parts => (fillA zero (parts.map fun (o, n, x) => (o, n, ev s x))).map fun cs => (mkAgg cs, [])
  | .alloc zero => some (.loc fresh 0 0, [(fresh, .cells true false zero.length [zero])])
  | .box sz x =>
    if (ev s x).parts.length = sz ∧ (ev s x).parts.all isOne = true then some (.loc fresh 0 0, [(fresh, .cells true false sz [(ev s x).parts])]) else none
  | .bslice sz len zero parts =>
    match fillA ((List.replicate len zero).flatten) (parts.map fun (i, x) => (i * sz, sz, ev s x)) with
    | some cs => some (.lsl fresh 0 len, [(fresh, .cells true false sz (rowsOf sz len cs))])
    | none => none
  | .load n isAgg a => match ev s a with
    | .adr _ els i off => (value n isAgg (cut (els.getD i []) off n)).map fun v => (v, [])
    | .loc id i off => match h id with
      | .cells _ _ _ els => (value n isAgg (cut (els.getD i []) off n)).map fun v => (v, [])
      | _ => none
    | _ => none
  | .store n a x => match ev s a with
    | .loc id i off => match h id with
      | .cells true nil sz els =>
        if (ev s x).parts.length = n ∧ (ev s x).parts.all isOne = true ∧ off + n ≤ sz ∧ i < els.length then
          some (.lit undef, [(id, .cells true nil sz (els.set i (putCells (els.getD i []) off (ev s x).parts)))])
        else none
      | _ => none
    | _ => none
  | .faddr off a => match ev s a with
    | .loc id i o => match h id with
      | .cells .. => some (.loc id i (o + off), [])
      | _ => none
    | .adr sz els i o => some (.adr sz els i (o + off), [])
    | _ => none
  | .iaddrS sz x i => match ev s i with
    | .lit (.int _ n) => match ev s x with
      | .sl _ z els => if 0 ≤ n ∧ n < els.length ∧ z = sz then some (.adr z els n.toNat 0, []) else none
      | .lsl id j len => match h id with
        | .cells _ _ z _ => if 0 ≤ n ∧ n < len ∧ z = sz then some (.loc id (j + n.toNat) 0, []) else none
        | _ => none
      | _ => none
    | _ => none
  | .iaddrA len sz x i => match ev s i with
    | .lit (.int _ n) => if 0 ≤ n ∧ n < len then match ev s x with
      | .loc id j o => match h id with
        | .cells .. => some (.loc id j (o + n.toNat * sz), [])
        | _ => none
      | .adr z els j o => some (.adr z els j (o + n.toNat * sz), [])
      | _ => none
      else none
    | _ => none
  | .idxA len sz isAgg x i => match ev s i with
    | .lit (.int _ n) => if 0 ≤ n ∧ n < len then match ev s x with
      | .agg cs => (value sz isAgg (cut cs (n.toNat * sz) sz)).map fun v => (v, [])
      | .lit (.agg a) => (value sz isAgg (cut (a.toList.map ofValue) (n.toNat * sz) sz)).map fun v => (v, [])
      | _ => none
      else none
    | _ => none
  | .idxS x i => match ev s x, ev s i with
    | .lit (.string b), .lit (.int _ n) => if 0 ≤ n then (b[n.toNat]?).map fun c => (.lit (.int .u8 c.toNat), []) else none
    | _, _ => none
  | .slc sz x lo hi => match ev s x with
    | .sl nil z els =>
      match boundOf (hi.map (ev s)) els.length els.length with
      | some e => (boundOf (lo.map (ev s)) 0 e).bind fun b => if szOk nil z sz then some (.sl nil z ((els.take e).drop b), []) else none
      | _ => none
    | .lsl id i len => match h id with
      | .cells _ nil z _ =>
        match boundOf (hi.map (ev s)) len len with
        | some e => (boundOf (lo.map (ev s)) 0 e).bind fun b => if szOk nil z sz then some (.lsl id (i + b) (e - b), []) else none
        | _ => none
      | _ => none
    | .emp => match boundOf (hi.map (ev s)) 0 0, boundOf (lo.map (ev s)) 0 0 with
      | some _, some _ => some (.emp, [])
      | _, _ => none
    | _ => none
  | .slc0 x hi mx => match ev s hi, ev s mx with
    | .lit (.int _ 0), .lit (.int _ 0) => match ev s x with
      | .sl nil z _ => some (if nil then .sl true z [] else .emp, [])
      | .lsl id _ _ => match h id with
        | .cells _ nil z _ => some (if nil then .sl true z [] else .emp, [])
        | _ => none
      | .emp => some (.emp, [])
      | _ => none
    | _, _ => none
  | .slcS x lo hi => match ev s x with
    | .lit (.string b) => (boundOf (hi.map (ev s)) b.size b.size).bind fun e => (boundOf (lo.map (ev s)) 0 e).map fun l => (.lit (.string (b.extract l e)), [])
    | _ => none
  | .len x => (lenOf h (ev s x)).map fun n => (intV n, [])
  | .lenS x => match ev s x with
    | .lit (.string b) => some (intV b.size, [])
    | _ => none
  | .app sz bytes a x => match elsOf h (ev s x) with
    | some (_, z, news) =>
      if szOk (news.isEmpty) z sz then
        match ev s a with
        | .sl true _ _ => if news.length * bytes ≤ 140737488355328 then some (.lsl fresh 0 news.length, [(fresh, .cells true news.isEmpty sz news)]) else none
        | .emp => if news.length * bytes ≤ 140737488355328 then some (.lsl fresh 0 news.length, [(fresh, .cells true false sz news)]) else none
        | .lsl id i len => match h id with
          | .cells true nil z' els =>
            if z' = sz ∧ len ≤ els.length - i ∧ (len + news.length) * bytes ≤ 140737488355328 then
              some (.lsl fresh 0 (len + news.length), [(id, .dead), (fresh, .cells true (nil && news.isEmpty) sz ((els.drop i).take len ++ news))])
            else none
          | _ => none
        | _ => none
      else none
    | none => none
  | .mks sz bytes zero len cap => match ev s len, ev s cap with
    | .lit (.int .i64 n), .lit (.int .i64 c) =>
      if 0 ≤ n ∧ n ≤ c ∧ c * bytes ≤ 140737488355328 ∧ c ≤ 4611686018427387904 then some (.lsl fresh 0 n.toNat, [(fresh, .cells true false sz (List.replicate n.toNat zero))]) else none
    | _, _ => none
  | .mkf fn first caps => some (.clo fn (first.map (ev s)) (caps.map (ev s)), [])
  | .nilck x => match ev s x with
    | .loc id i o => match h id with
      | .cells .. => some (.loc id i o, [])
      | _ => none
    | .adr z els i o => some (.adr z els i o, [])
    | .clo (.func f) a b => some (.clo (.func f) a b, [])
    | .lit (.func (.func f) a b) => some (.lit (.func (.func f) a b), [])
    | _ => none
  | .minmax mx xs => match xs.map (ev s) with
    | [.lit (.int k a), .lit (.int k' b)] => if k = k' then some (.lit (.int k (if mx then (if b > a then b else a) else (if b < a then b else a))), []) else none
    | [.lit (.int k a), .lit (.int k' b), .lit (.int k'' c)] => if k = k' ∧ k = k'' then
        some (.lit (.int k (if mx then (let y := if b > a then b else a; if c > y then c else y) else (let y := if b < a then b else a; if c < y then c else y))), []) else none
    | _ => none
  | .copy x y => match ev s x with
    | .lsl id i len => match h id with
      | .cells true nil z els => match elsOf h (ev s y) with
        | some (_, z', news) =>
          if z = 1 ∧ szOk news.isEmpty z' 1 = true ∧ i + len ≤ els.length then
            some (intV (min news.length len : Nat), [(id, .cells true nil 1 (els.take i ++ news.take len ++ els.drop (i + min news.length len)))])
          else none
        | none => none
      | _ => none
    | _ => none
  | .mkmap kd => some (.mp fresh, [(fresh, .obj (.smap kd []))])
  | .mlook kd ok z x k => match ev s k with
    | .lit key => match ev s x with
      | .mp id => match h id with
        | .obj (.smap kd' es) => if kd.same kd' ∧ keyIs kd key then match mfind key es with
            | some v => some (if ok then .tup [.lit v, boolV true] else .lit v, [])
            | none => some (if ok then .tup [.lit z, boolV false] else .lit z, [])
          else none
        | _ => none
      | _ => none
    | _ => none
  | .mset kd x k v => match ev s k, ev s v with
    | .lit key, .lit val => match ev s x with
      | .mp id => match h id with
        | .obj (.smap kd' es) => if kd.same kd' ∧ keyIs kd key then some (.lit undef, [(id, .obj (.smap kd' (mput key val es)))]) else none
        | _ => none
      | _ => none
    | _, _ => none
  | .call .. | .bad => none

end Go.Abs
/- What package-level variables hold in every world of this seat: a block's number, and what its cells are. -/
namespace Go.Abs
def globs : List (Nat × (Array Value → Prop)) :=
  [(0, fun c => c = (Lib.pow10Tab.map fun z => Value.int .u64 z).toArray), (1, fun c => ∃ m, c = #[.int .i64 m]), (2, fun c => ∃ t v, c = #[.iface t v]), (3, fun c => ∃ t v, c = #[.iface t v])]
end Go.Abs
/- What an abstract state says of a world. -/
namespace Go.Abs
open Go.RowKit

structure Ctx where
  H : List Blk
  m : List (Option (Nat × Nat))
  w : World
  prot : Nat → Prop

/-- what a block of another make holds -/
def Ob.is : Ob → Obj → Prop
  | .smap kd es, .map es' _ => es'.toList.map (fun e => (e.key, e.val)) = es ∧ ∀ e ∈ es'.toList, keyIs kd e.key = true
  | .lp r _, .loop r' => r' = r
  | .lpx, .loop _ => True
  | _, _ => False
/-- what of it never turns -/
def Ob.key : Ob → Option KD
  | .smap kd _ => some kd
  | .lp .. => none
  | .lpx => none
/-- the value that leads to it -/
def Ob.val (b : Nat) : Ob → Value
  | .smap .. => .map (some b)
  | .lp .. => .func (.yield b) #[] #[]
  | .lpx => .func (.yield b) #[] #[]
theorem Ob.val_key {b : Nat} {o o' : Ob} (h : o'.key = o.key) : o'.val b = o.val b := by
  cases o <;> cases o' <;> simp [Ob.key] at h <;> rfl
theorem Ob.not_cells {o : Ob} {c : Array Value} {e : TypeId} {f : Nat × Nat} : ¬ o.is (.cells c e f) := by cases o <;> exact id

def Ctx.ownC (C : Ctx) (b : Nat) : Prop := ∃ (id : Nat) (nil : Bool) (sz : Nat) (els : List (List AV)) (base : Nat), C.H[id]? = some (Blk.cells true nil sz els) ∧ C.m[id]? = some (some (b, base))
def Ctx.ownO (C : Ctx) (b : Nat) : Prop := ∃ (id : Nat) (o : Ob), C.H[id]? = some (Blk.obj o) ∧ o ≠ .lpx ∧ C.m[id]? = some (some (b, 0))
def Ctx.own (C : Ctx) (b : Nat) : Prop := C.ownC b ∨ C.ownO b
def Ctx.bad (C : Ctx) (b : Nat) : Prop := C.own b ∨ C.prot b

/-- a block of cells lies there -/
def IsCells (w : World) (b : Nat) : Prop := ∃ c e f, w.heap[b]? = some (Obj.cells c e f)
theorem IsCells.lt {w : World} {b : Nat} (h : IsCells w b) : b < w.heap.size := by
  obtain ⟨c, e, f, h⟩ := h; exact (Array.getElem?_eq_some_iff.1 h).1

mutual
def Conc (C : Ctx) : AV → Value → Prop
  | .lit v, u => u = v
  | .sl nil sz els, u => (nil = true ∧ els.length = 0 ∧ u = .slice none 0 0) ∨
      (nil = false ∧ ∃ b base cap, u = .slice (some ⟨b, base, none⟩) els.length cap ∧ els.length ≤ cap ∧ (els.length ≠ 0 → ¬ C.bad b ∧ IsCells C.w b) ∧ RowsAt C b base sz els) ∨ (nil = false ∧ els.length = 0 ∧ ∃ a, u = .slice (some a) 0 0)
  | .emp, u => ∃ a, u = .slice (some a) 0 0
  | .adr sz els i off, u => ∃ b base, u = .pointer (some ⟨b, base + i * sz + off, none⟩) ∧ i < els.length ∧ ¬ C.bad b ∧ IsCells C.w b ∧ RowsAt C b base sz els
  | .agg cs, u => ∃ us, u = .agg us ∧ ConcL C cs us.toList
  | .tup vs, u => ∃ us, u = .tuple us ∧ ConcL C vs us.toList
  | .loc id i off, u => match C.H[id]? with
      | some .dead => u.oneCell' = true
      | some (.cells _ _ sz _) => ∃ b base, C.m[id]? = some (some (b, base)) ∧ u = .pointer (some ⟨b, base + i * sz + off, none⟩)
      | _ => False
  | .lsl id i len, u => match C.H[id]? with
      | some .dead => u.oneCell' = true
      | some (.cells _ nil sz els) =>
        (nil = true ∧ els.length = 0 ∧ i = 0 ∧ len = 0 ∧ u = .slice none 0 0) ∨ (nil = false ∧ len = 0 ∧ i ≤ els.length ∧ ∃ a, u = .slice (some a) 0 0) ∨
        (nil = false ∧ ∃ b base cap c e f, C.m[id]? = some (some (b, base)) ∧ C.w.heap[b]? = some (.cells c e f) ∧ u = .slice (some ⟨b, base + i * sz, none⟩) len cap ∧
          i + len ≤ els.length ∧ len ≤ cap ∧ base + (i + cap) * sz ≤ c.size)
      | _ => False
  | .clo fn first cap, u => ∃ f c, u = .func fn f c ∧ ConcL C first f.toList ∧ ConcL C cap c.toList
  | .mp id, u => match C.H[id]? with
      | some (.obj o) => ∃ b, C.m[id]? = some (some (b, 0)) ∧ u = o.val b
      | _ => False
  | .top, _ => True
  | .top1, u => u.oneCell' = true
  | .err, u => ∃ t v, u = .iface t v
def ConcL (C : Ctx) : List AV → List Value → Prop
  | [], us => us = []
  | a :: l, us => ∃ u us', us = u :: us' ∧ Conc C a u ∧ ConcL C l us'
def CellsAt (C : Ctx) (b : Nat) : Nat → List AV → Prop
  | _, [] => True
  | off, c :: cs => (∃ u, C.w.cell? ⟨b, off, none⟩ = some u ∧ u.oneCell' = true ∧ isOne c = true ∧ Conc C c u) ∧ CellsAt C b (off + 1) cs
def RowsAt (C : Ctx) (b : Nat) : Nat → Nat → List (List AV) → Prop
  | _, _, [] => True
  | base, sz, r :: rs => r.length = sz ∧ CellsAt C b base r ∧ RowsAt C b (base + sz) sz rs
end

structure HeapRel (C : Ctx) : Prop where
  len : C.m.length = C.H.length
  blk : ∀ (id : Nat) own nil sz els, C.H[id]? = some (Blk.cells own nil sz els) →
    (C.m[id]? = some none ∧ els.length = 0) ∨
    (nil = false ∧ ∃ b base c e, C.m[id]? = some (some (b, base)) ∧ ¬ C.prot b ∧ C.w.heap[b]? = some (.cells c e (0, 0)) ∧ RowsAt C b base sz els)
  inj : ∀ (id id' : Nat) nil sz els own' nil' sz' els' b base base', id ≠ id' → C.H[id]? = some (Blk.cells true nil sz els) → C.H[id']? = some (Blk.cells own' nil' sz' els') →
    C.m[id]? = some (some (b, base)) → C.m[id']? = some (some (b, base')) → False
  prot : ∀ b, C.prot b → b < C.w.heap.size
  obj : ∀ (id : Nat) o, C.H[id]? = some (Blk.obj o) → o ≠ .lpx → ∃ b x, C.m[id]? = some (some (b, 0)) ∧ ¬ C.prot b ∧ C.w.heap[b]? = some x ∧ o.is x
  oinj : ∀ (id id' : Nat) o o' b base base', id ≠ id' → o ≠ .lpx → o' ≠ .lpx → C.H[id]? = some (Blk.obj o) → C.H[id']? = some (Blk.obj o') → C.m[id]? = some (some (b, base)) → C.m[id']? = some (some (b, base')) → False
  lps : ∀ (id : Nat) r s, C.H[id]? = some (Blk.obj (.lp r s)) → ∀ t, Conc C (look s t) (r.tmps.getD t undef)
  gl : ∀ p ∈ globs, C.prot p.1 ∧ ∃ c e f, C.w.heap[p.1]? = some (.cells c e f) ∧ p.2 c

structure Step (C C' : Ctx) : Prop where
  os : C'.w.os = C.w.os
  tape : C'.w.tape = C.w.tape
  output : C'.w.output = C.w.output
  prot : C'.prot = C.prot
  size : C.w.heap.size ≤ C'.w.heap.size
  hlen : C.H.length ≤ C'.H.length
  blk : ∀ b, b < C.w.heap.size → ¬ C.own b → C'.w.heap[b]? = C.w.heap[b]?
  grow : ∀ (b : Nat) c e f, C.w.heap[b]? = some (Obj.cells c e f) → ∃ c' f', C'.w.heap[b]? = some (Obj.cells c' e f') ∧ c'.size = c.size
  own : ∀ b, C'.own b → C.own b ∨ C.w.heap.size ≤ b
  ids : ∀ (id : Nat) (B : Blk), C.H[id]? = some B → B ≠ Blk.resv → (∃ B', C'.H[id]? = some B' ∧ B' ≠ Blk.resv) ∧
    ∀ own' nil' sz' els', C'.H[id]? = some (Blk.cells own' nil' sz' els') → ∃ own els, B = Blk.cells own nil' sz' els ∧ els.length = els'.length ∧ (own' = true → own = true) ∧ C'.m[id]? = C.m[id]?
  objs : ∀ (id : Nat) o, C.H[id]? = some (Blk.obj o) → ∃ o', C'.H[id]? = some (Blk.obj o') ∧ C'.m[id]? = C.m[id]? ∧ o'.key = o.key
  objr : ∀ (id : Nat) o B, C'.H[id]? = some (Blk.obj o) → C.H[id]? = some B → B ≠ Blk.resv → ∃ o', B = Blk.obj o'

theorem Step.refl (C : Ctx) : Step C C :=
  ⟨rfl, rfl, rfl, rfl, Nat.le_refl _, Nat.le_refl _, fun _ _ _ => rfl, fun _ c _ f h => ⟨c, f, h, rfl⟩, fun _ h => .inl h,
   fun _ B hB hr => ⟨⟨B, hB, hr⟩, fun own' _ _ els' h => ⟨own', els', by rw [hB] at h; exact Option.some.inj h, rfl, fun h => h, rfl⟩⟩, fun _ o h => ⟨o, h, rfl, rfl⟩,
   fun _ o B h h' _ => ⟨o, by rw [h] at h'; exact (Option.some.inj h').symm⟩⟩

theorem Step.trans {A B C : Ctx} (h : Step A B) (k : Step B C) : Step A C where
  os := k.os.trans h.os
  tape := k.tape.trans h.tape
  output := k.output.trans h.output
  prot := k.prot.trans h.prot
  size := Nat.le_trans h.size k.size
  hlen := Nat.le_trans h.hlen k.hlen
  blk := fun b hb hn => by
    rw [k.blk b (Nat.lt_of_lt_of_le hb h.size) (fun ho => by rcases h.own b ho with h1 | h1; exact hn h1; omega), h.blk b hb hn]
  grow := fun b c e f hc => by
    obtain ⟨c1, f1, h1, l1⟩ := h.grow b c e f hc
    obtain ⟨c2, f2, h2, l2⟩ := k.grow b c1 e f1 h1
    exact ⟨c2, f2, h2, l2.trans l1⟩
  own := fun b hb => by
    rcases k.own b hb with h1 | h1
    · exact h.own b h1
    · exact .inr (Nat.le_trans h.size h1)
  ids := fun id X hX hr => by
    obtain ⟨⟨Y, hY, hYr⟩, h1⟩ := h.ids id X hX hr
    obtain ⟨hZ, h2⟩ := k.ids id Y hY hYr
    refine ⟨hZ, fun own' nil' sz' els' hc => ?_⟩
    obtain ⟨own1, els1, rfl, hl, ho, hm⟩ := h2 _ _ _ _ hc
    obtain ⟨own0, els0, rfl, hl0, ho0, hm0⟩ := h1 _ _ _ _ hY
    exact ⟨own0, els0, rfl, hl0.trans hl, fun h => ho0 (ho h), hm.trans hm0⟩
  objs := fun id o ho => by
    obtain ⟨o1, h1, h2, h3⟩ := h.objs id o ho
    obtain ⟨o2, h4, h5, h6⟩ := k.objs id o1 h1
    exact ⟨o2, h4, h5.trans h2, h6.trans h3⟩
  objr := fun id o X ho hX hr => by
    obtain ⟨⟨Y, hY, hYr⟩, _⟩ := h.ids id X hX hr
    obtain ⟨o', rfl⟩ := k.objr id o Y ho hY hYr
    exact h.objr id o' X hY hX hr

section mono
variable {C C' : Ctx}

/-- what values lean on -/
structure StepW (C C' : Ctx) : Prop where
  prot : C'.prot = C.prot
  size : C.w.heap.size ≤ C'.w.heap.size
  cell : ∀ b o, b < C.w.heap.size → ¬ C.own b → C'.w.cell? ⟨b, o, none⟩ = C.w.cell? ⟨b, o, none⟩
  grow : ∀ (b : Nat) c e f, C.w.heap[b]? = some (Obj.cells c e f) → ∃ c' f', C'.w.heap[b]? = some (Obj.cells c' e f') ∧ c'.size = c.size
  own : ∀ b, IsCells C.w b → C'.own b → C.own b
  ids : ∀ (id : Nat) (B : Blk), C.H[id]? = some B → B ≠ Blk.resv → (∃ B', C'.H[id]? = some B' ∧ B' ≠ Blk.resv) ∧
    ∀ own' nil' sz' els', C'.H[id]? = some (Blk.cells own' nil' sz' els') → ∃ own els, B = Blk.cells own nil' sz' els ∧ els.length = els'.length ∧ (own' = true → own = true) ∧ C'.m[id]? = C.m[id]?
  objs : ∀ (id : Nat) o, C.H[id]? = some (Blk.obj o) → ∃ o', C'.H[id]? = some (Blk.obj o') ∧ C'.m[id]? = C.m[id]? ∧ o'.key = o.key
  objr : ∀ (id : Nat) o B, C'.H[id]? = some (Blk.obj o) → C.H[id]? = some B → B ≠ Blk.resv → ∃ o', B = Blk.obj o'
theorem Step.toW (h : Step C C') : StepW C C' :=
  ⟨h.prot, h.size, fun b o hb hn => World.cell?_of_block (w := C.w) (h.blk b hb hn), h.grow, fun b hb ho => (h.own b ho).resolve_right (Nat.not_le.2 hb.lt), h.ids, h.objs, h.objr⟩

theorem StepW.bad_ (hs : StepW C C') {b : Nat} (hb : IsCells C.w b) (h : ¬ C.bad b) : ¬ C'.bad b := by
  rintro (h1 | h1)
  · exact h (.inl (hs.own b hb h1))
  · rw [hs.prot] at h1; exact h (.inr h1)
theorem StepW.isCells (hs : StepW C C') {b : Nat} (hb : IsCells C.w b) : IsCells C'.w b := by
  obtain ⟨c, e, f, h⟩ := hb
  obtain ⟨c', f', h', _⟩ := hs.grow b c e f h
  exact ⟨c', e, f', h'⟩
theorem Step.bad_ (hs : Step C C') {b : Nat} (hb : IsCells C.w b) (h : ¬ C.bad b) : ¬ C'.bad b := hs.toW.bad_ hb h
theorem StepW.cell_ (hs : StepW C C') {b o : Nat} (hb : IsCells C.w b) (h : ¬ C.bad b) : C'.w.cell? ⟨b, o, none⟩ = C.w.cell? ⟨b, o, none⟩ :=
  hs.cell b o hb.lt (fun h1 => h (.inl h1))
theorem Step.cell (hs : Step C C') {b o : Nat} (hb : IsCells C.w b) (h : ¬ C.bad b) : C'.w.cell? ⟨b, o, none⟩ = C.w.cell? ⟨b, o, none⟩ := hs.toW.cell_ hb h

mutual
theorem Conc.monoW (hs : StepW C C') : ∀ (v : AV) (u : Value), Conc C v u → Conc C' v u
  | .lit _, _, h => h
  | .top, _, _ => trivial
  | .top1, _, h => h
  | .err, _, h => h
  | .emp, _, h => h
  | .sl nil sz els, u, h => by
    simp only [Conc] at h ⊢
    rcases h with h | ⟨hn, b, base, cap, hu, hc, hb, hr⟩ | h
    · exact .inl h
    · refine .inr (.inl ⟨hn, b, base, cap, hu, hc, fun hl => ⟨StepW.bad_ hs (hb hl).2 (hb hl).1, hs.isCells (hb hl).2⟩, ?_⟩)
      by_cases hl : els.length = 0
      · have : els = [] := List.eq_nil_of_length_eq_zero hl
        subst this; trivial
      · exact RowsAt.monoW hs els b base sz (hb hl).2 (hb hl).1 hr
    · exact .inr (.inr h)
  | .adr sz els i off, u, h => by
    simp only [Conc] at h ⊢
    obtain ⟨b, base, hu, hi, hb, hlt, hr⟩ := h
    exact ⟨b, base, hu, hi, StepW.bad_ hs hlt hb, hs.isCells hlt, RowsAt.monoW hs els b base sz hlt hb hr⟩
  | .agg cs, u, h => by
    simp only [Conc] at h ⊢
    obtain ⟨us, hu, hl⟩ := h
    exact ⟨us, hu, ConcL.monoW hs cs _ hl⟩
  | .tup cs, u, h => by
    simp only [Conc] at h ⊢
    obtain ⟨us, hu, hl⟩ := h
    exact ⟨us, hu, ConcL.monoW hs cs _ hl⟩
  | .clo fn f c, u, h => by
    simp only [Conc] at h ⊢
    obtain ⟨uf, uc, hu, h1, h2⟩ := h
    exact ⟨uf, uc, hu, ConcL.monoW hs f _ h1, ConcL.monoW hs c _ h2⟩
  | .loc id i off, u, h => by
    simp only [Conc] at h ⊢
    cases hB : C.H[id]? with
    | none => rw [hB] at h; exact h.elim
    | some B =>
      rw [hB] at h
      have hr : B ≠ .resv := by rintro rfl; exact h
      obtain ⟨⟨B', hB', hr'⟩, h2⟩ := hs.ids id B hB hr
      rw [hB']
      cases B' with
      | dead =>
        cases B with
        | dead => exact h
        | resv => exact h.elim
        | obj o => exact h.elim
        | cells o1 n1 s1 e1 => obtain ⟨b, base, _, rfl⟩ := h; rfl
      | resv => exact (hr' rfl).elim
      | obj o =>
        obtain ⟨o', rfl⟩ := hs.objr id o B hB' hB hr
        exact h.elim
      | cells own' nil' sz' els' =>
        obtain ⟨own0, els0, rfl, _, _, hm⟩ := h2 _ _ _ _ hB'
        obtain ⟨b, base, h3, h4⟩ := h
        exact ⟨b, base, hm.trans h3, h4⟩
  | .lsl id i len, u, h => by
    simp only [Conc] at h ⊢
    cases hB : C.H[id]? with
    | none => rw [hB] at h; exact h.elim
    | some B =>
      rw [hB] at h
      have hr : B ≠ .resv := by rintro rfl; exact h
      obtain ⟨⟨B', hB', hr'⟩, h2⟩ := hs.ids id B hB hr
      rw [hB']
      cases B' with
      | dead =>
        cases B with
        | dead => exact h
        | resv => exact h.elim
        | obj o => exact h.elim
        | cells o1 n1 s1 e1 =>
          rcases h with ⟨_, _, _, _, rfl⟩ | ⟨_, _, _, a, o, rfl⟩ | ⟨_, b, base, cap, c, e, f, _, _, rfl, _⟩ <;> rfl
      | resv => exact (hr' rfl).elim
      | obj o =>
        obtain ⟨o', rfl⟩ := hs.objr id o B hB' hB hr
        exact h.elim
      | cells own' nil' sz' els' =>
        obtain ⟨own0, els0, rfl, hl, _, hm⟩ := h2 _ _ _ _ hB'
        rcases h with ⟨h1, h3, h4⟩ | ⟨h1, h3, h4, h5⟩ | ⟨hn, b, base, cap, c, e, f, h3, h4, h5, h6, h7, h8⟩
        · exact .inl ⟨h1, by omega, h4⟩
        · exact .inr (.inl ⟨h1, h3, by omega, h5⟩)
        · obtain ⟨c', f', hc', hsz⟩ := hs.grow b c e f h4
          refine .inr (.inr ?_)
          exact ⟨hn, b, base, cap, c', e, f', hm.trans h3, hc', h5, by omega, h7, by omega⟩
  | .mp id, u, h => by
    simp only [Conc] at h ⊢
    cases hB : C.H[id]? with
    | none => rw [hB] at h; exact h.elim
    | some B =>
      rw [hB] at h
      cases B with
      | obj o =>
        obtain ⟨o', h1, h2, h3⟩ := hs.objs id o hB
        rw [h1, h2]
        obtain ⟨b, h4, h5⟩ := h
        exact ⟨b, h4, h5.trans (Ob.val_key h3).symm⟩
      | _ => exact h.elim
theorem ConcL.monoW (hs : StepW C C') : ∀ (l : List AV) (us : List Value), ConcL C l us → ConcL C' l us
  | [], _, h => h
  | a :: l, us, h => by
    simp only [ConcL] at h ⊢
    obtain ⟨u, us', hu, h1, h2⟩ := h
    exact ⟨u, us', hu, Conc.monoW hs a u h1, ConcL.monoW hs l us' h2⟩
theorem CellsAt.monoW (hs : StepW C C') : ∀ (l : List AV) (b off : Nat), IsCells C.w b → ¬ C.bad b → CellsAt C b off l → CellsAt C' b off l
  | [], _, _, _, _, _ => trivial
  | c :: cs, b, off, hb, hn, h => by
    simp only [CellsAt] at h ⊢
    obtain ⟨⟨u, hu, h1, h2, h3⟩, h4⟩ := h
    exact ⟨⟨u, (StepW.cell_ hs hb hn).trans hu, h1, h2, Conc.monoW hs c u h3⟩, CellsAt.monoW hs cs b (off + 1) hb hn h4⟩
theorem RowsAt.monoW (hs : StepW C C') : ∀ (l : List (List AV)) (b base sz : Nat), IsCells C.w b → ¬ C.bad b → RowsAt C b base sz l → RowsAt C' b base sz l
  | [], _, _, _, _, _, _ => trivial
  | r :: rs, b, base, sz, hb, hn, h => by
    simp only [RowsAt] at h ⊢
    exact ⟨h.1, CellsAt.monoW hs r b base hb hn h.2.1, RowsAt.monoW hs rs b (base + sz) sz hb hn h.2.2⟩
end
theorem Conc.mono (hs : Step C C') (v : AV) (u : Value) (h : Conc C v u) : Conc C' v u := Conc.monoW hs.toW v u h
theorem ConcL.mono (hs : Step C C') (l : List AV) (us : List Value) (h : ConcL C l us) : ConcL C' l us := ConcL.monoW hs.toW l us h
end mono

/-- rows in a block that is kept as it was, whatever the block -/
theorem CellsAt.keepW {C C' : Ctx} (hs : StepW C C') : ∀ (l : List AV) (b off : Nat), (∀ o, off ≤ o → o < off + l.length → C'.w.cell? ⟨b, o, none⟩ = C.w.cell? ⟨b, o, none⟩) → CellsAt C b off l → CellsAt C' b off l
  | [], _, _, _, _ => trivial
  | c :: cs, b, off, hk, h => by
    simp only [CellsAt] at h ⊢
    obtain ⟨⟨u, hu, h1, h2, h3⟩, h4⟩ := h
    exact ⟨⟨u, (hk off (Nat.le_refl _) (by simp)).trans hu, h1, h2, Conc.monoW hs c u h3⟩, CellsAt.keepW hs cs b (off + 1) (fun o ho hl => hk o (by omega) (by simp at hl ⊢; omega)) h4⟩
theorem RowsAt.keepW {C C' : Ctx} (hs : StepW C C') : ∀ (l : List (List AV)) (b base sz : Nat), (∀ o, base ≤ o → o < base + l.length * sz → C'.w.cell? ⟨b, o, none⟩ = C.w.cell? ⟨b, o, none⟩) → RowsAt C b base sz l → RowsAt C' b base sz l
  | [], _, _, _, _, _ => trivial
  | r :: rs, b, base, sz, hk, h => by
    simp only [RowsAt] at h ⊢
    have hl : (r :: rs).length * sz = rs.length * sz + sz := by simp [Nat.add_mul]
    refine ⟨h.1, CellsAt.keepW hs r b base (fun o h1 h2 => hk o h1 (by rw [hl]; omega)) h.2.1, RowsAt.keepW hs rs b (base + sz) sz (fun o h1 h2 => hk o (by omega) (by rw [hl]; omega)) h.2.2⟩

theorem CellsAt.keep {C C' : Ctx} (hs : Step C C') (l : List AV) (b off : Nat) (h : ∀ o, off ≤ o → o < off + l.length → C'.w.cell? ⟨b, o, none⟩ = C.w.cell? ⟨b, o, none⟩) (hc : CellsAt C b off l) : CellsAt C' b off l := CellsAt.keepW hs.toW l b off h hc
theorem RowsAt.keep {C C' : Ctx} (hs : Step C C') (l : List (List AV)) (b base sz : Nat) (h : ∀ o, base ≤ o → o < base + l.length * sz → C'.w.cell? ⟨b, o, none⟩ = C.w.cell? ⟨b, o, none⟩) (hc : RowsAt C b base sz l) : RowsAt C' b base sz l := RowsAt.keepW hs.toW l b base sz h hc

theorem HeapRel.notown {C : Ctx} (hR : HeapRel C) {b : Nat} (hp : C.prot b) : ¬ C.own b := by
  rintro (⟨id, nil, sz, els, base, h1, h2⟩ | ⟨id, o, h1, h2, h3⟩)
  · rcases hR.blk id true nil sz els h1 with ⟨h, _⟩ | ⟨_, b', base', c, e, h3, h4, _⟩
    · rw [h2] at h; simp at h
    · rw [h2] at h3; simp at h3; exact h4 (h3.1 ▸ hp)
  · obtain ⟨b', x, h4, h5, _⟩ := hR.obj id o h1 h2
    rw [h3] at h4; simp at h4; exact h5 (h4 ▸ hp)
/-- package-level variables hold what they held -/
theorem HeapRel.glS {C C' : Ctx} (hR : HeapRel C) (hs : Step C C') : ∀ p ∈ globs, C'.prot p.1 ∧ ∃ c e f, C'.w.heap[p.1]? = some (.cells c e f) ∧ p.2 c := fun p hp => by
  obtain ⟨h1, h2⟩ := hR.gl p hp
  refine ⟨by rw [hs.prot]; exact h1, ?_⟩
  rw [hs.blk p.1 (hR.prot p.1 h1) (hR.notown h1)]
  exact h2
/-! lists -/
theorem ConcL.length {C : Ctx} : ∀ {l : List AV} {us : List Value}, ConcL C l us → us.length = l.length
  | [], _, h => by simp only [ConcL] at h; subst h; rfl
  | a :: l, us, h => by
    simp only [ConcL] at h
    obtain ⟨u, us', rfl, _, h2⟩ := h
    simp [ConcL.length h2]
theorem ConcL.get {C : Ctx} : ∀ {l : List AV} {us : List Value}, ConcL C l us → ∀ {i : Nat} {v : AV}, l[i]? = some v → ∃ u, us[i]? = some u ∧ Conc C v u
  | [], _, _, i, v, hv => by simp at hv
  | a :: l, us, h, i, v, hv => by
    simp only [ConcL] at h
    obtain ⟨u, us', rfl, h1, h2⟩ := h
    cases i with
    | zero => simp at hv; subst hv; exact ⟨u, by simp, h1⟩
    | succ i => simp at hv ⊢; exact ConcL.get h2 hv
theorem ConcL.take {C : Ctx} : ∀ {l : List AV} {us : List Value}, ConcL C l us → ∀ n, ConcL C (l.take n) (us.take n)
  | [], _, h, n => by simp only [ConcL] at h; subst h; simp [ConcL]
  | a :: l, us, h, n => by
    simp only [ConcL] at h
    obtain ⟨u, us', rfl, h1, h2⟩ := h
    cases n with
    | zero => simp [ConcL]
    | succ n => simp only [List.take_succ_cons, ConcL]; exact ⟨u, _, rfl, h1, ConcL.take h2 n⟩
theorem ConcL.drop {C : Ctx} : ∀ {l : List AV} {us : List Value}, ConcL C l us → ∀ n, ConcL C (l.drop n) (us.drop n)
  | [], _, h, n => by simp only [ConcL] at h; subst h; simp [ConcL]
  | a :: l, us, h, n => by
    have h' := h
    simp only [ConcL] at h
    obtain ⟨u, us', rfl, h1, h2⟩ := h
    cases n with
    | zero => exact h'
    | succ n => simp only [List.drop_succ_cons]; exact ConcL.drop h2 n
theorem ConcL.append {C : Ctx} : ∀ {l l' : List AV} {us us' : List Value}, ConcL C l us → ConcL C l' us' → ConcL C (l ++ l') (us ++ us')
  | [], _, us, us', h, k => by simp only [ConcL] at h; subst h; simpa using k
  | a :: l, l', us, us', h, k => by
    simp only [ConcL] at h
    obtain ⟨u, us1, rfl, h1, h2⟩ := h
    simp only [List.cons_append, ConcL]
    exact ⟨u, _, rfl, h1, ConcL.append h2 k⟩
theorem ConcL.map {C : Ctx} {α : Type} (f : α → AV) (g : α → Value) : ∀ (l : List α), (∀ x ∈ l, Conc C (f x) (g x)) → ConcL C (l.map f) (l.map g)
  | [], _ => by simp [ConcL]
  | a :: l, h => by
    simp only [List.map_cons, ConcL]
    exact ⟨g a, _, rfl, h a (by simp), ConcL.map f g l (fun x hx => h x (by simp [hx]))⟩

theorem conc_ofValue (C : Ctx) (v : Value) : Conc C (ofValue v) v := by
  unfold ofValue
  split
  · simp [Conc]
  · simp [Conc]
theorem concL_ofValue (C : Ctx) : ∀ l : List Value, ConcL C (l.map ofValue) l
  | [] => by simp [ConcL]
  | a :: l => by simp only [List.map_cons, ConcL]; exact ⟨a, l, rfl, conc_ofValue C a, concL_ofValue C l⟩
theorem toLits_spec {C : Ctx} : ∀ {cs : List AV} {vs us : List Value}, toLits cs = some vs → ConcL C cs us → us = vs
  | [], vs, us, h, k => by simp only [toLits, Option.some.injEq] at h; simp only [ConcL] at k; rw [← h, k]
  | .lit v :: r, vs, us, h, k => by
    simp only [toLits, Option.map_eq_some_iff] at h
    obtain ⟨vs', h1, rfl⟩ := h
    simp only [ConcL, Conc] at k
    obtain ⟨u, us', rfl, rfl, k2⟩ := k
    rw [toLits_spec h1 k2]
  | .sl .. :: r, vs, us, h, k => by simp [toLits] at h
  | .emp :: r, vs, us, h, k => by simp [toLits] at h
  | .adr .. :: r, vs, us, h, k => by simp [toLits] at h
  | .agg .. :: r, vs, us, h, k => by simp [toLits] at h
  | .tup .. :: r, vs, us, h, k => by simp [toLits] at h
  | .loc .. :: r, vs, us, h, k => by simp [toLits] at h
  | .lsl .. :: r, vs, us, h, k => by simp [toLits] at h
  | .clo .. :: r, vs, us, h, k => by simp [toLits] at h
  | .mp .. :: r, vs, us, h, k => by simp [toLits] at h
  | .top :: r, vs, us, h, k => by simp [toLits] at h
  | .top1 :: r, vs, us, h, k => by simp [toLits] at h
  | .err :: r, vs, us, h, k => by simp [toLits] at h
theorem conc_mkAgg {C : Ctx} {cs : List AV} {us : List Value} (h : ConcL C cs us) : Conc C (mkAgg cs) (.agg us.toArray) := by
  unfold mkAgg
  split
  · rename_i vs hv
    have := toLits_spec hv h
    subst this
    simp [Conc]
  · simp only [Conc]; exact ⟨us.toArray, rfl, by simpa using h⟩

theorem cells_of_one {u : Value} (h : u.oneCell' = true) : u.cells.toList = [u] := by
  cases u <;> first | (simp [Value.oneCell'] at h; done) | rfl
theorem Conc.one_loc {C : Ctx} {id i off : Nat} {u : Value} (h : Conc C (.loc id i off) u) : u.oneCell' = true := by
  simp only [Conc] at h
  split at h
  · exact h
  · obtain ⟨b, base, _, rfl⟩ := h; rfl
  · exact h.elim
theorem Conc.one_lsl {C : Ctx} {id i len : Nat} {u : Value} (h : Conc C (.lsl id i len) u) : u.oneCell' = true := by
  simp only [Conc] at h
  split at h
  · exact h
  · rcases h with ⟨_, _, _, _, rfl⟩ | ⟨_, _, _, a, o, rfl⟩ | ⟨_, b, base, cap, c, e, f, _, _, rfl, _⟩ <;> rfl
  · exact h.elim
theorem Conc.one_mp {C : Ctx} {id : Nat} {u : Value} (h : Conc C (.mp id) u) : u.oneCell' = true := by
  simp only [Conc] at h
  split at h
  · rename_i o _
    obtain ⟨b, _, rfl⟩ := h
    cases o <;> rfl
  · exact h.elim
theorem Conc.one {C : Ctx} : ∀ {v : AV} {u : Value}, Conc C v u → isOne v = true → u.oneCell' = true
  | .lit x, u, h, h1 => by simp only [Conc] at h; subst h; cases u <;> first | rfl | (simp [isOne] at h1)
  | .sl .., u, h, _ => by simp only [Conc] at h; rcases h with ⟨_, _, rfl⟩ | ⟨_, b, base, cap, rfl, _⟩ | ⟨_, _, a, rfl⟩ <;> rfl
  | .emp, u, h, _ => by simp only [Conc] at h; obtain ⟨a, rfl⟩ := h; rfl
  | .adr .., u, h, _ => by simp only [Conc] at h; obtain ⟨b, base, rfl, _⟩ := h; rfl
  | .loc .., u, h, _ => Conc.one_loc h
  | .lsl .., u, h, _ => Conc.one_lsl h
  | .mp .., u, h, _ => Conc.one_mp h
  | .clo .., u, h, _ => by simp only [Conc] at h; obtain ⟨f, c, rfl, _⟩ := h; rfl
  | .agg .., _, _, h1 => by simp [isOne] at h1
  | .tup .., _, _, h1 => by simp [isOne] at h1
  | .top, _, _, h1 => by simp [isOne] at h1
  | .top1, _, h, _ => h
  | .err, _, _, h1 => by simp [isOne] at h1

/-- the cells of a value -/
theorem conc_parts {C : Ctx} {v : AV} {u : Value} (h : Conc C v u) (h1 : v.parts.all isOne = true) : ConcL C v.parts u.cells.toList := by
  cases v with
  | agg cs => simp only [Conc] at h; obtain ⟨us, rfl, hl⟩ := h; exact hl
  | lit x =>
    simp only [Conc] at h
    subst h
    cases u with
    | agg a => simp only [AV.parts, Value.cells]; exact concL_ofValue C _
    | _ => simp [AV.parts, Value.cells, ConcL, Conc]
  | tup _ => simp [AV.parts, isOne] at h1
  | top => simp [AV.parts, isOne] at h1
  | err => simp [AV.parts, isOne] at h1
  | top1 => simp only [AV.parts, ConcL]; exact ⟨u, [], by rw [cells_of_one h], h, rfl⟩
  | sl nil sz els =>
    have h' := h
    simp only [Conc] at h
    simp only [AV.parts, ConcL]
    rcases h with ⟨_, _, rfl⟩ | ⟨_, b, base, cap, rfl, _⟩ | ⟨_, _, a, rfl⟩
    · exact ⟨_, [], by simp [Value.cells], h', rfl⟩
    · exact ⟨_, [], by simp [Value.cells], h', rfl⟩
    · exact ⟨_, [], by simp [Value.cells], h', rfl⟩
  | emp => have h' := h; simp only [Conc] at h; obtain ⟨a, rfl⟩ := h; simp only [AV.parts, ConcL]; exact ⟨_, [], by simp [Value.cells], h', rfl⟩
  | adr sz els i off => have h' := h; simp only [Conc] at h; obtain ⟨b, base, rfl, _⟩ := h; simp only [AV.parts, ConcL]; exact ⟨_, [], by simp [Value.cells], h', rfl⟩
  | clo fn f c => have h' := h; simp only [Conc] at h; obtain ⟨uf, uc, rfl, _⟩ := h; simp only [AV.parts, ConcL]; exact ⟨_, [], by simp [Value.cells], h', rfl⟩
  | loc id i off =>
    have h' := h
    have : u.oneCell' = true := Conc.one_loc h
    simp only [AV.parts, ConcL]
    exact ⟨u, [], by rw [cells_of_one this], h', rfl⟩
  | lsl id i len =>
    have h' := h
    have : u.oneCell' = true := Conc.one_lsl h
    simp only [AV.parts, ConcL]
    exact ⟨u, [], by rw [cells_of_one this], h', rfl⟩
  | mp id =>
    have h' := h
    have : u.oneCell' = true := Conc.one_mp h
    simp only [AV.parts, ConcL]
    exact ⟨u, [], by rw [cells_of_one this], h', rfl⟩

end Go.Abs
/- Operations that leave the world alone: from Go's to ours, and that ours is true. -/
namespace Go.Abs
open Go.RowKit

def hget (H : List Blk) (id : Nat) : Blk := (H[id]?).getD .resv
theorem hget_cells {H : List Blk} {id : Nat} {own nil : Bool} {sz : Nat} {els : List (List AV)} (h : hget H id = .cells own nil sz els) : H[id]? = some (.cells own nil sz els) := by
  unfold hget at h
  cases hb : H[id]? with
  | none => rw [hb] at h; simp at h
  | some b => rw [hb] at h; simp at h; rw [h]

def opd : Operand → Opd
  | .tmp t => .tmp t
  | .const v => .val (ofValue v)
  | .global g => .val (.lit (.pointer (some ⟨g, 0, none⟩)))
  | .func f => .val (.lit (.func (.func f) #[] #[]))

def aggD : TypeDesc → Bool
  | .struct _ | .array _ _ => true
  | _ => false
def isAggT (P : Program) (t : TypeId) : Option Bool := (P.underlying t).map aggD
def sizeT (P : Program) (t : TypeId) : Option Nat := (P.info? t).map (·.size)
def bytesT (P : Program) (t : TypeId) : Option Nat := (P.info? t).map (·.bytes)
def zeroT (P : Program) (t : TypeId) : Option (List AV) := (P.info? t).bind fun i => i.zero.map fun z => z.cells.toList.map ofValue

def kindsFs (k : TypeId → Option (List CK)) (P : Program) : List Field → Nat → Option (List CK)
  | [], _ => some []
  | f :: fs, off =>
    if f.name = "_" ∨ f.offset ≠ off then none else
    (k f.type).bind fun a => if sizeT P f.type = some a.length then (kindsFs k P fs (off + a.length)).map (a ++ ·) else none
def kindsOf (P : Program) : Nat → TypeId → Option (List CK)
  | 0, _ => none
  | d + 1, t => match P.underlying t with
    | some (.int _) => some [.ci]
    | some .string => some [.cs]
    | some .bool => some [.cb]
    | some (.struct fs) => if P.stoodInHeld t then none else kindsFs (kindsOf P d) P fs.toList 0
    | some (.array n e) => (kindsOf P d e).bind fun a => if sizeT P e = some a.length then some (List.replicate n a).flatten else none
    | _ => none

structure Slots (C : Ctx) (s : Nat → AV) (a : Act) : Prop where
  at_ : ∀ t, Conc C (s t) (a.tmps.getD t undef)

theorem Slots.ev {C : Ctx} {s : Nat → AV} {a : Act} (h : Slots C s a) : ∀ x : Operand, Conc C (Abs.ev s (opd x)) (a.eval x)
  | .tmp t => h.at_ t
  | .const v => conc_ofValue C v
  | .global g => by simp [opd, Abs.ev, Conc, Act.eval]
  | .func f => by simp [opd, Abs.ev, Conc, Act.eval]

def writes (H : List Blk) : List (Nat × Blk) → List Blk
  | [] => H
  | (i, b) :: r => writes (H.set i b) r

/-- what one operation is worth -/
def OpOk (P : Program) (C : Ctx) (a : Act) (o : Oper) (v : AV) (ws : List (Nat × Blk)) : Prop :=
  ∃ u w' m', ((execOp a.eval o).run P C.w = .ok (.value u) w' ∨ ((execOp a.eval o).run P C.w = .ok .skip w' ∧ u = undef)) ∧
    Step C ⟨writes C.H ws, m', w', C.prot⟩ ∧ HeapRel ⟨writes C.H ws, m', w', C.prot⟩ ∧ Conc ⟨writes C.H ws, m', w', C.prot⟩ v u

theorem OpOk.same {P : Program} {C : Ctx} {a : Act} {o : Oper} {v : AV} {u : Value} (hR : HeapRel C) (h : (execOp a.eval o).run P C.w = .ok (.value u) C.w) (hc : Conc C v u) : OpOk P C a o v [] :=
  ⟨u, C.w, C.m, .inl h, Step.refl C, hR, hc⟩

section
variable {P : Program} {C : Ctx} {s : Nat → AV} {a : Act} {o : Oper} {v : AV} {ws : List (Nat × Blk)} {fr : Nat}

theorem Slots.lit (hS : Slots C s a) {x : Operand} {u : Value} (h : Abs.ev s (opd x) = .lit u) : a.eval x = u := by
  have := hS.ev x
  rw [h] at this
  simpa [Conc] using this

theorem ok_mv (hR : HeapRel C) (hS : Slots C s a) {x : Operand} (ho : o.op = .move x ∨ o.op = .assign x) (h : aop fr s (hget C.H) (.mv (opd x)) = some (v, ws)) : OpOk P C a o v ws := by
  simp only [aop, Option.some.injEq, Prod.mk.injEq] at h
  obtain ⟨rfl, rfl⟩ := h
  refine OpOk.same hR (u := a.eval x) ?_ (hS.ev x)
  rcases ho with ho | ho <;> simp [execOp, ho]

theorem ok_pick (hR : HeapRel C) (hS : Slots C s a) {c x y : Operand} (ho : o.op = .pick c x y) (h : aop fr s (hget C.H) (.pick (opd c) (opd x) (opd y)) = some (v, ws)) : OpOk P C a o v ws := by
  simp only [aop] at h
  have hx := hS.ev x
  have hy := hS.ev y
  split at h
  · rename_i b vx vy h1 h2 h3
    simp only [Option.some.injEq, Prod.mk.injEq] at h
    obtain ⟨rfl, rfl⟩ := h
    have hc := hS.lit h1
    rw [h2] at hx; rw [h3] at hy
    simp only [Conc] at hx hy
    refine OpOk.same hR (u := if b then vx else vy) ?_ (by simp [Conc])
    simp [execOp, ho, hc, asBool, hx, hy]
  · rename_i b h1 _
    simp only [Option.some.injEq, Prod.mk.injEq] at h
    obtain ⟨rfl, rfl⟩ := h
    have hc := hS.lit h1
    refine OpOk.same hR (u := if b then a.eval x else a.eval y) ?_ ?_
    · simp [execOp, ho, hc, asBool]
    · cases b <;> simp [hx, hy]
  · simp at h

theorem run_binV {op : BinOp} {t : TypeId} {x y r : Value} {w : World} (h : binV op x y = some r) : (binOp op t x y).run P w = .ok r w := by
  unfold binV at h
  split at h
  · rename_i k a k' b
    split at h
    · rename_i hop
      subst hop
      split at h
      · simp at h
      · rename_i hb
        simp only [Option.some.injEq] at h
        subst h
        simp [binOp, Op.shift, hb]
    split at h
    · rename_i hop
      subst hop
      split at h
      · simp at h
      · rename_i hb
        simp only [Option.some.injEq] at h
        subst h
        simp [binOp, Op.shift, hb]
    split at h
    · rename_i hk
      subst hk
      cases op <;> simp at h <;> first
        | (subst h; simp [binOp, Op.intArith, Op.intCmp, Op.intBits]; done)
        | (obtain ⟨hb, rfl⟩ := h; simp [binOp, Op.intDiv, hb])
    · simp at h
  · rename_i a b
    cases op <;> simp at h <;> first
      | (subst h; simp [binOp, Op.stringOp]; done)
      | (obtain ⟨hb, rfl⟩ := h; simp only [binOp, Op.stringOp]; rw [if_neg (by push_cast; intro h'; exact absurd hb (by simpa using h'))]; rfl)
  · simp at h

theorem eqGuard_bin {op : BinOp} {t : TypeId} {x y : Operand} {p q r : Value} {w : World} (h : binV op p q = some r) : (eqGuard op t x y p q).run P w = .ok () w := by
  unfold binV at h
  split at h
  · cases op <;> simp [eqGuard]
  · cases op <;> simp [eqGuard]
  · simp at h

theorem ok_bin (hR : HeapRel C) (hS : Slots C s a) {op : BinOp} {t ty : TypeId} {x y : Operand} (ho : o.op = .binOp op t x y ty) (h : aop fr s (hget C.H) (.bin op (opd x) (opd y)) = some (v, ws)) : OpOk P C a o v ws := by
  simp only [aop] at h
  split at h
  · rename_i p q h1 h2
    simp only [Option.map_eq_some_iff, Prod.mk.injEq] at h
    obtain ⟨r, hr, rfl, rfl⟩ := h
    refine OpOk.same hR (u := r) ?_ (by simp [Conc])
    simp [execOp, ho, hS.lit h1, hS.lit h2, run_binV hr, eqGuard_bin hr]
  · simp at h

theorem ok_eqBool (hR : HeapRel C) (hS : Slots C s a) {neq : Bool} {t ty : TypeId} {x y : Operand} (ho : o.op = .binOp (if neq then .neq else .eql) t x y ty) (ht : P.underlying t = some .bool)
    (h : aop fr s (hget C.H) (.eqBool neq (opd x) (opd y)) = some (v, ws)) : OpOk P C a o v ws := by
  simp only [aop] at h
  split at h
  · rename_i p q h1 h2
    simp only [Option.some.injEq, Prod.mk.injEq] at h
    obtain ⟨rfl, rfl⟩ := h
    refine OpOk.same hR (u := .bool (if neq then !(p == q) else p == q)) ?_ (by simp [Conc, boolV])
    have e := run_equalIn_bool' (P := P) C.w 9999 t p q ht
    cases neq
    · simp only [execOp, ho, hS.lit h1, hS.lit h2, eqGuard]
      simp [show ∀ w : World, (binOp .eql t (.bool p) (.bool q)).run P w = .ok (.bool (p == q)) w from fun w => by
        simp only [binOp]; simp [Op.equal, Op.maxDepth, run_equalIn_bool' (P := P) w 9999 t p q ht]]
    · simp only [execOp, ho, hS.lit h1, hS.lit h2, eqGuard]
      simp [show ∀ w : World, (binOp .neq t (.bool p) (.bool q)).run P w = .ok (.bool (!(p == q))) w from fun w => by
        simp only [binOp]; simp [Op.equal, Op.maxDepth, run_equalIn_bool' (P := P) w 9999 t p q ht]]
  · simp at h

theorem ok_neg (hR : HeapRel C) (hS : Slots C s a) {t : TypeId} {x : Operand} (ho : o.op = .unOp .neg t x) (h : aop fr s (hget C.H) (.neg (opd x)) = some (v, ws)) : OpOk P C a o v ws := by
  simp only [aop] at h
  split at h
  · rename_i k n h1
    simp only [Option.some.injEq, Prod.mk.injEq] at h
    obtain ⟨rfl, rfl⟩ := h
    exact OpOk.same hR (u := .int k (k.wrap (0 - n))) (by simp [execOp, ho, hS.lit h1, Op.unary, Op.intArith]) (by simp [Conc])
  · simp at h
theorem ok_not (hR : HeapRel C) (hS : Slots C s a) {t : TypeId} {x : Operand} (ho : o.op = .unOp .not t x) (h : aop fr s (hget C.H) (.not (opd x)) = some (v, ws)) : OpOk P C a o v ws := by
  simp only [aop] at h
  split at h
  · rename_i b h1
    simp only [Option.some.injEq, Prod.mk.injEq] at h
    obtain ⟨rfl, rfl⟩ := h
    exact OpOk.same hR (u := .bool (!b)) (by simp [execOp, ho, hS.lit h1, Op.unary]) (by simp [Conc, boolV])
  · simp at h
theorem ok_cvInt (hR : HeapRel C) (hS : Slots C s a) {src dst : TypeId} {d : TypeDesc} {k : IntKind} {x : Operand} (ho : o.op = .convert src dst x) (h1 : P.underlying src = some d) (h2 : P.underlying dst = some (.int k))
    (h : aop fr s (hget C.H) (.cvInt k (opd x)) = some (v, ws)) : OpOk P C a o v ws := by
  simp only [aop] at h
  split at h
  · rename_i k' n h3
    simp only [Option.some.injEq, Prod.mk.injEq] at h
    obtain ⟨rfl, rfl⟩ := h
    exact OpOk.same hR (u := .int k (k.wrap n)) (by simp [execOp, ho, hS.lit h3, convert, run_underlying h1, run_underlying h2, Conv.intToInt]) (by simp [Conc])
  · simp at h
theorem ok_cvStr (hR : HeapRel C) (hS : Slots C s a) {src dst : TypeId} {x : Operand} (ho : o.op = .convert src dst x) (h1 : P.underlying src = some .string) (h2 : P.underlying dst = some .string)
    (h : aop fr s (hget C.H) (.cvStr (opd x)) = some (v, ws)) : OpOk P C a o v ws := by
  simp only [aop] at h
  split at h
  · rename_i b h3
    simp only [Option.some.injEq, Prod.mk.injEq] at h
    obtain ⟨rfl, rfl⟩ := h
    exact OpOk.same hR (u := .string b) (by simp [execOp, ho, hS.lit h3, convert, run_underlying h1, run_underlying h2]) (by simp [Conc])
  · simp at h
theorem ok_ext (hR : HeapRel C) (hS : Slots C s a) {i : Nat} {x : Operand} (ho : o.op = .extract x i) (h : aop fr s (hget C.H) (.ext (opd x) i) = some (v, ws)) : OpOk P C a o v ws := by
  simp only [aop] at h
  have hx := hS.ev x
  split at h
  · rename_i vs h1
    simp only [Option.map_eq_some_iff, Prod.mk.injEq] at h
    obtain ⟨r, hr, rfl, rfl⟩ := h
    rw [h1] at hx
    simp only [Conc] at hx
    obtain ⟨us, hu, hl⟩ := hx
    obtain ⟨u, h2, h3⟩ := hl.get hr
    exact OpOk.same hR (u := u) (by simp [execOp, ho, hu, Instr.extract, show us[i]? = some u by simpa using h2]) h3
  · simp at h

/-- a value that is made of cells -/
theorem conc_value {n off : Nat} {isAgg : Bool} {cs : List AV} {us : List Value} (hl : ConcL C cs us) (hv : value n isAgg (cut cs off n) = some v) :
    (isAgg = true ∧ Conc C v (.agg ((us.drop off).take n).toArray) ∧ ((us.drop off).take n).length = n) ∨ (isAgg = false ∧ ∃ u, us[off]? = some u ∧ Conc C v u) := by
  unfold value at hv
  split at hv
  · rename_i hn
    have hc : ConcL C (cut cs off n) ((us.drop off).take n) := (hl.drop off).take n
    cases isAgg with
    | true =>
      simp only [if_true, Option.some.injEq] at hv
      subst hv
      exact .inl ⟨rfl, conc_mkAgg hc, by rw [hc.length, hn]⟩
    | false =>
      simp only [Bool.false_eq_true, if_false] at hv
      split at hv
      · rename_i c hcc
        simp only [Option.some.injEq] at hv
        subst hv
        rw [hcc] at hc hn
        have hn1 : n = 1 := by simpa using hn.symm
        subst hn1
        simp only [ConcL] at hc
        obtain ⟨u, us', hu, h1, rfl⟩ := hc
        refine .inr ⟨rfl, u, ?_, h1⟩
        have : ((us.drop off).take 1)[0]? = some u := by rw [hu]; rfl
        simpa [List.getElem?_take, List.getElem?_drop] using this
      · simp at hv
  · simp at hv

theorem run_part {t : TypeId} {cs : Array Value} {off n : Nat} {isAgg : Bool} {w : World} {u : Value} (h1 : isAggT P t = some isAgg) (h2 : sizeT P t = some n)
    (h : (isAgg = true ∧ u = .agg ((cs.toList.drop off).take n).toArray) ∨ (isAgg = false ∧ cs.toList[off]? = some u)) : (part t cs off).run P w = .ok u w := by
  unfold isAggT at h1
  unfold sizeT at h2
  simp only [Option.map_eq_some_iff] at h1 h2
  obtain ⟨d, hd, h1⟩ := h1
  obtain ⟨i, hi, h2⟩ := h2
  have hs : (Go.isAgg t).run P w = .ok isAgg w := by
    simp only [Go.isAgg, Sem.run_bind, run_underlying hd, Result.andThen_ok]
    rw [← h1]
    cases d <;> rfl
  simp only [part, Sem.run_bind, hs, Result.andThen_ok]
  rcases h with ⟨rfl, rfl⟩ | ⟨rfl, h⟩
  · simp only [if_true, Sem.run_bind, sizeOf, typeInfo, run_program, hi, Result.andThen_ok, Sem.run_pure, h2]
    congr 2
    rw [← Array.toList_inj]
    simp [List.take_drop]
  · have : cs[off]? = some u := by simpa using h
    simp [this]

theorem ok_fld (hR : HeapRel C) (hS : Slots C s a) {t : TypeId} {f : Nat} {x : Operand} {fs : Array Field} {fd : Field} {n : Nat} {isAgg : Bool} (ho : o.op = .field t x f) (ht : P.underlying t = some (.struct fs)) (hf : fs[f]? = some fd)
    (h1 : isAggT P fd.type = some isAgg) (h2 : sizeT P fd.type = some n) (h : aop fr s (hget C.H) (.fld fd.offset n isAgg (opd x)) = some (v, ws)) : OpOk P C a o v ws := by
  have key : ∀ (us : Array Value) (cs : List AV), a.eval x = .agg us → ConcL C cs us.toList → value n isAgg (cut cs fd.offset n) = some v → OpOk P C a o v [] := by
    intro us cs hu hl hv
    rcases conc_value hl hv with ⟨hi, hc, _⟩ | ⟨hi, u, hu', hc⟩
    · refine OpOk.same hR ?_ hc
      simp [execOp, ho, Instr.field, hu, run_underlying ht, hf, asAgg, run_part (w := C.w) (u := .agg ((us.toList.drop fd.offset).take n).toArray) h1 h2 (.inl ⟨hi, rfl⟩)]
    · refine OpOk.same hR ?_ hc
      simp [execOp, ho, Instr.field, hu, run_underlying ht, hf, asAgg, run_part (w := C.w) (u := u) h1 h2 (.inr ⟨hi, hu'⟩)]
  simp only [aop] at h
  have hx := hS.ev x
  split at h
  · rename_i cs hc
    simp only [Option.map_eq_some_iff, Prod.mk.injEq] at h
    obtain ⟨r, hr, rfl, rfl⟩ := h
    rw [hc] at hx
    simp only [Conc] at hx
    obtain ⟨us, hu, hl⟩ := hx
    exact key us cs hu hl hr
  · rename_i us hc
    simp only [Option.map_eq_some_iff, Prod.mk.injEq] at h
    obtain ⟨r, hr, rfl, rfl⟩ := h
    exact key us _ (hS.lit hc) (concL_ofValue C _) hr
  · simp at h

theorem run_idx {t e : TypeId} {len n : Nat} {isAgg : Bool} {w : World} {us : Array Value} {k : IntKind} {i : Int} {u : Value} (ht : P.underlying t = some (.array len e)) (h1 : isAggT P e = some isAgg) (h2 : sizeT P e = some n) (hi : 0 ≤ i ∧ i < len)
    (h : (isAgg = true ∧ u = .agg ((us.toList.drop (i.toNat * n)).take n).toArray) ∨ (isAgg = false ∧ us.toList[i.toNat * n]? = some u)) : (Instr.index t (.agg us) (.int k i)).run P w = .ok u w := by
  have h2' := h2
  unfold sizeT at h2
  simp only [Option.map_eq_some_iff] at h2
  obtain ⟨inf, hinf, h2⟩ := h2
  simp [Instr.index, asIntOf, run_underlying ht, hi, sizeOf, typeInfo, hinf, h2, run_part (w := w) h1 h2' h]

theorem ok_idxA (hR : HeapRel C) (hS : Slots C s a) {t e : TypeId} {len n : Nat} {x i : Operand} {isAgg : Bool} (ho : o.op = .index t x i) (ht : P.underlying t = some (.array len e))
    (h1 : isAggT P e = some isAgg) (h2 : sizeT P e = some n) (h : aop fr s (hget C.H) (.idxA len n isAgg (opd x) (opd i)) = some (v, ws)) : OpOk P C a o v ws := by
  simp only [aop] at h
  split at h
  · rename_i k j hj
    split at h
    · rename_i hb
      have key : ∀ (us : Array Value) (cs : List AV), a.eval x = .agg us → ConcL C cs us.toList → value n isAgg (cut cs (j.toNat * n) n) = some v → OpOk P C a o v [] := by
        intro us cs hu hl hv
        rcases conc_value hl hv with ⟨hi, hc, _⟩ | ⟨hi, u, hu', hc⟩
        · refine OpOk.same hR ?_ hc
          simp [execOp, ho, hu, hS.lit hj, run_idx (w := C.w) (k := k) (us := us) (u := .agg ((us.toList.drop (j.toNat * n)).take n).toArray) ht h1 h2 hb (.inl ⟨hi, rfl⟩)]
        · refine OpOk.same hR ?_ hc
          simp [execOp, ho, hu, hS.lit hj, run_idx (w := C.w) (k := k) (us := us) (u := u) ht h1 h2 hb (.inr ⟨hi, hu'⟩)]
      have hx := hS.ev x
      split at h
      · rename_i cs hc
        simp only [Option.map_eq_some_iff, Prod.mk.injEq] at h
        obtain ⟨r, hr, rfl, rfl⟩ := h
        rw [hc] at hx
        simp only [Conc] at hx
        obtain ⟨us, hu, hl⟩ := hx
        exact key us cs hu hl hr
      · rename_i us hc
        simp only [Option.map_eq_some_iff, Prod.mk.injEq] at h
        obtain ⟨r, hr, rfl, rfl⟩ := h
        exact key us _ (hS.lit hc) (concL_ofValue C _) hr
      · simp at h
    · simp at h
  · simp at h

theorem ok_idxS (hR : HeapRel C) (hS : Slots C s a) {t : TypeId} {x i : Operand} (ho : o.op = .index t x i) (ht : P.underlying t = some .string)
    (h : aop fr s (hget C.H) (.idxS (opd x) (opd i)) = some (v, ws)) : OpOk P C a o v ws := by
  simp only [aop] at h
  split at h
  · rename_i b k n h1 h2
    split at h
    · rename_i hn
      simp only [Option.map_eq_some_iff, Prod.mk.injEq] at h
      obtain ⟨c, hc, rfl, rfl⟩ := h
      refine OpOk.same hR (u := .int .u8 c.toNat) ?_ (by simp [Conc])
      simp [execOp, ho, hS.lit h1, hS.lit h2, Instr.index, asIntOf, run_underlying ht, hn, hc]
    · simp at h
  · simp at h

theorem ok_mkf (hR : HeapRel C) (hS : Slots C s a) {fn : Fn} {first caps : Array Operand} (ho : o.op = .makeFunc fn first caps)
    (h : aop fr s (hget C.H) (.mkf fn (first.toList.map opd) (caps.toList.map opd)) = some (v, ws)) : OpOk P C a o v ws := by
  simp only [aop, Option.some.injEq, Prod.mk.injEq] at h
  obtain ⟨rfl, rfl⟩ := h
  refine OpOk.same hR (u := .func fn (first.map a.eval) (caps.map a.eval)) (by simp [execOp, ho, Instr.makeFunc]) ?_
  simp only [Conc, List.map_map]
  refine ⟨_, _, rfl, ?_, ?_⟩
  · rw [Array.toList_map]; exact ConcL.map _ _ _ fun x _ => hS.ev x
  · rw [Array.toList_map]; exact ConcL.map _ _ _ fun x _ => hS.ev x

theorem ok_minmax (hR : HeapRel C) (hS : Slots C s a) {mx : Bool} {args : Array Operand} {ts : Array TypeId} (ho : o.op = .call { callee := .builtin (if mx then .max else .min), args, argTypes := ts })
    (h : aop fr s (hget C.H) (.minmax mx (args.toList.map opd)) = some (v, ws)) : OpOk P C a o v ws := by
  obtain ⟨args⟩ := args
  simp only [aop, List.map_map] at h
  split at h
  · rename_i k p k' q hl
    obtain ⟨x, y, rfl⟩ : ∃ x y, args = [x, y] := by
      have : args.length = 2 := by simpa using congrArg List.length hl
      match args, this with | [x, y], _ => exact ⟨x, y, rfl⟩
    · simp only [List.map_cons, List.map_nil, Function.comp, List.cons.injEq, and_true] at hl
      split at h
      · rename_i hk
        subst hk
        simp only [Option.some.injEq, Prod.mk.injEq] at h
        obtain ⟨rfl, rfl⟩ := h
        refine OpOk.same hR (u := .int k (if mx then (if q > p then q else p) else (if q < p then q else p))) ?_ (by simp [Conc])
        cases mx <;> simp [execOp, ho, resolve, invoke, builtin, Builtin.min_, Builtin.max_, Builtin.min2, Builtin.max2, hS.lit hl.1, hS.lit hl.2]
      · simp at h
  · rename_i k p k' q k'' r hl
    obtain ⟨x, y, z, rfl⟩ : ∃ x y z, args = [x, y, z] := by
      have : args.length = 3 := by simpa using congrArg List.length hl
      match args, this with | [x, y, z], _ => exact ⟨x, y, z, rfl⟩
    · simp only [List.map_cons, List.map_nil, Function.comp, List.cons.injEq, and_true] at hl
      split at h
      · rename_i hk
        obtain ⟨rfl, rfl⟩ := hk
        simp only [Option.some.injEq, Prod.mk.injEq] at h
        obtain ⟨rfl, rfl⟩ := h
        refine OpOk.same hR ?_ (by simp only [Conc]; rfl)
        cases mx <;> simp [execOp, ho, resolve, invoke, builtin, Builtin.min_, Builtin.max_, Builtin.min2, Builtin.max2, hS.lit hl.1, hS.lit hl.2.1, hS.lit hl.2.2]
      · simp at h
  · simp at h

theorem ok_nilck (hR : HeapRel C) (hS : Slots C s a) {x : Operand} (ho : o.op = .nilCheck x) (h : aop fr s (hget C.H) (.nilck (opd x)) = some (v, ws)) : OpOk P C a o v ws := by
  simp only [aop] at h
  have hx := hS.ev x
  split at h
  · rename_i id i off hc
    split at h
    · rename_i hl
      simp only [Option.some.injEq, Prod.mk.injEq] at h
      obtain ⟨rfl, rfl⟩ := h
      rw [hc] at hx
      have hx' := hx
      simp only [Conc, hget_cells hl] at hx
      obtain ⟨b, base, _, hu⟩ := hx
      exact OpOk.same hR (u := a.eval x) (by simp [execOp, ho, hu]) hx'
    · simp at h
  · rename_i sz els i off hc
    simp only [Option.some.injEq, Prod.mk.injEq] at h
    obtain ⟨rfl, rfl⟩ := h
    rw [hc] at hx
    have hx' := hx
    simp only [Conc] at hx
    obtain ⟨b, base, hu, _⟩ := hx
    exact OpOk.same hR (u := a.eval x) (by simp [execOp, ho, hu]) hx'
  · rename_i fn f c hc
    simp only [Option.some.injEq, Prod.mk.injEq] at h
    obtain ⟨rfl, rfl⟩ := h
    rw [hc] at hx
    have hx' := hx
    simp only [Conc] at hx
    obtain ⟨uf, uc, hu, _⟩ := hx
    exact OpOk.same hR (u := a.eval x) (by simp [execOp, ho, hu]) hx'
  · rename_i fn f c hc
    simp only [Option.some.injEq, Prod.mk.injEq] at h
    obtain ⟨rfl, rfl⟩ := h
    exact OpOk.same hR (u := .func (.func fn) f c) (by simp [execOp, ho, hS.lit hc]) (by simp [Conc])
  · simp at h
end
end Go.Abs
/- Operations that read. -/
namespace Go.Abs
open Go.RowKit
section
variable {P : Program} {C : Ctx} {s : Nat → AV} {a : Act} {o : Oper} {v : AV} {ws : List (Nat × Blk)} {fr : Nat}

/-! comparing structs -/
def valOf (isAgg : Bool) (cs : List Value) : Value → Prop := fun u => (isAgg = true ∧ u = .agg cs.toArray) ∨ (isAgg = false ∧ cs = [u])

theorem cellsEq_len : ∀ {ks : List CK} {xs ys : List Value} {r : Bool}, cellsEq ks xs ys = some r → xs.length = ks.length ∧ ys.length = ks.length
  | [], [], [], _, _ => ⟨rfl, rfl⟩
  | k :: ks, x :: xs, y :: ys, r, h => by
    simp only [cellsEq] at h
    split at h
    · split at h
      · have := cellsEq_len h; simp [this]
      · split at h
        · simp_all
        · simp at h
    · simp at h
  | [], [], _ :: _, _, h => by simp [cellsEq] at h
  | [], _ :: _, _, _, h => by simp [cellsEq] at h
  | _ :: _, [], _, _, h => by simp [cellsEq] at h
  | _ :: _, _ :: _, [], _, h => by simp [cellsEq] at h

theorem cellsEq_append : ∀ {k1 k2 : List CK} {xs ys : List Value} {r : Bool}, cellsEq (k1 ++ k2) xs ys = some r →
    ∃ r1, cellsEq k1 (xs.take k1.length) (ys.take k1.length) = some r1 ∧ (if r1 then cellsEq k2 (xs.drop k1.length) (ys.drop k1.length) = some r else r = false)
  | [], k2, xs, ys, r, h => ⟨true, by simp [cellsEq], by simpa using h⟩
  | k :: k1, k2, [], ys, r, h => by simp [cellsEq] at h
  | k :: k1, k2, x :: xs, [], r, h => by simp [cellsEq] at h
  | k :: k1, k2, x :: xs, y :: ys, r, h => by
    have hl := cellsEq_len h
    simp only [List.cons_append, cellsEq] at h
    split at h
    · rename_i c hc
      split at h
      · rename_i hct
        obtain ⟨r1, h1, h2⟩ := cellsEq_append h
        exact ⟨r1, by simp [cellsEq, hc, hct, h1], by simpa using h2⟩
      · rename_i hct
        split at h
        · simp only [Option.some.injEq] at h
          subst h
          refine ⟨false, ?_, by simp⟩
          have hcf : c = false := by simpa using hct
          simp only [List.length_cons, List.length_append] at hl
          simp [cellsEq, hc, hcf]
          omega
        · simp at h
    · simp at h

theorem isAggT_basic {t : TypeId} {d : TypeDesc} (h : P.underlying t = some d) : isAggT P t = some (aggD d) := by unfold isAggT; rw [h]; rfl

theorem drop_take_cons {α : Type} {l : List α} {i : Nat} {x : α} (h : l[i]? = some x) : (l.drop i).take 1 = [x] := by
  have hl : i < l.length := (List.getElem?_eq_some_iff.1 h).1
  rw [List.drop_eq_getElem_cons hl]
  have := (List.getElem?_eq_some_iff.1 h).2
  simp [this]

theorem part_valOf {t : TypeId} {cs : Array Value} {off n : Nat} {isAgg : Bool} {w : World} (h1 : isAggT P t = some isAgg) (h2 : sizeT P t = some n) (hb : isAgg = false → n = 1) (hl : off + n ≤ cs.size) :
    ∃ u, (part t cs off).run P w = .ok u w ∧ valOf isAgg ((cs.toList.drop off).take n) u := by
  cases isAgg with
  | true => exact ⟨_, run_part (w := w) h1 h2 (.inl ⟨rfl, rfl⟩), .inl ⟨rfl, rfl⟩⟩
  | false =>
    have hn := hb rfl
    subst hn
    have hlt : off < cs.toList.length := by simp; omega
    have hg : cs.toList[off]? = some cs.toList[off] := List.getElem?_eq_getElem hlt
    exact ⟨_, run_part (w := w) h1 h2 (.inr ⟨rfl, hg⟩), .inr ⟨rfl, by rw [drop_take_cons hg]⟩⟩

theorem kindsOf_one {d : Nat} {t : TypeId} {ks : List CK} (h : kindsOf P d t = some ks) : ∃ isAgg, isAggT P t = some isAgg ∧ (isAgg = false → ks.length = 1) := by
  cases d with
  | zero => simp [kindsOf] at h
  | succ d =>
    simp only [kindsOf] at h
    split at h
    · rename_i hu; simp only [Option.some.injEq] at h; subst h; exact ⟨_, isAggT_basic hu, fun _ => rfl⟩
    · rename_i hu; simp only [Option.some.injEq] at h; subst h; exact ⟨_, isAggT_basic hu, fun _ => rfl⟩
    · rename_i hu; simp only [Option.some.injEq] at h; subst h; exact ⟨_, isAggT_basic hu, fun _ => rfl⟩
    · rename_i hu; exact ⟨_, isAggT_basic hu, fun h => by simp [aggD] at h⟩
    · rename_i hu; exact ⟨_, isAggT_basic hu, fun h => by simp [aggD] at h⟩
    · simp at h

def EqSays (P : Program) (d : Nat) (t : TypeId) (ks : List CK) : Prop :=
  ∀ (w : World) (isAgg : Bool) (xs ys : List Value) (u v : Value) (r : Bool), isAggT P t = some isAgg → valOf isAgg xs u → valOf isAgg ys v → cellsEq ks xs ys = some r → (Op.equalIn d t u v).run P w = .ok r w

theorem eqFields_says {d : Nat} {k : TypeId → Option (List CK)} (hk : ∀ t ks, k t = some ks → EqSays P d t ks ∧ ∃ isAgg, isAggT P t = some isAgg ∧ (isAgg = false → ks.length = 1)) :
    ∀ (fs : List Field) (off : Nat) (ks : List CK) (xs ys : List Value) (r : Bool) (w : World), kindsFs k P fs off = some ks → off + ks.length ≤ xs.length → off + ks.length ≤ ys.length →
      cellsEq ks ((xs.drop off).take ks.length) ((ys.drop off).take ks.length) = some r → (Op.eqFields d xs.toArray ys.toArray fs).run P w = .ok r w
  | [], off, ks, xs, ys, r, w, h, _, _, he => by
    simp only [kindsFs, Option.some.injEq] at h
    subst h
    simp [cellsEq] at he
    subst he
    rfl
  | f :: fs, off, ks, xs, ys, r, w, h, hx, hy, he => by
    simp only [kindsFs] at h
    split at h
    · simp at h
    · rename_i hn
      simp only [Option.bind_eq_some_iff] at h
      obtain ⟨k1, hk1, h⟩ := h
      split at h
      · rename_i hsz
        simp only [Option.map_eq_some_iff] at h
        obtain ⟨k2, hk2, rfl⟩ := h
        obtain ⟨hs, isAgg, hag, hone⟩ := hk _ _ hk1
        obtain ⟨r1, e1, e2⟩ := cellsEq_append he
        have hoff : f.offset = off := by
          rcases Nat.lt_trichotomy f.offset off with h' | h' | h' <;> first | exact h' | exact (hn (.inr (by omega))).elim
        have hname : f.name ≠ "_" := fun h' => hn (.inl h')
        simp only [List.length_append] at hx hy
        rw [List.length_append] at e1 e2
        obtain ⟨u1, hu1, hv1⟩ := part_valOf (P := P) (w := w) (cs := xs.toArray) (off := off) hag hsz hone (by simp; omega)
        obtain ⟨u2, hu2, hv2⟩ := part_valOf (P := P) (w := w) (cs := ys.toArray) (off := off) hag hsz hone (by simp; omega)
        simp only [List.take_take, Nat.min_eq_left (Nat.le_add_right _ _)] at e1
        have h3 := hs w isAgg _ _ u1 u2 r1 hag hv1 hv2 (by simpa using e1)
        simp only [Op.eqFields, if_pos hname, hoff, Sem.run_bind, hu1, hu2, h3, Result.andThen_ok]
        cases r1 with
        | false => simp only [Bool.false_eq_true, if_false] at e2; subst e2; simp
        | true =>
          simp only [if_true] at e2
          simp only [Bool.not_true, Bool.false_eq_true, if_false]
          refine eqFields_says hk fs (off + k1.length) k2 xs ys r w hk2 (by omega) (by omega) ?_
          rw [List.drop_take, List.drop_take, List.drop_drop, List.drop_drop] at e2
          simpa using e2
      · simp at h

theorem run_arrEq {d : Nat} {e : TypeId} {k : List CK} (hs : EqSays P d e k) {isAgg : Bool} (hag : isAggT P e = some isAgg) (hone : isAgg = false → k.length = 1) (hsz : sizeT P e = some k.length) (xs ys : Array Value) (w : World) :
    ∀ (n i : Nat) (r : Bool), (i + n) * k.length ≤ xs.size → (i + n) * k.length ≤ ys.size → cellsEq (List.replicate n k).flatten ((xs.toList.drop (i * k.length)).take (n * k.length)) ((ys.toList.drop (i * k.length)).take (n * k.length)) = some r →
    ∃ q, (forIn (List.range' i n) ((none, ()) : Option Bool × Unit) fun i _ => (do
        let a ← part e xs (i * k.length)
        let b ← part e ys (i * k.length)
        let c ← Op.equalIn d e a b
        if !c then pure (ForInStep.done (some false, ())) else pure (ForInStep.yield (none, ())) : Sem (ForInStep (Option Bool × Unit)))).run P w = .ok q w ∧
      q.fst = if r then none else some false
  | 0, i, r, _, _, he => by
    simp [cellsEq] at he
    subst he
    exact ⟨(none, ()), by simp, rfl⟩
  | n + 1, i, r, hx, hy, he => by
    rw [List.replicate_succ, List.flatten_cons] at he
    have hm : (n + 1) * k.length = k.length + n * k.length := by rw [Nat.add_mul]; omega
    have hm' : (i + (n + 1)) * k.length = i * k.length + (k.length + n * k.length) := by rw [Nat.add_mul, hm]
    obtain ⟨r1, e1, e2⟩ := cellsEq_append he
    rw [hm'] at hx hy
    rw [hm] at e1 e2
    obtain ⟨u1, hu1, hv1⟩ := part_valOf (P := P) (w := w) (cs := xs) (off := i * k.length) hag hsz hone (by omega)
    obtain ⟨u2, hu2, hv2⟩ := part_valOf (P := P) (w := w) (cs := ys) (off := i * k.length) hag hsz hone (by omega)
    simp only [List.take_take, Nat.min_eq_left (Nat.le_add_right _ _)] at e1
    have h3 := hs w isAgg _ _ u1 u2 r1 hag hv1 hv2 e1
    rw [List.range'_succ, List.forIn_cons]
    simp only [Sem.run_bind, hu1, hu2, h3, Result.andThen_ok]
    cases r1 with
    | false => simp only [Bool.false_eq_true, if_false] at e2; subst e2; exact ⟨_, by simp; rfl, rfl⟩
    | true =>
      simp only [if_true] at e2
      simp only [Bool.not_true, Bool.false_eq_true, if_false, Sem.run_pure, Result.andThen_ok]
      rw [List.drop_take, List.drop_take, List.drop_drop, List.drop_drop] at e2
      have hi : i * k.length + k.length = (i + 1) * k.length := by rw [Nat.add_mul, Nat.one_mul]
      refine run_arrEq hs hag hone hsz xs ys w n (i + 1) r ?_ ?_ ?_
      · rw [show (i + 1 + n) * k.length = i * k.length + (k.length + n * k.length) from by rw [Nat.add_mul, ← hi]; omega]; exact hx
      · rw [show (i + 1 + n) * k.length = i * k.length + (k.length + n * k.length) from by rw [Nat.add_mul, ← hi]; omega]; exact hy
      · rw [← hi]; simpa using e2

theorem kinds_says : ∀ (d : Nat) (t : TypeId) (ks : List CK), kindsOf P d t = some ks → ∀ D, d ≤ D → EqSays P D t ks
  | 0, t, ks, h, _, _ => by simp [kindsOf] at h
  | d + 1, t, ks, h, D, hD => by
    obtain ⟨D, rfl⟩ : ∃ D', D = D' + 1 := ⟨D - 1, by omega⟩
    intro w isAgg xs ys u v r hag hu hv he
    simp only [kindsOf] at h
    split at h
    · rename_i k ht
      rw [isAggT_basic ht] at hag
      simp [aggD] at hag h
      subst hag h
      simp [valOf] at hu hv
      subst hu hv
      simp only [cellsEq] at he
      split at he
      · rename_i c hc
        have hr : r = c := by cases c <;> simp_all
        subst hr
        cases u <;> cases v <;> simp [cellEq] at hc
        obtain ⟨rfl, rfl⟩ := hc
        exact run_equalIn_int w D t _ _ _ _ ht
      · simp at he
    · rename_i ht
      rw [isAggT_basic ht] at hag
      simp [aggD] at hag h
      subst hag h
      simp [valOf] at hu hv
      subst hu hv
      simp only [cellsEq] at he
      split at he
      · rename_i c hc
        have hr : r = c := by cases c <;> simp_all
        subst hr
        cases u <;> cases v <;> simp [cellEq] at hc
        subst hc
        exact run_equalIn_string w D t _ _ ht
      · simp at he
    · rename_i ht
      rw [isAggT_basic ht] at hag
      simp [aggD] at hag h
      subst hag h
      simp [valOf] at hu hv
      subst hu hv
      simp only [cellsEq] at he
      split at he
      · rename_i c hc
        have hr : r = c := by cases c <;> simp_all
        subst hr
        cases u <;> cases v <;> simp [cellEq] at hc
        subst hc
        exact run_equalIn_bool' w D t _ _ ht
      · simp at he
    · rename_i fs ht
      rw [isAggT_basic ht] at hag
      simp [aggD] at hag
      subst hag
      simp [valOf] at hu hv
      subst hu hv
      split at h
      · simp at h
      · rename_i hst
        have hf : P.fieldsOf t = fs := by simp [Program.fieldsOf, ht]
        rw [run_equalIn_struct w D t _ _ (by rw [hf]; exact ht) (by simpa using hst), hf]
        obtain ⟨hx, hy⟩ := cellsEq_len he
        exact eqFields_says (k := kindsOf P d) (fun t ks hk => ⟨kinds_says d t ks hk D (by omega), kindsOf_one hk⟩) fs.toList 0 ks xs ys r w h (by omega) (by omega)
          (by rw [List.drop_zero, List.drop_zero, List.take_of_length_le (by omega), List.take_of_length_le (by omega)]; exact he)
    · rename_i n e ht
      rw [isAggT_basic ht] at hag
      simp [aggD] at hag
      subst hag
      simp [valOf] at hu hv
      subst hu hv
      simp only [Option.bind_eq_some_iff] at h
      obtain ⟨k, hk, h⟩ := h
      split at h
      · rename_i hsz
        simp only [Option.some.injEq] at h
        subst h
        obtain ⟨isAgg, hag, hone⟩ := kindsOf_one hk
        obtain ⟨hx, hy⟩ := cellsEq_len he
        simp only [List.length_flatten, List.map_replicate, List.sum_replicate_nat] at hx hy
        have hsz' := hsz
        unfold sizeT at hsz'
        simp only [Option.map_eq_some_iff] at hsz'
        obtain ⟨inf, hinf, hisz⟩ := hsz'
        obtain ⟨q, hq, hq2⟩ := run_arrEq (kinds_says d e k hk D (by omega)) hag hone hsz xs.toArray ys.toArray w n 0 r (by simp; omega) (by simp; omega)
          (by simp only [Nat.zero_mul, List.drop_zero]; rw [List.take_of_length_le (by omega), List.take_of_length_le (by omega)]; exact he)
        simp only [Op.equalIn, Sem.run_bind, run_underlying ht, Result.andThen_ok, sizeOf, typeInfo, run_program, hinf, Sem.run_pure, hisz]
        rw [Std.Legacy.Range.forIn_eq_forIn_range']
        have hrng : List.range' (⟨0, n, 1, by omega⟩ : Std.Legacy.Range).start (⟨0, n, 1, by omega⟩ : Std.Legacy.Range).size (⟨0, n, 1, by omega⟩ : Std.Legacy.Range).step = List.range' 0 n := by simp [Std.Legacy.Range.size]
        rw [hrng, hq]
        simp only [Result.andThen_ok, hq2]
        cases r <;> rfl
      · simp at h
    · simp at h

theorem ok_eqAgg (hR : HeapRel C) (hS : Slots C s a) {neq : Bool} {t ty : TypeId} {x y : Operand} {ks : List CK} (ho : o.op = .binOp (if neq then .neq else .eql) t x y ty) (hk : kindsOf P 12 t = some ks) (ha : isAggT P t = some true) (hg : P.eqGuardType P.depth t = false)
    (h : aop fr s (hget C.H) (.eqAgg neq ks (opd x) (opd y)) = some (v, ws)) : OpOk P C a o v ws := by
  simp only [aop] at h
  split at h
  · rename_i p q h1 h2
    simp only [Option.map_eq_some_iff, Prod.mk.injEq] at h
    obtain ⟨r, hr, rfl, rfl⟩ := h
    have he := kinds_says 12 t ks hk 10000 (by omega) C.w true p.toList q.toList (.agg p) (.agg q) r ha (.inl ⟨rfl, by simp⟩) (.inl ⟨rfl, by simp⟩) hr
    refine OpOk.same hR (u := .bool (if neq then !r else r)) ?_ (by simp [Conc, boolV])
    cases neq
    · simp [execOp, ho, hS.lit h1, hS.lit h2, run_eqGuard_agg (P := P) C.w .eql t x y p q hg, run_eql_struct, he]
    · simp [execOp, ho, hS.lit h1, hS.lit h2, run_eqGuard_agg (P := P) C.w .neq t x y p q hg, run_neq_struct, he]
  · simp at h

/-! slices against nil -/
theorem run_equalIn_nil {t e : TypeId} {n c d : Nat} {w : World} (ht : P.underlying t = some (.slice e)) (A : Option Addr) :
    (Op.equalIn (d + 1) t (.slice A n c) (.slice none 0 0)).run P w = .ok A.isNone w ∧ (Op.equalIn (d + 1) t (.slice none 0 0) (.slice A n c)).run P w = .ok A.isNone w := by
  cases A <;> simp [Op.equalIn, run_underlying ht]
theorem run_eqlNil {t e : TypeId} {n c : Nat} {w : World} (ht : P.underlying t = some (.slice e)) (A : Option Addr) :
    (binOp .eql t (.slice A n c) (.slice none 0 0)).run P w = .ok (.bool A.isNone) w ∧ (binOp .neq t (.slice A n c) (.slice none 0 0)).run P w = .ok (.bool (!A.isNone)) w ∧
    (binOp .eql t (.slice none 0 0) (.slice A n c)).run P w = .ok (.bool A.isNone) w ∧ (binOp .neq t (.slice none 0 0) (.slice A n c)).run P w = .ok (.bool (!A.isNone)) w := by
  have h := fun w : World => run_equalIn_nil (P := P) (w := w) (n := n) (c := c) (d := 9999) ht A
  refine ⟨?_, ?_, ?_, ?_⟩ <;> simp only [binOp] <;> unfold Op.equal Op.maxDepth <;> simp only [Sem.run_bind, (h _).1, (h _).2, Result.andThen_ok, Sem.run_pure]

theorem ok_eqNil (hR : HeapRel C) (hS : Slots C s a) {neq : Bool} {t ty e : TypeId} {x y z : Operand} (ho : o.op = .binOp (if neq then .neq else .eql) t x y ty) (ht : P.underlying t = some (.slice e))
    (hxy : (z = x ∧ y = .const (.slice none 0 0)) ∨ (z = y ∧ x = .const (.slice none 0 0)))
    (h : aop fr s (hget C.H) (.eqNil neq (opd z)) = some (v, ws)) : OpOk P C a o v ws := by
  have key : ∀ (A : Option Addr) (n c : Nat), a.eval z = .slice A n c → (A = none → n = 0 ∧ c = 0) → ∀ nil : Bool, A.isNone = nil → OpOk P C a o (boolV (if neq then !nil else nil)) [] := by
    intro A n c hz hA nil hn
    refine OpOk.same hR (u := .bool (if neq then !nil else nil)) ?_ (by simp [Conc, boolV])
    subst hn
    have hg : ∀ op (p q : Operand) x y, (eqGuard op t p q (.slice x n c) (.slice none 0 0)).run P C.w = .ok y C.w ∧ (eqGuard op t p q (.slice none 0 0) (.slice x n c)).run P C.w = .ok y C.w := by
      intro op p q x y; constructor <;> (unfold eqGuard; cases op <;> rfl)
    rcases hxy with ⟨rfl, rfl⟩ | ⟨rfl, rfl⟩
    · have e1 := run_eqlNil (P := P) (w := C.w) (n := n) (c := c) ht A
      cases neq
      · simp [execOp, ho, show a.eval (.const (.slice none 0 0)) = .slice none 0 0 from rfl, hz, (hg .eql z (.const (.slice none 0 0)) A ()).1, e1.1]
      · simp [execOp, ho, show a.eval (.const (.slice none 0 0)) = .slice none 0 0 from rfl, hz, (hg .neq z (.const (.slice none 0 0)) A ()).1, e1.2.1]
    · have e1 := run_eqlNil (P := P) (w := C.w) (n := n) (c := c) ht A
      cases neq
      · simp [execOp, ho, show a.eval (.const (.slice none 0 0)) = .slice none 0 0 from rfl, hz, (hg .eql (.const (.slice none 0 0)) z A ()).2, e1.2.2.1]
      · simp [execOp, ho, show a.eval (.const (.slice none 0 0)) = .slice none 0 0 from rfl, hz, (hg .neq (.const (.slice none 0 0)) z A ()).2, e1.2.2.2]
  have hx := hS.ev z
  simp only [aop] at h
  split at h
  · rename_i nil sz els hc
    simp only [Option.some.injEq, Prod.mk.injEq] at h
    obtain ⟨rfl, rfl⟩ := h
    rw [hc] at hx
    simp only [Conc] at hx
    rcases hx with ⟨rfl, _, hu⟩ | ⟨rfl, b, base, cap, hu, _⟩ | ⟨rfl, _, ad, hu⟩
    · exact key _ _ _ hu (fun _ => ⟨rfl, rfl⟩) true rfl
    · exact key _ _ _ hu (fun h => by simp at h) false rfl
    · exact key _ _ _ hu (fun h => by simp at h) false rfl
  · rename_i hc
    simp only [Option.some.injEq, Prod.mk.injEq] at h
    obtain ⟨rfl, rfl⟩ := h
    rw [hc] at hx
    simp only [Conc] at hx
    obtain ⟨ad, hu⟩ := hx
    have := key _ _ _ hu (fun h => by simp at h) false rfl
    cases neq <;> simpa using this
  · rename_i id i len hc
    split at h
    · rename_i own nil sz els hl
      simp only [Option.some.injEq, Prod.mk.injEq] at h
      obtain ⟨rfl, rfl⟩ := h
      rw [hc] at hx
      simp only [Conc, hget_cells hl] at hx
      rcases hx with ⟨rfl, _, _, _, hu⟩ | ⟨rfl, _, _, ad, hu⟩ | ⟨rfl, b, base, cap, c, e', f, _, _, hu, _⟩
      · exact key _ _ _ hu (fun _ => ⟨rfl, rfl⟩) true rfl
      · exact key _ _ _ hu (fun h => by simp at h) false rfl
      · exact key _ _ _ hu (fun h => by simp at h) false rfl
    · simp at h
  · simp at h
end
end Go.Abs
/- Operations that read memory, or make addresses. -/
namespace Go.Abs
open Go.RowKit
section
variable {P : Program} {C : Ctx} {s : Nat → AV} {a : Act} {o : Oper} {v : AV} {ws : List (Nat × Blk)} {fr : Nat}

theorem add_none (b o j : Nat) : (⟨b, o, none⟩ : Addr).add j = ⟨b, o + j, none⟩ := by
  unfold Addr.add; split
  · rename_i h; subst h; rfl
  · rfl

theorem CellsAt.vals : ∀ {cs : List AV} {b off : Nat}, CellsAt C b off cs → ∃ us, ConcL C cs us ∧ (∀ (j : Nat) u, us[j]? = some u → C.w.cell? ⟨b, off + j, none⟩ = some u) ∧ (∀ u ∈ us, u.oneCell' = true) ∧ (∀ c ∈ cs, isOne c = true)
  | [], b, off, _ => ⟨[], rfl, fun j u h => by simp at h, fun u h => by simp at h, fun u h => by simp at h⟩
  | c :: cs, b, off, h => by
    simp only [CellsAt] at h
    obtain ⟨⟨u, hu, h1, h2, h3⟩, h4⟩ := h
    obtain ⟨us, hl, hc, ho, ho'⟩ := CellsAt.vals h4
    refine ⟨u :: us, by simp only [ConcL]; exact ⟨u, us, rfl, h3, hl⟩, fun j x hx => ?_, fun x hx => ?_, fun x hx => ?_⟩
    · cases j with
      | zero => simp at hx; subst hx; exact hu
      | succ j => simp at hx; have := hc j x hx; rw [show off + 1 + j = off + (j + 1) by omega] at this; exact this
    · cases hx with
      | head => exact h1
      | tail _ h => exact ho x h
    · cases hx with
      | head => exact h2
      | tail _ h => exact ho' x h
theorem CellsAt.drop : ∀ {cs : List AV} {b off : Nat}, CellsAt C b off cs → ∀ i, CellsAt C b (off + i) (cs.drop i)
  | [], b, off, _, i => by simp [CellsAt]
  | c :: cs, b, off, h, 0 => h
  | c :: cs, b, off, h, i + 1 => by
    simp only [CellsAt] at h
    have := CellsAt.drop h.2 i
    rw [show off + (i + 1) = off + 1 + i by omega]
    simpa using this
theorem CellsAt.take : ∀ {cs : List AV} {b off : Nat}, CellsAt C b off cs → ∀ i, CellsAt C b off (cs.take i)
  | [], b, off, _, i => by simp [CellsAt]
  | c :: cs, b, off, h, 0 => by simp [CellsAt]
  | c :: cs, b, off, h, i + 1 => by
    simp only [CellsAt] at h
    simp only [List.take_succ_cons, CellsAt]
    exact ⟨h.1, CellsAt.take h.2 i⟩
theorem CellsAt.append : ∀ {cs ds : List AV} {b off : Nat}, CellsAt C b off cs → CellsAt C b (off + cs.length) ds → CellsAt C b off (cs ++ ds)
  | [], ds, b, off, _, h => by simpa using h
  | c :: cs, ds, b, off, h, k => by
    simp only [CellsAt] at h
    simp only [List.cons_append, CellsAt]
    exact ⟨h.1, CellsAt.append h.2 (by simp at k; rw [show off + 1 + cs.length = off + (cs.length + 1) by omega]; exact k)⟩
theorem CellsAt.of_vals : ∀ {cs : List AV} {us : List Value} {b off : Nat}, ConcL C cs us → (∀ (j : Nat) u, us[j]? = some u → C.w.cell? ⟨b, off + j, none⟩ = some u) → (∀ c ∈ cs, isOne c = true) → CellsAt C b off cs
  | [], _, _, _, _, _, _ => trivial
  | c :: cs, us, b, off, h, hc, h1 => by
    simp only [ConcL] at h
    obtain ⟨u, us', rfl, h2, h3⟩ := h
    simp only [CellsAt]
    refine ⟨⟨u, hc 0 u (by simp), Conc.one h2 (h1 c (by simp)), h1 c (by simp), h2⟩, CellsAt.of_vals h3 (fun j x hx => ?_) (fun c hc => h1 c (by simp [hc]))⟩
    rw [show off + 1 + j = off + (j + 1) by omega]
    exact hc (j + 1) x (by simpa using hx)
theorem RowsAt.get : ∀ {els : List (List AV)} {b base sz : Nat}, RowsAt C b base sz els → ∀ {i : Nat} {r : List AV}, els[i]? = some r → r.length = sz ∧ CellsAt C b (base + i * sz) r
  | [], _, _, _, _, i, r, hr => by simp at hr
  | e :: els, b, base, sz, h, 0, r, hr => by
    simp only [RowsAt] at h
    simp at hr
    subst hr
    exact ⟨h.1, by simpa using h.2.1⟩
  | e :: els, b, base, sz, h, i + 1, r, hr => by
    simp only [RowsAt] at h
    simp at hr
    have := RowsAt.get h.2.2 hr
    rw [show base + (i + 1) * sz = base + sz + i * sz by rw [Nat.add_mul]; omega]
    exact this
theorem RowsAt.drop : ∀ {els : List (List AV)} {b base sz : Nat}, RowsAt C b base sz els → ∀ i, RowsAt C b (base + i * sz) sz (els.drop i)
  | [], _, _, _, _, i => by simp [RowsAt]
  | e :: els, b, base, sz, h, 0 => by simpa using h
  | e :: els, b, base, sz, h, i + 1 => by
    simp only [RowsAt] at h
    have := RowsAt.drop h.2.2 i
    rw [show base + (i + 1) * sz = base + sz + i * sz by rw [Nat.add_mul]; omega]
    simpa using this
theorem RowsAt.take : ∀ {els : List (List AV)} {b base sz : Nat}, RowsAt C b base sz els → ∀ i, RowsAt C b base sz (els.take i)
  | [], _, _, _, _, i => by simp [RowsAt]
  | e :: els, b, base, sz, h, 0 => by simp [RowsAt]
  | e :: els, b, base, sz, h, i + 1 => by
    simp only [RowsAt] at h
    simp only [List.take_succ_cons, RowsAt]
    exact ⟨h.1, h.2.1, RowsAt.take h.2.2 i⟩
theorem RowsAt.append : ∀ {els es : List (List AV)} {b base sz : Nat}, RowsAt C b base sz els → RowsAt C b (base + els.length * sz) sz es → RowsAt C b base sz (els ++ es)
  | [], es, b, base, sz, _, h => by simpa using h
  | e :: els, es, b, base, sz, h, k => by
    simp only [RowsAt] at h
    simp only [List.cons_append, RowsAt]
    exact ⟨h.1, h.2.1, RowsAt.append h.2.2 (by rw [show base + sz + els.length * sz = base + (e :: els).length * sz by simp [Nat.add_mul]; omega]; exact k)⟩
theorem RowsAt.of : ∀ {els : List (List AV)} {b base sz : Nat}, (∀ (i : Nat) r, els[i]? = some r → r.length = sz ∧ CellsAt C b (base + i * sz) r) → RowsAt C b base sz els
  | [], _, _, _, _ => trivial
  | e :: els, b, base, sz, h => by
    simp only [RowsAt]
    have h0 := h 0 e (by simp)
    refine ⟨h0.1, by simpa using h0.2, RowsAt.of fun i r hr => ?_⟩
    have := h (i + 1) r (by simpa using hr)
    rw [show base + sz + i * sz = base + (i + 1) * sz by rw [Nat.add_mul]; omega]
    exact this
/-- all cells of rows, one behind the other -/
theorem RowsAt.flat : ∀ {els : List (List AV)} {b base sz : Nat}, RowsAt C b base sz els → CellsAt C b base els.flatten ∧ els.flatten.length = els.length * sz
  | [], _, _, _, _ => by simp [CellsAt]
  | e :: els, b, base, sz, h => by
    simp only [RowsAt] at h
    have := RowsAt.flat h.2.2
    refine ⟨?_, by simp [this.2, h.1, Nat.add_mul]; omega⟩
    rw [List.flatten_cons]
    exact CellsAt.append h.2.1 (by rw [h.1]; exact this.1)

theorem run_loadVar_cells {t : TypeId} {n b off : Nat} {isAgg : Bool} {w : World} {us : List Value} (h1 : isAggT P t = some isAgg) (h2 : sizeT P t = some n) (hn : us.length = n) (hb : isAgg = false → n = 1) (hc : ∀ (j : Nat) u, us[j]? = some u → w.cell? ⟨b, off + j, none⟩ = some u) :
    ∃ u, (loadVar t ⟨b, off, none⟩).run P w = .ok u w ∧ valOf isAgg us u := by
  unfold isAggT at h1
  unfold sizeT at h2
  simp only [Option.map_eq_some_iff] at h1 h2
  obtain ⟨d, hd, h1⟩ := h1
  obtain ⟨i, hi, h2⟩ := h2
  have hs : (Go.isAgg t).run P w = .ok isAgg w := by
    simp only [Go.isAgg, Sem.run_bind, run_underlying hd, Result.andThen_ok]
    rw [← h1]
    cases d <;> rfl
  cases isAgg with
  | true =>
    refine ⟨.agg us.toArray, ?_, .inl ⟨rfl, rfl⟩⟩
    have hl := run_loadCells_list (P := P) (w := w) (a := ⟨b, off, none⟩) us (fun j u hu => by rw [add_none]; exact hc j u hu)
    rw [hn] at hl
    simp [loadVar, hs, sizeOf, typeInfo, hi, h2, hl]
  | false =>
    have := hb rfl
    subst this
    match us, hn with
    | [u], _ =>
      refine ⟨u, ?_, .inr ⟨rfl, rfl⟩⟩
      have := hc 0 u (by simp)
      simp at this
      simp [loadVar, hs, this]

theorem value_len {n off : Nat} {isAgg : Bool} {cs : List AV} {v : AV} (h : value n isAgg (cut cs off n) = some v) : (cut cs off n).length = n ∧ (isAgg = false → n = 1) := by
  unfold value at h
  split at h
  · rename_i hn
    refine ⟨hn, fun hf => ?_⟩
    subst hf
    simp at h
    split at h
    · rename_i hc; rw [hc] at hn; simpa using hn.symm
    · simp at h
  · simp at h

theorem ok_load_row {t : TypeId} {x : Operand} {n b base off : Nat} {isAgg : Bool} {row : List AV} (hR : HeapRel C) (ho : o.op = .load t x) (h1 : isAggT P t = some isAgg) (h2 : sizeT P t = some n)
    (hx : a.eval x = .pointer (some ⟨b, base + off, none⟩)) (hc : CellsAt C b base row) (hv : value n isAgg (cut row off n) = some v) : OpOk P C a o v [] := by
  obtain ⟨hn, hb⟩ := value_len hv
  have hc' : CellsAt C b (base + off) (cut row off n) := (hc.drop off).take n
  obtain ⟨us, hl, hcell, _⟩ := hc'.vals
  obtain ⟨u, hu, hvo⟩ := run_loadVar_cells (P := P) (w := C.w) h1 h2 (by rw [hl.length, hn]) hb hcell
  refine OpOk.same hR (u := u) (by simp [execOp, ho, hx, Instr.loadAt, Instr.sureAddr, hu]) ?_
  rcases hvo with ⟨rfl, rfl⟩ | ⟨rfl, rfl⟩
  · unfold value at hv
    simp only [hn, if_true, Option.some.injEq] at hv
    subst hv
    exact conc_mkAgg hl
  · have h1 := hb rfl
    subst h1
    unfold value at hv
    simp only [hn, if_true, Bool.false_eq_true, if_false] at hv
    split at hv
    · rename_i c hcc
      simp only [Option.some.injEq] at hv
      subst hv
      rw [hcc] at hl
      simp only [ConcL] at hl
      obtain ⟨u', us', he, h3, h4⟩ := hl
      simp at he
      rw [he.1]
      exact h3
    · simp at hv

theorem getD_some {α : Type} {l : List α} {i : Nat} {d : α} (h : i < l.length) : l[i]? = some (l.getD i d) := by simp [List.getD, h]

theorem ok_load (hR : HeapRel C) (hS : Slots C s a) {t : TypeId} {x : Operand} {n : Nat} {isAgg : Bool} (ho : o.op = .load t x) (h1 : isAggT P t = some isAgg) (h2 : sizeT P t = some n)
    (h : aop fr s (hget C.H) (.load n isAgg (opd x)) = some (v, ws)) : OpOk P C a o v ws := by
  simp only [aop] at h
  have hx := hS.ev x
  split at h
  · rename_i sz els i off hc
    simp only [Option.map_eq_some_iff, Prod.mk.injEq] at h
    obtain ⟨r, hr, rfl, rfl⟩ := h
    rw [hc] at hx
    simp only [Conc] at hx
    obtain ⟨b, base, hu, hi, _, _, hrows⟩ := hx
    exact ok_load_row hR ho h1 h2 hu (hrows.get (getD_some hi)).2 hr
  · rename_i id i off hc
    split at h
    · rename_i own nil sz els hl
      simp only [Option.map_eq_some_iff, Prod.mk.injEq] at h
      obtain ⟨r, hr, rfl, rfl⟩ := h
      have hH := hget_cells hl
      rw [hc] at hx
      simp only [Conc, hH] at hx
      obtain ⟨b, base, hm, hu⟩ := hx
      rcases hR.blk id own nil sz els hH with ⟨hm', _⟩ | ⟨_, b', base', c, e, hm', _, _, hrows⟩
      · rw [hm] at hm'; simp at hm'
      · rw [hm] at hm'
        simp at hm'
        obtain ⟨rfl, rfl⟩ := hm'
        by_cases hi : i < els.length
        · exact ok_load_row hR ho h1 h2 hu (hrows.get (getD_some hi)).2 hr
        · have hn := value_len hr
          have : els.getD i [] = [] := by simp [List.getD, hi]
          rw [this] at hn hr
          have hn0 : n = 0 := by simpa [cut] using hn.1.symm
          subst hn0
          exact ok_load_row (row := []) (base := base + i * sz) hR ho h1 h2 hu trivial hr
    · simp at h
  · simp at h

theorem ok_faddr (hR : HeapRel C) (hS : Slots C s a) {t : TypeId} {x : Operand} {f : Nat} {fs : Array Field} {fd : Field} {n : Nat} (ho : o.op = .fieldAddr t x f) (ht : P.underlying t = some (.struct fs)) (hf : fs[f]? = some fd) (hn : sizeT P fd.type = some n) (hn0 : n ≠ 0)
    (h : aop fr s (hget C.H) (.faddr fd.offset (opd x)) = some (v, ws)) : OpOk P C a o v ws := by
  have hsz : (sizeOf fd.type).run P C.w = .ok n C.w := by
    unfold sizeT at hn
    simp only [Option.map_eq_some_iff] at hn
    obtain ⟨i, hi, h2⟩ := hn
    simp [sizeOf, typeInfo, hi, h2]
  have key : ∀ b off, a.eval x = .pointer (some ⟨b, off, none⟩) → (execOp a.eval o).run P C.w = .ok (.value (.pointer (some ⟨b, off + fd.offset, none⟩))) C.w := by
    intro b off hx
    simp [execOp, ho, hx, Instr.fieldAt, run_underlying ht, hf, Instr.sureAddr, fieldPlace, hsz, hn0, add_none]
  simp only [aop] at h
  have hx := hS.ev x
  split at h
  · rename_i id i off hc
    split at h
    · rename_i own nil sz els hl
      simp only [Option.some.injEq, Prod.mk.injEq] at h
      obtain ⟨rfl, rfl⟩ := h
      rw [hc] at hx
      simp only [Conc, hget_cells hl] at hx
      obtain ⟨b, base, hm, hu⟩ := hx
      exact OpOk.same hR (key _ _ hu) (by simp only [Conc, hget_cells hl]; exact ⟨b, base, hm, by simp [Nat.add_assoc]⟩)
    · simp at h
  · rename_i sz els i off hc
    simp only [Option.some.injEq, Prod.mk.injEq] at h
    obtain ⟨rfl, rfl⟩ := h
    rw [hc] at hx
    simp only [Conc] at hx
    obtain ⟨b, base, hu, h3⟩ := hx
    exact OpOk.same hR (key _ _ hu) (by simp only [Conc]; exact ⟨b, base, by simp [Nat.add_assoc], h3⟩)
  · simp at h

theorem ok_iaddrS (hR : HeapRel C) (hS : Slots C s a) {t e : TypeId} {x i : Operand} {sz : Nat} (ho : o.op = .indexAddr t x i) (ht : P.underlying t = some (.slice e)) (hsz : sizeT P e = some sz)
    (h : aop fr s (hget C.H) (.iaddrS sz (opd x) (opd i)) = some (v, ws)) : OpOk P C a o v ws := by
  have hse : (sizeOf e).run P C.w = .ok sz C.w := by
    unfold sizeT at hsz
    simp only [Option.map_eq_some_iff] at hsz
    obtain ⟨j, hj, h2⟩ := hsz
    simp [sizeOf, typeInfo, hj, h2]
  have key : ∀ b off len cap k n, a.eval x = .slice (some ⟨b, off, none⟩) len cap → a.eval i = .int k n → 0 ≤ n ∧ n < len → (execOp a.eval o).run P C.w = .ok (.value (.pointer (some ⟨b, off + n.toNat * sz, none⟩))) C.w := by
    intro b off len cap k n hx hi hn
    simp [execOp, ho, hx, hi, Instr.indexAt, asIntOf, run_underlying ht, hse, hn, add_none]
  simp only [aop] at h
  have hx := hS.ev x
  split at h
  · rename_i k n hi
    have hi' := hS.lit hi
    split at h
    · rename_i nil z els hc
      split at h
      · rename_i hn
        obtain ⟨h0, h1, rfl⟩ := hn
        simp only [Option.some.injEq, Prod.mk.injEq] at h
        obtain ⟨rfl, rfl⟩ := h
        rw [hc] at hx
        simp only [Conc] at hx
        rcases hx with ⟨_, hl, _⟩ | ⟨_, b, base, cap, hu, _, hbad, hrows⟩ | ⟨_, hl, _⟩
        · omega
        · have hlt : els.length ≠ 0 := by omega
          exact OpOk.same hR (key _ _ _ _ _ _ hu hi' ⟨h0, h1⟩) (by simp only [Conc]; exact ⟨b, base, by simp, by omega, (hbad hlt).1, (hbad hlt).2, hrows⟩)
        · omega
      · simp at h
    · rename_i id j len hc
      split at h
      · rename_i own nil z els hl
        split at h
        · rename_i hn
          obtain ⟨h0, h1, rfl⟩ := hn
          simp only [Option.some.injEq, Prod.mk.injEq] at h
          obtain ⟨rfl, rfl⟩ := h
          rw [hc] at hx
          simp only [Conc, hget_cells hl] at hx
          rcases hx with ⟨_, _, _, hl0, _⟩ | ⟨_, hl0, _⟩ | ⟨_, b, base, cap, c, e', f, hm, _, hu, _⟩
          · omega
          · omega
          · refine OpOk.same hR (key _ _ _ _ _ _ hu hi' ⟨h0, h1⟩) ?_
            simp only [Conc, hget_cells hl]
            exact ⟨b, base, hm, by rw [Nat.add_mul]; simp [Nat.add_assoc]⟩
        · simp at h
      · simp at h
    · simp at h
  · simp at h

theorem ok_iaddrA (hR : HeapRel C) (hS : Slots C s a) {t e : TypeId} {x i : Operand} {len sz : Nat} (ho : o.op = .indexAddr t x i) (ht : P.underlying t = some (.array len e)) (hsz : sizeT P e = some sz)
    (h : aop fr s (hget C.H) (.iaddrA len sz (opd x) (opd i)) = some (v, ws)) : OpOk P C a o v ws := by
  have hse : (sizeOf e).run P C.w = .ok sz C.w := by
    unfold sizeT at hsz
    simp only [Option.map_eq_some_iff] at hsz
    obtain ⟨j, hj, h2⟩ := hsz
    simp [sizeOf, typeInfo, hj, h2]
  have key : ∀ b off k n, a.eval x = .pointer (some ⟨b, off, none⟩) → a.eval i = .int k n → 0 ≤ n ∧ n < len → (execOp a.eval o).run P C.w = .ok (.value (.pointer (some ⟨b, off + n.toNat * sz, none⟩))) C.w := by
    intro b off k n hx hi hn
    simp [execOp, ho, hx, hi, Instr.indexAt, asIntOf, run_underlying ht, hse, hn, add_none, Instr.sureAddr]
  simp only [aop] at h
  have hx := hS.ev x
  split at h
  · rename_i k n hi
    have hi' := hS.lit hi
    split at h
    · rename_i hn
      split at h
      · rename_i id j off hc
        split at h
        · rename_i own nil z els hl
          simp only [Option.some.injEq, Prod.mk.injEq] at h
          obtain ⟨rfl, rfl⟩ := h
          rw [hc] at hx
          simp only [Conc, hget_cells hl] at hx
          obtain ⟨b, base, hm, hu⟩ := hx
          exact OpOk.same hR (key _ _ _ _ hu hi' hn) (by simp only [Conc, hget_cells hl]; exact ⟨b, base, hm, by simp [Nat.add_assoc]⟩)
        · simp at h
      · rename_i z els j off hc
        simp only [Option.some.injEq, Prod.mk.injEq] at h
        obtain ⟨rfl, rfl⟩ := h
        rw [hc] at hx
        simp only [Conc] at hx
        obtain ⟨b, base, hu, h3⟩ := hx
        exact OpOk.same hR (key _ _ _ _ hu hi' hn) (by simp only [Conc]; exact ⟨b, base, by simp [Nat.add_assoc], h3⟩)
      · simp at h
    · simp at h
  · simp at h

theorem ok_len (hR : HeapRel C) (hS : Slots C s a) {x : Operand} {t e : TypeId} (ho : o.op = .call { callee := .builtin .len, args := #[x], argTypes := #[t] }) (he : P.underlying t = some (.slice e))
    (h : aop fr s (hget C.H) (.len (opd x)) = some (v, ws)) : OpOk P C a o v ws := by
  have key : ∀ A n c, a.eval x = .slice A n c → (execOp a.eval o).run P C.w = .ok (.value (.int .i64 n)) C.w := by
    intro A n c hx
    simp [execOp, ho, resolve, invoke, builtin, Builtin.len_, hx, run_underlying he, goInt]
  simp only [aop] at h
  have hx := hS.ev x
  · simp only [Option.map_eq_some_iff, Prod.mk.injEq] at h
    obtain ⟨n, hn, rfl, rfl⟩ := h
    unfold lenOf at hn
    split at hn
    · rename_i nil sz els hc
      cases hn
      rw [hc] at hx
      simp only [Conc] at hx
      rcases hx with ⟨_, hl, hu⟩ | ⟨_, b, base, cap, hu, _⟩ | ⟨_, hl, ad, hu⟩
      · exact OpOk.same hR (key _ _ _ hu) (by simp [Conc, intV, hl])
      · exact OpOk.same hR (key _ _ _ hu) (by simp [Conc, intV])
      · exact OpOk.same hR (key _ _ _ hu) (by simp [Conc, intV, hl])
    · rename_i hc
      cases hn
      rw [hc] at hx
      simp only [Conc] at hx
      obtain ⟨ad, hu⟩ := hx
      exact OpOk.same hR (key _ _ _ hu) (by simp [Conc, intV])
    · rename_i id i len hc
      split at hn
      · rename_i own nil z els hl
        cases hn
        rw [hc] at hx
        simp only [Conc, hget_cells hl] at hx
        rcases hx with ⟨_, _, _, rfl, hu⟩ | ⟨_, rfl, _, ad, hu⟩ | ⟨_, b, base, cap, c, e', f, hm, _, hu, _⟩
        · exact OpOk.same hR (key _ _ _ hu) (by simp [Conc, intV])
        · exact OpOk.same hR (key _ _ _ hu) (by simp [Conc, intV])
        · exact OpOk.same hR (key _ _ _ hu) (by simp [Conc, intV])
      · simp at hn
    · simp at hn
theorem ok_lenS (hR : HeapRel C) (hS : Slots C s a) {x : Operand} {t : TypeId} (ho : o.op = .call { callee := .builtin .len, args := #[x], argTypes := #[t] }) (ht : P.underlying t = some .string)
    (h : aop fr s (hget C.H) (.lenS (opd x)) = some (v, ws)) : OpOk P C a o v ws := by
  simp only [aop] at h
  split at h
  · rename_i b hc
    simp only [Option.some.injEq, Prod.mk.injEq] at h
    obtain ⟨rfl, rfl⟩ := h
    refine OpOk.same hR (u := .int .i64 b.size) ?_ (by simp [Conc, intV])
    simp [execOp, ho, resolve, invoke, builtin, Builtin.len_, hS.lit hc, run_underlying ht, goInt]
  · simp at h
end
end Go.Abs
/- Slicing; operations that make or write memory. -/
namespace Go.Abs
open Go.RowKit
section
variable {P : Program} {C : Ctx} {s : Nat → AV} {a : Act} {o : Oper} {v : AV} {ws : List (Nat × Blk)} {fr : Nat}

theorem run_sizeOf {e : TypeId} {sz : Nat} {w : World} (hsz : sizeT P e = some sz) : (sizeOf e).run P w = .ok sz w := by
  unfold sizeT at hsz
  simp only [Option.map_eq_some_iff] at hsz
  obtain ⟨j, hj, h2⟩ := hsz
  simp [sizeOf, typeInfo, hj, h2]

theorem run_bound {v : Value} {y n : Nat} {code : BoundsCode} {w : World} {k : IntKind} {i : Int} (hv : v = .int k i) (h : 0 ≤ i ∧ i ≤ y) (hn : n = i.toNat) : (Instr.sliceBound v y code).run P w = .ok n w := by
  subst hv hn
  simp [Instr.sliceBound, asIntOf, h]

/-- the two bounds of 'x[lo:hi]' -/
theorem run_bounds2 (hS : Slots C s a) {lo hi : Option Operand} {isS : Bool} {len cap e b : Nat} {w : World} (hlc : len ≤ cap) (he : boundOf ((hi.map opd).map (Abs.ev s)) len len = some e) (hb : boundOf ((lo.map opd).map (Abs.ev s)) 0 e = some b) :
    (Instr.sliceBounds isS len cap (lo.map a.eval) (hi.map a.eval) none).run P w = .ok (b, e, cap) w ∧ b ≤ e ∧ e ≤ len := by
  have h1 : ∀ (code : BoundsCode), (match (hi.map a.eval) with | some v => Instr.sliceBound v cap code | none => pure len : Sem Nat).run P w = .ok e w ∧ e ≤ len := by
    intro code
    cases hi with
    | none => simp [boundOf] at he; subst he; simp
    | some h =>
      simp only [Option.map_some, boundOf] at he
      split at he
      · rename_i h'; simp at h'
      · rename_i k n hk
        split at he
        · rename_i hn
          simp at he
          simp at hk
          exact ⟨by simp [run_bound (P := P) (w := w) (code := code) (hS.lit hk) (by omega : 0 ≤ n ∧ n ≤ cap) he.symm], by omega⟩
        · simp at he
      · simp at he
  have h2 : ∀ (code : BoundsCode), (match (lo.map a.eval) with | some v => Instr.sliceBound v e code | none => pure 0 : Sem Nat).run P w = .ok b w ∧ b ≤ e := by
    intro code
    cases lo with
    | none => simp [boundOf] at hb; subst hb; simp
    | some h =>
      simp only [Option.map_some, boundOf] at hb
      split at hb
      · rename_i h'; simp at h'
      · rename_i k n hk
        split at hb
        · rename_i hn
          simp at hb
          simp at hk
          exact ⟨by simp [run_bound (P := P) (w := w) (code := code) (hS.lit hk) hn hb.symm], by omega⟩
        · simp at hb
      · simp at hb
  refine ⟨?_, (h2 .index).2, (h1 .index).2⟩
  have g1 := (h1 (if isS then .sliceAcap else .sliceAlen)).1
  have g2 := (h2 .sliceB).1
  unfold Instr.sliceBounds
  cases hh : hi.map a.eval with
  | none =>
    rw [hh] at g1
    simp only [Sem.run_pure, Result.ok.injEq, and_true] at g1
    subst g1
    cases hl : lo.map a.eval with
    | none => rw [hl] at g2; simp only [Sem.run_pure, Result.ok.injEq, and_true] at g2; subst g2; simp
    | some x => rw [hl] at g2; simp only at g2; simp [g2]
  | some y =>
    rw [hh] at g1
    simp only at g1
    cases hl : lo.map a.eval with
    | none => rw [hl] at g2; simp only [Sem.run_pure, Result.ok.injEq, and_true] at g2; subst g2; simp [g1]
    | some x => rw [hl] at g2; simp only at g2; simp [g1, g2]

theorem ok_slcS (hR : HeapRel C) (hS : Slots C s a) {t : TypeId} {x : Operand} {lo hi : Option Operand} (ho : o.op = .slice t x lo hi none) (ht : P.underlying t = some .string)
    (h : aop fr s (hget C.H) (.slcS (opd x) (lo.map opd) (hi.map opd)) = some (v, ws)) : OpOk P C a o v ws := by
  simp only [aop] at h
  split at h
  · rename_i b hc
    simp only [Option.bind_eq_some_iff, Option.map_eq_some_iff, Prod.mk.injEq] at h
    obtain ⟨e, he, l, hl, rfl, rfl⟩ := h
    have hb := (run_bounds2 (P := P) (w := C.w) (isS := false) hS (Nat.le_refl _) he hl).1
    refine OpOk.same hR (u := .string (b.extract l e)) ?_ (by simp [Conc])
    simp [execOp, ho, Instr.sliceAt, run_underlying ht, Instr.slice, hS.lit hc, hb]
  · simp at h

/-- 'x[lo:hi]' of a slice, and 'x[:0:0]' -/
theorem run_slc {t e : TypeId} {A : Option Addr} {len cap b n sz : Nat} {lo hi : Option Value} {w : World} (ht : P.underlying t = some (.slice e)) (hsz : sizeT P e = some sz) (hb : (Instr.sliceBounds true len cap lo hi none).run P w = .ok (b, n, cap) w) :
    (Instr.sliceAt t (.slice A len cap) lo hi none).run P w = .ok (.slice (if cap = b then A else A.map (·.add (b * sz))) (n - b) (cap - b)) w := by
  simp [Instr.sliceAt, run_underlying ht, Instr.slice, hb, run_sizeOf (w := w) hsz]
theorem run_slc0 {t e : TypeId} {A : Option Addr} {len cap sz : Nat} {hi mx : Value} {w : World} {k k' : IntKind} (ht : P.underlying t = some (.slice e)) (hsz : sizeT P e = some sz) (hh : hi = .int k 0) (hm : mx = .int k' 0) :
    (Instr.sliceAt t (.slice A len cap) none (some hi) (some mx)).run P w = .ok (.slice A 0 0) w := by
  subst hh hm
  simp [Instr.sliceAt, run_underlying ht, Instr.slice, Instr.sliceBounds, Instr.sliceBound, asIntOf, run_sizeOf (w := w) hsz]

theorem ok_slc (hR : HeapRel C) (hS : Slots C s a) {t e : TypeId} {x : Operand} {lo hi : Option Operand} {sz : Nat} (ho : o.op = .slice t x lo hi none) (ht : P.underlying t = some (.slice e)) (hsz : sizeT P e = some sz)
    (h : aop fr s (hget C.H) (.slc sz (opd x) (lo.map opd) (hi.map opd)) = some (v, ws)) : OpOk P C a o v ws := by
  have key : ∀ A len cap n b, a.eval x = .slice A len cap → (Instr.sliceBounds true len cap (lo.map a.eval) (hi.map a.eval) none).run P C.w = .ok (b, n, cap) C.w → (execOp a.eval o).run P C.w = .ok (.value (.slice (if cap = b then A else A.map (·.add (b * sz))) (n - b) (cap - b))) C.w := by
    intro A len cap n b hx hb
    simp [execOp, ho, hx, run_slc (P := P) ht hsz hb]
  have hx := hS.ev x
  simp only [aop] at h
  split at h
  · rename_i nil z els hc
    rw [hc] at hx
    simp only [Conc] at hx
    split at h
    · rename_i n hn
      simp only [Option.bind_eq_some_iff] at h
      obtain ⟨b, hb, h⟩ := h
      split at h
      · rename_i hok
        simp only [Option.some.injEq, Prod.mk.injEq] at h
        obtain ⟨rfl, rfl⟩ := h
        rcases hx with ⟨rfl, hl, hu⟩ | ⟨rfl, bl, base, cap, hu, hcap, hbad, hrows⟩ | ⟨rfl, hl, ad, hu⟩
        · have he0 : els = [] := List.eq_nil_of_length_eq_zero hl
          subst he0
          obtain ⟨hrun, h1, h2⟩ := run_bounds2 (P := P) (w := C.w) (isS := true) (cap := 0) hS (by simp) hn hb
          simp at h2
          subst h2
          obtain rfl : b = 0 := by omega
          have := key _ _ _ _ _ hu hrun
          exact OpOk.same hR this (by simp [Conc])
        · obtain ⟨hrun, h1, h2⟩ := run_bounds2 (P := P) (w := C.w) (isS := true) hS hcap hn hb
          have hz : z = sz := by simpa [szOk] using hok
          subst hz
          refine OpOk.same hR (key _ _ _ _ _ hu hrun) ?_
          simp only [Conc]
          refine .inr (.inl ⟨by simp, ?_⟩)
          have hlen : ((els.take n).drop b).length = n - b := by simp; omega
          by_cases hcb : cap = b
          · rw [if_pos hcb]
            have : (els.take n).drop b = [] := List.eq_nil_of_length_eq_zero (by rw [hlen]; omega)
            rw [this]
            exact ⟨bl, base, cap - b, by simp; omega, by simp, fun h => by simp at h, trivial⟩
          · rw [if_neg hcb]
            refine ⟨bl, base + b * z, cap - b, ?_, by omega, fun hne => hbad (by omega), (hrows.take n).drop b⟩
            rw [hlen]
            simp [add_none]
        · have he0 : els = [] := List.eq_nil_of_length_eq_zero hl
          subst he0
          obtain ⟨hrun, h1, h2⟩ := run_bounds2 (P := P) (w := C.w) (isS := true) (cap := 0) hS (by simp) hn hb
          simp at h2
          subst h2
          obtain rfl : b = 0 := by omega
          have := key _ _ _ _ _ hu hrun
          exact OpOk.same hR this (by simp [Conc])
      · simp at h
    · simp at h
  · rename_i id i len hc
    rw [hc] at hx
    split at h
    · rename_i own nil z els hl
      simp only [Conc, hget_cells hl] at hx
      split at h
      · rename_i n hn
        simp only [Option.bind_eq_some_iff] at h
        obtain ⟨b, hb, h⟩ := h
        split at h
        · rename_i hok
          simp only [Option.some.injEq, Prod.mk.injEq] at h
          obtain ⟨rfl, rfl⟩ := h
          rcases hx with ⟨rfl, hl0, rfl, rfl, hu⟩ | ⟨rfl, rfl, hi', ad, hu⟩ | ⟨rfl, bl, base, cap, c, e', f, hm, hblk, hu, h3, h4, h5⟩
          · obtain ⟨hrun, h1, h2⟩ := run_bounds2 (P := P) (w := C.w) (isS := true) (cap := 0) hS (by simp) hn hb
            obtain rfl : n = 0 := by omega
            obtain rfl : b = 0 := by omega
            refine OpOk.same hR (key _ _ _ _ _ hu hrun) ?_
            simp only [Conc, hget_cells hl]
            exact .inl ⟨by simp, hl0, by simp, by simp, by simp⟩
          · obtain ⟨hrun, h1, h2⟩ := run_bounds2 (P := P) (w := C.w) (isS := true) (cap := 0) hS (by simp) hn hb
            obtain rfl : n = 0 := by omega
            obtain rfl : b = 0 := by omega
            refine OpOk.same hR (key _ _ _ _ _ hu hrun) ?_
            simp only [Conc, hget_cells hl]
            exact .inr (.inl ⟨by simp, by simp, by simpa using hi', ad, by simp⟩)
          · obtain ⟨hrun, h1, h2⟩ := run_bounds2 (P := P) (w := C.w) (isS := true) hS h4 hn hb
            have hz : z = sz := by simpa [szOk] using hok
            subst hz
            refine OpOk.same hR (key _ _ _ _ _ hu hrun) ?_
            simp only [Conc, hget_cells hl]
            by_cases hcb : cap = b
            · rw [if_pos hcb]
              exact .inr (.inl ⟨by simp, by omega, by omega, ⟨bl, base + i * z, none⟩, by rw [hcb]; simp; omega⟩)
            · rw [if_neg hcb]
              refine .inr (.inr ⟨by simp, bl, base, cap - b, c, e', f, hm, hblk, ?_, by omega, by omega, ?_⟩)
              · simp [add_none, Nat.add_mul, Nat.add_assoc]
              · rw [show i + b + (cap - b) = i + cap by omega]; exact h5
        · simp at h
      · simp at h
    · simp at h
  · rename_i hc
    rw [hc] at hx
    simp only [Conc] at hx
    obtain ⟨ad, hu⟩ := hx
    split at h
    · rename_i n b hn hb
      simp only [Option.some.injEq, Prod.mk.injEq] at h
      obtain ⟨rfl, rfl⟩ := h
      have hn0 : n = 0 := by
        have := (run_bounds2 (P := P) (w := C.w) (isS := true) (lo := none) (e := n) (b := 0) hS (Nat.le_refl 0) hn (by simp [boundOf])).2.2
        omega
      subst hn0
      obtain ⟨hrun, h1, h2⟩ := run_bounds2 (P := P) (w := C.w) (isS := true) hS (Nat.le_refl 0) hn hb
      obtain rfl : b = 0 := by omega
      exact OpOk.same hR (key _ _ _ _ _ hu hrun) (by simp only [Conc]; exact ⟨ad, by simp⟩)
    · simp at h
  · simp at h

theorem ok_slc0 (hR : HeapRel C) (hS : Slots C s a) {t e : TypeId} {x h0 m0 : Operand} {sz : Nat} (ho : o.op = .slice t x none (some h0) (some m0)) (ht : P.underlying t = some (.slice e)) (hsz : sizeT P e = some sz)
    (h : aop fr s (hget C.H) (.slc0 (opd x) (opd h0) (opd m0)) = some (v, ws)) : OpOk P C a o v ws := by
  simp only [aop] at h
  split at h
  · rename_i k k' e1 e2
    have key : ∀ A len cap, a.eval x = .slice A len cap → (execOp a.eval o).run P C.w = .ok (.value (.slice A 0 0)) C.w := by
      intro A len cap hx
      simp [execOp, ho, hx, run_slc0 (P := P) (w := C.w) (A := A) (len := len) (cap := cap) ht hsz (hS.lit e1) (hS.lit e2)]
    have hx := hS.ev x
    split at h
    · rename_i nil z els hc
      simp only [Option.some.injEq, Prod.mk.injEq] at h
      obtain ⟨rfl, rfl⟩ := h
      rw [hc] at hx
      simp only [Conc] at hx
      rcases hx with ⟨rfl, hl, hu⟩ | ⟨rfl, bl, base, cap, hu, _⟩ | ⟨rfl, hl, ad, hu⟩
      · exact OpOk.same hR (key _ _ _ hu) (by simp [Conc])
      · exact OpOk.same hR (key _ _ _ hu) (by simp [Conc])
      · exact OpOk.same hR (key _ _ _ hu) (by simp [Conc])
    · rename_i id i len hc
      rw [hc] at hx
      split at h
      · rename_i own nil z els hl
        simp only [Option.some.injEq, Prod.mk.injEq] at h
        obtain ⟨rfl, rfl⟩ := h
        simp only [Conc, hget_cells hl] at hx
        rcases hx with ⟨rfl, hl0, rfl, rfl, hu⟩ | ⟨rfl, rfl, hi', ad, hu⟩ | ⟨rfl, bl, base, cap, c, e', f, hm, hblk, hu, h3, h4, h5⟩
        · exact OpOk.same hR (key _ _ _ hu) (by simp [Conc])
        · exact OpOk.same hR (key _ _ _ hu) (by simp [Conc])
        · exact OpOk.same hR (key _ _ _ hu) (by simp [Conc])
      · simp at h
    · rename_i hc
      simp only [Option.some.injEq, Prod.mk.injEq] at h
      obtain ⟨rfl, rfl⟩ := h
      rw [hc] at hx
      simp only [Conc] at hx
      obtain ⟨ad, hu⟩ := hx
      exact OpOk.same hR (key _ _ _ hu) (by simp [Conc])
    · simp at h
  · simp at h
end
end Go.Abs
