/- The abstract machine: values as trees, blocks of the call's own by number. -/
import Derived.Orders
import Derived.Below
import Derived.Laws.World
set_option linter.all false
set_option linter.unusedVariables false
set_option linter.unusedSimpArgs false
set_option linter.unusedSectionVars false
namespace Go.Abs

inductive AV where
  | lit (v : Value)
  | sl (nil : Bool) (sz : Nat) (els : List (List AV))
  | emp
  | adr (sz : Nat) (els : List (List AV)) (i off : Nat)
  | agg (cs : List AV)
  | tup (vs : List AV)
  | loc (id i off : Nat)
  | lsl (id i len : Nat)
  | clo (fn : Fn) (first cap : List AV)
  | mp (id : Nat)
  | top
  | top1
  deriving Inhabited

/-- what keys a map has -/
inductive KD where
  | str
  | int (k : IntKind)
/-- blocks that hold no cells: maps with their entries in order; the record of a range over a function -/
inductive Ob where
  | smap (kd : KD) (es : List (Value × Value))
  | lp (r : Loop) (s : List (Nat × AV))
  | lpx

inductive Blk where
  | dead
  | resv
  | cells (own nil : Bool) (sz : Nat) (els : List (List AV))
  | obj (o : Ob)
  deriving Inhabited

structure St where
  slots : List (Nat × AV)
  heap : List Blk

def look : List (Nat × AV) → Nat → AV
  | [], _ => .top
  | (i, v) :: r, t => if i = t then v else look r t

def St.get (σ : St) (t : Nat) : AV := look σ.slots t
def St.put (σ : St) (d : Option Nat) (v : AV) : St :=
  match d with
  | some d => { σ with slots := (d, v) :: σ.slots }
  | none => σ

inductive Opd where
  | tmp (t : Nat)
  | val (v : AV)

def ev (s : Nat → AV) : Opd → AV
  | .tmp t => s t
  | .val v => v

/-- the kind of a cell that is compared -/
inductive CK where
  | ci
  | cs
  | cb

inductive AOp where
  | mv (x : Opd)
  | pick (c a b : Opd)
  | bin (op : BinOp) (x y : Opd)
  | eqAgg (neq : Bool) (ks : List CK) (x y : Opd)
  | eqBool (neq : Bool) (x y : Opd)
  | eqNil (neq : Bool) (x : Opd)
  | neg (x : Opd)
  | not (x : Opd)
  | cvInt (k : IntKind) (x : Opd)
  | cvStr (x : Opd)
  | ext (x : Opd) (i : Nat)
  | fld (off n : Nat) (isAgg : Bool) (x : Opd)
  | build (zero : List AV) (parts : List (Nat × Nat × Opd))
  | alloc (zero : List AV)
  | box (sz : Nat) (x : Opd)
  | bslice (sz len : Nat) (zero : List AV) (parts : List (Nat × Opd))
  | load (n : Nat) (isAgg : Bool) (a : Opd)
  | store (n : Nat) (a x : Opd)
  | faddr (off : Nat) (a : Opd)
  | iaddrS (sz : Nat) (x i : Opd)
  | iaddrA (len sz : Nat) (x i : Opd)
  | idxA (len sz : Nat) (isAgg : Bool) (x i : Opd)
  | idxS (x i : Opd)
  | slc (sz : Nat) (x : Opd) (lo hi : Option Opd)
  | slc0 (x hi mx : Opd)
  | slcS (x : Opd) (lo hi : Option Opd)
  | len (x : Opd)
  | lenS (x : Opd)
  | app (sz bytes : Nat) (s x : Opd)
  | mks (sz bytes : Nat) (zero : List AV) (len cap : Opd)
  | mkf (fn : Fn) (first caps : List Opd)
  | nilck (x : Opd)
  | minmax (mx : Bool) (xs : List Opd)
  | mkmap (kd : KD)
  | mlook (kd : KD) (commaOk : Bool) (zero : Value) (x k : Opd)
  | mset (kd : KD) (x k v : Opd)
  | call (raw : Bool) (f : Opd) (args : List Opd)
  | bad
  | copy (x y : Opd)

structure AOper where
  dst : Option Nat
  op : AOp
  guard : Option (Nat × Bool)
  fr : Nat

inductive ACode where
  | skip
  | reg (nfr : Nat) (ops : List AOper)
  | dreg (nfr : Nat) (ops : List (Nat × AOper)) (bef : List (List Nat))
  | seq (a b : ACode)
  | cond (c : Opd) (t e : ACode)
  | block (id : Nat) (b : ACode)
  | loop (b : ACode)
  | exit (id : Nat)
  | ret
  | range (f : Opd) (ps : List Nat) (asg body : ACode)

/-! values -/
def nilSl : AV := .sl true 0 []
def ofValue : Value → AV
  | .slice none 0 0 => .sl true 0 []
  | v => .lit v
def toLits : List AV → Option (List Value)
  | [] => some []
  | .lit v :: r => (toLits r).map (v :: ·)
  | _ => none
def mkAgg (cs : List AV) : AV :=
  match toLits cs with
  | some vs => .lit (.agg vs.toArray)
  | none => .agg cs
def AV.parts : AV → List AV
  | .agg cs => cs
  | .lit (.agg a) => a.toList.map ofValue
  | v => [v]
def isOne : AV → Bool
  | .lit (.agg _) => false
  | .lit (.tuple _) => false
  | .lit _ => true
  | .sl .. | .emp | .adr .. | .loc .. | .lsl .. | .clo .. | .mp _ | .top1 => true
  | _ => false
def cut (row : List AV) (off n : Nat) : List AV := (row.drop off).take n
def value (n : Nat) (isAgg : Bool) (cs : List AV) : Option AV :=
  if cs.length = n then
    if isAgg then some (mkAgg cs) else match cs with | [c] => some c | _ => none
  else none

/-- what a cell of a slice nil has: any size fits the nil slice -/
def szOk (nil : Bool) (a b : Nat) : Bool := nil || a == b

def binV (op : BinOp) : Value → Value → Option Value
  | .int k a, .int k' b =>
    if op = .shl then (if b < 0 then none else some (.int k (k.wrap (a * 2 ^ min b.toNat k.bits))))
    else if op = .shr then (if b < 0 then none else some (.int k (a.fdiv (2 ^ min b.toNat k.bits))))
    else if k = k' then
      match op with
      | .and => some (.int k (k.wrap (BitVec.ofInt k.bits a &&& BitVec.ofInt k.bits b).toNat))
      | .or => some (.int k (k.wrap (BitVec.ofInt k.bits a ||| BitVec.ofInt k.bits b).toNat))
      | .add => some (.int k (k.wrap (a + b)))
      | .sub => some (.int k (k.wrap (a - b)))
      | .mul => some (.int k (k.wrap (a * b)))
      | .quo => if b = 0 then none else some (.int k (k.wrap (a.tdiv b)))
      | .rem => if b = 0 then none else some (.int k (a.tmod b))
      | .eql => some (.bool (a == b))
      | .neq => some (.bool (a != b))
      | .lss => some (.bool (a < b))
      | .leq => some (.bool (a ≤ b))
      | .gtr => some (.bool (a > b))
      | .geq => some (.bool (a ≥ b))
      | _ => none
    else none
  | .string a, .string b =>
    match op with
    | .add => if ((a.size + b.size : Nat) : Int) > IntKind.i64.max then none else some (.string (a ++ b))
    | .eql => some (.bool (a.toList == b.toList))
    | .neq => some (.bool (!(a.toList == b.toList)))
    | .lss => some (.bool (Op.bytesLess a.toList b.toList))
    | _ => none
  | _, _ => none

def cellEq : CK → Value → Value → Option Bool
  | .ci, .int k a, .int k' b => if k = k' then some (a == b) else none
  | .cs, .string a, .string b => some (a.toList == b.toList)
  | .cb, .bool a, .bool b => some (a == b)
  | _, _, _ => none
def cellsEq : List CK → List Value → List Value → Option Bool
  | [], [], [] => some true
  | k :: ks, a :: r, b :: s => match cellEq k a b with
    | some c => if c then cellsEq ks r s else if r.length = ks.length ∧ s.length = ks.length then some false else none
    | none => none
  | _, _, _ => none

def boolV (b : Bool) : AV := .lit (.bool b)
def intV (n : Int) : AV := .lit (.int .i64 n)

def putCells (row : List AV) (off : Nat) (cs : List AV) : List AV := row.take off ++ cs ++ row.drop (off + cs.length)

/-- parts laid into cells: (offset, size, value) -/
def fillA (cells : List AV) : List (Nat × Nat × AV) → Option (List AV)
  | [] => some cells
  | (off, n, v) :: r =>
    if v.parts.length = n ∧ off + n ≤ cells.length ∧ v.parts.all isOne = true then fillA (putCells cells off v.parts) r else none

def rowsOf (sz : Nat) : Nat → List AV → List (List AV)
  | 0, _ => []
  | n + 1, cs => cs.take sz :: rowsOf sz n (cs.drop sz)

/-- the elements of a slice that is read -/
def elsOf (h : Nat → Blk) : AV → Option (Bool × Nat × List (List AV))
  | .sl nil sz els => some (nil, sz, els)
  | .emp => some (false, 0, [])
  | .lsl id i len => match h id with
    | .cells _ nil sz els => if len ≤ els.length - i then some (nil, sz, (els.drop i).take len) else none
    | _ => none
  | _ => none

def lenOf (h : Nat → Blk) : AV → Option Nat
  | .sl _ _ els => some els.length
  | .emp => some 0
  | .lsl id _ len => match h id with
    | .cells .. => some len
    | _ => none
  | _ => none

def asNat (v : AV) : Option Int := match v with | .lit (.int _ n) => some n | _ => none

def boundOf (v : Option AV) (d : Nat) (y : Nat) : Option Nat :=
  match v with
  | none => some d
  | some (.lit (.int _ n)) => if 0 ≤ n ∧ n ≤ y then some n.toNat else none
  | _ => none

/-! maps -/
def keyIs : KD → Value → Bool
  | .str, .string _ => true
  | .int k, .int k' _ => k == k'
  | _, _ => false
def keyEq : Value → Value → Bool
  | .string a, .string b => a.data.toList == b.data.toList
  | .int k a, .int k' b => k == k' && a == b
  | _, _ => false
def mfind (k : Value) : List (Value × Value) → Option Value
  | [] => none
  | (a, v) :: r => if keyEq a k then some v else mfind k r
def mput (k v : Value) : List (Value × Value) → List (Value × Value)
  | [] => [(k, v)]
  | (a, u) :: r => if keyEq a k then (k, v) :: r else (a, u) :: mput k v r
def KD.same : KD → KD → Bool
  | .str, .str => true
  | .int k, .int k' => k == k'
  | _, _ => false

/-- what an operation yields, and what it writes: (block, its new content) -/
def aop (fresh : Nat) (s : Nat → AV) (h : Nat → Blk) : AOp → Option (AV × List (Nat × Blk))
  | .mv x => some (ev s x, [])
  | .pick c a b => match ev s c, ev s a, ev s b with
    | .lit (.bool c), .lit a, .lit b => some (.lit (if c then a else b), [])
    | .lit (.bool c), a, b => some (if c then a else b, [])
    | _, _, _ => none
  | .bin op x y => match ev s x, ev s y with
    | .lit a, .lit b => (binV op a b).map fun v => (.lit v, [])
    | _, _ => none
  | .eqAgg neq ks x y => match ev s x, ev s y with
    | .lit (.agg a), .lit (.agg b) => (cellsEq ks a.toList b.toList).map fun e => (boolV (if neq then !e else e), [])
    | _, _ => none
  | .eqBool neq x y => match ev s x, ev s y with
    | .lit (.bool a), .lit (.bool b) => some (boolV (if neq then !(a == b) else a == b), [])
    | _, _ => none
  | .eqNil neq x => match ev s x with
    | .sl nil _ _ => some (boolV (if neq then !nil else nil), [])
    | .emp => some (boolV neq, [])
    | .lsl id _ _ => match h id with
      | .cells _ nil _ _ => some (boolV (if neq then !nil else nil), [])
      | _ => none
    | _ => none
  | .neg x => match ev s x with
    | .lit (.int k n) => some (.lit (.int k (k.wrap (0 - n))), [])
    | _ => none
  | .not x => match ev s x with
    | .lit (.bool b) => some (boolV (!b), [])
    | _ => none
  | .cvInt k x => match ev s x with
    | .lit (.int _ n) => some (.lit (.int k (k.wrap n)), [])
    | _ => none
  | .cvStr x => match ev s x with
    | .lit (.string b) => some (.lit (.string b), [])
    | _ => none
  | .ext x i => match ev s x with
    | .tup vs => (vs[i]?).map fun v => (v, [])
    | _ => none
  | .fld off n isAgg x => match ev s x with
    | .agg cs => (value n isAgg (cut cs off n)).map fun v => (v, [])
    | .lit (.agg a) => (value n isAgg (cut (a.toList.map ofValue) off n)).map fun v => (v, [])
    | _ => none
  | .build zero parts => (fillA zero (parts.map fun (o, n, x) => (o, n, ev s x))).map fun cs => (mkAgg cs, [])
  | .alloc zero => some (.loc fresh 0 0, [(fresh, .cells true false zero.length [zero])])
  | .box sz x =>
    if (ev s x).parts.length = sz ∧ (ev s x).parts.all isOne = true then some (.loc fresh 0 0, [(fresh, .cells true false sz [(ev s x).parts])]) else none
  | .bslice sz len zero parts =>
    match fillA ((List.replicate len zero).flatten) (parts.map fun (i, x) => (i * sz, sz, ev s x)) with
    | some cs => some (.lsl fresh 0 len, [(fresh, .cells true false sz (rowsOf sz len cs))])
    | none => none
  | .load n isAgg a => match ev s a with
    | .adr _ els i off => (value n isAgg (cut (els.getD i []) off n)).map fun v => (v, [])
    | .loc id i off => match h id with
      | .cells _ _ _ els => (value n isAgg (cut (els.getD i []) off n)).map fun v => (v, [])
      | _ => none
    | _ => none
  | .store n a x => match ev s a with
    | .loc id i off => match h id with
      | .cells true nil sz els =>
        if (ev s x).parts.length = n ∧ (ev s x).parts.all isOne = true ∧ off + n ≤ sz ∧ i < els.length then
          some (.lit undef, [(id, .cells true nil sz (els.set i (putCells (els.getD i []) off (ev s x).parts)))])
        else none
      | _ => none
    | _ => none
  | .faddr off a => match ev s a with
    | .loc id i o => match h id with
      | .cells .. => some (.loc id i (o + off), [])
      | _ => none
    | .adr sz els i o => some (.adr sz els i (o + off), [])
    | _ => none
  | .iaddrS sz x i => match ev s i with
    | .lit (.int _ n) => match ev s x with
      | .sl _ z els => if 0 ≤ n ∧ n < els.length ∧ z = sz then some (.adr z els n.toNat 0, []) else none
      | .lsl id j len => match h id with
        | .cells _ _ z _ => if 0 ≤ n ∧ n < len ∧ z = sz then some (.loc id (j + n.toNat) 0, []) else none
        | _ => none
      | _ => none
    | _ => none
  | .iaddrA len sz x i => match ev s i with
    | .lit (.int _ n) => if 0 ≤ n ∧ n < len then match ev s x with
      | .loc id j o => match h id with
        | .cells .. => some (.loc id j (o + n.toNat * sz), [])
        | _ => none
      | .adr z els j o => some (.adr z els j (o + n.toNat * sz), [])
      | _ => none
      else none
    | _ => none
  | .idxA len sz isAgg x i => match ev s i with
    | .lit (.int _ n) => if 0 ≤ n ∧ n < len then match ev s x with
      | .agg cs => (value sz isAgg (cut cs (n.toNat * sz) sz)).map fun v => (v, [])
      | .lit (.agg a) => (value sz isAgg (cut (a.toList.map ofValue) (n.toNat * sz) sz)).map fun v => (v, [])
      | _ => none
      else none
    | _ => none
  | .idxS x i => match ev s x, ev s i with
    | .lit (.string b), .lit (.int _ n) => if 0 ≤ n then (b[n.toNat]?).map fun c => (.lit (.int .u8 c.toNat), []) else none
    | _, _ => none
  | .slc sz x lo hi => match ev s x with
    | .sl nil z els =>
      match boundOf (hi.map (ev s)) els.length els.length with
      | some e => (boundOf (lo.map (ev s)) 0 e).bind fun b => if szOk nil z sz then some (.sl nil z ((els.take e).drop b), []) else none
      | _ => none
    | .lsl id i len => match h id with
      | .cells _ nil z _ =>
        match boundOf (hi.map (ev s)) len len with
        | some e => (boundOf (lo.map (ev s)) 0 e).bind fun b => if szOk nil z sz then some (.lsl id (i + b) (e - b), []) else none
        | _ => none
      | _ => none
    | .emp => match boundOf (hi.map (ev s)) 0 0, boundOf (lo.map (ev s)) 0 0 with
      | some _, some _ => some (.emp, [])
      | _, _ => none
    | _ => none
  | .slc0 x hi mx => match ev s hi, ev s mx with
    | .lit (.int _ 0), .lit (.int _ 0) => match ev s x with
      | .sl nil z _ => some (if nil then .sl true z [] else .emp, [])
      | .lsl id _ _ => match h id with
        | .cells _ nil z _ => some (if nil then .sl true z [] else .emp, [])
        | _ => none
      | .emp => some (.emp, [])
      | _ => none
    | _, _ => none
  | .slcS x lo hi => match ev s x with
    | .lit (.string b) => (boundOf (hi.map (ev s)) b.size b.size).bind fun e => (boundOf (lo.map (ev s)) 0 e).map fun l => (.lit (.string (b.extract l e)), [])
    | _ => none
  | .len x => (lenOf h (ev s x)).map fun n => (intV n, [])
  | .lenS x => match ev s x with
    | .lit (.string b) => some (intV b.size, [])
    | _ => none
  | .app sz bytes a x => match elsOf h (ev s x) with
    | some (_, z, news) =>
      if szOk (news.isEmpty) z sz then
        match ev s a with
        | .sl true _ _ => if news.length * bytes ≤ 140737488355328 then some (.lsl fresh 0 news.length, [(fresh, .cells true news.isEmpty sz news)]) else none
        | .emp => if news.length * bytes ≤ 140737488355328 then some (.lsl fresh 0 news.length, [(fresh, .cells true false sz news)]) else none
        | .lsl id i len => match h id with
          | .cells true nil z' els =>
            if z' = sz ∧ len ≤ els.length - i ∧ (len + news.length) * bytes ≤ 140737488355328 then
              some (.lsl fresh 0 (len + news.length), [(id, .dead), (fresh, .cells true (nil && news.isEmpty) sz ((els.drop i).take len ++ news))])
            else none
          | _ => none
        | _ => none
      else none
    | none => none
  | .mks sz bytes zero len cap => match ev s len, ev s cap with
    | .lit (.int .i64 n), .lit (.int .i64 c) =>
      if 0 ≤ n ∧ n ≤ c ∧ c * bytes ≤ 140737488355328 ∧ c ≤ 4611686018427387904 then some (.lsl fresh 0 n.toNat, [(fresh, .cells true false sz (List.replicate n.toNat zero))]) else none
    | _, _ => none
  | .mkf fn first caps => some (.clo fn (first.map (ev s)) (caps.map (ev s)), [])
  | .nilck x => match ev s x with
    | .loc id i o => match h id with
      | .cells .. => some (.loc id i o, [])
      | _ => none
    | .adr z els i o => some (.adr z els i o, [])
    | .clo (.func f) a b => some (.clo (.func f) a b, [])
    | .lit (.func (.func f) a b) => some (.lit (.func (.func f) a b), [])
    | _ => none
  | .minmax mx xs => match xs.map (ev s) with
    | [.lit (.int k a), .lit (.int k' b)] => if k = k' then some (.lit (.int k (if mx then (if b > a then b else a) else (if b < a then b else a))), []) else none
    | [.lit (.int k a), .lit (.int k' b), .lit (.int k'' c)] => if k = k' ∧ k = k'' then
        some (.lit (.int k (if mx then (let y := if b > a then b else a; if c > y then c else y) else (let y := if b < a then b else a; if c < y then c else y))), []) else none
    | _ => none
  | .copy x y => match ev s x with
    | .lsl id i len => match h id with
      | .cells true nil z els => match elsOf h (ev s y) with
        | some (_, z', news) =>
          if z = 1 ∧ szOk news.isEmpty z' 1 = true ∧ i + len ≤ els.length then
            some (intV (min news.length len : Nat), [(id, .cells true nil 1 (els.take i ++ news.take len ++ els.drop (i + min news.length len)))])
          else none
        | none => none
      | _ => none
    | _ => none
  | .mkmap kd => some (.mp fresh, [(fresh, .obj (.smap kd []))])
  | .mlook kd ok z x k => match ev s k with
    | .lit key => match ev s x with
      | .mp id => match h id with
        | .obj (.smap kd' es) => if kd.same kd' ∧ keyIs kd key then match mfind key es with
            | some v => some (if ok then .tup [.lit v, boolV true] else .lit v, [])
            | none => some (if ok then .tup [.lit z, boolV false] else .lit z, [])
          else none
        | _ => none
      | _ => none
    | _ => none
  | .mset kd x k v => match ev s k, ev s v with
    | .lit key, .lit val => match ev s x with
      | .mp id => match h id with
        | .obj (.smap kd' es) => if kd.same kd' ∧ keyIs kd key then some (.lit undef, [(id, .obj (.smap kd' (mput key val es)))]) else none
        | _ => none
      | _ => none
    | _, _ => none
  | .call .. | .bad => none

end Go.Abs
