/- An evaluator of Go functions on plain values: operations, regions, code. Nothing is proved here; no condition. -/
import Derived.Test.YtanoofbkhddokaaGreatTa
set_option linter.unusedSimpArgs false
set_option linter.unusedVariables false
namespace Go.Tev

/-! ### types -/

def zeroOk : E → Option Value → Bool
  | .i, some (.int .i64 0) => true
  | .b, some (.int .u8 0) => true
  | .s, some (.string ⟨⟨[]⟩⟩) => true
  | .o, some (.bool false) => true
  | .n, some (.slice none 0 0) => true
  | .t, some (.agg ⟨[.int .i64 0, .int .i64 0, .int .i64 0]⟩) => true
  | _, _ => false

def eKind (P : Program) (e : TypeId) : Option E :=
  match P.underlying e with
  | some (.int .i64) => some .i
  | some (.int .u8) => some .b
  | some .string => some .s
  | some .bool => some .o
  | some (.slice e') => match P.underlying e' with | some (.int .i64) => some .n | _ => none
  | some (.struct _) => some .t
  | _ => none

def eOf (P : Program) (e : TypeId) : Option E :=
  match eKind P e, P.info? e with
  | some k, some i => bif Nat.beq i.size k.sz && (Nat.beq i.bytes k.bytes && zeroOk k i.zero) then some k else none
  | _, _ => none

/-- the elements of a slice type -/
def elemE (P : Program) (t : TypeId) : Option E :=
  match P.underlying t with | some (.slice e) => eOf P e | _ => none

/-- whether a type is a struct or an array; none: there is no such type -/
def aggK (P : Program) (t : TypeId) : Option Bool :=
  match P.underlying t with | some (.struct _) | some (.array _ _) => some true | some _ => some false | none => none

def hasT (P : Program) (t : TypeId) : Bool := match P.info? t with | some _ => true | none => false

def structB (P : Program) (t : TypeId) : Bool :=
  match P.underlying t with | some (.struct _) => true | _ => false

def okL : List SV → Bool | [] => true | x :: r => okS x && okL r
def zeroCells (P : Program) (t : TypeId) : Option (List SV) :=
  match P.info? t with
  | some i => match i.zero with
    | some (.agg cs) => bif okL (cs.toList.map constS) then some (cs.toList.map constS) else none
    | _ => none
  | none => none

/-! ### values -/

def cellsOf : TV → Option (List SV)
  | .c (.s .undef) => none
  | .c (.s x) => bif okS x then some [x] else none
  | .c (.agg l) => bif okL l then some l else none
  | .tup _ => none

/-- of a row's element: a value that is no slice -/
def elC : (e : E) → e.C → (id : Nat) → (i : Int) → CV
  | .i, (n : Int), _, _ => .s (.int .i64 n)
  | .b, (n : Int), _, _ => .s (.int .u8 n)
  | .s, (x : ByteArray), _, _ => .s (.str x)
  | .o, (x : Bool), _, _ => .s (.bool x)
  | .t, (x : Int × Int × Int), _, _ => .agg [.int .i64 x.1, .int .i64 x.2.1, .int .i64 x.2.2]
  | .n, _, id, i => .s (.nslf id i)

def compT (x : Int × Int × Int) : Nat → SV
  | 0 => .int .i64 x.1 | 1 => .int .i64 x.2.1 | 2 => .int .i64 x.2.2 | _ => .undef

/-- one cell of an element -/
def elS : (e : E) → e.C → (off : Nat) → (id : Nat) → (i : Int) → CV
  | .i, (n : Int), _, _, _ => .s (.int .i64 n)
  | .b, (n : Int), _, _, _ => .s (.int .u8 n)
  | .s, (x : ByteArray), _, _, _ => .s (.str x)
  | .o, (x : Bool), _, _, _ => .s (.bool x)
  | .t, (x : Int × Int × Int), off, _, _ => .s (compT x off)
  | .n, _, _, id, i => .s (.nslf id i)

def toEl (rows : Rows) : (e : E) → CV → Option (e.C × Us)
  | .i, .s (.int .i64 n) => some (n, [])
  | .b, .s (.int .u8 n) => some (n, [])
  | .s, .s (.str x) => some (x, [])
  | .o, .s (.bool x) => some (x, [])
  | .t, .agg [.int .i64 x, .int .i64 y, .int .i64 z] => some ((x, y, z), [])
  | .n, .s v => match takeL rows (.sl true .i) v with | some (x, us, _) => some (x, us) | none => none
  | _, _ => none

def toEls (rows : Rows) (e : E) : List CV → Option (List e.C × Us)
  | [] => some ([], [])
  | v :: vs => match toEl rows e v with
    | some (x, us) => match toEls (appR rows us) e vs with
      | some (xs, us') => some (x :: xs, us ++ us')
      | none => none
    | none => none

/-- a byte of a string -/
def bt (s : ByteArray) (i : Int) : Int := ((s.data.toList.getD i.toNat 0).toNat : Int)
/-- the string of a row of bytes -/
def strOf (l : List Int) : ByteArray := ⟨(l.map fun n => UInt8.ofNat n.toNat).toArray⟩

def bAnd (k : IntKind) (a b : Int) : Int := k.wrap (BitVec.ofInt k.bits a &&& BitVec.ofInt k.bits b).toNat
def bOr (k : IntKind) (a b : Int) : Int := k.wrap (BitVec.ofInt k.bits a ||| BitVec.ofInt k.bits b).toNat
def bXor (k : IntKind) (a b : Int) : Int := k.wrap (BitVec.ofInt k.bits a ^^^ BitVec.ofInt k.bits b).toNat
def mnI (x y : Int) : Int := if y < x then y else x
def mxI (x y : Int) : Int := if y > x then y else x

structure F where
  checks : List Bool
  v : TV
  us : Us

def pureS (x : SV) : Option F := some ⟨[], .c (.s x), []⟩

def eqCells : List SV → List SV → Option Bool
  | [], [] => some true
  | .int k a :: r, .int k' b :: r' => match eqCells r r' with | some x => bif kindSame k k' then some ((a == b) && x) else none | none => none
  | .bool a :: r, .bool b :: r' => match eqCells r r' with | some x => some ((a == b) && x) | none => none
  | _, _ => none

def fieldOk (P : Program) (t : TypeId) : SV → Bool
  | .int _ _ => (match P.underlying t with | some (.int _) => true | _ => false)
  | .bool _ => (match P.underlying t with | some .bool => true | _ => false)
  | _ => false

/-- a struct of ints and bools alone, none of them blank -/
def flatFields (P : Program) : Nat → List Field → List SV → Bool
  | _, [], [] => true
  | k, f :: r, x :: l => (Nat.beq f.offset k) && ((f.name != "_") && (fieldOk P f.type x && flatFields P (k + 1) r l))
  | _, _, _ => false

def structEqOk (P : Program) (t : TypeId) (l : List SV) : Bool :=
  match P.underlying t with
  | some (.struct fs) => flatFields P 0 fs.toList l && (!P.stoodInHeld t && !P.eqGuardType P.depth t)
  | _ => false

def binF (P : Program) (op : BinOp) (t : TypeId) : TV → TV → Option F
  | .c (.s (.int k a)), .c (.s (.int k' b)) => match op with
    | .shr => some ⟨[decide (0 ≤ b)], .c (.s (.int k (a.fdiv (2 ^ (min b.toNat k.bits))))), []⟩
    | .shl => some ⟨[decide (0 ≤ b)], .c (.s (.int k (k.wrap (a * 2 ^ (min b.toNat k.bits))))), []⟩
    | op => bif kindSame k k' then (match op with
      | .add => pureS (.int k (k.wrap (a + b)))
      | .sub => pureS (.int k (k.wrap (a - b)))
      | .mul => pureS (.int k (k.wrap (a * b)))
      | .quo => some ⟨[b != 0], .c (.s (.int k (k.wrap (a.tdiv b)))), []⟩
      | .rem => some ⟨[b != 0], .c (.s (.int k (a.tmod b))), []⟩
      | .and => pureS (.int k (bAnd k a b))
      | .or => pureS (.int k (bOr k a b))
      | .xor => pureS (.int k (bXor k a b))
      | .eql => pureS (.bool (a == b))
      | .neq => pureS (.bool (a != b))
      | .lss => pureS (.bool (decide (a < b)))
      | .leq => pureS (.bool (decide (a ≤ b)))
      | .gtr => pureS (.bool (decide (a > b)))
      | .geq => pureS (.bool (decide (a ≥ b)))
      | _ => none) else none
  | .c (.s (.str a)), .c (.s (.str b)) => match op with
    | .add => some ⟨[decide (a.size + b.size ≤ 4611686018427387904)], .c (.s (.str (a ++ b))), []⟩
    | .eql => pureS (.bool (a.toList == b.toList))
    | .neq => pureS (.bool (!(a.toList == b.toList)))
    | _ => none
  | .c (.s (.bool a)), .c (.s (.bool b)) => match P.underlying t with
    | some .bool => (match op with
      | .eql => pureS (.bool (a == b))
      | .neq => pureS (.bool (!(a == b)))
      | _ => none)
    | _ => none
  | .c (.agg l), .c (.agg l') => match eqCells l l', structEqOk P t l with
    | some x, true => match op with
      | .eql => pureS (.bool x)
      | .neq => pureS (.bool (!x))
      | _ => none
    | _, _ => none
  | _, _ => none

def fieldsOk (P : Program) : List Field → Bool | [] => true | f :: r => hasT P f.type && fieldsOk P r

/-- fill the parts of a struct -/
def fillF (P : Program) (fs : List Field) : List SV → List (Nat × TV) → Option (List SV)
  | cs, [] => some cs
  | cs, (i, v) :: r => match fs[i]?, cellsOf v with
    | some f, some vs => bif Nat.beq vs.length (P.cellsOf f.type) && Nat.ble (f.offset + vs.length) cs.length then fillF P fs (setsAt cs f.offset vs) r else none
    | _, _ => none

def inOrder : Nat → List (Nat × TV) → Option (List CV)
  | _, [] => some []
  | k, (i, .c v) :: r => bif Nat.beq i k then (match inOrder (k + 1) r with | some vs => some (v :: vs) | none => none) else none
  | _, _ => none

def loadF (P : Program) (rows : Rows) (t : TypeId) : TV → Option F
  | .c (.s (.ptr id off)) => match boxC rows id with
    | some cs =>
      match aggK P t with
      | some true => bif Nat.ble (off + P.cellsOf t) cs.length && okL ((cs.drop off).take (P.cellsOf t)) then some ⟨[], .c (.agg ((cs.drop off).take (P.cellsOf t))), []⟩ else none
      | some false => (match cs[off]? with | some x => bif okS x then pureS x else none | none => none)
      | none => none
    | none => none
  | .c (.s (.eptr id i off)) => match rows id with
    | some (.row _ e l) => match aggK P t with
      | some true => (match e, l with
        | .t, l => bif Nat.beq off 0 && Nat.beq (P.cellsOf t) 3 then some ⟨[], .c (elC .t (rdE .t l i) id i), []⟩ else none
        | _, _ => none)
      | some false => bif Nat.blt off e.sz then some ⟨[], .c (elS e (rdE e l i) off id i), []⟩ else none
      | none => none
    | _ => none
  | .c (.s (.nptr id i j)) => match rows id with
    | some (.row _ .n l) => (match aggK P t with
      | some false => pureS (.int .i64 (rdI (rdE .n l i) j))
      | _ => none)
    | _ => none
  | _ => none

def setT (x : Int × Int × Int) (v : Int) : Nat → Int × Int × Int
  | 0 => (v, x.2.1, x.2.2) | 1 => (x.1, v, x.2.2) | _ => (x.1, x.2.1, v)

def storeF (P : Program) (rows : Rows) (t : TypeId) : TV → TV → Option F
  | .c (.s (.ptr id off)), v => match rows id, cellsOf v with
    | some (.box cs), some vs =>
      bif (hasT P t && Nat.beq vs.length (P.cellsOf t)) && (Nat.ble (off + vs.length) cs.length && okL ((cs.drop off).take vs.length)) then some ⟨[], voidT, [(id, .box (setsAt cs off vs))]⟩ else none
    | _, _ => none
  | .c (.s (.eptr id i off)), .c v => match rows id with
    | some (.row true e l) => match e, l, v with
      | .n, l, .s (.nsld id' i' o) => match decEq i i', Nat.beq id id' with
        | isTrue _, true => bif Nat.beq off 0 && Nat.beq (P.cellsOf t) 1 then some ⟨[decide (0 ≤ o), decide (o ≤ ((rdE .n l i).length : Int))], voidT, [(id, .scrub), (id, .row true .n (l.set i.toNat ((rdE .n l i).drop o.toNat)))]⟩ else none
        | _, _ => none
      | .t, l, .s (.int .i64 n) => bif Nat.blt off 3 && Nat.beq (P.cellsOf t) 1 then some ⟨[], voidT, [(id, .row true .t (l.set i.toNat (setT (rdE .t l i) n off)))]⟩ else none
      | .n, l, .s v => match takeL rows (.sl true .i) v with
        | some (x, us, _) => bif Nat.beq off 0 && Nat.beq (P.cellsOf t) 1 then some ⟨[], voidT, us ++ [(id, .scrub), (id, .row true .n (l.set i.toNat x))]⟩ else none
        | none => none
      | e, l, v => match toEl rows e v with
        | some (x, us) => bif Nat.beq off 0 && Nat.beq (P.cellsOf t) e.sz then some ⟨[], voidT, us ++ [(id, .row true e (l.set i.toNat x))]⟩ else none
        | none => none
    | _ => none
  | .c (.s (.nptr id i j)), .c (.s (.int .i64 n)) => match rows id with
    | some (.row true .n l) => bif Nat.beq (P.cellsOf t) 1 then some ⟨[], voidT, [(id, .row true .n (l.set i.toNat ((rdE .n l i).set j.toNat n)))]⟩ else none
    | _ => none
  | _, _ => none

def idxF (rows : Rows) (e : E) (i : Int) : SV → Option F
  | .slf id => match rows id with
    | some (.row _ e' l) => bif E.same e e' then some ⟨[decide (0 ≤ i), decide (i < (l.length : Int))], .c (.s (.eptr id i 0)), []⟩ else none
    | _ => none
  | .sld id o => match rows id with
    | some (.row _ e' l) => bif E.same e e' then some ⟨[decide (0 ≤ i), decide (i < (l.length : Int) - o)], .c (.s (.eptr id (o + i) 0)), []⟩ else none
    | _ => none
  | .slt id n => match rows id with
    | some (.row _ e' _) => bif E.same e e' then some ⟨[decide (0 ≤ i), decide (i < n)], .c (.s (.eptr id i 0)), []⟩ else none
    | _ => none
  | .nslf id k => match rows id, e with
    | some (.row _ .n l), .i => some ⟨[decide (0 ≤ i), decide (i < ((rdE .n l k).length : Int))], .c (.s (.nptr id k i)), []⟩
    | _, _ => none
  | _ => none

def lenF (rows : Rows) : TV → Option F
  | .c (.s .nil) => pureS (.int .i64 0)
  | .c (.s (.slf id)) => match rows id with | some (.row _ _ l) => pureS (.int .i64 (l.length : Int)) | _ => none
  | .c (.s (.sld id o)) => match rows id with | some (.row _ _ l) => pureS (.int .i64 ((l.length : Int) - o)) | _ => none
  | .c (.s (.slt id n)) => match rows id with | some (.row _ _ _) => pureS (.int .i64 n) | _ => none
  | .c (.s (.nslf id i)) => match rows id with | some (.row _ .n l) => pureS (.int .i64 ((rdE .n l i).length : Int)) | _ => none
  | _ => none

def isStr (P : Program) (t : TypeId) : Bool := match P.underlying t with | some .string => true | _ => false
def isRow (P : Program) (t : TypeId) (e : E) : Bool := match elemE P t with | some e' => E.same e' e | none => false

def sliceF (P : Program) (rows : Rows) (t : TypeId) : TV → Option TV → Option TV → Option F
  | .c (.s (.str s)), none, some (.c (.s (.int _ hi))) => bif isStr P t then some ⟨[decide (0 ≤ hi), decide (hi ≤ (s.size : Int))], .c (.s (.str (s.extract 0 hi.toNat))), []⟩ else none
  | .c (.s (.str s)), some (.c (.s (.int _ lo))), none => bif isStr P t then some ⟨[decide (0 ≤ lo), decide (lo ≤ (s.size : Int))], .c (.s (.str (s.extract lo.toNat s.size))), []⟩ else none
  | .c (.s (.str s)), some (.c (.s (.int _ lo))), some (.c (.s (.int _ hi))) => bif isStr P t then some ⟨[decide (0 ≤ hi), decide (hi ≤ (s.size : Int)), decide (0 ≤ lo), decide (lo ≤ hi)], .c (.s (.str (s.extract lo.toNat hi.toNat))), []⟩ else none
  | .c (.s (.slf id)), some (.c (.s (.int _ lo))), none => match rows id with
    | some (.row _ e l) => bif isRow P t e then some ⟨[decide (0 ≤ lo), decide (lo ≤ (l.length : Int))], .c (.s (.sld id lo)), []⟩ else none
    | _ => none
  | .c (.s (.slf id)), none, some (.c (.s (.int _ hi))) => match rows id with
    | some (.row _ e l) => bif isRow P t e then some ⟨[decide (0 ≤ hi), decide (hi ≤ (l.length : Int))], .c (.s (.slt id hi)), []⟩ else none
    | _ => none
  | .c (.s (.nslf id i)), some (.c (.s (.int _ lo))), none => match rows id with
    | some (.row _ .n l) => bif isRow P t .i then some ⟨[decide (0 ≤ lo), decide (lo ≤ ((rdE .n l i).length : Int))], .c (.s (.nsld id i lo)), []⟩ else none
    | _ => none
  | _, _, _ => none

def ioOk : Option (Nat × Bool) → Bool | none => true | some (_, o) => o
def ioKill : Option (Nat × Bool) → Us | none => [] | some (id, _) => [(id, .dead)]
def ioOkN : E → Option (Nat × Bool) → Bool | .n, x => ioOk x | _, _ => true
def ioKillN : E → Option (Nat × Bool) → Us | .n, x => ioKill x | _, _ => []

def appendF (P : Program) (rows : Rows) (fresh : Nat) (t : TypeId) : TV → TV → Option F
  | .c (.s v), .c (.s x) => match elemE P t with
    | some e => match sliceOf rows e v with
      | some (l, own) =>
        match sliceOf (appR rows (ioKill own)) e x with
        | some (l2, own2) => bif ioOk own && ioOkN e own2 then some ⟨[decide (l.length + l2.length ≤ e.most)], .c (.s (.slf fresh)), (ioKill own ++ ioKillN e own2) ++ [(fresh, .row true e (l ++ l2))]⟩ else none
        | none => none
      | none => none
    | none => none
  | _, _ => none

def makeF (P : Program) (fresh : Nat) (t : TypeId) : TV → Option F
  | .c (.s (.int .i64 n)) => match elemE P t with
    | some e => some ⟨[decide (0 ≤ n), decide (n.toNat ≤ e.most)], .c (.s (.slf fresh)), [(fresh, .row true e (List.replicate n.toNat e.zero))]⟩
    | none => none
  | _ => none

/-- one operand twice -/
def opSame : Operand → Operand → Bool
  | .tmp a, .tmp b => Nat.beq a b
  | .const (.int .i64 (.ofNat a)), .const (.int .i64 (.ofNat b)) => Nat.beq a b
  | _, _ => false

def convF (P : Program) (rows : Rows) (src dst : TypeId) : TV → Option F
  | .c (.s (.int _ n)) => match P.underlying src, P.underlying dst with
    | some (.int _), some (.int k) => pureS (.int k (k.wrap n))
    | _, _ => none
  | .c (.s v) => match elemE P src, P.underlying dst, sliceOf rows .b v with
    | some .b, some .string, some (l, _) => pureS (.str (strOf l))
    | _, _, _ => none
  | _ => none

def fieldOff (P : Program) (t : TypeId) (f : Nat) : Option (Nat × TypeId) :=
  match P.underlying t with
  | some (.struct fs) => match fs.toList[f]? with
    | some x => bif Nat.beq (P.cellsOf x.type) 0 then none else some (x.offset, x.type)
    | none => none
  | _ => none

def optEv (st : St) : Option Operand → Option TV | none => none | some x => some (st.ev x)

def pairsEv (st : St) : List (Nat × Operand) → List (Nat × TV) | [] => [] | (i, x) :: r => (i, st.ev x) :: pairsEv st r

def fetch (P : Program) (fresh : Nat) (st : St) : Op → Option F
  | .move x => some ⟨[], st.ev x, []⟩
  | .assign x => some ⟨[], st.ev x, []⟩
  | .alloc t => match zeroCells P t with | some cs => some ⟨[], .c (.s (.ptr fresh 0)), [(fresh, .box cs)]⟩ | none => none
  | .box _ x => match cellsOf (st.ev x) with | some cs => some ⟨[], .c (.s (.ptr fresh 0)), [(fresh, .box cs)]⟩ | none => none
  | .build t parts => match P.underlying t, zeroCells P t with
    | some (.struct fs), some cs => bif fieldsOk P fs.toList then (match fillF P fs.toList cs (pairsEv st parts.toList) with | some cs' => some ⟨[], .c (.agg cs'), []⟩ | none => none) else none
    | _, _ => none
  | .buildSlice t n parts => match elemE P t, inOrder 0 (pairsEv st parts.toList) with
    | some e, some vs => bif Nat.beq vs.length n && Nat.ble n 1000 then (match toEls st.rows e vs with
      | some (l, us) => some ⟨[], .c (.s (.slf fresh)), us ++ [(fresh, .row true e l)]⟩
      | none => none) else none
    | _, _ => none
  | .load t x => loadF P st.rows t (st.ev x)
  | .store t x y => storeF P st.rows t (st.ev x) (st.ev y)
  | .nilCheck x => match st.ev x with
    | .c (.s (.ptr id o)) => pureS (.ptr id o)
    | .c (.s (.eptr id i o)) => pureS (.eptr id i o)
    | _ => none
  | .binOp op t x y _ => binF P op t (st.ev x) (st.ev y)
  | .unOp .not _ x => match st.ev x with | .c (.s (.bool b)) => pureS (.bool (!b)) | _ => none
  | .convert src dst x => convF P st.rows src dst (st.ev x)
  | .makeSlice t l c => bif opSame l c then makeF P fresh t (st.ev l) else none
  | .slice t x lo hi none => sliceF P st.rows t (st.ev x) (optEv st lo) (optEv st hi)
  | .fieldAddr t x f => match fieldOff P t f, st.ev x with
    | some (o, _), .c (.s (.ptr id off)) => pureS (.ptr id (off + o))
    | some (o, _), .c (.s (.eptr id i off)) => pureS (.eptr id i (off + o))
    | _, _ => none
  | .field t x f => match fieldOff P t f, st.ev x with
    | some (o, ft), .c (.agg cs) => match aggK P ft with
      | some true => bif Nat.ble (o + P.cellsOf ft) cs.length then some ⟨[], .c (.agg ((cs.drop o).take (P.cellsOf ft))), []⟩ else none
      | some false => (match cs[o]? with | some v => bif okS v then pureS v else none | none => none)
      | none => none
    | _, _ => none
  | .indexAddr t x ix => match elemE P t, st.ev x, st.ev ix with
    | some e, .c (.s v), .c (.s (.int _ i)) => idxF st.rows e i v
    | _, _, _ => none
  | .index t x ix => match P.underlying t, st.ev x, st.ev ix with
    | some .string, .c (.s (.str s)), .c (.s (.int _ i)) => some ⟨[decide (0 ≤ i), decide (i < (s.size : Int))], .c (.s (.int .u8 (bt s i))), []⟩
    | _, _, _ => none
  | .extract x k => match st.ev x with
    | .tup l => (match l[k]? with | some v => some ⟨[], .c v, []⟩ | none => none)
    | _ => none
  | _ => none

def minmax (f : Int → Int → Int) : List TV → Option F
  | [.c (.s (.int k a)), .c (.s (.int k' b))] => bif kindSame k k' then pureS (.int k (f a b)) else none
  | _ => none

def fetchB (P : Program) (fresh : Nat) (st : St) (b : Builtin) (argTypes : List TypeId) (args : List TV) : Option F :=
  match b, args, argTypes with
  | .len, [x], [t] => match P.underlying t, x with
    | some .string, .c (.s (.str s)) => pureS (.int .i64 (s.size : Int))
    | some (.slice _), x => lenF st.rows x
    | _, _ => none
  | .append, [x, y], [t, t'] => bif Nat.beq t t' then appendF P st.rows fresh t x y else none
  | .min, xs, _ => minmax mnI xs
  | .max, xs, _ => minmax mxI xs
  | _, _, _ => none

def guardC {R : Type} : List Bool → Option R → Option R
  | [], x => x | c :: cs, x => bif c then guardC cs x else none

def evs (st : St) : List Operand → List TV | [] => [] | x :: r => st.ev x :: evs st r

/-- every lent struct is there -/
def pbOk : (ts : List Ty) → BTup ts → List TV → Rows → Nat → Bool
  | [], _, _, _, _ => true
  | .p ts :: r, x, .c (.s (.ptr id off)) :: vs, rows, base =>
    match rows id with
    | some (.box cs) =>
      let q := putOwn ts x.1 ((cs.drop off).take ts.length) base
      let us := q.2 ++ [(id, .box (setsAt cs off q.1))]
      pbOk r x.2 vs (appR rows us) (base + 64)
    | _ => false
  | .v _ :: r, x, _ :: vs, rows, base => pbOk r x vs rows (base + 64)
  | .a _ :: r, x, _ :: vs, rows, base => pbOk r x vs rows (base + 64)
  | .r _ :: r, x, _ :: vs, rows, base => pbOk r x vs rows (base + 64)
  | .p _ :: _, _, _, _, _ => false
  | _ :: _, _, [], _, _ => false

def callF {R : Type} (f : Fn) (fresh : Nat) (st : St) (args : List TV) (K : TV → Us → Option R) : Option R :=
  match takeAll st.rows f.ins args with
  | some (y, us) => (f.run y).bind fun r =>
    bif pbOk f.ins r.2 args (appR st.rows us) (fresh + 512) then K (packT (putTys f.outs r.1 fresh).1) (us ++ (putBack f.ins r.2 args (appR st.rows us) (fresh + 512) ++ (putTys f.outs r.1 fresh).2)) else none
  | none => none

/-- a call whose results may hold what is lent -/
def callL {R : Type} (f : Fn) (fresh : Nat) (st : St) (args : List TV) (K : TV → Us → Option R) : Option R :=
  bif noPs f.ins then (match takeAllL st.rows f.ins args with
  | some (y, us) => (f.run y).bind fun r => K (packT (putTys f.outs r.1 fresh).1) (us ++ (putTys f.outs r.1 fresh).2)
  | none => none) else none

/-- a slice that was turned in place -/
def scr (e : E) (id : Nat) : Us := match e with | .n => [(id, .scrub)] | _ => []
def backL (rows : Rows) : (t : LT) → t.D → SV → Option Us
  | .sl true e, l, .slf id => (match rows id with | some (.row true e' _) => bif E.same e e' then some (scr e id ++ [(id, .row true e l)]) else none | _ => none)
  | .sl true _, _, .nil => some []
  | .sl _ _, _, _ => none
  | .mb _, _, _ => none
  | _, _, _ => some []
def backLs (rows : Rows) : (ts : List LT) → Tup ts → List SV → Option Us
  | [], _, [] => some []
  | t :: ts, x, v :: vs => (match backL rows t x.1 v with | some a => (match backLs rows ts x.2 vs with | some b => some (a ++ b) | none => none) | none => none)
  | _, _, _ => none
def backT (rows : Rows) : (t : Ty) → t.D → TV → Option Us
  | .v t, x, .c (.s v) => backL rows t x v
  | .a ts, x, .c (.agg l) => backLs rows ts x l
  | _, _, _ => none

/-- a call that turns its first argument in place -/
def callM {R : Type} (f : Fn) (st : St) (args : List TV) (K : TV → Us → Option R) : Option R :=
  match f, args with
  | ⟨[.v (.sl true .i), .v (.int .i64)], [.v (.int .i64), .v (.sl true .i)], run, _⟩, [.c (.s (.nslf id i)), .c (.s (.int .i64 k))] => (match st.rows id with
    | some (.row true .n l) => (run (rdE .n l i, (k, ()))).bind fun r => K (.c (.s (.int .i64 r.1.1))) [(id, .row true .n (l.set i.toNat r.1.2.1))]
    | _ => none)
  | ⟨[t, .v (.int .i64)], [.v (.int .i64), t'], run, _⟩, [tv, .c (.s (.int .i64 k))] => bif t.noP then (match takeAll st.rows [t, .v (.int .i64)] [tv, .c (.s (.int .i64 k))] with
    | some (y, us) => (run y).bind fun r => (match backT st.rows t' r.1.2.1 tv with
      | some b => K (.c (.s (.int .i64 r.1.1))) (us ++ b)
      | none => none)
    | none => none) else none
  | _, _ => none

/-- a call whose first result is junk if the second is false -/
def undefs : List LT → List SV | [] => [] | _ :: ts => .undef :: undefs ts
def callY {R : Type} (f : Fn) (fresh : Nat) (st : St) (args : List TV) (K : TV → Us → Option R) : Option R :=
  match f with
  | ⟨ins, [.a ts, .v .bool], run, _⟩ => bif noPs ins then (match takeAll st.rows ins args with
    | some (y, us) => (run y).bind fun r => bif r.1.2.1 then K (.tup [.agg (putLs ts r.1.1 fresh).1, .s (.bool true)]) (us ++ (putLs ts r.1.1 fresh).2) else K (.tup [.agg (undefs ts), .s (.bool false)]) us
    | none => none) else none
  | _ => none

def callX {R : Type} (f : Fn) (fresh : Nat) (st : St) (args : List TV) (K : TV → Us → Option R) : Option R :=
  match f.kd with
  | .nor => callF f fresh st args K
  | .inp => callM f st args K
  | .lnt => callL f fresh st args K
  | .may => callY f fresh st args K

def fetched {R : Type} (K : TV → Us → Option R) : Option F → Option R
  | none => none | some f => guardC f.checks (K f.v f.us)

def tevOp {R : Type} (env : Env) (fresh : Nat) (op : Op) (st : St) (K : TV → Us → Option R) : Option R :=
  match op with
  | .pick c a b => match st.ev c with
    | .c (.s (.bool x)) => bif x then K (st.ev a) [] else K (st.ev b) []
    | _ => none
  | .call c => match c.callee with
    | .value f => match st.ev f with
      | .c (.s (.fn g)) => match env.fns g with
        | some f => callX f fresh st (evs st c.args.toList) K
        | none => none
      | _ => none
    | .builtin b => fetched K (fetchB env.prog fresh st b c.argTypes.toList (evs st c.args.toList))
    | _ => none
  | op => fetched K (fetch env.prog fresh st op)

/-- references into rows of rows that an operation makes stale -/
def scrubs : Us → List Nat | [] => [] | (i, .scrub) :: r => i :: scrubs r | _ :: r => scrubs r
def memN (x : Nat) : List Nat → Bool | [] => false | y :: r => bif Nat.beq x y then true else memN x r
def scrubS (ks : List Nat) : SV → SV
  | .nptr id i j => bif memN id ks then .undef else .nptr id i j
  | .nslf id i => bif memN id ks then .undef else .nslf id i
  | .nsld id i o => bif memN id ks then .undef else .nsld id i o
  | x => x
def scrubC (ks : List Nat) : CV → CV | .s x => .s (scrubS ks x) | .agg l => .agg (l.map (scrubS ks))
def scrubT (ks : List Nat) : TV → TV | .c x => .c (scrubC ks x) | .tup l => .tup (l.map (scrubC ks))
def scrubA (f : Nat → TV) : List Nat → (Nat → TV) | [] => f | ks => fun t => scrubT ks (f t)

def St.app (st : St) (dst : Option Nat) (v : TV) (us : Us) : St :=
  match dst with
  | some d => { st with tmps := updT (scrubA st.tmps (scrubs us)) d v, rows := appR st.rows us }
  | none => { st with tmps := scrubA st.tmps (scrubs us), rows := appR st.rows us }

def dstOk (st : St) : Option Nat → Bool | some d => Nat.blt d st.nt | none => true

def usLt (n : Nat) : Us → Bool | [] => true | (i, _) :: r => bif Nat.blt i n then usLt n r else false

def tevO {R : Type} (env : Env) (fresh : Nat) (o : Oper) (st : St) (K : St → Option R) : Option R :=
  bif dstOk st o.dst then tevOp env fresh o.op st fun v us => bif usLt (fresh + 1024) us then K (st.app o.dst v us) else none else none

def skipO {R : Type} (o : Oper) (st : St) (K : St → Option R) : Option R :=
  bif dstOk st o.dst then K (st.app o.dst voidT []) else none

/-- the operations of a region, in the order of the text -/
def tevOps {R : Type} (env : Env) (all : List Oper) : List Oper → (fresh : Nat) → St → (St → Option R) → Option R
  | [], _, st, K => K st
  | o :: r, fresh, st, K => match o.guard with
    | none => tevO env fresh o st fun st' => tevOps env all r (fresh + 1024) st' K
    | some (j, want) => match all[j]? with
      | some oj => match oj.dst with
        | some t => match st.tmps t with
          | .c (.s (.bool b)) =>
            bif b then
              (let s := { st with tmps := updT st.tmps t (.c (.s (.bool true))) }
               bif want then tevO env fresh o s fun st' => tevOps env all r (fresh + 1024) st' K
               else skipO o s fun st' => tevOps env all r (fresh + 1024) st' K)
            else
              (let s := { st with tmps := updT st.tmps t (.c (.s (.bool false))) }
               bif want then skipO o s fun st' => tevOps env all r (fresh + 1024) st' K
               else tevO env fresh o s fun st' => tevOps env all r (fresh + 1024) st' K)
          | .c (.s .void) => skipO o st fun st' => tevOps env all r (fresh + 1024) st' K
          | _ => none
        | none => none
      | none => none

end Go.Tev
