/- An evaluator of Go functions on plain values: the definitions. Nothing is proved here; no condition. -/
import GoSem.Step
set_option linter.unusedSimpArgs false
set_option linter.unusedVariables false
namespace Go.Tev

/-- what a row is made of -/
inductive E where | i | b | s | t | n | o

@[reducible] def E.C : E → Type
  | .i => Int | .b => Int | .s => ByteArray | .t => Int × Int × Int | .n => List Int | .o => Bool

def E.sz : E → Nat | .t => 3 | _ => 1
def E.bytes : E → Nat | .i => 8 | .b => 1 | .s => 16 | .t => 24 | .n => 24 | .o => 1
/-- how many elements a row may have: 2^47 bytes -/
def E.most : E → Nat | .i => 17592186044416 | .b => 140737488355328 | .s => 8796093022208 | .t => 5864062014805 | .n => 5864062014805 | .o => 140737488355328

def E.zero : (e : E) → e.C | .i => (0 : Int) | .b => (0 : Int) | .s => ByteArray.empty | .t => ((0 : Int), (0 : Int), (0 : Int)) | .n => ([] : List Int) | .o => false

def E.same : E → E → Bool
  | .i, .i | .b, .b | .s, .s | .t, .t | .n, .n | .o, .o => true | _, _ => false

def castC : (e e' : E) → List e.C → Option (List e'.C)
  | .i, .i, l => some l | .b, .b, l => some l | .s, .s, l => some l | .t, .t, l => some l | .n, .n, l => some l | .o, .o, l => some l | _, _, _ => none

def kindSame : IntKind → IntKind → Bool
  | .i64, .i64 | .u8, .u8 | .u64, .u64 | .i32, .i32 | .u32, .u32 | .i8, .i8 | .i16, .i16 | .u16, .u16 => true | _, _ => false

/-- what a leaf (a cell of a struct, a scalar) is handed over as -/
inductive LT where | int (k : IntKind) | bool | str | sl (own : Bool) (e : E) | fn (f : Nat) | mb (e : E)

@[reducible] def LT.D : LT → Type
  | .int _ => Int | .bool => Bool | .str => ByteArray | .sl _ e => List e.C | .fn _ => Unit | .mb e => Option (List e.C)

@[reducible] def Tup : List LT → Type | [] => Unit | t :: ts => t.D × Tup ts

/-- a scalar, a struct, a struct behind a pointer: that may be written and comes back; that is only read -/
inductive Ty where | v (t : LT) | a (ts : List LT) | p (ts : List LT) | r (ts : List LT)
@[reducible] def Ty.D : Ty → Type | .v t => t.D | .a ts => Tup ts | .p ts => Tup ts | .r ts => Tup ts
@[reducible] def PTup : List Ty → Type | [] => Unit | t :: ts => t.D × PTup ts
/-- of the parameters those that are pointers to structs -/
@[reducible] def BTup : List Ty → Type | [] => Unit | .p ts :: r => Tup ts × BTup r | _ :: r => BTup r

inductive SV where
  | undef | void
  | int (k : IntKind) (n : Int) | bool (b : Bool) | str (s : ByteArray)
  | ptr (id off : Nat) | eptr (id : Nat) (i : Int) (off : Nat) | nptr (id : Nat) (i j : Int)
  | nil | slf (id : Nat) | sld (id : Nat) (o : Int) | slt (id : Nat) (n : Int) | nslf (id : Nat) (i : Int) | nsld (id : Nat) (i o : Int)
  | fn (f : Nat)
  | lent | lsl (id : Nat)
inductive CV where | s (x : SV) | agg (l : List SV)
inductive TV where | c (x : CV) | tup (l : List CV)

inductive Row where | dead | scrub | box (cs : List SV) | rbox (cs : List SV) | row (own : Bool) (e : E) (l : List e.C)

abbrev Rows := Nat → Option Row
abbrev Us := List (Nat × Row)

def updR (r : Rows) (i : Nat) (x : Row) : Rows := fun j => bif Nat.beq j i then some x else r j
def updT (r : Nat → TV) (i : Nat) (x : TV) : Nat → TV := fun j => bif Nat.beq j i then x else r j
def appR (r : Rows) : Us → Rows | [] => r | (i, x) :: us => appR (updR r i x) us

structure St where
  tmps : Nat → TV
  rows : Rows
  nt : Nat
  next : Nat

def undefT : TV := .c (.s .undef)
def voidT : TV := .c (.s .void)

/-- element at a place -/
def rdE (e : E) (l : List e.C) (i : Int) : e.C := l.getD i.toNat e.zero
def rdI (l : List Int) (i : Int) : Int := l.getD i.toNat 0

def constS : Value → SV
  | .int k n => .int k n | .bool b => .bool b | .string s => .str s | .slice none 0 0 => .nil | .agg _ | .tuple _ => .lent | _ => .undef
def constV : Value → TV
  | .agg cs => .c (.agg (cs.toList.map constS)) | v => .c (.s (constS v))

def St.ev (st : St) : Operand → TV
  | .tmp t => st.tmps t | .const v => constV v | .func f => .c (.s (.fn f)) | .global _ => undefT

/-- what may lie in a struct's memory -/
def okS : SV → Bool
  | .void | .nptr _ _ _ | .nslf _ _ | .nsld _ _ _ | .lent | .lsl _ => false | _ => true

/-! ### handing over -/

/-- a slice as it lies: its row and its contents; whether it is one whose end is the row's end -/
def sliceOf (rows : Rows) (e : E) : SV → Option (List e.C × Option (Nat × Bool))
  | .nil => some ([], none)
  | .slf id => match rows id with
    | some (.row own e' l) => match castC e' e l with | some l' => some (l', some (id, own)) | none => none
    | _ => none
  | .sld id o => match rows id with
    | some (.row own e' l) => match castC e' e l with | some l' => some (l'.drop o.toNat, some (id, own)) | none => none
    | _ => none
  | .slt id n => match rows id with
    | some (.row _ e' l) => match castC e' e l with | some l' => some (l'.take n.toNat, some (id, false)) | none => none
    | _ => none
  | .nslf id i => match e with
    | .i => (match rows id with
      | some (.row _ .n l) => some (rdE .n l i, some (id, false))
      | _ => none)
    | _ => none
  | _ => none

/-- some cells turned -/
def setsAt (cs : List SV) (off : Nat) (vs : List SV) : List SV := cs.take off ++ vs ++ cs.drop (off + vs.length)

/-- the row that a slice is of -/
def lentId : SV → List Nat
  | .slf id | .sld id _ | .slt id _ | .nslf id _ => [id] | _ => []

/-- a leaf is handed over: its value; what turns; which rows are lent -/
def takeL (rows : Rows) : (t : LT) → SV → Option (t.D × Us × List Nat)
  | .int k, .int k' n => bif kindSame k k' then some (n, [], []) else none
  | .bool, .bool b => some (b, [], [])
  | .str, .str s => some (s, [], [])
  | .fn f, .fn f' => bif Nat.beq f f' then some ((), [], []) else none
  | .sl own e, v => match sliceOf rows e v with
    | some (l, none) => some (l, [], [])
    | some (l, some (id, o)) => bif own then (bif o then some (l, [(id, .dead)], []) else none) else some (l, [], [id])
    | none => none
  | .mb _, .undef => none
  | .mb e, v => match sliceOf rows e v with
    | some (l, none) => some (some l, [], [])
    | some (l, some (id, o)) => bif o then some (some l, [(id, .dead)], []) else none
    | none => bif okS v then some (none, [], []) else none
  | _, _ => none

def takeLs (rows : Rows) : (ts : List LT) → List SV → Option (Tup ts × Us × List Nat)
  | [], [] => some ((), [], [])
  | t :: ts, v :: vs => match takeL rows t v with
    | some (x, us, ls) => match takeLs (appR rows us) ts vs with
      | some (xs, us', ls') => some ((x, xs), us ++ us', ls ++ ls')
      | none => none
    | none => none
  | _, _ => none

/-- a lent struct's cells: out of reach; a slice that is only lent is remembered -/
def lendS : List LT → List SV → Option (List SV)
  | .sl false _ :: ts, .slf id :: vs => match lendS ts vs with | some r => some (.lsl id :: r) | none => none
  | .sl false _ :: _, _ :: _ => none
  | _ :: ts, _ :: vs => match lendS ts vs with | some r => some (.lent :: r) | none => none
  | [], [] => some []
  | _, _ => none

/-- a struct's cells, one's own or lent -/
def boxC (rows : Rows) (id : Nat) : Option (List SV) := match rows id with | some (.box cs) => some cs | some (.rbox cs) => some cs | _ => none
/-- only what is lent or a plain value -/
def LT.plain : LT → Bool | .sl own _ => !own | .mb _ => false | _ => true
def allPlain : List LT → Bool | [] => true | t :: r => t.plain && allPlain r
def rOk : List LT → Bool | [] => false | t :: r => t.plain && allPlain r

def takeTy (rows : Rows) : (t : Ty) → TV → Option (t.D × Us × List Nat)
  | .v t, .c (.s v) => takeL rows t v
  | .a ts, .c (.agg l) => takeLs rows ts l
  | .p ts, .c (.s (.ptr id off)) => match rows id with
    | some (.box cs) => bif Nat.ble (off + ts.length) cs.length then (match lendS ts ((cs.drop off).take ts.length) with
      | some q => (match takeLs (updR rows id (.box (setsAt cs off q))) ts ((cs.drop off).take ts.length) with
        | some (x, us, ls) => some (x, (id, .box (setsAt cs off q)) :: us, ls)
        | none => none)
      | none => none) else none
    | _ => none
  | .r ts, .c (.s (.ptr id off)) => match boxC rows id with
    | some cs => bif rOk ts && Nat.ble (off + ts.length) cs.length then (match takeLs rows ts ((cs.drop off).take ts.length) with
      | some (x, us, ls) => some (x, us, id :: ls)
      | none => none) else none
    | none => none
  | _, _ => none

def takeTys (rows : Rows) : (ts : List Ty) → List TV → Option (PTup ts × Us × List Nat)
  | [], [] => some ((), [], [])
  | t :: ts, v :: vs => match takeTy rows t v with
    | some (x, us, ls) => match takeTys (appR rows us) ts vs with
      | some (xs, us', ls') => some ((x, xs), us ++ us', ls ++ ls')
      | none => none
    | none => none
  | _, _ => none

def wholeB : List SV → Bool | [] => false | .lent :: _ => false | .lsl _ :: _ => false | _ => true
def aliveR (np : Bool) (rows : Rows) : List Nat → Bool
  | [] => true | id :: r => match rows id with | some (.row _ _ _) => aliveR np rows r | some (.rbox _) => aliveR np rows r | some (.box cs) => np && (wholeB cs && aliveR np rows r) | _ => false
/-- those that are lent to the caller itself -/
def aliveL (rows : Rows) : List Nat → Bool
  | [] => true | id :: r => match rows id with | some (.row false _ _) => aliveL rows r | some (.rbox _) => aliveL rows r | _ => false

/-- what may be junk is never handed in -/
def LT.isMb : LT → Bool | .mb _ => true | _ => false
def noMbL : List LT → Bool | [] => true | t :: r => bif t.isMb then false else noMbL r
def Ty.noMb : Ty → Bool | .v t => !t.isMb | .a ts => noMbL ts | .p ts => noMbL ts | .r ts => noMbL ts
def noMbs : List Ty → Bool | [] => true | t :: r => bif t.noMb then noMbs r else false

/-- arguments are handed over: what is lent is not given away beside -/
def Ty.noP : Ty → Bool | .p _ => false | _ => true
def noPs : List Ty → Bool | [] => true | t :: r => t.noP && noPs r
def takeAll (rows : Rows) (ts : List Ty) (vs : List TV) : Option (PTup ts × Us) :=
  bif noMbs ts then (match takeTys rows ts vs with
  | some (x, us, ls) => bif aliveR (noPs ts) (appR rows us) ls then some (x, us) else none
  | none => none) else none
/-- as takeAll; what is lent is lent to the caller itself -/
def takeAllL (rows : Rows) (ts : List Ty) (vs : List TV) : Option (PTup ts × Us) :=
  bif noMbs ts then (match takeTys rows ts vs with
  | some (x, us, ls) => bif aliveL (appR rows us) ls then some (x, us) else none
  | none => none) else none

def putL : (t : LT) → t.D → Nat → SV × Us
  | .int k, n, _ => (.int k n, [])
  | .bool, b, _ => (.bool b, [])
  | .str, s, _ => (.str s, [])
  | .fn f, _, _ => (.fn f, [])
  | .sl own e, l, id => (.slf id, [(id, .row own e l)])
  | .mb e, x, id => match x with | some l => (.slf id, [(id, .row true e l)]) | none => (.undef, [])

def putLs : (ts : List LT) → Tup ts → Nat → List SV × Us
  | [], _, _ => ([], [])
  | t :: ts, x, id => ((putL t x.1 id).1 :: (putLs ts x.2 (id + 1)).1, (putL t x.1 id).2 ++ (putLs ts x.2 (id + 1)).2)

/-- the cells of a lent struct when it comes back: as putLs, but what was only lent is as it was -/
def putOwn : (ts : List LT) → Tup ts → List SV → Nat → List SV × Us
  | [], _, _, _ => ([], [])
  | .sl false _ :: ts, x, .lsl k :: os, id => (.slf k :: (putOwn ts x.2 os (id + 1)).1, (putOwn ts x.2 os (id + 1)).2)
  | t :: ts, x, _ :: os, id => ((putL t x.1 id).1 :: (putOwn ts x.2 os (id + 1)).1, (putL t x.1 id).2 ++ (putOwn ts x.2 os (id + 1)).2)
  | _ :: _, _, [], _ => ([], [])

def putTy : (t : Ty) → t.D → Nat → TV × Us
  | .v t, x, id => (.c (.s (putL t x id).1), (putL t x id).2)
  | .a ts, x, id => (.c (.agg (putLs ts x id).1), (putLs ts x id).2)
  | .p ts, x, id => (.c (.s (.ptr (id + 63) 0)), (putLs ts x id).2 ++ [(id + 63, .box (putLs ts x id).1)])
  | .r ts, x, id => (.c (.s (.ptr (id + 63) 0)), (putLs ts x id).2 ++ [(id + 63, .rbox (putLs ts x id).1)])

def putTys : (ts : List Ty) → PTup ts → Nat → List TV × Us
  | [], _, _ => ([], [])
  | t :: ts, x, id => ((putTy t x.1 id).1 :: (putTys ts x.2 (id + 64)).1, (putTy t x.1 id).2 ++ (putTys ts x.2 (id + 64)).2)

/-- the lent structs come back -/
def putBack : (ts : List Ty) → BTup ts → List TV → Rows → Nat → Us
  | [], _, _, _, _ => []
  | .p ts :: r, x, .c (.s (.ptr id off)) :: vs, rows, base =>
    match rows id with
    | some (.box cs) =>
      let q := putOwn ts x.1 ((cs.drop off).take ts.length) base
      let us := q.2 ++ [(id, .box (setsAt cs off q.1))]
      us ++ putBack r x.2 vs (appR rows us) (base + 64)
    | _ => []
  | .v _ :: r, x, _ :: vs, rows, base => putBack r x vs rows (base + 64)
  | .a _ :: r, x, _ :: vs, rows, base => putBack r x vs rows (base + 64)
  | .r _ :: r, x, _ :: vs, rows, base => putBack r x vs rows (base + 64)
  | .p _ :: _, _, _, _, _ => []
  | _ :: _, _, [], _, _ => []

def cvs : List TV → List CV
  | [] => [] | .c x :: r => x :: cvs r | .tup _ :: r => cvs r

/-- several results are a tuple -/
def packT : List TV → TV
  | [x] => x
  | xs => .tup (cvs xs)

/-- a function: as most are; that turns its first argument's slices in place: its second result is that argument itself; whose results may hold what is lent; whose first result is junk if the second is false -/
inductive FK where | nor | inp | lnt | may
structure Fn where
  ins : List Ty
  outs : List Ty
  run : PTup ins → Option (PTup outs × BTup ins)
  kd : FK

structure Env where
  prog : Program
  fns : Nat → Option Fn

end Go.Tev
