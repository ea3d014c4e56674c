/- An evaluator of Go functions on plain values: regions whose order is drawn, code, loops, functions. Nothing is proved here; no condition. -/
import Derived.Test.YtanoofbkhddokaaGreatTb
set_option linter.unusedSimpArgs false
set_option linter.unusedVariables false
namespace Go.Tev

def disN : List Nat → List Nat → Bool | [], _ => true | x :: r, ys => bif memN x ys then false else disN r ys

/-! ### a region whose order is drawn -/

def idsS : SV → List Nat
  | .ptr id _ | .eptr id _ _ | .nptr id _ _ | .slf id | .sld id _ | .slt id _ | .nslf id _ | .nsld id _ _ => [id] | _ => []
def idsL : List SV → List Nat | [] => [] | x :: r => idsS x ++ idsL r
def idsD (rows : Rows) (x : SV) : List Nat :=
  match x with
  | .ptr id _ => match boxC rows id with | some cs => id :: idsL cs | none => [id]
  | x => idsS x
def idsDL (rows : Rows) : List SV → List Nat | [] => [] | x :: r => idsD rows x ++ idsDL rows r
def idsC (rows : Rows) : CV → List Nat | .s x => idsD rows x | .agg l => idsDL rows l
def idsCs (rows : Rows) : List CV → List Nat | [] => [] | x :: r => idsC rows x ++ idsCs rows r
def idsT (rows : Rows) : TV → List Nat | .c x => idsC rows x | .tup l => idsCs rows l
def idsTs (rows : Rows) : List TV → List Nat | [] => [] | x :: r => idsT rows x ++ idsTs rows r

def tmpsOf : List Operand → List Nat | [] => [] | .tmp t :: r => t :: tmpsOf r | _ :: r => tmpsOf r
def opTmps (o : Op) : List Nat := tmpsOf o.operands.toList
def tvsAt (st : St) : List Nat → List TV | [] => [] | t :: r => st.tmps t :: tvsAt st r

/-- what an operation may see -/
def restr (st : St) (ts vis : List Nat) (fresh : Nat) : St :=
  { st with
    tmps := fun t => bif memN t ts then st.tmps t else undefT
    rows := fun id => bif memN id vis then st.rows id else (bif Nat.ble fresh id && Nat.blt id (fresh + 1024) then none else some .dead) }

/-- the rows that an operation looks at -/
def visO (st : St) (op : Op) : List Nat :=
  match op with
  | .move _ => [] | .assign _ => [] | .nilCheck _ => [] | .fieldAddr _ _ _ => [] | .binOp _ _ _ _ _ => [] | .unOp _ _ _ => [] | .pick _ _ _ => [] | .extract _ _ => [] | .field _ _ _ => [] | .box _ _ => [] | .alloc _ => [] | .build _ _ => []
  | .load _ _ => idsTs (fun _ => none) (tvsAt st (opTmps op))
  | .store _ _ _ => idsTs (fun _ => none) (tvsAt st (opTmps op))
  | _ => idsTs st.rows (tvsAt st (opTmps op))

structure Tr where
  idx : Nat
  dst : Option Nat
  uses : List Nat
  rd : List Nat
  wr : List Nat
  fresh : Nat

def memO (x : Option Nat) (l : List Nat) : Bool := match x with | some d => memN d l | none => false
def sameO : Option Nat → Option Nat → Bool | some a, some b => Nat.beq a b | _, _ => false
/-- none of these lies in what is another's new -/
def outR (fresh : Nat) : List Nat → Bool | [] => true | i :: r => bif Nat.ble fresh i && Nat.blt i (fresh + 1024) then false else outR fresh r

def apart (a b : Tr) : Bool :=
  !(memO a.dst b.uses) && (!(memO b.dst a.uses) && (!(sameO a.dst b.dst) && (disN a.wr b.rd && (disN b.wr a.rd && (disN a.wr b.wr && outR a.fresh b.wr)))))

def bindsAny (e : Edge) : Bool := match e.ground with | .textOnly _ | .gcOnly _ => false | _ => true

def maskE (masks : List Nat) : List Edge → Nat
  | [] => 0
  | e :: r => bif bindsAny e then Nat.lor (Nat.lor (2 ^ e.on) (masks.getD e.on 0)) (maskE masks r) else maskE masks r

def edgesLt (i : Nat) : List Edge → Bool
  | [] => true | e :: r => bif bindsAny e then (bif Nat.blt e.on i then edgesLt i r else false) else edgesLt i r

def okTrs (m : Nat) (tr : Tr) : List Tr → Bool
  | [] => true
  | t :: r => bif Nat.testBit m t.idx then okTrs m tr r else (bif apart t tr then okTrs m tr r else false)

def usIds : Us → List Nat | [] => [] | (i, _) :: r => i :: usIds r
def noScrubB (us : Us) : Bool := match scrubs us with | [] => true | _ => false

/-- one operation of a drawn region -/
def drEnd {R : Type} (fresh idx : Nat) (uses vis : List Nat) (masks : List Nat) (trs : List Tr) (o : Oper) (st : St) (K : List Nat → List Tr → St → Option R) (v : TV) (us : Us) : Option R :=
  bif edgesLt idx o.after.toList && (usLt (fresh + 1024) us && (noScrubB us && okTrs (maskE masks o.after.toList) ⟨idx, o.dst, uses, vis, usIds us, fresh⟩ trs)) then
    K (masks ++ [maskE masks o.after.toList]) (⟨idx, o.dst, uses, vis, usIds us, fresh⟩ :: trs) (st.app o.dst v us)
  else none

def drO {R : Type} (env : Env) (fresh idx : Nat) (guard : List Nat) (masks : List Nat) (trs : List Tr) (o : Oper) (st : St) (K : List Nat → List Tr → St → Option R) : Option R :=
  bif dstOk st o.dst then
    tevOp env fresh o.op (restr st (opTmps o.op) (visO st o.op) fresh)
      (drEnd fresh idx (guard ++ opTmps o.op) (visO st o.op) masks trs o st K)
  else none

def drSkip {R : Type} (fresh idx : Nat) (guard : List Nat) (masks : List Nat) (trs : List Tr) (o : Oper) (st : St) (K : List Nat → List Tr → St → Option R) : Option R :=
  bif dstOk st o.dst then drEnd fresh idx guard [] masks trs o st K voidT [] else none

def tevDr {R : Type} (env : Env) (all : List Oper) : List Oper → (fresh idx : Nat) → List Nat → List Tr → St → (St → Option R) → Option R
  | [], _, _, _, _, st, K => K st
  | o :: r, fresh, idx, masks, trs, st, K => match o.guard with
    | none => drO env fresh idx [] masks trs o st fun ms ts st' => tevDr env all r (fresh + 1024) (idx + 1) ms ts st' K
    | some (j, want) => match all[j]? with
      | some oj => match oj.dst with
        | some t => match st.tmps t with
          | .c (.s (.bool b)) =>
            bif b then
              (let s := { st with tmps := updT st.tmps t (.c (.s (.bool true))) }
               bif want then drO env fresh idx [t] masks trs o s fun ms ts st' => tevDr env all r (fresh + 1024) (idx + 1) ms ts st' K
               else drSkip fresh idx [t] masks trs o s fun ms ts st' => tevDr env all r (fresh + 1024) (idx + 1) ms ts st' K)
            else
              (let s := { st with tmps := updT st.tmps t (.c (.s (.bool false))) }
               bif want then drSkip fresh idx [t] masks trs o s fun ms ts st' => tevDr env all r (fresh + 1024) (idx + 1) ms ts st' K
               else drO env fresh idx [t] masks trs o s fun ms ts st' => tevDr env all r (fresh + 1024) (idx + 1) ms ts st' K)
          | .c (.s .void) => drSkip fresh idx [t] masks trs o st fun ms ts st' => tevDr env all r (fresh + 1024) (idx + 1) ms ts st' K
          | _ => none
        | none => none
      | none => none

def tevR {R : Type} (env : Env) (ops : Array Oper) (draw : Bool) (st : St) (K : St → Option R) : Option R :=
  let K' : St → Option R := fun st' => K { st' with next := st.next + 1024 * ops.toList.length }
  bif draw then tevDr env ops.toList ops.toList st.next 0 [] [] st K' else tevOps env ops.toList ops.toList st.next st K'

/-! ### code -/

inductive Ex where | normal | exit (id : Nat) | ret

def keyOf : Code → Nat
  | .region id _ _ => id | .seq a _ => keyOf a | .block _ c => keyOf c | .loop c => keyOf c | _ => 0

def dstsO : List Oper → List Nat | [] => [] | o :: r => match o.dst with | some d => d :: dstsO r | none => dstsO r
def dsts : Code → List Nat
  | .region _ ops _ => dstsO ops.toList | .seq a b => dsts a ++ dsts b | .cond _ a b => dsts a ++ dsts b | .block _ c => dsts c | .loop c => dsts c
  | .scope c => dsts c | .rangeFunc _ _ a b => dsts a ++ dsts b | _ => []

def killT (ts : List Nat) (f : Nat → TV) : Nat → TV := fun t => bif memN t ts then undefT else f t
def setSl : List Nat → List TV → (Nat → TV) → (Nat → TV)
  | s :: ss, v :: vs, f => setSl ss vs (updT f s v) | _, _, f => f

/-- a struct whose own rows may have been given away: its type; losing them -/
def deadL : List LT → List LT | [] => [] | .sl true e :: r => .mb e :: deadL r | t :: r => t :: deadL r
def toDL : (ts : List LT) → Tup ts → Tup (deadL ts)
  | [], _ => () | .sl true _ :: r, x => (none, toDL r x.2) | .sl false _ :: r, x => (x.1, toDL r x.2) | .int _ :: r, x => (x.1, toDL r x.2) | .bool :: r, x => (x.1, toDL r x.2)
  | .str :: r, x => (x.1, toDL r x.2) | .fn _ :: r, x => (x.1, toDL r x.2) | .mb _ :: r, x => (x.1, toDL r x.2)
def fromDL : (ts : List LT) → Tup (deadL ts) → Tup ts
  | [], _ => () | .sl true _ :: r, x => ([], fromDL r x.2) | .sl false _ :: r, x => (x.1, fromDL r x.2) | .int _ :: r, x => (x.1, fromDL r x.2) | .bool :: r, x => (x.1, fromDL r x.2)
  | .str :: r, x => (x.1, fromDL r x.2) | .fn _ :: r, x => (x.1, fromDL r x.2) | .mb _ :: r, x => (x.1, fromDL r x.2)
/-- structs of which those that are marked may have given their rows away -/
def deads : List Bool → List Ty → List Ty
  | [], ts => ts | _ :: _, [] => [] | true :: d, .p ts :: r => .p (deadL ts) :: deads d r | false :: d, .p ts :: r => .p ts :: deads d r | _ :: d, .v t :: r => .v t :: deads d r | _ :: d, .a t :: r => .a t :: deads d r | _ :: d, .r t :: r => .r t :: deads d r
def toD : (d : List Bool) → (ts : List Ty) → BTup ts → BTup (deads d ts)
  | [], _, y => y | _ :: _, [], _ => () | true :: d, .p ts :: r, y => (toDL ts y.1, toD d r y.2) | false :: d, .p ts :: r, y => (y.1, toD d r y.2) | _ :: d, .v _ :: r, y => toD d r y | _ :: d, .a _ :: r, y => toD d r y | _ :: d, .r _ :: r, y => toD d r y
def fromD : (d : List Bool) → (ts : List Ty) → BTup (deads d ts) → BTup ts
  | [], _, y => y | _ :: _, [], _ => () | true :: d, .p ts :: r, y => (fromDL ts y.1, fromD d r y.2) | false :: d, .p ts :: r, y => (y.1, fromD d r y.2) | _ :: d, .v _ :: r, y => fromD d r y | _ :: d, .a _ :: r, y => fromD d r y | _ :: d, .r _ :: r, y => fromD d r y

/-- a loop as it stands in a function: the slots that it is handed (what stays, structs, what turns), those that it returns with; what it does -/
structure LoopE where
  cs : List Nat
  cty : List Ty
  bs : List Nat
  bty : List Ty
  vs : List Nat
  vty : List Ty
  rs : List Nat
  rty : List Ty
  ex : Nat
  dd : List Bool
  run : PTup cty → PTup bty → PTup vty → Option (Sum (PTup vty) (PTup rty) × BTup bty)

structure CEnv where
  env : Env
  loops : Nat → Option LoopE

def splitP : (ts : List Ty) → {us : List Ty} → PTup (ts ++ us) → PTup ts × PTup us
  | [], _, x => ((), x)
  | _ :: ts, _, x => ((x.1, (splitP ts x.2).1), (splitP ts x.2).2)

def sumElim {A B C : Type} (x : Sum A B) (f : A → C) (g : B → C) : C := match x with | .inl a => f a | .inr b => g b

def Ty.plain : Ty → Bool | .v t => t.plain | .a ts => allPlain ts | .p _ => false | .r ts => allPlain ts
def plains : List Ty → Bool | [] => true | t :: r => t.plain && plains r
/-- nothing lent, no struct that comes back -/
def LT.own : LT → Bool | .sl own _ => own | _ => true
def allOwn : List LT → Bool | [] => true | t :: r => t.own && allOwn r
def Ty.own : Ty → Bool | .v t => t.own | .a ts => allOwn ts | .p ts => allOwn ts | .r _ => false
def owns : List Ty → Bool | [] => true | t :: r => t.own && owns r
def Ty.isP : Ty → Bool | .p _ => true | _ => false
def allP : List Ty → Bool | [] => true | t :: r => t.isP && allP r
def tyOkB : Ty → Bool | .v _ => true | .a ts => Nat.ble ts.length 63 | .p ts => Nat.ble ts.length 63 | .r ts => Nat.ble ts.length 63
def tysOkB : List Ty → Bool | [] => true | t :: r => tyOkB t && tysOkB r

def loopOk (l : LoopE) (c : Code) : Bool :=
  plains l.cty && (owns l.vty && (owns l.rty && (allP l.bty && (disN (l.cs ++ l.bs) (dsts c) && (tysOkB (l.cty ++ (l.bty ++ (l.vty ++ l.rty))) &&
    (Nat.beq l.cs.length l.cty.length && (Nat.beq l.bs.length l.bty.length && (Nat.beq l.vs.length l.vty.length && (Nat.beq l.rs.length l.rty.length &&
    (Nat.ble l.bty.length 32 && (Nat.ble l.vty.length 32 && (Nat.ble l.rty.length 32 && Nat.ble l.cty.length 32))))))))))))

def afterLoop (st : St) (c : Code) (us : Us) (bty : List Ty) (b : BTup bty) (bs : List Nat) (ts : List Ty) (o : PTup ts) (ss : List Nat) : St :=
  { st with
    tmps := setSl ss (putTys ts o st.next).1 (killT (dsts c) st.tmps)
    rows := appR st.rows (us ++ (putBack bty b (tvsAt st bs) (appR st.rows us) (st.next + 2048) ++ (putTys ts o st.next).2))
    next := st.next + 4096 }

def tevC {R : Type} (E : CEnv) : Code → St → (Ex → St → Option R) → Option R
  | .skip, st, K => K .normal st
  | .label _, st, K => K .normal st
  | .region _ ops draw, st, K => tevR E.env ops draw st (K .normal)
  | .seq a b, st, K => tevC E a st fun ex st' => match ex with
    | .normal => tevC E b st' K
    | ex => K ex st'
  | .cond c a b, st, K => match st.ev c with
    | .c (.s (.bool x)) => bif x then tevC E a st K else tevC E b st K
    | _ => none
  | .block id c, st, K => tevC E c st fun ex st' => match ex with
    | .exit id' => bif Nat.beq id' id then K .normal st' else K (.exit id') st'
    | ex => K ex st'
  | .loop c, st, K => match E.loops (keyOf c) with
    | some l => bif loopOk l c then (match takeAll st.rows (l.cty ++ (l.bty ++ l.vty)) (tvsAt st (l.cs ++ (l.bs ++ l.vs))) with
      | some (xyz, us) => (l.run (splitP l.cty xyz).1 (splitP l.bty (splitP l.cty xyz).2).1 (splitP l.bty (splitP l.cty xyz).2).2).bind fun r => sumElim r.1
        (fun o => K (.exit l.ex) (afterLoop st c us l.bty r.2 l.bs l.vty o l.vs))
        (fun o => K .ret (afterLoop st c us (deads l.dd l.bty) (toD l.dd l.bty r.2) l.bs l.rty o l.rs))
      | none => none) else none
    | none => none
  | .exit id, st, K => K (.exit id) st
  | .ret, st, K => K .ret st
  | _, _, _ => none

/-! ### functions and loops' bodies -/

def fillU (n : Nat) : List TV → Nat → TV
  | [], t => bif Nat.blt t n then undefT else undefT
  | v :: _, 0 => v
  | _ :: vs, t + 1 => fillU n vs t

def noRows : Rows := fun _ => none

def entrySt (ins : List Ty) (y : PTup ins) (nt : Nat) : St :=
  ⟨fillU nt (putTys ins y 0).1, appR noRows (putTys ins y 0).2, nt, 64 * ins.length⟩

/-- of a lent struct: what was only lent must be what it was: the row of its place -/
def heldOk : List LT → List SV → Nat → Bool
  | .sl false _ :: ts, .slf id :: vs, b => Nat.beq id b && heldOk ts vs (b + 1)
  | .sl false _ :: _, _ :: _, _ => false
  | _ :: ts, _ :: vs, b => heldOk ts vs (b + 1)
  | [], [], _ => true
  | _, _, _ => false

/-- the lent structs as they are at the end -/
def takeBoxes (rows : Rows) : (ts : List Ty) → Nat → Option (BTup ts)
  | [], _ => some ()
  | .p ts :: r, b => match rows (b + 63) with
    | some (.box cs) => bif heldOk ts cs b then (match takeTy rows (.p ts) (.c (.s (.ptr (b + 63) 0))) with
      | some (x, us, ls) => bif aliveR false (appR rows us) ls then (match takeBoxes (appR rows us) r (b + 64) with
        | some xs => some (x, xs)
        | none => none) else none
      | none => none) else none
    | _ => none
  | .v _ :: r, b => takeBoxes rows r (b + 64)
  | .a _ :: r, b => takeBoxes rows r (b + 64)
  | .r _ :: r, b => takeBoxes rows r (b + 64)

def resultT (P : Program) (st : St) : ResultVar → Option TV
  | .tmp t => some (st.tmps t)
  | .cell a t => (match aggK P t with
    | some true => (match loadF P st.rows t (st.tmps a) with | some f => some f.v | none => none)
    | _ => none)

def resultTs (P : Program) (st : St) : List ResultVar → Option (List TV)
  | [] => some []
  | r :: rs => match resultT P st r, resultTs P st rs with
    | some v, some vs => some (v :: vs)
    | _, _ => none

def finish (P : Program) (ins outs : List Ty) (rs : List ResultVar) (st : St) : Option (PTup outs × BTup ins) :=
  match resultTs P st rs with
  | some vs => match takeTys st.rows outs vs with
    | some (x, us, _) => match takeBoxes (appR st.rows us) ins 0 with
      | some y => some (x, y)
      | none => none
    | none => none
  | none => none

/-- what a function tells -/
def tevF (E : CEnv) (f : Func) (ins outs : List Ty) (y : PTup ins) : Option (PTup outs × BTup ins) :=
  match f.body with
  | some c => tevC E c (entrySt ins y f.ntmps) fun ex st => match ex with
    | .normal | .ret => finish E.env.prog ins outs f.results.toList st
    | _ => none
  | none => none

/-- what a function tells that turns its first argument in place -/
def tevM (E : CEnv) (f : Func) (ins outs : List Ty) (y : PTup ins) : Option (PTup outs × BTup ins) :=
  match f.body with
  | some c => bif memN 0 (dsts c) then none else tevC E c (entrySt ins y f.ntmps) fun ex st => match ex with
    | .normal | .ret => (match resultTs E.env.prog st f.results.toList with
      | some [v] => (match takeTys st.rows outs [v, st.tmps 0] with
        | some (x, us, _) => (match takeBoxes (appR st.rows us) ins 0 with
          | some y => some (x, y)
          | none => none)
        | none => none)
      | _ => none)
    | _ => none
  | none => none

/-- what a function tells whose results may hold what is lent -/
def tevL (E : CEnv) (f : Func) (ins outs : List Ty) (y : PTup ins) : Option (PTup outs × BTup ins) :=
  match f.body with
  | some c => tevC E c (entrySt ins y f.ntmps) fun ex st => match ex with
    | .normal | .ret => (match resultTs E.env.prog st f.results.toList with
      | some vs => (match takeTys st.rows outs vs with
        | some (x, us, ls) => bif aliveL (appR st.rows us) ls then (match takeBoxes (appR st.rows us) ins 0 with
          | some y => some (x, y)
          | none => none) else none
        | none => none)
      | none => none)
    | _ => none
  | none => none

def LT.dflt : (t : LT) → t.D | .int _ => (0 : Int) | .bool => false | .str => ByteArray.empty | .sl _ _ => [] | .fn _ => () | .mb _ => none
def dfltT : (ts : List LT) → Tup ts | [] => () | t :: r => (t.dflt, dfltT r)
def Ty.dflt : (t : Ty) → t.D | .v t => t.dflt | .a ts => dfltT ts | .p ts => dfltT ts | .r ts => dfltT ts
/-- what a function tells whose first result is junk if the second is false -/
def finishY (P : Program) (ins : List Ty) (ts : List LT) (rs : List ResultVar) (st : St) : Option (PTup [.a ts, .v .bool] × BTup ins) :=
  match resultTs P st rs with
  | some [tv, .c (.s (.bool b))] => bif b then (match takeTys st.rows [.a ts, .v .bool] [tv, .c (.s (.bool true))] with
      | some (x, us, _) => (match takeBoxes (appR st.rows us) ins 0 with
        | some y => some ((x.1, (true, ())), y)
        | none => none)
      | none => none) else (match tv, takeBoxes st.rows ins 0 with
      | .c (.agg l), some y => bif okL l && Nat.beq l.length ts.length then some ((dfltT ts, (false, ())), y) else none
      | _, _ => none)
  | _ => none
def tevY (E : CEnv) (f : Func) (ins : List Ty) (ts : List LT) (y : PTup ins) : Option (PTup [.a ts, .v .bool] × BTup ins) :=
  match f.body with
  | some c => tevC E c (entrySt ins y f.ntmps) fun ex st => match ex with
    | .normal | .ret => finishY E.env.prog ins ts f.results.toList st
    | _ => none
  | none => none

/-- what one round of a loop begins with -/
def roundSt (l : LoopE) (x : PTup l.cty) (y : PTup l.bty) (z : PTup l.vty) (nt : Nat) : St :=
  ⟨setSl l.vs (putTys l.vty z 4096).1 (setSl l.bs (putTys l.bty y 2048).1 (setSl l.cs (putTys l.cty x 0).1 (fun _ => undefT))),
   appR (appR (appR noRows (putTys l.cty x 0).2) (putTys l.bty y 2048).2) (putTys l.vty z 4096).2, nt, 6144⟩

def bToP : (ts : List Ty) → BTup ts → PTup ts
  | [], _ => () | .p _ :: r, x => (x.1, bToP r x.2) | .v t :: r, x => (t.dflt, bToP r x) | .a ts :: r, x => (dfltT ts, bToP r x) | .r ts :: r, x => (dfltT ts, bToP r x)

/-- a round of a loop -/
def loopRound (E : CEnv) (c : Code) (l : LoopE) (nt : Nat) (again : PTup l.bty → PTup l.vty → Option (Sum (PTup l.vty) (PTup l.rty) × BTup l.bty)) (x : PTup l.cty) (y : PTup l.bty) (z : PTup l.vty) : Option (Sum (PTup l.vty) (PTup l.rty) × BTup l.bty) :=
  tevC E c (roundSt l x y z nt) fun ex st => match ex with
    | .normal => (match takeTys st.rows l.vty (tvsAt st l.vs) with
      | some (z', us, _) => (match takeBoxes (appR st.rows us) l.bty 2048 with
        | some y' => again (bToP l.bty y') z'
        | none => none)
      | none => none)
    | .exit id => bif Nat.beq id l.ex then (match takeTys st.rows l.vty (tvsAt st l.vs) with
      | some (z', us, _) => (match takeBoxes (appR st.rows us) l.bty 2048 with
        | some y' => some (.inl z', y')
        | none => none)
      | none => none) else none
    | .ret => (match takeTys st.rows l.rty (tvsAt st l.rs) with
      | some (r, us, _) => (match takeBoxes (appR st.rows us) (deads l.dd l.bty) 2048 with
        | some y' => some (.inr r, fromD l.dd l.bty y')
        | none => none)
      | none => none)

/-! ### tables -/

def wI (x : Int) : Int := IntKind.wrap .i64 x
def wB (x : Int) : Int := IntKind.wrap .u8 x
def ltI (x y : Int) : Bool := decide (x < y)
def leI (x y : Int) : Bool := decide (x ≤ y)
def ltN (x y : Nat) : Bool := decide (x < y)
def leN (x y : Nat) : Bool := decide (x ≤ y)
def eqI (x y : Int) : Bool := x == y
def neI (x y : Int) : Bool := x != y
def lenI {α : Type} (l : List α) : Int := (l.length : Int)

def fnsL : List (Nat × Fn) → Nat → Option Fn
  | [], _ => none | (k, f) :: r, g => bif Nat.beq g k then some f else fnsL r g
def loopsL : List (Nat × LoopE) → Nat → Option LoopE
  | [], _ => none | (k, f) :: r, g => bif Nat.beq g k then some f else loopsL r g

/-- the loops of some code, outermost ones alone -/
def loopsOf : Code → List Code
  | .seq a b => loopsOf a ++ loopsOf b | .cond _ a b => loopsOf a ++ loopsOf b | .block _ c => loopsOf c | .loop c => [c] | _ => []

/-- the body of a function -/
def bodyOf (f : Func) : Code := match f.body with | some c => c | none => .skip
def hasBody (f : Func) : Bool := match f.body with | some _ => true | none => false

/-- the i-th loop of some code -/
def loopAt (c : Code) (i : Nat) : Code := (loopsOf c).getD i .skip

end Go.Tev
