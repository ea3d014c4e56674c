/- An evaluator of Go functions on plain values and its soundness. No condition beyond those that each lemma states. -/
import GoSem.Step
import Derived.RowKit3
import Derived.Below
set_option linter.unusedSimpArgs false
set_option linter.unusedVariables false
namespace Go.Tev
theorem Zb {α : Sort _} {a b : α} : cond true a b = a := rfl
theorem Zd {α : Sort _} {a b : α} : cond false a b = b := rfl
theorem Zg {α : Type _} (a b : α) : (some a = some b) = (a = b) := Option.some.injEq a b
theorem Zo {α β : Type _} (a : α) (f : α → Option β) : (some a).bind f = f a := rfl
theorem Zc {c : Prop} {h : Decidable c} (k : ¬ c) {α : Sort _} {t e : α} : ite c t e = e := if_neg k
theorem Ze {c : Prop} {h : Decidable c} (k : c) {α : Sort _} {t e : α} : ite c t e = t := if_pos k
theorem ZB {p : Prop} [i : Decidable p] (h : p) : decide p = true := decide_eq_true h
theorem Zw {p : Prop} [i : Decidable p] (h : ¬ p) : decide p = false := decide_eq_false h
theorem Zz {α β : Type _} (a : α) (b : β) (c : α) (d : β) : ((a, b) = (c, d)) = (a = c ∧ b = d) := Prod.mk.injEq a b c d
theorem ZM : (!true) = false := rfl
theorem QE : (!false) = true := rfl
inductive E where|i|b|s|t|n|o
@[reducible] def E.C : E → Type
 | .i=>Int| .b=>Int| .s=>ByteArray| .t=>Int×Int×Int| .n=>List Int| .o=>Bool
def E.sz:E→Nat| .t=>3|_=>1
def E.bytes:E→Nat| .i=>8| .b=>1| .s=>16| .t=>24| .n=>24| .o=>1
def E.most:E→Nat| .i=>17592186044416| .b=>140737488355328| .s=>8796093022208| .t=>5864062014805| .n=>5864062014805| .o=>140737488355328
def E.zero:(e:E)→e.C| .i=>(0:Int)| .b=>(0:Int)| .s=>ByteArray.empty| .t=>((0:Int),(0:Int),(0:Int))| .n=>([]:List Int)| .o=>false
def E.same:E→E→Bool
 | .i, .i| .b, .b| .s, .s| .t, .t| .n, .n| .o, .o=>true|_,_=>false
def Znf:(e e':E)→List e.C→Option (List e'.C)
 | .i, .i,l=>some l| .b, .b,l=>some l| .s, .s,l=>some l| .t, .t,l=>some l| .n, .n,l=>some l| .o, .o,l=>some l|_,_,_=>none
def KC:IntKind→IntKind→Bool
 | .i64, .i64| .u8, .u8| .u64, .u64| .i32, .i32| .u32, .u32| .i8, .i8| .i16, .i16| .u16, .u16=>true|_,_=>false
inductive LT where|int (k:IntKind)|bool|str|sl (own:Bool) (e:E)|fn (f:Nat)|mb (e:E)
@[reducible] def LT.D : LT → Type
 | .int _=>Int| .bool=>Bool| .str=>ByteArray| .sl _ e=>List e.C| .fn _=>Unit| .mb e=>Option (List e.C)
@[reducible] def Tup : List LT → Type | [] => Unit | t :: ts => t.D × Tup ts
inductive Ty where|v (t:LT)|a (ts:List LT)|p (ts:List LT)|r (ts:List LT)
@[reducible] def Ty.D : Ty → Type | .v t => t.D | .a ts => Tup ts | .p ts => Tup ts | .r ts => Tup ts
@[reducible] def PTup : List Ty → Type | [] => Unit | t :: ts => t.D × PTup ts
@[reducible] def BTup : List Ty → Type | [] => Unit | .p ts :: r => Tup ts × BTup r | _ :: r => BTup r
inductive SV where
 |undef|void
 |int (k:IntKind) (n:Int)|bool (b:Bool)|str (s:ByteArray)
 |ptr (id off:Nat)|eptr (id:Nat) (i:Int) (off:Nat)|nptr (id:Nat) (i j:Int)
 |nil|slf (id:Nat)|sld (id:Nat) (o:Int)|slt (id:Nat) (n:Int)|nslf (id:Nat) (i:Int)|nsld (id:Nat) (i o:Int)
 |fn (f:Nat)
 |lent|lsl (id:Nat)
inductive CV where|s (x:SV)|agg (l:List SV)
inductive TV where|c (x:CV)|tup (l:List CV)
inductive Row where|dead|scrub|box (cs:List SV)|rbox (cs:List SV)|row (own:Bool) (e:E) (l:List e.C)
abbrev Rows:=Nat→Option Row
abbrev Us:=List (Nat×Row)
def QD (r:Rows) (i:Nat) (x:Row):Rows:=fun j=>bif Nat.beq j i then some x else r j
def XP (r:Nat→TV) (i:Nat) (x:TV):Nat→TV:=fun j=>bif Nat.beq j i then x else r j
def Zj (r:Rows):Us→Rows| []=>r| (i,x)::us=>Zj (QD r i x) us
structure St where
 tmps:Nat→TV
 rows:Rows
 nt:Nat
 next:Nat
def Wu:TV:= .c (.s .undef)
def Jy:TV:= .c (.s .void)
def rdE (e:E) (l:List e.C) (i:Int):e.C:=l.getD i.toNat e.zero
def rdI (l:List Int) (i:Int):Int:=l.getD i.toNat 0
def V0:Value→SV
 | .int k n=> .int k n| .bool b=> .bool b| .string s=> .str s| .slice none 0 0=> .nil| .agg _| .tuple _=> .lent|_=> .undef
def Zni:Value→TV
 | .agg cs=> .c (.agg (cs.toList.map V0))|v=> .c (.s (V0 v))
def St.ev (st:St):Operand→TV
 | .tmp t=>st.tmps t| .const v=>Zni v| .func f=> .c (.s (.fn f))| .global _=>Wu
def okS:SV→Bool
 | .void| .nptr _ _ _| .nslf _ _| .nsld _ _ _| .lent| .lsl _=>false|_=>true
def Qv (rows:Rows) (e:E):SV→Option (List e.C×Option (Nat×Bool))
 | .nil=>some ([],none)
 | .slf id=>match rows id with
  |some (.row own e' l)=>match Znf e' e l with|some l'=>some (l',some (id,own))|none=>none
  |_=>none
 | .sld id o=>match rows id with
  |some (.row own e' l)=>match Znf e' e l with|some l'=>some (l'.drop o.toNat,some (id,own))|none=>none
  |_=>none
 | .slt id n=>match rows id with
  |some (.row own e' l)=>match Znf e' e l with|some l'=>some (l'.take n.toNat,some (id,own))|none=>none
  |_=>none
 | .nslf id i=>match e with
  | .i=>(match rows id with
   |some (.row _ .n l)=>some (rdE .n l i,some (id,false))
   |_=>none)
  |_=>none
 |_=>none
def Qu (cs:List SV) (off:Nat) (vs:List SV):List SV:=cs.take off++vs++cs.drop (off+vs.length)
def QQ (rows:Rows):(t:LT)→SV→Option (t.D×Us×List Nat)
 | .int k, .int k' n=>bif KC k k' then some (n,[],[])else none
 | .bool, .bool b=>some (b,[],[])
 | .str, .str s=>some (s,[],[])
 | .fn f, .fn f'=>bif Nat.beq f f' then some ((),[],[])else none
 | .sl own e,v=>match Qv rows e v with
  |some (l,none)=>some (l,[],[])
  |some (l,some (id,o))=>bif own then (bif o then some (l,[(id, .dead)],[])else none)else some (l,[],[id])
  |none=>none
 | .mb _, .undef=>none
 | .mb e,v=>match Qv rows e v with
  |some (l,none)=>some (some l,[],[])
  |some (l,some (id,o))=>bif o then some (some l,[(id, .dead)],[])else none
  |none=>bif okS v then some (none,[],[])else none
 |_,_=>none
def QN (rows:Rows):(ts:List LT)→List SV→Option (Tup ts×Us×List Nat)
 | [],[]=>some ((),[],[])
 |t::ts,v::vs=>match QQ rows t v with
  |some (x,us,ls)=>match QN (Zj rows us) ts vs with
   |some (xs,us',ls')=>some ((x,xs),us++us',ls++ls')
   |none=>none
  |none=>none
 |_,_=>none
def Yt:List LT→List SV→Option (List SV)
 | .sl false _::ts, .slf id::vs=>match Yt ts vs with|some r=>some (.lsl id::r)|none=>none
 | .sl false _::_,_::_=>none
 |_::ts,_::vs=>match Yt ts vs with|some r=>some (.lent::r)|none=>none
 | [],[]=>some []
 |_,_=>none
def K0 (rows:Rows) (id:Nat):Option (List SV):=match rows id with|some (.box cs)=>some cs|some (.rbox cs)=>some cs|_=>none
def LT.plain:LT→Bool| .sl own _=> !own| .mb _=>false|_=>true
def Ww:List LT→Bool| []=>true|t::r=>t.plain&&Ww r
def rOk:List LT→Bool| []=>false|t::r=>t.plain&&Ww r
def Qp (rows:Rows):(t:Ty)→TV→Option (t.D×Us×List Nat)
 | .v t, .c (.s v)=>QQ rows t v
 | .a ts, .c (.agg l)=>QN rows ts l
 | .p ts, .c (.s (.ptr id off))=>match rows id with
  |some (.box cs)=>bif Nat.ble (off+ts.length) cs.length then (match Yt ts ((cs.drop off).take ts.length)with
   |some q=>(match QN (QD rows id (.box (Qu cs off q))) ts ((cs.drop off).take ts.length)with
    |some (x,us,ls)=>some (x,(id, .box (Qu cs off q))::us,ls)
    |none=>none)
   |none=>none)else none
  |_=>none
 | .r ts, .c (.s (.ptr id off))=>match K0 rows id with
  |some cs=>bif rOk ts&&Nat.ble (off+ts.length) cs.length then (match QN rows ts ((cs.drop off).take ts.length)with
   |some (x,us,ls)=>some (x,us,id::ls)
   |none=>none)else none
  |none=>none
 |_,_=>none
def QO (rows:Rows):(ts:List Ty)→List TV→Option (PTup ts×Us×List Nat)
 | [],[]=>some ((),[],[])
 |t::ts,v::vs=>match Qp rows t v with
  |some (x,us,ls)=>match QO (Zj rows us) ts vs with
   |some (xs,us',ls')=>some ((x,xs),us++us',ls++ls')
   |none=>none
  |none=>none
 |_,_=>none
def ZlU:List SV→Bool| []=>false| .lent::_=>false| .lsl _::_=>false|_=>true
def JA (np:Bool) (rows:Rows):List Nat→Bool
 | []=>true|id::r=>match rows id with|some (.row _ _ _)=>JA np rows r|some (.rbox _)=>JA np rows r|some (.box cs)=>np&&(ZlU cs&&JA np rows r)|_=>false
def Xg (rows:Rows):List Nat→Bool
 | []=>true|id::r=>match rows id with|some (.row false _ _)=>Xg rows r|some (.rbox _)=>Xg rows r|_=>false
def LT.isMb:LT→Bool| .mb _=>true|_=>false
def WS:List LT→Bool| []=>true|t::r=>bif t.isMb then false else WS r
def Ty.noMb:Ty→Bool| .v t=> !t.isMb| .a ts=>WS ts| .p ts=>WS ts| .r ts=>WS ts
def Ki:List Ty→Bool| []=>true|t::r=>bif t.noMb then Ki r else false
def Ty.noP:Ty→Bool| .p _=>false|_=>true
def Xs:List Ty→Bool| []=>true|t::r=>t.noP&&Xs r
def Xc (rows:Rows) (ts:List Ty) (vs:List TV):Option (PTup ts×Us):=
 bif Ki ts then (match QO rows ts vs with
 |some (x,us,ls)=>bif JA (Xs ts) (Zj rows us) ls then some (x,us)else none
 |none=>none)else none
def Ws (rows:Rows) (ts:List Ty) (vs:List TV):Option (PTup ts×Us):=
 bif Ki ts then (match QO rows ts vs with
 |some (x,us,ls)=>bif Xg (Zj rows us) ls then some (x,us)else none
 |none=>none)else none
def JO:(t:LT)→t.D→Nat→SV×Us
 | .int k,n,_=>(.int k n,[])
 | .bool,b,_=>(.bool b,[])
 | .str,s,_=>(.str s,[])
 | .fn f,_,_=>(.fn f,[])
 | .sl own e,l,id=>(.slf id,[(id, .row own e l)])
 | .mb e,x,id=>match x with|some l=>(.slf id,[(id, .row true e l)])|none=>(.undef,[])
def QC:(ts:List LT)→Tup ts→Nat→List SV×Us
 | [],_,_=>([],[])
 |t::ts,x,id=>((JO t x.1 id).1::(QC ts x.2 (id+1)).1,(JO t x.1 id).2++(QC ts x.2 (id+1)).2)
def QX:(ts:List LT)→Tup ts→List SV→Nat→List SV×Us
 | [],_,_,_=>([],[])
 | .sl false _::ts,x, .lsl k::os,id=>(.slf k::(QX ts x.2 os (id+1)).1,(QX ts x.2 os (id+1)).2)
 |t::ts,x,_::os,id=>((JO t x.1 id).1::(QX ts x.2 os (id+1)).1,(JO t x.1 id).2++(QX ts x.2 os (id+1)).2)
 |_::_,_,[],_=>([],[])
def Yy:(t:Ty)→t.D→Nat→TV×Us
 | .v t,x,id=>(.c (.s (JO t x id).1),(JO t x id).2)
 | .a ts,x,id=>(.c (.agg (QC ts x id).1),(QC ts x id).2)
 | .p ts,x,id=>(.c (.s (.ptr (id+63) 0)),(QC ts x id).2++[(id+63, .box (QC ts x id).1)])
 | .r ts,x,id=>(.c (.s (.ptr (id+63) 0)),(QC ts x id).2++[(id+63, .rbox (QC ts x id).1)])
def Qz:(ts:List Ty)→PTup ts→Nat→List TV×Us
 | [],_,_=>([],[])
 |t::ts,x,id=>((Yy t x.1 id).1::(Qz ts x.2 (id+64)).1,(Yy t x.1 id).2++(Qz ts x.2 (id+64)).2)
def Qt:(ts:List Ty)→BTup ts→List TV→Rows→Nat→Us
 | [],_,_,_,_=>[]
 | .p ts::r,x, .c (.s (.ptr id off))::vs,rows,base=>
  match rows id with
  |some (.box cs)=>
   let q:=QX ts x.1 ((cs.drop off).take ts.length) base
   let us:=q.2++[(id, .box (Qu cs off q.1))]
   us++Qt r x.2 vs (Zj rows us) (base+64)
  |_=>[]
 | .v _::r,x,_::vs,rows,base=>Qt r x vs rows (base+64)
 | .a _::r,x,_::vs,rows,base=>Qt r x vs rows (base+64)
 | .r _::r,x,_::vs,rows,base=>Qt r x vs rows (base+64)
 | .p _::_,_,_,_,_=>[]
 |_::_,_,[],_,_=>[]
def cvs:List TV→List CV
 | []=>[]| .c x::r=>x::cvs r| .tup _::r=>cvs r
def Zpy:List TV→TV
 | [x]=>x
 |xs=> .tup (cvs xs)
inductive FK where|nor|inp|lnt|may|ali
structure Fn where
 ins:List Ty
 outs:List Ty
 run:PTup ins→Option (PTup outs×BTup ins)
 kd:FK
structure Env where
 prog:Program
 fns:Nat→Option Fn
def Zj9:E→Option Value→Bool
 | .i,some (.int .i64 0)=>true
 | .b,some (.int .u8 0)=>true
 | .s,some (.string ⟨⟨[]⟩⟩)=>true
 | .o,some (.bool false)=>true
 | .n,some (.slice none 0 0)=>true
 | .t,some (.agg ⟨[.int .i64 0, .int .i64 0, .int .i64 0]⟩)=>true
 |_,_=>false
def KA (P:Program) (e:TypeId):Option E:=
 match P.underlying e with
 |some (.int .i64)=>some .i
 |some (.int .u8)=>some .b
 |some .string=>some .s
 |some .bool=>some .o
 |some (.slice e')=>match P.underlying e' with|some (.int .i64)=>some .n|_=>none
 |some (.struct _)=>some .t
 |_=>none
def eOf (P:Program) (e:TypeId):Option E:=
 match KA P e,P.info? e with
 |some k,some i=>bif Nat.beq i.size k.sz&&(Nat.beq i.bytes k.bytes&&Zj9 k i.zero)then some k else none
 |_,_=>none
def Xo (P:Program) (t:TypeId):Option E:=
 match P.underlying t with|some (.slice e)=>eOf P e|_=>none
def Ku (P:Program) (t:TypeId):Option Bool:=
 match P.underlying t with|some (.struct _)|some (.array _ _)=>some true|some _=>some false|none=>none
def ZrG (P:Program) (t:TypeId):Bool:=match P.info? t with|some _=>true|none=>false
def okL:List SV→Bool| []=>true|x::r=>okS x&&okL r
def zeroCells (P:Program) (t:TypeId):Option (List SV):=
 match P.info? t with
 |some i=>match i.zero with
  |some (.agg cs)=>bif okL (cs.toList.map V0)then some (cs.toList.map V0)else none
  |_=>none
 |none=>none
def cellsOf:TV→Option (List SV)
 | .c (.s .undef)=>none
 | .c (.s x)=>bif okS x then some [x]else none
 | .c (.agg l)=>bif okL l then some l else none
 | .tup _=>none
def elC:(e:E)→e.C→(id:Nat)→(i:Int)→CV
 | .i,(n:Int),_,_=> .s (.int .i64 n)
 | .b,(n:Int),_,_=> .s (.int .u8 n)
 | .s,(x:ByteArray),_,_=> .s (.str x)
 | .o,(x:Bool),_,_=> .s (.bool x)
 | .t,(x:Int×Int×Int),_,_=> .agg [.int .i64 x.1, .int .i64 x.2.1, .int .i64 x.2.2]
 | .n,_,id,i=> .s (.nslf id i)
def Zsc (x:Int×Int×Int):Nat→SV
 |0=> .int .i64 x.1|1=> .int .i64 x.2.1|2=> .int .i64 x.2.2|_=> .undef
def elS:(e:E)→e.C→(off:Nat)→(id:Nat)→(i:Int)→CV
 | .i,(n:Int),_,_,_=> .s (.int .i64 n)
 | .b,(n:Int),_,_,_=> .s (.int .u8 n)
 | .s,(x:ByteArray),_,_,_=> .s (.str x)
 | .o,(x:Bool),_,_,_=> .s (.bool x)
 | .t,(x:Int×Int×Int),off,_,_=> .s (Zsc x off)
 | .n,_,_,id,i=> .s (.nslf id i)
def Jc (rows:Rows):(e:E)→CV→Option (e.C×Us)
 | .i, .s (.int .i64 n)=>some (n,[])
 | .b, .s (.int .u8 n)=>some (n,[])
 | .s, .s (.str x)=>some (x,[])
 | .o, .s (.bool x)=>some (x,[])
 | .t, .agg [.int .i64 x, .int .i64 y, .int .i64 z]=>some ((x,y,z),[])
 | .n, .s v=>match QQ rows (.sl true .i) v with|some (x,us,_)=>some (x,us)|none=>none
 |_,_=>none
def Vg (rows:Rows) (e:E):List CV→Option (List e.C×Us)
 | []=>some ([],[])
 |v::vs=>match Jc rows e v with
  |some (x,us)=>match Vg (Zj rows us) e vs with
   |some (xs,us')=>some (x::xs,us++us')
   |none=>none
  |none=>none
def bt (s:ByteArray) (i:Int):Int:=((s.data.toList.getD i.toNat 0).toNat:Int)
def Ks (l:List Int):ByteArray:=⟨(l.map fun n=>UInt8.ofNat n.toNat).toArray⟩
def ZL (k:IntKind) (a b:Int):Int:=k.wrap (BitVec.ofInt k.bits a&&&BitVec.ofInt k.bits b).toNat
def bOr (k:IntKind) (a b:Int):Int:=k.wrap (BitVec.ofInt k.bits a|||BitVec.ofInt k.bits b).toNat
def Yo (k:IntKind) (a b:Int):Int:=k.wrap (BitVec.ofInt k.bits a^^^BitVec.ofInt k.bits b).toNat
def mnI (x y:Int):Int:=if y<x then y else x
def mxI (x y:Int):Int:=if y>x then y else x
structure F where
 checks:List Bool
 v:TV
 us:Us
def Qj (x:SV):Option F:=some ⟨[], .c (.s x),[]⟩
def V2:List SV→List SV→Option Bool
 | [],[]=>some true
 | .int k a::r, .int k' b::r'=>match V2 r r' with|some x=>bif KC k k' then some ((a==b)&&x)else none|none=>none
 | .bool a::r, .bool b::r'=>match V2 r r' with|some x=>some ((a==b)&&x)|none=>none
 |_,_=>none
def Zib (P:Program) (t:TypeId):SV→Bool
 | .int _ _=>(match P.underlying t with|some (.int _)=>true|_=>false)
 | .bool _=>(match P.underlying t with|some .bool=>true|_=>false)
 |_=>false
def ZaF (P:Program):Nat→List Field→List SV→Bool
 |_,[],[]=>true
 |k,f::r,x::l=>(Nat.beq f.offset k)&&((f.name != "_")&&(Zib P f.type x&&ZaF P (k+1) r l))
 |_,_,_=>false
def ZhS (P:Program) (t:TypeId) (l:List SV):Bool:=
 match P.underlying t with
 |some (.struct fs)=>ZaF P 0 fs.toList l&&(!P.stoodInHeld t&& !P.eqGuardType P.depth t)
 |_=>false
def Zsb (P:Program) (op:BinOp) (t:TypeId):TV→TV→Option F
 | .c (.s (.int k a)), .c (.s (.int k' b))=>match op with
  | .shr=>some ⟨[decide (0≤b)], .c (.s (.int k (a.fdiv (2^(min b.toNat k.bits))))),[]⟩
  | .shl=>some ⟨[decide (0≤b)], .c (.s (.int k (k.wrap (a*2^(min b.toNat k.bits))))),[]⟩
  |op=>bif KC k k' then (match op with
   | .add=>Qj (.int k (k.wrap (a+b)))
   | .sub=>Qj (.int k (k.wrap (a-b)))
   | .mul=>Qj (.int k (k.wrap (a*b)))
   | .quo=>some ⟨[b !=0], .c (.s (.int k (k.wrap (a.tdiv b)))),[]⟩
   | .rem=>some ⟨[b !=0], .c (.s (.int k (a.tmod b))),[]⟩
   | .and=>Qj (.int k (ZL k a b))
   | .or=>Qj (.int k (bOr k a b))
   | .xor=>Qj (.int k (Yo k a b))
   | .eql=>Qj (.bool (a==b))
   | .neq=>Qj (.bool (a !=b))
   | .lss=>Qj (.bool (decide (a<b)))
   | .leq=>Qj (.bool (decide (a≤b)))
   | .gtr=>Qj (.bool (decide (a>b)))
   | .geq=>Qj (.bool (decide (a≥b)))
   |_=>none)else none
 | .c (.s (.str a)), .c (.s (.str b))=>match op with
  | .add=>some ⟨[decide (a.size+b.size≤4611686018427387904)], .c (.s (.str (a++b))),[]⟩
  | .eql=>Qj (.bool (a.toList==b.toList))
  | .neq=>Qj (.bool (!(a.toList==b.toList)))
  |_=>none
 | .c (.s (.bool a)), .c (.s (.bool b))=>match P.underlying t with
  |some .bool=>(match op with
   | .eql=>Qj (.bool (a==b))
   | .neq=>Qj (.bool (!(a==b)))
   |_=>none)
  |_=>none
 | .c (.agg l), .c (.agg l')=>match V2 l l',ZhS P t l with
  |some x,true=>match op with
   | .eql=>Qj (.bool x)
   | .neq=>Qj (.bool (!x))
   |_=>none
  |_,_=>none
 |_,_=>none
def Zcu (P:Program):List Field→Bool| []=>true|f::r=>ZrG P f.type&&Zcu P r
def Zme (P:Program) (fs:List Field):List SV→List (Nat×TV)→Option (List SV)
 |cs,[]=>some cs
 |cs,(i,v)::r=>match fs[i]?,cellsOf v with
  |some f,some vs=>bif Nat.beq vs.length (P.cellsOf f.type)&&Nat.ble (f.offset+vs.length) cs.length then Zme P fs (Qu cs f.offset vs) r else none
  |_,_=>none
def UC:Nat→List (Nat×TV)→Option (List CV)
 |_,[]=>some []
 |k,(i, .c v)::r=>bif Nat.beq i k then (match UC (k+1) r with|some vs=>some (v::vs)|none=>none)else none
 |_,_=>none
def Kf (P:Program) (rows:Rows) (t:TypeId):TV→Option F
 | .c (.s (.ptr id off))=>match K0 rows id with
  |some cs=>
   match Ku P t with
   |some true=>bif Nat.ble (off+P.cellsOf t) cs.length&&okL ((cs.drop off).take (P.cellsOf t))then some ⟨[], .c (.agg ((cs.drop off).take (P.cellsOf t))),[]⟩else none
   |some false=>(match cs[off]? with|some x=>bif okS x then Qj x else none|none=>none)
   |none=>none
  |none=>none
 | .c (.s (.eptr id i off))=>match rows id with
  |some (.row _ e l)=>match Ku P t with
   |some true=>(match e,l with
    | .t,l=>bif Nat.beq off 0&&Nat.beq (P.cellsOf t) 3 then some ⟨[], .c (elC .t (rdE .t l i) id i),[]⟩else none
    |_,_=>none)
   |some false=>bif Nat.blt off e.sz then some ⟨[], .c (elS e (rdE e l i) off id i),[]⟩else none
   |none=>none
  |_=>none
 | .c (.s (.nptr id i j))=>match rows id with
  |some (.row _ .n l)=>(match Ku P t with
   |some false=>Qj (.int .i64 (rdI (rdE .n l i) j))
   |_=>none)
  |_=>none
 |_=>none
def ZsL (x:Int×Int×Int) (v:Int):Nat→Int×Int×Int
 |0=>(v,x.2.1,x.2.2)|1=>(x.1,v,x.2.2)|_=>(x.1,x.2.1,v)
def Xa (P:Program) (rows:Rows) (t:TypeId):TV→TV→Option F
 | .c (.s (.ptr id off)),v=>match rows id,cellsOf v with
  |some (.box cs),some vs=>
   bif (ZrG P t&&Nat.beq vs.length (P.cellsOf t))&&(Nat.ble (off+vs.length) cs.length&&okL ((cs.drop off).take vs.length))then some ⟨[],Jy,[(id, .box (Qu cs off vs))]⟩else none
  |_,_=>none
 | .c (.s (.eptr id i off)), .c v=>match rows id with
  |some (.row true e l)=>match e,l,v with
   | .n,l, .s (.nsld id' i' o)=>match decEq i i',Nat.beq id id' with
    |isTrue _,true=>bif Nat.beq off 0&&Nat.beq (P.cellsOf t) 1 then some ⟨[decide (0≤o),decide (o≤((rdE .n l i).length:Int))],Jy,[(id, .scrub),(id, .row true .n (l.set i.toNat ((rdE .n l i).drop o.toNat)))]⟩else none
    |_,_=>none
   | .t,l, .s (.int .i64 n)=>bif Nat.blt off 3&&Nat.beq (P.cellsOf t) 1 then some ⟨[],Jy,[(id, .row true .t (l.set i.toNat (ZsL (rdE .t l i) n off)))]⟩else none
   | .n,l, .s v=>match QQ rows (.sl true .i) v with
    |some (x,us,_)=>bif Nat.beq off 0&&Nat.beq (P.cellsOf t) 1 then some ⟨[],Jy,us++[(id, .scrub),(id, .row true .n (l.set i.toNat x))]⟩else none
    |none=>none
   |e,l,v=>match Jc rows e v with
    |some (x,us)=>bif Nat.beq off 0&&Nat.beq (P.cellsOf t) e.sz then some ⟨[],Jy,us++[(id, .row true e (l.set i.toNat x))]⟩else none
    |none=>none
  |_=>none
 | .c (.s (.nptr id i j)), .c (.s (.int .i64 n))=>match rows id with
  |some (.row true .n l)=>bif Nat.beq (P.cellsOf t) 1 then some ⟨[],Jy,[(id, .row true .n (l.set i.toNat ((rdE .n l i).set j.toNat n)))]⟩else none
  |_=>none
 |_,_=>none
def K5 (rows:Rows) (e:E) (i:Int):SV→Option F
 | .slf id=>match rows id with
  |some (.row _ e' l)=>bif E.same e e' then some ⟨[decide (0≤i),decide (i< (l.length:Int))], .c (.s (.eptr id i 0)),[]⟩else none
  |_=>none
 | .sld id o=>match rows id with
  |some (.row _ e' l)=>bif E.same e e' then some ⟨[decide (0≤i),decide (i< (l.length:Int)-o)], .c (.s (.eptr id (o+i) 0)),[]⟩else none
  |_=>none
 | .slt id n=>match rows id with
  |some (.row _ e' _)=>bif E.same e e' then some ⟨[decide (0≤i),decide (i<n)], .c (.s (.eptr id i 0)),[]⟩else none
  |_=>none
 | .nslf id k=>match rows id,e with
  |some (.row _ .n l), .i=>some ⟨[decide (0≤i),decide (i< ((rdE .n l k).length:Int))], .c (.s (.nptr id k i)),[]⟩
  |_,_=>none
 |_=>none
def KD (rows:Rows):TV→Option F
 | .c (.s .nil)=>Qj (.int .i64 0)
 | .c (.s (.slf id))=>match rows id with|some (.row _ _ l)=>Qj (.int .i64 (l.length:Int))|_=>none
 | .c (.s (.sld id o))=>match rows id with|some (.row _ _ l)=>Qj (.int .i64 ((l.length:Int)-o))|_=>none
 | .c (.s (.slt id n))=>match rows id with|some (.row _ _ _)=>Qj (.int .i64 n)|_=>none
 | .c (.s (.nslf id i))=>match rows id with|some (.row _ .n l)=>Qj (.int .i64 ((rdE .n l i).length:Int))|_=>none
 |_=>none
def WM (P:Program) (t:TypeId):Bool:=match P.underlying t with|some .string=>true|_=>false
def WL (P:Program) (t:TypeId) (e:E):Bool:=match Xo P t with|some e'=>E.same e' e|none=>false
def Wm (P:Program) (rows:Rows) (t:TypeId):TV→Option TV→Option TV→Option F
 | .c (.s (.str s)),none,some (.c (.s (.int _ hi)))=>bif WM P t then some ⟨[decide (0≤hi),decide (hi≤(s.size:Int))], .c (.s (.str (s.extract 0 hi.toNat))),[]⟩else none
 | .c (.s (.str s)),some (.c (.s (.int _ lo))),none=>bif WM P t then some ⟨[decide (0≤lo),decide (lo≤(s.size:Int))], .c (.s (.str (s.extract lo.toNat s.size))),[]⟩else none
 | .c (.s (.str s)),some (.c (.s (.int _ lo))),some (.c (.s (.int _ hi)))=>bif WM P t then some ⟨[decide (0≤hi),decide (hi≤(s.size:Int)),decide (0≤lo),decide (lo≤hi)], .c (.s (.str (s.extract lo.toNat hi.toNat))),[]⟩else none
 | .c (.s (.slf id)),some (.c (.s (.int _ lo))),none=>match rows id with
  |some (.row _ e l)=>bif WL P t e then some ⟨[decide (0≤lo),decide (lo≤(l.length:Int))], .c (.s (.sld id lo)),[]⟩else none
  |_=>none
 | .c (.s (.slf id)),none,some (.c (.s (.int _ hi)))=>match rows id with
  |some (.row _ e l)=>bif WL P t e then some ⟨[decide (0≤hi),decide (hi≤(l.length:Int))], .c (.s (.slt id hi)),[]⟩else none
  |_=>none
 | .c (.s (.nslf id i)),some (.c (.s (.int _ lo))),none=>match rows id with
  |some (.row _ .n l)=>bif WL P t .i then some ⟨[decide (0≤lo),decide (lo≤((rdE .n l i).length:Int))], .c (.s (.nsld id i lo)),[]⟩else none
  |_=>none
 |_,_,_=>none
def Zsi:Option (Nat×Bool)→Bool|none=>true|some (_,o)=>o
def WJ:Option (Nat×Bool)→Us|none=>[]|some (id,_)=>[(id, .dead)]
def ZrL:E→Option (Nat×Bool)→Bool| .n,x=>Zsi x|_,_=>true
def ZnC:E→Option (Nat×Bool)→Us| .n,x=>WJ x|_,_=>[]
def Uj (P:Program) (rows:Rows) (fresh:Nat) (t:TypeId):TV→TV→Option F
 | .c (.s v), .c (.s x)=>match Xo P t with
  |some e=>match Qv rows e v with
   |some (l,own)=>
    match Qv (Zj rows (WJ own)) e x with
    |some (l2,own2)=>bif Zsi own&&ZrL e own2 then some ⟨[decide (l.length+l2.length≤e.most)], .c (.s (.slf fresh)),(WJ own++ZnC e own2)++[(fresh, .row true e (l++l2))]⟩else none
    |none=>none
   |none=>none
  |none=>none
 |_,_=>none
def ZqV (P:Program) (fresh:Nat) (t:TypeId):TV→Option F
 | .c (.s (.int .i64 n))=>match Xo P t with
  |some e=>some ⟨[decide (0≤n),decide (n.toNat≤e.most)], .c (.s (.slf fresh)),[(fresh, .row true e (List.replicate n.toNat e.zero))]⟩
  |none=>none
 |_=>none
def ZnW:Operand→Operand→Bool
 | .tmp a, .tmp b=>Nat.beq a b
 | .const (.int .i64 (.ofNat a)), .const (.int .i64 (.ofNat b))=>Nat.beq a b
 |_,_=>false
def WA (P:Program) (rows:Rows) (src dst:TypeId):TV→Option F
 | .c (.s (.int _ n))=>match P.underlying src,P.underlying dst with
  |some (.int _),some (.int k)=>Qj (.int k (k.wrap n))
  |_,_=>none
 | .c (.s v)=>match Xo P src,P.underlying dst,Qv rows .b v with
  |some .b,some .string,some (l,_)=>Qj (.str (Ks l))
  |_,_,_=>none
 |_=>none
def Zdi (P:Program) (t:TypeId) (f:Nat):Option (Nat×TypeId):=
 match P.underlying t with
 |some (.struct fs)=>match fs.toList[f]? with
  |some x=>bif Nat.beq (P.cellsOf x.type) 0 then none else some (x.offset,x.type)
  |none=>none
 |_=>none
def KI (st:St):Option Operand→Option TV|none=>none|some x=>some (st.ev x)
def VD (st:St):List (Nat×Operand)→List (Nat×TV)| []=>[]| (i,x)::r=>(i,st.ev x)::VD st r
def Qe (P:Program) (fresh:Nat) (st:St):Op→Option F
 | .move x=>some ⟨[],st.ev x,[]⟩
 | .assign x=>some ⟨[],st.ev x,[]⟩
 | .alloc t=>match zeroCells P t with|some cs=>some ⟨[], .c (.s (.ptr fresh 0)),[(fresh, .box cs)]⟩|none=>none
 | .box _ x=>match cellsOf (st.ev x)with|some cs=>some ⟨[], .c (.s (.ptr fresh 0)),[(fresh, .box cs)]⟩|none=>none
 | .build t parts=>match P.underlying t,zeroCells P t with
  |some (.struct fs),some cs=>bif Zcu P fs.toList then (match Zme P fs.toList cs (VD st parts.toList)with|some cs'=>some ⟨[], .c (.agg cs'),[]⟩|none=>none)else none
  |_,_=>none
 | .buildSlice t n parts=>match Xo P t,UC 0 (VD st parts.toList)with
  |some e,some vs=>bif Nat.beq vs.length n&&Nat.ble n 1000 then (match Vg st.rows e vs with
   |some (l,us)=>some ⟨[], .c (.s (.slf fresh)),us++[(fresh, .row true e l)]⟩
   |none=>none)else none
  |_,_=>none
 | .load t x=>Kf P st.rows t (st.ev x)
 | .store t x y=>Xa P st.rows t (st.ev x) (st.ev y)
 | .nilCheck x=>match st.ev x with
  | .c (.s (.ptr id o))=>Qj (.ptr id o)
  | .c (.s (.eptr id i o))=>Qj (.eptr id i o)
  |_=>none
 | .binOp op t x y _=>Zsb P op t (st.ev x) (st.ev y)
 | .unOp .not _ x=>match st.ev x with| .c (.s (.bool b))=>Qj (.bool (!b))|_=>none
 | .convert src dst x=>WA P st.rows src dst (st.ev x)
 | .makeSlice t l c=>bif ZnW l c then ZqV P fresh t (st.ev l)else none
 | .slice t x lo hi none=>Wm P st.rows t (st.ev x) (KI st lo) (KI st hi)
 | .fieldAddr t x f=>match Zdi P t f,st.ev x with
  |some (o,_), .c (.s (.ptr id off))=>Qj (.ptr id (off+o))
  |some (o,_), .c (.s (.eptr id i off))=>Qj (.eptr id i (off+o))
  |_,_=>none
 | .field t x f=>match Zdi P t f,st.ev x with
  |some (o,ft), .c (.agg cs)=>match Ku P ft with
   |some true=>bif Nat.ble (o+P.cellsOf ft) cs.length then some ⟨[], .c (.agg ((cs.drop o).take (P.cellsOf ft))),[]⟩else none
   |some false=>(match cs[o]? with|some v=>bif okS v then Qj v else none|none=>none)
   |none=>none
  |_,_=>none
 | .indexAddr t x ix=>match Xo P t,st.ev x,st.ev ix with
  |some e, .c (.s v), .c (.s (.int _ i))=>K5 st.rows e i v
  |_,_,_=>none
 | .index t x ix=>match P.underlying t,st.ev x,st.ev ix with
  |some .string, .c (.s (.str s)), .c (.s (.int _ i))=>some ⟨[decide (0≤i),decide (i< (s.size:Int))], .c (.s (.int .u8 (bt s i))),[]⟩
  |_,_,_=>none
 | .extract x k=>match st.ev x with
  | .tup l=>(match l[k]? with|some v=>some ⟨[], .c v,[]⟩|none=>none)
  |_=>none
 |_=>none
def Zlr (f:Int→Int→Int):List TV→Option F
 | [.c (.s (.int k a)), .c (.s (.int k' b))]=>bif KC k k' then Qj (.int k (f a b))else none
 |_=>none
def K3 (P:Program) (fresh:Nat) (st:St) (b:Builtin) (argTypes:List TypeId) (args:List TV):Option F:=
 match b,args,argTypes with
 | .len,[x],[t]=>match P.underlying t,x with
  |some .string, .c (.s (.str s))=>Qj (.int .i64 (s.size:Int))
  |some (.slice _),x=>KD st.rows x
  |_,_=>none
 | .append,[x,y],[t,t']=>bif Nat.beq t t' then Uj P st.rows fresh t x y else none
 | .min,xs,_=>Zlr mnI xs
 | .max,xs,_=>Zlr mxI xs
 |_,_,_=>none
def Zi5 {R:Type}:List Bool→Option R→Option R
 | [],x=>x|c::cs,x=>bif c then Zi5 cs x else none
def evs (st:St):List Operand→List TV| []=>[]|x::r=>st.ev x::evs st r
def Ji:(ts:List Ty)→BTup ts→List TV→Rows→Nat→Bool
 | [],_,_,_,_=>true
 | .p ts::r,x, .c (.s (.ptr id off))::vs,rows,base=>
  match rows id with
  |some (.box cs)=>
   let q:=QX ts x.1 ((cs.drop off).take ts.length) base
   let us:=q.2++[(id, .box (Qu cs off q.1))]
   Ji r x.2 vs (Zj rows us) (base+64)
  |_=>false
 | .v _::r,x,_::vs,rows,base=>Ji r x vs rows (base+64)
 | .a _::r,x,_::vs,rows,base=>Ji r x vs rows (base+64)
 | .r _::r,x,_::vs,rows,base=>Ji r x vs rows (base+64)
 | .p _::_,_,_,_,_=>false
 |_::_,_,[],_,_=>false
def U8 {R:Type} (f:Fn) (fresh:Nat) (st:St) (args:List TV) (K:TV→Us→Option R):Option R:=
 match Xc st.rows f.ins args with
 |some (y,us)=>(f.run y).bind fun r=>
  bif Ji f.ins r.2 args (Zj st.rows us) (fresh+512)then K (Zpy (Qz f.outs r.1 fresh).1) (us++(Qt f.ins r.2 args (Zj st.rows us) (fresh+512)++(Qz f.outs r.1 fresh).2))else none
 |none=>none
def U9 {R:Type} (f:Fn) (fresh:Nat) (st:St) (args:List TV) (K:TV→Us→Option R):Option R:=
 bif Xs f.ins then (match Ws st.rows f.ins args with
 |some (y,us)=>(f.run y).bind fun r=>K (Zpy (Qz f.outs r.1 fresh).1) (us++(Qz f.outs r.1 fresh).2)
 |none=>none)else none
def scr (e:E) (id:Nat):Us:=match e with| .n=>[(id, .scrub)]|_=>[]
def YQ (rows:Rows):(t:LT)→t.D→SV→Option Us
 | .sl true e,l, .slf id=>(match rows id with|some (.row true e' _)=>bif E.same e e' then some (scr e id++[(id, .row true e l)])else none|_=>none)
 | .sl true _,_, .nil=>some []
 | .sl _ _,_,_=>none
 | .mb _,_,_=>none
 |_,_,_=>some []
def XV (rows:Rows):(ts:List LT)→Tup ts→List SV→Option Us
 | [],_,[]=>some []
 |t::ts,x,v::vs=>(match YQ rows t x.1 v with|some a=>(match XV rows ts x.2 vs with|some b=>some (a++b)|none=>none)|none=>none)
 |_,_,_=>none
def Yp (rows:Rows):(t:Ty)→t.D→TV→Option Us
 | .v t,x, .c (.s v)=>YQ rows t x v
 | .a ts,x, .c (.agg l)=>XV rows ts x l
 |_,_,_=>none
def Zl2 {R:Type} (f:Fn) (st:St) (args:List TV) (K:TV→Us→Option R):Option R:=
 match f,args with
 | ⟨[.v (.sl true .i), .v (.int .i64)],[.v (.int .i64), .v (.sl true .i)],run,_⟩,[.c (.s (.nslf id i)), .c (.s (.int .i64 k))]=>(match st.rows id with
  |some (.row true .n l)=>(run (rdE .n l i,(k,()))).bind fun r=>K (.c (.s (.int .i64 r.1.1))) [(id, .row true .n (l.set i.toNat r.1.2.1))]
  |_=>none)
 | ⟨[t, .v (.int .i64)],[.v (.int .i64),t'],run,_⟩,[tv, .c (.s (.int .i64 k))]=>bif t.noP then (match Xc st.rows [t, .v (.int .i64)] [tv, .c (.s (.int .i64 k))]with
  |some (y,us)=>(run y).bind fun r=>(match Yp st.rows t' r.1.2.1 tv with
   |some b=>K (.c (.s (.int .i64 r.1.1))) (us++b)
   |none=>none)
  |none=>none)else none
 |_,_=>none
def ZoN:List LT→List SV| []=>[]|_::ts=> .undef::ZoN ts
def Zl5 {R:Type} (f:Fn) (fresh:Nat) (st:St) (args:List TV) (K:TV→Us→Option R):Option R:=
 match f with
 | ⟨ins,[.a ts, .v .bool],run,_⟩=>bif Xs ins then (match Xc st.rows ins args with
  |some (y,us)=>(run y).bind fun r=>bif r.1.2.1 then K (.tup [.agg (QC ts r.1.1 fresh).1, .s (.bool true)]) (us++(QC ts r.1.1 fresh).2)else K (.tup [.agg (ZoN ts), .s (.bool false)]) us
  |none=>none)else none
 |_=>none
def U7 {R:Type} (f:Fn) (fresh:Nat) (st:St) (args:List TV) (K:TV→Us→Option R):Option R:=
 match f with
 | ⟨ins,[.a ts, .a ts', .v .bool],run,_⟩=>match Xc st.rows ins args with
  |some (y,us)=>(run y).bind fun r=>
   bif Ji ins r.2 args (Zj st.rows us) (fresh+512)then
    (bif r.1.2.2.1 then K (.tup [.agg (QC ts r.1.1 fresh).1, .agg (QC ts r.1.1 fresh).1]) (us++(Qt ins r.2 args (Zj st.rows us) (fresh+512)++(QC ts r.1.1 fresh).2))
     else K (Zpy (Qz [.a ts, .a ts'] (r.1.1,(r.1.2.1,())) fresh).1) (us++(Qt ins r.2 args (Zj st.rows us) (fresh+512)++(Qz [.a ts, .a ts'] (r.1.1,(r.1.2.1,())) fresh).2)))
   else none
  |none=>none
 |_=>none
def Ky {R:Type} (f:Fn) (fresh:Nat) (st:St) (args:List TV) (K:TV→Us→Option R):Option R:=
 match f.kd with
 | .nor=>U8 f fresh st args K
 | .inp=>Zl2 f st args K
 | .lnt=>U9 f fresh st args K
 | .may=>Zl5 f fresh st args K
 | .ali=>U7 f fresh st args K
def KB {R:Type} (K:TV→Us→Option R):Option F→Option R
 |none=>none|some f=>Zi5 f.checks (K f.v f.us)
def Q4 {R:Type} (env:Env) (fresh:Nat) (op:Op) (st:St) (K:TV→Us→Option R):Option R:=
 match op with
 | .pick c a b=>match st.ev c with
  | .c (.s (.bool x))=>bif x then K (st.ev a) []else K (st.ev b) []
  |_=>none
 | .call c=>match c.callee with
  | .value f=>match st.ev f with
   | .c (.s (.fn g))=>match env.fns g with
    |some f=>Ky f fresh st (evs st c.args.toList) K
    |none=>none
   |_=>none
  | .builtin b=>KB K (K3 env.prog fresh st b c.argTypes.toList (evs st c.args.toList))
  |_=>none
 |op=>KB K (Qe env.prog fresh st op)
def Q2:Us→List Nat| []=>[]| (i, .scrub)::r=>i::Q2 r|_::r=>Q2 r
def Q9 (x:Nat):List Nat→Bool| []=>false|y::r=>bif Nat.beq x y then true else Q9 x r
def JW (ks:List Nat):SV→SV
 | .nptr id i j=>bif Q9 id ks then .undef else .nptr id i j
 | .nslf id i=>bif Q9 id ks then .undef else .nslf id i
 | .nsld id i o=>bif Q9 id ks then .undef else .nsld id i o
 |x=>x
def ZlM (ks:List Nat):CV→CV| .s x=> .s (JW ks x)| .agg l=> .agg (l.map (JW ks))
def Zqd (ks:List Nat):TV→TV| .c x=> .c (ZlM ks x)| .tup l=> .tup (l.map (ZlM ks))
def ZlL (f:Nat→TV):List Nat→(Nat→TV)| []=>f|ks=>fun t=>Zqd ks (f t)
def St.app (st:St) (dst:Option Nat) (v:TV) (us:Us):St:=
 match dst with
 |some d=>{st with tmps:=XP (ZlL st.tmps (Q2 us)) d v,rows:=Zj st.rows us}
 |none=>{st with tmps:=ZlL st.tmps (Q2 us),rows:=Zj st.rows us}
def JC (st:St):Option Nat→Bool|some d=>Nat.blt d st.nt|none=>true
def YB (n:Nat):Us→Bool| []=>true| (i,_)::r=>bif Nat.blt i n then YB n r else false
def ZrX {R:Type} (env:Env) (fresh:Nat) (o:Oper) (st:St) (K:St→Option R):Option R:=
 bif JC st o.dst then Q4 env fresh o.op st fun v us=>bif YB (fresh+1024) us then K (st.app o.dst v us)else none else none
def ZmL {R:Type} (o:Oper) (st:St) (K:St→Option R):Option R:=
 bif JC st o.dst then K (st.app o.dst Jy [])else none
def Xd {R:Type} (env:Env) (all:List Oper):List Oper→(fresh:Nat)→St→(St→Option R)→Option R
 | [],_,st,K=>K st
 |o::r,fresh,st,K=>match o.guard with
  |none=>ZrX env fresh o st fun st'=>Xd env all r (fresh+1024) st' K
  |some (j,want)=>match all[j]? with
   |some oj=>match oj.dst with
    |some t=>match st.tmps t with
     | .c (.s (.bool b))=>
      bif b then
       (let s:={st with tmps:=XP st.tmps t (.c (.s (.bool true)))}
        bif want then ZrX env fresh o s fun st'=>Xd env all r (fresh+1024) st' K
        else ZmL o s fun st'=>Xd env all r (fresh+1024) st' K)
      else
       (let s:={st with tmps:=XP st.tmps t (.c (.s (.bool false)))}
        bif want then ZmL o s fun st'=>Xd env all r (fresh+1024) st' K
        else ZrX env fresh o s fun st'=>Xd env all r (fresh+1024) st' K)
     | .c (.s .void)=>ZmL o st fun st'=>Xd env all r (fresh+1024) st' K
     |_=>none
    |none=>none
   |none=>none
def WC:List Nat→List Nat→Bool| [],_=>true|x::r,ys=>bif Q9 x ys then false else WC r ys
def ZsK:SV→List Nat
 | .ptr id _| .eptr id _ _| .nptr id _ _| .slf id| .sld id _| .slt id _| .nslf id _| .nsld id _ _=>[id]|_=>[]
def ZsJ:List SV→List Nat| []=>[]|x::r=>ZsK x++ZsJ r
def ZsI (rows:Rows) (x:SV):List Nat:=
 match x with
 | .ptr id _=>match K0 rows id with|some cs=>id::ZsJ cs|none=>[id]
 |x=>ZsK x
def ZrK (rows:Rows):List SV→List Nat| []=>[]|x::r=>ZsI rows x++ZrK rows r
def ZsH (rows:Rows):CV→List Nat| .s x=>ZsI rows x| .agg l=>ZrK rows l
def ZrJ (rows:Rows):List CV→List Nat| []=>[]|x::r=>ZsH rows x++ZrJ rows r
def ZsS (rows:Rows):TV→List Nat| .c x=>ZsH rows x| .tup l=>ZrJ rows l
def Zpf (rows:Rows):List TV→List Nat| []=>[]|x::r=>ZsS rows x++Zpf rows r
def Zj5:List Operand→List Nat| []=>[]| .tmp t::r=>t::Zj5 r|_::r=>Zj5 r
def Ya (o:Op):List Nat:=Zj5 o.operands.toList
def J6 (st:St):List Nat→List TV| []=>[]|t::r=>st.tmps t::J6 st r
def Ko (st:St) (ts vis:List Nat) (fresh:Nat):St:=
 {st with
  tmps:=fun t=>bif Q9 t ts then st.tmps t else Wu
  rows:=fun id=>bif Q9 id vis then st.rows id else (bif Nat.ble fresh id&&Nat.blt id (fresh+1024)then none else some .dead)}
def ZsN (st:St) (op:Op):List Nat:=
 match op with
 | .move _=>[]| .assign _=>[]| .nilCheck _=>[]| .fieldAddr _ _ _=>[]| .binOp _ _ _ _ _=>[]| .unOp _ _ _=>[]| .pick _ _ _=>[]| .extract _ _=>[]| .field _ _ _=>[]| .box _ _=>[]| .alloc _=>[]| .build _ _=>[]
 | .load _ _=>Zpf (fun _=>none) (J6 st (Ya op))
 | .store _ _ _=>Zpf (fun _=>none) (J6 st (Ya op))
 |_=>Zpf st.rows (J6 st (Ya op))
structure Tr where
 idx:Nat
 dst:Option Nat
 uses:List Nat
 rd:List Nat
 wr:List Nat
 fresh:Nat
def Zr3 (x:Option Nat) (l:List Nat):Bool:=match x with|some d=>Q9 d l|none=>false
def ZrT:Option Nat→Option Nat→Bool|some a,some b=>Nat.beq a b|_,_=>false
def Zr4 (fresh:Nat):List Nat→Bool| []=>true|i::r=>bif Nat.ble fresh i&&Nat.blt i (fresh+1024)then false else Zr4 fresh r
def apart (a b:Tr):Bool:=
 !(Zr3 a.dst b.uses)&&(!(Zr3 b.dst a.uses)&&(!(ZrT a.dst b.dst)&&(WC a.wr b.rd&&(WC b.wr a.rd&&(WC a.wr b.wr&&Zr4 a.fresh b.wr)))))
def XW (e:Edge):Bool:=match e.ground with| .textOnly _| .gcOnly _=>false|_=>true
def Jq (masks:List Nat):List Edge→Nat
 | []=>0
 |e::r=>bif XW e then Nat.lor (Nat.lor (2^e.on) (masks.getD e.on 0)) (Jq masks r)else Jq masks r
def YE (i:Nat):List Edge→Bool
 | []=>true|e::r=>bif XW e then (bif Nat.blt e.on i then YE i r else false)else YE i r
def KG (m:Nat) (tr:Tr):List Tr→Bool
 | []=>true
 |t::r=>bif Nat.testBit m t.idx then KG m tr r else (bif apart t tr then KG m tr r else false)
def QF:Us→List Nat| []=>[]| (i,_)::r=>i::QF r
def Ziq (us:Us):Bool:=match Q2 us with| []=>true|_=>false
def Zpb {R:Type} (fresh idx:Nat) (uses vis:List Nat) (masks:List Nat) (trs:List Tr) (o:Oper) (st:St) (K:List Nat→List Tr→St→Option R) (v:TV) (us:Us):Option R:=
 bif YE idx o.after.toList&&(YB (fresh+1024) us&&(Ziq us&&KG (Jq masks o.after.toList) ⟨idx,o.dst,uses,vis,QF us,fresh⟩ trs))then
  K (masks++[Jq masks o.after.toList]) (⟨idx,o.dst,uses,vis,QF us,fresh⟩::trs) (st.app o.dst v us)
 else none
def drO {R:Type} (env:Env) (fresh idx:Nat) (guard:List Nat) (masks:List Nat) (trs:List Tr) (o:Oper) (st:St) (K:List Nat→List Tr→St→Option R):Option R:=
 bif JC st o.dst then
  Q4 env fresh o.op (Ko st (Ya o.op) (ZsN st o.op) fresh)
   (Zpb fresh idx (guard++Ya o.op) (ZsN st o.op) masks trs o st K)
 else none
def Zhj {R:Type} (fresh idx:Nat) (guard:List Nat) (masks:List Nat) (trs:List Tr) (o:Oper) (st:St) (K:List Nat→List Tr→St→Option R):Option R:=
 bif JC st o.dst then Zpb fresh idx guard [] masks trs o st K Jy []else none
def UB (m:Nat):Nat→Bool|0=>true|n+1=>bif Nat.testBit m n then UB m n else false
def ZrM {α:Type}:List α→Bool| []=>true|_=>false
def ZnI (r:List Oper) (idx:Nat) (masks:List Nat) (o:Oper):Bool:=ZrM r&&(YE idx o.after.toList&&UB (Jq masks o.after.toList) idx)
def J5 {R:Type} (env:Env) (all:List Oper):List Oper→(fresh idx:Nat)→List Nat→List Tr→St→(St→Option R)→Option R
 | [],_,_,_,_,st,K=>K st
 |o::r,fresh,idx,masks,trs,st,K=>bif ZnI r idx masks o then Xd env all [o] fresh st K else match o.guard with
  |none=>drO env fresh idx [] masks trs o st fun ms ts st'=>J5 env all r (fresh+1024) (idx+1) ms ts st' K
  |some (j,want)=>match all[j]? with
   |some oj=>match oj.dst with
    |some t=>match st.tmps t with
     | .c (.s (.bool b))=>
      bif b then
       (let s:={st with tmps:=XP st.tmps t (.c (.s (.bool true)))}
        bif want then drO env fresh idx [t] masks trs o s fun ms ts st'=>J5 env all r (fresh+1024) (idx+1) ms ts st' K
        else Zhj fresh idx [t] masks trs o s fun ms ts st'=>J5 env all r (fresh+1024) (idx+1) ms ts st' K)
      else
       (let s:={st with tmps:=XP st.tmps t (.c (.s (.bool false)))}
        bif want then Zhj fresh idx [t] masks trs o s fun ms ts st'=>J5 env all r (fresh+1024) (idx+1) ms ts st' K
        else drO env fresh idx [t] masks trs o s fun ms ts st'=>J5 env all r (fresh+1024) (idx+1) ms ts st' K)
     | .c (.s .void)=>Zhj fresh idx [t] masks trs o st fun ms ts st'=>J5 env all r (fresh+1024) (idx+1) ms ts st' K
     |_=>none
    |none=>none
   |none=>none
def ZsA {R:Type} (env:Env) (ops:Array Oper) (draw:Bool) (st:St) (K:St→Option R):Option R:=
 let K':St→Option R:=fun st'=>K {st' with next:=st.next+1024*ops.toList.length}
 bif draw then J5 env ops.toList ops.toList st.next 0 [] [] st K' else Xd env ops.toList ops.toList st.next st K'
inductive Ex where|normal|exit (id:Nat)|ret
def UE:Code→Nat
 | .region id _ _=>id| .seq a _=>UE a| .block _ c=>UE c| .loop c=>UE c|_=>0
def Zmc:List Oper→List Nat| []=>[]|o::r=>match o.dst with|some d=>d::Zmc r|none=>Zmc r
def Q8:Code→List Nat
 | .region _ ops _=>Zmc ops.toList| .seq a b=>Q8 a++Q8 b| .cond _ a b=>Q8 a++Q8 b| .block _ c=>Q8 c| .loop c=>Q8 c
 | .scope c=>Q8 c| .rangeFunc _ _ a b=>Q8 a++Q8 b|_=>[]
def ZrN (ts:List Nat) (f:Nat→TV):Nat→TV:=fun t=>bif Q9 t ts then Wu else f t
def UV:List Nat→List TV→(Nat→TV)→(Nat→TV)
 |s::ss,v::vs,f=>UV ss vs (XP f s v)|_,_,f=>f
def Q0:List LT→List LT| []=>[]| .sl true e::r=> .mb e::Q0 r|t::r=>t::Q0 r
def Wt:(ts:List LT)→Tup ts→Tup (Q0 ts)
 | [],_=>()| .sl true _::r,x=>(none,Wt r x.2)| .sl false _::r,x=>(x.1,Wt r x.2)| .int _::r,x=>(x.1,Wt r x.2)| .bool::r,x=>(x.1,Wt r x.2)
 | .str::r,x=>(x.1,Wt r x.2)| .fn _::r,x=>(x.1,Wt r x.2)| .mb _::r,x=>(x.1,Wt r x.2)
def V4:(ts:List LT)→Tup (Q0 ts)→Tup ts
 | [],_=>()| .sl true _::r,x=>([],V4 r x.2)| .sl false _::r,x=>(x.1,V4 r x.2)| .int _::r,x=>(x.1,V4 r x.2)| .bool::r,x=>(x.1,V4 r x.2)
 | .str::r,x=>(x.1,V4 r x.2)| .fn _::r,x=>(x.1,V4 r x.2)| .mb _::r,x=>(x.1,V4 r x.2)
def Jg:List Bool→List Ty→List Ty
 | [],ts=>ts|_::_,[]=>[]|true::d, .p ts::r=> .p (Q0 ts)::Jg d r|false::d, .p ts::r=> .p ts::Jg d r|_::d, .v t::r=> .v t::Jg d r|_::d, .a t::r=> .a t::Jg d r|_::d, .r t::r=> .r t::Jg d r
def toD:(d:List Bool)→(ts:List Ty)→BTup ts→BTup (Jg d ts)
 | [],_,y=>y|_::_,[],_=>()|true::d, .p ts::r,y=>(Wt ts y.1,toD d r y.2)|false::d, .p ts::r,y=>(y.1,toD d r y.2)|_::d, .v _::r,y=>toD d r y|_::d, .a _::r,y=>toD d r y|_::d, .r _::r,y=>toD d r y
def UA:(d:List Bool)→(ts:List Ty)→BTup (Jg d ts)→BTup ts
 | [],_,y=>y|_::_,[],_=>()|true::d, .p ts::r,y=>(V4 ts y.1,UA d r y.2)|false::d, .p ts::r,y=>(y.1,UA d r y.2)|_::d, .v _::r,y=>UA d r y|_::d, .a _::r,y=>UA d r y|_::d, .r _::r,y=>UA d r y
structure ZJ where
 cs:List Nat
 cty:List Ty
 bs:List Nat
 bty:List Ty
 vs:List Nat
 vty:List Ty
 rs:List Nat
 rty:List Ty
 ex:Nat
 dd:List Bool
 run:PTup cty→PTup bty→PTup vty→Option (Sum (PTup vty) (PTup rty)×BTup bty)
structure ZH where
 env:Env
 loops:Nat→Option ZJ
def XL:(ts:List Ty)→{us:List Ty}→PTup (ts++us)→PTup ts×PTup us
 | [],_,x=>((),x)
 |_::ts,_,x=>((x.1,(XL ts x.2).1),(XL ts x.2).2)
def ZE {A B C:Type} (x:Sum A B) (f:A→C) (g:B→C):C:=match x with| .inl a=>f a| .inr b=>g b
def Ty.plain:Ty→Bool| .v t=>t.plain| .a ts=>Ww ts| .p _=>false| .r ts=>Ww ts
def plains:List Ty→Bool| []=>true|t::r=>t.plain&&plains r
def LT.own:LT→Bool| .sl own _=>own|_=>true
def VX:List LT→Bool| []=>true|t::r=>t.own&&VX r
def Ty.own:Ty→Bool| .v t=>t.own| .a ts=>VX ts| .p ts=>VX ts| .r _=>false
def XF:List Ty→Bool| []=>true|t::r=>t.own&&XF r
def Ty.isP:Ty→Bool| .p _=>true|_=>false
def allP:List Ty→Bool| []=>true|t::r=>t.isP&&allP r
def ZsB:Ty→Bool| .v _=>true| .a ts=>Nat.ble ts.length 63| .p ts=>Nat.ble ts.length 63| .r ts=>Nat.ble ts.length 63
def XO:List Ty→Bool| []=>true|t::r=>ZsB t&&XO r
def ZhB (l:ZJ) (c:Code):Bool:=
 plains l.cty&&(XF l.vty&&(XF l.rty&&(allP l.bty&&(WC (l.cs++l.bs) (Q8 c)&&(XO (l.cty++(l.bty++(l.vty++l.rty)))&&
  (Nat.beq l.cs.length l.cty.length&&(Nat.beq l.bs.length l.bty.length&&(Nat.beq l.vs.length l.vty.length&&(Nat.beq l.rs.length l.rty.length&&
  (Nat.ble l.bty.length 32&&(Nat.ble l.vty.length 32&&(Nat.ble l.rty.length 32&&Nat.ble l.cty.length 32))))))))))))
def Zda (st:St) (c:Code) (us:Us) (bty:List Ty) (b:BTup bty) (bs:List Nat) (ts:List Ty) (o:PTup ts) (ss:List Nat):St:=
 {st with
  tmps:=UV ss (Qz ts o st.next).1 (ZrN (Q8 c) st.tmps)
  rows:=Zj st.rows (us++(Qt bty b (J6 st bs) (Zj st.rows us) (st.next+2048)++(Qz ts o st.next).2))
  next:=st.next+4096}
def XN {R:Type} (E:ZH):Code→St→(Ex→St→Option R)→Option R
 | .skip,st,K=>K .normal st
 | .label _,st,K=>K .normal st
 | .region _ ops draw,st,K=>ZsA E.env ops draw st (K .normal)
 | .seq a b,st,K=>XN E a st fun ex st'=>match ex with
  | .normal=>XN E b st' K
  |ex=>K ex st'
 | .cond c a b,st,K=>match st.ev c with
  | .c (.s (.bool x))=>bif x then XN E a st K else XN E b st K
  |_=>none
 | .block id c,st,K=>XN E c st fun ex st'=>match ex with
  | .exit id'=>bif Nat.beq id' id then K .normal st' else K (.exit id') st'
  |ex=>K ex st'
 | .loop c,st,K=>match E.loops (UE c)with
  |some l=>bif ZhB l c then (match Xc st.rows (l.cty++(l.bty++l.vty)) (J6 st (l.cs++(l.bs++l.vs)))with
   |some (xyz,us)=>(l.run (XL l.cty xyz).1 (XL l.bty (XL l.cty xyz).2).1 (XL l.bty (XL l.cty xyz).2).2).bind fun r=>ZE r.1
    (fun o=>K (.exit l.ex) (Zda st c us l.bty r.2 l.bs l.vty o l.vs))
    (fun o=>K .ret (Zda st c us (Jg l.dd l.bty) (toD l.dd l.bty r.2) l.bs l.rty o l.rs))
   |none=>none)else none
  |none=>none
 | .exit id,st,K=>K (.exit id) st
 | .ret,st,K=>K .ret st
 |_,_,_=>none
def Zmf (n:Nat):List TV→Nat→TV
 | [],t=>bif Nat.blt t n then Wu else Wu
 |v::_,0=>v
 |_::vs,t+1=>Zmf n vs t
def UJ:Rows:=fun _=>none
def Ux (ins:List Ty) (y:PTup ins) (nt:Nat):St:=
 ⟨Zmf nt (Qz ins y 0).1,Zj UJ (Qz ins y 0).2,nt,64*ins.length⟩
def Kc:List LT→List SV→Nat→Bool
 | .sl false _::ts, .slf id::vs,b=>Nat.beq id b&&Kc ts vs (b+1)
 | .sl false _::_,_::_,_=>false
 |_::ts,_::vs,b=>Kc ts vs (b+1)
 | [],[],_=>true
 |_,_,_=>false
def Xv (rows:Rows):(ts:List Ty)→Nat→Option (BTup ts)
 | [],_=>some ()
 | .p ts::r,b=>match rows (b+63)with
  |some (.box cs)=>bif Kc ts cs b then (match Qp rows (.p ts) (.c (.s (.ptr (b+63) 0)))with
   |some (x,us,ls)=>bif JA false (Zj rows us) ls then (match Xv (Zj rows us) r (b+64)with
    |some xs=>some (x,xs)
    |none=>none)else none
   |none=>none)else none
  |_=>none
 | .v _::r,b=>Xv rows r (b+64)
 | .a _::r,b=>Xv rows r (b+64)
 | .r _::r,b=>Xv rows r (b+64)
def Ziw (P:Program) (st:St):ResultVar→Option TV
 | .tmp t=>some (st.tmps t)
 | .cell a t=>(match Ku P t with
  |some true=>(match Kf P st.rows t (st.tmps a)with|some f=>some f.v|none=>none)
  |_=>none)
def W3 (P:Program) (st:St):List ResultVar→Option (List TV)
 | []=>some []
 |r::rs=>match Ziw P st r,W3 P st rs with
  |some v,some vs=>some (v::vs)
  |_,_=>none
def Znw (P:Program) (ins outs:List Ty) (rs:List ResultVar) (st:St):Option (PTup outs×BTup ins):=
 match W3 P st rs with
 |some vs=>match QO st.rows outs vs with
  |some (x,us,_)=>match Xv (Zj st.rows us) ins 0 with
   |some y=>some (x,y)
   |none=>none
  |none=>none
 |none=>none
def Z8 (E:ZH) (f:Func) (ins outs:List Ty) (y:PTup ins):Option (PTup outs×BTup ins):=
 match f.body with
 |some c=>XN E c (Ux ins y f.ntmps) fun ex st=>match ex with
  | .normal| .ret=>Znw E.env.prog ins outs f.results.toList st
  |_=>none
 |none=>none
def Zr6 (E:ZH) (f:Func) (ins outs:List Ty) (y:PTup ins):Option (PTup outs×BTup ins):=
 match f.body with
 |some c=>XN E c (Ux ins y f.ntmps) fun ex st=>match ex with
  | .normal| .ret=>(match W3 E.env.prog st f.results.toList with
   |some vs=>(match QO st.rows outs vs with
    |some (x,us,ls)=>bif Xg (Zj st.rows us) ls then (match Xv (Zj st.rows us) ins 0 with
     |some y=>some (x,y)
     |none=>none)else none
    |none=>none)
   |none=>none)
  |_=>none
 |none=>none
def LT.dflt:(t:LT)→t.D| .int _=>(0:Int)| .bool=>false| .str=>ByteArray.empty| .sl _ _=>[]| .fn _=>()| .mb _=>none
def Uw:(ts:List LT)→Tup ts| []=>()|t::r=>(t.dflt,Uw r)
def Ty.dflt:(t:Ty)→t.D| .v t=>t.dflt| .a ts=>Uw ts| .p ts=>Uw ts| .r ts=>Uw ts
def Zkj (P:Program) (ins:List Ty) (ts:List LT) (rs:List ResultVar) (st:St):Option (PTup [.a ts, .v .bool]×BTup ins):=
 match W3 P st rs with
 |some [tv, .c (.s (.bool b))]=>bif b then (match QO st.rows [.a ts, .v .bool] [tv, .c (.s (.bool true))]with
   |some (x,us,_)=>(match Xv (Zj st.rows us) ins 0 with
    |some y=>some ((x.1,(true,())),y)
    |none=>none)
   |none=>none)else (match tv,Xv st.rows ins 0 with
   | .c (.agg l),some y=>bif okL l&&Nat.beq l.length ts.length then some ((Uw ts,(false,())),y)else none
   |_,_=>none)
 |_=>none
def Zr7 (E:ZH) (f:Func) (ins:List Ty) (ts:List LT) (y:PTup ins):Option (PTup [.a ts, .v .bool]×BTup ins):=
 match f.body with
 |some c=>XN E c (Ux ins y f.ntmps) fun ex st=>match ex with
  | .normal| .ret=>Zkj E.env.prog ins ts f.results.toList st
  |_=>none
 |none=>none
def ZkG (l:ZJ) (x:PTup l.cty) (y:PTup l.bty) (z:PTup l.vty) (nt:Nat):St:=
 ⟨UV l.vs (Qz l.vty z 4096).1 (UV l.bs (Qz l.bty y 2048).1 (UV l.cs (Qz l.cty x 0).1 (fun _=>Wu))),
  Zj (Zj (Zj UJ (Qz l.cty x 0).2) (Qz l.bty y 2048).2) (Qz l.vty z 4096).2,nt,6144⟩
def Vq:(ts:List Ty)→BTup ts→PTup ts
 | [],_=>()| .p _::r,x=>(x.1,Vq r x.2)| .v t::r,x=>(t.dflt,Vq r x)| .a ts::r,x=>(Uw ts,Vq r x)| .r ts::r,x=>(Uw ts,Vq r x)
def ZX (E:ZH) (c:Code) (l:ZJ) (nt:Nat) (again:PTup l.bty→PTup l.vty→Option (Sum (PTup l.vty) (PTup l.rty)×BTup l.bty)) (x:PTup l.cty) (y:PTup l.bty) (z:PTup l.vty):Option (Sum (PTup l.vty) (PTup l.rty)×BTup l.bty):=
 XN E c (ZkG l x y z nt) fun ex st=>match ex with
  | .normal=>(match QO st.rows l.vty (J6 st l.vs)with
   |some (z',us,_)=>(match Xv (Zj st.rows us) l.bty 2048 with
    |some y'=>again (Vq l.bty y') z'
    |none=>none)
   |none=>none)
  | .exit id=>bif Nat.beq id l.ex then (match QO st.rows l.vty (J6 st l.vs)with
   |some (z',us,_)=>(match Xv (Zj st.rows us) l.bty 2048 with
    |some y'=>some (.inl z',y')
    |none=>none)
   |none=>none)else none
  | .ret=>(match QO st.rows l.rty (J6 st l.rs)with
   |some (r,us,_)=>(match Xv (Zj st.rows us) (Jg l.dd l.bty) 2048 with
    |some y'=>some (.inr r,UA l.dd l.bty y')
    |none=>none)
   |none=>none)
def wI (x:Int):Int:=IntKind.wrap .i64 x
def wB (x:Int):Int:=IntKind.wrap .u8 x
def ltI (x y:Int):Bool:=decide (x<y)
def leI (x y:Int):Bool:=decide (x≤y)
def leN (x y:Nat):Bool:=decide (x≤y)
def eqI (x y:Int):Bool:=x==y
def neI (x y:Int):Bool:=x !=y
def Zf {α:Type} (l:List α):Int:=(l.length:Int)
def Z6:List (Nat×Fn)→Nat→Option Fn
 | [],_=>none| (k,f)::r,g=>bif Nat.beq g k then some f else Z6 r g
def Qg:List (Nat×ZJ)→Nat→Option ZJ
 | [],_=>none| (k,f)::r,g=>bif Nat.beq g k then some f else Qg r g
def Kg:Code→List Code
 | .seq a b=>Kg a++Kg b| .cond _ a b=>Kg a++Kg b| .block _ c=>Kg c| .loop c=>[c]|_=>[]
def Zm (f:Func):Code:=match f.body with|some c=>c|none=> .skip
def Zea (f:Func):Bool:=match f.body with|some _=>true|none=>false
def Zk (c:Code) (i:Nat):Code:=(Kg c).getD i .skip
abbrev Fp:=Nat→Nat→Prop
structure IP where
 a:Option (Nat×Nat)
 cap:Nat
 len:Nat
 q:Option Addr
structure Ips where
 f:Nat→IP
 q:Option Addr
instance:CoeFun Ips (fun _=>Nat→IP):=⟨Ips.f⟩
inductive Pl where
 |box (b o n:Nat)
 |row (a:Option (Nat×Nat)) (cap len:Nat) (e:E) (ips:Ips)
abbrev Loc:=Nat→Option Pl
def adr (p:Nat×Nat):Addr:=⟨p.1,p.2,none⟩
def pt (a:Option (Nat×Nat)) (q:Option Addr):Option Addr:=match a with|some p=>some (adr p)|none=>q
def slV (a:Option (Nat×Nat)) (q:Option Addr) (len cap:Nat):Value:= .slice (pt a q) len cap
def Vl (q:Option Addr):Prop:=q=none∨ ∃s,q=some s∧s.spot.isSome=true
theorem XU (b o k:Nat):(adr (b,o)).add k=adr (b,o+k):=by
 unfold adr Addr.add;split<;>simp_all
def ZD (loc:Loc):SV→Value→Prop
 | .undef,v=>v.oneCell'=true
 | .void,v=>v=undef
 | .int k n,v=>v= .int k n
 | .bool b,v=>v= .bool b
 | .str s,v=>v= .string s
 | .fn f,v=>v= .func (.func f) #[] #[]
 | .nil,v=>v= .slice none 0 0
 | .ptr id off,v=> ∃b o n,loc id=some (.box b o n)∧v= .pointer (some (adr (b,o+off)))
 | .eptr id i off,v=> ∃b o cap len e ips,loc id=some (.row (some (b,o)) cap len e ips)∧0≤i∧i.toNat<len∧v= .pointer (some (adr (b,o+i.toNat*e.sz+off)))
 | .nptr id i j,v=> ∃a cap len ips b o,loc id=some (.row a cap len .n ips)∧0≤i∧i.toNat<len∧(ips i.toNat).a=some (b,o)∧0≤j∧j.toNat< (ips i.toNat).len∧v= .pointer (some (adr (b,o+j.toNat)))
 | .slf id,v=> ∃a cap len e ips,loc id=some (.row a cap len e ips)∧v=slV a ips.q len cap
 | .sld id k,v=> ∃a cap len e ips,loc id=some (.row a cap len e ips)∧0≤k∧k.toNat≤len∧v=slV (if cap=k.toNat then a else a.map fun p=>(p.1,p.2+k.toNat*e.sz)) ips.q (len-k.toNat) (cap-k.toNat)
 | .slt id n,v=> ∃a cap len e ips,loc id=some (.row a cap len e ips)∧0≤n∧n.toNat≤len∧v=slV a ips.q n.toNat cap
 | .nslf id i,v=> ∃a cap len ips,loc id=some (.row a cap len .n ips)∧0≤i∧i.toNat<len∧v=slV (ips i.toNat).a (ips i.toNat).q (ips i.toNat).len (ips i.toNat).cap
 | .nsld id i k,v=> ∃a cap len ips,loc id=some (.row a cap len .n ips)∧0≤i∧i.toNat<len∧0≤k∧k.toNat≤(ips i.toNat).len∧
   v=slV (if (ips i.toNat).cap=k.toNat then (ips i.toNat).a else (ips i.toNat).a.map fun p=>(p.1,p.2+k.toNat)) (ips i.toNat).q ((ips i.toNat).len-k.toNat) ((ips i.toNat).cap-k.toNat)
 | .lent,_=>True
 | .lsl _,_=>True
def Z3 (loc:Loc):List SV→List Value→Prop
 | [],[]=>True|x::xs,v::vs=>ZD loc x v∧Z3 loc xs vs|_,_=>False
def Ym (loc:Loc):CV→Value→Prop
 | .s .undef,_=>True
 | .s x,v=>ZD loc x v
 | .agg l,v=> ∃cs:List Value,v= .agg cs.toArray∧Z3 loc l cs
def YY (loc:Loc):List CV→List Value→Prop
 | [],[]=>True|x::xs,v::vs=>Ym loc x v∧YY loc xs vs|_,_=>False
def ZK (loc:Loc):TV→Value→Prop
 | .c x,v=>Ym loc x v
 | .tup l,v=> ∃vs:List Value,v= .tuple vs.toArray∧YY loc l vs
def Jp (loc:Loc):List TV→List Value→Prop
 | [],[]=>True|x::xs,v::vs=>ZK loc x v∧Jp loc xs vs|_,_=>False
def Xe (w:World) (b n:Nat):Prop:= ∃c ty,w.heap[b]? =some (.cells c ty (0,0))∧n≤c.size
def Zsh (w:World) (b o:Nat) (l:List Int):Prop:= ∀j,(h:j<l.length)→w.cell? (adr (b,o+j))=some (.int .i64 l[j])
def JT (w:World) (own:Bool) (l:List Int) (p:IP):Prop:=
 p.len=l.length∧l.length≤p.cap∧(p.a=none→p.cap=0∧Vl p.q)∧ ∀b o,p.a=some (b,o)→Zsh w b o l∧(own=true→Xe w b (o+p.cap))
def elV:(e:E)→e.C→IP→Nat→Value
 | .i,(n:Int),_,_=> .int .i64 n
 | .b,(n:Int),_,_=> .int .u8 n
 | .s,(s:ByteArray),_,_=> .string s
 | .o,(b:Bool),_,_=> .bool b
 | .t,(x:Int×Int×Int),_,j=> .int .i64 (match j with|0=>x.1|1=>x.2.1|_=>x.2.2)
 | .n,_,p,_=>slV p.a p.q p.len p.cap
def YZ (w:World) (own:Bool) (out:Option Nat):(e:E)→List e.C→Ips→Prop
 | .n,(l:List (List Int)),ips=>(∀i,(h:i<l.length)→JT w own l[i] (ips i))∧
   (own=true→(∀i j,i<l.length→j<l.length→i≠j→ ∀b o b' o',(ips i).a=some (b,o)→(ips j).a=some (b',o')→b≠b')∧ ∀i,i<l.length→ ∀b o,(ips i).a=some (b,o)→out≠some b)
 |_,_,_=>True
def Qq (w:World) (own:Bool) (e:E) (a:Option (Nat×Nat)) (cap:Nat) (l:List e.C) (ips:Ips):Prop:=
 l.length≤cap∧(a=none→cap=0∧Vl ips.q)∧
 (∀b o,a=some (b,o)→
  (∀i,(h:i<l.length)→ ∀j,j<e.sz→w.cell? (adr (b,o+i*e.sz+j))=some (elV e l[i] (ips i) j))∧
  (own=true→Xe w b (o+cap*e.sz)))∧
 YZ w own (a.map (·.1)) e l ips
def Xy (w:World) (loc:Loc) (b o:Nat):SV→Prop
 | .lent=>True
 | .lsl _=>True
 |x=>okS x=true∧ ∃v,w.cell? (adr (b,o))=some v∧ZD loc x v∧v.oneCell'=true
def YO (w:World) (loc:Loc) (id:Nat):Row→Prop
 | .dead=>True
 | .scrub=>True
 | .box cs=> ∃b o,loc id=some (.box b o cs.length)∧Xe w b (o+cs.length)∧ ∀j,(h:j<cs.length)→Xy w loc b (o+j) cs[j]
 | .rbox cs=> ∃b o,loc id=some (.box b o cs.length)∧ ∀j,(h:j<cs.length)→Xy w loc b (o+j) cs[j]
 | .row own e l=> ∃a cap ips,loc id=some (.row a cap l.length e ips)∧Qq w own e a cap l ips
def Y9 (a:Option (Nat×Nat)) (len:Nat) (e:E) (ips:Ips) (b:Nat):Prop:=
 (∃o,a=some (b,o))∨(e= .n∧ ∃i,i<len∧ ∃o,(ips i).a=some (b,o))
def Ke (a:Option (Nat×Nat)) (len:Nat) (e:E) (ips:Ips) (b:Nat):Prop:=
 (0<len∧ ∃o,a=some (b,o))∨(e= .n∧ ∃i,i<len∧0< (ips i).len∧ ∃o,(ips i).a=some (b,o))
def XE:SV→Prop| .lent=>False| .lsl _=>False|_=>True
def own (loc:Loc) (id:Nat):Row→Fp
 | .box cs,b,o=> ∃o0 n,loc id=some (.box b o0 n)∧ ∃j,∃h:j<cs.length,o=o0+j∧XE cs[j]
 | .row true _ _,b,_=> ∃a cap len e ips,loc id=some (.row a cap len e ips)∧Y9 a len e ips b
 |_,_,_=>False
def KE (loc:Loc) (id:Nat):Row→Nat→Prop
 | .row false _ _,b=> ∃a cap len e ips,loc id=some (.row a cap len e ips)∧Ke a len e ips b
 | .rbox _,b=> ∃o n,loc id=some (.box b o n)
 |_,_=>False
def Vo (p:Nat→Prop) (x y:Option Obj):Prop:=
 x=y∨ ∃c c' ty fz,x=some (.cells c ty fz)∧y=some (.cells c' ty fz)∧c'.size=c.size∧ ∀o,¬p o→c'[o]? =c[o]?
structure Frame (S:Fp) (w w':World):Prop where
 os:w'.os=w.os
 tape:w'.tape=w.tape
 output:w'.output=w.output
 size:w.heap.size≤w'.heap.size
 obj: ∀b,b<w.heap.size→Vo (S b) w.heap[b]? w'.heap[b]?
class Glb where
 blk:Nat→Prop
 fact:World→Prop
 stay: ∀(S:Fp) (w w':World),Frame S w w'→(∀b o,blk b→ ¬S b o)→fact w→fact w'
structure Heap [Glb] (rows:Rows) (loc:Loc) (w:World) (S:Fp) (L:Nat→Prop):Prop where
 ok: ∀id x,rows id=some x→YO w loc id x
 none: ∀id,rows id=none→loc id=none
 sep: ∀i j x y,i≠j→rows i=some x→rows j=some y→ ∀b o,own loc i x b o→ ¬own loc j y b o
 inS: ∀i x,rows i=some x→ ∀b o,own loc i x b o→S b o
 inL: ∀i x,rows i=some x→ ∀b,KE loc i x b→L b
 dis: ∀b o,S b o→ ¬L b
 ltS: ∀b o,S b o→b<w.heap.size
 ltL: ∀b,L b→b<w.heap.size
 gl:(∀b,Glb.blk b→L b)∧Glb.fact w
theorem Vo.refl (p:Nat→Prop) (x:Option Obj):Vo p x x:= .inl rfl
theorem Vo.trans {p:Nat→Prop} {x y z:Option Obj} (h:Vo p x y) (k:Vo p y z):Vo p x z:=by
 rcases h with rfl| ⟨c,c',ty,fz,rfl,rfl,hs,hc⟩
 ·exact k
 ·rcases k with rfl| ⟨d,d',ty',fz',hd,rfl,hs',hc'⟩
  ·exact .inr ⟨c,c',ty,fz,rfl,rfl,hs,hc⟩
  ·simp only[Zg,Obj.cells.injEq]at hd;obtain ⟨rfl,rfl,rfl⟩:=hd;exact .inr ⟨c,d',ty,fz,rfl,rfl,by omega,fun o ho=>(hc' o ho).trans (hc o ho)⟩
theorem Vo.mono {p q:Nat→Prop} {x y:Option Obj} (h:Vo p x y) (hq: ∀o,p o→q o):Vo q x y:=by
 rcases h with rfl| ⟨c,c',ty,fz,rfl,rfl,hs,hc⟩
 ·exact .inl rfl
 ·exact .inr ⟨c,c',ty,fz,rfl,rfl,hs,fun o ho=>hc o (fun hp=>ho (hq o hp))⟩
theorem Frame.refl [Glb] (S:Fp) (w:World):Frame S w w:=⟨rfl,rfl,rfl,Nat.le_refl _,fun _ _=> .refl _ _⟩
theorem Frame.trans [Glb] {S S':Fp} {a b c:World} (h:Frame S a b) (k:Frame S' b c) (hs: ∀x o,x<a.heap.size→S' x o→S x o):Frame S a c:=
 ⟨k.os.trans h.os,k.tape.trans h.tape,k.output.trans h.output,Nat.le_trans h.size k.size,
  fun x hx=>(h.obj x hx).trans ((k.obj x (Nat.lt_of_lt_of_le hx h.size)).mono fun o=>hs x o hx)⟩
theorem Frame.mono [Glb] {S S':Fp} {a b:World} (h:Frame S a b) (hs: ∀x o,S x o→S' x o):Frame S' a b:=
 ⟨h.os,h.tape,h.output,h.size,fun x hx=>(h.obj x hx).mono fun o=>hs x o⟩
theorem Up (w:World) (b o:Nat):w.cell? (adr (b,o))=match w.heap[b]? with|some (.cells c _ _)=>c[o]? |_=>none:=by
 unfold World.cell? adr;simp only[Option.isSome_none,Bool.false_eq_true,if_false];rfl
theorem Frame.cell [Glb] {S:Fp} {w w':World} (h:Frame S w w') {b o:Nat} (hb:b<w.heap.size) (hs: ¬S b o):w'.cell? (adr (b,o))=w.cell? (adr (b,o)):=by
 rw[Up,Up];rcases h.obj b hb with e| ⟨c,c',ty,fz,e,e',_,hc⟩
 ·rw[e]
 ·rw[e,e'];exact hc o hs
theorem Frame.ownB {S:Fp} {w w':World} (h:Frame S w w') {b n:Nat} (k:Xe w b n):Xe w' b n:=by
 obtain ⟨c,ty,e,hn⟩:=k;have hb:b<w.heap.size:=by
  rcases Nat.lt_or_ge b w.heap.size with h|h
  ·exact h
  ·simp[Array.getElem?_eq_none h]at e
 rcases h.obj b hb with e1| ⟨c1,c',ty1,fz,e1,e',hs,_⟩
 ·exact ⟨c,ty,by rw[←e1];exact e,hn⟩
 ·rw[e1]at e;simp only[Zg,Obj.cells.injEq]at e;obtain ⟨rfl,rfl,rfl⟩:=e;exact ⟨c',ty1,e',by omega⟩
theorem Xe.lt {w:World} {b n:Nat} (h:Xe w b n):b<w.heap.size:=by
 obtain ⟨c,ty,e,_⟩:=h;rcases Nat.lt_or_ge b w.heap.size with h|h
 ·exact h
 ·simp[Array.getElem?_eq_none h]at e
theorem Uq {w:World} {b o:Nat} {v:Value} (h:w.cell? (adr (b,o))=some v):b<w.heap.size:=World.block_lt_of_cell? (a:=adr (b,o)) w h
theorem Frame.below {w w':World} (h:Frame (fun _ _=>False) w w'):Go.RowKit.Below w.heap.size w w':=
 ⟨h.os,h.tape,h.output,h.size,fun b hb=>by
  rcases h.obj b hb with e| ⟨c,c',ty,fz,e,e',hs,hc⟩
  ·exact e.symm
  ·rw[e,e'];have:c'=c:=by
    apply Array.ext_getElem?;intro i;exact hc i (fun h=>h)
   rw[this]⟩
theorem Zmm [Glb] {S:Fp} {w w':World} (h:Frame S w w') {b o:Nat} {l:List Int} (hs: ∀j,j<l.length→ ¬S b (o+j)) (k:Zsh w b o l):Zsh w' b o l:=by
 intro j hj;rw[h.cell (Uq (k j hj)) (hs j hj)];exact k j hj
theorem JT.frame [Glb] {S:Fp} {w w':World} (h:Frame S w w') {ow:Bool} {l:List Int} {p:IP} (hs: ∀b o,p.a=some (b,o)→0<l.length→ ∀o',¬S b o') (k:JT w ow l p):JT w' ow l p:=by
 obtain ⟨k1,k2,k3,k4⟩:=k;refine ⟨k1,k2,k3,fun b o e=> ?_⟩;obtain ⟨a1,a2⟩:=k4 b o e;exact ⟨Zmm h (fun j hj=>hs b o e (by omega) _) a1,fun ho=>h.ownB (a2 ho)⟩
theorem YZ.frame [Glb] {S:Fp} {w w':World} (h:Frame S w w') {ow:Bool} {out:Option Nat} {e:E} {l:List e.C} {ips:Ips}
  (hs:e= .n→ ∀i,i<l.length→0< (ips i).len→ ∀b o,(ips i).a=some (b,o)→ ∀o',¬S b o') (k:YZ w ow out e l ips):YZ w' ow out e l ips:=by
 cases e with
 |n=>
  obtain ⟨k1,k2⟩:=k;exact ⟨fun i hi=>(k1 i hi).frame h (fun b o e hl=>hs rfl i hi (by rw[(k1 i hi).1];exact hl) b o e),k2⟩
 |_=>trivial
theorem Qq.frame [Glb] {S:Fp} {w w':World} (h:Frame S w w') {ow:Bool} {e:E} {a:Option (Nat×Nat)} {cap:Nat} {l:List e.C} {ips:Ips}
  (hs: ∀b,Ke a l.length e ips b→ ∀o,¬S b o) (k:Qq w ow e a cap l ips):Qq w' ow e a cap l ips:=by
 obtain ⟨k1,k2,k3,k4⟩:=k;refine ⟨k1,k2,fun b o ea=> ?_,k4.frame h (fun en i hi hl b o ep=>hs b (.inr ⟨en,i,hi,hl,o,ep⟩))⟩;obtain ⟨a1,a2⟩:=k3 b o ea;refine ⟨fun i hi j hj=> ?_,fun ho=>h.ownB (a2 ho)⟩;rw[h.cell (Uq (a1 i hi j hj)) (hs b (.inl ⟨by omega,o,ea⟩) _)];exact a1 i hi j hj
theorem Ke.pl {a:Option (Nat×Nat)} {len:Nat} {e:E} {ips:Ips} {b:Nat} (h:Ke a len e ips b):Y9 a len e ips b:=by
 rcases h with ⟨_,h⟩| ⟨he,i,hi,_,h⟩
 ·exact .inl h
 ·exact .inr ⟨he,i,hi,h⟩
theorem Xy.frame [Glb] {S:Fp} {w w':World} (h:Frame S w w') {loc:Loc} {b o:Nat} {x:SV} (hs:XE x→ ¬S b o) (k:Xy w loc b o x):Xy w' loc b o x:=by
 cases x<;>first
  |trivial
  | (obtain ⟨k1,v,k2,k3⟩:=k
     exact ⟨k1,v,by rw[h.cell (Uq k2) (hs trivial)];exact k2,k3⟩)
theorem YO.frame [Glb] {S:Fp} {w w':World} (h:Frame S w w') {loc:Loc} {id:Nat} {x:Row}
  (ho: ∀b o,own loc id x b o→ ¬S b o) (hl: ∀b,KE loc id x b→ ∀o,¬S b o) (k:YO w loc id x):YO w' loc id x:=by
 cases x with
 |dead=>trivial
 |scrub=>trivial
 |box cs=>
  obtain ⟨b,o,e,k1,k2⟩:=k;exact ⟨b,o,e,h.ownB k1,fun j hj=>(k2 j hj).frame h fun hn=>ho b _ ⟨o,_,e,j,hj,rfl,hn⟩⟩
 |rbox cs=>
  obtain ⟨b,o,e,k2⟩:=k;exact ⟨b,o,e,fun j hj=>(k2 j hj).frame h fun _=>hl b ⟨o,_,e⟩ _⟩
 |row ow e l=>
  obtain ⟨a,cap,ips,el,k⟩:=k;refine ⟨a,cap,ips,el,k.frame h fun b hb=> ?_⟩;cases ow with
  |true=>exact fun o=>ho b o ⟨a,cap,_,e,ips,el,hb.pl⟩
  |false=>exact hl b ⟨a,cap,_,e,ips,el,hb⟩
theorem Heap.frame [Glb] {rows:Rows} {loc:Loc} {w w':World} {S S1:Fp} {L:Nat→Prop} (H:Heap rows loc w S L) (h:Frame S1 w w')
  (ho: ∀i x,rows i=some x→ ∀b o,own loc i x b o→ ¬S1 b o) (hl: ∀b,L b→ ∀o,¬S1 b o):Heap rows loc w' S L:=
 ⟨fun id x e=>(H.ok id x e).frame h (ho id x e) (fun b hb=>hl b (H.inL id x e b hb)),H.none,H.sep,H.inS,H.inL,H.dis,
  fun b o hb=>Nat.lt_of_lt_of_le (H.ltS b o hb) h.size,fun b hb=>Nat.lt_of_lt_of_le (H.ltL b hb) h.size,H.gl.1,Glb.stay _ _ _ h (fun b o hb=>hl b (H.gl.1 b hb) o) H.gl.2⟩
def Ext (loc loc':Loc):Prop:= ∀id p,loc id=some p→loc' id=some p
theorem Ext.refl (loc:Loc):Ext loc loc:=fun _ _ h=>h
theorem Ext.trans {a b c:Loc} (h:Ext a b) (k:Ext b c):Ext a c:=fun id p e=>k id p (h id p e)
theorem ZD.ext {loc loc':Loc} (h:Ext loc loc') {x:SV} {v:Value} (k:ZD loc x v):ZD loc' x v:=by
 cases x<;>simp only[ZD]at k⊢ <;>first
  |exact k
  | (obtain ⟨b,o,n,e,hv⟩:=k;exact ⟨b,o,n,h _ _ e,hv⟩)
  | (obtain ⟨b,o,cap,len,e,ips,el,r⟩:=k;exact ⟨b,o,cap,len,e,ips,h _ _ el,r⟩)
  | (obtain ⟨a,cap,len,ips,b,o,el,r⟩:=k;exact ⟨a,cap,len,ips,b,o,h _ _ el,r⟩)
  | (obtain ⟨a,cap,len,e,ips,el,r⟩:=k;exact ⟨a,cap,len,e,ips,h _ _ el,r⟩)
  | (obtain ⟨a,cap,len,ips,el,r⟩:=k;exact ⟨a,cap,len,ips,h _ _ el,r⟩)
theorem Z3.ext [Glb] {loc loc':Loc} (h:Ext loc loc'): ∀{xs:List SV} {vs:List Value},Z3 loc xs vs→Z3 loc' xs vs
 | [],[],_=>trivial
 |_::_,_::_,k=>⟨k.1.ext h,Z3.ext h k.2⟩
 | [],_::_,k=>k.elim
 |_::_,[],k=>k.elim
theorem Ym.ext [Glb] {loc loc':Loc} (h:Ext loc loc') {x:CV} {v:Value} (k:Ym loc x v):Ym loc' x v:=by
 cases x with
 |s x=>cases x<;>simp only[Ym]at k⊢ <;>first|exact ZD.ext h k|trivial
 |agg l=>obtain ⟨cs,e,r⟩:=k;exact ⟨cs,e,r.ext h⟩
theorem YY.ext [Glb] {loc loc':Loc} (h:Ext loc loc'): ∀{xs:List CV} {vs:List Value},YY loc xs vs→YY loc' xs vs
 | [],[],_=>trivial
 |_::_,_::_,k=>⟨k.1.ext h,YY.ext h k.2⟩
 | [],_::_,k=>k.elim
 |_::_,[],k=>k.elim
theorem ZK.ext [Glb] {loc loc':Loc} (h:Ext loc loc') {x:TV} {v:Value} (k:ZK loc x v):ZK loc' x v:=by
 cases x with
 |c x=>exact Ym.ext h k
 |tup l=>obtain ⟨cs,e,r⟩:=k;exact ⟨cs,e,r.ext h⟩
theorem Jp.ext [Glb] {loc loc':Loc} (h:Ext loc loc'): ∀{xs:List TV} {vs:List Value},Jp loc xs vs→Jp loc' xs vs
 | [],[],_=>trivial
 |_::_,_::_,k=>⟨k.1.ext h,Jp.ext h k.2⟩
 | [],_::_,k=>k.elim
 |_::_,[],k=>k.elim
theorem Xy.ext [Glb] {loc loc':Loc} (h:Ext loc loc') {w:World} {b o:Nat} {x:SV} (k:Xy w loc b o x):Xy w loc' b o x:=by
 cases x<;>first
  |trivial
  | (obtain ⟨k1,v,k2,k3,k4⟩:=k;exact ⟨k1,v,k2,k3.ext h,k4⟩)
theorem YO.ext [Glb] {loc loc':Loc} (h:Ext loc loc') {w:World} {id:Nat} {x:Row} (k:YO w loc id x):YO w loc' id x:=by
 cases x with
 |dead=>trivial
 |scrub=>trivial
 |box cs=>obtain ⟨b,o,e,k1,k2⟩:=k;exact ⟨b,o,h _ _ e,k1,fun j hj=>(k2 j hj).ext h⟩
 |rbox cs=>obtain ⟨b,o,e,k2⟩:=k;exact ⟨b,o,h _ _ e,fun j hj=>(k2 j hj).ext h⟩
 |row ow e l=>obtain ⟨a,cap,ips,el,k⟩:=k;exact ⟨a,cap,ips,h _ _ el,k⟩
theorem VB {loc loc':Loc} {id:Nat} (h:loc' id=loc id) (x:Row):own loc' id x=own loc id x:=by
 cases x with
 |dead=>rfl
 |scrub=>rfl
 |box cs=>funext b o;simp only[own,h]
 |rbox cs=>rfl
 |row ow e l=>cases ow<;>(funext b o;simp only[own,h])
theorem Zjn {loc loc':Loc} {id:Nat} (h:loc' id=loc id) (x:Row):KE loc' id x=KE loc id x:=by
 cases x with
 |row ow e l=>cases ow<;>(funext b;simp only[KE,h])
 |rbox cs=>funext b;simp only[KE,h]
 |_=>rfl
def Jk (loc:Loc) (id:Nat) (p:Pl):Loc:=fun j=>if j=id then some p else loc j
theorem Yi (loc:Loc) (id:Nat) (p:Pl):Jk loc id p id=some p:=by simp[Jk]
theorem YX (loc:Loc) {id j:Nat} (p:Pl) (h:j≠id):Jk loc id p j=loc j:=by simp[Jk,h]
theorem VT [Glb] {loc:Loc} {id:Nat} (p:Pl) (h:loc id=none):Ext loc (Jk loc id p):=fun j q e=>by
 by_cases hj:j=id
 ·subst hj;rw[h]at e;cases e
 ·rw[YX loc p hj];exact e
theorem QT (r:Rows) (i:Nat) (x:Row):QD r i x i=some x:=by simp[QD]
theorem QA (r:Rows) {i j:Nat} (x:Row) (h:j≠i):QD r i x j=r j:=by
 have:Nat.beq j i=false:=by
  cases hb:Nat.beq j i with
  |false=>rfl
  |true=>exact absurd (Nat.eq_of_beq_eq_true hb) h
 simp[QD,this]
theorem Zd0 (r:Nat→TV) (i:Nat) (x:TV):XP r i x i=x:=by simp[XP]
theorem Zbu (r:Nat→TV) {i j:Nat} (x:TV) (h:j≠i):XP r i x j=r j:=by
 have:Nat.beq j i=false:=by
  cases hb:Nat.beq j i with
  |false=>rfl
  |true=>exact absurd (Nat.eq_of_beq_eq_true hb) h
 simp[XP,this]
theorem Heap.upd [Glb] {rows:Rows} {loc loc':Loc} {w:World} {S S':Fp} {L:Nat→Prop} (H:Heap rows loc w S L) (id:Nat) (x:Row)
  (hj: ∀j,j≠id→loc' j=loc j) (hrest: ∀j y,j≠id→rows j=some y→YO w loc' j y) (hok:YO w loc' id x)
  (hsep: ∀j y,j≠id→rows j=some y→ ∀b o,own loc j y b o→ ¬own loc' id x b o) (hS: ∀b o,S b o→S' b o)
  (hin: ∀b o,own loc' id x b o→S' b o) (hl: ∀b,KE loc' id x b→L b) (hd: ∀b o,S' b o→ ¬L b) (hlt: ∀b o,S' b o→b<w.heap.size):
  Heap (QD rows id x) loc' w S' L:=by
 have other: ∀j,j≠id→QD rows id x j=rows j:=fun j h=>QA rows x h;refine ⟨?_,?_,?_,?_,?_,hd,hlt,H.ltL,H.gl⟩
 ·intro j y e;by_cases h:j=id
  ·subst h;rw[QT]at e;cases e;exact hok
  ·rw[other j h]at e;exact hrest j y h e
 ·intro j e;by_cases h:j=id
  ·subst h;rw[QT]at e;cases e
  ·rw[other j h]at e;rw[hj j h];exact H.none j e
 ·intro i j y z hij ei ej b o hi hjo;by_cases h1:i=id
  ·subst h1;rw[QT]at ei;cases ei;rw[other j (Ne.symm hij)]at ej;rw[VB (hj j (Ne.symm hij))]at hjo;exact hsep j z (Ne.symm hij) ej b o hjo hi
  ·rw[other i h1]at ei;rw[VB (hj i h1)]at hi;by_cases h2:j=id
   ·subst h2;rw[QT]at ej;cases ej;exact hsep i y h1 ei b o hi hjo
   ·rw[other j h2]at ej;rw[VB (hj j h2)]at hjo;exact H.sep i j y z hij ei ej b o hi hjo
 ·intro j y e b o h;by_cases h1:j=id
  ·subst h1;rw[QT]at e;cases e;exact hin b o h
  ·rw[other j h1]at e;rw[VB (hj j h1)]at h;exact hS b o (H.inS j y e b o h)
 ·intro j y e b h;by_cases h1:j=id
  ·subst h1;rw[QT]at e;cases e;exact hl b h
  ·rw[other j h1]at e;rw[Zjn (hj j h1)]at h;exact H.inL j y e b h
theorem Heap.kill [Glb] {rows:Rows} {loc:Loc} {w:World} {S:Fp} {L:Nat→Prop} (H:Heap rows loc w S L) (id:Nat):Heap (QD rows id .dead) loc w S L:=
 H.upd id .dead (fun _ _=>rfl) (fun j y _ e=>H.ok j y e) trivial (fun _ _ _ _ _ _ _ h=>h) (fun _ _ h=>h) (fun _ _ h=>h.elim) (fun _ h=>h.elim) H.dis H.ltS
theorem Heap.scrub [Glb] {rows:Rows} {loc:Loc} {w:World} {S:Fp} {L:Nat→Prop} (H:Heap rows loc w S L) (id:Nat):Heap (QD rows id .scrub) loc w S L:=
 H.upd id .scrub (fun _ _=>rfl) (fun j y _ e=>H.ok j y e) trivial (fun _ _ _ _ _ _ _ h=>h) (fun _ _ h=>h) (fun _ _ h=>h.elim) (fun _ h=>h.elim) H.dis H.ltS
theorem Heap.set [Glb] {rows:Rows} {loc:Loc} {w:World} {S:Fp} {L:Nat→Prop} (H:Heap rows loc w S L) {id:Nat} {x y:Row} (e:rows id=some y)
  (hok:YO w loc id x) (ho: ∀b o,own loc id x b o→own loc id y b o) (hl: ∀b,KE loc id x b→L b):Heap (QD rows id x) loc w S L:=
 H.upd id x (fun _ _=>rfl) (fun j y _ e=>H.ok j y e) hok (fun j z hj ez b o h1 h2=>H.sep j id z y hj ez e b o h1 (ho b o h2)) (fun _ _ h=>h)
  (fun b o h=>H.inS id y e b o (ho b o h)) hl H.dis H.ltS
theorem Heap.new [Glb] {rows:Rows} {loc:Loc} {w:World} {S S':Fp} {L:Nat→Prop} (H:Heap rows loc w S L) {id:Nat} (hid:rows id=Option.none) (p:Pl) (x:Row)
  (hok:YO w (Jk loc id p) id x) (hsep: ∀j y,rows j=some y→ ∀b o,own loc j y b o→ ¬own (Jk loc id p) id x b o) (hS: ∀b o,S b o→S' b o)
  (hin: ∀b o,own (Jk loc id p) id x b o→S' b o) (hl: ∀b,KE (Jk loc id p) id x b→L b) (hd: ∀b o,S' b o→ ¬L b) (hlt: ∀b o,S' b o→b<w.heap.size):
  Heap (QD rows id x) (Jk loc id p) w S' L:=
 H.upd id x (fun j h=>YX loc p h) (fun j y _ e=>(H.ok j y e).ext (VT p (H.none id hid))) hok (fun j y _ e=>hsep j y e) hS hin hl hd hlt
theorem Heap.own_lt [Glb] {rows:Rows} {loc:Loc} {w:World} {S:Fp} {L:Nat→Prop} (H:Heap rows loc w S L) {i:Nat} {x:Row} (e:rows i=some x) {b o:Nat} (h:own loc i x b o):b<w.heap.size:=
 H.ltS b o (H.inS i x e b o h)
theorem Heap.weaken [Glb] {rows:Rows} {loc:Loc} {w:World} {S S':Fp} {L:Nat→Prop} (H:Heap rows loc w S L) (hS: ∀b o,S b o→S' b o) (hd: ∀b o,S' b o→ ¬L b) (hlt: ∀b o,S' b o→b<w.heap.size):Heap rows loc w S' L:=
 ⟨H.ok,H.none,H.sep,fun i x e b o h=>hS b o (H.inS i x e b o h),H.inL,hd,hlt,H.ltL,H.gl⟩
theorem Zbx (S:Fp) (w:World) (o:Obj):Frame S w (w.alloc o):=
 ⟨rfl,rfl,rfl,by simp,fun b hb=> .inl (by
  show w.heap[b]? =(w.heap.push o)[b]?;rw[Array.getElem?_push,Zc (by omega)])⟩
theorem Zd9 [Glb] (S:Fp) (w:World):Frame S w w.drew:=⟨rfl,rfl,rfl,Nat.le_refl _,fun _ _=> .refl _ _⟩
theorem Zfg (w:World) (c:Array Value) (ty:TypeId) (n:Nat) (h:n≤c.size):Xe (w.alloc (.cells c ty)) w.heap.size n:=
 ⟨c,ty,by show (w.heap.push _)[w.heap.size]? =_;simp,h⟩
theorem Zd1 (w:World) (c:Array Value) (ty:TypeId) (o:Nat):(w.alloc (.cells c ty)).cell? (adr (w.heap.size,o))=c[o]? :=World.cell?_alloc_new w c ty o
theorem Zfq [Glb] {w:World} {b n o:Nat} (h:Xe w b n) (ho:o<n) (v:Value):(w.setCell (adr (b,o)) v).cell? (adr (b,o))=some v:=by
 obtain ⟨c,ty,e,hn⟩:=h;refine World.cell?_setCell_same w _ _ (u:=c[o]'(by omega)) ?_;rw[Up,e];simp
theorem Zid (S:Fp) {w:World} {b n o:Nat} (h:Xe w b n) (v:Value) (hs:S b o):Frame S w (w.setCell (adr (b,o)) v):=by
 obtain ⟨c,ty,e,hn⟩:=h;refine ⟨rfl,rfl,rfl,by simp[World.setCell],fun x hx=> ?_⟩;by_cases hb:x=b
 ·subst hb;refine .inr ⟨c,c.setIfInBounds o v,ty,(0,0),e,?_,by simp,fun o' ho'=> ?_⟩
  ·simp only[World.setCell,adr,Array.getElem?_modify,if_true,e,Option.map_some,Option.isSome_none,Bool.false_eq_true,if_false]
  ·by_cases h:o=o'
   ·subst h;exact absurd hs ho'
   ·simp[Array.getElem?_setIfInBounds_ne h]
 ·refine .inl ?_;simp only[World.setCell,adr,Array.getElem?_modify];rw[Zc (fun h=>hb h.symm)]
theorem Zmi {w:World} {b n:Nat} (h:Xe w b n) (o:Nat):w.frozen? (adr (b,o))=false:=by
 obtain ⟨c,ty,e,_⟩:=h;have:w.heap[(adr (b,o)).block]? =some (.cells c ty (0,0)):=e;simp[World.frozen?,this]
theorem ZlD [Glb] {w:World} {b n o:Nat} (h:Xe w b n) (ho:o<n): ∃v,w.cell? (adr (b,o))=some v:=by
 obtain ⟨c,ty,e,hn⟩:=h;rw[Up,e];exact ⟨c[o]'(by omega),by simp⟩
def J9:List Value→Prop| []=>True|v::vs=>v.oneCell'=true∧J9 vs
theorem Zac [Glb] (P:Program) (b o n:Nat): ∀(vs:List Value) (i:Nat) (w:World),Xe w b n→o+i+vs.length≤n→J9 vs→
  ∃w',(storeCells (adr (b,o)) vs i).run P w= .ok () w'∧(∀j,(h:j<vs.length)→w'.cell? (adr (b,o+i+j))=some vs[j])∧
   Frame (fun b' o'=>b'=b∧o+i≤o'∧o'<o+i+vs.length) w w'
 | [],i,w,_,_,_=>⟨w,rfl,fun j h=>absurd h (by simp), .refl _ _⟩
 |v::vs,i,w,hw,hn,hv=>by
  have hlen:(v::vs).length=vs.length+1:=rfl;have hlt:o+i<n:=by omega
  obtain ⟨u,hu⟩:=ZlD hw hlt;have hrun:(store ((adr (b,o)).add i) v).run P w= .ok () (w.setCell (adr (b,o+i)) v):=by
   rw[XU,run_store P w _ v .plain hv.1,hu,Zmi hw];rfl
  have fr:=Zid (fun b' o'=>b'=b∧o'=o+i) hw v ⟨rfl,rfl⟩;obtain ⟨w',h1,h2,h3⟩:=Zac P b o n vs (i+1) _ (fr.ownB hw) (by omega) hv.2;refine ⟨w',?_,?_,?_⟩
  ·simp only[storeCells,Sem.run_bind,hrun,Result.andThen_ok,h1]
  ·intro j hj;cases j with
   |zero=>
    rw[Nat.add_zero,h3.cell (by have:=hw.lt;simp[World.setCell];exact this) (by omega)];exact Zfq hw hlt v
   |succ j=>
    have:=h2 j (by omega);rw[show o+i+(j+1)=o+(i+1)+j by omega];simpa using this
  ·exact (fr.mono (fun x y h=>⟨h.1,by omega,by omega⟩)).trans (h3.mono (fun x y h=>⟨h.1,by omega,by omega⟩)) (fun _ _ _ h=>h)
end Go.Tev
