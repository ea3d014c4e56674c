/- An evaluator of Go functions on plain values and its soundness. No condition beyond those that each lemma states. -/
import Derived.Test.YtcbdldlphpjmbaaGreatDoorW1
import Derived.Calls
set_option linter.unusedSimpArgs false
set_option linter.unusedVariables false
namespace Go.Tev
theorem Xt {x:SV} {f:F} (h:Qj x=some f):f=⟨[], .c (.s x),[]⟩:=(Option.some.inj h).symm
theorem ZrI:IntKind.i64.max=9223372036854775807:=by decide
theorem Zkf (P:Program) (op:BinOp) (t:TypeId) (x y:Operand) (k k':IntKind) (a b:Int) (w:World):(eqGuard op t x y (.int k a) (.int k' b)).run P w= .ok () w:=by
 cases op<;>simp[eqGuard]
theorem Zkg (P:Program) (op:BinOp) (t:TypeId) (x y:Operand) (a b:ByteArray) (w:World):(eqGuard op t x y (.string a) (.string b)).run P w= .ok () w:=by
 cases op<;>simp[eqGuard]
theorem ZiZ (P:Program) (op:BinOp) (t:TypeId) (x y:Operand) (a b:Bool) (w:World):(eqGuard op t x y (.bool a) (.bool b)).run P w= .ok () w:=by
 cases op<;>simp[eqGuard]
theorem ZcJ [Glb] {P:Program} (w:World) (d:Nat): ∀(fs:List Field) (k:Nat) (l l':List SV) (pre pre' vs vs':List Value) (loc:Loc) (r:Bool),ZaF P k fs l=true→V2 l l'=some r→Z3 loc l vs→Z3 loc l' vs'→
  pre.length=k→pre'.length=k→
  (Op.eqFields (d+1) (pre++vs).toArray (pre'++vs').toArray fs).run P w= .ok r w
 | [],k,l,l',pre,pre',vs,vs',loc,r,hf,he,hr,hr',hp,hp'=>by
  cases l with
  |cons _ _=>simp[ZaF]at hf
  |nil=>
   cases l' with
   |nil=>simp only[V2,Zg]at he;subst he;simp[Op.eqFields]
   |cons _ _=>simp[V2]at he
 |f::fs,k,l,l',pre,pre',vs,vs',loc,r,hf,he,hr,hr',hp,hp'=>by
  cases l with
  |nil=>simp[ZaF]at hf
  |cons x l=>
   simp only[ZaF,Bool.and_eq_true]at hf;obtain ⟨hf1,hf2,hf3,hf4⟩:=hf;have hoff:=Nat.eq_of_beq_eq_true hf1;have hname:f.name≠ "_" :=by simpa using hf2
   have hag:(isAgg f.type).run P w= .ok false w:=by
    unfold isAgg;cases x<;>simp only[Zib]at hf3<;>first| (cases hf3;done)|skip
    ·split at hf3
     ·rename_i hu;simp[run_underlying hu w]
     ·cases hf3
    ·split at hf3
     ·rename_i hu;simp[run_underlying hu w]
     ·cases hf3
   cases l' with
   |nil=>cases x<;>simp[V2]at he
   |cons x' l'=>
    cases vs with
    |nil=>exact hr.elim
    |cons v vs=>
     cases vs' with
     |nil=>exact hr'.elim
     |cons v' vs'=>
      have pv:(part f.type (pre++v::vs).toArray f.offset).run P w= .ok v w:=by
       unfold part;simp[hag,hoff,←hp]
      have pv':(part f.type (pre'++v'::vs').toArray f.offset).run P w= .ok v' w:=by
       unfold part;simp[hag,hoff,←hp']
      have step: ∃c r',V2 l l'=some r'∧r=(c&&r')∧(Op.equalIn (d+1) f.type v v').run P w= .ok c w:=by
       cases x<;>cases x'<;>simp only[V2]at he<;>first| (cases he;done)|skip
       ·rename_i k1 a k2 b;split at he
        ·rename_i r' hr1;cases hk:KC k1 k2 with
         |false=>rw[hk]at he;cases he
         |true=>
          rw[hk,Zb,Zg]at he;obtain rfl:=ZbB hk;obtain rfl:=hr.1;obtain rfl:=hr'.1;simp only[Zib]at hf3;split at hf3
          ·rename_i hu;exact ⟨a==b,r',hr1,he.symm,run_equalIn_int w d f.type k1 _ a b hu⟩
          ·cases hf3
        ·cases he
       ·rename_i a b;split at he
        ·rename_i r' hr1;rw[Zg]at he;obtain rfl:=hr.1;obtain rfl:=hr'.1;simp only[Zib]at hf3;split at hf3
         ·rename_i hu;exact ⟨a==b,r',hr1,he.symm,run_equalIn_bool' w d f.type a b hu⟩
         ·cases hf3
        ·cases he
      obtain ⟨c,r',e1,rfl,e2⟩:=step;have ih:=ZcJ w d fs (k+1) l l' (pre++[v]) (pre'++[v']) vs vs' loc r' hf4 e1 hr.2 hr'.2 (by simp[hp]) (by simp[hp']);simp only[List.append_assoc,List.singleton_append]at ih;simp only[Op.eqFields,hname,ne_eq,not_false_eq_true,if_true,Sem.run_bind,pv,pv',Result.andThen_ok,e2];cases c with
      |true=>simpa using ih
      |false=>simp
theorem Zqo [Glb] {P:Program} {loc:Loc} {w:World} {op:BinOp} {t:TypeId} {tv tu:TV} {v u:Value} {f:F} (hv:ZK loc tv v) (hu:ZK loc tu u) (h:Zsb P op t tv tu=some f) (hc: ∀c,c∈f.checks→c=true) (x y:Operand):
  ∃val,((eqGuard op t x y v u>>=fun _=>binOp op t v u):Sem Value).run P w= .ok val w∧f.us=[]∧ZK loc f.v val:=by
 unfold Zsb at h;split at h
 ·rename_i k a k' b;obtain rfl:=hv;obtain rfl:=hu;simp only[Sem.run_bind,Zkf,Result.andThen_ok];split at h
  ·simp only[Zg]at h;subst h;have:=hc _ (List.mem_singleton.2 rfl);have hb:0≤b:=of_decide_eq_true this;refine ⟨_,?_,rfl,rfl⟩;simp[binOp,Op.shift,show¬b<0 by omega]
  ·simp only[Zg]at h;subst h;have:=hc _ (List.mem_singleton.2 rfl);have hb:0≤b:=of_decide_eq_true this;refine ⟨_,?_,rfl,rfl⟩;simp[binOp,Op.shift,show¬b<0 by omega]
  ·rename_i h1 h2;cases hk:KC k k' with
   |false=>rw[hk]at h;cases h
   |true=>
    rw[hk,Zb]at h;obtain rfl:=ZbB hk;split at h<;>first
     | (obtain rfl:=Xt h;exact ⟨_,by simp[binOp,Op.intArith,Op.intBits,Op.intCmp,ZL,bOr,Yo],rfl,rfl⟩)
     | (simp only[Zg]at h
        subst h;have:=hc _ (List.mem_singleton.2 rfl);have hb:b≠0:=by simpa using this
        exact ⟨_,by simp[binOp,Op.intDiv,hb],rfl,rfl⟩)
     | (cases h;done)
 ·rename_i a b;obtain rfl:=hv;obtain rfl:=hu;simp only[Sem.run_bind,Zkg,Result.andThen_ok];split at h
  ·simp only[Zg]at h;subst h;have:=of_decide_eq_true (hc _ (List.mem_singleton.2 rfl));refine ⟨.string (a++b),?_,rfl,rfl⟩;have hn: ¬(9223372036854775807< (a.size:Int)+(b.size:Int)):=by omega
   simp[binOp,Op.stringOp,ZrI,hn]
  ·obtain rfl:=Xt h;exact ⟨_,by simp[binOp,Op.stringOp],rfl,rfl⟩
  ·obtain rfl:=Xt h;exact ⟨_,by simp[binOp,Op.stringOp],rfl,rfl⟩
  ·cases h
 ·rename_i a b;obtain rfl:=hv;obtain rfl:=hu;simp only[Sem.run_bind,ZiZ,Result.andThen_ok];split at h
  ·rename_i ht;split at h
   ·obtain rfl:=Xt h;exact ⟨.bool (a==b),by simp[binOp,Op.equal,Op.maxDepth,run_equalIn_bool' w 9999 t a b ht],rfl,rfl⟩
   ·obtain rfl:=Xt h;exact ⟨.bool (!(a==b)),by simp[binOp,Op.equal,Op.maxDepth,run_equalIn_bool' w 9999 t a b ht],rfl,rfl⟩
   ·cases h
  ·cases h
 ·rename_i l l';obtain ⟨cs,rfl,hr⟩:=hv;obtain ⟨cs',rfl,hr'⟩:=hu;split at h
  ·rename_i r he hok;unfold ZhS at hok;split at hok
   ·rename_i fs hfs;simp only[Bool.and_eq_true,Bool.not_eq_true']at hok;obtain ⟨hflat,hst,hg⟩:=hok;have hfo:P.fieldsOf t=fs:=by simp[Program.fieldsOf,hfs]
    have ht:P.underlying t=some (.struct (P.fieldsOf t)):=by rw[hfo];exact hfs
    have hrun:(Op.equalIn 10000 t (.agg cs.toArray) (.agg cs'.toArray)).run P w= .ok r w:=by
     rw[run_equalIn_agg w 9999 t _ _ ht hst,hfo];simpa using ZcJ w 9998 fs.toList 0 l l' [] [] cs cs' loc r hflat he hr hr' rfl rfl
    simp only[Sem.run_bind,run_eqGuard_agg (P:=P) w op t x y _ _ hg,Result.andThen_ok];split at h
    ·obtain rfl:=Xt h;exact ⟨.bool r,by rw[run_eql_struct,hrun];rfl,rfl,rfl⟩
    ·obtain rfl:=Xt h;exact ⟨.bool (!r),by rw[run_neq_struct,hrun];rfl,rfl,rfl⟩
    ·cases h
   ·cases hok
  ·cases h
 ·cases h
theorem VK [Glb] {rows:Rows} {loc:Loc} {w:World} {S:Fp} {L:Nat→Prop} (H:Heap rows loc w S L) {id:Nat} {ow:Bool} {e:E} {l:List e.C} {a:Option (Nat×Nat)} {cap len:Nat} {e':E} {ips:Ips}
  (hr:rows id=some (.row ow e l)) (el:loc id=some (.row a cap len e' ips)):e'=e∧len=l.length∧Qq w ow e a cap l ips:=by
 obtain ⟨a',cap',ips',el',hat⟩:=H.ok id _ hr;rw[el]at el';simp only[Zg,Pl.row.injEq]at el';obtain ⟨rfl,rfl,rfl,rfl,rfl⟩:=el';exact ⟨rfl,rfl,hat⟩
theorem Vr {P:Program} {t:TypeId} {e:E} (h:Xo P t=some e): ∃et i,P.underlying t=some (.slice et)∧P.info? et=some i∧i.size=e.sz∧i.bytes=e.bytes∧Zj9 e i.zero=true∧KA P et=some e:=by
 unfold Xo at h;split at h
 ·rename_i et hu;unfold eOf at h;split at h
  ·rename_i k i hk hi;cases hb:(Nat.beq i.size k.sz&&(Nat.beq i.bytes k.bytes&&Zj9 k i.zero))with
   |false=>rw[hb]at h;cases h
   |true=>
    rw[hb,Zb,Zg]at h;subst h;simp only[Bool.and_eq_true]at hb;exact ⟨et,i,hu,hi,Nat.eq_of_beq_eq_true hb.1,Nat.eq_of_beq_eq_true hb.2.1,hb.2.2,hk⟩
  ·cases h
 ·cases h
theorem ZqT [Glb] {P:Program} {rows:Rows} {loc:Loc} {w:World} {S:Fp} {L:Nat→Prop} (H:Heap rows loc w S L) {t ty:TypeId} {tv:TV} {v:Value} {f:F} (hv:ZK loc tv v) (h:KD rows tv=some f) {et:TypeId} (ht:P.underlying t=some (.slice et)):
  ∃val,(Builtin.len_ #[t] ty #[v]).run P w= .ok val w∧f.checks=[]∧f.us=[]∧ZK loc f.v val:=by
 have hsl: ∀a n c,v= .slice a n c→(Builtin.len_ #[t] ty #[v]).run P w= .ok (.int .i64 n) w:=by
  rintro a n c rfl;simp[Builtin.len_,run_underlying ht,goInt]
 unfold KD at h;split at h
 ·obtain rfl:=hv;obtain rfl:=Xt h;exact ⟨_,hsl _ _ _ rfl,rfl,rfl,rfl⟩
 ·rename_i id;split at h
  ·rename_i ow e l hr;obtain ⟨a,cap,len,e',ips,el,rfl⟩:=hv;obtain ⟨rfl,rfl,_⟩:=VK H hr el;obtain rfl:=Xt h;exact ⟨_,hsl _ _ _ rfl,rfl,rfl,rfl⟩
  ·cases h
 ·rename_i id o;split at h
  ·rename_i ow e l hr;obtain ⟨a,cap,len,e',ips,el,h0,hle,rfl⟩:=hv;obtain ⟨rfl,rfl,_⟩:=VK H hr el;obtain rfl:=Xt h;refine ⟨_,hsl _ _ _ rfl,rfl,rfl,?_⟩;show Value.int .i64 _= .int .i64 _;congr 1;omega
  ·cases h
 ·rename_i id n;split at h
  ·rename_i ow e l hr;obtain ⟨a,cap,len,e',ips,el,h0,hle,rfl⟩:=hv;obtain rfl:=Xt h;refine ⟨_,hsl _ _ _ rfl,rfl,rfl,?_⟩;show Value.int .i64 _= .int .i64 _;congr 1;omega
  ·cases h
 ·rename_i id i;split at h
  ·rename_i ow l hr;obtain ⟨a,cap,len,ips,el,h0,hi,rfl⟩:=hv;obtain ⟨_,rfl,hat⟩:=VK H hr el;obtain rfl:=Xt h;refine ⟨_,hsl _ _ _ rfl,rfl,rfl,?_⟩;rw[Wg hi,(hat.2.2.2.1 i.toNat hi).1];rfl
  ·cases h
 ·cases h
theorem Zd5 {P:Program} {t e:TypeId} (h:P.underlying t=some (.slice e)):P.underlying t=some (.slice (P.elem t)):=by
 have:P.elem t=e:=by simp[Program.elem,h]
 rw[this];exact h
theorem Zq4 [Glb] {P:Program} {t:TypeId} {e:E} (h:Xo P t=some e) (w:World):(sizeOf (P.elem t)).run P w= .ok e.sz w:=by
 obtain ⟨et,i,hu,hi,hs,_⟩:=Vr h;have:P.elem t=et:=by simp[Program.elem,hu]
 rw[this,W5 hi];simp[Program.cellsOf,hi,hs]
theorem Zgt (a:Option (Nat×Nat)) (q:Option Addr) (l h m s:Nat) (hn:a=none→m=l):Go.sliced (pt a q) l h m s=slV (if m=l then a else a.map fun p=>(p.1,p.2+l*s)) q (h-l) (m-l):=by
 unfold Go.sliced slV;congr 1;split
 ·rfl
 ·cases a with
  |none=>exact absurd (hn rfl) (by assumption)
  |some p=>simp only[pt,Option.map_some];rw[←XU]
def Zsa (loc:Loc):Option TV→Option Value→Prop
 |none,none=>True|some x,some y=>ZK loc x y|_,_=>False
theorem Zix {e e':E} (h:E.same e e'=true):e=e':=by cases e<;>cases e'<;>first|rfl| (simp[E.same]at h)
theorem Zed [Glb] {P:Program} {t:TypeId} {e:E} (h:WL P t e=true):Xo P t=some e:=by
 unfold WL at h;split at h
 ·rename_i e' he;rw[he,Zix h]
 ·cases h
theorem Zee {P:Program} {t:TypeId} (h:WM P t=true):P.underlying t=some .string:=by
 unfold WM at h;split at h
 ·rename_i hu;exact hu
 ·cases h
theorem Zon [Glb] {P:Program} {rows:Rows} {loc:Loc} {w:World} {S:Fp} {L:Nat→Prop} (H:Heap rows loc w S L) {t:TypeId} {tv:TV} {lo hi:Option TV} {v:Value} {vlo vhi:Option Value} {f:F} (hv:ZK loc tv v)
  (hlo:Zsa loc lo vlo) (hhi:Zsa loc hi vhi) (h:Wm P rows t tv lo hi=some f) (hc: ∀c,c∈f.checks→c=true):
  ∃val,(Instr.sliceAt t v vlo vhi none).run P w= .ok val w∧f.us=[]∧ZK loc f.v val:=by
 unfold Wm at h;split at h
 ·rename_i s k hi;obtain rfl:=hv;cases vlo with
  |some _=>exact hlo.elim
  |none=>
  cases vhi with
  |none=>exact hhi.elim
  |some vhi=>
  obtain rfl:=hhi;cases hb:WM P t with
  |false=>rw[hb]at h;cases h
  |true=>
   rw[hb,Zb,Zg]at h;subst h;have hs:=Zee hb;have h0:=of_decide_eq_true (hc _ (List.mem_cons_self));have h1:=of_decide_eq_true (hc _ (List.mem_cons_of_mem _ List.mem_cons_self));exact ⟨.string (s.extract 0 hi.toNat),by rw[run_sliceAt_string _ _ _ _ _ _ hs,run_slice_string_h (P:=P) w t s hs k hi h0 h1],rfl,rfl⟩
 ·rename_i s k lo;obtain rfl:=hv;cases vhi with
  |some _=>exact hhi.elim
  |none=>
  cases vlo with
  |none=>exact hlo.elim
  |some vlo=>
  obtain rfl:=hlo;cases hb:WM P t with
  |false=>rw[hb]at h;cases h
  |true=>
   rw[hb,Zb,Zg]at h;subst h;have hs:=Zee hb;have h0:=of_decide_eq_true (hc _ (List.mem_cons_self));have h1:=of_decide_eq_true (hc _ (List.mem_cons_of_mem _ List.mem_cons_self));exact ⟨.string (s.extract lo.toNat s.size),by rw[run_sliceAt_string _ _ _ _ _ _ hs,run_slice_string_l (P:=P) w t s hs k lo h0 h1],rfl,rfl⟩
 ·rename_i s k lo k' hi;obtain rfl:=hv;cases vhi with
  |none=>exact hhi.elim
  |some vhi=>
  cases vlo with
  |none=>exact hlo.elim
  |some vlo=>
  obtain rfl:=hlo;obtain rfl:=hhi;cases hb:WM P t with
  |false=>rw[hb]at h;cases h
  |true=>
   rw[hb,Zb,Zg]at h;subst h;have hs:=Zee hb;have h0:=of_decide_eq_true (hc _ (List.mem_cons_self));have h1:=of_decide_eq_true (hc _ (List.mem_cons_of_mem _ List.mem_cons_self));have h2:=of_decide_eq_true (hc _ (List.mem_cons_of_mem _ (List.mem_cons_of_mem _ List.mem_cons_self)));have h3:=of_decide_eq_true (hc _ (List.mem_cons_of_mem _ (List.mem_cons_of_mem _ (List.mem_cons_of_mem _ List.mem_cons_self))));refine ⟨.string (s.extract lo.toNat hi.toNat),?_,rfl,rfl⟩;rw[run_sliceAt_string _ _ _ _ _ _ hs];simp[Instr.slice,run_underlying hs,Instr.sliceBounds,Instr.sliceBound,asIntOf,h0,h1,h2,h3,Int.toNat_of_nonneg h0]
 ·rename_i id k lo;obtain ⟨a,cap,len,e,ips,el,rfl⟩:=hv;cases vhi with
  |some _=>exact hhi.elim
  |none=>
  cases vlo with
  |none=>exact hlo.elim
  |some vlo=>
  obtain rfl:=hlo;split at h
  ·rename_i ow e' l hr;obtain ⟨rfl,rfl,hat⟩:=VK H hr el;cases hb:WL P t e with
   |false=>rw[hb]at h;cases h
   |true=>
    rw[hb,Zb,Zg]at h;subst h;have he:=Zed hb;obtain ⟨et,i,hu,_⟩:=Vr he;have h0:=of_decide_eq_true (hc _ (List.mem_cons_self));have h1:=of_decide_eq_true (hc _ (List.mem_cons_of_mem _ List.mem_cons_self));refine ⟨slV (if cap=lo.toNat then a else a.map fun p=>(p.1,p.2+lo.toNat*e.sz)) ips.q (l.length-lo.toNat) (cap-lo.toNat),?_,rfl,a,cap,_,e,ips,el,h0,by omega,rfl⟩
    rw[run_sliceAt_slice _ _ _ _ _ _ (Zd5 hu),slV,run_slice_l (P:=P) w t _ _ _ (Zd5 hu) k lo h0 h1,Zq4 he,Result.andThen_ok,Zgt _ _ _ _ _ _ (fun hn=>by have:=(hat.2.1 hn).1;have:=hat.1;omega)]
  ·cases h
 ·rename_i id k hi;obtain ⟨a,cap,len,e,ips,el,rfl⟩:=hv;cases vlo with
  |some _=>exact hlo.elim
  |none=>
  cases vhi with
  |none=>exact hhi.elim
  |some vhi=>
  obtain rfl:=hhi;split at h
  ·rename_i ow e' l hr;obtain ⟨rfl,rfl,hat⟩:=VK H hr el;cases hb:WL P t e with
   |false=>rw[hb]at h;cases h
   |true=>
    rw[hb,Zb,Zg]at h;subst h;have he:=Zed hb;obtain ⟨et,i,hu,_⟩:=Vr he;have h0:=of_decide_eq_true (hc _ (List.mem_cons_self));have h1:=of_decide_eq_true (hc _ (List.mem_cons_of_mem _ List.mem_cons_self));have hle:=hat.1;refine ⟨slV a ips.q hi.toNat cap,?_,rfl,a,cap,_,e,ips,el,h0,by omega,rfl⟩;rw[run_sliceAt_slice _ _ _ _ _ _ (Zd5 hu),slV,run_slice_h (P:=P) w t _ _ _ (Zd5 hu) k hi h0 (by omega),Zq4 he,Result.andThen_ok,Zgt _ _ _ _ _ _ (fun hn=>(hat.2.1 hn).1)];simp only[Nat.zero_mul,Nat.add_zero,Nat.sub_zero];congr 2;split
    ·rfl
    ·cases a<;>rfl
  ·cases h
 ·rename_i id i k lo;obtain ⟨a,cap,len,ips,el,hi0,hi,rfl⟩:=hv;cases vhi with
  |some _=>exact hhi.elim
  |none=>
  cases vlo with
  |none=>exact hlo.elim
  |some vlo=>
  obtain rfl:=hlo;split at h
  ·rename_i ow l hr;obtain ⟨_,rfl,hat⟩:=VK H hr el;cases hb:WL P t .i with
   |false=>rw[hb]at h;cases h
   |true=>
    rw[hb,Zb,Zg]at h;subst h;have he:=Zed hb;obtain ⟨et,ti,hu,_⟩:=Vr he;have h0:=of_decide_eq_true (hc _ (List.mem_cons_self));have h1:=of_decide_eq_true (hc _ (List.mem_cons_of_mem _ List.mem_cons_self));rw[Wg hi]at h1;have hin:=(hat.2.2.2.1 i.toNat hi).1;refine ⟨slV (if (ips i.toNat).cap=lo.toNat then (ips i.toNat).a else (ips i.toNat).a.map fun p=>(p.1,p.2+lo.toNat)) (ips i.toNat).q ((ips i.toNat).len-lo.toNat) ((ips i.toNat).cap-lo.toNat),?_,rfl,a,cap,_,ips,el,hi0,hi,h0,by omega,rfl⟩
    rw[run_sliceAt_slice _ _ _ _ _ _ (Zd5 hu),slV,run_slice_l (P:=P) w t _ _ _ (Zd5 hu) k lo h0 (by rw[hin];exact h1),Zq4 he,Result.andThen_ok,Zgt _ _ _ _ _ _ (fun hn=>by have g:=hat.2.2.2.1 i.toNat hi;have:=(g.2.2.1 hn).1;have:=g.2.1;omega)];simp only[E.sz,Nat.mul_one]
  ·cases h
 ·cases h
theorem ZqK [Glb] {P:Program} {rows:Rows} {loc:Loc} {w:World} {S:Fp} {L:Nat→Prop} (H:Heap rows loc w S L) {t:TypeId} {e:E} (he:Xo P t=some e) {sv:SV} {v:Value} {k:IntKind} {i:Int} {f:F} (hv:ZD loc sv v)
  (h:K5 rows e i sv=some f) (hc: ∀c,c∈f.checks→c=true):
  ∃val,(Instr.indexAt t v (.int k i)).run P w= .ok val w∧f.us=[]∧ZK loc f.v val:=by
 obtain ⟨et,ti,hu,hti,hsz,hrest⟩:=Vr he;have hsize:(sizeOf et).run P w= .ok e.sz w:=by rw[W5 hti];simp[Program.cellsOf,hti,hsz]
 have hrun: ∀(a:Option (Nat×Nat)) (q:Option Addr) (n c:Nat) (b o:Nat),a=some (b,o)→0≤i→i.toNat<n→(Instr.indexAt t (slV a q n c) (.int k i)).run P w= .ok (.pointer (some (adr (b,o+i.toNat*e.sz)))) w:=by
  rintro a q n c b o rfl h0 h1;have h2:i< (n:Int):=by omega
  simp[Instr.indexAt,slV,pt,asIntOf,run_underlying hu,h0,h2,hsize,XU]
 unfold K5 at h;split at h
 ·rename_i id;obtain ⟨a,cap,len,e',ips,el,rfl⟩:=hv;split at h
  ·rename_i ow e2 l hr;obtain ⟨rfl,rfl,hat⟩:=VK H hr el;cases hb:E.same e e' with
   |false=>rw[hb]at h;cases h
   |true=>
    obtain rfl:=Zix hb;rw[hb,Zb,Zg]at h;subst h;have h0:=of_decide_eq_true (hc _ (List.mem_cons_self));have h1:=of_decide_eq_true (hc _ (List.mem_cons_of_mem _ List.mem_cons_self));cases a with
    |none=>have:=hat.2.1 rfl;have:=hat.1;omega
    |some p=>exact ⟨_,hrun _ _ _ _ p.1 p.2 rfl h0 (by omega),rfl,p.1,p.2,cap,_,e,ips,el,h0,by omega,by rw[Nat.add_zero]⟩
  ·cases h
 ·rename_i id o;obtain ⟨a,cap,len,e',ips,el,ho0,hol,rfl⟩:=hv;split at h
  ·rename_i ow e2 l hr;obtain ⟨rfl,rfl,hat⟩:=VK H hr el;cases hb:E.same e e' with
   |false=>rw[hb]at h;cases h
   |true=>
    obtain rfl:=Zix hb;rw[hb,Zb,Zg]at h;subst h;have h0:=of_decide_eq_true (hc _ (List.mem_cons_self));have h1:=of_decide_eq_true (hc _ (List.mem_cons_of_mem _ List.mem_cons_self));have hle:=hat.1;cases a with
    |none=>have:=hat.2.1 rfl;omega
    |some p=>
     have hne: ¬cap=o.toNat:=by omega
     refine ⟨_,hrun _ _ _ _ p.1 (p.2+o.toNat*e.sz) (by rw[Zc hne];rfl) h0 (by omega),rfl,p.1,p.2,cap,_,e,ips,el,by omega,by omega,?_⟩;rw[Nat.add_zero,show (o+i).toNat=o.toNat+i.toNat by omega,Nat.add_mul,Nat.add_assoc]
  ·cases h
 ·rename_i id n;obtain ⟨a,cap,len,e',ips,el,ho0,hol,rfl⟩:=hv;split at h
  ·rename_i ow e2 l hr;obtain ⟨rfl,rfl,hat⟩:=VK H hr el;cases hb:E.same e e' with
   |false=>rw[hb]at h;cases h
   |true=>
    obtain rfl:=Zix hb;rw[hb,Zb,Zg]at h;subst h;have h0:=of_decide_eq_true (hc _ (List.mem_cons_self));have h1:=of_decide_eq_true (hc _ (List.mem_cons_of_mem _ List.mem_cons_self));have hle:=hat.1;cases a with
    |none=>have:=hat.2.1 rfl;omega
    |some p=>exact ⟨_,hrun _ _ _ _ p.1 p.2 rfl h0 (by omega),rfl,p.1,p.2,cap,_,e,ips,el,h0,by omega,by rw[Nat.add_zero]⟩
  ·cases h
 ·rename_i id q;obtain ⟨a,cap,len,ips,el,hq0,hq,rfl⟩:=hv;split at h
  ·rename_i ow l hr;obtain ⟨_,rfl,hat⟩:=VK H hr el;simp only[Zg]at h;subst h;have h0:=of_decide_eq_true (hc _ (List.mem_cons_self));have h1:=of_decide_eq_true (hc _ (List.mem_cons_of_mem _ List.mem_cons_self));rw[Wg hq]at h1;obtain ⟨g1,g2,g3,g4⟩:=hat.2.2.2.1 q.toNat hq;have h1':i< ((l[q.toNat]).length:Int):=h1;cases hp:(ips q.toNat).a with
   |none=>have:=g3 hp;omega
   |some p=>
    refine ⟨_,hrun _ _ _ _ p.1 p.2 rfl h0 (by omega),rfl,a,cap,_,ips,p.1,p.2,el,hq0,hq,hp,h0,by omega,?_⟩;simp[E.sz]
  ·cases h
 ·cases h
theorem Zdj [Glb] {P:Program} {t:TypeId} {fi o:Nat} {ft:TypeId} (h:Zdi P t fi=some (o,ft)):
  ∃fs f i,P.underlying t=some (.struct fs)∧fs[fi]? =some f∧f.offset=o∧f.type=ft∧P.info? ft=some i∧P.cellsOf ft≠0:=by
 unfold Zdi at h;split at h
 ·rename_i fs hu;split at h
  ·rename_i f hf;cases hb:Nat.beq (P.cellsOf f.type) 0 with
   |true=>rw[hb]at h;cases h
   |false=>
    rw[hb,Zd,Zg,Zz]at h;obtain ⟨rfl,rfl⟩:=h;have hne:P.cellsOf f.type≠0:=by intro e;rw[e]at hb;cases hb
    obtain ⟨i,hi⟩:=ZeF hne;exact ⟨fs,f,i,hu,by simpa using hf,rfl,rfl,hi,hne⟩
  ·cases h
 ·cases h
theorem ZfA [Glb] {P:Program} {t:TypeId} {fi o:Nat} {ft:TypeId} (h:Zdi P t fi=some (o,ft)) (b k:Nat) (w:World):(Instr.fieldAt t (.pointer (some (adr (b,k)))) fi).run P w= .ok (.pointer (some (adr (b,k+o)))) w:=by
 obtain ⟨fs,f,i,hu,hf,rfl,rfl,hi,hne⟩:=Zdj h;simp[Instr.fieldAt,run_underlying hu,hf,Instr.sureAddr,fieldPlace,W5 hi,hne,XU]
theorem Z3.take {loc:Loc}: ∀{l:List SV} {vs:List Value} (n:Nat),Z3 loc l vs→Z3 loc (l.take n) (vs.take n)
 |_,_,0,_=>trivial
 | [],[],_+1,_=>trivial
 |_::_,_::_,n+1,r=>⟨r.1,Z3.take n r.2⟩
 | [],_::_,_,r=>r.elim
 |_::_,[],_,r=>r.elim
theorem Z3.drop {loc:Loc}: ∀{l:List SV} {vs:List Value} (n:Nat),Z3 loc l vs→Z3 loc (l.drop n) (vs.drop n)
 |_,_,0,r=>r
 | [],[],_+1,_=>trivial
 |_::_,_::_,n+1,r=>Z3.drop n r.2
 | [],_::_,_,r=>r.elim
 |_::_,[],_,r=>r.elim
theorem Z3.append {loc:Loc}: ∀{l l':List SV} {vs vs':List Value},Z3 loc l vs→Z3 loc l' vs'→Z3 loc (l++l') (vs++vs')
 | [],_,[],_,_,r=>r
 |_::_,_,_::_,_,r,r'=>⟨r.1,Z3.append r.2 r'⟩
 | [],_,_::_,_,r,_=>r.elim
 |_::_,_,[],_,r,_=>r.elim
theorem ZqY [Glb] {P:Program} {loc:Loc} {w:World} {ft:TypeId} {o:Nat} {cs:List SV} {vs:List Value} {f:F} (hr:Z3 loc cs vs)
  (h:(match Ku P ft with
   |some true=>bif Nat.ble (o+P.cellsOf ft) cs.length then some (⟨[], .c (.agg ((cs.drop o).take (P.cellsOf ft))),[]⟩:F)else none
   |some false=>(match cs[o]? with|some v=>bif okS v then Qj v else none|none=>none)
   |none=>none)=some f): ∃val,(part ft vs.toArray o).run P w= .ok val w∧f.checks=[]∧f.us=[]∧ZK loc f.v val:=by
 have hlen:=hr.len;split at h
 ·rename_i hk;obtain ⟨i,hi⟩:=ZiO hk;cases hb:Nat.ble (o+P.cellsOf ft) cs.length with
  |false=>rw[hb]at h;cases h
  |true=>
   rw[hb,Zb,Zg]at h;subst h;refine ⟨.agg ((vs.drop o).take (P.cellsOf ft)).toArray,?_,rfl,rfl,_,rfl,(hr.drop o).take _⟩;simp only[part,Sem.run_bind,Zdb hk,Result.andThen_ok,if_true,W5 hi,Sem.run_pure];congr 2;apply Array.ext';simp[List.extract]
 ·rename_i hk;split at h
  ·rename_i x hx;cases ho:okS x with
   |false=>rw[ho]at h;cases h
   |true=>
    rw[ho,Zb]at h;obtain rfl:=Xt h;obtain ⟨hj,rfl⟩:=List.getElem?_eq_some_iff.1 hx;obtain ⟨h',r⟩:=hr.get o hj;refine ⟨vs[o],?_,rfl,rfl,Vj r⟩;simp[part,Zdb hk,h']
  ·cases h
 ·cases h
theorem Zo8 [Glb] {P:Program} {rows:Rows} {loc:Loc} {w:World} {S:Fp} {L:Nat→Prop} (H:Heap rows loc w S L) {src dst:TypeId} {tv:TV} {v:Value} {f:F} (hv:ZK loc tv v)
  (h:WA P rows src dst tv=some f): ∃val,(convert src dst v).run P w= .ok val w∧f.checks=[]∧f.us=[]∧ZK loc f.v val:=by
 unfold WA at h;split at h
 ·rename_i k n;obtain rfl:=hv;split at h
  ·rename_i ks kd hs hd;obtain rfl:=Xt h;exact ⟨.int kd (kd.wrap n),by simp[convert,run_underlying hs,run_underlying hd,Conv.intToInt],rfl,rfl,rfl⟩
  ·cases h
 ·rename_i sv hni;split at h
  ·rename_i l io he hd hs;obtain rfl:=Xt h;have hsv:ZD loc sv v:=Vn hv (by rintro rfl;simp[Qv]at hs);obtain ⟨et,ti,hu,hti,hsz,hby,hz,hkd⟩:=Vr he;have hu8:P.underlying et=some (.int .u8):=by
    unfold KA at hkd;split at hkd<;>first| (rename_i h;exact h)| (simp at hkd;done)| (split at hkd<;>simp at hkd;done)
   have hstr: ∀l:List Int,l.foldl (fun r n=>r.push (UInt8.ofNat n.toNat)) ByteArray.empty=Ks l:=by
    have: ∀(l:List Int) (r:ByteArray),(l.foldl (fun r n=>r.push (UInt8.ofNat n.toNat)) r).data.toList=r.data.toList++l.map fun n=>UInt8.ofNat n.toNat:=by
     intro l;induction l with
     |nil=>intro r;simp
     |cons n l ih=>intro r;simp only[List.foldl_cons,ih,List.map_cons];simp[ByteArray.push]
    intro l;have h1:=this l ByteArray.empty;unfold Ks;cases hx:l.foldl (fun r n=>r.push (UInt8.ofNat n.toNat)) ByteArray.empty with
    |mk d=>
     rw[hx]at h1;congr 1;apply Array.ext';simpa using h1
   rcases ZaK H hs hsv with ⟨rfl,rfl,rfl⟩| ⟨id,o,e',row,ow,a,cap,ips,rfl,hr,rfl,hat,_⟩
   ·refine ⟨.string (Ks []),?_,rfl,rfl,rfl⟩;rw[run_convert_bytes_string w src dst et none 0 0 hu hu8 hd];simp[Conv.bytesToString,Ks];rfl
   ·refine ⟨.string (Ks l),?_,rfl,rfl,rfl⟩;unfold slV;rw[run_convert_bytes_string w src dst et _ _ _ hu hu8 hd];cases a with
    |none=>
     have h0:=hat.2.1 rfl;have h1:=hat.1;have:l=[]:=List.eq_nil_of_length_eq_zero (by omega);subst this;simp only[pt];cases ips.q with
     |none=>
      simp[Conv.bytesToString,Ks];rfl
     |some x=>
      simp[Conv.bytesToString,loadCells,loadCellsFrom,Ks];rfl
    |some p=>
     rw[←hstr];refine run_bytesToString w (adr p) l.length cap l ?_;have:=run_loadCells_list (P:=P) w (adr p) (l.map (Value.int .u8)) (fun j u hj=>by
      obtain ⟨hj',rfl⟩:=List.getElem?_eq_some_iff.1 hj;have hj2:j<l.length:=by simpa using hj'
      have:=(hat.2.2.1 p.1 p.2 rfl).1 j hj2 0 (by decide);rw[show adr p=adr (p.1,p.2)from rfl,XU];simpa [E.sz,elV] using this)
     simpa using this
  ·cases h
 ·cases h
def ZS (e:E):List e.C→Ips→List Value
 | [],_=>[]|x::xs,ips=>(List.range e.sz).map (elV e x (ips 0))++ZS e xs ⟨fun i=>ips (i+1),ips.q⟩
theorem Ka (e:E): ∀(l:List e.C) (ips:Ips),(ZS e l ips).length=l.length*e.sz
 | [],_=>by simp[ZS]
 |x::xs,ips=>by simp[ZS,Ka e xs,Nat.add_mul];omega
theorem Zic (e:E): ∀(l:List e.C) (ips:Ips) (i j:Nat) (h:i<l.length),j<e.sz→(ZS e l ips)[i*e.sz+j]? =some (elV e l[i] (ips i) j)
 |x::xs,ips,0,j,_,hj=>by
  simp only[ZS,Nat.zero_mul,Nat.zero_add];rw[List.getElem?_append_left (by simpa using hj)];simp[hj]
 |x::xs,ips,i+1,j,h,hj=>by
  simp only[ZS];rw[List.getElem?_append_right (by simp[Nat.add_mul];omega)];have:=Zic e xs ⟨fun i=>ips (i+1),ips.q⟩ i j (by simpa using h) hj;simp only[List.length_map,List.length_range,Nat.add_mul,Nat.one_mul];rw[show i*e.sz+e.sz+j-e.sz=i*e.sz+j by omega,this];simp
theorem ZfD (e:E): ∀(l l':List e.C) (ips:Ips),ZS e (l++l') ips=ZS e l ips++ZS e l' ⟨fun i=>ips (i+l.length),ips.q⟩
 | [],l',ips=>by simp[ZS]
 |x::xs,l',ips=>by
  simp only[List.cons_append,ZS,List.append_assoc];rw[ZfD e xs l'];congr 3
theorem Zd7 (e:E): ∀(l:List e.C) (ips ips':Ips),(∀i,i<l.length→ips i=ips' i)→ZS e l ips=ZS e l ips'
 | [],_,_,_=>rfl
 |x::xs,ips,ips',h=>by
  simp only[ZS];rw[h 0 (by simp),Zd7 e xs ⟨fun i=>ips (i+1),ips.q⟩ ⟨fun i=>ips' (i+1),ips'.q⟩ (fun i hi=>h (i+1) (by simpa using hi))]
theorem Zlb (e:E): ∀(l:List e.C) (ips:Ips),J9 (ZS e l ips)
 | [],_=>trivial
 |x::xs,ips=>by
  have app: ∀{a b:List Value},J9 a→J9 b→J9 (a++b):=by
   intro a;induction a with
   |nil=>intro b _ h;exact h
   |cons v a ih=>intro b h h';exact ⟨h.1,ih h.2 h'⟩
  refine app ?_ (Zlb e xs _);have one: ∀(l:List Nat),J9 (l.map (elV e x (ips 0))):=by
   intro l;induction l with
   |nil=>trivial
   |cons j l ih=>exact ⟨by cases e<;>rfl,ih⟩
  exact one _
def Uf (w:World) (b o:Nat) (vs:List Value):Prop:= ∀j v,vs[j]? =some v→w.cell? (adr (b,o+j))=some v
theorem Uf.row [Glb] {w:World} {b o:Nat} {e:E} {l:List e.C} {ips:Ips} (h:Uf w b o (ZS e l ips)): ∀i,(hi:i<l.length)→ ∀j,j<e.sz→w.cell? (adr (b,o+i*e.sz+j))=some (elV e l[i] (ips i) j):=fun i hi j hj=>by
 rw[Nat.add_assoc];exact h _ _ (Zic e l ips i j hi hj)
theorem ZlJ [Glb] {w:World} {b o:Nat} {e:E} {l:List e.C} {ips:Ips} (h: ∀i,(hi:i<l.length)→ ∀j,j<e.sz→w.cell? (adr (b,o+i*e.sz+j))=some (elV e l[i] (ips i) j)):Uf w b o (ZS e l ips):=by
 intro k v hk;obtain ⟨hlt,rfl⟩:=List.getElem?_eq_some_iff.1 hk;rw[Ka]at hlt;have hp:=Zia e;have hi:k/e.sz<l.length:=(Nat.div_lt_iff_lt_mul hp).2 hlt;have hj:k%e.sz<e.sz:=Nat.mod_lt _ hp;have hkk:k/e.sz*e.sz+k%e.sz=k:=by rw[Nat.mul_comm];exact Nat.div_add_mod k e.sz
 have h1:=Zic e l ips (k/e.sz) (k%e.sz) hi hj;have h2:=h (k/e.sz) hi (k%e.sz) hj;rw[hkk]at h1;rw[Nat.add_assoc,hkk]at h2;rw[List.getElem?_eq_getElem (by rw[Ka];exact hlt)]at h1;rw[h2];exact h1.symm
theorem ZeC {e:E} {zo:Option Value} (h:Zj9 e zo=true): ∃z,zo=some z∧z.cells=((List.range e.sz).map (elV e e.zero ⟨none,0,0,none⟩)).toArray:=by
 cases e<;>(unfold Zj9 at h;split at h)<;>first
  | (exact ⟨_,rfl,rfl⟩)
  | (cases h;done)
  | (rename_i he _;cases he;done)
  | (rename_i he;cases he;done)
theorem ZfX (w:World) (out:Option Nat) (e:E) (n:Nat):YZ w true out e (List.replicate n e.zero) ⟨fun _=>⟨none,0,0,none⟩,none⟩:=by
 cases e with
 |n=>
  refine ⟨fun i hi=> ?_,fun _=>⟨(fun i j _ _ _ b o b' o' h=>by cases h),(fun i _ b o h=>by cases h)⟩⟩;rw[List.getElem_replicate];exact ⟨rfl,Nat.le_refl _,fun _=>⟨rfl, .inl rfl⟩,(fun b o h=>by cases h)⟩
 |_=>trivial
theorem ZgS (e:E) (n:Nat):ZS e (List.replicate n e.zero) ⟨fun _=>⟨none,0,0,none⟩,none⟩=(List.replicate n ((List.range e.sz).map (elV e e.zero ⟨none,0,0,none⟩))).flatten:=by
 induction n with
 |zero=>rfl
 |succ n ih=>simp only[List.replicate_succ,ZS,List.flatten_cons];rw[ih]
theorem Zif [Glb] {rows:Rows} {loc:Loc} {w w1:World} {S S1:Fp} {L:Nat→Prop} (H:Heap rows loc w S L) {id:Nat} (hid:rows id=none) {e:E} {l:List e.C} {ips:Ips} {c:Array Value} {ty:TypeId} {cap:Nat}
  (h1:Frame ZC w w1) (hsz1:w1.heap.size=w.heap.size) (hcells: ∀(j:Nat) (v:Value),(ZS e l ips)[j]? =some v→c[j]? =some v) (hcap:l.length≤cap) (hsz:cap*e.sz≤c.size)
  (hin:YZ w true none e l ips) (hS1: ∀b,(e= .n∧ ∃i,i<l.length∧ ∃o,(ips i).a=some (b,o))→ ∀o,S1 b o) (hd:Dis (Qa rows loc) S1) (hS:Sub2 S1 S):
  ∃loc',Heap (QD rows id (.row true e l)) loc' (w1.alloc (.cells c ty)) (Z7 S (fun b _=>b=w.heap.size)) L∧Ext loc loc'∧ZD loc' (.slf id) (slV (some (w.heap.size,0)) ips.q l.length cap)∧
   Frame S w (w1.alloc (.cells c ty)):=by
 have hf:Frame ZC w (w1.alloc (.cells c ty)):=h1.trans (Zbx ZC w1 _) (fun _ _ _ h=>h);have H1:Heap rows loc (w1.alloc (.cells c ty)) S L:=H.frame hf (fun _ _ _ _ _ _ h=>h) (fun _ _ _ h=>h);have hltS1: ∀b o,S1 b o→b<w.heap.size:=fun b o h=>H.ltS b o (hS b o h);have H2:Heap rows loc (w1.alloc (.cells c ty)) (Z7 S (Z7 S1 (fun b _=>b=w.heap.size))) L:=
  H1.weaken (fun _ _ h=> .inl h) (by
   rintro b o (h|h|h) hl
   ·exact H.dis b o h hl
   ·exact H.dis b o (hS b o h) hl
   ·have:=H.ltL b hl;omega) (by
   rintro b o (h|h|h)
   ·exact H1.ltS b o h
   ·exact H1.ltS b o (hS b o h)
   ·subst h;simp[hsz1])
 have hcell: ∀o,(w1.alloc (.cells c ty)).cell? (adr (w.heap.size,o))=c[o]? :=fun o=>by rw[←hsz1];exact Zd1 w1 c ty o
 have hat:Qq (w1.alloc (.cells c ty)) true e (some (w.heap.size,0)) cap l ips:=by
  refine ⟨hcap,(fun h=>by cases h),fun b o ea=> ?_,?_⟩
  ·simp only[Zg,Zz]at ea;obtain ⟨rfl,rfl⟩:=ea;refine ⟨Uf.row fun j v hj=> ?_,fun _=> ?_⟩
   ·rw[Nat.zero_add,hcell];exact hcells j v hj
   ·rw[←hsz1];exact Zfg w1 c ty _ (by omega)
  ·have:=hin.frame (S:=ZC) hf (fun _ _ _ _ _ _ _ _ h=>h);cases e with
   |n=>
    refine ⟨this.1,fun ho=>⟨(this.2 ho).1,fun i hi b o ep h=> ?_⟩⟩;have:=hltS1 b o (hS1 b ⟨rfl,i,hi,o,ep⟩ o);simp only[Option.map_some,Zg]at h;omega
   |_=>trivial
 obtain ⟨loc',h3,h4,h5⟩:=Zjs (S1:=Z7 S1 (fun b _=>b=w.heap.size)) H2 hid hat (fun b hb o=>by
  rcases hb with ⟨o1,h⟩|h
  ·simp only[Zg,Zz]at h;exact .inr h.1.symm
  ·exact .inl (hS1 b h o)) (by
  rintro b o ho (h|h)
  ·exact hd b o ho h
  ·obtain ⟨i,x,ex,hx⟩:=ho;have:=H.own_lt ex hx;omega)
 refine ⟨loc',h3.weaken ?_ ?_ ?_,h4,h5,hf.mono (fun _ _ h=>h.elim)⟩
 ·rintro b o (h|h|h)
  ·exact .inl h
  ·exact .inl (hS b o h)
  ·exact .inr h
 ·rintro b o (h|h) hl
  ·exact H.dis b o h hl
  ·have:=H.ltL b hl;omega
 ·rintro b o (h|h)
  ·exact H1.ltS b o h
  ·subst h;simp[hsz1]
theorem Zpt [Glb] {P:Program} {rows:Rows} {loc:Loc} {w:World} {S:Fp} {L:Nat→Prop} (H:Heap rows loc w S L) {fresh:Nat} (hid:rows fresh=none) {t:TypeId} {tv:TV} {v:Value} {f:F} (hv:ZK loc tv v)
  (h:ZqV P fresh t tv=some f) (hc: ∀c,c∈f.checks→c=true): ∃val w',(Instr.makeSlice t v v).run P w= .ok val w'∧Z4 rows loc w S L f.us f.v val w':=by
 unfold ZqV at h;split at h
 ·rename_i n;obtain rfl:=hv;split at h
  ·rename_i e he;simp only[Zg]at h;subst h;obtain ⟨et,i,hu,hi,hsz,hby,hz,_⟩:=Vr he;obtain ⟨z,hz1,hz2⟩:=ZeC hz;have h0:=of_decide_eq_true (hc _ (List.mem_cons_self));have h1:=of_decide_eq_true (hc _ (List.mem_cons_of_mem _ List.mem_cons_self));have hb:(i.bytes:Int)*n≤281474976710656:=by
    rw[hby];cases e<;>simp only[E.bytes,E.most]at h1⊢ <;>omega
   have h63:n≤9223372036854775807:=by cases e<;>simp only[E.most]at h1<;>omega
   have hrun:=run_make (P:=P) w t et i z hu hi hz1 .i64 .i64 n n h0 (Int.le_refl _) hb h63;have hzs:z.cells.size=e.sz:=by rw[hz2];simp
   have hp:=Zia e;obtain ⟨loc',h3,h4,h5,h6⟩:=Zif (S1:=ZC) (l:=List.replicate n.toNat e.zero) (ips:=⟨fun _=>⟨none,0,0,none⟩,none⟩) (c:=madeCells z.cells (n.toNat*i.size)) (ty:=et) (cap:=n.toNat) H hid (Frame.refl _ w) rfl (fun j u hj=>by
     rw[ZgS]at hj;obtain ⟨hlt,rfl⟩:=List.getElem?_eq_some_iff.1 hj;simp at hlt;have hlt':j<n.toNat*e.sz:=by simpa using hlt
     unfold madeCells;rw[Array.getElem?_map,Array.getElem?_range,Ze (by rw[hsz];exact hlt')];simp only[Option.map_some,hzs];congr 1;have hj2:j%e.sz<e.sz:=Nat.mod_lt _ hp;have key: ∀(m:Nat) (b:List Value) (q r:Nat),q<m→r<b.length→(List.replicate m b).flatten[q*b.length+r]? =b[r]? :=by
      intro m;induction m with
      |zero=>intro b q r h;omega
      |succ m ih=>
       intro b q r hq hr;rw[List.replicate_succ,List.flatten_cons];cases q with
       |zero=>rw[Nat.zero_mul,Nat.zero_add,List.getElem?_append_left hr]
       |succ q=>
        rw[List.getElem?_append_right (by rw[Nat.add_mul];omega),show (q+1)*b.length+r-b.length=q*b.length+r by rw[Nat.add_mul];omega];exact ih b q r (by omega) hr
     have hdiv:j/e.sz<n.toNat:=(Nat.div_lt_iff_lt_mul hp).2 hlt';have hkk:j/e.sz*e.sz+j%e.sz=j:=by rw[Nat.mul_comm];exact Nat.div_add_mod j e.sz
     have hk:=key n.toNat ((List.range e.sz).map (elV e e.zero ⟨none,0,0,none⟩)) (j/e.sz) (j%e.sz) hdiv (by simpa using hj2);simp only[List.length_map,List.length_range,hkk]at hk;rw[List.getElem?_eq_getElem (by simpa using hlt),List.getElem?_eq_getElem (by simpa using hj2)]at hk;rw[Option.some.inj hk];rw[getElem!_pos z.cells (j%e.sz) (by rw[hzs];exact hj2)];simp[hz2]) (by simp) (by rw[size_madeCells,hsz];exact Nat.le_refl _) (ZfX w none e n.toNat) (fun b hb=>by obtain ⟨_,i,_,o,h⟩:=hb;cases h) (fun _ _ _ h=>h) (fun _ _ h=>h.elim)
   refine ⟨_,_,hrun,Z4.ext h3 rfl ?_ h4 (fun b o h=>h.imp_right fun h=>by omega) h6⟩;rw[List.length_replicate]at h5;exact Vj h5
  ·cases h
 ·cases h
theorem Zmh (vs:List Value): ∀(n off:Nat) (cells:Array Value),off+n+vs.length≤cells.size→
  ((vs.zipIdx n).foldl (fun cs (p:Value×Nat)=>cs.setIfInBounds (off+p.2) p.1) cells).toList=cells.toList.take (off+n)++vs++cells.toList.drop (off+n+vs.length):=by
 induction vs with
 |nil=>intro n off cells h;simp
 |cons v vs ih=>
  intro n off cells h;simp only[List.zipIdx_cons,List.foldl_cons];have hl:off+n<cells.size:=by simp at h;omega
  rw[ih (n+1) off _ (by simp at h⊢;omega)];have hset:(cells.setIfInBounds (off+n) v).toList=cells.toList.take (off+n)++v::cells.toList.drop (off+n+1):=by
   rw[Array.toList_setIfInBounds,List.set_eq_take_append_cons_drop,Ze (by simpa using hl)]
  have hlt:(cells.toList.take (off+n)).length=off+n:=by simp;omega
  rw[hset];have e1:(cells.toList.take (off+n)++v::cells.toList.drop (off+n+1)).take (off+(n+1))=cells.toList.take (off+n)++[v]:=by
   rw[List.take_append,hlt,List.take_of_length_le (by omega),show off+(n+1)-(off+n)=1 by omega];rfl
  have e2:(cells.toList.take (off+n)++v::cells.toList.drop (off+n+1)).drop (off+(n+1)+vs.length)=cells.toList.drop (off+n+(v::vs).length):=by
   rw[List.drop_append,hlt,List.drop_of_length_le (by omega),show off+(n+1)+vs.length-(off+n)=vs.length+1 by omega];simp only[List.nil_append,List.drop_succ_cons,List.drop_drop,List.length_cons];congr 1;omega
  rw[e1,e2];simp
theorem Zi2 [Glb] {place:Nat→Option (Nat×Nat)} {cells:Array Value} {i:Nat} {v:Value} {rest:List (Nat×Value)} {off size:Nat} {vs:List Value} (hp:place i=some (off,size)) (hv:v.cells=vs.toArray) (hl:vs.length=size) (hle:off+size≤cells.size):
  Instr.fill place cells ((i,v)::rest)=Instr.fill place (cells.toList.take off++vs++cells.toList.drop (off+vs.length)).toArray rest:=by
 simp only[Instr.fill,hp,hv];rw[Zc (by simp[hl];omega)];congr 1;have:=Zmh vs 0 off cells (by omega);apply Array.ext';simp only[Nat.add_zero]at this;rw[←this,←Array.foldl_toList];simp
def U3 (loc:Loc):List (Nat×TV)→List (Nat×Value)→Prop
 | [],[]=>True| (i,x)::xs,(j,v)::vs=>i=j∧ZK loc x v∧U3 loc xs vs|_,_=>False
theorem Zk8 [Glb] {P:Program} {loc:Loc} {fs:List Field} {place:Nat→Option (Nat×Nat)} (hplace: ∀i f,fs[i]? =some f→place i=some (f.offset,P.cellsOf f.type)): ∀{parts:List (Nat×TV)} {vparts:List (Nat×Value)} {cs cs':List SV} {vs:List Value},
  Zme P fs cs parts=some cs'→U3 loc parts vparts→Z3 loc cs vs→ ∃vs',Instr.fill place vs.toArray vparts=some vs'.toArray∧Z3 loc cs' vs'
 | [],[],cs,cs',vs,h,_,hr=>by simp only[Zme,Zg]at h;subst h;exact ⟨vs,rfl,hr⟩
 | [],_::_,_,_,_,_,hp,_=>hp.elim
 |_::_,[],_,_,_,_,hp,_=>by cases hp
 | (i,x)::parts,(j,v)::vparts,cs,cs',vs,h,hp,hr=>by
  obtain ⟨rfl,hx,hp⟩:=hp;simp only[Zme]at h;split at h
  ·rename_i f ws hf hw;cases hb:(Nat.beq ws.length (P.cellsOf f.type)&&Nat.ble (f.offset+ws.length) cs.length)with
   |false=>rw[hb]at h;cases h
   |true=>
    rw[hb,Zb]at h;simp only[Bool.and_eq_true]at hb;have hl:=Nat.eq_of_beq_eq_true hb.1;have hle:=Nat.le_of_ble_eq_true hb.2;obtain ⟨us,hu,hru,_⟩:=Zd4 hw hx;have hlu:=hru.len;have hlen:=hr.len;rw[Zi2 (hplace i f hf) hu (by omega) (by simp;omega)];refine Zk8 hplace h hp ?_;unfold Qu;rw[hlu];exact ((hr.take f.offset).append hru).append (hr.drop _)
  ·cases h
theorem ZhZ [Glb] {loc:Loc} {st:St} {a:Act} (h: ∀t,ZK loc (st.tmps t) (a.tmps.getD t undef)): ∀(l:List (Nat×Operand)),U3 loc (VD st l) (l.map fun (i,x)=>(i,a.eval x))
 | []=>trivial
 | (i,x)::r=>⟨rfl,Znr h x,ZhZ h r⟩
theorem Zhn [Glb] {P:Program} (w:World): ∀(fs:List Field),Zcu P fs=true→(fs.mapM (m:=Sem) fun f=>do pure (f.offset,←sizeOf f.type)).run P w= .ok (fs.map fun f=>(f.offset,P.cellsOf f.type)) w
 | [],_=>by simp
 |f::r,h=>by
  simp only[Zcu,Bool.and_eq_true]at h;have hi: ∃i,P.info? f.type=some i:=by
   have:=h.1;unfold ZrG at this;split at this
   ·rename_i i hi;exact ⟨i,hi⟩
   ·cases this
  obtain ⟨i,hi⟩:=hi;simp only[List.mapM_cons,Sem.run_bind,W5 hi,Result.andThen_ok,Sem.run_pure,Zhn w r h.2,List.map_cons]
theorem Zo2 [Glb] {P:Program} {loc:Loc} {w:World} {t:TypeId} {fs:Array Field} {cs cs':List SV} {parts:List (Nat×TV)} {vparts:Array (Nat×Value)} (hu:P.underlying t=some (.struct fs)) (hz:zeroCells P t=some cs)
  (h:Zme P fs.toList cs parts=some cs') (hp:U3 loc parts vparts.toList) (hT:Zcu P fs.toList=true): ∃vs,(Instr.build t vparts).run P w= .ok (.agg vs.toArray) w∧Z3 loc cs' vs:=by
 unfold zeroCells at hz;split at hz
 ·rename_i i hi;split at hz
  ·rename_i zs hzz;cases hb:okL (zs.toList.map V0)with
   |false=>rw[hb]at hz;cases hz
   |true=>
    rw[hb,Zb,Zg]at hz;subst hz;have hm:(fs.mapM (m:=Sem) fun f=>do pure (f.offset,←sizeOf f.type)).run P w= .ok (fs.map fun f=>(f.offset,P.cellsOf f.type)) w:=by
     rw[Array.mapM_eq_mapM_toList,Sem.run_map,Zhn w fs.toList hT,Result.andThen_ok];congr 1;apply Array.ext';simp
    obtain ⟨vs',h1,h2⟩:=Zk8 (P:=P) (loc:=loc) (fs:=fs.toList) (place:=fun i=>(fs.map fun f=>(f.offset,P.cellsOf f.type))[i]?) (fun i f hf=>by
     have:fs[i]? =some f:=by simpa using hf
     simp[this]) h hp (Zcq loc zs.toList)
    refine ⟨vs',?_,h2⟩;simp only[Array.toArray_toList]at h1;have h1':Instr.fill (fun x=>(fs.map fun f=>(f.offset,P.cellsOf f.type))[x]?) zs vparts.toList=some vs'.toArray:=h1;simp only[Instr.build,Sem.run_bind,zeroValue,typeInfo,hi,run_program,Result.andThen_ok,hzz,Sem.run_pure,run_underlying hu,hm,Value.cells];rw[h1'];rfl
  ·cases hz
 ·cases hz
theorem Zrb [Glb] {rows:Rows} {loc:Loc} {w:World} {S:Fp} {L:Nat→Prop} (H:Heap rows loc w S L) {e:E} {cv:CV} {x:e.C} {us:Us} {v:Value} (h:Jc rows e cv=some (x,us)) (hv:Ym loc cv v):
  ∃S1 ip,J8 rows (Zj rows us) loc w S L S1∧v.cells=((List.range e.sz).map (elV e x ip)).toArray∧YZ w true none e [x] ⟨fun _=>ip,none⟩∧(e= .n→ ∀b o,ip.a=some (b,o)→ ∀o',S1 b o')∧Q2 us=[]∧(∀id,rows id=none→Zj rows us id=none):=by
 by_cases hn:e= .n
 ·subst hn;cases cv with
  |agg l=>simp[Jc]at h
  |s sv=>
   have h':(match QQ rows (.sl true .i) sv with|some (x,us,_)=>some (x,us)|none=>none)=some (x,us):=h
   split at h'
   ·rename_i x' us' ls' ht;simp only[Zg,Zz]at h';obtain ⟨rfl,rfl⟩:=h';obtain ⟨rfl,hus⟩:=ZjY ht;have hsv:ZD loc sv v:=Vn hv (by rintro rfl;simp[QQ,Qv]at ht);obtain ⟨S1,T,_,k⟩:=ZcG H ht hsv;obtain ⟨a,cap,ips,rfl,hat,hb⟩:=k false _ (.refl _) rfl;refine ⟨S1,⟨a,cap,List.length (α:=Int) x',ips.q⟩,T,rfl,⟨fun i hi=> ?_,fun _=>⟨fun i j hi hj hij=> ?_,fun i hi b o ep h=>by cases h⟩⟩,fun _ b o ep o'=>hb b (.inl ⟨o,ep⟩) o',?_,T.none⟩
    ·obtain rfl:i=0:=by simpa using hi
     exact Zka hat
    ·simp at hi hj;omega
    ·rcases hus with rfl| ⟨_,_,rfl,_⟩<;>rfl
   ·cases h'
 ·obtain ⟨rfl,vs,hvs,hlen,hone,hel⟩:=ZhU hn h hv;refine ⟨ZC,⟨none,0,0,none⟩, .refl H,?_,?_,fun hh=>absurd hh hn,rfl,fun _ h=>h⟩
  ·rw[hvs];congr 1;apply List.ext_getElem
   ·simp[hlen]
   ·intro j h1 h2;rw[hel ⟨none,0,0,none⟩ j h1];simp
  ·cases e<;>first|trivial|exact absurd rfl hn
def Zrs (p:IP) (ips:Ips):Ips:=⟨fun|0=>p|i+1=>ips i,ips.q⟩
theorem ZlR [Glb] {loc:Loc} {w:World} {S:Fp} {L:Nat→Prop} {e:E}: ∀{cvs:List CV} {rows:Rows} {l:List e.C} {us:Us} {vals:List Value} (_:Heap rows loc w S L) (_:Vg rows e cvs=some (l,us)) (_:YY loc cvs vals),
  ∃S1 ips,J8 rows (Zj rows us) loc w S L S1∧l.length=vals.length∧(∀k,(h:k<l.length)→(h':k<vals.length)→vals[k].cells=((List.range e.sz).map (elV e l[k] (ips k))).toArray)∧YZ w true none e l ips∧
   (∀b,(e= .n∧ ∃i,i<l.length∧ ∃o,(ips i).a=some (b,o))→ ∀o,S1 b o)∧Q2 us=[]
 | [],rows,l,us,vals,H,h,hr=>by
  simp only[Vg,Zg,Zz]at h;obtain ⟨rfl,rfl⟩:=h;cases vals with
  |cons _ _=>exact hr.elim
  |nil=>
   exact ⟨ZC,⟨fun _=>⟨none,0,0,none⟩,none⟩, .refl H,rfl,(fun k h=>by cases h),ZfX w none e 0,(fun b hb=>by obtain ⟨_,i,hi,_⟩:=hb;cases hi),rfl⟩
 |cv::cvs,rows,l,us,vals,H,h,hr=>by
  simp only[Vg]at h;split at h
  ·rename_i x us1 h1;split at h
   ·rename_i xs us2 h2;simp only[Zg,Zz]at h;obtain ⟨rfl,rfl⟩:=h;cases vals with
    |nil=>exact hr.elim
    |cons v vals=>
     obtain ⟨Sa,ip,Ta,ca,ia,ba,sa,_⟩:=Zrb H h1 hr.1;obtain ⟨Sb,ips,Tb,lb,cb,ib,bb,sb⟩:=ZlR Ta.heap h2 hr.2;obtain ⟨T,hd⟩:=Ta.trans Tb;refine ⟨Z7 Sa Sb,Zrs ip ips,by rw[Qd];exact T,by simp[lb],fun k hk hk'=> ?_,?_,?_,by rw[Wi,sa,sb];rfl⟩
     ·cases k with
      |zero=>exact ca
      |succ k=>exact cb k (by simpa using hk) (by simpa using hk')
     ·cases e with
      |n=>
       have hbl: ∀i,i<xs.length→ ∀b o,(ips i).a=some (b,o)→ ∀o',Sb b o':=fun i hi b o ep o'=>bb b ⟨rfl,i,hi,o,ep⟩ o';refine ⟨fun i hi=> ?_,fun _=>⟨fun i j hi hj hij b o b' o' e1 e2=> ?_,fun i hi b o ep hh=>by cases hh⟩⟩
       ·cases i with
        |zero=>exact ia.1 0 (by simp)
        |succ i=>exact ib.1 i (by simpa using hi)
       ·cases i with
        |zero=>
         cases j with
         |zero=>exact absurd rfl hij
         |succ j=>rintro rfl;exact hd b 0 (ba rfl b o e1 0) (hbl j (by simpa using hj) b o' e2 0)
        |succ i=>
         cases j with
         |zero=>rintro rfl;exact hd b 0 (ba rfl b o' e2 0) (hbl i (by simpa using hi) b o e1 0)
         |succ j=>exact (ib.2 rfl).1 i j (by simpa using hi) (by simpa using hj) (by omega) b o b' o' e1 e2
      |_=>trivial
     ·rintro b ⟨he,i,hi,o,ep⟩ o';cases i with
      |zero=>exact .inl (ba he b o ep o')
      |succ i=>exact .inr (bb b ⟨he,i,by simpa using hi,o,ep⟩ o')
   ·cases h
  ·cases h
def ZfI:Nat→List Value→List (Nat×Value)|_,[]=>[]|k,v::vs=>(k,v)::ZfI (k+1) vs
theorem Zhs {loc:Loc}: ∀{parts:List (Nat×TV)} {vparts:List (Nat×Value)} {k:Nat} {cvs:List CV},UC k parts=some cvs→U3 loc parts vparts→ ∃vals,YY loc cvs vals∧vparts=ZfI k vals∧cvs.length=vals.length
 | [],[],k,cvs,h,_=>by simp only[UC,Zg]at h;subst h;exact ⟨[],trivial,rfl,rfl⟩
 | [],_::_,_,_,_,hp=>hp.elim
 |_::_,[],_,_,_,hp=>by cases hp
 | (i, .tup l)::r,(j,v)::vr,k,cvs,h,hp=>by simp[UC]at h
 | (i, .c x)::r,(j,v)::vr,k,cvs,h,hp=>by
  obtain ⟨rfl,hx,hp⟩:=hp;simp only[UC]at h;cases hb:Nat.beq i k with
  |false=>rw[hb]at h;cases h
  |true=>
   obtain rfl:=Nat.eq_of_beq_eq_true hb;rw[hb,Zb]at h;split at h
   ·rename_i vs hvs;simp only[Zg]at h;subst h;obtain ⟨vals,h1,h2,h3⟩:=Zhs hvs hp;exact ⟨v::vals,⟨hx,h1⟩,by rw[h2];rfl,by simp[h3]⟩
   ·cases h
theorem Zk9 [Glb] {e:E}: ∀{vals:List Value} {l:List e.C} {ips:Ips} {k:Nat} {cells:Array Value},l.length=vals.length→
  (∀i,(h:i<l.length)→(h':i<vals.length)→vals[i].cells=((List.range e.sz).map (elV e l[i] (ips i))).toArray)→(k+vals.length)*e.sz≤cells.size→
  Instr.fill (fun i=>some (i*e.sz,e.sz)) cells (ZfI k vals)=some (cells.toList.take (k*e.sz)++ZS e l ips++cells.toList.drop ((k+vals.length)*e.sz)).toArray
 | [],[],ips,k,cells,_,_,_=>by simp[ZfI,Instr.fill,ZS]
 | [],_::_,_,_,_,h,_,_=>by simp at h
 |_::_,[],_,_,_,h,_,_=>by simp at h
 |v::vals,x::l,ips,k,cells,hl,hc,hs=>by
  have h0:=hc 0 (by simp) (by simp);simp only[List.getElem_cons_zero]at h0;have hs':(k+1+vals.length)*e.sz≤cells.size:=by
   have:k+(v::vals).length=k+1+vals.length:=by simp;omega
   rw[this]at hs;exact hs
  have hk1:(k+1)*e.sz≤cells.size:=Nat.le_trans (Nat.mul_le_mul_right _ (by omega)) hs';have hk2:k*e.sz+e.sz≤cells.size:=by rw[Nat.add_mul,Nat.one_mul]at hk1;exact hk1
  simp only[ZfI];rw[Zi2 (vs:=(List.range e.sz).map (elV e x (ips 0))) rfl h0 (by simp) hk2];rw[Zk9 (l:=l) (ips:=⟨fun i=>ips (i+1),ips.q⟩) (k:=k+1) (by simpa using hl) (fun i h h'=>hc (i+1) (by simpa using h) (by simpa using h')) (by
   simp only[List.size_toArray,List.length_append,List.length_take,List.length_drop,List.length_map,List.length_range,Array.length_toList];omega)]
  congr 1;have e1:(cells.toList.take (k*e.sz)).length=k*e.sz:=by simp;omega
  have e2:(k+1)*e.sz=k*e.sz+e.sz:=by rw[Nat.add_mul,Nat.one_mul]
  have e3:(k+1+vals.length)*e.sz=k*e.sz+e.sz+vals.length*e.sz:=by rw[Nat.add_mul,Nat.add_mul,Nat.one_mul]
  have e4:(k+(v::vals).length)*e.sz=k*e.sz+e.sz+vals.length*e.sz:=by simp only[List.length_cons,Nat.add_mul,Nat.one_mul];omega
  rw[e2,e3,e4];simp only[ZS];have eM:((List.range e.sz).map (elV e x (ips 0))).length=e.sz:=by simp
  generalize (List.range e.sz).map (elV e x (ips 0))=M at eM⊢;generalize hA:cells.toList.take (k*e.sz)=A at e1⊢;have eAM:(A++M).length=k*e.sz+e.sz:=by rw[List.length_append,e1,eM]
  rw[eM,List.take_left' eAM,←List.drop_drop,List.drop_left' eAM,List.drop_drop];simp only[List.append_assoc]
theorem Qa.mono [Glb] {rows:Rows} {loc:Loc} {w:World} {S S1:Fp} {L:Nat→Prop} {rows':Rows} (T:J8 rows rows' loc w S L S1) (H:Heap rows loc w S L):Sub2 S1 S:=fun b o h=>by
 obtain ⟨i,x,ex,hx⟩:=T.from_ b o h;exact H.inS i x ex b o hx
theorem Zh4 [Glb] {P:Program} {rows:Rows} {loc:Loc} {w:World} {S:Fp} {L:Nat→Prop} (H:Heap rows loc w S L) {fresh:Nat} (hid:rows fresh=none) {t:TypeId} {n:Nat} {e:E} (he:Xo P t=some e)
  {parts:List (Nat×TV)} {vparts:Array (Nat×Value)} {cvs:List CV} {l:List e.C} {us:Us} (ho:UC 0 parts=some cvs) (hp:U3 loc parts vparts.toList) (hn:cvs.length=n) (hle:n≤1000) (h:Vg rows e cvs=some (l,us)):
  ∃val w',(Instr.buildSlice t n vparts).run P w= .ok val w'∧Z4 rows loc w S L (us++[(fresh, .row true e l)]) (.c (.s (.slf fresh))) val w':=by
 obtain ⟨et,i,hu,hi,hsz,hby,hz,_⟩:=Vr he;obtain ⟨z,hz1,hz2⟩:=ZeC hz;obtain ⟨vals,hr,hv,hlen⟩:=Zhs ho hp;obtain ⟨S1,ips,T,hl,hcells,hin,hb,hsc⟩:=ZlR H h hr;have hsize:(sizeOf et).run P w= .ok e.sz w:=by rw[W5 hi];simp[Program.cellsOf,hi,hsz]
 have hln:vals.length=n:=by omega
 have hp3:e.sz≤3:=by cases e<;>decide
 have hcap: ¬n*e.sz>2^24:=by
  have:=Nat.mul_le_mul hle hp3;omega
 have hfill: ∀cells:Array Value,cells.size=n*e.sz→Instr.fill (fun i=>some (i*e.sz,e.sz)) cells vparts.toList=some (ZS e l ips).toArray:=by
  intro cells hs;rw[hv,Zk9 hl hcells (by rw[hs,hln];simp)];congr 2;have:(0+vals.length)*e.sz=cells.toList.length:=by simp[hs,hln]
  rw[this];simp
 have hrun:(Instr.buildSlice t n vparts).run P w= .ok (slV (some (w.heap.size,0)) ips.q n n) (w.alloc (.cells (ZS e l ips).toArray et)):=by
  unfold Instr.buildSlice;simp only[Sem.run_bind,run_underlying hu,Result.andThen_ok,hsize];rw[Zc hcap];by_cases h0:n*e.sz=0
  ·simp only[h0,if_true,Sem.run_bind,Sem.run_pure,Result.andThen_ok];rw[hfill _ (by simp[h0])];simp[newRow,slV,pt,adr]
  ·simp only[h0,if_false,Sem.run_bind,zeroValue,typeInfo,hi,run_program,hz1,Sem.run_pure,Result.andThen_ok];rw[hfill _ (by simp)];simp[newRow,slV,pt,adr]
 have hln2:l.length=n:=by omega
 obtain ⟨loc',h3,h4,h5,h6⟩:=Zif (S1:=S1) (l:=l) (ips:=ips) (c:=(ZS e l ips).toArray) (ty:=et) (cap:=n) T.heap (T.none _ hid) (Frame.refl _ w) rfl (fun j u hj=>by simpa using hj) (by omega) (by simp[Ka,hln2]) hin hb
  (fun b o h=>(T.apart b o h).2) (Qa.mono T H)
 refine ⟨_,_,hrun,Z4.ext (loc':=loc') (S':=Z7 S fun b _=>b=w.heap.size) (by rw[Qd];exact h3) (by rw[Wi,hsc];rfl) ?_ h4 (fun b o h=>h.imp_right fun h=>by omega) h6⟩;rw[hln2]at h5;exact Vj h5
theorem ZcI [Glb] (P:Program) {w:World} {e:E} {a:Option (Nat×Nat)} {cap:Nat} {l:List e.C} {ips:Ips} {ow:Bool} (h:Qq w ow e a cap l ips):
  (∀b o,a=some (b,o)→Uf w b o (ZS e l ips))∧(a=none→l=[]):=
 ⟨fun b o ea=>ZlJ (h.2.2.1 b o ea).1,fun ha=>by have:=h.2.1 ha;have:=h.1;exact List.eq_nil_of_length_eq_zero (by omega)⟩
theorem Zbj {w:World} {b o:Nat} {vs:List Value} (h:Uf w b o vs): ∀j v,vs[j]? =some v→w.cell? ((adr (b,o)).add j)=some v:=fun j v hj=>by rw[XU];exact h j v hj
theorem ZmK [Glb] {P:Program} {w:World} {t ty et:TypeId} {i:TypeInfo} {z:Value} {e:E} (hu:P.underlying t=some (.slice et)) (hi:P.info? et=some i) (hz:i.zero=some z) (hsz:i.size=e.sz) (hby:i.bytes=e.bytes)
  {a a2:Option (Nat×Nat)} {cap cap2:Nat} {l l2:List e.C} {ips ips2:Ips} {ow ow2:Bool} (h1:Qq w ow e a cap l ips) (h2:Qq w ow2 e a2 cap2 l2 ips2) (hmost:l.length+l2.length≤e.most):
  (l.length+l2.length≤cap∧ ∀w',(∀b o,a=some (b,o)→(storeCells (adr (b,o+l.length*e.sz)) (ZS e l2 ips2)).run P w= .ok () w')→(a=none→w'=w)→
   (Builtin.append_ #[t,t] ty #[slV a ips.q l.length cap,slV a2 ips2.q l2.length cap2]).run P w= .ok (slV a ips.q (l.length+l2.length) cap) w')∨
  (∃cap',l.length+l2.length≤cap'∧(Builtin.append_ #[t,t] ty #[slV a ips.q l.length cap,slV a2 ips2.q l2.length cap2]).run P w=
   .ok (slV (some (w.heap.size,0)) ips.q (l.length+l2.length) cap') (w.drew.alloc (.cells ((ZS e l ips).toArray++(ZS e l2 ips2).toArray++Builtin.zeroCells z.cells (cap'-(l.length+l2.length))) et))):=by
 obtain ⟨f1,n1⟩:=ZcI P h1;obtain ⟨f2,n2⟩:=ZcI P h2;by_cases hroom:l.length+l2.length≤cap
 ·left;refine ⟨hroom,fun w' hst hno=> ?_⟩;have hf2:(Builtin.firstCells e.sz l2.length (slV a2 ips2.q l2.length cap2)).run P w= .ok (ZS e l2 ips2).toArray w:=by
   cases a2 with
   |none=>
    rw[n2 rfl];simp only[slV,pt];cases ips2.q with
    |none=>simp[Builtin.firstCells,ZS]
    |some x=>simp[Builtin.firstCells,ZS,loadCells,loadCellsFrom]
   |some p=>exact run_firstCells_some (P:=P) w e.sz l2.length (adr p) _ _ _ (Ka e l2 ips2) (Zbj (f2 p.1 p.2 rfl))
  cases a with
  |none=>
   obtain rfl:=hno rfl;have:l=[]:=n1 rfl;subst this;have hc0:=h1.2.1 rfl;have:l2=[]:=List.eq_nil_of_length_eq_zero (by simp at hroom;omega);subst this;simp only[slV,List.length_nil,ZS,pt]at hf2⊢;cases ips.q with
   |none=>simp[Builtin.append_,run_underlying hu,sizeOf,typeInfo,hi,hsz,Builtin.lenOf,hf2]
   |some x=>simp[Builtin.append_,run_underlying hu,sizeOf,typeInfo,hi,hsz,Builtin.lenOf,hf2,storeCells]
  |some p=>
   have hs:=hst p.1 p.2 rfl;simp only[slV,pt]at hf2⊢;have hadd:(adr p).add (l.length*e.sz)=adr (p.1,p.2+l.length*e.sz):=XU p.1 p.2 _;simp[Builtin.append_,run_underlying hu,sizeOf,typeInfo,hi,hsz,Builtin.lenOf,hroom,hf2,hadd,hs]
 ·right;have hm:0<l2.length:=by have:=h1.1;omega
  cases a2 with
  |none=>rw[n2 rfl]at hm;simp at hm
  |some p2=>
   have hb47:(l.length+l2.length)*i.bytes≤140737488355328:=by
    rw[hby];cases e<;>simp only[E.bytes,E.most]at hmost⊢ <;>omega
   have h63:((l.length+l2.length:Nat):Int)≤9223372036854775807:=by cases e<;>simp only[E.most]at hmost<;>omega
   cases a with
   |none=>
    have hl0:l=[]:=n1 rfl;subst hl0;obtain ⟨hc0,_⟩:=h1.2.1 rfl;subst hc0;simp only[List.length_nil,Nat.zero_add]at hb47 h63⊢;cases hq:ips.q with
    |some x=>
     have:=run_append_grow (P:=P) w t ty et i z hu hi hz x 0 0 [] (by simp) (fun j v h=>by simp at h) (adr p2) l2.length cap2 (ZS e l2 ips2) (by rw[Ka,hsz]) (Zbj (f2 p2.1 p2.2 rfl))
      (by omega) (by omega) (growslice_fits (by omega) (by simpa using hb47))
     refine ⟨_,grownCap_ge w _ 0 et,?_⟩;simp only[slV,pt,adr,ZS,Nat.zero_add,List.nil_append]at this⊢;exact this
    |none=>
    have:=run_append_nil (P:=P) w t ty et i z hu hi hz (adr p2) l2.length cap2 (ZS e l2 ips2) (by rw[Ka,hsz]) (Zbj (f2 p2.1 p2.2 rfl)) hm h63 (by omega);exact ⟨_,grownCap_ge w l2.length 0 et,by simpa [slV,pt,adr,ZS] using this⟩
   |some p=>
    have:=run_append_grow (P:=P) w t ty et i z hu hi hz (adr p) l.length cap (ZS e l ips) (by rw[Ka,hsz]) (Zbj (f1 p.1 p.2 rfl)) (adr p2) l2.length cap2 (ZS e l2 ips2) (by rw[Ka,hsz]) (Zbj (f2 p2.1 p2.2 rfl))
     (by omega) h63 (growslice_fits (by omega) hb47)
    exact ⟨_,grownCap_ge w _ cap et,by simpa [slV,pt,adr] using this⟩
def Xi (n:Nat) (p q:Ips):Ips:=⟨fun i=>if i<n then p i else q (i-n),p.q⟩
theorem Zla [Glb] (e:E) (l l2:List e.C) (p q:Ips):ZS e (l++l2) (Xi l.length p q)=ZS e l p++ZS e l2 q:=by
 rw[ZfD];congr 1
 ·exact Zd7 e l _ _ fun i hi=>by simp[Xi,hi]
 ·exact Zd7 e l2 _ _ fun i hi=>by simp[Xi,show¬i+l.length<l.length by omega]
theorem Zjb {w w':World} {e:E} {l l2:List e.C} {p q:Ips} {out:Option Nat} {o1 o2:Option Nat} (h1:YZ w true o1 e l p) (h2:e= .n→YZ w true o2 e l2 q)
  (f1:e= .n→ ∀i x,i<l.length→JT w true x (p i)→JT w' true x (p i)) (f2:e= .n→ ∀i x,i<l2.length→JT w true x (q i)→JT w' true x (q i))
  (hd:e= .n→ ∀i j,i<l.length→j<l2.length→ ∀b o b' o',(p i).a=some (b,o)→(q j).a=some (b',o')→b≠b')
  (ho:e= .n→ ∀i,i<l.length→ ∀b o,(p i).a=some (b,o)→out≠some b) (ho2:e= .n→ ∀i,i<l2.length→ ∀b o,(q i).a=some (b,o)→out≠some b):YZ w' true out e (l++l2) (Xi l.length p q):=by
 cases e with
 |n=>
  obtain ⟨a1,a2⟩:=h1;obtain ⟨b1,b2⟩:=h2 rfl;refine ⟨fun i hi=> ?_,fun _=>⟨fun i j hi hj hij b o b' o' e1 e2=> ?_,fun i hi b o ep=> ?_⟩⟩
  ·have hi':=hi;simp only[List.length_append]at hi';by_cases h:i<l.length
   ·have:=f1 rfl i l[i] h (a1 i h);rw[List.getElem_append_left h];simpa only[Xi,h,if_true] using this
   ·have:=f2 rfl (i-l.length) (l2[i-l.length]'(by omega)) (by omega) (b1 _ (by omega));rw[List.getElem_append_right (by omega)];simpa only[Xi,h,if_false] using this
  ·have hi':=hi;have hj':=hj;simp only[List.length_append]at hi' hj';by_cases h:i<l.length<;>by_cases k:j<l.length<;>simp only[Xi,h,k,if_true,if_false]at e1 e2
   ·exact (a2 rfl).1 i j h k hij b o b' o' e1 e2
   ·exact hd rfl i _ h (by omega) b o b' o' e1 e2
   ·exact fun hb=>hd rfl j _ k (by omega) b' o' b o e2 e1 hb.symm
   ·exact (b2 rfl).1 _ _ (by omega) (by omega) (by omega) b o b' o' e1 e2
  ·have hi':=hi;simp only[List.length_append]at hi';by_cases h:i<l.length<;>simp only[Xi,h,if_true,if_false]at ep
   ·exact ho rfl i h b o ep
   ·exact ho2 rfl _ (by omega) b o ep
 |_=>trivial
theorem Zja {w:World} {e:E} {l:List e.C} {p:Ips} {o1:Option Nat} (h:YZ w true o1 e l p):YZ w true none e l p:=by
 cases e with
 |n=>exact ⟨h.1,fun ho=>⟨(h.2 ho).1,fun _ _ _ _ _ hh=>by cases hh⟩⟩
 |_=>trivial
theorem Zd3 [Glb] {P:Program} {rows rows2:Rows} {loc:Loc} {w:World} {S S1:Fp} {L:Nat→Prop} (H:Heap rows loc w S L) (T:J8 rows rows2 loc w S L S1) {fresh:Nat} (hid:rows2 fresh=none) {t ty:TypeId} {e:E} (he:Xo P t=some e)
  {l l2:List e.C} {a a2:Option (Nat×Nat)} {cap cap2:Nat} {ips ips2:Ips} {ow2:Bool} (R1:Qq w true e a cap l ips) (B1: ∀b,Y9 a l.length e ips b→ ∀o,S1 b o)
  (R2:Qq w ow2 e a2 cap2 l2 ips2) (I2:e= .n→ow2=true∧(∀b,Y9 a2 l2.length e ips2 b→ ∀o,S1 b o)∧ ∀b,Y9 a l.length e ips b→ ¬Y9 a2 l2.length e ips2 b)
  {us:Us} (hus:Zj rows us=rows2) (hsc:Q2 us=[]) (hmost:l.length+l2.length≤e.most):
  ∃val w',(Builtin.append_ #[t,t] ty #[slV a ips.q l.length cap,slV a2 ips2.q l2.length cap2]).run P w= .ok val w'∧Z4 rows loc w S L (us++[(fresh, .row true e (l++l2))]) (.c (.s (.slf fresh))) val w':=by
 obtain ⟨et,i,hu,hi,hsz,hby,hz,_⟩:=Vr he;obtain ⟨z,hz1,hz2⟩:=ZeC hz;have hS1:Sub2 S1 S:=Qa.mono T H;have hp:=Zia e;have pl1:e= .n→ ∀i,i<l.length→ ∀b o,(ips i).a=some (b,o)→Y9 a l.length e ips b:=fun en i hi b o ep=> .inr ⟨en,i,hi,o,ep⟩;have pl2:e= .n→ ∀i,i<l2.length→ ∀b o,(ips2 i).a=some (b,o)→Y9 a2 l2.length e ips2 b:=fun en i hi b o ep=> .inr ⟨en,i,hi,o,ep⟩;have hi2:e= .n→YZ w true (a2.map (·.1)) e l2 ips2:=fun en=>by
  have:=(I2 en).1;subst this;exact R2.2.2.2
 have hdis:e= .n→ ∀i j,i<l.length→j<l2.length→ ∀b o b' o',(ips i).a=some (b,o)→(ips2 j).a=some (b',o')→b≠b':=fun en i j hi hj b o b' o' e1 e2 hb=>by
  subst hb;exact (I2 en).2.2 b (pl1 en i hi b o e1) (pl2 en j hj b o' e2)
 rcases ZmK (ty:=ty) hu hi hz1 hsz hby R1 R2 hmost with ⟨hroom,hrun⟩| ⟨cap',hcap',hrun⟩
 ·
  have hw: ∃w',(∀b o,a=some (b,o)→(storeCells (adr (b,o+l.length*e.sz)) (ZS e l2 ips2)).run P w= .ok () w'∧ ∀j v,(ZS e l2 ips2)[j]? =some v→w'.cell? (adr (b,o+l.length*e.sz+j))=some v)∧(a=none→w'=w)∧
    Frame (fun b' o'=> ∃o,a=some (b',o)∧o+l.length*e.sz≤o') w w':=by
   cases a with
   |none=>exact ⟨w,⟨(fun b o h=>by cases h),(fun _=>rfl),Frame.refl _ _⟩⟩
   |some p=>
    obtain ⟨b,o⟩:=p;have hob:=(R1.2.2.1 b o rfl).2 rfl;have hle:o+l.length*e.sz+0+(ZS e l2 ips2).length≤o+cap*e.sz:=by
     rw[Ka];have:=Nat.mul_le_mul_right e.sz hroom;rw[Nat.add_mul]at this;omega
    obtain ⟨w',h1,h2,h3⟩:=Zac P b (o+l.length*e.sz) (o+cap*e.sz) (ZS e l2 ips2) 0 w hob hle (Zlb e l2 ips2);refine ⟨w',fun b' o' hh=> ?_,(fun h=>by cases h),h3.mono fun b' o' hh=>⟨o,by rw[hh.1],by omega⟩⟩;simp only[Zg,Zz]at hh;obtain ⟨rfl,rfl⟩:=hh;refine ⟨h1,fun j v hj=> ?_⟩;obtain ⟨hlt,rfl⟩:=List.getElem?_eq_some_iff.1 hj;exact h2 j hlt
  obtain ⟨w',hst,hno,hf⟩:=hw;refine ⟨_,w',hrun w' (fun b o h=>(hst b o h).1) hno,?_⟩;have hblk: ∀b' o',(∃o,a=some (b',o)∧o+l.length*e.sz≤o')→S1 b' o':=fun b' o' ⟨o,ha,_⟩=>B1 b' (.inl ⟨o,ha⟩) o';have hfS:Frame S w w':=hf.mono fun b o h=>hS1 b o (hblk b o h);have Hf:Heap rows2 loc w' S L:=T.heap.frame hf (fun i x ex b o ho hh=>(T.apart b o ⟨i,x,ex,ho⟩).2 (hblk b o hh)) (fun b hb o hh=>H.dis b o (hS1 b o (hblk b o hh)) hb);have hout:e= .n→ ∀i,i<l.length→ ∀b o,(ips i).a=some (b,o)→a.map (·.1)≠some b:=fun en=>by
   have:=R1.2.2.2;cases e with
   |n=>exact fun i hi b o ep=>(this.2 rfl).2 i hi b o ep
   |_=>cases en
  have hat:Qq w' true e a cap (l++l2) (Xi l.length ips ips2):=by
   refine ⟨by simpa using hroom,R1.2.1,fun b o ha=>⟨?_,fun _=>hf.ownB ((R1.2.2.1 b o ha).2 rfl)⟩,?_⟩
   ·have hflat:Uf w' b o (ZS e (l++l2) (Xi l.length ips ips2)):=by
     intro j v hj;rw[Zla]at hj;by_cases hlt:j< (ZS e l ips).length
     ·rw[List.getElem?_append_left hlt]at hj;rw[Ka]at hlt;have hc:=ZlJ (R1.2.2.1 b o ha).1 j v hj;rw[hf.cell (Uq hc)]
      ·exact hc
      ·rintro ⟨o',h1,h2⟩;rw[ha]at h1;simp only[Zg,Zz,true_and]at h1;omega
     ·rw[List.getElem?_append_right (by omega)]at hj;rw[Ka]at hj hlt;have:=(hst b o ha).2 _ v hj;rw[show o+j=o+l.length*e.sz+(j-l.length*e.sz) by omega];exact this
    exact hflat.row
   ·refine Zjb R1.2.2.2 hi2 (fun en i x hi hin=> ?_) (fun en i x hi hin=> ?_) hdis hout (fun en i hi b o ep hh=> ?_)
    ·refine hin.frame hf fun b o ep _ o'=> ?_;rintro ⟨o1,ha,_⟩;exact hout en i hi b o ep (by rw[ha];rfl)
    ·refine hin.frame hf fun b o ep _ o'=> ?_;rintro ⟨o1,ha,_⟩;exact (I2 en).2.2 b (.inl ⟨o1,ha⟩) (pl2 en i hi b o ep)
    ·cases a with
     |none=>cases hh
     |some p=>
      simp only[Option.map_some,Zg]at hh;subst hh;exact (I2 en).2.2 p.1 (.inl ⟨p.2,rfl⟩) (pl2 en i hi _ o ep)
  have hpl: ∀b,Y9 a (l++l2).length e (Xi l.length ips ips2) b→ ∀o,S1 b o:=by
   rintro b (⟨o,ha⟩| ⟨en,i,hi,o,ep⟩) o'
   ·exact B1 b (.inl ⟨o,ha⟩) o'
   ·simp only[List.length_append]at hi;by_cases h:i<l.length<;>simp only[Xi,h,if_true,if_false]at ep
    ·exact B1 b (pl1 en i h b o ep) o'
    ·exact (I2 en).2.1 b (pl2 en _ (by omega) b o ep) o'
  have Hw:Heap rows2 loc w' (Z7 S S1) L:=Hf.weaken (fun _ _ h=> .inl h) (fun b o h=>h.elim (Hf.dis b o) fun h=>Hf.dis b o (hS1 b o h)) (fun b o h=>h.elim (Hf.ltS b o) fun h=>Hf.ltS b o (hS1 b o h));obtain ⟨loc',k1,k2,k3⟩:=Zjs Hw hid hat hpl (fun b o h=>(T.apart b o h).2);refine Z4.ext (loc':=loc') (S':=Z7 S S1) (by rw[Qd,hus];exact k1) (by rw[Wi,hsc];rfl) ?_ k2 (fun b o h=> .inl (h.elim id (hS1 b o))) hfS;rw[List.length_append]at k3;exact Vj k3
 ·
  refine ⟨_,_,hrun,?_⟩;have hcells: ∀(j:Nat) (v:Value),(ZS e (l++l2) (Xi l.length ips ips2))[j]? =some v→((ZS e l ips).toArray++(ZS e l2 ips2).toArray++Builtin.zeroCells z.cells (cap'-(l.length+l2.length)))[j]? =some v:=by
   intro j v hj;rw[Zla]at hj;obtain ⟨hlt,_⟩:=List.getElem?_eq_some_iff.1 hj;rw[Array.getElem?_append_left (by simpa using hlt)];simpa using hj
  have hzs:(Builtin.zeroCells z.cells (cap'-(l.length+l2.length))).size=(cap'-(l.length+l2.length))*e.sz:=by
   rw[hz2];simp[Builtin.zeroCells]
  have hsize:cap'*e.sz≤((ZS e l ips).toArray++(ZS e l2 ips2).toArray++Builtin.zeroCells z.cells (cap'-(l.length+l2.length))).size:=by
   simp only[Array.size_append,List.size_toArray,Ka,hzs,←Nat.add_mul];exact Nat.mul_le_mul_right _ (by omega)
  have hin:YZ w true none e (l++l2) (Xi l.length ips ips2):=Zjb (Zja R1.2.2.2) (fun en=>Zja (hi2 en)) (fun _ _ _ _ h=>h) (fun _ _ _ _ h=>h) hdis (fun _ _ _ _ _ _ h=>by cases h) (fun _ _ _ _ _ _ h=>by cases h);obtain ⟨loc',h3,h4,h5,h6⟩:=Zif (w1:=w.drew) (S1:=S1) (ty:=et) T.heap hid (Zd9 _ w) rfl hcells (by simpa using hcap') hsize hin
   (by
    rintro b ⟨en,i,hi,o,ep⟩ o';simp only[List.length_append]at hi;by_cases h:i<l.length<;>simp only[Xi,h,if_true,if_false]at ep
    ·exact B1 b (pl1 en i h b o ep) o'
    ·exact (I2 en).2.1 b (pl2 en _ (by omega) b o ep) o')
   (fun b o h=>(T.apart b o h).2) hS1
  refine Z4.ext (loc':=loc') (S':=Z7 S fun b _=>b=w.heap.size) (by rw[Qd,hus];exact h3) (by rw[Wi,hsc];rfl) ?_ h4 (fun b o h=>h.imp_right fun h=>by omega) h6;rw[List.length_append]at h5;exact Vj h5
theorem ZlZ [Glb] {P:Program} {rows:Rows} {loc:Loc} {w:World} {S:Fp} {L:Nat→Prop} (H:Heap rows loc w S L) {fresh:Nat} (hid:rows fresh=none) {t ty:TypeId} {tv tx:TV} {v x:Value} {f:F} (hv:ZK loc tv v) (hx:ZK loc tx x)
  (h:Uj P rows fresh t tv tx=some f) (hc: ∀c,c∈f.checks→c=true):
  ∃val w',(Builtin.append_ #[t,t] ty #[v,x]).run P w= .ok val w'∧Z4 rows loc w S L f.us f.v val w':=by
 unfold Uj at h;split at h
 ·rename_i sv sx;split at h
  ·rename_i e he;split at h
   ·rename_i l io h1;split at h
    ·rename_i l2 io2 h2;have nv:sv≠ .undef:=by rintro rfl;simp[Qv]at h1
     have nx:sx≠ .undef:=by rintro rfl;simp[Qv]at h2
     have rv:=Vn hv nv;have rx:=Vn hx nx;cases hb:(Zsi io&&ZrL e io2)with
     |false=>rw[hb]at h;cases h
     |true=>
      rw[hb,Zb]at h;simp only[Zg]at h;subst h;simp only[Bool.and_eq_true]at hb;obtain ⟨ok1,ok2⟩:=hb;have hmost:l.length+l2.length≤e.most:=by simpa using hc _ (List.mem_singleton.2 rfl)
      have k1:QQ rows (.sl true e) sv=some (l,WJ io,[]):=by
       simp only[QQ,h1];cases io with
       |none=>rfl
       |some p=>obtain ⟨id,o⟩:=p;cases ok1;rfl
      obtain ⟨S1,T1,_,g1⟩:=ZcG H k1 rv;obtain ⟨a,cap,ips,ev,R1,B1⟩:=g1 false _ (.refl _) rfl;by_cases hn:e= .n
      ·subst hn;have k2:QQ (Zj rows (WJ io)) (.sl true .n) sx=some (l2,WJ io2,[]):=by
        simp only[QQ,h2];cases io2 with
        |none=>rfl
        |some p=>obtain ⟨id,o⟩:=p;cases ok2;rfl
       obtain ⟨S2,T2,_,g2⟩:=ZcG T1.heap k2 rx;obtain ⟨a2,cap2,ips2,ex,R2,B2⟩:=g2 false _ (.refl _) rfl;obtain ⟨T,hd⟩:=T1.trans T2;rw[ev,ex];refine Zd3 H T (T.none _ hid) he R1 (fun b hb o=> .inl (B1 b hb o)) R2 (fun _=>⟨rfl,fun b hb o=> .inr (B2 b hb o),fun b hb hb2=>hd b 0 (B1 b hb 0) (B2 b hb2 0)⟩) (Qd _ _ _) ?_ hmost;cases io<;>cases io2<;>rfl
      ·have e2:ZnC e io2=[]:=by
        cases e<;>first|rfl|exact absurd rfl hn
       have hsc:Q2 (WJ io)=[]:=by cases io<;>rfl
       rw[e2,List.append_nil];rcases ZaK T1.heap h2 rx with ⟨_,el,ex⟩| ⟨id,o,e',row,ow,a2,cap2,ips2,_,_,ex,R2,_⟩
       ·subst el;rw[ev,ex];have R2:Qq w true e none 0 [] ⟨fun _=>⟨none,0,0,none⟩,none⟩:=⟨Nat.le_refl _,fun _=>⟨rfl, .inl rfl⟩,(fun b o h=>by cases h),ZfX w none e 0⟩;exact Zd3 H T1 (T1.none _ hid) he R1 B1 R2 (fun en=>absurd en hn) rfl hsc hmost
       ·rw[ev,ex];exact Zd3 H T1 (T1.none _ hid) he R1 B1 R2 (fun en=>absurd en hn) rfl hsc hmost
    ·cases h
   ·cases h
  ·cases h
 ·cases h
def ZoX (P:Program) (a:Act) (o:Oper) (w:World) (val:Value) (w':World):Prop:=
 (execOp a.eval o).run P w= .ok (.value val) w'∨((execOp a.eval o).run P w= .ok .skip w'∧val=undef)
theorem VL {P:Program} {w w':World} {s:Sem Value} {val:Value} (h:s.run P w= .ok val w'):(do pure (Next.value (←s)):Sem Next).run P w= .ok (.value val) w':=by
 simp[h]
theorem Zsx {P:Program} {w w':World} {s:Sem Unit} (h:s.run P w= .ok () w'):(do s;pure Next.skip:Sem Next).run P w= .ok .skip w':=by
 simp[h]
theorem YY.get? {loc:Loc}: ∀{l:List CV} {vs:List Value} {k:Nat} {x:CV},YY loc l vs→l[k]? =some x→ ∃v,vs[k]? =some v∧Ym loc x v
 | [],[],k,x,_,h=>by simp at h
 |_::_,v::_,0,x,r,h=>by simp only[List.getElem?_cons_zero,Zg]at h;subst h;exact ⟨v,rfl,r.1⟩
 |_::_,_::_,k+1,x,r,h=>by simp only[List.getElem?_cons_succ]at h⊢;exact YY.get? r.2 h
 | [],_::_,_,_,r,_=>r.elim
 |_::_,[],_,_,r,_=>r.elim
theorem Znc (s:ByteArray) (i:Int) (h0:0≤i) (h1:i< (s.size:Int)): ∃b:UInt8,s[i.toNat]? =some b∧bt s i=(b.toNat:Int):=by
 have hlt:i.toNat<s.size:=by omega
 refine ⟨s[i.toNat],by simp[hlt],?_⟩;have hl:i.toNat<s.data.toList.length:=by
  have:s.data.size=s.size:=rfl;simp only[Array.length_toList];omega
 simp only[bt,List.getD_eq_getElem?_getD,List.getElem?_eq_getElem hl,Option.getD_some];rfl
theorem Zct [Glb] {P:Program} {st:St} {loc:Loc} {a:Act} {w:World} {S:Fp} {L:Nat→Prop} (H:Heap st.rows loc w S L) (ht: ∀t,ZK loc (st.tmps t) (a.tmps.getD t undef)) {fresh:Nat} (hid:st.rows fresh=none)
  {o:Oper} {op:Op} (ho:o.op=op) {f:F} (h:Qe P fresh st op=some f) (hc: ∀c,c∈f.checks→c=true): ∃val w',ZoX P a o w val w'∧Z4 st.rows loc w S L f.us f.v val w':=by
 have ev:=fun x=>Znr ht x;have q: ∀{s:Sem Value} {val:Value},(execOp a.eval o)=(do pure (Next.value (←s)):Sem Next)→s.run P w= .ok val w→f.us=[]→ZK loc f.v val→ ∃val w',ZoX P a o w val w'∧Z4 st.rows loc w S L f.us f.v val w':=
  fun he hr hus hv=>⟨_,_, .inl (by rw[he];exact VL hr),by rw[hus];exact Z4.quiet H hv⟩
 have q1: ∀{val:Value},(execOp a.eval o)=(pure (Next.value val):Sem Next)→f.us=[]→ZK loc f.v val→ ∃val w',ZoX P a o w val w'∧Z4 st.rows loc w S L f.us f.v val w':=
  fun he hus hv=>⟨_,_, .inl (by rw[he];rfl),by rw[hus];exact Z4.quiet H hv⟩
 unfold Qe at h;split at h
 ·
  rename_i x;simp only[Zg]at h;subst h;exact q1 (by simp only[execOp,ho]) rfl (ev x)
 ·
  rename_i x;simp only[Zg]at h;subst h;exact q1 (by simp only[execOp,ho]) rfl (ev x)
 ·
  rename_i t;split at h
  ·rename_i cs hz;simp only[Zg]at h;subst h;unfold zeroCells at hz;split at hz
   ·rename_i i hi;split at hz
    ·rename_i vs hzv;cases hk:okL (vs.toList.map V0)with
     |false=>rw[hk]at hz;cases hz
     |true=>
      rw[hk,Zb]at hz;simp only[Zg]at hz;subst hz;refine ⟨_,_, .inl ?_,Zp5 H hid (Zcq loc vs.toList) (Zir hk) t⟩;simp only[execOp,ho];refine VL ?_;simp[Instr.alloc,zeroValue,typeInfo,hi,hzv,newVar,newRow,Value.cells]
    ·cases hz
   ·cases hz
  ·cases h
 ·
  rename_i t x;split at h
  ·rename_i cs hcs;simp only[Zg]at h;subst h;obtain ⟨vs,hvs,hr,hk⟩:=Zd4 hcs (ev x);refine ⟨_,_, .inl ?_,Zp5 H hid hr hk t⟩;simp only[execOp,ho];refine VL ?_;simp[Instr.box,newVar,newRow,hvs]
  ·cases h
 ·
  rename_i t parts;split at h
  ·rename_i fs cs hu hz;cases hf:Zcu P fs.toList with
   |false=>rw[hf]at h;cases h
   |true=>
    rw[hf,Zb]at h;split at h
    ·rename_i cs' hfill;simp only[Zg]at h;subst h;obtain ⟨vs,hr,hrel⟩:=Zo2 (w:=w) (vparts:=parts.map fun (i,x)=>(i,a.eval x)) hu hz hfill (by simpa using ZhZ ht parts.toList) hf;exact q (by simp only[execOp,ho]) hr rfl ⟨vs,rfl,hrel⟩
    ·cases h
  ·cases h
 ·
  rename_i t n parts;split at h
  ·rename_i e vs he hio;cases hb:(Nat.beq vs.length n&&Nat.ble n 1000)with
   |false=>rw[hb]at h;cases h
   |true=>
    rw[hb,Zb]at h;simp only[Bool.and_eq_true]at hb;split at h
    ·rename_i l us hel;simp only[Zg]at h;subst h;obtain ⟨val,w',hr,hd⟩:=Zh4 (vparts:=parts.map fun (i,x)=>(i,a.eval x)) H hid he hio (by simpa using ZhZ ht parts.toList) (Nat.eq_of_beq_eq_true hb.1) (Nat.le_of_ble_eq_true hb.2) hel;exact ⟨_,_, .inl (by simp only[execOp,ho];exact VL hr),hd⟩
    ·cases h
  ·cases h
 ·
  rename_i t x;obtain ⟨val,hr,_,hus,hv⟩:=Zln H (ev x) h;exact q (by simp only[execOp,ho]) hr hus hv
 ·
  rename_i t x y;obtain ⟨hv,w',hr,hd⟩:=Zoy H (ev x) (ev y) h hc;exact ⟨_,_, .inr ⟨by simp only[execOp,ho];exact Zsx hr,rfl⟩,by rw[hv];exact hd⟩
 ·
  rename_i x;have hx:=ev x;split at h
  ·rename_i id off e;rw[e]at hx;simp only[Qj,Zg]at h;subst h;obtain ⟨b,o',n,el,hv⟩:=hx;exact q1 (val:=a.eval x) (by simp only[execOp,ho,hv]) rfl ⟨b,o',n,el,hv⟩
  ·rename_i id i off e;rw[e]at hx;simp only[Qj,Zg]at h;subst h;have hx2:=hx;obtain ⟨b,o',cap,len,e,ips,el,h1,h2,hv⟩:=hx2;exact q1 (val:=a.eval x) (by simp only[execOp,ho,hv]) rfl hx
  ·cases h
 ·
  rename_i op t x y _;obtain ⟨val,hr,hus,hv⟩:=Zqo (w:=w) (ev x) (ev y) h hc x y;exact q (by simp only[execOp,ho]) hr hus hv
 ·
  rename_i x;have hx:=ev x;split at h
  ·rename_i b e;rw[e]at hx;simp only[Qj,Zg]at h;subst h;have hx:a.eval x= .bool b:=hx;exact q (s:=Op.unary .not (a.eval x)) (val:= .bool !b) (by simp only[execOp,ho]) (by simp[hx,Op.unary]) rfl rfl
  ·cases h
 ·
  rename_i src dst x;obtain ⟨val,hr,_,hus,hv⟩:=Zo8 H (ev x) h;exact q (by simp only[execOp,ho]) hr hus hv
 ·
  rename_i t l c;cases hs:ZnW l c with
  |false=>rw[hs]at h;cases h
  |true=>
   rw[hs,Zb]at h;have hl:a.eval l=a.eval c:=by
    unfold ZnW at hs;split at hs
    ·rw[Nat.eq_of_beq_eq_true hs]
    ·rw[Nat.eq_of_beq_eq_true hs]
    ·cases hs
   obtain ⟨val,w',hr,hd⟩:=Zpt H hid (ev l) h hc;exact ⟨_,_, .inl (by simp only[execOp,ho,←hl];exact VL hr),hd⟩
 ·
  rename_i t x lo hi;have hO: ∀y:Option Operand,Zsa loc (KI st y) (y.map a.eval):=fun y=>by
   cases y with
   |none=>trivial
   |some y=>exact ev y
  obtain ⟨val,hr,hus,hv⟩:=Zon H (ev x) (hO lo) (hO hi) h hc;exact q (by simp only[execOp,ho];rfl) hr hus hv
 ·
  rename_i t x k;have hx:=ev x;split at h
  ·rename_i o1 ft id off hf e;rw[e]at hx;simp only[Qj,Zg]at h;subst h;obtain ⟨b,o',n,el,hv⟩:=hx;exact q (s:=Instr.fieldAt t (a.eval x) k) (by simp only[execOp,ho]) (by rw[hv];exact ZfA hf b _ w) rfl ⟨b,o',n,el,by rw[Nat.add_assoc]⟩
  ·rename_i o1 ft id i off hf e;rw[e]at hx;simp only[Qj,Zg]at h;subst h;obtain ⟨b,o',cap,len,e,ips,el,h1,h2,hv⟩:=hx;exact q (s:=Instr.fieldAt t (a.eval x) k) (by simp only[execOp,ho]) (by rw[hv];exact ZfA hf b _ w) rfl ⟨b,o',cap,len,e,ips,el,h1,h2,by rw[Nat.add_assoc]⟩
  ·cases h
 ·
  rename_i t x k;have hx:=ev x;split at h
  ·rename_i o1 ft cs hf e;rw[e]at hx;obtain ⟨vs,hv,hrel⟩:=hx;obtain ⟨fs,fd,i,hu,hfd,ho1,hft,hi,_⟩:=Zdj hf;obtain ⟨val,hr,_,hus,hv'⟩:=ZqY (w:=w) hrel h;refine q (s:=Instr.field t (a.eval x) k) (by simp only[execOp,ho]) ?_ hus hv';subst ho1 hft;simp only[Instr.field,Sem.run_bind,run_underlying hu,Result.andThen_ok,hfd,hv,asAgg,Sem.run_pure];exact hr
  ·cases h
 ·
  rename_i t x ix;have hx:=ev x;have hix:=ev ix;split at h
  ·rename_i e sv k i he e1 e2;rw[e1]at hx;rw[e2]at hix;have hn:sv≠ .undef:=by rintro rfl;simp[K5]at h
   have hix:a.eval ix= .int k i:=hix;obtain ⟨val,hr,hus,hv⟩:=ZqK (k:=k) H he (Vn hx hn) h hc;exact q (s:=Instr.indexAt t (a.eval x) (a.eval ix)) (by simp only[execOp,ho]) (by rw[hix];exact hr) hus hv
  ·cases h
 ·
  rename_i t x ix;have hx:=ev x;have hix:=ev ix;split at h
  ·rename_i s k i hu e1 e2;rw[e1]at hx;rw[e2]at hix;simp only[Zg]at h;subst h;have hx:a.eval x= .string s:=hx;have hix:a.eval ix= .int k i:=hix;have h0:0≤i:=by simpa using hc (decide (0≤i)) (by simp)
   have h1:i< (s.size:Int):=by simpa using hc (decide (i< (s.size:Int))) (by simp)
   obtain ⟨b,hb,hbt⟩:=Znc s i h0 h1;refine q (s:=Instr.index t (a.eval x) (a.eval ix)) (val:= .int .u8 b.toNat) (by simp only[execOp,ho]) ?_ rfl ?_
   ·simp[Instr.index,hix,asIntOf,run_underlying hu,hx,h0,hb]
   ·show _=_;rw[hbt]
  ·cases h
 ·
  rename_i x k;have hx:=ev x;split at h
  ·rename_i l e;rw[e]at hx;obtain ⟨vs,hv,hrel⟩:=hx;split at h
   ·rename_i cv hcv;simp only[Zg]at h;subst h;obtain ⟨val,hval,hvr⟩:=hrel.get? hcv;exact q (s:=Instr.extract (a.eval x) k) (by simp only[execOp,ho]) (by simp[Instr.extract,hv,hval]) rfl hvr
   ·cases h
  ·cases h
 ·cases h
theorem ZfF {R:Type} {x:Option R} {r:R} {cs:List Bool} (h:Zi5 cs x=some r):(∀c,c∈cs→c=true)∧x=some r:=by
 induction cs with
 |nil=>exact ⟨(fun c hc=>by cases hc),h⟩
 |cons c cs ih=>
  cases c with
  |false=>simp[Zi5]at h
  |true=>
   obtain ⟨h1,h2⟩:=ih h;exact ⟨(fun c hc=>by cases hc with|head=>rfl|tail _ hc=>exact h1 c hc),h2⟩
theorem Zmj {R:Type} (x:Option R) {cs:List Bool} (h: ∀c,c∈cs→c=true):Zi5 cs x=x:=by
 induction cs with
 |nil=>rfl
 |cons c cs ih=>
  have:=h c (by simp);subst this;exact ih fun c hc=>h c (by simp[hc])
theorem Zjr [Glb] {P:Program} {loc:Loc} {w:World} {g:Int→Int→Int} {m2:Value→Value→Sem Value} (hm: ∀k x y,m2 (.int k x) (.int k y)=pure (.int k (g x y))) {tvs:List TV} {vs:List Value} {f:F}
  (h:Zlr g tvs=some f) (hv:Jp loc tvs vs): ∃x y val,vs=[x,y]∧(([y]:List Value).foldlM m2 x).run P w= .ok val w∧f.checks=[]∧f.us=[]∧ZK loc f.v val:=by
 unfold Zlr at h;split at h
 ·rename_i k a k' b;cases hk:KC k k' with
  |false=>rw[hk]at h;cases h
  |true=>
   obtain rfl:=ZbB hk;rw[hk,Zb]at h;simp only[Qj,Zg]at h;subst h
   match vs,hv with
   | [x,y],hv=>
    have hx:x= .int k a:=hv.1;have hy:y= .int k b:=hv.2.1;subst hx hy;exact ⟨_,_, .int k (g a b),rfl,by simp[hm],rfl,rfl,rfl⟩
   | [],hv=>exact hv.elim
   | [_],hv=>exact hv.2.elim
   |_::_::_::_,hv=>exact hv.2.2.elim
 ·cases h
theorem Zp2 [Glb] {loc:Loc} {st:St} {a:Act} (h: ∀t,ZK loc (st.tmps t) (a.tmps.getD t undef)): ∀l:List Operand,Jp loc (evs st l) (l.map a.eval)
 | []=>trivial
 |x::l=>⟨Znr h x,Zp2 h l⟩
theorem Znv [Glb] {P:Program} {st:St} {loc:Loc} {w:World} {S:Fp} {L:Nat→Prop} (H:Heap st.rows loc w S L) {fresh:Nat} (hid:st.rows fresh=none) {b:Builtin} {argTypes:Array TypeId} {ty:TypeId} {cst:Array Bool} {tvs:List TV} {args:Array Value}
  (hv:Jp loc tvs args.toList) {f:F} (h:K3 P fresh st b argTypes.toList tvs=some f) (hc: ∀c,c∈f.checks→c=true):
  ∃val w',(builtin b argTypes ty cst args).run P w= .ok (.value val) w'∧Z4 st.rows loc w S L f.us f.v val w':=by
 obtain ⟨args⟩:=args;obtain ⟨ats⟩:=argTypes;simp only at hv h;unfold K3 at h;split at h
 ·
  rename_i x t
  match args,hv with
  | [v],hv=>
   split at h
   ·rename_i s hu _;simp only[Qj,Zg]at h;subst h;have hx:v= .string s:=hv.1;subst hx;refine ⟨.int .i64 s.size,w,?_,Z4.quiet H rfl⟩;simp only[builtin];refine VL ?_;simp[Builtin.len_,run_underlying hu,goInt]
   ·rename_i hu _;obtain ⟨val,hr,_,hus,hvv⟩:=ZqT (ty:=ty) H hv.1 h hu;exact ⟨val,w,by simp only[builtin];exact VL hr,by rw[hus];exact Z4.quiet H hvv⟩
   ·cases h
  | [],hv=>exact hv.elim
  |_::_::_,hv=>exact hv.2.elim
 ·
  rename_i x y t t';cases ht:Nat.beq t t' with
  |false=>rw[ht]at h;cases h
  |true=>
   obtain rfl:=Nat.eq_of_beq_eq_true ht;rw[ht,Zb]at h
   match args,hv with
   | [v,u],hv=>
    obtain ⟨val,w',hr,hd⟩:=ZlZ (ty:=ty) H hid hv.1 hv.2.1 h hc;exact ⟨val,w',by simp only[builtin];exact VL hr,hd⟩
   | [],hv=>exact hv.elim
   | [_],hv=>exact hv.2.elim
   |_::_::_::_,hv=>exact hv.2.2.elim
 ·
  obtain ⟨x,y,val,e,hr,_,hus,hvv⟩:=Zjr (P:=P) (w:=w) (m2:=Builtin.min2) (fun k x y=>by simp[Builtin.min2,mnI]) h hv;subst e;exact ⟨val,w,by simp only[builtin];exact VL (by simpa [Builtin.min_] using hr),by rw[hus];exact Z4.quiet H hvv⟩
 ·
  obtain ⟨x,y,val,e,hr,_,hus,hvv⟩:=Zjr (P:=P) (w:=w) (m2:=Builtin.max2) (fun k x y=>by simp[Builtin.max2,mxI]) h hv;subst e;exact ⟨val,w,by simp only[builtin];exact VL (by simpa [Builtin.max_] using hr),by rw[hus];exact Z4.quiet H hvv⟩
 ·cases h
def WU:List Value→Value| [x]=>x|xs=> .tuple xs.toArray
def U2 (P:Program) (g:FuncId):Prop:= ∃fn,P.funcs[g]? =some fn∧(fn.name== "runtime.NumGoroutine")=false∧fn.body.isNone=false
def ZsF:FK→List Value→List Value→Ending→Prop
 | .inp,args,vs,e=> ∃v0 v1 as,args=v1::as∧vs=[v0,v1]∧e= .returned v0
 |_,_,vs,e=>e= .returned (WU vs)
def LK:FK→(Nat→Prop)→Nat→Prop| .lnt,L=>L|_,_=>fun _=>False
def ZmX (w:World):FK→(outs:List Ty)→PTup outs→List Value→Fp→(Nat→Prop)→Prop
 | .may,[.a ts, .v .bool],r,vs,S,L=> ∃cs:List Value,vs=[.agg cs.toArray, .bool r.2.1]∧cs.length=ts.length∧J9 cs∧(r.2.1=true→Z9 w ts r.1 cs S L)
 | .may,_,_,_,_,_=>False
 | .ali,[.a ts, .a ts', .v .bool],r,vs,S,L=>(r.2.2.1=true→ ∃v,vs=[v,v]∧ZG w [.a ts] (r.1,()) [v] S L)∧(r.2.2.1=false→ZG w [.a ts, .a ts'] (r.1,(r.2.1,())) vs S L)
 | .ali,_,_,_,_,_=>False
 | .nor,outs,r,vs,S,L=>ZG w outs r vs S L
 | .inp,outs,r,vs,S,L=>ZG w outs r vs S L
 | .lnt,outs,r,vs,S,L=>ZG w outs r vs S L
structure Zy [Glb] (P:Program) (g:FuncId) (f:Fn):Prop where
 nin:f.ins.length≤8
 nout:f.outs.length≤8
 inOk:Jd f.ins
 outOk:Jd f.outs
 enters:U2 P g
 calls: ∀(w:World) (y:PTup f.ins) (args:List Value) (S:Fp) (L:Nat→Prop),ZG w f.ins y args S L→(∀b o,S b o→ ¬L b)→(∀b o,S b o→b<w.heap.size)→(∀b,L b→b<w.heap.size)→(∀b,Glb.blk b→L b)→Glb.fact w→
  ∀r,f.run y=some r→Calls P g args.toArray w fun e w'=> ∃vs SO SB,ZsF f.kd args vs e∧ZmX w' f.kd f.outs r.1 vs SO (LK f.kd L)∧Z5 w w' f.ins r.2 args SB∧Dis SO SB∧
   (∀b o,SO b o∨SB b o→(S b o∨w.heap.size≤b)∧b<w'.heap.size)∧Frame S w w'
def Jr (us:Us):Prop:=Q2 us=[]
theorem Jr.append [Glb] {a b:Us} (h:Jr a) (k:Jr b):Jr (a++b):=by unfold Jr at*;rw[Wi,h,k];rfl
theorem ZlQ {rows:Rows} {t:LT} {v:SV} {x:t.D} {us:Us} {ls:List Nat} (h:QQ rows t v=some (x,us,ls)):Jr us:=by
 unfold QQ at h;split at h
 ·rename_i k k' n;cases hk:KC k k' with
  |false=>rw[hk]at h;cases h
  |true=>rw[hk,Zb]at h;simp only[Zg,Zz]at h;rw[←h.2.1];rfl
 ·simp only[Zg,Zz]at h;rw[←h.2.1];rfl
 ·simp only[Zg,Zz]at h;rw[←h.2.1];rfl
 ·rename_i f f';cases hk:Nat.beq f f' with
  |false=>rw[hk]at h;cases h
  |true=>rw[hk,Zb]at h;simp only[Zg,Zz]at h;rw[←h.2.1];rfl
 ·rename_i own e;split at h
  ·simp only[Zg,Zz]at h;rw[←h.2.1];rfl
  ·rename_i id o _;cases own with
   |true=>
    cases o with
    |true=>simp only[Zb,Zg,Zz]at h;rw[←h.2.1];rfl
    |false=>simp at h
   |false=>simp only[Zd,Zg,Zz]at h;rw[←h.2.1];rfl
  ·cases h
 ·cases h
 ·rename_i e _;split at h
  ·simp only[Zg,Zz]at h;rw[←h.2.1];rfl
  ·rename_i id o _;cases o with
   |true=>simp only[Zb,Zg,Zz]at h;rw[←h.2.1];rfl
   |false=>cases h
  ·cases hk:okS v with
   |false=>rw[hk]at h;cases h
   |true=>rw[hk,Zb]at h;simp only[Zg,Zz]at h;rw[←h.2.1];rfl
 ·cases h
theorem ZdU [Glb]: ∀{ts:List LT} {rows:Rows} {vs:List SV} {x:Tup ts} {us:Us} {ls:List Nat},QN rows ts vs=some (x,us,ls)→Jr us
 | [],rows,[],x,us,ls,h=>by simp only[QN,Zg,Zz]at h;rw[←h.2.1];rfl
 | [],_,_::_,_,_,_,h=>by simp[QN]at h
 |_::_,_,[],_,_,_,h=>by simp[QN]at h
 |t::ts,rows,v::vs,x,us,ls,h=>by
  simp only[QN]at h;split at h
  ·rename_i h1;split at h
   ·rename_i h2;simp only[Zg,Zz]at h;rw[←h.2.1];exact (ZlQ h1).append (ZdU h2)
   ·cases h
  ·cases h
theorem ZoC [Glb] {rows:Rows} {t:Ty} {tv:TV} {x:t.D} {us:Us} {ls:List Nat} (h:Qp rows t tv=some (x,us,ls)):Jr us:=by
 unfold Qp at h;split at h
 ·exact ZlQ h
 ·exact ZdU h
 ·rename_i ts id off;split at h
  ·rename_i cs _;cases hb:Nat.ble (off+ts.length) cs.length with
   |false=>rw[hb]at h;cases h
   |true=>
    rw[hb,Zb]at h;split at h
    ·split at h
     ·rename_i h2;simp only[Zg,Zz]at h;rw[←h.2.1];exact Jr.append (a:=[(id, .box _)]) rfl (ZdU h2)
     ·cases h
    ·cases h
  ·cases h
 ·rename_i ts id off;split at h
  ·rename_i cs _;cases hb:rOk ts&&Nat.ble (off+ts.length) cs.length with
   |false=>rw[hb]at h;cases h
   |true=>
    rw[hb,Zb]at h;split at h
    ·rename_i h2;simp only[Zg,Zz]at h;rw[←h.2.1];exact ZdU h2
    ·cases h
  ·cases h
 ·cases h
theorem Zez [Glb]: ∀{ts:List Ty} {rows:Rows} {vs:List TV} {x:PTup ts} {us:Us} {ls:List Nat},QO rows ts vs=some (x,us,ls)→Jr us
 | [],rows,[],x,us,ls,h=>by simp only[QO,Zg,Zz]at h;rw[←h.2.1];rfl
 | [],_,_::_,_,_,_,h=>by simp[QO]at h
 |_::_,_,[],_,_,_,h=>by simp[QO]at h
 |t::ts,rows,v::vs,x,us,ls,h=>by
  simp only[QO]at h;split at h
  ·rename_i h1;split at h
   ·rename_i h2;simp only[Zg,Zz]at h;rw[←h.2.1];exact (ZoC h1).append (Zez h2)
   ·cases h
  ·cases h
theorem Zbr [Glb] {rows:Rows} {ts:List Ty} {tvs:List TV} {x:PTup ts} {us:Us} (h:Xc rows ts tvs=some (x,us)):Jr us:=by
 unfold Xc at h;cases hm:Ki ts with
 |false=>rw[hm]at h;cases h
 |true=>
 rw[hm,Zb]at h;split at h
 ·rename_i h1;cases hb:JA _ (Zj rows _) _ with
  |false=>rw[hb]at h;cases h
  |true=>rw[hb,Zb]at h;simp only[Zg,Zz]at h;rw[←h.2];exact Zez h1
 ·cases h
theorem ZkU [Glb] {rows:Rows} {ts:List Ty} {tvs:List TV} {x:PTup ts} {us:Us} (h:Ws rows ts tvs=some (x,us)):Jr us:=by
 unfold Ws at h;cases hm:Ki ts with
 |false=>rw[hm]at h;cases h
 |true=>
 rw[hm,Zb]at h;split at h
 ·rename_i h1;cases hb:Xg (Zj rows _) _ with
  |false=>rw[hb]at h;cases h
  |true=>rw[hb,Zb]at h;simp only[Zg,Zz]at h;rw[←h.2];exact Zez h1
 ·cases h
theorem ZkC (t:LT) (x:t.D) (id:Nat):Jr (JO t x id).2:=by
 cases t with
 |mb e=>match x with|some _=>rfl|none=>rfl
 |_=>rfl
theorem ZcC [Glb]: ∀(ts:List LT) (x:Tup ts) (id:Nat),Jr (QC ts x id).2
 | [],_,_=>rfl
 |t::ts,x,id=>(ZkC t x.1 id).append (ZcC ts x.2 (id+1))
theorem ZpB [Glb] (t:Ty) (x:t.D) (id:Nat):Jr (Yy t x id).2:=by
 cases t with
 |v t=>exact ZkC t x id
 |a ts=>exact ZcC ts x id
 |p ts=>exact (ZcC ts x id).append rfl
 |r ts=>exact (ZcC ts x id).append rfl
theorem ZdF [Glb]: ∀(ts:List Ty) (x:PTup ts) (id:Nat),Jr (Qz ts x id).2
 | [],_,_=>rfl
 |t::ts,x,id=>(ZpB t x.1 id).append (ZdF ts x.2 (id+64))
theorem ZjF [Glb]: ∀(ts:List LT) (x:Tup ts) (os:List SV) (id:Nat),Jr (QX ts x os id).2
 | [],_,_,_=>rfl
 |t::ts,x,[],id=>by cases t with|sl own e=>cases own<;>rfl|_=>rfl
 |t::ts,x,o::os,id=>by
  have ih:=ZjF ts x.2 os (id+1);have d:Jr ((JO t x.1 id).2++(QX ts x.2 os (id+1)).2):=(ZkC _ _ _).append ih;cases t with
  |sl own e=>
   cases own with
   |true=>exact d
   |false=>cases o with|lsl k=>exact ih|_=>exact d
  |_=>exact d
theorem UR [Glb]: ∀(ts:List Ty) (x:BTup ts) (tvs:List TV) (rows:Rows) (base:Nat),Jr (Qt ts x tvs rows base)
 | [],_,_,_,_=>by unfold Qt;rfl
 | .v _::r,x,[],_,_=>by unfold Qt;rfl
 | .a _::r,x,[],_,_=>by unfold Qt;rfl
 | .p _::r,x,[],_,_=>by unfold Qt;rfl
 | .r _::r,x,[],_,_=>by unfold Qt;rfl
 | .v _::r,x,_::vs,rows,base=>by unfold Qt;exact UR r x vs rows (base+64)
 | .a _::r,x,_::vs,rows,base=>by unfold Qt;exact UR r x vs rows (base+64)
 | .r _::r,x,_::vs,rows,base=>by unfold Qt;exact UR r x vs rows (base+64)
 | .p ts::r,x,v::vs,rows,base=>by
  cases v with
  |tup l=>rfl
  |c c=>
   cases c with
   |agg l=>rfl
   |s s=>
    cases s with
    |ptr id off=>
     simp only[Qt];split
     ·exact ((ZjF _ _ _ _).append (b:=[(id, .box _)]) rfl).append (UR r _ _ _ _)
     ·rfl
    |_=>rfl
end Go.Tev
