/- The compiler from a loaded program's functions to the abstract machine's code. What functions answer that are called with few arguments alone (printed by tab.lean). The abstract machine's program of this seat. -/
import Derived.KernelRfl
import Derived.Test.YtbeooboebfbchaaGreatDoorProg
import Derived.Test.YtbeooboebfbchaaGreatDoorM01
set_option linter.unusedVariables false
set_option linter.unusedSimpArgs false
namespace Go.Proofs.YtbeooboebfbchaaGreatDoor.Am
open Go
set_option maxRecDepth 100000
section
def cVal1 : Value → Option AV
 | .bool b => some (.bool b)
 | .int k n => some (.int k n)
 | .string s => some (.str (s.data.toList.map (·.toNat)))
 | .pointer none => some .nilptr
 | .slice none 0 0 => some (.sl [] .nil)
 | .map none => some .nilmap
 | .nilFunc => some .nilfn
 | .nilIface => some .nilif
 | _ => none
def cVals : List Value → Option (List AV)
 | [] => some []
 | v :: vs => match cVal1 v, cVals vs with
   | some a, some b => some (a :: b)
   | _, _ => none
def cVal : Value → Option AV
 | .agg cs => (cVals cs.toList).map .agg
 | v => cVal1 v
def cOpd : Operand → Option AOpd
 | .tmp t => some (.tmp t)
 | .const v => some (.const ((cVal v).getD .undef))
 | .func f => some (.const (.fn f []))
 | .global _ => some (.const .undef)
def cOpds : List Operand → Option (List AOpd)
 | [] => some []
 | v :: vs => match cOpd v, cOpds vs with
   | some a, some b => some (a :: b)
   | _, _ => none
def cOpdO : Option Operand → Option (Option AOpd)
 | none => some none
 | some x => (cOpd x).map some
section
variable (P : Program)
def sizeP (t : TypeId) : Option Nat := (P.info? t).map (·.size)
def bytesP (t : TypeId) : Option Nat := (P.info? t).map (·.bytes)
def zeroP (t : TypeId) : Option AV := ((P.info? t).bind (·.zero)).bind cVal
def loadSz (t : TypeId) : Option (Option Nat) :=
 match P.underlying t with
 | some (.struct _) | some (.array _ _) => (sizeP P t).map some
 | some _ => some none
 | none => none
def fieldOf (t : TypeId) (f : Nat) : Option (Nat × TypeId) :=
 match P.underlying t with
 | some (.struct fs) => (fs[f]?).map fun x => (x.offset, x.type)
 | _ => none
def sTy (t : TypeId) : Option STy :=
 match P.underlying t with
 | some .bool => some .bool
 | some (.int _) => some .int
 | some .string => some .str
 | _ => none
def rowOfScalars : Nat → List Field → Option (List STy)
 | _, [] => some []
 | n, f :: fs => if f.offset = n ∧ f.name ≠ "_" then match sTy P f.type, rowOfScalars (n + 1) fs with
     | some s, some ss => some (s :: ss)
     | _, _ => none
   else none
def kTy (t : TypeId) : Option ETy :=
 match sTy P t with
 | some s => some (.one s)
 | none => match P.underlying t with
   | some (.struct fs) => if !P.stoodInHeld t && !P.eqGuardType P.depth t then (rowOfScalars P 0 fs.toList).map .agg else none
   | _ => none
def eTy (t : TypeId) : Option ETy :=
 match kTy P t with
 | some e => some e
 | none => match P.underlying t with
   | some (.slice _) => some .sl
   | some (.pointer _) => some .pt
   | some (.map _ _) => some .mp
   | some (.func _ _ _) => some .fn
   | _ => none
def nilT (op : BinOp) (t : TypeId) (x y : Operand) : Bool :=
 (match op with | .eql | .neq => true | _ => false) &&
 (match P.underlying t with | some (.interface _) => true | _ => false) &&
 (match x, y with | .const _, _ | _, .const _ => true | _, _ => false)
def cParts : List (Nat × Operand) → (Nat → Option (Nat × Nat)) → Option (List (Nat × Nat × AOpd))
 | [], _ => some []
 | (i, x) :: ps, place => match place i, cOpd x, cParts ps place with
   | some (o, s), some a, some b => some ((o, s, a) :: b)
   | _, _, _ => none
def cElems : List (Nat × Operand) → Option (List (Nat × AOpd))
 | [] => some []
 | (i, x) :: ps => match cOpd x, cElems ps with
   | some a, some b => some ((i, a) :: b)
   | _, _ => none
def cBuiltin (b : Builtin) (args : List Operand) (tys : List TypeId) (slot : Nat) (mu : Bool) : Option AOp :=
 match b, args, tys with
 | .len, [x], [t] => match P.underlying t with
   | some .string => (cOpd x).map (.len .str)
   | some (.slice _) => (cOpd x).map (.len .sl)
   | some (.map _ _) => (cOpd x).map (.len .mp)
   | some (.array n _) => (cOpd x).map (.len (.arr n))
   | some (.pointer a) => match P.underlying a with
     | some (.array n _) => (cOpd x).map (.len (.arr n))
     | _ => none
   | _ => none
 | .cap, [x], [t] => match P.underlying t with
   | some (.slice _) => (cOpd x).map (.len .cap)
   | _ => none
 | .max, [x, y], [t, _] => match P.underlying t, cOpd x, cOpd y with
   | some (.int _), some a, some b => some (.minmax true a b)
   | _, _, _ => none
 | .min, [x, y], [t, _] => match P.underlying t, cOpd x, cOpd y with
   | some (.int _), some a, some b => some (.minmax false a b)
   | _, _, _ => none
 | .append, [x, y], [t, u] => match P.underlying t, P.underlying u with
   | some (.slice e), some (.slice _) | some (.slice e), some .string => match sizeP P e, bytesP P e, zeroP P e, cOpd x, cOpd y with
     | some sz, some by_, some z, some a, some b => if sz ≠ 0 ∧ z.cells.length = sz then some (.append slot sz by_ mu a b) else none
     | _, _, _, _, _ => none
   | some (.slice e), some (.int _) => match sizeP P e, bytesP P e, zeroP P e, cOpd x, cOpd y with
     | some sz, some by_, some z, some a, some b => if sz ≠ 0 ∧ z.cells.length = sz then some (.makeRow slot z by_ a b) else none
     | _, _, _, _, _ => none
   | _, _ => none
 | _, _, _ => none
variable (back : Nat → Option Nat) in
def cOp (slot : Nat) (mu : Bool) : Op → Option AOp
 | .move x | .assign x => (cOpd x).map .move
 | .pick c a b => match cOpd c, cOpd a, cOpd b with
   | some c, some a, some b => some (.pick c a b)
   | _, _, _ => none
 | .alloc t => (zeroP P t).map (.alloc slot)
 | .box _ x => (cOpd x).map (.box slot)
 | .build t parts => match P.underlying t, zeroP P t with
   | some (.struct fs), some z => match fs.toList.mapM (fun f => (P.info? f.type).map fun i => (f.offset, i.size)) with
     | some places => (cParts parts.toList (places[·]?)).map (.build z.cells)
     | none => none
   | some (.array _ e), some z => match sizeP P e with
     | some s => (cParts parts.toList fun i => some (i * s, s)).map (.build z.cells)
     | none => none
   | _, _ => none
 | .buildSlice t n parts => match P.underlying t with
   | some (.slice e) => match sizeP P e, zeroP P e, cElems parts.toList with
     | some s, some z, some ps => if s ≠ 0 ∧ n * s ≤ 2 ^ 24 ∧ z.cells.length = s then some (.buildSlice slot mu z n ps) else none
     | _, _, _ => none
   | _ => none
 | .load t a => match loadSz P t, cOpd a with
   | some s, some a => some (.load s a)
   | _, _ => none
 | .store t a x => match sizeP P t, cOpd a, cOpd x with
   | some s, some a, some x => if s = 0 then none else some (.store s a x)
   | _, _, _ => none
 | .nilCheck x => (cOpd x).map .nilCheck
 | .binOp op t x y _ => match cOpd x, cOpd y with
   | some a, some b => if nilT P op t x y then some (.binOp op .iface a b) else (eTy P t).map fun e => .binOp op e a b
   | _, _ => none
 | .unOp op _ x => (cOpd x).map (.unOp op)
 | .convert s d x => match P.underlying s, P.underlying d, cOpd x with
   | some (.int _), some (.int k), some a => some (.cInt k a)
   | some .string, some .string, some a => some (.cStr a)
   | some .string, some (.slice e), some a => match P.underlying e with
     | some (.int .u8) => some (.toBytes a)
     | _ => none
   | some (.slice e), some .string, some a => match P.underlying e with
     | some (.int .u8) => some (.ofBytes a)
     | _ => none
   | _, _, _ => none
 | .makeFunc (.func f) first cap => if first.isEmpty then (cOpds cap.toList).map (.makeFunc f) else none
 | .makeMap t r => match P.underlying t, r with
   | some (.map k _), none => if (kTy P k).isSome then some (.makeMap slot) else none
   | _, _ => none
 | .makeSlice t l c => match P.underlying t with
   | some (.slice e) => match sizeP P e, zeroP P e, bytesP P e, cOpd l, cOpd c with
     | some s, some z, some b, some l, some c => if s ≠ 0 ∧ z.cells.length = s then some (.makeSlice slot z b l c) else none
     | _, _, _, _, _ => none
   | _ => none
 | .slice t x lo hi mx => match P.underlying t with
   | some .string => match cOpd x, cOpdO lo, cOpdO hi, cOpdO mx with
     | some x, some lo, some hi, some mx => some (.slice none x lo hi mx)
     | _, _, _, _ => none
   | some (.slice e) => match sizeP P e, cOpd x, cOpdO lo, cOpdO hi, cOpdO mx with
     | some s, some x, some lo, some hi, some mx => some (.slice (some s) x lo hi mx)
     | _, _, _, _, _ => none
   | _ => none
 | .fieldAddr t x f => match fieldOf P t f, cOpd x with
   | some (o, ft), some a => match sizeP P ft with
     | some (_ + 1) => some (.fieldAddr a o)
     | _ => none
   | _, _ => none
 | .field t x f => match fieldOf P t f, cOpd x with
   | some (o, ft), some a => (loadSz P ft).map (.field a o)
   | _, _ => none
 | .indexAddr t x ix => match cOpd x, cOpd ix with
   | some a, some i => match P.underlying t with
     | some (.slice e) => match sizeP P e with
       | some s => if s = 0 then none else some (.indexAddr none s a i)
       | none => none
     | some (.array n e) => match sizeP P e with
       | some s => if s = 0 then none else some (.indexAddr (some n) s a i)
       | none => none
     | _ => none
   | _, _ => none
 | .index t x ix => match cOpd x, cOpd ix with
   | some a, some i => match P.underlying t with
     | some .string => some (.index none a i)
     | some (.array n e) => match sizeP P e, loadSz P e with
       | some s, some l => if s = 0 then none else some (.index (some (n, s, l)) a i)
       | _, _ => none
     | _ => none
   | _, _ => none
 | .lookup t x ix ok => match P.underlying t, cOpd x, cOpd ix with
   | some (.map k e), some a, some i => match kTy P k, zeroP P e with
     | some kt, some z => some (.lookup kt z a i ok)
     | _, _ => none
   | _, _, _ => none
 | .mapUpdate t m k v => match P.underlying t, cOpd m, cOpd k, cOpd v with
   | some (.map kt _), some m, some k, some v => (kTy P kt).map fun e => .mapUpdate e m k v
   | _, _, _, _ => none
 | .extract x i => (cOpd x).map (.extract · i)
 | .call c => match c.callee with
   | .builtin b => cBuiltin P b c.args.toList c.argTypes.toList slot mu
   | .value (.func f) => match back f with
     | some k => (match c.args.toList with | [x] => (cOpd x).map (.backward k) | _ => none)
     | none => (cOpds c.args.toList).map (.call f)
   | .value (.tmp t) => (cOpds c.args.toList).map (.callv (.tmp t))
   | _ => none
 | _ => none
def takesSlot : Op → Bool
 | .alloc _ | .box .. | .buildSlice .. | .makeMap .. | .makeSlice .. => true
 | .call { callee := .builtin .append, .. } => true
 | _ => false
def dstOf (ops : List Oper) (j : Nat) : Option Nat := (ops[j]?).bind (·.dst)
def cGuard (ops : List Oper) : Option (Nat × Bool) → Option (Option (Nat × Bool))
 | none => some none
 | some (j, b) => (dstOf ops j).map fun t => some (t, b)
variable (back : Nat → Option Nat)
def cOpers (nt : Nat) (mu : Bool) (all : List Oper) : Nat → List Oper → Option (List AOper × Nat)
 | n, [] => some ([], n)
 | n, o :: os =>
   match cGuard all o.guard, cOpers nt mu all (if takesSlot o.op then n + 1 else n) os with
   | some g, some (asx, n') => if o.dst.all (· < nt) = true then some (⟨o.dst, (cOp P back n mu o.op).getD .bad, g⟩ :: asx, n') else none
   | _, _ => none
def classOf : AOp → Nat
 | .alloc .. | .box .. | .store .. | .buildSlice .. | .makeMap .. | .mapUpdate .. | .makeSlice .. | .makeRow .. | .append .. | .call .. | .callv .. => 2
 | .load .. | .ofBytes .. | .lookup .. | .slice .. | .indexAddr .. | .len .. => 1
 | _ => 0
def pairsAt (bj : Nat) (j : Nat) (cj : Nat) : Nat → List AOper → List (Nat × Nat)
 | _, [] => []
 | i, o :: os =>
   (if i < j ∧ !bj.testBit i ∧ classOf o.op + cj ≥ 2 ∧ classOf o.op ≠ 0 ∧ cj ≠ 0 ∧ (classOf o.op = 2 ∨ cj = 2) then [(i, j)] else []) ++ pairsAt bj j cj (i + 1) os
def pairsOf (bs : List Nat) (all : List AOper) : Nat → List AOper → List (Nat × Nat)
 | _, [] => []
 | j, o :: os => pairsAt (bs.getD j 0) j (classOf o.op) 0 all ++ pairsOf bs all (j + 1) os
def callsOk (all : List AOper) (ps : List (Nat × Nat)) : Bool :=
 ps.all fun p => !(((all[p.1]?).map (·.op.isCall)).getD false && ((all[p.2]?).map (·.op.isCall)).getD false)
def edgesOk : Nat → List Oper → Bool
 | _, [] => true
 | j, o :: os => o.after.toList.all (fun e => !Region.binds .any e || decide (e.on < j)) && edgesOk (j + 1) os
def AOpd.tmps : AOpd → List Nat
 | .tmp t => [t]
 | .const _ => []
def opdO : Option AOpd → List Nat
 | some x => x.tmps
 | none => []
def AOp.reads : AOp → List Nat
 | .move x | .box _ x | .load _ x | .nilCheck x | .unOp _ x | .cInt _ x | .cStr x | .toBytes x | .ofBytes x | .fieldAddr x _ | .field x _ _ | .extract x _ | .len _ x | .backward _ x => x.tmps
 | .pick c a b => c.tmps ++ a.tmps ++ b.tmps
 | .alloc .. | .makeMap _ | .bad => []
 | .build _ ps => ps.flatMap fun p => p.2.2.tmps
 | .buildSlice _ _ _ _ ps => ps.flatMap fun p => p.2.tmps
 | .store _ a x => a.tmps ++ x.tmps
 | .binOp _ _ x y => x.tmps ++ y.tmps
 | .lookup _ _ x ix _ => x.tmps ++ ix.tmps
 | .mapUpdate _ m k v => m.tmps ++ k.tmps ++ v.tmps
 | .makeSlice _ _ _ l c => l.tmps ++ c.tmps
 | .makeRow _ _ _ x n => x.tmps ++ n.tmps
 | .slice _ x lo hi mx => x.tmps ++ opdO lo ++ opdO hi ++ opdO mx
 | .indexAddr _ _ x ix => x.tmps ++ ix.tmps
 | .index _ x ix => x.tmps ++ ix.tmps
 | .makeFunc _ cap => cap.flatMap AOpd.tmps
 | .minmax _ x y => x.tmps ++ y.tmps
 | .append _ _ _ _ x y => x.tmps ++ y.tmps
 | .call _ args => args.flatMap AOpd.tmps
 | .callv x args => x.tmps ++ args.flatMap AOpd.tmps
def AOper.reads (o : AOper) : List Nat := o.op.reads ++ (match o.guard with | some (t, _) => [t] | none => [])
def indep (a b : AOper) : Bool :=
 (match a.dst with | some d => !b.reads.contains d && b.dst != some d | none => true) && (match b.dst with | some d => !a.reads.contains d | none => true)
def indepAt (bj j : Nat) (o : AOper) : Nat → List AOper → Bool
 | _, [] => true
 | i, x :: xs => (!decide (i < j) || bj.testBit i || indep x o) && indepAt bj j o (i + 1) xs
def indepOk (bs : List Nat) (all : List AOper) : Nat → List AOper → Bool
 | _, [] => true
 | j, o :: os => indepAt (bs.getD j 0) j o 0 all && indepOk bs all (j + 1) os
def ACode.noRange : ACode → Bool
 | .rangeB .. => false
 | .seq a b | .cond _ a b => a.noRange && b.noRange
 | .block _ b | .loop b => b.noRange
 | _ => true
def cCode (nt : Nat) (mu : Nat → Bool) : Nat → Code → Option (ACode × Nat)
 | n, .skip => some (.skip, n)
 | n, .region id ops draw =>
   match cOpers P back nt (mu id) ops.toList n ops.toList with
   | some (asx, n') =>
     if draw then
       let ps := pairsOf (Region.before ops).toList asx 0 asx
       if indepOk (Region.before ops).toList asx 0 asx && callsOk asx ps && edgesOk 0 ops.toList then some (.region asx.length asx ps, n') else some (.bad, n')
     else some (.region asx.length asx [], n')
   | none => none
 | n, .seq a b => match cCode nt mu n a with
   | some (a', n) => (cCode nt mu n b).map fun r => (.seq a' r.1, r.2)
   | none => none
 | n, .cond c a b => match cOpd c, cCode nt mu n a with
   | some c, some (a', n) => (cCode nt mu n b).map fun r => (.cond c a' r.1, r.2)
   | _, _ => none
 | n, .block id b => (cCode nt mu n b).map fun r => (.block id r.1, r.2)
 | n, .loop b => (cCode nt mu n b).map fun r => (.loop r.1, r.2)
 | n, .exit id => some (.exit id, n)
 | n, .ret => some (.ret, n)
 | n, .rangeFunc f params assign body => match cOpd f, params.toList, cCode nt mu n assign with
   | some x, [p, q], some (a', n) => (cCode nt mu n body).map fun r => (if a'.noRange && r.1.noRange && (decide (p < nt) && decide (q < nt)) then .rangeB x p q a' r.1 else .bad, r.2)
   | _, _, _ => none
 | n, _ => some (.bad, n)
def cRes : List ResultVar → Option (List ARes)
 | [] => some []
 | .tmp t :: rs => (cRes rs).map (.tmp t :: ·)
 | .cell a t :: rs => match loadSz P t, cRes rs with
   | some s, some rs => some (.cell a s :: rs)
   | _, _ => none
structure Hint where
 mu : List Nat := []
 byref : List Nat := []
 owned : Bool := false
def cFun (hint : Hint) (f : Nat) : Option AFun :=
 match P.funcs[f]? with
 | some fn => match fn.body with
   | some c => match cCode P back fn.ntmps (hint.mu.contains ·) 0 c, cRes P fn.results.toList with
     | some (c', n), some rs => if fn.name = "runtime.NumGoroutine" then none else some { ntmps := fn.ntmps, nslots := n, body := c', results := rs, byref := hint.byref, owned := hint.owned }
     | _, _ => none
   | none => none
 | none => none
end
end
def tab73 : List (List AV × AV) := [([(.agg [(.int .i64 4), (.bool false), (.str [48]), (.sl [] .no), (.sl [] .no)]), (.str [48]), (.str [48])], (.tup [(.agg [(.int .i64 4), (.bool false), (.str [48]), (.sl [] .no), (.sl [] .no)]), (.int .i64 0)])), ([(.agg [(.int .i64 4), (.bool false), (.str [48]), (.sl [] .no), (.sl [] .no)]), (.str [48]), (.str [49])], (.tup [(.agg [(.int .i64 4), (.bool false), (.str [48]), (.sl [(.str [48])] .no), (.sl [(.str [49])] .no)]), (.int .i64 0)])), ([(.agg [(.int .i64 4), (.bool false), (.str [48]), (.sl [] .no), (.sl [] .no)]), (.str [48]), (.str [50])], (.tup [(.agg [(.int .i64 4), (.bool false), (.str [48]), (.sl [(.str [48])] .no), (.sl [(.str [50])] .no)]), (.int .i64 0)])), ([(.agg [(.int .i64 4), (.bool false), (.str [48]), (.sl [] .no), (.sl [] .no)]), (.str [49]), (.str [48])], (.tup [(.agg [(.int .i64 4), (.bool false), (.str [48]), (.sl [] .no), (.sl [] .no)]), (.int .i64 0)])), ([(.agg [(.int .i64 4), (.bool false), (.str [48]), (.sl [] .no), (.sl [] .no)]), (.str [49]), (.str [49])], (.tup [(.agg [(.int .i64 4), (.bool false), (.str [48]), (.sl [(.str [49])] .no), (.sl [(.str [49])] .no)]), (.int .i64 0)])), ([(.agg [(.int .i64 4), (.bool false), (.str [48]), (.sl [] .no), (.sl [] .no)]), (.str [49]), (.str [50])], (.tup [(.agg [(.int .i64 4), (.bool false), (.str [48]), (.sl [(.str [49])] .no), (.sl [(.str [50])] .no)]), (.int .i64 0)])), ([(.agg [(.int .i64 4), (.bool false), (.str [48]), (.sl [] .no), (.sl [] .no)]), (.str [50]), (.str [48])], (.tup [(.agg [(.int .i64 4), (.bool false), (.str [48]), (.sl [] .no), (.sl [] .no)]), (.int .i64 0)])), ([(.agg [(.int .i64 4), (.bool false), (.str [48]), (.sl [] .no), (.sl [] .no)]), (.str [50]), (.str [49])], (.tup [(.agg [(.int .i64 4), (.bool false), (.str [48]), (.sl [(.str [50])] .no), (.sl [(.str [49])] .no)]), (.int .i64 0)])), ([(.agg [(.int .i64 4), (.bool false), (.str [48]), (.sl [] .no), (.sl [] .no)]), (.str [50]), (.str [50])], (.tup [(.agg [(.int .i64 4), (.bool false), (.str [48]), (.sl [(.str [50])] .no), (.sl [(.str [50])] .no)]), (.int .i64 0)])), ([(.agg [(.int .i64 4), (.bool false), (.str [49]), (.sl [] .no), (.sl [] .no)]), (.str [48]), (.str [48])], (.tup [(.agg [(.int .i64 4), (.bool false), (.str [49]), (.sl [(.str [48])] .no), (.sl [(.str [48])] .no)]), (.int .i64 0)])), ([(.agg [(.int .i64 4), (.bool false), (.str [49]), (.sl [] .no), (.sl [] .no)]), (.str [48]), (.str [49])], (.tup [(.agg [(.int .i64 4), (.bool false), (.str [49]), (.sl [] .no), (.sl [] .no)]), (.int .i64 0)])), ([(.agg [(.int .i64 4), (.bool false), (.str [49]), (.sl [] .no), (.sl [] .no)]), (.str [48]), (.str [50])], (.tup [(.agg [(.int .i64 4), (.bool false), (.str [49]), (.sl [(.str [48])] .no), (.sl [(.str [50])] .no)]), (.int .i64 0)])), ([(.agg [(.int .i64 4), (.bool false), (.str [49]), (.sl [] .no), (.sl [] .no)]), (.str [49]), (.str [48])], (.tup [(.agg [(.int .i64 4), (.bool false), (.str [49]), (.sl [(.str [49])] .no), (.sl [(.str [48])] .no)]), (.int .i64 0)])), ([(.agg [(.int .i64 4), (.bool false), (.str [49]), (.sl [] .no), (.sl [] .no)]), (.str [49]), (.str [49])], (.tup [(.agg [(.int .i64 4), (.bool false), (.str [49]), (.sl [] .no), (.sl [] .no)]), (.int .i64 0)])), ([(.agg [(.int .i64 4), (.bool false), (.str [49]), (.sl [] .no), (.sl [] .no)]), (.str [49]), (.str [50])], (.tup [(.agg [(.int .i64 4), (.bool false), (.str [49]), (.sl [(.str [49])] .no), (.sl [(.str [50])] .no)]), (.int .i64 0)])), ([(.agg [(.int .i64 4), (.bool false), (.str [49]), (.sl [] .no), (.sl [] .no)]), (.str [50]), (.str [48])], (.tup [(.agg [(.int .i64 4), (.bool false), (.str [49]), (.sl [(.str [50])] .no), (.sl [(.str [48])] .no)]), (.int .i64 0)])), ([(.agg [(.int .i64 4), (.bool false), (.str [49]), (.sl [] .no), (.sl [] .no)]), (.str [50]), (.str [49])], (.tup [(.agg [(.int .i64 4), (.bool false), (.str [49]), (.sl [] .no), (.sl [] .no)]), (.int .i64 0)])), ([(.agg [(.int .i64 4), (.bool false), (.str [49]), (.sl [] .no), (.sl [] .no)]), (.str [50]), (.str [50])], (.tup [(.agg [(.int .i64 4), (.bool false), (.str [49]), (.sl [(.str [50])] .no), (.sl [(.str [50])] .no)]), (.int .i64 0)])), ([(.agg [(.int .i64 4), (.bool false), (.str [50]), (.sl [] .no), (.sl [] .no)]), (.str [48]), (.str [48])], (.tup [(.agg [(.int .i64 4), (.bool false), (.str [50]), (.sl [(.str [48])] .no), (.sl [(.str [48])] .no)]), (.int .i64 0)])), ([(.agg [(.int .i64 4), (.bool false), (.str [50]), (.sl [] .no), (.sl [] .no)]), (.str [48]), (.str [49])], (.tup [(.agg [(.int .i64 4), (.bool false), (.str [50]), (.sl [(.str [48])] .no), (.sl [(.str [49])] .no)]), (.int .i64 0)])), ([(.agg [(.int .i64 4), (.bool false), (.str [50]), (.sl [] .no), (.sl [] .no)]), (.str [48]), (.str [50])], (.tup [(.agg [(.int .i64 4), (.bool false), (.str [50]), (.sl [] .no), (.sl [] .no)]), (.int .i64 0)])), ([(.agg [(.int .i64 4), (.bool false), (.str [50]), (.sl [] .no), (.sl [] .no)]), (.str [49]), (.str [48])], (.tup [(.agg [(.int .i64 4), (.bool false), (.str [50]), (.sl [(.str [49])] .no), (.sl [(.str [48])] .no)]), (.int .i64 0)])), ([(.agg [(.int .i64 4), (.bool false), (.str [50]), (.sl [] .no), (.sl [] .no)]), (.str [49]), (.str [49])], (.tup [(.agg [(.int .i64 4), (.bool false), (.str [50]), (.sl [(.str [49])] .no), (.sl [(.str [49])] .no)]), (.int .i64 0)])), ([(.agg [(.int .i64 4), (.bool false), (.str [50]), (.sl [] .no), (.sl [] .no)]), (.str [49]), (.str [50])], (.tup [(.agg [(.int .i64 4), (.bool false), (.str [50]), (.sl [] .no), (.sl [] .no)]), (.int .i64 0)])), ([(.agg [(.int .i64 4), (.bool false), (.str [50]), (.sl [] .no), (.sl [] .no)]), (.str [50]), (.str [48])], (.tup [(.agg [(.int .i64 4), (.bool false), (.str [50]), (.sl [(.str [50])] .no), (.sl [(.str [48])] .no)]), (.int .i64 0)])), ([(.agg [(.int .i64 4), (.bool false), (.str [50]), (.sl [] .no), (.sl [] .no)]), (.str [50]), (.str [49])], (.tup [(.agg [(.int .i64 4), (.bool false), (.str [50]), (.sl [(.str [50])] .no), (.sl [(.str [49])] .no)]), (.int .i64 0)])), ([(.agg [(.int .i64 4), (.bool false), (.str [50]), (.sl [] .no), (.sl [] .no)]), (.str [50]), (.str [50])], (.tup [(.agg [(.int .i64 4), (.bool false), (.str [50]), (.sl [] .no), (.sl [] .no)]), (.int .i64 0)]))]
def tab188 : List (List AV × AV) := [([(.agg [(.int .i64 1), (.bool true), (.str []), (.sl [] .no), (.sl [] .no)])], (.tup [(.sl [(.agg [(.int .i64 1), (.int .i64 0), (.str []), (.str []), (.int .i64 0)])] .no), (.int .i64 0)])), ([(.agg [(.int .i64 1), (.bool false), (.str []), (.sl [] .no), (.sl [] .no)])], (.tup [(.sl [(.agg [(.int .i64 2), (.int .i64 0), (.str []), (.str []), (.int .i64 0)])] .no), (.int .i64 0)])), ([(.agg [(.int .i64 2), (.bool false), (.str [45, 50]), (.sl [] .no), (.sl [] .no)])], (.tup [(.sl [(.agg [(.int .i64 3), (.int .i64 2), (.str []), (.str [45, 50]), (.int .i64 0)])] .no), (.int .i64 0)])), ([(.agg [(.int .i64 2), (.bool false), (.str [45, 49]), (.sl [] .no), (.sl [] .no)])], (.tup [(.sl [(.agg [(.int .i64 3), (.int .i64 2), (.str []), (.str [45, 49]), (.int .i64 0)])] .no), (.int .i64 0)])), ([(.agg [(.int .i64 2), (.bool false), (.str [48]), (.sl [] .no), (.sl [] .no)])], (.tup [(.sl [(.agg [(.int .i64 3), (.int .i64 2), (.str []), (.str [48]), (.int .i64 0)])] .no), (.int .i64 0)])), ([(.agg [(.int .i64 2), (.bool false), (.str [49]), (.sl [] .no), (.sl [] .no)])], (.tup [(.sl [(.agg [(.int .i64 3), (.int .i64 2), (.str []), (.str [49]), (.int .i64 0)])] .no), (.int .i64 0)])), ([(.agg [(.int .i64 2), (.bool false), (.str [50]), (.sl [] .no), (.sl [] .no)])], (.tup [(.sl [(.agg [(.int .i64 3), (.int .i64 2), (.str []), (.str [50]), (.int .i64 0)])] .no), (.int .i64 0)])), ([(.agg [(.int .i64 2), (.bool false), (.str [51]), (.sl [] .no), (.sl [] .no)])], (.tup [(.sl [(.agg [(.int .i64 3), (.int .i64 2), (.str []), (.str [51]), (.int .i64 0)])] .no), (.int .i64 0)])), ([(.agg [(.int .i64 3), (.bool false), (.str [45, 50]), (.sl [] .no), (.sl [] .no)])], (.tup [(.sl [(.agg [(.int .i64 3), (.int .i64 3), (.str []), (.str [45, 50]), (.int .i64 0)])] .no), (.int .i64 0)])), ([(.agg [(.int .i64 3), (.bool false), (.str [45, 49]), (.sl [] .no), (.sl [] .no)])], (.tup [(.sl [(.agg [(.int .i64 3), (.int .i64 3), (.str []), (.str [45, 49]), (.int .i64 0)])] .no), (.int .i64 0)])), ([(.agg [(.int .i64 3), (.bool false), (.str [48]), (.sl [] .no), (.sl [] .no)])], (.tup [(.sl [(.agg [(.int .i64 3), (.int .i64 3), (.str []), (.str [48]), (.int .i64 0)])] .no), (.int .i64 0)])), ([(.agg [(.int .i64 3), (.bool false), (.str [49]), (.sl [] .no), (.sl [] .no)])], (.tup [(.sl [(.agg [(.int .i64 3), (.int .i64 3), (.str []), (.str [49]), (.int .i64 0)])] .no), (.int .i64 0)])), ([(.agg [(.int .i64 3), (.bool false), (.str [50]), (.sl [] .no), (.sl [] .no)])], (.tup [(.sl [(.agg [(.int .i64 3), (.int .i64 3), (.str []), (.str [50]), (.int .i64 0)])] .no), (.int .i64 0)])), ([(.agg [(.int .i64 3), (.bool false), (.str [51]), (.sl [] .no), (.sl [] .no)])], (.tup [(.sl [(.agg [(.int .i64 3), (.int .i64 3), (.str []), (.str [51]), (.int .i64 0)])] .no), (.int .i64 0)])), ([(.agg [(.int .i64 4), (.bool false), (.str [48]), (.sl [] .no), (.sl [] .no)])], (.tup [(.sl [(.agg [(.int .i64 20), (.int .i64 0), (.str []), (.str []), (.int .i64 1)]), (.agg [(.int .i64 3), (.int .i64 2), (.str []), (.str [48]), (.int .i64 0)])] .no), (.int .i64 0)])), ([(.agg [(.int .i64 4), (.bool false), (.str [48]), (.sl [(.str [48])] .no), (.sl [(.str [49])] .no)])], (.tup [(.sl [(.agg [(.int .i64 19), (.int .i64 0), (.str []), (.str []), (.int .i64 3)]), (.agg [(.int .i64 20), (.int .i64 0), (.str []), (.str []), (.int .i64 1)]), (.agg [(.int .i64 3), (.int .i64 2), (.str []), (.str [48]), (.int .i64 0)]), (.agg [(.int .i64 3), (.int .i64 2), (.str []), (.str [48]), (.int .i64 0)]), (.agg [(.int .i64 3), (.int .i64 2), (.str []), (.str [49]), (.int .i64 0)])] .no), (.int .i64 0)])), ([(.agg [(.int .i64 4), (.bool false), (.str [48]), (.sl [(.str [48])] .no), (.sl [(.str [50])] .no)])], (.tup [(.sl [(.agg [(.int .i64 19), (.int .i64 0), (.str []), (.str []), (.int .i64 3)]), (.agg [(.int .i64 20), (.int .i64 0), (.str []), (.str []), (.int .i64 1)]), (.agg [(.int .i64 3), (.int .i64 2), (.str []), (.str [48]), (.int .i64 0)]), (.agg [(.int .i64 3), (.int .i64 2), (.str []), (.str [48]), (.int .i64 0)]), (.agg [(.int .i64 3), (.int .i64 2), (.str []), (.str [50]), (.int .i64 0)])] .no), (.int .i64 0)])), ([(.agg [(.int .i64 4), (.bool false), (.str [48]), (.sl [(.str [49])] .no), (.sl [(.str [49])] .no)])], (.tup [(.sl [(.agg [(.int .i64 19), (.int .i64 0), (.str []), (.str []), (.int .i64 3)]), (.agg [(.int .i64 20), (.int .i64 0), (.str []), (.str []), (.int .i64 1)]), (.agg [(.int .i64 3), (.int .i64 2), (.str []), (.str [48]), (.int .i64 0)]), (.agg [(.int .i64 3), (.int .i64 2), (.str []), (.str [49]), (.int .i64 0)]), (.agg [(.int .i64 3), (.int .i64 2), (.str []), (.str [49]), (.int .i64 0)])] .no), (.int .i64 0)])), ([(.agg [(.int .i64 4), (.bool false), (.str [48]), (.sl [(.str [49])] .no), (.sl [(.str [50])] .no)])], (.tup [(.sl [(.agg [(.int .i64 19), (.int .i64 0), (.str []), (.str []), (.int .i64 3)]), (.agg [(.int .i64 20), (.int .i64 0), (.str []), (.str []), (.int .i64 1)]), (.agg [(.int .i64 3), (.int .i64 2), (.str []), (.str [48]), (.int .i64 0)]), (.agg [(.int .i64 3), (.int .i64 2), (.str []), (.str [49]), (.int .i64 0)]), (.agg [(.int .i64 3), (.int .i64 2), (.str []), (.str [50]), (.int .i64 0)])] .no), (.int .i64 0)])), ([(.agg [(.int .i64 4), (.bool false), (.str [48]), (.sl [(.str [50])] .no), (.sl [(.str [49])] .no)])], (.tup [(.sl [(.agg [(.int .i64 19), (.int .i64 0), (.str []), (.str []), (.int .i64 3)]), (.agg [(.int .i64 20), (.int .i64 0), (.str []), (.str []), (.int .i64 1)]), (.agg [(.int .i64 3), (.int .i64 2), (.str []), (.str [48]), (.int .i64 0)]), (.agg [(.int .i64 3), (.int .i64 2), (.str []), (.str [50]), (.int .i64 0)]), (.agg [(.int .i64 3), (.int .i64 2), (.str []), (.str [49]), (.int .i64 0)])] .no), (.int .i64 0)])), ([(.agg [(.int .i64 4), (.bool false), (.str [48]), (.sl [(.str [50])] .no), (.sl [(.str [50])] .no)])], (.tup [(.sl [(.agg [(.int .i64 19), (.int .i64 0), (.str []), (.str []), (.int .i64 3)]), (.agg [(.int .i64 20), (.int .i64 0), (.str []), (.str []), (.int .i64 1)]), (.agg [(.int .i64 3), (.int .i64 2), (.str []), (.str [48]), (.int .i64 0)]), (.agg [(.int .i64 3), (.int .i64 2), (.str []), (.str [50]), (.int .i64 0)]), (.agg [(.int .i64 3), (.int .i64 2), (.str []), (.str [50]), (.int .i64 0)])] .no), (.int .i64 0)])), ([(.agg [(.int .i64 4), (.bool false), (.str [49]), (.sl [(.str [48])] .no), (.sl [(.str [48])] .no)])], (.tup [(.sl [(.agg [(.int .i64 19), (.int .i64 0), (.str []), (.str []), (.int .i64 3)]), (.agg [(.int .i64 20), (.int .i64 0), (.str []), (.str []), (.int .i64 1)]), (.agg [(.int .i64 3), (.int .i64 2), (.str []), (.str [49]), (.int .i64 0)]), (.agg [(.int .i64 3), (.int .i64 2), (.str []), (.str [48]), (.int .i64 0)]), (.agg [(.int .i64 3), (.int .i64 2), (.str []), (.str [48]), (.int .i64 0)])] .no), (.int .i64 0)])), ([(.agg [(.int .i64 4), (.bool false), (.str [49]), (.sl [] .no), (.sl [] .no)])], (.tup [(.sl [(.agg [(.int .i64 20), (.int .i64 0), (.str []), (.str []), (.int .i64 1)]), (.agg [(.int .i64 3), (.int .i64 2), (.str []), (.str [49]), (.int .i64 0)])] .no), (.int .i64 0)])), ([(.agg [(.int .i64 4), (.bool false), (.str [49]), (.sl [(.str [48])] .no), (.sl [(.str [50])] .no)])], (.tup [(.sl [(.agg [(.int .i64 19), (.int .i64 0), (.str []), (.str []), (.int .i64 3)]), (.agg [(.int .i64 20), (.int .i64 0), (.str []), (.str []), (.int .i64 1)]), (.agg [(.int .i64 3), (.int .i64 2), (.str []), (.str [49]), (.int .i64 0)]), (.agg [(.int .i64 3), (.int .i64 2), (.str []), (.str [48]), (.int .i64 0)]), (.agg [(.int .i64 3), (.int .i64 2), (.str []), (.str [50]), (.int .i64 0)])] .no), (.int .i64 0)])), ([(.agg [(.int .i64 4), (.bool false), (.str [49]), (.sl [(.str [49])] .no), (.sl [(.str [48])] .no)])], (.tup [(.sl [(.agg [(.int .i64 19), (.int .i64 0), (.str []), (.str []), (.int .i64 3)]), (.agg [(.int .i64 20), (.int .i64 0), (.str []), (.str []), (.int .i64 1)]), (.agg [(.int .i64 3), (.int .i64 2), (.str []), (.str [49]), (.int .i64 0)]), (.agg [(.int .i64 3), (.int .i64 2), (.str []), (.str [49]), (.int .i64 0)]), (.agg [(.int .i64 3), (.int .i64 2), (.str []), (.str [48]), (.int .i64 0)])] .no), (.int .i64 0)])), ([(.agg [(.int .i64 4), (.bool false), (.str [49]), (.sl [(.str [49])] .no), (.sl [(.str [50])] .no)])], (.tup [(.sl [(.agg [(.int .i64 19), (.int .i64 0), (.str []), (.str []), (.int .i64 3)]), (.agg [(.int .i64 20), (.int .i64 0), (.str []), (.str []), (.int .i64 1)]), (.agg [(.int .i64 3), (.int .i64 2), (.str []), (.str [49]), (.int .i64 0)]), (.agg [(.int .i64 3), (.int .i64 2), (.str []), (.str [49]), (.int .i64 0)]), (.agg [(.int .i64 3), (.int .i64 2), (.str []), (.str [50]), (.int .i64 0)])] .no), (.int .i64 0)])), ([(.agg [(.int .i64 4), (.bool false), (.str [49]), (.sl [(.str [50])] .no), (.sl [(.str [48])] .no)])], (.tup [(.sl [(.agg [(.int .i64 19), (.int .i64 0), (.str []), (.str []), (.int .i64 3)]), (.agg [(.int .i64 20), (.int .i64 0), (.str []), (.str []), (.int .i64 1)]), (.agg [(.int .i64 3), (.int .i64 2), (.str []), (.str [49]), (.int .i64 0)]), (.agg [(.int .i64 3), (.int .i64 2), (.str []), (.str [50]), (.int .i64 0)]), (.agg [(.int .i64 3), (.int .i64 2), (.str []), (.str [48]), (.int .i64 0)])] .no), (.int .i64 0)])), ([(.agg [(.int .i64 4), (.bool false), (.str [49]), (.sl [(.str [50])] .no), (.sl [(.str [50])] .no)])], (.tup [(.sl [(.agg [(.int .i64 19), (.int .i64 0), (.str []), (.str []), (.int .i64 3)]), (.agg [(.int .i64 20), (.int .i64 0), (.str []), (.str []), (.int .i64 1)]), (.agg [(.int .i64 3), (.int .i64 2), (.str []), (.str [49]), (.int .i64 0)]), (.agg [(.int .i64 3), (.int .i64 2), (.str []), (.str [50]), (.int .i64 0)]), (.agg [(.int .i64 3), (.int .i64 2), (.str []), (.str [50]), (.int .i64 0)])] .no), (.int .i64 0)])), ([(.agg [(.int .i64 4), (.bool false), (.str [50]), (.sl [(.str [48])] .no), (.sl [(.str [48])] .no)])], (.tup [(.sl [(.agg [(.int .i64 19), (.int .i64 0), (.str []), (.str []), (.int .i64 3)]), (.agg [(.int .i64 20), (.int .i64 0), (.str []), (.str []), (.int .i64 1)]), (.agg [(.int .i64 3), (.int .i64 2), (.str []), (.str [50]), (.int .i64 0)]), (.agg [(.int .i64 3), (.int .i64 2), (.str []), (.str [48]), (.int .i64 0)]), (.agg [(.int .i64 3), (.int .i64 2), (.str []), (.str [48]), (.int .i64 0)])] .no), (.int .i64 0)])), ([(.agg [(.int .i64 4), (.bool false), (.str [50]), (.sl [(.str [48])] .no), (.sl [(.str [49])] .no)])], (.tup [(.sl [(.agg [(.int .i64 19), (.int .i64 0), (.str []), (.str []), (.int .i64 3)]), (.agg [(.int .i64 20), (.int .i64 0), (.str []), (.str []), (.int .i64 1)]), (.agg [(.int .i64 3), (.int .i64 2), (.str []), (.str [50]), (.int .i64 0)]), (.agg [(.int .i64 3), (.int .i64 2), (.str []), (.str [48]), (.int .i64 0)]), (.agg [(.int .i64 3), (.int .i64 2), (.str []), (.str [49]), (.int .i64 0)])] .no), (.int .i64 0)])), ([(.agg [(.int .i64 4), (.bool false), (.str [50]), (.sl [] .no), (.sl [] .no)])], (.tup [(.sl [(.agg [(.int .i64 20), (.int .i64 0), (.str []), (.str []), (.int .i64 1)]), (.agg [(.int .i64 3), (.int .i64 2), (.str []), (.str [50]), (.int .i64 0)])] .no), (.int .i64 0)])), ([(.agg [(.int .i64 4), (.bool false), (.str [50]), (.sl [(.str [49])] .no), (.sl [(.str [48])] .no)])], (.tup [(.sl [(.agg [(.int .i64 19), (.int .i64 0), (.str []), (.str []), (.int .i64 3)]), (.agg [(.int .i64 20), (.int .i64 0), (.str []), (.str []), (.int .i64 1)]), (.agg [(.int .i64 3), (.int .i64 2), (.str []), (.str [50]), (.int .i64 0)]), (.agg [(.int .i64 3), (.int .i64 2), (.str []), (.str [49]), (.int .i64 0)]), (.agg [(.int .i64 3), (.int .i64 2), (.str []), (.str [48]), (.int .i64 0)])] .no), (.int .i64 0)])), ([(.agg [(.int .i64 4), (.bool false), (.str [50]), (.sl [(.str [49])] .no), (.sl [(.str [49])] .no)])], (.tup [(.sl [(.agg [(.int .i64 19), (.int .i64 0), (.str []), (.str []), (.int .i64 3)]), (.agg [(.int .i64 20), (.int .i64 0), (.str []), (.str []), (.int .i64 1)]), (.agg [(.int .i64 3), (.int .i64 2), (.str []), (.str [50]), (.int .i64 0)]), (.agg [(.int .i64 3), (.int .i64 2), (.str []), (.str [49]), (.int .i64 0)]), (.agg [(.int .i64 3), (.int .i64 2), (.str []), (.str [49]), (.int .i64 0)])] .no), (.int .i64 0)])), ([(.agg [(.int .i64 4), (.bool false), (.str [50]), (.sl [(.str [50])] .no), (.sl [(.str [48])] .no)])], (.tup [(.sl [(.agg [(.int .i64 19), (.int .i64 0), (.str []), (.str []), (.int .i64 3)]), (.agg [(.int .i64 20), (.int .i64 0), (.str []), (.str []), (.int .i64 1)]), (.agg [(.int .i64 3), (.int .i64 2), (.str []), (.str [50]), (.int .i64 0)]), (.agg [(.int .i64 3), (.int .i64 2), (.str []), (.str [50]), (.int .i64 0)]), (.agg [(.int .i64 3), (.int .i64 2), (.str []), (.str [48]), (.int .i64 0)])] .no), (.int .i64 0)])), ([(.agg [(.int .i64 4), (.bool false), (.str [50]), (.sl [(.str [50])] .no), (.sl [(.str [49])] .no)])], (.tup [(.sl [(.agg [(.int .i64 19), (.int .i64 0), (.str []), (.str []), (.int .i64 3)]), (.agg [(.int .i64 20), (.int .i64 0), (.str []), (.str []), (.int .i64 1)]), (.agg [(.int .i64 3), (.int .i64 2), (.str []), (.str [50]), (.int .i64 0)]), (.agg [(.int .i64 3), (.int .i64 2), (.str []), (.str [50]), (.int .i64 0)]), (.agg [(.int .i64 3), (.int .i64 2), (.str []), (.str [49]), (.int .i64 0)])] .no), (.int .i64 0)]))]
def tab167 : List (List AV × AV) := [([(.str [80])], (.bool true)), ([(.str [81])], (.bool true)), ([(.str [82])], (.bool true)), ([(.str [90])], (.bool true)), ([(.str [83])], (.bool true)), ([(.str [120])], (.bool true)), ([(.str [121])], (.bool true)), ([(.str [122])], (.bool true)), ([(.str [119])], (.bool true)), ([(.str [112])], (.bool true)), ([(.str [98])], (.bool true)), ([(.str [97])], (.bool true)), ([(.str [99])], (.bool true))]
def tab51 : List (List AV × AV) := [([], (.sl [(.agg [(.str [80]), (.sl [(.int .i64 2)] .no), (.int .i64 1)]), (.agg [(.str [81]), (.sl [(.int .i64 2), (.int .i64 2)] .no), (.int .i64 1)]), (.agg [(.str [82]), (.sl [(.int .i64 1), (.int .i64 2), (.int .i64 2)] .no), (.int .i64 1)]), (.agg [(.str [90]), (.sl [] .no), (.int .i64 1)]), (.agg [(.str [83]), (.sl [(.int .i64 3), (.int .i64 4)] .no), (.int .i64 1)])] .no))]
def tab119 : List (List AV × AV) := [([(.agg [(.str [80]), (.sl [(.int .i64 2)] .no), (.int .i64 1)])], (.bool false)), ([(.agg [(.str [81]), (.sl [(.int .i64 2), (.int .i64 2)] .no), (.int .i64 1)])], (.bool false)), ([(.agg [(.str [82]), (.sl [(.int .i64 1), (.int .i64 2), (.int .i64 2)] .no), (.int .i64 1)])], (.bool false)), ([(.agg [(.str [90]), (.sl [] .no), (.int .i64 1)])], (.bool false)), ([(.agg [(.str [83]), (.sl [(.int .i64 3), (.int .i64 4)] .no), (.int .i64 1)])], (.bool false))]
def tab96 : List (List AV × AV) := [([], (.sl [(.agg [(.str [120]), (.int .i64 2)]), (.agg [(.str [121]), (.int .i64 2)]), (.agg [(.str [122]), (.int .i64 3)]), (.agg [(.str [119]), (.int .i64 3)]), (.agg [(.str [112]), (.int .i64 1)]), (.agg [(.str [98]), (.int .i64 1)]), (.agg [(.str [97]), (.int .i64 4)]), (.agg [(.str [99]), (.int .i64 4)])] .no))]
def tabs : List (Nat × List (List AV × AV)) := [(73, tab73), (188, tab188), (167, tab167), (51, tab51), (119, tab119), (96, tab96), (19, [([], .bool true)])]
def inTab (tab : List (List AV × AV)) (xs : List AV) : Option AV := (tab.find? fun p => beqL p.1 xs).map (·.2)
def backF (f : Nat) : Option Nat := if f = 251 then some 259 else none
def hintF (f : Nat) : Hint :=
 if f = 243 then { mu := [21] }
 else if f = 54 then { mu := [39] }
 else if f = 159 then { byref := [1], owned := true }
 else if f = 185 then { byref := [0], owned := true }
 else {}
def cloneSem (esz bytes : Nat) : List AV → Option AV
 | [.sl xs _] => if allCells esz xs = true ∧ (idsL xs).isEmpty = true ∧ xs.length * (bytes + 1) ≤ 2 ^ 46 then some (.sl xs .no) else none
 | _ => none
def idxSem : List AV → Option AV
 | [.str s, .int .u8 c] => if 0 ≤ c ∧ c < 256 then some (.int .i64 (match s.findIdx? (fun (b : Nat) => decide ((b : Int) = c)) with | some i => (i : Int) | none => -1)) else none
 | _ => none
def extF (f : Nat) : Option (List AV → Option AV) := if f = 77 then some (cloneSem 1 8) else if f = 78 then some (cloneSem 2 24) else if f = 79 then some (cloneSem 5 56) else if f = 303 then some idxSem else none
noncomputable def Gam0 : AProg where
 fn f := cFun Tryz.prog backF (hintF f) f
 ext := extF
 iters := [259]
noncomputable def Gam : AProg where
 fn f := cFun Tryz.prog backF (hintF f) f
 ext f := match extF f with
   | some sem => some sem
   | none => (tabs.find? fun p => p.1 == f).map fun p => inTab p.2
 iters := [259]
end Go.Proofs.YtbeooboebfbchaaGreatDoor.Am
