/- An abstract machine with value semantics for Go functions of a loaded program: its values, its code, its interpreter, and a compiler from the program's code. -/
import Derived.Calls
import Derived.LoopN
set_option linter.unusedVariables false
set_option linter.unusedSimpArgs false
namespace Go.Proofs.YtbeooboebfbchaaGreatDoor.Am
open Go
set_option maxRecDepth 100000
inductive Tip where
 | no
 | full
 | nil
 | nn
 | at (slot gen : Nat)
 deriving DecidableEq, Inhabited
inductive AV where
 | undef
 | int (k : IntKind) (n : Int)
 | bool (b : Bool)
 | str (s : List Nat)
 | agg (cs : List AV)
 | tup (cs : List AV)
 | sl (xs : List AV) (t : Tip)
 | ob (slot gen off len : Nat)
 | ptr (slot gen idx off : Nat)
 | iptr (cells : List AV) (off : Nat)
 | nilptr
 | mp (slot gen : Nat)
 | nilmap
 | fn (f : Nat) (cap : List AV)
 | nilfn
 | nilif
 | bwd (f : Nat) (x : AV)
 deriving Inhabited
inductive AObj where
 | dead
 | blk (gen : Nat) (elems : List AV) (row grow : Bool) (fz : Nat)
 | tip (gen esz : Nat)
 | map (gen : Nat) (es : List (AV × AV))
 deriving Inhabited
inductive STy where
 | int | bool | str
 deriving DecidableEq, Inhabited
inductive ETy where
 | one (s : STy)
 | agg (ts : List STy)
 | sl | pt | mp | fn | iface
 deriving DecidableEq, Inhabited
inductive LenTy where
 | arr (n : Nat)
 | str | sl | mp | cap
 deriving DecidableEq, Inhabited
inductive AOpd where
 | tmp (t : Nat)
 | const (v : AV)
 deriving Inhabited
inductive AOp where
 | move (x : AOpd)
 | pick (c a b : AOpd)
 | alloc (slot : Nat) (zero : AV)
 | box (slot : Nat) (x : AOpd)
 | build (zero : List AV) (parts : List (Nat × Nat × AOpd))
 | buildSlice (slot : Nat) (mu : Bool) (zero : AV) (n : Nat) (parts : List (Nat × AOpd))
 | load (sz : Option Nat) (a : AOpd)
 | store (sz : Nat) (a x : AOpd)
 | nilCheck (x : AOpd)
 | binOp (op : BinOp) (t : ETy) (x y : AOpd)
 | unOp (op : UnOp) (x : AOpd)
 | cInt (k : IntKind) (x : AOpd)
 | cStr (x : AOpd)
 | toBytes (x : AOpd)
 | ofBytes (x : AOpd)
 | makeMap (slot : Nat)
 | lookup (t : ETy) (zero : AV) (x ix : AOpd) (ok : Bool)
 | mapUpdate (t : ETy) (m k v : AOpd)
 | makeSlice (slot : Nat) (zero : AV) (bytes : Nat) (len cap : AOpd)
 | makeRow (slot : Nat) (zero : AV) (bytes : Nat) (x n : AOpd)
 | slice (esz : Option Nat) (x : AOpd) (lo hi mx : Option AOpd)
 | fieldAddr (x : AOpd) (off : Nat)
 | field (x : AOpd) (off : Nat) (sz : Option Nat)
 | indexAddr (arr : Option Nat) (esz : Nat) (x ix : AOpd)
 | index (arr : Option (Nat × Nat × Option Nat)) (x ix : AOpd)
 | makeFunc (f : Nat) (cap : List AOpd)
 | extract (x : AOpd) (i : Nat)
 | len (t : LenTy) (x : AOpd)
 | minmax (mx : Bool) (x y : AOpd)
 | append (slot esz bytes : Nat) (mu : Bool) (x y : AOpd)
 | call (f : Nat) (args : List AOpd)
 | callv (x : AOpd) (args : List AOpd)
 | backward (f : Nat) (x : AOpd)
 | bad
 deriving Inhabited
structure AOper where
 dst : Option Nat
 op : AOp
 guard : Option (Nat × Bool)
 deriving Inhabited
inductive ACode where
 | skip
 | region (n : Nat) (ops : List AOper) (draw : List (Nat × Nat))
 | seq (a b : ACode)
 | cond (c : AOpd) (thn els : ACode)
 | block (id : Nat) (body : ACode)
 | loop (body : ACode)
 | exit (id : Nat)
 | ret
 | rangeB (x : AOpd) (p q : Nat) (assign body : ACode)
 | bad
 deriving Inhabited
inductive ARes where
 | tmp (t : Nat)
 | cell (t : Nat) (sz : Option Nat)
 deriving Inhabited
structure AFun where
 ntmps : Nat
 nslots : Nat
 body : ACode
 results : List ARes
 byref : List Nat := []
 owned : Bool := false
 deriving Inhabited
def AV.cells : AV → List AV
 | .agg cs => cs
 | v => [v]
def AV.def? : AV → Bool
 | .undef | .tup _ => false
 | _ => true
def AV.one : AV → Bool
 | .undef | .agg _ | .tup _ => false
 | _ => true
mutual
def AV.ids : AV → List Nat
 | .agg cs => idsL cs
 | .tup cs => idsL cs
 | .sl xs t => (match t with | .at s _ => [s] | _ => []) ++ idsL xs
 | .ob s _ _ _ => [s]
 | .ptr s _ _ _ => [s]
 | .iptr cs _ => idsL cs
 | .mp s _ => [s]
 | .fn _ cap => idsL cap
 | .bwd _ x => x.ids
 | _ => []
def idsL : List AV → List Nat
 | [] => []
 | v :: vs => v.ids ++ idsL vs
end
mutual
def AV.flat : AV → Bool
 | .int .. | .bool _ | .str _ | .undef => true
 | .agg cs => flatL cs
 | .tup cs => flatL cs
 | _ => false
def flatL : List AV → Bool
 | [] => true
 | v :: vs => v.flat && flatL vs
end
def AV.eq1 : STy → AV → AV → Option Bool
 | .int, .int k a, .int j b => if k = j then some (decide (a = b)) else none
 | .bool, .bool a, .bool b => some (a == b)
 | .str, .str a, .str b => some (decide (a = b))
 | _, _, _ => none
def eqL : List STy → List AV → List AV → Option Bool
 | [], [], [] => some true
 | t :: ts, a :: asx, b :: bs => match a.eq1 t b, eqL ts asx bs with
   | some x, some y => some (x && y)
   | _, _ => none
 | _, _, _ => none
def AV.eqv (t : ETy) (x y : AV) : Option Bool :=
 match t, x, y with
 | .one s, a, b => a.eq1 s b
 | .agg ts, .agg a, .agg b => eqL ts a b
 | .sl, .sl a t, .sl b u => match a, b with
   | [], _ :: _ => if t = .nil then some false else none
   | _ :: _, [] => if u = .nil then some false else none
   | [], [] => if t = .nil ∧ u = .nil then some true else if t = .nn ∧ u = .nil then some false else none
   | _, _ => none
 | .pt, .nilptr, .nilptr => some true
 | .pt, .nilptr, .ptr .. | .pt, .ptr .., .nilptr | .pt, .nilptr, .iptr .. | .pt, .iptr .., .nilptr => some false
 | .mp, .nilmap, .mp .. | .mp, .mp .., .nilmap => some false
 | .mp, .nilmap, .nilmap => some true
 | .fn, .nilfn, .fn .. | .fn, .fn .., .nilfn => some false
 | .fn, .nilfn, .nilfn => some true
 | .iface, .nilif, .nilif => some true
 | _, _, _ => none
mutual
def AV.beq : AV → AV → Bool
 | .undef, .undef => true
 | .int k a, .int j b => decide (k = j) && decide (a = b)
 | .bool a, .bool b => a == b
 | .str a, .str b => decide (a = b)
 | .agg a, .agg b => beqL a b
 | .tup a, .tup b => beqL a b
 | .sl a t, .sl b u => beqL a b && decide (t = u)
 | .ob a b c d, .ob a' b' c' d' => decide (a = a') && decide (b = b') && decide (c = c') && decide (d = d')
 | .ptr a b c d, .ptr a' b' c' d' => decide (a = a') && decide (b = b') && decide (c = c') && decide (d = d')
 | .iptr a o, .iptr b p => beqL a b && decide (o = p)
 | .nilptr, .nilptr => true
 | .mp a b, .mp a' b' => decide (a = a') && decide (b = b')
 | .nilmap, .nilmap => true
 | .fn f a, .fn g b => decide (f = g) && beqL a b
 | .nilfn, .nilfn => true
 | .nilif, .nilif => true
 | .bwd f a, .bwd g b => decide (f = g) && a.beq b
 | _, _ => false
def beqL : List AV → List AV → Bool
 | [], [] => true
 | a :: asx, b :: bs => a.beq b && beqL asx bs
 | _, _ => false
end
def beqP : List (AV × AV) → List (AV × AV) → Bool
 | [], [] => true
 | a :: asx, b :: bs => a.1.beq b.1 && a.2.beq b.2 && beqP asx bs
 | _, _ => false
def AObj.beq : AObj → AObj → Bool
 | .dead, .dead => true
 | .blk g a r w z, .blk g' b r' w' z' => decide (g = g') && beqL a b && r == r' && w == w' && decide (z = z')
 | .tip a b, .tip a' b' => decide (a = a') && decide (b = b')
 | .map g a, .map g' b => decide (g = g') && beqP a b
 | _, _ => false
def blkAt (h : List AObj) (s g : Nat) : Option (List AV × Bool × Bool × Nat) :=
 match h[s]? with
 | some (.blk g' es row grow fz) => if g = g' then some (es, row, grow, fz) else none
 | _ => none
def mapAt (h : List AObj) (s g : Nat) : Option (List (AV × AV)) :=
 match h[s]? with
 | some (.map g' es) => if g = g' then some es else none
 | _ => none
def mapOf (h : List AObj) : AV → Option (List (AV × AV))
 | .mp s g => mapAt h s g
 | .nilmap => some []
 | _ => none
def remade (e : AV) (cs : List AV) : AV := match e with | .agg _ => .agg cs | _ => cs.getD 0 .undef
def rowOf (h : List AObj) (s g off len : Nat) : Option (List AV) :=
 match blkAt h s g with
 | some (es, true, _, _) => if off + len ≤ es.length then some ((es.drop off).take len) else none
 | _ => none
mutual
def conv (h : List AObj) : AV → Option AV
 | .agg cs => (convL h cs).map .agg
 | .tup cs => (convL h cs).map .tup
 | .sl xs _ => some (.sl xs .no)
 | .ob s g off len => (rowOf h s g off len).map (.sl · .no)
 | v => some v
def convL (h : List AObj) : List AV → Option (List AV)
 | [] => some []
 | v :: vs => match conv h v, convL h vs with
   | some a, some b => some (a :: b)
   | _, _ => none
end
mutual
def AV.obs : AV → List (Nat × Nat)
 | .agg cs => obsL cs
 | .tup cs => obsL cs
 | .ob s _ off len => [(s, off + len)]
 | _ => []
def obsL : List AV → List (Nat × Nat)
 | [] => []
 | v :: vs => v.obs ++ obsL vs
end
def AObj.ids : AObj → List Nat
 | .blk _ es _ _ _ => idsL es
 | .map _ es => idsL (es.map (·.1)) ++ idsL (es.map (·.2))
 | _ => []
def reach (h : List AObj) : Nat → List Nat → List Nat → List Nat
 | 0, seen, todo => seen ++ todo
 | _, seen, [] => seen
 | n + 1, seen, s :: todo =>
   if seen.contains s then reach h n seen todo
   else reach h n (s :: seen) (((h[s]?).map AObj.ids).getD [] ++ todo)
def maskFrom (T : List Nat) : Nat → List AObj → List AObj
 | _, [] => []
 | i, o :: h => (if T.contains i then o else .dead) :: maskFrom T (i + 1) h
def mergeFrom (T : List Nat) : Nat → List AObj → List AObj → List AObj
 | i, o :: h, o' :: h' => (if T.contains i then o' else o) :: mergeFrom T (i + 1) h h'
 | _, h, [] => h
 | _, [], _ => []
def freezeAll (h : List AObj) : List (Nat × Nat) → List AObj
 | [] => h
 | s :: ss => freezeAll (match h[s.1]? with
   | some (.blk g es row grow fz) => h.set s.1 (.blk g es row grow (max fz s.2))
   | _ => h) ss
def pub (h : List AObj) (v : AV) : Option (AV × List AObj) := (conv h v).map fun v' => (v', freezeAll h v.obs)
abbrev Tmps := Nat → AV
def AOpd.ev (ts : Tmps) : AOpd → AV
 | .tmp t => ts t
 | .const v => v
def readCells (cells : List AV) (off : Nat) : Option Nat → Option AV
 | none => cells[off]?
 | some n => if off + n ≤ cells.length then some (.agg ((cells.drop off).take n)) else none
def splice (cells : List AV) (off : Nat) (vs : List AV) : Option (List AV) :=
 if off + vs.length ≤ cells.length then some (cells.take off ++ vs ++ cells.drop (off + vs.length)) else none
def fillParts (cells : List AV) : List (Nat × Nat × AV) → Option (List AV)
 | [] => some cells
 | (off, sz, v) :: rest =>
   if v.def? = true ∧ v.cells.length = sz then (splice cells off v.cells).bind (fillParts · rest) else none
def setParts (sz : Nat) (es : List AV) : List Nat → List AV → Option (List AV)
 | [], [] => some es
 | i :: is, v :: vs => if i < es.length ∧ v.def? = true ∧ v.cells.length = sz then setParts sz (es.set i v) is vs else none
 | _, _ => none
def pureOf : Sem Value → Option AV
 | .pure (.int k n) => some (.int k n)
 | .pure (.bool b) => some (.bool b)
 | _ => none
def strLess : List Nat → List Nat → Bool
 | _, [] => false
 | [], _ :: _ => true
 | a :: x, b :: y => decide (a < b) || (decide (a = b) && strLess x y)
def binStr (op : BinOp) (a b : List Nat) : Option AV :=
 match op with
 | .add => if a.length + b.length < 2 ^ 60 then some (.str (a ++ b)) else none
 | .eql => some (.bool (decide (a = b)))
 | .neq => some (.bool !(decide (a = b)))
 | .lss => some (.bool (strLess a b))
 | .leq => some (.bool (strLess a b || decide (a = b)))
 | .gtr => some (.bool !(strLess a b || decide (a = b)))
 | .geq => some (.bool !(strLess a b))
 | _ => none
def binInt (op : BinOp) (k : IntKind) (a b : Int) : Option AV :=
 match op with
 | .add => some (.int k (k.wrap (a + b)))
 | .sub => some (.int k (k.wrap (a - b)))
 | .mul => some (.int k (k.wrap (a * b)))
 | .quo => if b = 0 then none else some (.int k (k.wrap (a.tdiv b)))
 | .rem => if b = 0 then none else some (.int k (a.tmod b))
 | .eql => some (.bool (decide (a = b)))
 | .neq => some (.bool (!decide (a = b)))
 | .lss => some (.bool (decide (a < b)))
 | .leq => some (.bool (decide (a ≤ b)))
 | .gtr => some (.bool (decide (b < a)))
 | .geq => some (.bool (decide (b ≤ a)))
 | _ => none
def shiftVal (op : BinOp) (k : IntKind) (a b : Int) : Option AV :=
 if b < 0 then none else
 match op with
 | .shl => some (.int k (k.wrap (a * 2 ^ (min b.toNat k.bits))))
 | .shr => some (.int k (a.fdiv (2 ^ (min b.toNat k.bits))))
 | _ => none
def binVal (op : BinOp) (t : ETy) (x y : AV) : Option AV :=
 match x, y with
 | .int k a, .int j b => if op = .shl ∨ op = .shr then shiftVal op k a b else if k = j then binInt op k a b else none
 | .str a, .str b => binStr op a b
 | x, y => match op with
   | .eql => (x.eqv t y).map .bool
   | .neq => (x.eqv t y).map fun b => .bool !b
   | _ => none
def unVal (op : UnOp) (x : AV) : Option AV :=
 match op, x with
 | .neg, .int k n => some (.int k (k.wrap (0 - n)))
 | .not, .bool b => some (.bool !b)
 | _, _ => none
def bytesOf : List AV → Option (List Nat)
 | [] => some []
 | .int .u8 n :: vs => if 0 ≤ n ∧ n < 256 then (bytesOf vs).map (n.toNat :: ·) else none
 | _ => none
def findKey (t : ETy) (k : AV) : List (AV × AV) → Option (Option AV)
 | [] => some none
 | (k', v) :: es => match k.eqv t k' with
   | some true => some (some v)
   | some false => findKey t k es
   | none => none
def found (ok : Bool) (zero : AV) : Option AV → AV
 | some v => if ok then .tup [v, .bool true] else v
 | none => if ok then .tup [zero, .bool false] else zero
def putKey (t : ETy) (k v : AV) : List (AV × AV) → Option (List (AV × AV))
 | [] => some [(k, v)]
 | (k', v') :: es => match k.eqv t k' with
   | some true => some ((k, v) :: es)
   | some false => (putKey t k v es).map ((k', v') :: ·)
   | none => none
def bound (d : Nat) : Option AV → Option Nat
 | none => some d
 | some (.int _ i) => if 0 ≤ i then some i.toNat else none
 | _ => none
def headLen (esz : Nat) : List AV → Bool
 | [] => true
 | x :: _ => x.cells.length == esz
def sliceVal (h : List AObj) (esz : Option Nat) (x : AV) (lo hi mx : Option AV) : Option AV :=
 match esz, x with
 | none, .str s =>
   match bound 0 lo, bound s.length hi, mx with
   | some l, some r, none => if l ≤ r ∧ r ≤ s.length then some (.str ((s.take r).drop l)) else none
   | _, _, _ => none
 | some esz, .sl xs t =>
   match bound 0 lo, bound xs.length hi with
   | some l, some r =>
     if l ≤ r ∧ r ≤ xs.length ∧ headLen esz xs = true then
       match mx with
       | none => some (.sl ((xs.take r).drop l) (if r = xs.length then (if t = .nil then .nil else t) else .no))
       | some m => match bound 0 (some m) with
         | some m => if m = r ∧ hi.isSome = true then some (.sl ((xs.take r).drop l) .full) else none
         | none => none
     else none
   | _, _ => none
 | some esz, .ob s g off len =>
   match blkAt h s g, bound 0 lo, bound len hi, mx with
   | some (es, true, grow, _), some l, some r, none =>
     if l ≤ r ∧ headLen esz es = true ∧ (if grow then r ≤ len ∧ off + len ≤ es.length else off + r ≤ es.length) then some (.ob s g (off + l) (r - l)) else none
   | _, _, _, _ => none
 | _, _ => none
def lenVal (h : List AObj) (t : LenTy) (x : AV) : Option AV :=
 match t, x with
 | .arr n, _ => some (.int .i64 n)
 | .str, .str s => some (.int .i64 s.length)
 | .sl, .sl xs _ => some (.int .i64 xs.length)
 | .sl, .ob _ _ _ len => some (.int .i64 len)
 | .mp, .mp s g => (mapAt h s g).map fun es => .int .i64 es.length
 | .mp, .nilmap => some (.int .i64 0)
 | .cap, .sl xs t => if t = .nil ∨ t = .full then some (.int .i64 xs.length) else none
 | _, _ => none
def srcOf (h : List AObj) : AV → Option (List AV)
 | .sl ys _ => some ys
 | .ob s g off len => rowOf h s g off len
 | .str s => some (s.map fun (b : Nat) => .int .u8 (Int.ofNat b))
 | _ => none
def allCells (esz : Nat) : List AV → Bool
 | [] => true
 | v :: vs => v.def? && v.cells.length == esz && v.cells.all AV.one && allCells esz vs
def roomBound : Nat := 2 ^ 46
def appendVal (h : List AObj) (slot gen esz bytes : Nat) (mu : Bool) (x y : AV) : Option (AV × List AObj) :=
 match srcOf h y with
 | none => none
 | some ys =>
     if !allCells esz ys then none else
     match x with
     | .sl xs t =>
       if (xs.length + ys.length) * (bytes + 1) > roomBound || !allCells esz xs then none
       else if mu then
         match t, ys with
         | .full, _ :: _ | .nil, _ :: _ => some (.ob slot gen 0 (xs.length + ys.length), h.set slot (.blk gen (xs ++ ys) true true 0))
         | _, _ => none
       else
         match t with
         | .full | .nil => some (.sl (xs ++ ys) (.at slot gen), h.set slot (.tip gen esz))
         | .at s g =>
           match h[s]? with
           | some (.tip g' e) => if g = g' ∧ e = esz then some (.sl (xs ++ ys) (.at slot gen), (h.set s .dead).set slot (.tip gen esz)) else none
           | _ => none
         | _ => none
     | .ob s g off len =>
       match blkAt h s g with
       | some (es, true, grow, fz) =>
         if (len + ys.length) * (bytes + 1) > roomBound || !allCells esz es || !(off == 0) then none
         else if ys.isEmpty then some (.ob s g off len, h)
         else if grow then
           if fz ≤ len ∧ len ≤ es.length ∧ 0 < es.length then
             some (.ob slot gen 0 (len + ys.length), (h.set s .dead).set slot (.blk gen (es.take len ++ ys) true true fz))
           else none
         else if len + ys.length ≤ es.length then
           if fz ≤ len then some (.ob s g 0 (len + ys.length), h.set s (.blk g (es.take len ++ ys ++ es.drop (len + ys.length)) true false fz)) else none
         else if len ≤ es.length then
           some (.ob slot gen 0 (len + ys.length), h.set slot (.blk gen (es.take len ++ ys) true true 0))
         else none
       | _ => none
     | _ => none
def rowLen : AV → Option Nat
 | .sl xs _ => if xs.length < 2 ^ 48 then some xs.length else none
 | .ob _ _ _ len => if len < 2 ^ 48 then some len else none
 | _ => none
def prim (h : List AObj) (base gen : Nat) (ts : Tmps) : AOp → Option (AV × List AObj)
 | .move x => some (x.ev ts, h)
 | .pick c a b => match c.ev ts with
   | .bool t => some ((if t then a else b).ev ts, h)
   | _ => none
 | .alloc k z => if z.cells.isEmpty || !z.def? then none else some (.ptr (base + k) gen 0 0, h.set (base + k) (.blk gen [z] false false 0))
 | .box k x => if (x.ev ts).cells.isEmpty || !(x.ev ts).def? then none else some (.ptr (base + k) gen 0 0, h.set (base + k) (.blk gen [x.ev ts] false false 0))
 | .build zero parts => (fillParts zero (parts.map fun p => (p.1, p.2.1, p.2.2.ev ts))).map fun cs => (.agg cs, h)
 | .buildSlice k mu zero n parts =>
   if !zero.def? then none else
   match convL h (parts.map fun p => p.2.ev ts) with
   | some vs => (setParts zero.cells.length (List.replicate n zero) (parts.map (·.1)) vs).map fun es =>
     let h' := freezeAll h (obsL (parts.map fun p => p.2.ev ts))
     if mu then (.ob (base + k) gen 0 n, h'.set (base + k) (.blk gen es true false 0)) else (.sl es .full, h')
   | none => none
 | .load sz a => match a.ev ts with
   | .ptr s g i o => match blkAt h s g with
     | some (es, _, _, _) => (es[i]?).bind fun e => (readCells e.cells o sz).map (·, h)
     | none => none
   | .iptr cs o => (readCells cs o sz).map (·, h)
   | _ => none
 | .store sz a x => match a.ev ts with
   | .ptr s g i o => match blkAt h s g with
     | some (es, row, grow, fz) =>
       match es[i]?, (if row then pub h (x.ev ts) else some (x.ev ts, h)) with
       | some e, some (v, h') =>
         if v.def? = true ∧ v.cells.length = sz ∧ v.cells.all AV.one = true ∧ (row = true → fz ≤ i ∧ !((x.ev ts).obs.map (·.1)).contains s) then
           (splice e.cells o v.cells).map fun cs =>
             (.undef, h'.set s (.blk g (es.set i (remade e cs)) row grow fz))
         else none
       | _, _ => none
     | none => none
   | _ => none
 | .nilCheck x => match x.ev ts with
   | .ptr s g i o => some (.ptr s g i o, h)
   | .iptr cs o => some (.iptr cs o, h)
   | _ => none
 | .binOp op t x y => (binVal op t (x.ev ts) (y.ev ts)).map (·, h)
 | .unOp op x => (unVal op (x.ev ts)).map (·, h)
 | .cInt k x => match x.ev ts with
   | .int _ n => some (.int k (k.wrap n), h)
   | _ => none
 | .cStr x => match x.ev ts with
   | .str s => some (.str s, h)
   | _ => none
 | .toBytes x => match x.ev ts with
   | .str s => some (.sl (s.map fun (b : Nat) => .int .u8 (Int.ofNat b)) .no, h)
   | _ => none
 | .ofBytes x => match x.ev ts with
   | .str _ => none
   | x => ((srcOf h x).bind bytesOf).map fun s => (.str s, h)
 | .makeMap k => some (.mp (base + k) gen, h.set (base + k) (.map gen []))
 | .lookup t zero x ix ok =>
   match mapOf h (x.ev ts) with
   | some es => if ((ix.ev ts).eqv t (ix.ev ts)).isSome = true then (findKey t (ix.ev ts) es).map fun r =>
     (found ok zero r, h) else none
   | none => none
 | .mapUpdate t m k v => match m.ev ts with
   | .mp s g => match mapAt h s g, pub h (v.ev ts) with
     | some es, some (v', h') => if ((k.ev ts).eqv t (k.ev ts)).isSome = true then (putKey t (k.ev ts) v' es).map fun es' => (.undef, h'.set s (.map g es')) else none
     | _, _ => none
   | _ => none
 | .makeSlice k z bytes len cap => match len.ev ts, cap.ev ts with
   | .int _ n, .int _ c =>
     if 0 ≤ n ∧ n ≤ c ∧ c * (bytes + 1) ≤ roomBound ∧ z.def? = true then
       some (.ob (base + k) gen 0 n.toNat, h.set (base + k) (.blk gen (List.replicate c.toNat z) true false 0))
     else none
   | _, _ => none
 | .makeRow k z bytes x n => match x.ev ts, n.ev ts with
   | .sl [] .nil, .int _ m =>
     if m = 0 then some (.sl [] .nil, h)
     else if 0 < m ∧ m * (bytes + 1) ≤ roomBound ∧ z.def? = true then
       some (.ob (base + k) gen 0 m.toNat, h.set (base + k) (.blk gen (List.replicate m.toNat z) true true 0))
     else none
   | _, _ => none
 | .slice esz x lo hi mx => (sliceVal h esz (x.ev ts) (lo.map (·.ev ts)) (hi.map (·.ev ts)) (mx.map (·.ev ts))).map (·, h)
 | .fieldAddr x off => match x.ev ts with
   | .ptr s g i o => some (.ptr s g i (o + off), h)
   | .iptr cs o => some (.iptr cs (o + off), h)
   | _ => none
 | .field x off sz => match x.ev ts with
   | .agg cs => (readCells cs off sz).map (·, h)
   | _ => none
 | .indexAddr arr esz x ix => match ix.ev ts with
   | .int _ i =>
     if 0 ≤ i then
       match arr, x.ev ts with
       | none, .sl xs _ => match xs[i.toNat]? with
         | some e => if e.cells.length = esz then some (.iptr e.cells 0, h) else none
         | none => none
       | none, .ob s g off len => match blkAt h s g with
         | some (es, true, _, _) => match es[off + i.toNat]? with
           | some e => if i.toNat < len ∧ e.cells.length = esz then some (.ptr s g (off + i.toNat) 0, h) else none
           | none => none
         | _ => none
       | some n, .ptr s g k o => if i.toNat < n then some (.ptr s g k (o + i.toNat * esz), h) else none
       | some n, .iptr cs o => if i.toNat < n then some (.iptr cs (o + i.toNat * esz), h) else none
       | _, _ => none
     else none
   | _ => none
 | .index arr x ix => match ix.ev ts with
   | .int _ i =>
     if 0 ≤ i then
       match arr, x.ev ts with
       | none, .str s => (s[i.toNat]?).map fun (b : Nat) => (.int .u8 (Int.ofNat b), h)
       | some (n, esz, sz), .agg cs => if i.toNat < n then (readCells cs (i.toNat * esz) sz).map (·, h) else none
       | _, _ => none
     else none
   | _ => none
 | .makeFunc f cap => some (.fn f (cap.map (·.ev ts)), h)
 | .extract x i => match x.ev ts with
   | .tup cs => (cs[i]?).map (·, h)
   | _ => none
 | .len t x => (lenVal h t (x.ev ts)).map (·, h)
 | .minmax mx x y => match x.ev ts, y.ev ts with
   | .int k a, .int _ b => some (.int k (if mx then (if b > a then b else a) else (if b < a then b else a)), h)
   | _, _ => none
 | .append k esz bytes mu x y => appendVal h (base + k) gen esz bytes mu (x.ev ts) (y.ev ts)
 | .backward f x => if (rowLen (x.ev ts)).isSome then some (.bwd f (x.ev ts), h) else none
 | .call .. => none
 | .callv .. => none
 | .bad => none
def passArgs (h : List AObj) (byref : List Nat) : Nat → List AV → Option (List AV)
 | _, [] => some []
 | i, v :: vs => match (if byref.contains i then some v else conv h v), passArgs h byref (i + 1) vs with
   | some a, some b => some (a :: b)
   | _, _ => none
def lentSlots (byref : List Nat) : Nat → List AV → List (Nat × Nat)
 | _, [] => []
 | i, v :: vs => (if byref.contains i then [] else v.obs) ++ lentSlots byref (i + 1) vs
structure AProg where
 fn : Nat → Option AFun
 ext : Nat → Option (List AV → Option AV)
 iters : List Nat := []
def callFoot (Γ : AProg) (f : Nat) (args : List AV) (h : List AObj) : List Nat :=
 (obsL args).map (·.1) ++ match Γ.ext f with
   | some _ => []
   | none => match Γ.fn f with
     | none => []
     | some af => match passArgs h af.byref 0 args with
       | none => []
       | some asx => reach h (h.length + 1) [] (idsL asx)
def touched (F : List Nat) (h h' : List AObj) : List Nat × List Nat :=
 (F, F.filter fun i => !((h.getD i .dead).beq (h'.getD i .dead)))
def foot (Γ : AProg) (h h' : List AObj) (base : Nat) (ts : Tmps) : AOp → List Nat × List Nat
 | .alloc k _ => ([], [base + k])
 | .box k _ => ([], [base + k])
 | .makeMap k => ([], [base + k])
 | .makeSlice k .. => ([], [base + k])
 | .makeRow k .. => ([], [base + k])
 | .load _ a => ((a.ev ts).ids, [])
 | .store _ a x => ([], (a.ev ts).ids ++ (x.ev ts).obs.map (·.1))
 | .buildSlice k mu _ _ parts => ([], (if mu then [base + k] else []) ++ (obsL (parts.map fun p => p.2.ev ts)).map (·.1))
 | .ofBytes x => ((x.ev ts).ids, [])
 | .lookup _ _ x _ _ => ((x.ev ts).ids, [])
 | .mapUpdate _ m _ v => ([], (m.ev ts).ids ++ (v.ev ts).obs.map (·.1))
 | .slice _ x _ _ _ => ((x.ev ts).ids, [])
 | .indexAddr _ _ x _ => ((x.ev ts).ids, [])
 | .len _ x => ((x.ev ts).ids, [])
 | .append k _ _ _ x y => ((y.ev ts).ids, (base + k) :: (x.ev ts).ids)
 | .call f args => touched (callFoot Γ f (args.map (·.ev ts)) h) h h'
 | .callv x args => match x.ev ts with
   | .fn f cap => touched (callFoot Γ f (args.map (·.ev ts) ++ cap) h) h h'
   | _ => ([], [])
 | _ => ([], [])
def disjoint (a b : List Nat) : Bool := a.all fun x => !b.contains x
def apart (f g : List Nat × List Nat) : Bool :=
 disjoint f.2 g.1 && disjoint f.2 g.2 && disjoint g.2 f.1
inductive AEx where
 | norm
 | exit (id : Nat)
 | ret
 deriving DecidableEq, Inhabited
structure St where
 ts : Tmps
 h : List AObj
 clk : Nat
abbrev Caller := Nat → List AV → List AObj → Nat → Option (AV × List AObj × Nat)
def wantedA (ts : Tmps) : Option (Nat × Bool) → Option Bool
 | none => some true
 | some (t, b) => match ts t with
   | .bool x => some (x == b)
   | .tup [] => some false
   | _ => none
def upd (ts : Tmps) (d : Nat) (v : AV) : Tmps := fun j => if j = d then v else ts j
def putA (ts : Tmps) (d : Option Nat) (v : AV) : Tmps :=
 match d with
 | some d => upd ts d v
 | none => ts
def entry (asx : List AV) : Tmps := fun j => asx.getD j .undef
def stepA (C : Caller) (base gen : Nat) (o : AOper) (s : St) : Option St :=
 match wantedA s.ts o.guard with
 | some true =>
   match o.op with
   | .call f args =>
     match C f (args.map (·.ev s.ts)) s.h s.clk with
     | some (v, h, c) => some ⟨putA s.ts o.dst v, h, c⟩
     | none => none
   | .callv x args =>
     match x.ev s.ts with
     | .fn f cap =>
       match C f (args.map (·.ev s.ts) ++ cap) s.h s.clk with
       | some (v, h, c) => some ⟨putA s.ts o.dst v, h, c⟩
       | none => none
     | _ => none
   | op =>
     match prim s.h base gen s.ts op with
     | some (v, h) => some ⟨putA s.ts o.dst v, h, s.clk⟩
     | none => none
 | some false => some ⟨putA s.ts o.dst (.tup []), s.h, s.clk⟩
 | none => none
def runOps (C : Caller) (base : Nat) : Nat → List AOper → St → Option St
 | _, [], s => some s
 | g, o :: os, s => match stepA C base g o s with
   | some s' => runOps C base (g + 1) os s'
   | none => none
def runFoot (C : Caller) (Γ : AProg) (base : Nat) : Nat → List AOper → St → Option (St × List (List Nat × List Nat))
 | _, [], s => some (s, [])
 | g, o :: os, s =>
   match stepA C base g o s with
   | some s' => (runFoot C Γ base (g + 1) os s').map fun r => (r.1, (if wantedA s.ts o.guard = some true then foot Γ s.h s'.h base s.ts o.op else ([], [])) :: r.2)
   | none => none
def AOp.isCall : AOp → Bool
 | .call .. | .callv .. => true
 | _ => false
def callAt (ops : List AOper) (i : Nat) : Bool := ((ops[i]?).map (·.op.isCall)).getD false
def footAt (fs : List (List Nat × List Nat)) (i : Nat) : List Nat := (fs.getD i ([], [])).1 ++ (fs.getD i ([], [])).2
def region (C : Caller) (Γ : AProg) (base n : Nat) (ops : List AOper) (draw : List (Nat × Nat)) (s : St) : Option St :=
 match draw with
 | [] => runOps C base s.clk ops { s with clk := s.clk + n }
 | ps => match runFoot C Γ base s.clk ops { s with clk := s.clk + n } with
   | some (s', fs) => if ps.all (fun p => apart (fs.getD p.1 ([], [])) (fs.getD p.2 ([], [])) &&
       (!(callAt ops p.1 || callAt ops p.2) || ((footAt fs p.1 ++ footAt fs p.2).all (· < s.h.length)))) then some s' else none
   | none => none
def resultsA (h : List AObj) (ts : Tmps) : List ARes → Option (List AV)
 | [] => some []
 | .tmp t :: rs => (resultsA h ts rs).map (ts t :: ·)
 | .cell t sz :: rs =>
   match ts t with
   | .ptr s g i o => match blkAt h s g with
     | some (es, _, _, _) => match (es[i]?).bind fun e => readCells e.cells o sz with
       | some v => (resultsA h ts rs).map (v :: ·)
       | none => none
     | none => none
   | _ => none
def oneOf : List AV → AV
 | [v] => v
 | vs => .tup vs
def callWith (R : Nat → ACode → St → Option (AEx × St)) (Γ : AProg) : Caller := fun f args h clk =>
 match Γ.ext f with
 | some sem => match passArgs h [] 0 args with
   | some asx => if (lentSlots [] 0 args).isEmpty then (sem asx).map fun v => (v, h, clk) else none
   | none => none
 | none =>
   match Γ.fn f with
   | none => none
   | some af =>
     match passArgs h af.byref 0 args with
     | none => none
     | some asx =>
       let T := reach h (h.length + 1) [] (idsL asx)
       let hf := freezeAll h (lentSlots af.byref 0 args)
       match R h.length af.body ⟨entry asx, maskFrom T 0 hf ++ List.replicate af.nslots .dead, clk⟩ with
       | some (.exit _, _) => none
       | none => none
       | some (_, s) =>
         match resultsA s.h s.ts af.results with
         | none => none
         | some vs =>
           match (if af.owned then some (oneOf vs) else conv s.h (oneOf vs)) with
           | none => none
           | some v =>
             let hr := if af.owned then s.h else freezeAll s.h (oneOf vs).obs
             let m := mergeFrom T 0 (if v.flat && T.isEmpty then h else hf) hr
             if (v.ids ++ (T.map fun i => ((hr[i]?).map AObj.ids).getD []).flatten).all (· < h.length) then some (v, m, clk)
             else some (v, m ++ hr.drop h.length, s.clk)
def elemAt (h : List AObj) (v : AV) (n : Nat) : Option AV :=
 match srcOf h v with
 | some xs => match xs[n]? with
   | some x => if x.one then some x else none
   | none => none
 | none => none
def rounds (R : St → Option (AEx × St)) (v : AV) (ts : Tmps) (p q : Nat) : Nat → List AObj × Nat → Option (List AObj × Nat)
 | 0, m => some m
 | n + 1, m => match elemAt m.1 v n with
   | some x => match R ⟨upd (upd ts p (.int .i64 n)) q x, m.1, m.2⟩ with
     | some (.norm, s) => rounds R v ts p q n (s.h, s.clk)
     | _ => none
   | none => none
def exec (Γ : AProg) : Nat → Nat → ACode → St → Option (AEx × St)
 | 0, _, _, _ => none
 | k + 1, base, c, s =>
   match c with
   | .skip => some (.norm, s)
   | .region n ops draw => (region (callWith (exec Γ k) Γ) Γ base n ops draw s).map (.norm, ·)
   | .seq a b => match exec Γ k base a s with
     | some (.norm, s') => exec Γ k base b s'
     | r => r
   | .cond c a b => match c.ev s.ts with
     | .bool t => exec Γ k base (if t then a else b) s
     | _ => none
   | .block id b => match exec Γ k base b s with
     | some (.exit i, s') => if i = id then some (.norm, s') else some (.exit i, s')
     | r => r
   | .loop b => match exec Γ k base b s with
     | some (.norm, s') => exec Γ k base (.loop b) s'
     | r => r
   | .exit id => some (.exit id, s)
   | .ret => some (.ret, s)
   | .rangeB x p q assign body => match x.ev s.ts with
     | .bwd f v => match rowLen v with
       | some n => if Γ.iters.contains f then (rounds (fun s => match exec Γ k base assign s with
         | some (.norm, s') => exec Γ k base body s'
         | r => r) v s.ts p q n (s.h, s.clk)).map fun m => (.norm, ⟨s.ts, m.1, m.2⟩) else none
       | none => none
     | _ => none
   | .bad => none
def callA (Γ : AProg) (k : Nat) : Caller := callWith (exec Γ k) Γ
end Go.Proofs.YtbeooboebfbchaaGreatDoor.Am
