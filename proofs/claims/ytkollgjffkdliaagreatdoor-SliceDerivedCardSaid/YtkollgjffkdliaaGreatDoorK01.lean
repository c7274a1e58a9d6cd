/- An abstract machine with value semantics for Go functions of a loaded program: its values, its code, its interpreter, and a compiler from the program's code The compiler from a loaded program's functi -/
import Derived.Calls
import Derived.LoopN
import Derived.KernelRfl
import Derived.Test.YtkollgjffkdliaaGreatDoorProg
open List renaming replicate → x3
open Nat renaming add_mul → k9
set_option linter.all false
namespace Go.Proofs.YtkollgjffkdliaaGreatDoor.Am
open Go
theorem n9 {p : Prop} {_ : Decidable p} : decide p = false ↔ ¬p := decide_eq_false_iff_not
theorem r8 {p : Prop} [Decidable p] : decide p = true ↔ p := decide_eq_true_iff
set_option maxRecDepth 100000
inductive Tip where
 | no
 | full
 | nil
 | nn
 | at (slot gen:Nat)
 deriving DecidableEq,Inhabited
inductive AV where
 | undef
 | int (k:IntKind) (n:Int)
 | bool (b:Bool)
 | str (s:List Nat)
 | agg (cs:List AV)
 | tup (cs:List AV)
 | sl (xs:List AV) (t:Tip)
 | ob (slot gen off len:Nat)
 | ptr (slot gen idx off:Nat)
 | iptr (cells:List AV) (off:Nat)
 | nilptr
 | mp (slot gen:Nat)
 | nilmap
 | fn (f:Nat) (cap:List AV)
 | nilfn
 | nilif
 | bwd (f:Nat) (x:AV)
 deriving Inhabited
def z6i:Nat:=1048576
def real (f:Nat):Nat:=f % z6i
theorem k4m {f j:Nat} (h:f < z6i):real (f + z6i * j)=f:=by
 unfold real
 rw[Nat.add_mul_mod_self_left,Nat.mod_eq_of_lt h]
theorem j8f {f:Nat} (h:f < z6i):real f=f:=Nat.mod_eq_of_lt h
inductive AObj where
 | dead
 | blk (gen:Nat) (elems:List AV) (row grow:Bool) (fz:Nat)
 | tip (gen esz:Nat)
 | map (gen:Nat) (es:List (AV×AV))
 deriving Inhabited
inductive STy where
 | int | bool | str
 deriving DecidableEq,Inhabited
inductive ETy where
 | one (s:STy)
 | agg (ts:List STy)
 | sl | pt | mp | fn | iface
 deriving DecidableEq,Inhabited
inductive LenTy where
 | arr (n:Nat)
 | str | sl | mp | cap
 deriving DecidableEq,Inhabited
inductive AOpd where
 | tmp (t:Nat)
 | const (v:AV)
 deriving Inhabited
inductive AOp where
 | move (x:AOpd)
 | pick (c a b:AOpd)
 | alloc (slot:Nat) (zero:AV)
 | box (slot:Nat) (x:AOpd)
 | build (zero:List AV) (parts:List (Nat×Nat×AOpd))
 | buildSlice (slot:Nat) (mu:Bool) (zero:AV) (n:Nat) (parts:List (Nat×AOpd))
 | load (sz:Option Nat) (a:AOpd)
 | store (sz:Nat) (a x:AOpd)
 | nilCheck (x:AOpd)
 | binOp (op:BinOp) (t:ETy) (x y:AOpd)
 | unOp (op:UnOp) (x:AOpd)
 | cInt (k:IntKind) (x:AOpd)
 | cStr (x:AOpd)
 | toBytes (x:AOpd)
 | ofBytes (x:AOpd)
 | makeMap (slot:Nat)
 | lookup (t:ETy) (zero:AV) (x ix:AOpd) (ok:Bool)
 | mapUpdate (t:ETy) (m k v:AOpd)
 | makeSlice (slot:Nat) (zero:AV) (bytes:Nat) (len cap:AOpd)
 | makeRow (slot:Nat) (zero:AV) (bytes:Nat) (x n:AOpd)
 | slice (esz:Option Nat) (x:AOpd) (lo hi mx:Option AOpd)
 | fieldAddr (x:AOpd) (off:Nat)
 | field (x:AOpd) (off:Nat) (sz:Option Nat)
 | indexAddr (arr:Option Nat) (esz:Nat) (x ix:AOpd)
 | index (arr:Option (Nat×Nat×Option Nat)) (x ix:AOpd)
 | makeFunc (f:Nat) (cap:List AOpd)
 | extract (x:AOpd) (i:Nat)
 | len (t:LenTy) (x:AOpd)
 | minmax (mx:Bool) (x y:AOpd)
 | append (slot esz bytes:Nat) (mu:Bool) (x y:AOpd)
 | call (f:Nat) (args:List AOpd)
 | callv (x:AOpd) (args:List AOpd)
 | backward (f:Nat) (x:AOpd)
 | bad
 deriving Inhabited
structure AOper where
 dst:Option Nat
 op:AOp
 guard:Option (Nat×Bool)
 deriving Inhabited
inductive ACode where
 | skip
 | region (n:Nat) (ops:List AOper) (draw:List (Nat×Nat))
 | seq (a b:ACode)
 | cond (c:AOpd) (thn els:ACode)
 | block (id:Nat) (body:ACode)
 | loop (body:ACode)
 | exit (id:Nat)
 | ret
 | rangeB (x:AOpd) (p q:Nat) (assign body:ACode)
 | bad
 deriving Inhabited
inductive ARes where
 | tmp (t:Nat)
 | cell (t:Nat) (sz:Option Nat)
 deriving Inhabited
structure AFun where
 ntmps:Nat
 nslots:Nat
 body:ACode
 results:List ARes
 byref:List Nat:=[]
 owned:Bool:=false
 deriving Inhabited
def AV.cells:AV→List AV
 | .agg cs=>cs
 | v=>[v]
def AV.def? :AV→Bool
 | .undef | .tup _=>false
 | _=>true
def AV.one:AV→Bool
 | .undef | .agg _ | .tup _=>false
 | _=>true
mutual
def AV.ids:AV→List Nat
 | .agg cs=>z0i cs
 | .tup cs=>z0i cs
 | .sl xs t=>(match t with | .at s _=>[s] | _=>[])++z0i xs
 | .ob s _ _ _=>[s]
 | .ptr s _ _ _=>[s]
 | .iptr cs _=>z0i cs
 | .mp s _=>[s]
 | .fn _ cap=>z0i cap
 | .bwd _ x=>x.ids
 | _=>[]
def z0i:List AV→List Nat
 | []=>[]
 | v::vs=>v.ids++z0i vs
end
mutual
def AV.flat:AV→Bool
 | .int .. | .bool _ | .str _ | .undef=>true
 | .agg cs=>x6m cs
 | .tup cs=>x6m cs
 | _=>false
def x6m:List AV→Bool
 | []=>true
 | v::vs=>v.flat && x6m vs
end
def AV.eq1:STy→AV→AV→Option Bool
 | .int, .int k a, .int j b=>if k=j then some (decide (a=b)) else none
 | .bool, .bool a, .bool b=>some (a==b)
 | .str, .str a, .str b=>some (decide (a=b))
 | _,_,_=>none
def eqL:List STy→List AV→List AV→Option Bool
 | [],[],[]=>some true
 | t::ts,a::asx,b::bs=>match a.eq1 t b,eqL ts asx bs with
   | some x,some y=>some (x && y)
   | _,_=>none
 | _,_,_=>none
def AV.eqv (t:ETy) (x y:AV):Option Bool:=
 match t,x,y with
 | .one s,a,b=>a.eq1 s b
 | .agg ts, .agg a, .agg b=>eqL ts a b
 | .sl, .sl a t, .sl b u=>match a,b with
   | [],_::_=>if t= .nil then some false else none
   | _::_,[]=>if u= .nil then some false else none
   | [],[]=>if t= .nil∧u= .nil then some true else if t= .nn∧u= .nil then some false else none
   | _,_=>none
 | .pt, .nilptr, .nilptr=>some true
 | .pt, .nilptr, .ptr .. | .pt, .ptr .., .nilptr | .pt, .nilptr, .iptr .. | .pt, .iptr .., .nilptr=>some false
 | .mp, .nilmap, .mp .. | .mp, .mp .., .nilmap=>some false
 | .mp, .nilmap, .nilmap=>some true
 | .fn, .nilfn, .fn .. | .fn, .fn .., .nilfn=>some false
 | .fn, .nilfn, .nilfn=>some true
 | .iface, .nilif, .nilif=>some true
 | _,_,_=>none
mutual
def AV.beq:AV→AV→Bool
 | .undef, .undef=>true
 | .int k a, .int j b=>decide (k=j) && decide (a=b)
 | .bool a, .bool b=>a==b
 | .str a, .str b=>decide (a=b)
 | .agg a, .agg b=>j5u a b
 | .tup a, .tup b=>j5u a b
 | .sl a t, .sl b u=>j5u a b && decide (t=u)
 | .ob a b c d, .ob a' b' c' d'=>decide (a=a') && decide (b=b') && decide (c=c') && decide (d=d')
 | .ptr a b c d, .ptr a' b' c' d'=>decide (a=a') && decide (b=b') && decide (c=c') && decide (d=d')
 | .iptr a o, .iptr b p=>j5u a b && decide (o=p)
 | .nilptr, .nilptr=>true
 | .mp a b, .mp a' b'=>decide (a=a') && decide (b=b')
 | .nilmap, .nilmap=>true
 | .fn f a, .fn g b=>decide (f=g) && j5u a b
 | .nilfn, .nilfn=>true
 | .nilif, .nilif=>true
 | .bwd f a, .bwd g b=>decide (f=g) && a.beq b
 | _,_=>false
def j5u:List AV→List AV→Bool
 | [],[]=>true
 | a::asx,b::bs=>a.beq b && j5u asx bs
 | _,_=>false
end
def v0y:List (AV×AV)→List (AV×AV)→Bool
 | [],[]=>true
 | a::asx,b::bs=>a.1.beq b.1 && a.2.beq b.2 && v0y asx bs
 | _,_=>false
def AObj.beq:AObj→AObj→Bool
 | .dead, .dead=>true
 | .blk g a r w z, .blk g' b r' w' z'=>decide (g=g') && j5u a b && r==r' && w==w' && decide (z=z')
 | .tip a b, .tip a' b'=>decide (a=a') && decide (b=b')
 | .map g a, .map g' b=>decide (g=g') && v0y a b
 | _,_=>false
def z2f (h:List AObj) (s g:Nat):Option (List AV×Bool×Bool×Nat):=
 match h[s]? with
 | some (.blk g' es row grow fz)=>if g=g' then some (es,row,grow,fz) else none
 | _=>none
def z5d (h:List AObj) (s g:Nat):Option (List (AV×AV)):=
 match h[s]? with
 | some (.map g' es)=>if g=g' then some es else none
 | _=>none
def x6n (h:List AObj):AV→Option (List (AV×AV))
 | .mp s g=>z5d h s g
 | .nilmap=>some []
 | _=>none
def z7l (e:AV) (cs:List AV):AV:=match e with | .agg _=> .agg cs | _=>cs.getD 0 .undef
def q3h (h:List AObj) (s g off len:Nat):Option (List AV):=
 match z2f h s g with
 | some (es,true,_,_)=>if off + len≤es.length then some ((es.drop off).take len) else none
 | _=>none
mutual
def conv (h:List AObj):AV→Option AV
 | .agg cs=>(z8f h cs).map .agg
 | .tup cs=>(z8f h cs).map .tup
 | .sl xs _=>some (.sl xs .no)
 | .ob s g off len=>(q3h h s g off len).map (.sl · .no)
 | v=>some v
def z8f (h:List AObj):List AV→Option (List AV)
 | []=>some []
 | v::vs=>match conv h v,z8f h vs with
   | some a,some b=>some (a::b)
   | _,_=>none
end
mutual
def AV.obs:AV→List (Nat×Nat)
 | .agg cs=>z4u cs
 | .tup cs=>z4u cs
 | .ob s _ off len=>[(s,off + len)]
 | _=>[]
def z4u:List AV→List (Nat×Nat)
 | []=>[]
 | v::vs=>v.obs++z4u vs
end
def AObj.ids:AObj→List Nat
 | .blk _ es _ _ _=>z0i es
 | .map _ es=>z0i (es.map (·.1))++z0i (es.map (·.2))
 | _=>[]
def reach (h:List AObj):Nat→List Nat→List Nat→List Nat
 | 0,seen,z8w=>seen++z8w
 | _,seen,[]=>seen
 | n + 1,seen,s::z8w=>
   if seen.contains s then reach h n seen z8w
   else reach h n (s::seen) (((h[s]?).map AObj.ids).getD []++z8w)
def maskFrom (T:List Nat):Nat→List AObj→List AObj
 | _,[]=>[]
 | i,o::h=>(if T.contains i then o else .dead)::maskFrom T (i + 1) h
def z0n (T:List Nat):Nat→List AObj→List AObj→List AObj
 | i,o::h,o'::h'=>(if T.contains i then o' else o)::z0n T (i + 1) h h'
 | _,h,[]=>h
 | _,[],_=>[]
def freezeAll (h:List AObj):List (Nat×Nat)→List AObj
 | []=>h
 | s::ss=>freezeAll (match h[s.1]? with
   | some (.blk g es row grow fz)=>h.set s.1 (.blk g es row grow (max fz s.2))
   | _=>h) ss
def pub (h:List AObj) (v:AV):Option (AV×List AObj):=(conv h v).map fun v'=>(v',freezeAll h v.obs)
abbrev Tmps:=Nat→AV
def AOpd.ev (ts:Tmps):AOpd→AV
 | .tmp t=>ts t
 | .const v=>v
def z1w (cells:List AV) (off:Nat):Option Nat→Option AV
 | none=>cells[off]?
 | some n=>if off + n≤cells.length then some (.agg ((cells.drop off).take n)) else none
def z7m (cells:List AV) (off:Nat) (vs:List AV):Option (List AV):=
 if off + vs.length≤cells.length then some (cells.take off++vs++cells.drop (off + vs.length)) else none
def z5o (cells:List AV):List (Nat×Nat×AV)→Option (List AV)
 | []=>some cells
 | (off,sz,v)::rest=>
   if v.def? =true∧v.cells.length=sz then (z7m cells off v.cells).bind (z5o · rest) else none
def z4f (sz:Nat) (es:List AV):List Nat→List AV→Option (List AV)
 | [],[]=>some es
 | i::is,v::vs=>if i < es.length∧v.def? =true∧v.cells.length=sz then z4f sz (es.set i v) is vs else none
 | _,_=>none
def z5l:List Nat→List Nat→Bool
 | _,[]=>false
 | [],_::_=>true
 | a::x,b::y=>decide (a < b) || (decide (a=b) && z5l x y)
def q8c (op:BinOp) (a b:List Nat):Option AV:=
 match op with
 | .add=>if a.length + b.length < 2 ^ 60 then some (.str (a++b)) else none
 | .eql=>some (.bool (decide (a=b)))
 | .neq=>some (.bool !(decide (a=b)))
 | .lss=>some (.bool (z5l a b))
 | .leq=>some (.bool (z5l a b || decide (a=b)))
 | .gtr=>some (.bool !(z5l a b || decide (a=b)))
 | .geq=>some (.bool !(z5l a b))
 | _=>none
def z7n (op:BinOp) (k:IntKind) (a b:Int):Option AV:=
 match op with
 | .add=>some (.int k (k.wrap (a + b)))
 | .sub=>some (.int k (k.wrap (a - b)))
 | .mul=>some (.int k (k.wrap (a * b)))
 | .quo=>if b=0 then none else some (.int k (k.wrap (a.tdiv b)))
 | .rem=>if b=0 then none else some (.int k (a.tmod b))
 | .eql=>some (.bool (decide (a=b)))
 | .neq=>some (.bool (!decide (a=b)))
 | .lss=>some (.bool (decide (a < b)))
 | .leq=>some (.bool (decide (a≤b)))
 | .gtr=>some (.bool (decide (b < a)))
 | .geq=>some (.bool (decide (b≤a)))
 | _=>none
def q7o (op:BinOp) (k:IntKind) (a b:Int):Option AV:=
 if b < 0 then none else
 match op with
 | .shl=>some (.int k (k.wrap (a * 2 ^ (min b.toNat k.bits))))
 | .shr=>some (.int k (a.fdiv (2 ^ (min b.toNat k.bits))))
 | _=>none
def z4v (op:BinOp) (t:ETy) (x y:AV):Option AV:=
 match x,y with
 | .int k a, .int j b=>if op= .shl∨op= .shr then q7o op k a b else if k=j then z7n op k a b else none
 | .str a, .str b=>q8c op a b
 | x,y=>match op with
   | .eql=>(x.eqv t y).map .bool
   | .neq=>(x.eqv t y).map fun b=> .bool !b
   | _=>none
def k4n (op:UnOp) (x:AV):Option AV:=
 match op,x with
 | .neg, .int k n=>some (.int k (k.wrap (0 - n)))
 | .not, .bool b=>some (.bool !b)
 | _,_=>none
def z6w:List AV→Option (List Nat)
 | []=>some []
 | .int .u8 n::vs=>if 0≤n∧n < 256 then (z6w vs).map (n.toNat:: ·) else none
 | _=>none
def findKey (t:ETy) (k:AV):List (AV×AV)→Option (Option AV)
 | []=>some none
 | (k',v)::es=>match k.eqv t k' with
   | some true=>some (some v)
   | some false=>findKey t k es
   | none=>none
def q4f (ok:Bool) (zero:AV):Option AV→AV
 | some v=>if ok then .tup [v, .bool true] else v
 | none=>if ok then .tup [zero, .bool false] else zero
def z6j (t:ETy) (k v:AV):List (AV×AV)→Option (List (AV×AV))
 | []=>some [(k,v)]
 | (k',v')::es=>match k.eqv t k' with
   | some true=>some ((k,v)::es)
   | some false=>(z6j t k v es).map ((k',v'):: ·)
   | none=>none
def z4w (d:Nat):Option AV→Option Nat
 | none=>some d
 | some (.int _ i)=>if 0≤i then some i.toNat else none
 | _=>none
def z5m (esz:Nat):List AV→Bool
 | []=>true
 | x::_=>x.cells.length==esz
def z2v (h:List AObj) (esz:Option Nat) (x:AV) (lo hi mx:Option AV):Option AV:=
 match esz,x with
 | none, .str s=>
   match z4w 0 lo,z4w s.length hi,mx with
   | some l,some r,none=>if l≤r∧r≤s.length then some (.str ((s.take r).drop l)) else none
   | _,_,_=>none
 | some esz, .sl xs t=>
   match z4w 0 lo,z4w xs.length hi with
   | some l,some r=>
     if l≤r∧r≤xs.length∧z5m esz xs=true then
      match mx with
      | none=>some (.sl ((xs.take r).drop l) (if r=xs.length then (if t= .nil then .nil else t) else .no))
      | some m=>match z4w 0 (some m) with
        | some m=>if m=r∧hi.isSome=true then some (.sl ((xs.take r).drop l) .full) else none
        | none=>none
     else none
   | _,_=>none
 | some esz, .ob s g off len=>
   match z2f h s g,z4w 0 lo,z4w len hi,mx with
   | some (es,true,grow,_),some l,some r,none=>
     if l≤r∧z5m esz es=true∧(if grow then r≤len∧off + len≤es.length else off + r≤es.length) then some (.ob s g (off + l) (r - l)) else none
   | _,_,_,_=>none
 | _,_=>none
def z9p (h:List AObj) (t:LenTy) (x:AV):Option AV:=
 match t,x with
 | .arr n,_=>some (.int .i64 n)
 | .str, .str s=>some (.int .i64 s.length)
 | .sl, .sl xs _=>some (.int .i64 xs.length)
 | .sl, .ob _ _ _ len=>some (.int .i64 len)
 | .mp, .mp s g=>(z5d h s g).map fun es=> .int .i64 es.length
 | .mp, .nilmap=>some (.int .i64 0)
 | .cap, .sl xs t=>if t= .nil∨t= .full then some (.int .i64 xs.length) else none
 | _,_=>none
def z6k (h:List AObj):AV→Option (List AV)
 | .sl ys _=>some ys
 | .ob s g off len=>q3h h s g off len
 | .str s=>some (s.map fun (b:Nat)=> .int .u8 (Int.ofNat b))
 | _=>none
def z0r (esz:Nat):List AV→Bool
 | []=>true
 | v::vs=>v.def? && v.cells.length==esz && v.cells.all AV.one && z0r esz vs
def z1e:Nat:=2 ^ 46
def z1a (h:List AObj) (slot gen esz bytes:Nat) (mu:Bool) (x y:AV):Option (AV×List AObj):=
 match z6k h y with
 | none=>none
 | some ys=>
  if !z0r esz ys then none else
  match x with
  | .sl xs t=>
    if (xs.length + ys.length) * (bytes + 1) > z1e || !z0r esz xs then none
    else if mu then
     match t,ys with
     | .full,_::_ | .nil,_::_=>some (.ob slot gen 0 (xs.length + ys.length),h.set slot (.blk gen (xs++ys) true true 0))
     | _,_=>none
    else
     match t with
     | .full | .nil=>some (.sl (xs++ys) (.at slot gen),h.set slot (.tip gen esz))
     | .at s g=>
       match h[s]? with
       | some (.tip g' e)=>if g=g'∧e=esz then some (.sl (xs++ys) (.at slot gen),(h.set s .dead).set slot (.tip gen esz)) else none
       | _=>none
     | _=>none
  | .ob s g off len=>
    match z2f h s g with
    | some (es,true,grow,fz)=>
      if (len + ys.length) * (bytes + 1) > z1e || !z0r esz es || !(off==0) then none
      else if ys.isEmpty then some (.ob s g off len,h)
      else if grow then
       if fz≤len∧len≤es.length∧0 < es.length then
        some (.ob slot gen 0 (len + ys.length),(h.set s .dead).set slot (.blk gen (es.take len++ys) true true fz))
       else none
      else if len + ys.length≤es.length then
       if fz≤len then some (.ob s g 0 (len + ys.length),h.set s (.blk g (es.take len++ys++es.drop (len + ys.length)) true false fz)) else none
      else if len≤es.length then
       some (.ob slot gen 0 (len + ys.length),h.set slot (.blk gen (es.take len++ys) true true 0))
      else none
    | _=>none
  | _=>none
def z6v:AV→Option Nat
 | .sl xs _=>if xs.length < 2 ^ 48 then some xs.length else none
 | .ob _ _ _ len=>if len < 2 ^ 48 then some len else none
 | _=>none
def prim (h:List AObj) (base gen:Nat) (ts:Tmps):AOp→Option (AV×List AObj)
 | .move x=>some (x.ev ts,h)
 | .pick c a b=>match c.ev ts with
   | .bool t=>some ((if t then a else b).ev ts,h)
   | _=>none
 | .alloc k z=>if z.cells.isEmpty || !z.def? then none else some (.ptr (base + k) gen 0 0,h.set (base + k) (.blk gen [z] false false 0))
 | .box k x=>if (x.ev ts).cells.isEmpty || !(x.ev ts).def? then none else some (.ptr (base + k) gen 0 0,h.set (base + k) (.blk gen [x.ev ts] false false 0))
 | .build zero parts=>(z5o zero (parts.map fun p=>(p.1,p.2.1,p.2.2.ev ts))).map fun cs=>(.agg cs,h)
 | .buildSlice k mu zero n parts=>
   if !zero.def? then none else
   match z8f h (parts.map fun p=>p.2.ev ts) with
   | some vs=>(z4f zero.cells.length (x3 n zero) (parts.map (·.1)) vs).map fun es=>
     let h':=freezeAll h (z4u (parts.map fun p=>p.2.ev ts))
     if mu then (.ob (base + k) gen 0 n,h'.set (base + k) (.blk gen es true false 0)) else (.sl es .full,h')
   | none=>none
 | .load sz a=>match a.ev ts with
   | .ptr s g i o=>match z2f h s g with
     | some (es,_,_,_)=>(es[i]?).bind fun e=>(z1w e.cells o sz).map (·,h)
     | none=>none
   | .iptr cs o=>(z1w cs o sz).map (·,h)
   | _=>none
 | .store sz a x=>match a.ev ts with
   | .ptr s g i o=>match z2f h s g with
     | some (es,row,grow,fz)=>
       match es[i]?,(if row then pub h (x.ev ts) else some (x.ev ts,h)) with
       | some e,some (v,h')=>
         if v.def? =true∧v.cells.length=sz∧v.cells.all AV.one=true∧(row=true→fz≤i∧ !((x.ev ts).obs.map (·.1)).contains s) then
          (z7m e.cells o v.cells).map fun cs=>
           (.undef,h'.set s (.blk g (es.set i (z7l e cs)) row grow fz))
         else none
       | _,_=>none
     | none=>none
   | _=>none
 | .nilCheck x=>match x.ev ts with
   | .ptr s g i o=>some (.ptr s g i o,h)
   | .iptr cs o=>some (.iptr cs o,h)
   | _=>none
 | .binOp op t x y=>(z4v op t (x.ev ts) (y.ev ts)).map (·,h)
 | .unOp op x=>(k4n op (x.ev ts)).map (·,h)
 | .cInt k x=>match x.ev ts with
   | .int _ n=>some (.int k (k.wrap n),h)
   | _=>none
 | .cStr x=>match x.ev ts with
   | .str s=>some (.str s,h)
   | _=>none
 | .toBytes x=>match x.ev ts with
   | .str s=>some (.sl (s.map fun (b:Nat)=> .int .u8 (Int.ofNat b)) .no,h)
   | _=>none
 | .ofBytes x=>match x.ev ts with
   | .str _=>none
   | x=>((z6k h x).bind z6w).map fun s=>(.str s,h)
 | .makeMap k=>some (.mp (base + k) gen,h.set (base + k) (.map gen []))
 | .lookup t zero x ix ok=>
   match x6n h (x.ev ts) with
   | some es=>if ((ix.ev ts).eqv t (ix.ev ts)).isSome=true then (findKey t (ix.ev ts) es).map fun r=>
     (q4f ok zero r,h) else none
   | none=>none
 | .mapUpdate t m k v=>match m.ev ts with
   | .mp s g=>match z5d h s g,pub h (v.ev ts) with
     | some es,some (v',h')=>if ((k.ev ts).eqv t (k.ev ts)).isSome=true then (z6j t (k.ev ts) v' es).map fun es'=>(.undef,h'.set s (.map g es')) else none
     | _,_=>none
   | _=>none
 | .makeSlice k z bytes len cap=>match len.ev ts,cap.ev ts with
   | .int _ n, .int _ c=>
     if 0≤n∧n≤c∧c * (bytes + 1)≤z1e∧z.def? =true then
      some (.ob (base + k) gen 0 n.toNat,h.set (base + k) (.blk gen (x3 c.toNat z) true false 0))
     else none
   | _,_=>none
 | .makeRow k z bytes x n=>match x.ev ts,n.ev ts with
   | .sl [] .nil, .int _ m=>
     if m=0 then some (.sl [] .nil,h)
     else if 0 < m∧m * (bytes + 1)≤z1e∧z.def? =true then
      some (.ob (base + k) gen 0 m.toNat,h.set (base + k) (.blk gen (x3 m.toNat z) true true 0))
     else none
   | _,_=>none
 | .slice esz x lo hi mx=>(z2v h esz (x.ev ts) (lo.map (·.ev ts)) (hi.map (·.ev ts)) (mx.map (·.ev ts))).map (·,h)
 | .fieldAddr x off=>match x.ev ts with
   | .ptr s g i o=>some (.ptr s g i (o + off),h)
   | .iptr cs o=>some (.iptr cs (o + off),h)
   | _=>none
 | .field x off sz=>match x.ev ts with
   | .agg cs=>(z1w cs off sz).map (·,h)
   | _=>none
 | .indexAddr arr esz x ix=>match ix.ev ts with
   | .int _ i=>
     if 0≤i then
      match arr,x.ev ts with
      | none, .sl xs _=>match xs[i.toNat]? with
        | some e=>if e.cells.length=esz then some (.iptr e.cells 0,h) else none
        | none=>none
      | none, .ob s g off len=>match z2f h s g with
        | some (es,true,_,_)=>match es[off + i.toNat]? with
          | some e=>if i.toNat < len∧e.cells.length=esz then some (.ptr s g (off + i.toNat) 0,h) else none
          | none=>none
        | _=>none
      | some n, .ptr s g k o=>if i.toNat < n then some (.ptr s g k (o + i.toNat * esz),h) else none
      | some n, .iptr cs o=>if i.toNat < n then some (.iptr cs (o + i.toNat * esz),h) else none
      | _,_=>none
     else none
   | _=>none
 | .index arr x ix=>match ix.ev ts with
   | .int _ i=>
     if 0≤i then
      match arr,x.ev ts with
      | none, .str s=>(s[i.toNat]?).map fun (b:Nat)=>(.int .u8 (Int.ofNat b),h)
      | some (n,esz,sz), .agg cs=>if i.toNat < n then (z1w cs (i.toNat * esz) sz).map (·,h) else none
      | _,_=>none
     else none
   | _=>none
 | .makeFunc f cap=>some (.fn f (cap.map (·.ev ts)),h)
 | .extract x i=>match x.ev ts with
   | .tup cs=>(cs[i]?).map (·,h)
   | _=>none
 | .len t x=>(z9p h t (x.ev ts)).map (·,h)
 | .minmax mx x y=>match x.ev ts,y.ev ts with
   | .int k a, .int _ b=>some (.int k (if mx then (if b > a then b else a) else (if b < a then b else a)),h)
   | _,_=>none
 | .append k esz bytes mu x y=>z1a h (base + k) gen esz bytes mu (x.ev ts) (y.ev ts)
 | .backward f x=>if (z6v (x.ev ts)).isSome then some (.bwd f (x.ev ts),h) else none
 | .call .. =>none
 | .callv .. =>none
 | .bad=>none
def z1q (h:List AObj) (byref:List Nat):Nat→List AV→Option (List AV)
 | _,[]=>some []
 | i,v::vs=>match (if byref.contains i then some v else conv h v),z1q h byref (i + 1) vs with
   | some a,some b=>some (a::b)
   | _,_=>none
def z0p (byref:List Nat):Nat→List AV→List (Nat×Nat)
 | _,[]=>[]
 | i,v::vs=>(if byref.contains i then [] else v.obs)++z0p byref (i + 1) vs
structure AProg where
 fn:Nat→Option AFun
 ext:Nat→Option (List AV→Option AV)
 iters:List Nat:=[]
def z0z (Γ:AProg) (f:Nat) (args:List AV) (h:List AObj):List Nat:=
 (z4u args).map (·.1)++match Γ.ext f with
  | some _=>[]
  | none=>match Γ.fn f with
    | none=>[]
    | some af=>match z1q h af.byref 0 args with
      | none=>[]
      | some asx=>reach h (h.length + 1) [] (z0i asx)
def z3k (F:List Nat) (h h':List AObj):List Nat×List Nat:=
 (F,F.filter fun i=> !((h.getD i .dead).beq (h'.getD i .dead)))
def foot (Γ:AProg) (h h':List AObj) (base:Nat) (ts:Tmps):AOp→List Nat×List Nat
 | .alloc k _=>([],[base + k])
 | .box k _=>([],[base + k])
 | .makeMap k=>([],[base + k])
 | .makeSlice k .. =>([],[base + k])
 | .makeRow k .. =>([],[base + k])
 | .load _ a=>((a.ev ts).ids,[])
 | .store _ a x=>([],(a.ev ts).ids++(x.ev ts).obs.map (·.1))
 | .buildSlice k mu _ _ parts=>([],(if mu then [base + k] else [])++(z4u (parts.map fun p=>p.2.ev ts)).map (·.1))
 | .ofBytes x=>((x.ev ts).ids,[])
 | .lookup _ _ x _ _=>((x.ev ts).ids,[])
 | .mapUpdate _ m _ v=>([],(m.ev ts).ids++(v.ev ts).obs.map (·.1))
 | .slice _ x _ _ _=>((x.ev ts).ids,[])
 | .indexAddr _ _ x _=>((x.ev ts).ids,[])
 | .len _ x=>((x.ev ts).ids,[])
 | .append k _ _ _ x y=>((y.ev ts).ids,(base + k)::(x.ev ts).ids)
 | .call f args=>z3k (z0z Γ f (args.map (·.ev ts)) h) h h'
 | .callv x args=>match x.ev ts with
   | .fn f cap=>z3k (z0z Γ f (args.map (·.ev ts)++cap) h) h h'
   | _=>([],[])
 | _=>([],[])
def z0q (a b:List Nat):Bool:=a.all fun x=> !b.contains x
def apart (f g:List Nat×List Nat):Bool:=
 z0q f.2 g.1 && z0q f.2 g.2 && z0q g.2 f.1
inductive AEx where
 | norm
 | exit (id:Nat)
 | ret
 deriving DecidableEq,Inhabited
structure St where
 ts:Tmps
 h:List AObj
 clk:Nat
abbrev Caller:=Nat→List AV→List AObj→Nat→Option (AV×List AObj×Nat)
def z5n (ts:Tmps):Option (Nat×Bool)→Option Bool
 | none=>some true
 | some (t,b)=>match ts t with
   | .bool x=>some (x==b)
   | .tup []=>some false
   | _=>none
def upd (ts:Tmps) (d:Nat) (v:AV):Tmps:=fun j=>if j=d then v else ts j
def z8g (ts:Tmps) (d:Option Nat) (v:AV):Tmps:=
 match d with
 | some d=>upd ts d v
 | none=>ts
def q0f (asx:List AV):Tmps:=fun j=>asx.getD j .undef
def stepA (C:Caller) (base gen:Nat) (o:AOper) (s:St):Option St:=
 match z5n s.ts o.guard with
 | some true=>
   match o.op with
   | .call f args=>
     match C f (args.map (·.ev s.ts)) s.h s.clk with
     | some (v,h,c)=>some ⟨z8g s.ts o.dst v,h,c⟩
     | none=>none
   | .callv x args=>
     match x.ev s.ts with
     | .fn f cap=>
       match C f (args.map (·.ev s.ts)++cap) s.h s.clk with
       | some (v,h,c)=>some ⟨z8g s.ts o.dst v,h,c⟩
       | none=>none
     | _=>none
   | op=>
     match prim s.h base gen s.ts op with
     | some (v,h)=>some ⟨z8g s.ts o.dst v,h,s.clk⟩
     | none=>none
 | some false=>some ⟨z8g s.ts o.dst (.tup []),s.h,s.clk⟩
 | none=>none
def z8h (C:Caller) (base:Nat):Nat→List AOper→St→Option St
 | _,[],s=>some s
 | g,o::os,s=>match stepA C base g o s with
   | some s'=>z8h C base (g + 1) os s'
   | none=>none
def z3a (C:Caller) (Γ:AProg) (base:Nat):Nat→List AOper→St→Option (St×List (List Nat×List Nat))
 | _,[],s=>some (s,[])
 | g,o::os,s=>
   match stepA C base g o s with
   | some s'=>(z3a C Γ base (g + 1) os s').map fun r=>(r.1,(if z5n s.ts o.guard=some true then foot Γ s.h s'.h base s.ts o.op else ([],[]))::r.2)
   | none=>none
def AOp.isCall:AOp→Bool
 | .call .. | .callv .. =>true
 | _=>false
def z1n (ops:List AOper) (i:Nat):Bool:=((ops[i]?).map (·.op.isCall)).getD false
def z1t (fs:List (List Nat×List Nat)) (i:Nat):List Nat:=(fs.getD i ([],[])).1++(fs.getD i ([],[])).2
def region (C:Caller) (Γ:AProg) (base n:Nat) (ops:List AOper) (draw:List (Nat×Nat)) (s:St):Option St:=
 match draw with
 | []=>z8h C base s.clk ops {s with clk:=s.clk + n}
 | ps=>match z3a C Γ base s.clk ops {s with clk:=s.clk + n} with
   | some (s',fs)=>if ps.all (fun p=>apart (fs.getD p.1 ([],[])) (fs.getD p.2 ([],[])) &&
    (!(z1n ops p.1 || z1n ops p.2) || ((z1t fs p.1++z1t fs p.2).all (· < s.h.length)))) then some s' else none
   | none=>none
def z1s (h:List AObj) (ts:Tmps):List ARes→Option (List AV)
 | []=>some []
 | .tmp t::rs=>(z1s h ts rs).map (ts t:: ·)
 | .cell t sz::rs=>
   match ts t with
   | .ptr s g i o=>match z2f h s g with
     | some (es,_,_,_)=>match (es[i]?).bind fun e=>z1w e.cells o sz with
       | some v=>(z1s h ts rs).map (v:: ·)
       | none=>none
     | none=>none
   | _=>none
def z1k:List AV→AV
 | [v]=>v
 | vs=> .tup vs
def z0k (R:Nat→ACode→St→Option (AEx×St)) (Γ:AProg):Caller:=fun f args h clk=>
 match Γ.ext f with
 | some sem=>match z1q h [] 0 args with
   | some asx=>if (z0p [] 0 args).isEmpty then (sem asx).map fun v=>(v,h,clk) else none
   | none=>none
 | none=>
   match Γ.fn f with
   | none=>none
   | some af=>
     match z1q h af.byref 0 args with
     | none=>none
     | some asx=>
       let T:=reach h (h.length + 1) [] (z0i asx)
       let hf:=freezeAll h (z0p af.byref 0 args)
       match R h.length af.body ⟨q0f asx,maskFrom T 0 hf++x3 af.nslots .dead,clk⟩ with
       | some (.exit _,_)=>none
       | none=>none
       | some (_,s)=>
         match z1s s.h s.ts af.results with
         | none=>none
         | some vs=>
           match (if af.owned then some (z1k vs) else conv s.h (z1k vs)) with
           | none=>none
           | some v=>
             let hr:=if af.owned then s.h else freezeAll s.h (z1k vs).obs
             let m:=z0n T 0 (if v.flat && T.isEmpty then h else hf) hr
             if (v.ids++(T.map fun i=>((hr[i]?).map AObj.ids).getD []).flatten).all (· < h.length) then some (v,m,clk)
             else some (v,m++hr.drop h.length,s.clk)
def q6s (h:List AObj) (v:AV) (n:Nat):Option AV:=
 match z6k h v with
 | some xs=>match xs[n]? with
   | some x=>if x.one then some x else none
   | none=>none
 | none=>none
def q1f (R:St→Option (AEx×St)) (v:AV) (ts:Tmps) (p q:Nat):Nat→List AObj×Nat→Option (List AObj×Nat)
 | 0,m=>some m
 | n + 1,m=>match q6s m.1 v n with
   | some x=>match R ⟨upd (upd ts p (.int .i64 n)) q x,m.1,m.2⟩ with
     | some (.norm,s)=>q1f R v ts p q n (s.h,s.clk)
     | _=>none
   | none=>none
def z3q (Γ:AProg):Nat→Nat→ACode→St→Option (AEx×St)
 | 0,_,_,_=>none
 | k + 1,base,c,s=>
   match c with
   | .skip=>some (.norm,s)
   | .region n ops draw=>(region (z0k (z3q Γ k) Γ) Γ base n ops draw s).map (.norm, ·)
   | .seq a b=>match z3q Γ k base a s with
     | some (.norm,s')=>z3q Γ k base b s'
     | r=>r
   | .cond c a b=>match c.ev s.ts with
     | .bool t=>z3q Γ k base (if t then a else b) s
     | _=>none
   | .block id b=>match z3q Γ k base b s with
     | some (.exit i,s')=>if i=id then some (.norm,s') else some (.exit i,s')
     | r=>r
   | .loop b=>match z3q Γ k base b s with
     | some (.norm,s')=>z3q Γ k base (.loop b) s'
     | r=>r
   | .exit id=>some (.exit id,s)
   | .ret=>some (.ret,s)
   | .rangeB x p q assign body=>match x.ev s.ts with
     | .bwd f v=>match z6v v with
       | some n=>if Γ.iters.contains f then (q1f (fun s=>match z3q Γ k base assign s with
         | some (.norm,s')=>z3q Γ k base body s'
         | r=>r) v s.ts p q n (s.h,s.clk)).map fun m=>(.norm,⟨s.ts,m.1,m.2⟩) else none
       | none=>none
     | _=>none
   | .bad=>none
def z5w (Γ:AProg) (k:Nat):Caller:=z0k (z3q Γ k) Γ
section
def j5v:Value→Option AV
 | .bool b=>some (.bool b)
 | .int k n=>some (.int k n)
 | .string s=>some (.str (s.data.toList.map (·.toNat)))
 | .pointer none=>some .nilptr
 | .slice none 0 0=>some (.sl [] .nil)
 | .map none=>some .nilmap
 | .nilFunc=>some .nilfn
 | .nilIface=>some .nilif
 | _=>none
def j8g:List Value→Option (List AV)
 | []=>some []
 | v::vs=>match j5v v,j8g vs with
   | some a,some b=>some (a::b)
   | _,_=>none
def v4j:Value→Option AV
 | .agg cs=>(j8g cs.toList).map .agg
 | v=>j5v v
def z5x:Operand→Option AOpd
 | .tmp t=>some (.tmp t)
 | .const v=>some (.const ((v4j v).getD .undef))
 | .func f=>some (.const (if f < z6i then .fn f [] else .undef))
 | .global _=>some (.const .undef)
def x3w:List Operand→Option (List AOpd)
 | []=>some []
 | v::vs=>match z5x v,x3w vs with
   | some a,some b=>some (a::b)
   | _,_=>none
def q7k:Option Operand→Option (Option AOpd)
 | none=>some none
 | some x=>(z5x x).map some
section
variable (P:Program)
def sizeP (t:TypeId):Option Nat:=(P.info? t).map (·.size)
def bytesP (t:TypeId):Option Nat:=(P.info? t).map (·.bytes)
def zeroP (t:TypeId):Option AV:=((P.info? t).bind (·.zero)).bind v4j
def z7o (t:TypeId):Option (Option Nat):=
 match P.underlying t with
 | some (.struct _) | some (.array _ _)=>(sizeP P t).map some
 | some _=>some none
 | none=>none
def q5s (t:TypeId) (f:Nat):Option (Nat×TypeId):=
 match P.underlying t with
 | some (.struct fs)=>(fs[f]?).map fun x=>(x.offset,x.type)
 | _=>none
def sTy (t:TypeId):Option STy:=
 match P.underlying t with
 | some .bool=>some .bool
 | some (.int _)=>some .int
 | some .string=>some .str
 | _=>none
def z3h:Nat→List Field→Option (List STy)
 | _,[]=>some []
 | n,f::fs=>if f.offset=n∧f.name≠ "_" then match sTy P f.type,z3h (n + 1) fs with
   | some s,some ss=>some (s::ss)
   | _,_=>none
   else none
def kTy (t:TypeId):Option ETy:=
 match sTy P t with
 | some s=>some (.one s)
 | none=>match P.underlying t with
   | some (.struct fs)=>if !P.stoodInHeld t && !P.eqGuardType P.depth t then (z3h P 0 fs.toList).map .agg else none
   | _=>none
def eTy (t:TypeId):Option ETy:=
 match kTy P t with
 | some e=>some e
 | none=>match P.underlying t with
   | some (.slice _)=>some .sl
   | some (.pointer _)=>some .pt
   | some (.map _ _)=>some .mp
   | some (.func _ _ _)=>some .fn
   | _=>none
def w2g (op:BinOp) (t:TypeId) (x y:Operand):Bool:=
 (match op with | .eql | .neq=>true | _=>false) &&
 (match P.underlying t with | some (.interface _)=>true | _=>false) &&
 (match x,y with | .const _,_ | _, .const _=>true | _,_=>false)
def q6t:List (Nat×Operand)→(Nat→Option (Nat×Nat))→Option (List (Nat×Nat×AOpd))
 | [],_=>some []
 | (i,x)::ps,q0a=>match q0a i,z5x x,q6t ps q0a with
   | some (o,s),some a,some b=>some ((o,s,a)::b)
   | _,_,_=>none
def x1v:List (Nat×Operand)→Option (List (Nat×AOpd))
 | []=>some []
 | (i,x)::ps=>match z5x x,x1v ps with
   | some a,some b=>some ((i,a)::b)
   | _,_=>none
def q4g (b:Builtin) (args:List Operand) (tys:List TypeId) (slot:Nat) (mu:Bool):Option AOp:=
 match b,args,tys with
 | .len,[x],[t]=>match P.underlying t with
   | some .string=>(z5x x).map (.len .str)
   | some (.slice _)=>(z5x x).map (.len .sl)
   | some (.map _ _)=>(z5x x).map (.len .mp)
   | some (.array n _)=>(z5x x).map (.len (.arr n))
   | some (.pointer a)=>match P.underlying a with
     | some (.array n _)=>(z5x x).map (.len (.arr n))
     | _=>none
   | _=>none
 | .cap,[x],[t]=>match P.underlying t with
   | some (.slice _)=>(z5x x).map (.len .cap)
   | _=>none
 | .max,[x,y],[t,_]=>match P.underlying t,z5x x,z5x y with
   | some (.int _),some a,some b=>some (.minmax true a b)
   | _,_,_=>none
 | .min,[x,y],[t,_]=>match P.underlying t,z5x x,z5x y with
   | some (.int _),some a,some b=>some (.minmax false a b)
   | _,_,_=>none
 | .append,[x,y],[t,u]=>match P.underlying t,P.underlying u with
   | some (.slice e),some (.slice _) | some (.slice e),some .string=>match sizeP P e,bytesP P e,zeroP P e,z5x x,z5x y with
     | some sz,some by_,some z,some a,some b=>if sz≠0∧z.cells.length=sz then some (.append slot sz by_ mu a b) else none
     | _,_,_,_,_=>none
   | some (.slice e),some (.int _)=>match sizeP P e,bytesP P e,zeroP P e,z5x x,z5x y with
     | some sz,some by_,some z,some a,some b=>if sz≠0∧z.cells.length=sz then some (.makeRow slot z by_ a b) else none
     | _,_,_,_,_=>none
   | _,_=>none
 | _,_,_=>none
variable (back:Nat→Option Nat) in
def cOp (slot:Nat) (mu:Bool):Op→Option AOp
 | .move x | .assign x=>(z5x x).map .move
 | .pick c a b=>match z5x c,z5x a,z5x b with
   | some c,some a,some b=>some (.pick c a b)
   | _,_,_=>none
 | .alloc t=>(zeroP P t).map (.alloc slot)
 | .box _ x=>(z5x x).map (.box slot)
 | .build t parts=>match P.underlying t,zeroP P t with
   | some (.struct fs),some z=>match fs.toList.mapM (fun f=>(P.info? f.type).map fun i=>(f.offset,i.size)) with
     | some places=>(q6t parts.toList (places[·]?)).map (.build z.cells)
     | none=>none
   | some (.array _ e),some z=>match sizeP P e with
     | some s=>(q6t parts.toList fun i=>some (i * s,s)).map (.build z.cells)
     | none=>none
   | _,_=>none
 | .buildSlice t n parts=>match P.underlying t with
   | some (.slice e)=>match sizeP P e,zeroP P e,x1v parts.toList with
     | some s,some z,some ps=>if s≠0∧n * s≤2 ^ 24∧z.cells.length=s then some (.buildSlice slot mu z n ps) else none
     | _,_,_=>none
   | _=>none
 | .load t a=>match z7o P t,z5x a with
   | some s,some a=>some (.load s a)
   | _,_=>none
 | .store t a x=>match sizeP P t,z5x a,z5x x with
   | some s,some a,some x=>if s=0 then none else some (.store s a x)
   | _,_,_=>none
 | .nilCheck x=>(z5x x).map .nilCheck
 | .binOp op t x y _=>match z5x x,z5x y with
   | some a,some b=>if w2g P op t x y then some (.binOp op .iface a b) else (eTy P t).map fun e=> .binOp op e a b
   | _,_=>none
 | .unOp op _ x=>(z5x x).map (.unOp op)
 | .convert s d x=>match P.underlying s,P.underlying d,z5x x with
   | some (.int _),some (.int k),some a=>some (.cInt k a)
   | some .string,some .string,some a=>some (.cStr a)
   | some .string,some (.slice e),some a=>match P.underlying e with
     | some (.int .u8)=>some (.toBytes a)
     | _=>none
   | some (.slice e),some .string,some a=>match P.underlying e with
     | some (.int .u8)=>some (.ofBytes a)
     | _=>none
   | _,_,_=>none
 | .makeFunc (.func f) first cap=>if first.isEmpty∧f < z6i then (x3w cap.toList).map (.makeFunc f) else none
 | .makeMap t r=>match P.underlying t,r with
   | some (.map k _),none=>if (kTy P k).isSome then some (.makeMap slot) else none
   | _,_=>none
 | .makeSlice t l c=>match P.underlying t with
   | some (.slice e)=>match sizeP P e,zeroP P e,bytesP P e,z5x l,z5x c with
     | some s,some z,some b,some l,some c=>if s≠0∧z.cells.length=s then some (.makeSlice slot z b l c) else none
     | _,_,_,_,_=>none
   | _=>none
 | .slice t x lo hi mx=>match P.underlying t with
   | some .string=>match z5x x,q7k lo,q7k hi,q7k mx with
     | some x,some lo,some hi,some mx=>some (.slice none x lo hi mx)
     | _,_,_,_=>none
   | some (.slice e)=>match sizeP P e,z5x x,q7k lo,q7k hi,q7k mx with
     | some s,some x,some lo,some hi,some mx=>some (.slice (some s) x lo hi mx)
     | _,_,_,_,_=>none
   | _=>none
 | .fieldAddr t x f=>match q5s P t f,z5x x with
   | some (o,ft),some a=>match sizeP P ft with
     | some (_ + 1)=>some (.fieldAddr a o)
     | _=>none
   | _,_=>none
 | .field t x f=>match q5s P t f,z5x x with
   | some (o,ft),some a=>(z7o P ft).map (.field a o)
   | _,_=>none
 | .indexAddr t x ix=>match z5x x,z5x ix with
   | some a,some i=>match P.underlying t with
     | some (.slice e)=>match sizeP P e with
       | some s=>if s=0 then none else some (.indexAddr none s a i)
       | none=>none
     | some (.array n e)=>match sizeP P e with
       | some s=>if s=0 then none else some (.indexAddr (some n) s a i)
       | none=>none
     | _=>none
   | _,_=>none
 | .index t x ix=>match z5x x,z5x ix with
   | some a,some i=>match P.underlying t with
     | some .string=>some (.index none a i)
     | some (.array n e)=>match sizeP P e,z7o P e with
       | some s,some l=>if s=0 then none else some (.index (some (n,s,l)) a i)
       | _,_=>none
     | _=>none
   | _,_=>none
 | .lookup t x ix ok=>match P.underlying t,z5x x,z5x ix with
   | some (.map k e),some a,some i=>match kTy P k,zeroP P e with
     | some kt,some z=>some (.lookup kt z a i ok)
     | _,_=>none
   | _,_,_=>none
 | .mapUpdate t m k v=>match P.underlying t,z5x m,z5x k,z5x v with
   | some (.map kt _),some m,some k,some v=>(kTy P kt).map fun e=> .mapUpdate e m k v
   | _,_,_,_=>none
 | .extract x i=>(z5x x).map (.extract · i)
 | .call c=>match c.callee with
   | .builtin b=>q4g P b c.args.toList c.argTypes.toList slot mu
   | .value (.func f)=>match back f with
     | some k=>(match c.args.toList with | [x]=>(z5x x).map (.backward k) | _=>none)
     | none=>if f < z6i then (x3w c.args.toList).map (.call f) else none
   | .value (.tmp t)=>(x3w c.args.toList).map (.callv (.tmp t))
   | _=>none
 | _=>none
def j8h:Op→Bool
 | .alloc _ | .box .. | .buildSlice .. | .makeMap .. | .makeSlice .. =>true
 | .call {callee:= .builtin .append, ..}=>true
 | _=>false
def x9l (ops:List Oper) (j:Nat):Option Nat:=(ops[j]?).bind (·.dst)
def cGuard (ops:List Oper):Option (Nat×Bool)→Option (Option (Nat×Bool))
 | none=>some none
 | some (j,b)=>(x9l ops j).map fun t=>some (t,b)
variable (back:Nat→Option Nat)
def AOp.alt (al:Nat→Nat):AOp→AOp
 | .call f xs=> .call (f + z6i * al f) xs
 | op=>op
def x1w (nt:Nat) (mu:Nat→Bool) (al:Nat→Nat) (all:List Oper):Nat→List Oper→Option (List AOper×Nat)
 | n,[]=>some ([],n)
 | n,o::os=>
   match cGuard all o.guard,x1w nt mu al all (if j8h o.op then n + 1 else n) os with
   | some g,some (asx,n')=>if o.dst.all (· < nt)=true then some (⟨o.dst,((cOp P back n (mu n) o.op).getD .bad).alt al,g⟩::asx,n') else none
   | _,_=>none
def z3l:AOp→Nat
 | .alloc .. | .box .. | .store .. | .buildSlice .. | .makeMap .. | .mapUpdate .. | .makeSlice .. | .makeRow .. | .append .. | .call .. | .callv .. =>2
 | .load .. | .ofBytes .. | .lookup .. | .slice .. | .indexAddr .. | .len .. =>1
 | _=>0
def q8d (bj:Nat) (j:Nat) (cj:Nat):Nat→List AOper→List (Nat×Nat)
 | _,[]=>[]
 | i,o::os=>
   (if i < j∧ !bj.testBit i∧z3l o.op + cj≥2∧z3l o.op≠0∧cj≠0∧(z3l o.op=2∨cj=2) then [(i,j)] else [])++q8d bj j cj (i + 1) os
def q1g (bs:List Nat) (all:List AOper):Nat→List AOper→List (Nat×Nat)
 | _,[]=>[]
 | j,o::os=>q8d (bs.getD j 0) j (z3l o.op) 0 all++q1g bs all (j + 1) os
def j8i (all:List AOper) (ps:List (Nat×Nat)):Bool:=
 ps.all fun p=> !(((all[p.1]?).map (·.op.isCall)).getD false && ((all[p.2]?).map (·.op.isCall)).getD false)
def q5t:Nat→List Oper→Bool
 | _,[]=>true
 | j,o::os=>o.after.toList.all (fun e=> !Region.binds .any e || decide (e.on < j)) && q5t (j + 1) os
def AOpd.tmps:AOpd→List Nat
 | .tmp t=>[t]
 | .const _=>[]
def y4e:Option AOpd→List Nat
 | some x=>x.tmps
 | none=>[]
def AOp.reads:AOp→List Nat
 | .move x | .box _ x | .load _ x | .nilCheck x | .unOp _ x | .cInt _ x | .cStr x | .toBytes x | .ofBytes x | .fieldAddr x _ | .field x _ _ | .extract x _ | .len _ x | .backward _ x=>x.tmps
 | .pick c a b=>c.tmps++a.tmps++b.tmps
 | .alloc .. | .makeMap _ | .bad=>[]
 | .build _ ps=>ps.flatMap fun p=>p.2.2.tmps
 | .buildSlice _ _ _ _ ps=>ps.flatMap fun p=>p.2.tmps
 | .store _ a x=>a.tmps++x.tmps
 | .binOp _ _ x y=>x.tmps++y.tmps
 | .lookup _ _ x ix _=>x.tmps++ix.tmps
 | .mapUpdate _ m k v=>m.tmps++k.tmps++v.tmps
 | .makeSlice _ _ _ l c=>l.tmps++c.tmps
 | .makeRow _ _ _ x n=>x.tmps++n.tmps
 | .slice _ x lo hi mx=>x.tmps++y4e lo++y4e hi++y4e mx
 | .indexAddr _ _ x ix=>x.tmps++ix.tmps
 | .index _ x ix=>x.tmps++ix.tmps
 | .makeFunc _ cap=>cap.flatMap AOpd.tmps
 | .minmax _ x y=>x.tmps++y.tmps
 | .append _ _ _ _ x y=>x.tmps++y.tmps
 | .call _ args=>args.flatMap AOpd.tmps
 | .callv x args=>x.tmps++args.flatMap AOpd.tmps
def AOper.reads (o:AOper):List Nat:=o.op.reads++(match o.guard with | some (t,_)=>[t] | none=>[])
def indep (a b:AOper):Bool:=
 (match a.dst with | some d=> !b.reads.contains d && b.dst !=some d | none=>true) && (match b.dst with | some d=> !a.reads.contains d | none=>true)
def q8e (bj j:Nat) (o:AOper):Nat→List AOper→Bool
 | _,[]=>true
 | i,x::xs=>(!decide (i < j) || bj.testBit i || indep x o) && q8e bj j o (i + 1) xs
def q8f (bs:List Nat) (all:List AOper):Nat→List AOper→Bool
 | _,[]=>true
 | j,o::os=>q8e (bs.getD j 0) j o 0 all && q8f bs all (j + 1) os
def ACode.noRange:ACode→Bool
 | .rangeB .. =>false
 | .seq a b | .cond _ a b=>a.noRange && b.noRange
 | .block _ b | .loop b=>b.noRange
 | _=>true
def z8i (nt:Nat) (mu:Nat→Nat→Bool) (al:Nat→Nat):Nat→Code→Option (ACode×Nat)
 | n, .skip=>some (.skip,n)
 | n, .region id ops draw=>
   match x1w P back nt (mu id) al ops.toList n ops.toList with
   | some (asx,n')=>
     if draw then
      let ps:=q1g (Region.before ops).toList asx 0 asx
      if q8f (Region.before ops).toList asx 0 asx && j8i asx ps && q5t 0 ops.toList then some (.region asx.length asx ps,n') else some (.bad,n')
     else some (.region asx.length asx [],n')
   | none=>none
 | n, .seq a b=>match z8i nt mu al n a with
   | some (a',n)=>(z8i nt mu al n b).map fun r=>(.seq a' r.1,r.2)
   | none=>none
 | n, .cond c a b=>match z5x c,z8i nt mu al n a with
   | some c,some (a',n)=>(z8i nt mu al n b).map fun r=>(.cond c a' r.1,r.2)
   | _,_=>none
 | n, .block id b=>(z8i nt mu al n b).map fun r=>(.block id r.1,r.2)
 | n, .loop b=>(z8i nt mu al n b).map fun r=>(.loop r.1,r.2)
 | n, .exit id=>some (.exit id,n)
 | n, .ret=>some (.ret,n)
 | n, .rangeFunc f params assign body=>match z5x f,params.toList,z8i nt mu al n assign with
   | some x,[p,q],some (a',n)=>(z8i nt mu al n body).map fun r=>(if a'.noRange && r.1.noRange && (decide (p < nt) && decide (q < nt)) then .rangeB x p q a' r.1 else .bad,r.2)
   | _,_,_=>none
 | n,_=>some (.bad,n)
def v0z:List ResultVar→Option (List ARes)
 | []=>some []
 | .tmp t::rs=>(v0z rs).map (.tmp t:: ·)
 | .cell a t::rs=>match z7o P t,v0z rs with
   | some s,some rs=>some (.cell a s::rs)
   | _,_=>none
structure Hint where
 mu:List Nat:=[]
 ex:List Nat:=[]
 alt:List (Nat×Nat):=[]
 byref:List Nat:=[]
 owned:Bool:=false
def cFun (hint:Hint) (f:Nat):Option AFun:=
 match P.funcs[f]? with
 | some fn=>match fn.body with
   | some c=>match z8i P back fn.ntmps (fun id n=>hint.mu.contains id && !hint.ex.contains n) (fun f=>((hint.alt.find? fun p=>p.1==f).map (·.2)).getD 0) 0 c,v0z P fn.results.toList with
     | some (c',n),some rs=>if fn.name= "runtime.NumGoroutine" then none else some {ntmps:=fn.ntmps,nslots:=n,body:=c',results:=rs,byref:=hint.byref,owned:=hint.owned}
     | _,_=>none
   | none=>none
 | none=>none
end
end
def z5p:List (List AV×AV):=[([(.agg [(.int .i64 4),(.bool false),(.str [48]),(.sl [] .no),(.sl [] .no)]),(.str [48]),(.str [48])],(.tup [(.agg [(.int .i64 4),(.bool false),(.str [48]),(.sl [] .no),(.sl [] .no)]),(.int .i64 0)])),([(.agg [(.int .i64 4),(.bool false),(.str [48]),(.sl [] .no),(.sl [] .no)]),(.str [48]),(.str [49])],(.tup [(.agg [(.int .i64 4),(.bool false),(.str [48]),(.sl [(.str [48])] .no),(.sl [(.str [49])] .no)]),(.int .i64 0)])),([(.agg [(.int .i64 4),(.bool false),(.str [48]),(.sl [] .no),(.sl [] .no)]),(.str [48]),(.str [50])],(.tup [(.agg [(.int .i64 4),(.bool false),(.str [48]),(.sl [(.str [48])] .no),(.sl [(.str [50])] .no)]),(.int .i64 0)])),([(.agg [(.int .i64 4),(.bool false),(.str [48]),(.sl [] .no),(.sl [] .no)]),(.str [49]),(.str [48])],(.tup [(.agg [(.int .i64 4),(.bool false),(.str [48]),(.sl [] .no),(.sl [] .no)]),(.int .i64 0)])),([(.agg [(.int .i64 4),(.bool false),(.str [48]),(.sl [] .no),(.sl [] .no)]),(.str [49]),(.str [49])],(.tup [(.agg [(.int .i64 4),(.bool false),(.str [48]),(.sl [(.str [49])] .no),(.sl [(.str [49])] .no)]),(.int .i64 0)])),([(.agg [(.int .i64 4),(.bool false),(.str [48]),(.sl [] .no),(.sl [] .no)]),(.str [49]),(.str [50])],(.tup [(.agg [(.int .i64 4),(.bool false),(.str [48]),(.sl [(.str [49])] .no),(.sl [(.str [50])] .no)]),(.int .i64 0)])),([(.agg [(.int .i64 4),(.bool false),(.str [48]),(.sl [] .no),(.sl [] .no)]),(.str [50]),(.str [48])],(.tup [(.agg [(.int .i64 4),(.bool false),(.str [48]),(.sl [] .no),(.sl [] .no)]),(.int .i64 0)])),([(.agg [(.int .i64 4),(.bool false),(.str [48]),(.sl [] .no),(.sl [] .no)]),(.str [50]),(.str [49])],(.tup [(.agg [(.int .i64 4),(.bool false),(.str [48]),(.sl [(.str [50])] .no),(.sl [(.str [49])] .no)]),(.int .i64 0)])),([(.agg [(.int .i64 4),(.bool false),(.str [48]),(.sl [] .no),(.sl [] .no)]),(.str [50]),(.str [50])],(.tup [(.agg [(.int .i64 4),(.bool false),(.str [48]),(.sl [(.str [50])] .no),(.sl [(.str [50])] .no)]),(.int .i64 0)])),([(.agg [(.int .i64 4),(.bool false),(.str [49]),(.sl [] .no),(.sl [] .no)]),(.str [48]),(.str [48])],(.tup [(.agg [(.int .i64 4),(.bool false),(.str [49]),(.sl [(.str [48])] .no),(.sl [(.str [48])] .no)]),(.int .i64 0)])),([(.agg [(.int .i64 4),(.bool false),(.str [49]),(.sl [] .no),(.sl [] .no)]),(.str [48]),(.str [49])],(.tup [(.agg [(.int .i64 4),(.bool false),(.str [49]),(.sl [] .no),(.sl [] .no)]),(.int .i64 0)])),([(.agg [(.int .i64 4),(.bool false),(.str [49]),(.sl [] .no),(.sl [] .no)]),(.str [48]),(.str [50])],(.tup [(.agg [(.int .i64 4),(.bool false),(.str [49]),(.sl [(.str [48])] .no),(.sl [(.str [50])] .no)]),(.int .i64 0)])),([(.agg [(.int .i64 4),(.bool false),(.str [49]),(.sl [] .no),(.sl [] .no)]),(.str [49]),(.str [48])],(.tup [(.agg [(.int .i64 4),(.bool false),(.str [49]),(.sl [(.str [49])] .no),(.sl [(.str [48])] .no)]),(.int .i64 0)])),([(.agg [(.int .i64 4),(.bool false),(.str [49]),(.sl [] .no),(.sl [] .no)]),(.str [49]),(.str [49])],(.tup [(.agg [(.int .i64 4),(.bool false),(.str [49]),(.sl [] .no),(.sl [] .no)]),(.int .i64 0)])),([(.agg [(.int .i64 4),(.bool false),(.str [49]),(.sl [] .no),(.sl [] .no)]),(.str [49]),(.str [50])],(.tup [(.agg [(.int .i64 4),(.bool false),(.str [49]),(.sl [(.str [49])] .no),(.sl [(.str [50])] .no)]),(.int .i64 0)])),([(.agg [(.int .i64 4),(.bool false),(.str [49]),(.sl [] .no),(.sl [] .no)]),(.str [50]),(.str [48])],(.tup [(.agg [(.int .i64 4),(.bool false),(.str [49]),(.sl [(.str [50])] .no),(.sl [(.str [48])] .no)]),(.int .i64 0)])),([(.agg [(.int .i64 4),(.bool false),(.str [49]),(.sl [] .no),(.sl [] .no)]),(.str [50]),(.str [49])],(.tup [(.agg [(.int .i64 4),(.bool false),(.str [49]),(.sl [] .no),(.sl [] .no)]),(.int .i64 0)])),([(.agg [(.int .i64 4),(.bool false),(.str [49]),(.sl [] .no),(.sl [] .no)]),(.str [50]),(.str [50])],(.tup [(.agg [(.int .i64 4),(.bool false),(.str [49]),(.sl [(.str [50])] .no),(.sl [(.str [50])] .no)]),(.int .i64 0)])),([(.agg [(.int .i64 4),(.bool false),(.str [50]),(.sl [] .no),(.sl [] .no)]),(.str [48]),(.str [48])],(.tup [(.agg [(.int .i64 4),(.bool false),(.str [50]),(.sl [(.str [48])] .no),(.sl [(.str [48])] .no)]),(.int .i64 0)])),([(.agg [(.int .i64 4),(.bool false),(.str [50]),(.sl [] .no),(.sl [] .no)]),(.str [48]),(.str [49])],(.tup [(.agg [(.int .i64 4),(.bool false),(.str [50]),(.sl [(.str [48])] .no),(.sl [(.str [49])] .no)]),(.int .i64 0)])),([(.agg [(.int .i64 4),(.bool false),(.str [50]),(.sl [] .no),(.sl [] .no)]),(.str [48]),(.str [50])],(.tup [(.agg [(.int .i64 4),(.bool false),(.str [50]),(.sl [] .no),(.sl [] .no)]),(.int .i64 0)])),([(.agg [(.int .i64 4),(.bool false),(.str [50]),(.sl [] .no),(.sl [] .no)]),(.str [49]),(.str [48])],(.tup [(.agg [(.int .i64 4),(.bool false),(.str [50]),(.sl [(.str [49])] .no),(.sl [(.str [48])] .no)]),(.int .i64 0)])),([(.agg [(.int .i64 4),(.bool false),(.str [50]),(.sl [] .no),(.sl [] .no)]),(.str [49]),(.str [49])],(.tup [(.agg [(.int .i64 4),(.bool false),(.str [50]),(.sl [(.str [49])] .no),(.sl [(.str [49])] .no)]),(.int .i64 0)])),([(.agg [(.int .i64 4),(.bool false),(.str [50]),(.sl [] .no),(.sl [] .no)]),(.str [49]),(.str [50])],(.tup [(.agg [(.int .i64 4),(.bool false),(.str [50]),(.sl [] .no),(.sl [] .no)]),(.int .i64 0)])),([(.agg [(.int .i64 4),(.bool false),(.str [50]),(.sl [] .no),(.sl [] .no)]),(.str [50]),(.str [48])],(.tup [(.agg [(.int .i64 4),(.bool false),(.str [50]),(.sl [(.str [50])] .no),(.sl [(.str [48])] .no)]),(.int .i64 0)])),([(.agg [(.int .i64 4),(.bool false),(.str [50]),(.sl [] .no),(.sl [] .no)]),(.str [50]),(.str [49])],(.tup [(.agg [(.int .i64 4),(.bool false),(.str [50]),(.sl [(.str [50])] .no),(.sl [(.str [49])] .no)]),(.int .i64 0)])),([(.agg [(.int .i64 4),(.bool false),(.str [50]),(.sl [] .no),(.sl [] .no)]),(.str [50]),(.str [50])],(.tup [(.agg [(.int .i64 4),(.bool false),(.str [50]),(.sl [] .no),(.sl [] .no)]),(.int .i64 0)]))]
def z2k:List (List AV×AV):=[([(.agg [(.int .i64 1),(.bool true),(.str []),(.sl [] .no),(.sl [] .no)])],(.tup [(.sl [(.agg [(.int .i64 1),(.int .i64 0),(.str []),(.str []),(.int .i64 0)])] .no),(.int .i64 0)])),([(.agg [(.int .i64 1),(.bool false),(.str []),(.sl [] .no),(.sl [] .no)])],(.tup [(.sl [(.agg [(.int .i64 2),(.int .i64 0),(.str []),(.str []),(.int .i64 0)])] .no),(.int .i64 0)])),([(.agg [(.int .i64 2),(.bool false),(.str [45,50]),(.sl [] .no),(.sl [] .no)])],(.tup [(.sl [(.agg [(.int .i64 3),(.int .i64 2),(.str []),(.str [45,50]),(.int .i64 0)])] .no),(.int .i64 0)])),([(.agg [(.int .i64 2),(.bool false),(.str [45,49]),(.sl [] .no),(.sl [] .no)])],(.tup [(.sl [(.agg [(.int .i64 3),(.int .i64 2),(.str []),(.str [45,49]),(.int .i64 0)])] .no),(.int .i64 0)])),([(.agg [(.int .i64 2),(.bool false),(.str [48]),(.sl [] .no),(.sl [] .no)])],(.tup [(.sl [(.agg [(.int .i64 3),(.int .i64 2),(.str []),(.str [48]),(.int .i64 0)])] .no),(.int .i64 0)])),([(.agg [(.int .i64 2),(.bool false),(.str [49]),(.sl [] .no),(.sl [] .no)])],(.tup [(.sl [(.agg [(.int .i64 3),(.int .i64 2),(.str []),(.str [49]),(.int .i64 0)])] .no),(.int .i64 0)])),([(.agg [(.int .i64 2),(.bool false),(.str [50]),(.sl [] .no),(.sl [] .no)])],(.tup [(.sl [(.agg [(.int .i64 3),(.int .i64 2),(.str []),(.str [50]),(.int .i64 0)])] .no),(.int .i64 0)])),([(.agg [(.int .i64 2),(.bool false),(.str [51]),(.sl [] .no),(.sl [] .no)])],(.tup [(.sl [(.agg [(.int .i64 3),(.int .i64 2),(.str []),(.str [51]),(.int .i64 0)])] .no),(.int .i64 0)])),([(.agg [(.int .i64 3),(.bool false),(.str [45,50]),(.sl [] .no),(.sl [] .no)])],(.tup [(.sl [(.agg [(.int .i64 3),(.int .i64 3),(.str []),(.str [45,50]),(.int .i64 0)])] .no),(.int .i64 0)])),([(.agg [(.int .i64 3),(.bool false),(.str [45,49]),(.sl [] .no),(.sl [] .no)])],(.tup [(.sl [(.agg [(.int .i64 3),(.int .i64 3),(.str []),(.str [45,49]),(.int .i64 0)])] .no),(.int .i64 0)])),([(.agg [(.int .i64 3),(.bool false),(.str [48]),(.sl [] .no),(.sl [] .no)])],(.tup [(.sl [(.agg [(.int .i64 3),(.int .i64 3),(.str []),(.str [48]),(.int .i64 0)])] .no),(.int .i64 0)])),([(.agg [(.int .i64 3),(.bool false),(.str [49]),(.sl [] .no),(.sl [] .no)])],(.tup [(.sl [(.agg [(.int .i64 3),(.int .i64 3),(.str []),(.str [49]),(.int .i64 0)])] .no),(.int .i64 0)])),([(.agg [(.int .i64 3),(.bool false),(.str [50]),(.sl [] .no),(.sl [] .no)])],(.tup [(.sl [(.agg [(.int .i64 3),(.int .i64 3),(.str []),(.str [50]),(.int .i64 0)])] .no),(.int .i64 0)])),([(.agg [(.int .i64 3),(.bool false),(.str [51]),(.sl [] .no),(.sl [] .no)])],(.tup [(.sl [(.agg [(.int .i64 3),(.int .i64 3),(.str []),(.str [51]),(.int .i64 0)])] .no),(.int .i64 0)])),([(.agg [(.int .i64 4),(.bool false),(.str [48]),(.sl [] .no),(.sl [] .no)])],(.tup [(.sl [(.agg [(.int .i64 20),(.int .i64 0),(.str []),(.str []),(.int .i64 1)]),(.agg [(.int .i64 3),(.int .i64 2),(.str []),(.str [48]),(.int .i64 0)])] .no),(.int .i64 0)])),([(.agg [(.int .i64 4),(.bool false),(.str [48]),(.sl [(.str [48])] .no),(.sl [(.str [49])] .no)])],(.tup [(.sl [(.agg [(.int .i64 19),(.int .i64 0),(.str []),(.str []),(.int .i64 3)]),(.agg [(.int .i64 20),(.int .i64 0),(.str []),(.str []),(.int .i64 1)]),(.agg [(.int .i64 3),(.int .i64 2),(.str []),(.str [48]),(.int .i64 0)]),(.agg [(.int .i64 3),(.int .i64 2),(.str []),(.str [48]),(.int .i64 0)]),(.agg [(.int .i64 3),(.int .i64 2),(.str []),(.str [49]),(.int .i64 0)])] .no),(.int .i64 0)])),([(.agg [(.int .i64 4),(.bool false),(.str [48]),(.sl [(.str [48])] .no),(.sl [(.str [50])] .no)])],(.tup [(.sl [(.agg [(.int .i64 19),(.int .i64 0),(.str []),(.str []),(.int .i64 3)]),(.agg [(.int .i64 20),(.int .i64 0),(.str []),(.str []),(.int .i64 1)]),(.agg [(.int .i64 3),(.int .i64 2),(.str []),(.str [48]),(.int .i64 0)]),(.agg [(.int .i64 3),(.int .i64 2),(.str []),(.str [48]),(.int .i64 0)]),(.agg [(.int .i64 3),(.int .i64 2),(.str []),(.str [50]),(.int .i64 0)])] .no),(.int .i64 0)])),([(.agg [(.int .i64 4),(.bool false),(.str [48]),(.sl [(.str [49])] .no),(.sl [(.str [49])] .no)])],(.tup [(.sl [(.agg [(.int .i64 19),(.int .i64 0),(.str []),(.str []),(.int .i64 3)]),(.agg [(.int .i64 20),(.int .i64 0),(.str []),(.str []),(.int .i64 1)]),(.agg [(.int .i64 3),(.int .i64 2),(.str []),(.str [48]),(.int .i64 0)]),(.agg [(.int .i64 3),(.int .i64 2),(.str []),(.str [49]),(.int .i64 0)]),(.agg [(.int .i64 3),(.int .i64 2),(.str []),(.str [49]),(.int .i64 0)])] .no),(.int .i64 0)])),([(.agg [(.int .i64 4),(.bool false),(.str [48]),(.sl [(.str [49])] .no),(.sl [(.str [50])] .no)])],(.tup [(.sl [(.agg [(.int .i64 19),(.int .i64 0),(.str []),(.str []),(.int .i64 3)]),(.agg [(.int .i64 20),(.int .i64 0),(.str []),(.str []),(.int .i64 1)]),(.agg [(.int .i64 3),(.int .i64 2),(.str []),(.str [48]),(.int .i64 0)]),(.agg [(.int .i64 3),(.int .i64 2),(.str []),(.str [49]),(.int .i64 0)]),(.agg [(.int .i64 3),(.int .i64 2),(.str []),(.str [50]),(.int .i64 0)])] .no),(.int .i64 0)])),([(.agg [(.int .i64 4),(.bool false),(.str [48]),(.sl [(.str [50])] .no),(.sl [(.str [49])] .no)])],(.tup [(.sl [(.agg [(.int .i64 19),(.int .i64 0),(.str []),(.str []),(.int .i64 3)]),(.agg [(.int .i64 20),(.int .i64 0),(.str []),(.str []),(.int .i64 1)]),(.agg [(.int .i64 3),(.int .i64 2),(.str []),(.str [48]),(.int .i64 0)]),(.agg [(.int .i64 3),(.int .i64 2),(.str []),(.str [50]),(.int .i64 0)]),(.agg [(.int .i64 3),(.int .i64 2),(.str []),(.str [49]),(.int .i64 0)])] .no),(.int .i64 0)])),([(.agg [(.int .i64 4),(.bool false),(.str [48]),(.sl [(.str [50])] .no),(.sl [(.str [50])] .no)])],(.tup [(.sl [(.agg [(.int .i64 19),(.int .i64 0),(.str []),(.str []),(.int .i64 3)]),(.agg [(.int .i64 20),(.int .i64 0),(.str []),(.str []),(.int .i64 1)]),(.agg [(.int .i64 3),(.int .i64 2),(.str []),(.str [48]),(.int .i64 0)]),(.agg [(.int .i64 3),(.int .i64 2),(.str []),(.str [50]),(.int .i64 0)]),(.agg [(.int .i64 3),(.int .i64 2),(.str []),(.str [50]),(.int .i64 0)])] .no),(.int .i64 0)])),([(.agg [(.int .i64 4),(.bool false),(.str [49]),(.sl [(.str [48])] .no),(.sl [(.str [48])] .no)])],(.tup [(.sl [(.agg [(.int .i64 19),(.int .i64 0),(.str []),(.str []),(.int .i64 3)]),(.agg [(.int .i64 20),(.int .i64 0),(.str []),(.str []),(.int .i64 1)]),(.agg [(.int .i64 3),(.int .i64 2),(.str []),(.str [49]),(.int .i64 0)]),(.agg [(.int .i64 3),(.int .i64 2),(.str []),(.str [48]),(.int .i64 0)]),(.agg [(.int .i64 3),(.int .i64 2),(.str []),(.str [48]),(.int .i64 0)])] .no),(.int .i64 0)])),([(.agg [(.int .i64 4),(.bool false),(.str [49]),(.sl [] .no),(.sl [] .no)])],(.tup [(.sl [(.agg [(.int .i64 20),(.int .i64 0),(.str []),(.str []),(.int .i64 1)]),(.agg [(.int .i64 3),(.int .i64 2),(.str []),(.str [49]),(.int .i64 0)])] .no),(.int .i64 0)])),([(.agg [(.int .i64 4),(.bool false),(.str [49]),(.sl [(.str [48])] .no),(.sl [(.str [50])] .no)])],(.tup [(.sl [(.agg [(.int .i64 19),(.int .i64 0),(.str []),(.str []),(.int .i64 3)]),(.agg [(.int .i64 20),(.int .i64 0),(.str []),(.str []),(.int .i64 1)]),(.agg [(.int .i64 3),(.int .i64 2),(.str []),(.str [49]),(.int .i64 0)]),(.agg [(.int .i64 3),(.int .i64 2),(.str []),(.str [48]),(.int .i64 0)]),(.agg [(.int .i64 3),(.int .i64 2),(.str []),(.str [50]),(.int .i64 0)])] .no),(.int .i64 0)])),([(.agg [(.int .i64 4),(.bool false),(.str [49]),(.sl [(.str [49])] .no),(.sl [(.str [48])] .no)])],(.tup [(.sl [(.agg [(.int .i64 19),(.int .i64 0),(.str []),(.str []),(.int .i64 3)]),(.agg [(.int .i64 20),(.int .i64 0),(.str []),(.str []),(.int .i64 1)]),(.agg [(.int .i64 3),(.int .i64 2),(.str []),(.str [49]),(.int .i64 0)]),(.agg [(.int .i64 3),(.int .i64 2),(.str []),(.str [49]),(.int .i64 0)]),(.agg [(.int .i64 3),(.int .i64 2),(.str []),(.str [48]),(.int .i64 0)])] .no),(.int .i64 0)])),([(.agg [(.int .i64 4),(.bool false),(.str [49]),(.sl [(.str [49])] .no),(.sl [(.str [50])] .no)])],(.tup [(.sl [(.agg [(.int .i64 19),(.int .i64 0),(.str []),(.str []),(.int .i64 3)]),(.agg [(.int .i64 20),(.int .i64 0),(.str []),(.str []),(.int .i64 1)]),(.agg [(.int .i64 3),(.int .i64 2),(.str []),(.str [49]),(.int .i64 0)]),(.agg [(.int .i64 3),(.int .i64 2),(.str []),(.str [49]),(.int .i64 0)]),(.agg [(.int .i64 3),(.int .i64 2),(.str []),(.str [50]),(.int .i64 0)])] .no),(.int .i64 0)])),([(.agg [(.int .i64 4),(.bool false),(.str [49]),(.sl [(.str [50])] .no),(.sl [(.str [48])] .no)])],(.tup [(.sl [(.agg [(.int .i64 19),(.int .i64 0),(.str []),(.str []),(.int .i64 3)]),(.agg [(.int .i64 20),(.int .i64 0),(.str []),(.str []),(.int .i64 1)]),(.agg [(.int .i64 3),(.int .i64 2),(.str []),(.str [49]),(.int .i64 0)]),(.agg [(.int .i64 3),(.int .i64 2),(.str []),(.str [50]),(.int .i64 0)]),(.agg [(.int .i64 3),(.int .i64 2),(.str []),(.str [48]),(.int .i64 0)])] .no),(.int .i64 0)])),([(.agg [(.int .i64 4),(.bool false),(.str [49]),(.sl [(.str [50])] .no),(.sl [(.str [50])] .no)])],(.tup [(.sl [(.agg [(.int .i64 19),(.int .i64 0),(.str []),(.str []),(.int .i64 3)]),(.agg [(.int .i64 20),(.int .i64 0),(.str []),(.str []),(.int .i64 1)]),(.agg [(.int .i64 3),(.int .i64 2),(.str []),(.str [49]),(.int .i64 0)]),(.agg [(.int .i64 3),(.int .i64 2),(.str []),(.str [50]),(.int .i64 0)]),(.agg [(.int .i64 3),(.int .i64 2),(.str []),(.str [50]),(.int .i64 0)])] .no),(.int .i64 0)])),([(.agg [(.int .i64 4),(.bool false),(.str [50]),(.sl [(.str [48])] .no),(.sl [(.str [48])] .no)])],(.tup [(.sl [(.agg [(.int .i64 19),(.int .i64 0),(.str []),(.str []),(.int .i64 3)]),(.agg [(.int .i64 20),(.int .i64 0),(.str []),(.str []),(.int .i64 1)]),(.agg [(.int .i64 3),(.int .i64 2),(.str []),(.str [50]),(.int .i64 0)]),(.agg [(.int .i64 3),(.int .i64 2),(.str []),(.str [48]),(.int .i64 0)]),(.agg [(.int .i64 3),(.int .i64 2),(.str []),(.str [48]),(.int .i64 0)])] .no),(.int .i64 0)])),([(.agg [(.int .i64 4),(.bool false),(.str [50]),(.sl [(.str [48])] .no),(.sl [(.str [49])] .no)])],(.tup [(.sl [(.agg [(.int .i64 19),(.int .i64 0),(.str []),(.str []),(.int .i64 3)]),(.agg [(.int .i64 20),(.int .i64 0),(.str []),(.str []),(.int .i64 1)]),(.agg [(.int .i64 3),(.int .i64 2),(.str []),(.str [50]),(.int .i64 0)]),(.agg [(.int .i64 3),(.int .i64 2),(.str []),(.str [48]),(.int .i64 0)]),(.agg [(.int .i64 3),(.int .i64 2),(.str []),(.str [49]),(.int .i64 0)])] .no),(.int .i64 0)])),([(.agg [(.int .i64 4),(.bool false),(.str [50]),(.sl [] .no),(.sl [] .no)])],(.tup [(.sl [(.agg [(.int .i64 20),(.int .i64 0),(.str []),(.str []),(.int .i64 1)]),(.agg [(.int .i64 3),(.int .i64 2),(.str []),(.str [50]),(.int .i64 0)])] .no),(.int .i64 0)])),([(.agg [(.int .i64 4),(.bool false),(.str [50]),(.sl [(.str [49])] .no),(.sl [(.str [48])] .no)])],(.tup [(.sl [(.agg [(.int .i64 19),(.int .i64 0),(.str []),(.str []),(.int .i64 3)]),(.agg [(.int .i64 20),(.int .i64 0),(.str []),(.str []),(.int .i64 1)]),(.agg [(.int .i64 3),(.int .i64 2),(.str []),(.str [50]),(.int .i64 0)]),(.agg [(.int .i64 3),(.int .i64 2),(.str []),(.str [49]),(.int .i64 0)]),(.agg [(.int .i64 3),(.int .i64 2),(.str []),(.str [48]),(.int .i64 0)])] .no),(.int .i64 0)])),([(.agg [(.int .i64 4),(.bool false),(.str [50]),(.sl [(.str [49])] .no),(.sl [(.str [49])] .no)])],(.tup [(.sl [(.agg [(.int .i64 19),(.int .i64 0),(.str []),(.str []),(.int .i64 3)]),(.agg [(.int .i64 20),(.int .i64 0),(.str []),(.str []),(.int .i64 1)]),(.agg [(.int .i64 3),(.int .i64 2),(.str []),(.str [50]),(.int .i64 0)]),(.agg [(.int .i64 3),(.int .i64 2),(.str []),(.str [49]),(.int .i64 0)]),(.agg [(.int .i64 3),(.int .i64 2),(.str []),(.str [49]),(.int .i64 0)])] .no),(.int .i64 0)])),([(.agg [(.int .i64 4),(.bool false),(.str [50]),(.sl [(.str [50])] .no),(.sl [(.str [48])] .no)])],(.tup [(.sl [(.agg [(.int .i64 19),(.int .i64 0),(.str []),(.str []),(.int .i64 3)]),(.agg [(.int .i64 20),(.int .i64 0),(.str []),(.str []),(.int .i64 1)]),(.agg [(.int .i64 3),(.int .i64 2),(.str []),(.str [50]),(.int .i64 0)]),(.agg [(.int .i64 3),(.int .i64 2),(.str []),(.str [50]),(.int .i64 0)]),(.agg [(.int .i64 3),(.int .i64 2),(.str []),(.str [48]),(.int .i64 0)])] .no),(.int .i64 0)])),([(.agg [(.int .i64 4),(.bool false),(.str [50]),(.sl [(.str [50])] .no),(.sl [(.str [49])] .no)])],(.tup [(.sl [(.agg [(.int .i64 19),(.int .i64 0),(.str []),(.str []),(.int .i64 3)]),(.agg [(.int .i64 20),(.int .i64 0),(.str []),(.str []),(.int .i64 1)]),(.agg [(.int .i64 3),(.int .i64 2),(.str []),(.str [50]),(.int .i64 0)]),(.agg [(.int .i64 3),(.int .i64 2),(.str []),(.str [50]),(.int .i64 0)]),(.agg [(.int .i64 3),(.int .i64 2),(.str []),(.str [49]),(.int .i64 0)])] .no),(.int .i64 0)]))]
def x6o:List (List AV×AV):=[([(.str [80])],(.bool true)),([(.str [81])],(.bool true)),([(.str [82])],(.bool true)),([(.str [90])],(.bool true)),([(.str [83])],(.bool true)),([(.str [78])],(.bool true)),([(.str [120])],(.bool true)),([(.str [121])],(.bool true)),([(.str [122])],(.bool true)),([(.str [119])],(.bool true)),([(.str [112])],(.bool true)),([(.str [98])],(.bool true)),([(.str [97])],(.bool true)),([(.str [99])],(.bool true)),([(.str [117])],(.bool true)),([(.str [118])],(.bool true)),([(.str [121,48])],(.bool true)),([(.str [112,48])],(.bool true)),([(.str [112,49])],(.bool true)),([(.str [112,50])],(.bool true))]
def v4k:List (List AV×AV):=[([],(.sl [(.agg [(.str [80]),(.sl [(.int .i64 2)] .no),(.int .i64 1)]),(.agg [(.str [81]),(.sl [(.int .i64 2),(.int .i64 2)] .no),(.int .i64 1)]),(.agg [(.str [82]),(.sl [(.int .i64 1),(.int .i64 2),(.int .i64 2)] .no),(.int .i64 1)]),(.agg [(.str [90]),(.sl [] .no),(.int .i64 1)]),(.agg [(.str [83]),(.sl [(.int .i64 3),(.int .i64 4)] .no),(.int .i64 1)])] .no))]
def j2l:List (List AV×AV):=[([(.agg [(.str [80]),(.sl [(.int .i64 2)] .no),(.int .i64 1)])],(.bool false)),([(.agg [(.str [81]),(.sl [(.int .i64 2),(.int .i64 2)] .no),(.int .i64 1)])],(.bool false)),([(.agg [(.str [82]),(.sl [(.int .i64 1),(.int .i64 2),(.int .i64 2)] .no),(.int .i64 1)])],(.bool false)),([(.agg [(.str [90]),(.sl [] .no),(.int .i64 1)])],(.bool false)),([(.agg [(.str [83]),(.sl [(.int .i64 3),(.int .i64 4)] .no),(.int .i64 1)])],(.bool false)),([(.agg [(.str [78]),(.sl [(.int .i64 2)] .no),(.int .i64 1)])],(.bool false))]
def v4l:List (List AV×AV):=[([],(.sl [(.agg [(.str [120]),(.int .i64 2)]),(.agg [(.str [121]),(.int .i64 2)]),(.agg [(.str [122]),(.int .i64 3)]),(.agg [(.str [119]),(.int .i64 3)]),(.agg [(.str [112]),(.int .i64 1)]),(.agg [(.str [98]),(.int .i64 1)]),(.agg [(.str [97]),(.int .i64 4)]),(.agg [(.str [99]),(.int .i64 4)])] .no))]
def j2m:List (List AV×AV):=x6o.map fun p=>(p.1, .bool true)
def j8j:List (List AV×AV):=j2l.map fun p=>(p.1, .bool true)
def v1a:List (List AV×AV):=[([.int .i64 0], .str [48]),([.int .i64 1], .str [49]),([.int .i64 2], .str [50])]
def w2h:List (Nat×List (List AV×AV)):=[(99,v1a),(168,j2m),(222,j8j),(49,z5p),(195,z2k),(183,x6o),(24,v4k),(124,j2l),(67,v4l),(10,[([], .bool true)])]
def q5u (tab:List (List AV×AV)) (xs:List AV):Option AV:=(tab.find? fun p=>j5u p.1 xs).map (·.2)
def x3x (f:Nat):Option Nat:=if f=252 then some 294 else none
def w2i (f:Nat):Hint:=
 if f=192 then {mu:=[21]}
 else if f=77 then {mu:=[39]}
 else if f=217 then {byref:=[1],owned:=true}
 else if f=223 then {byref:=[0],owned:=true}
 else if f=36 then {owned:=true}
 else if f=31 then {mu:=List.range 21,ex:=[2,5,6,9,10,11,12]}
 else if f=72 then {byref:=[3]}
 else if f=236 then {alt:=[(49,1)]}
 else if f=46 then {mu:=[0,1,2,3,4]}
 else {}
def z7q (esz bytes:Nat):List AV→Option AV
 | [.sl xs _]=>if z0r esz xs=true∧(z0i xs).isEmpty=true∧xs.length * (bytes + 1)≤2 ^ 46 then some (.sl xs .no) else none
 | _=>none
def x1x:List AV→Option AV
 | [.str s, .int .u8 c]=>if 0≤c∧c < 256 then some (.int .i64 (match s.findIdx? (fun (b:Nat)=>decide ((b:Int)=c)) with | some i=>(i:Int) | none=> -1)) else none
 | _=>none
def y4o (f:Nat):Option (List AV→Option AV):=if f=90 then some (z7q 1 8) else if f=91 then some (z7q 2 24) else if f=92 then some (z7q 5 56) else if f=354 then some x1x else none
noncomputable def Gam:AProg where
 fn f:=cFun Tryz.prog x3x (w2i f) (real f)
 ext f:=match y4o f with
  | some sem=>some sem
  | none=>(w2h.find? fun p=>p.1==f).map fun p=>q5u p.2
 iters:=[294]
structure GInfo where
 slot:Nat
 blk:Nat
 esz:Nat
 cap:Nat
 endp:Nat
 capE:Nat
 room:Bool
abbrev Ghost:=Nat→Option GInfo
abbrev Imm:=Nat→Nat→Option Value
def z7r (s:List Nat):ByteArray:=⟨(s.map UInt8.ofNat).toArray⟩
def TipR (G:Ghost):Tip→Option Addr→List AV→Nat→Prop
 | .no,_,_,_=>True
 | .full,_,xs,c=>c=xs.length
 | .nn,A,_,_=>A≠none
 | .nil,A,xs,c=>A=none∧xs.length=0∧c=0
 | .at s g,A,xs,c=>∃ i,G g=some i∧i.slot=s∧0 < i.esz∧(∀ x∈xs,x.cells.length=i.esz)∧
  (c=xs.length∨(i.room=true∧∃ o,A=some ⟨i.blk,o,none⟩∧o + xs.length * i.esz=i.endp∧o + c * i.esz=i.capE))
mutual
def VR (G:Ghost) (I:Imm):AV→Value→Prop
 | .undef,_=>True
 | .int k n,v=>v= .int k n
 | .bool b,v=>v= .bool b
 | .str s,v=>v= .string (z7r s)∧∀ b∈s,b < 256
 | .agg cs,v=>∃ vs:Array Value,v= .agg vs∧VRL G I cs vs.toList
 | .tup cs,v=>∃ vs:Array Value,v= .tuple vs∧VRL G I cs vs.toList
 | .sl xs t,v=>∃ A n c,v= .slice A n c∧xs.length=n∧n≤c∧TipR G t A xs c∧
  (n=0∨∃ b o e,A=some ⟨b,o,none⟩∧0 < e∧RowI G I xs b o e)
 | .ob s g off len,v=>∃ i A c,G g=some i∧i.slot=s∧v= .slice A len c∧len≤c∧off + c=i.cap∧
  (c=0∨A=some ⟨i.blk,off * i.esz,none⟩)
 | .ptr s g k o,v=>∃ i,G g=some i∧i.slot=s∧v= .pointer (some ⟨i.blk,k * i.esz + o,none⟩)
 | .iptr cs o,v=>∃ b p,v= .pointer (some ⟨b,p + o,none⟩)∧CellsI G I cs b p
 | .nilptr,v=>v= .pointer none
 | .mp s g,v=>∃ i,G g=some i∧i.slot=s∧v= .map (some i.blk)
 | .nilmap,v=>v= .map none
 | .fn f cap,v=>∃ vs:Array Value,v= .func (.func (real f)) #[] vs∧VRL G I cap vs.toList
 | .nilfn,v=>v= .nilFunc
 | .nilif,v=>v= .nilIface
 | .bwd f x,v=>∃ b y,v= .func (.func f) #[] #[.pointer (some ⟨b,0,none⟩)]∧I b 0=some y∧VR G I x y
def VRL (G:Ghost) (I:Imm):List AV→List Value→Prop
 | [],vs=>vs=[]
 | x::xs,vs=>∃ v ws,vs=v::ws∧VR G I x v∧VRL G I xs ws
def RowI (G:Ghost) (I:Imm):List AV→Nat→Nat→Nat→Prop
 | [],_,_,_=>True
 | .agg cs::xs,b,o,e=>cs.length=e∧CellsI G I cs b o∧RowI G I xs b (o + e) e
 | x::xs,b,o,e=>e=1∧(∃ v,I b o=some v∧VR G I x v)∧RowI G I xs b (o + e) e
def CellsI (G:Ghost) (I:Imm):List AV→Nat→Nat→Prop
 | [],_,_=>True
 | c::cs,b,o=>(∃ v,I b o=some v∧VR G I c v)∧CellsI G I cs b (o + 1)
end
theorem z7b {x:AV} (h:∀ cs,x≠ .agg cs):x.cells=[x]:=by
 cases x <;> first | rfl | exact absurd rfl (h _)
theorem j2n {G:Ghost} {I:Imm} {b o e:Nat}:RowI G I [] b o e:=by simp[RowI]
theorem q2j {G:Ghost} {I:Imm} {b o:Nat}:CellsI G I [] b o:=by simp[CellsI]
theorem q0g {G:Ghost} {I:Imm} {c:AV} {cs:List AV} {b o:Nat}:
  CellsI G I (c::cs) b o↔(∃ v,I b o=some v∧VR G I c v)∧CellsI G I cs b (o + 1):=by
 rw[CellsI]
theorem x6p {G:Ghost} {I:Imm} {x:AV} {xs:List AV} {b o e:Nat}:
  RowI G I (x::xs) b o e↔x.cells.length=e∧CellsI G I x.cells b o∧RowI G I xs b (o + e) e:=by
 cases x <;> simp only[RowI,AV.cells,q0g,q2j,List.length_cons,List.length_nil,and_true,Nat.zero_add,eq_comm (a:=1)]
theorem z6x {G:Ghost} {I:Imm} {cs:List AV}:∀ {b o:Nat},
  CellsI G I cs b o↔∀ i c,cs[i]? =some c→∃ v,I b (o + i)=some v∧VR G I c v:=by
 induction cs with
 | nil=>intro b o;simp[CellsI]
 | cons c cs ih=>
   intro b o
   rw[q0g,ih]
   constructor
   ·rintro ⟨h1,h2⟩ i x hx
    cases i with
    | zero=>simp at hx;subst hx;exact h1
    | succ i=>simp at hx;have:=h2 i x hx;rwa [show o + (i + 1)=o + 1 + i by omega]
   ·intro h
    refine⟨h 0 c rfl,fun i x hx=> ?_⟩
    have:=h (i + 1) x (by simpa using hx)
    rwa [show o + (i + 1)=o + 1 + i by omega] at this
theorem z5u {G:Ghost} {I:Imm} {xs:List AV}:∀ {b o e:Nat},
  RowI G I xs b o e↔∀ k x,xs[k]? =some x→x.cells.length=e∧CellsI G I x.cells b (o + k * e):=by
 induction xs with
 | nil=>intro b o e;simp[RowI]
 | cons x xs ih=>
   intro b o e
   rw[x6p,ih]
   constructor
   ·rintro ⟨h1,h2,h3⟩ k y hy
    cases k with
    | zero=>simp at hy;subst hy;simpa using ⟨h1,h2⟩
    | succ k=>
      simp at hy
      have:=h3 k y hy
      rwa [show o + (k + 1) * e=o + e + k * e by rw[k9];omega]
   ·intro h
    have h0:=h 0 x rfl
    refine⟨h0.1,by simpa using h0.2,fun k y hy=> ?_⟩
    have:=h (k + 1) y (by simpa using hy)
    rwa [show o + (k + 1) * e=o + e + k * e by rw[k9];omega] at this
theorem z9j {G:Ghost} {I:Imm} {xs:List AV}:∀ {vs:List Value},
  VRL G I xs vs↔xs.length=vs.length∧∀ (i:Nat) x v,xs[i]? =some x→vs[i]? =some v→VR G I x v:=by
 induction xs with
 | nil=>intro vs;cases vs <;> simp[VRL]
 | cons x xs ih=>
   intro vs
   cases vs with
   | nil=>simp[VRL]
   | cons v vs=>
     simp only[VRL,List.cons.injEq]
     constructor
     ·rintro ⟨v',ws,⟨rfl,rfl⟩,h1,h2⟩
      obtain⟨h3,h4⟩:=ih.1 h2
      refine⟨by simp[h3],fun i y u hy hu=> ?_⟩
      cases i with
      | zero=>simp at hy hu;subst hy hu;exact h1
      | succ i=>simp at hy hu;exact h4 i y u hy hu
     ·rintro ⟨h1,h2⟩
      refine⟨v,vs,⟨rfl,rfl⟩,h2 0 x v rfl rfl,ih.2 ⟨by simpa using h1,fun i y u hy hu=>h2 (i + 1) y u (by simpa using hy) (by simpa using hu)⟩⟩
def GLe (G G':Ghost):Prop:=∀ g i,G g=some i→G' g=some i
def ILe (I I':Imm):Prop:=∀ b o v,I b o=some v→I' b o=some v
theorem GLe.refl (G:Ghost):GLe G G:=fun _ _ h=>h
theorem ILe.refl (I:Imm):ILe I I:=fun _ _ _ h=>h
theorem GLe.trans {G G' G'':Ghost} (h:GLe G G') (h':GLe G' G''):GLe G G'':=fun g i hi=>h' g i (h g i hi)
theorem ILe.trans {I I' I'':Imm} (h:ILe I I') (h':ILe I' I''):ILe I I'':=fun b o v hv=>h' b o v (h b o v hv)
theorem TipR.mono {G G':Ghost} (hG:GLe G G') {t:Tip} {A:Option Addr} {xs:List AV} {c:Nat} (h:TipR G t A xs c):TipR G' t A xs c:=by
 cases t with
 | no=>exact h
 | full=>exact h
 | nn=>exact h
 | nil=>exact h
 | «at» s g=>
   obtain⟨i,hi,h⟩:=h
   exact⟨i,hG _ _ hi,h⟩
mutual
theorem VR.mono {G G':Ghost} {I I':Imm} (hG:GLe G G') (hI:ILe I I'):∀ {x:AV} {v:Value},VR G I x v→VR G' I' x v
 | .undef,_,_=>by simp[VR]
 | .int ..,_,h=>by simpa [VR] using h
 | .bool _,_,h=>by simpa [VR] using h
 | .str _,_,h=>by simpa only[VR] using h
 | .agg _,_,h=>by
   simp only[VR] at h⊢
   obtain⟨vs,rfl,h⟩:=h
   exact⟨vs,rfl,VRL.mono hG hI h⟩
 | .tup _,_,h=>by
   simp only[VR] at h⊢
   obtain⟨vs,rfl,h⟩:=h
   exact⟨vs,rfl,VRL.mono hG hI h⟩
 | .sl xs t,_,h=>by
   simp only[VR] at h⊢
   obtain⟨A,n,c,rfl,h1,h2,h3,h4⟩:=h
   refine⟨A,n,c,rfl,h1,h2,h3.mono hG, ?_⟩
   rcases h4 with h4 | ⟨b,o,e,h5,h6,h7⟩
   ·exact .inl h4
   ·exact .inr ⟨b,o,e,h5,h6,RowI.mono hG hI h7⟩
 | .ob ..,_,h=>by
   simp only[VR] at h⊢
   obtain⟨i,A,c,h1,h2⟩:=h
   exact⟨i,A,c,hG _ _ h1,h2⟩
 | .ptr ..,_,h=>by
   simp only[VR] at h⊢
   obtain⟨i,h1,h2⟩:=h
   exact⟨i,hG _ _ h1,h2⟩
 | .iptr _ _,_,h=>by
   simp only[VR] at h⊢
   obtain⟨b,p,rfl,h⟩:=h
   exact⟨b,p,rfl,CellsI.mono hG hI h⟩
 | .nilptr,_,h=>by simpa [VR] using h
 | .mp ..,_,h=>by
   simp only[VR] at h⊢
   obtain⟨i,h1,h2⟩:=h
   exact⟨i,hG _ _ h1,h2⟩
 | .nilmap,_,h=>by simpa [VR] using h
 | .fn _ _,_,h=>by
   simp only[VR] at h⊢
   obtain⟨vs,rfl,h⟩:=h
   exact⟨vs,rfl,VRL.mono hG hI h⟩
 | .nilfn,_,h=>by simpa [VR] using h
 | .nilif,_,h=>by simpa [VR] using h
 | .bwd _ _,_,h=>by
   simp only[VR] at h⊢
   obtain⟨b,y,rfl,h1,h2⟩:=h
   exact⟨b,y,rfl,hI _ _ _ h1,VR.mono hG hI h2⟩
theorem VRL.mono {G G':Ghost} {I I':Imm} (hG:GLe G G') (hI:ILe I I'):∀ {xs:List AV} {vs:List Value},VRL G I xs vs→VRL G' I' xs vs
 | [],_,h=>by simpa [VRL] using h
 | _::_,_,h=>by
   simp only[VRL] at h⊢
   obtain⟨v,ws,rfl,h1,h2⟩:=h
   exact⟨v,ws,rfl,VR.mono hG hI h1,VRL.mono hG hI h2⟩
theorem RowI.mono {G G':Ghost} {I I':Imm} (hG:GLe G G') (hI:ILe I I'):∀ {xs:List AV} {b o e:Nat},RowI G I xs b o e→RowI G' I' xs b o e
 | [],_,_,_,_=>j2n
 | .agg _::_,_,_,_,h=>by
   simp only[RowI] at h⊢
   exact⟨h.1,CellsI.mono hG hI h.2.1,RowI.mono hG hI h.2.2⟩
 | .undef::_,_,_,_,h=>by
   simp only[RowI] at h⊢
   obtain⟨h1,⟨v,h2,h3⟩,h4⟩:=h
   exact⟨h1,⟨v,hI _ _ _ h2,VR.mono hG hI h3⟩,RowI.mono hG hI h4⟩
 | .int .. ::_,_,_,_,h=>by
   simp only[RowI] at h⊢
   obtain⟨h1,⟨v,h2,h3⟩,h4⟩:=h
   exact⟨h1,⟨v,hI _ _ _ h2,VR.mono hG hI h3⟩,RowI.mono hG hI h4⟩
 | .bool _::_,_,_,_,h=>by
   simp only[RowI] at h⊢
   obtain⟨h1,⟨v,h2,h3⟩,h4⟩:=h
   exact⟨h1,⟨v,hI _ _ _ h2,VR.mono hG hI h3⟩,RowI.mono hG hI h4⟩
 | .str _::_,_,_,_,h=>by
   simp only[RowI] at h⊢
   obtain⟨h1,⟨v,h2,h3⟩,h4⟩:=h
   exact⟨h1,⟨v,hI _ _ _ h2,VR.mono hG hI h3⟩,RowI.mono hG hI h4⟩
 | .tup _::_,_,_,_,h=>by
   simp only[RowI] at h⊢
   obtain⟨h1,⟨v,h2,h3⟩,h4⟩:=h
   exact⟨h1,⟨v,hI _ _ _ h2,VR.mono hG hI h3⟩,RowI.mono hG hI h4⟩
 | .sl _ _::_,_,_,_,h=>by
   simp only[RowI] at h⊢
   obtain⟨h1,⟨v,h2,h3⟩,h4⟩:=h
   exact⟨h1,⟨v,hI _ _ _ h2,VR.mono hG hI h3⟩,RowI.mono hG hI h4⟩
 | .ob .. ::_,_,_,_,h=>by
   simp only[RowI] at h⊢
   obtain⟨h1,⟨v,h2,h3⟩,h4⟩:=h
   exact⟨h1,⟨v,hI _ _ _ h2,VR.mono hG hI h3⟩,RowI.mono hG hI h4⟩
 | .ptr .. ::_,_,_,_,h=>by
   simp only[RowI] at h⊢
   obtain⟨h1,⟨v,h2,h3⟩,h4⟩:=h
   exact⟨h1,⟨v,hI _ _ _ h2,VR.mono hG hI h3⟩,RowI.mono hG hI h4⟩
 | .iptr _ _::_,_,_,_,h=>by
   simp only[RowI] at h⊢
   obtain⟨h1,⟨v,h2,h3⟩,h4⟩:=h
   exact⟨h1,⟨v,hI _ _ _ h2,VR.mono hG hI h3⟩,RowI.mono hG hI h4⟩
 | .nilptr::_,_,_,_,h=>by
   simp only[RowI] at h⊢
   obtain⟨h1,⟨v,h2,h3⟩,h4⟩:=h
   exact⟨h1,⟨v,hI _ _ _ h2,VR.mono hG hI h3⟩,RowI.mono hG hI h4⟩
 | .mp .. ::_,_,_,_,h=>by
   simp only[RowI] at h⊢
   obtain⟨h1,⟨v,h2,h3⟩,h4⟩:=h
   exact⟨h1,⟨v,hI _ _ _ h2,VR.mono hG hI h3⟩,RowI.mono hG hI h4⟩
 | .nilmap::_,_,_,_,h=>by
   simp only[RowI] at h⊢
   obtain⟨h1,⟨v,h2,h3⟩,h4⟩:=h
   exact⟨h1,⟨v,hI _ _ _ h2,VR.mono hG hI h3⟩,RowI.mono hG hI h4⟩
 | .fn _ _::_,_,_,_,h=>by
   simp only[RowI] at h⊢
   obtain⟨h1,⟨v,h2,h3⟩,h4⟩:=h
   exact⟨h1,⟨v,hI _ _ _ h2,VR.mono hG hI h3⟩,RowI.mono hG hI h4⟩
 | .nilfn::_,_,_,_,h=>by
   simp only[RowI] at h⊢
   obtain⟨h1,⟨v,h2,h3⟩,h4⟩:=h
   exact⟨h1,⟨v,hI _ _ _ h2,VR.mono hG hI h3⟩,RowI.mono hG hI h4⟩
 | .nilif::_,_,_,_,h=>by
   simp only[RowI] at h⊢
   obtain⟨h1,⟨v,h2,h3⟩,h4⟩:=h
   exact⟨h1,⟨v,hI _ _ _ h2,VR.mono hG hI h3⟩,RowI.mono hG hI h4⟩
 | .bwd _ _::_,_,_,_,h=>by
   simp only[RowI] at h⊢
   obtain⟨h1,⟨v,h2,h3⟩,h4⟩:=h
   exact⟨h1,⟨v,hI _ _ _ h2,VR.mono hG hI h3⟩,RowI.mono hG hI h4⟩
theorem CellsI.mono {G G':Ghost} {I I':Imm} (hG:GLe G G') (hI:ILe I I'):∀ {cs:List AV} {b o:Nat},CellsI G I cs b o→CellsI G' I' cs b o
 | [],_,_,_=>q2j
 | _::_,_,_,h=>by
   simp only[CellsI] at h⊢
   obtain⟨⟨v,h1,h2⟩,h3⟩:=h
   exact⟨⟨v,hI _ _ _ h1,VR.mono hG hI h2⟩,CellsI.mono hG hI h3⟩
end
end Go.Proofs.YtkollgjffkdliaaGreatDoor.Am
