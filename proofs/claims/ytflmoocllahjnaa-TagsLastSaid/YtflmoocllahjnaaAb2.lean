/- The abstract machine: its operations. -/
import Derived.Test.YtflmoocllahjnaaAb1
namespace Go.Ab

/-! ### Types -/
def aggOf (P : Program) (t : TypeId) : Option Bool :=
  (P.underlying t).map fun | .struct _ | .array _ _ => true | _ => false
def zeroOf (P : Program) (t : TypeId) : Option (List Value) :=
  ((P.info? t).bind (·.zero)).bind fun z =>
    if plainV z && z.cells.toList.all cellB && z.cells.size == P.cellsOf t then some z.cells.toList else none
def bytesOf (P : Program) (t : TypeId) : Nat := P.bytesOf t

/-! ### Reading and writing -/
def loadCellsAt (h : AH) (a : Addr) (n : Nat) : Option (List Value) :=
  if a.spot.isSome then none else
  match h.get a.block with
  | some (.cells c _ _ _) => if a.off + n ≤ c.length then some ((c.drop a.off).take n) else none
  | _ => none
def aload (P : Program) (h : AH) (t : TypeId) (a : Addr) : Option Value :=
  match aggOf P t with
  | some true => (loadCellsAt h a (P.cellsOf t)).map fun l => .agg ⟨l⟩
  | some false =>
    if a.spot.isSome then none else
    match h.get a.block with
    | some (.cells c _ _ _) => c[a.off]?
    | _ => none
  | none => none
def storeCellsAt (h : AH) (a : Addr) (vs : List Value) : Option AH :=
  if a.spot.isSome || a.block < h.base || !vs.all cellB then none else
  match h.get a.block with
  | some (.cells c e fz x) => if fz.2 = 0 ∧ a.off + vs.length ≤ c.length then some (h.set a.block (some (.cells (splice c a.off vs) e fz x))) else none
  | _ => none
def cellsOfV (v : Value) : Option (List Value) := if isTop v then none else some v.cells.toList
def astore (P : Program) (h : AH) (t : TypeId) (a : Addr) (v : Value) : Option AH :=
  match cellsOfV v with
  | some vs => if vs.length = P.cellsOf t ∧ (P.info? t).isSome then storeCellsAt h a vs else none
  | none => none
def apart (P : Program) (t : TypeId) (cs : List Value) (off : Nat) : Option Value :=
  match aggOf P t with
  | some true => if off + P.cellsOf t ≤ cs.length then some (.agg ⟨(cs.drop off).take (P.cellsOf t)⟩) else none
  | some false => cs[off]?
  | none => none

/-! ### Building -/
def afill (place : Nat → Option (Nat × Nat)) (cells : List Value) : List (Nat × Value) → Option (List Value)
  | [] => some cells
  | (i, v) :: rest =>
    match place i, cellsOfV v with
    | some (off, size), some vs => if vs.length = size ∧ off + vs.length ≤ cells.length then afill place (splice cells off vs) rest else none
    | _, _ => none
def abuild (P : Program) (t : TypeId) (parts : List (Nat × Value)) : Option Value :=
  match zeroOf P t, P.underlying t with
  | some z, some (.struct fs) =>
    if fs.all (fun f => (P.info? f.type).isSome) then (afill (fun i => (fs[i]?).map fun f => (f.offset, P.cellsOf f.type)) z parts).map fun l => .agg ⟨l⟩ else none
  | some z, some (.array _ e) =>
    if (P.info? e).isSome then (afill (fun i => some (i * P.cellsOf e, P.cellsOf e)) z parts).map fun l => .agg ⟨l⟩ else none
  | _, _ => none
def zerosA (z : List Value) (n : Nat) : List Value := (List.replicate n z).flatten

/-! ### Slices -/
def bnd (v : Option Value) (dflt : Nat) (most : Nat) : Option Nat :=
  match v with
  | none => some dflt
  | some (.int _ i) => if 0 ≤ i ∧ i ≤ most then some i.toNat else none
  | some _ => none
def dangling : Value := .slice (some ⟨0, 0, some 0⟩) 0 0
/-- is the block of an address told to its end? -/
def exactAt (h : AH) (i : Nat) : Option Bool := match h.get i with | some (.cells _ _ _ x) => some x | _ => none
def aslice (P : Program) (h : AH) (t : TypeId) (x : Value) (lo hi mx : Option Value) : Option Value :=
  match P.underlying t, x with
  | some (.array n e), .pointer (some a) =>
    match bnd mx n n with
    | some m => match (if hi.isNone && mx.isSome then none else bnd hi n m) with
      | some hh => match bnd lo 0 hh with
        | some l => if (P.info? e).isSome ∧ a.spot = none then some (.slice (some (if m = l then a else a.add (l * P.cellsOf e))) (hh - l) (m - l)) else none
        | none => none
      | none => none
    | none => none
  | some .string, .string s =>
    if mx.isSome then none else
    match bnd hi s.size s.size with
    | some hh => match bnd lo 0 hh with
      | some l => some (.string (s.extract l hh))
      | none => none
    | none => none
  | some (.slice e), .slice none len cap =>
    match bnd mx cap cap with
    | some m => match (if hi.isNone && mx.isSome then none else bnd hi len m) with
      | some hh => match bnd lo 0 hh with
        | some l => if (P.info? e).isSome then some (.slice none (hh - l) (m - l)) else none
        | none => none
      | none => none
    | none => none
  | some (.slice e), .slice (some a) len cap =>
    if a.spot.isSome then none else
    match bnd mx cap cap with
    | some m => match (if hi.isNone && mx.isSome then none else bnd hi len m) with
      | some hh => match bnd lo 0 hh with
        | some l =>
          if (P.info? e).isSome ∧ hh ≤ m then
            (if mx.isNone ∧ m = l then
              match exactAt h a.block with
              | some true => some (.slice (some a) (hh - l) (m - l))
              | some false => some dangling
              | none => none
            else some (.slice (some (if m = l then a else a.add (l * P.cellsOf e))) (hh - l) (m - l)))
          else none
        | none => none
      | none => none
    | none => none
  | _, _ => none

/-! ### Comparing -/
def aeqFields (P : Program) (eq : TypeId → Value → Value → Option Bool) (xs ys : List Value) : List Field → Option Bool
  | [] => some true
  | f :: fs =>
    if f.name = "_" then aeqFields P eq xs ys fs else
    match apart P f.type xs f.offset, apart P f.type ys f.offset with
    | some x, some y => match eq f.type x y with
      | some true => aeqFields P eq xs ys fs
      | some false => some false
      | none => none
    | _, _ => none
def aeqElems (P : Program) (eq : TypeId → Value → Value → Option Bool) (e : TypeId) (xs ys : List Value) : List Nat → Option Bool
  | [] => some true
  | i :: is =>
    match apart P e xs (i * P.cellsOf e), apart P e ys (i * P.cellsOf e) with
    | some x, some y => match eq e x y with
      | some true => aeqElems P eq e xs ys is
      | some false => some false
      | none => none
    | _, _ => none
def aeq (P : Program) : Nat → TypeId → Value → Value → Option Bool
  | 0, _, _, _ => none
  | d + 1, t, x, y =>
    match P.underlying t, x, y with
    | some .bool, .bool a, .bool b => some (a == b)
    | some (.int _), .int k a, .int k' b => if k = k' then some (a == b) else none
    | some .string, .string a, .string b => some (a == b)
    | some (.pointer _), .pointer none, .pointer b => some b.isNone
    | some (.pointer _), .pointer (some _), .pointer none => some false
    | some (.interface _), .nilIface, .nilIface => some true
    | some (.interface _), .nilIface, .iface _ _ => some false
    | some (.interface _), .iface _ _, .nilIface => some false
    | some (.struct fs), .agg xs, .agg ys => if P.stoodInHeld t then none else aeqFields P (aeq P d) xs.toList ys.toList fs.toList
    | some (.array n e), .agg xs, .agg ys => if (P.info? e).isSome then aeqElems P (aeq P d) e xs.toList ys.toList (List.range n) else none
    | some (.slice _), .slice none _ _, .slice b _ _ => some b.isNone
    | some (.slice _), .slice (some _) _ _, .slice none _ _ => some false
    | some (.map _ _), .map none, .map b => some b.isNone
    | some (.map _ _), .map (some _), .map none => some false
    | some (.func _ _ _), .nilFunc, .nilFunc => some true
    | some (.func _ _ _), .nilFunc, .func _ _ _ => some false
    | some (.func _ _ _), .func _ _ _, .nilFunc => some false
    | _, _, _ => none
def isConst : Operand → Bool
  | .const _ => true
  | _ => false
/-- what the model asks ahead of '==' -/
def eqAsk (P : Program) (t : TypeId) (x y : Operand) (a b : Value) : Bool :=
  match a, b with
  | .nilIface, .nilIface => isConst x || isConst y
  | .agg _, .agg _ => !P.eqGuardType P.depth t
  | _, _ => true
def acmp (op : BinOp) (x y : Int) : Option Bool :=
  match op with
  | .eql => some (x == y)
  | .neq => some (x != y)
  | .lss => some (decide (x < y))
  | .leq => some (decide (x ≤ y))
  | .gtr => some (decide (x > y))
  | .geq => some (decide (x ≥ y))
  | _ => none
def aint (op : BinOp) (k : IntKind) (x y : Int) : Option Value :=
  match op with
  | .add => some (.int k (k.wrap (x + y)))
  | .sub => some (.int k (k.wrap (x - y)))
  | .mul => some (.int k (k.wrap (x * y)))
  | .quo => if y = 0 then none else some (.int k (k.wrap (x.tdiv y)))
  | .rem => if y = 0 then none else some (.int k (x.tmod y))
  | .eql | .neq | .lss | .leq | .gtr | .geq => (acmp op x y).map .bool
  | _ => none
def astr (op : BinOp) (x y : ByteArray) : Option Value :=
  match op with
  | .add => if x.size + y.size ≤ 2 ^ 62 then some (.string (x ++ y)) else none
  | .eql => some (.bool (x.toList == y.toList))
  | .neq => some (.bool !(x.toList == y.toList))
  | .lss => some (.bool (Op.bytesLess x.toList y.toList))
  | _ => none
def abin (P : Program) (op : BinOp) (t : TypeId) (x y : Operand) (a b : Value) : Option Value :=
  match a, b with
  | .int k m, .int k' n => if k = k' then aint op k m n else none
  | .string m, .string n => astr op m n
  | a, b =>
    match op with
    | .eql => if eqAsk P t x y a b then (aeq P 10000 t a b).map .bool else none
    | .neq => if eqAsk P t x y a b then (aeq P 10000 t a b).map fun e => .bool !e else none
    | _ => none

/-! ### Operations that make one block, and look at none -/
def aalloc (P : Program) (ev : Operand → Value) : Op → Option (Blk × (Nat → Value))
  | .alloc e => (zeroOf P e).map fun z => (.cells z e (0, 0) true, fun i => .pointer (some ⟨i, 0, none⟩))
  | .box e x => (cellsOfV (ev x)).map fun l => (.cells l e (0, 0) true, fun i => .pointer (some ⟨i, 0, none⟩))
  | .buildSlice t len parts =>
    match P.underlying t with
    | some (.slice e) =>
      match zeroOf P e with
      | some z =>
        if len * P.cellsOf e ≤ 2 ^ 24 then
          (afill (fun i => some (i * P.cellsOf e, P.cellsOf e)) (zerosA z len) (parts.toList.map fun p => (p.1, ev p.2))).map fun l =>
            (.cells l e (0, 0) true, fun i => .slice (some ⟨i, 0, none⟩) len len)
        else none
      | none => none
    | _ => none
  | .makeSlice t l c => match P.underlying t, ev l, ev c with
    | some (.slice e), .int _ l, .int _ c =>
      match zeroOf P e with
      | some z =>
        if 0 ≤ l ∧ l ≤ c ∧ c ≤ 2 ^ 40 ∧ P.bytesOf e * c ≤ 2 ^ 47 then
          some (.cells (zerosA z c.toNat) e (0, 0) true, fun i => .slice (some ⟨i, 0, none⟩) l.toNat c.toNat)
        else none
      | none => none
    | _, _, _ => none
  | _ => none

/-! ### Operations that make nothing, and write nothing -/
def alight (P : Program) (ev : Operand → Value) (h : AH) : Op → Option Value
  | .move x => some (ev x)
  | .assign x => some (ev x)
  | .pick c a b => match ev c with
    | .bool t => some (if t then ev a else ev b)
    | _ => none
  | .build t parts => abuild P t (parts.toList.map fun p => (p.1, ev p.2))
  | .load t a => match ev a with
    | .pointer (some a) => aload P h t a
    | _ => none
  | .nilCheck x => match ev x with
    | .pointer (some a) => some (.pointer (some a))
    | .func (.func f) a b => some (.func (.func f) a b)
    | .func (.yield f) a b => some (.func (.yield f) a b)
    | _ => none
  | .binOp op t x y _ => abin P op t x y (ev x) (ev y)
  | .unOp op _ x => match op, ev x with
    | .neg, .int k n => some (.int k (k.wrap (0 - n)))
    | .not, .bool b => some (.bool !b)
    | _, _ => none
  | .convert s d x => match P.underlying s, P.underlying d, ev x with
    | some _, some (.int k), .int _ n => some (.int k (k.wrap n))
    | some .string, some .string, .string z => some (.string z)
    | _, _, _ => none
  | .makeInterface t x => match P.underlying t with
    | some (.interface _) => none
    | some _ => some (.iface t (ev x))
    | none => none
  | .makeFunc fn first captured => match fn with
    | .func f => some (.func (.func f) (first.map ev) (captured.map ev))
    | _ => none
  | .slice t x lo hi mx => aslice P h t (ev x) (lo.map ev) (hi.map ev) (mx.map ev)
  | .fieldAddr s x f => match P.underlying s, ev x with
    | some (.struct fs), .pointer (some a) => match fs[f]? with
      | some fd => if P.cellsOf fd.type = 0 then none else some (.pointer (some (a.add fd.offset)))
      | none => none
    | _, _ => none
  | .field t x f => match P.underlying t, ev x with
    | some (.struct fs), .agg cs => match fs[f]? with
      | some fd => apart P fd.type cs.toList fd.offset
      | none => none
    | _, _ => none
  | .indexAddr t x i => match P.underlying t, ev x, ev i with
    | some (.array n e), .pointer (some a), .int _ i => if 0 ≤ i ∧ i < n ∧ (P.info? e).isSome then some (.pointer (some (a.add (i.toNat * P.cellsOf e)))) else none
    | some (.slice e), .slice (some a) n _, .int _ i => if 0 ≤ i ∧ i < n ∧ (P.info? e).isSome ∧ a.spot = none then some (.pointer (some (a.add (i.toNat * P.cellsOf e)))) else none
    | _, _, _ => none
  | .index t x i => match P.underlying t, ev x, ev i with
    | some (.array n e), .agg cs, .int _ i => if 0 ≤ i ∧ i < n ∧ (P.info? e).isSome then apart P e cs.toList (i.toNat * P.cellsOf e) else none
    | some .string, .string s, .int _ i => if 0 ≤ i then (s[i.toNat]?).map fun b => .int .u8 b.toNat else none
    | _, _, _ => none
  | .extract t i => match ev t with
    | .tuple vs => vs.toList[i]?
    | _ => none
  | _ => none

inductive Kind where
  | light | alloc | store | call | other
  deriving DecidableEq
def kindOf : Op → Kind
  | .move _ | .assign _ | .pick .. | .build .. | .load .. | .nilCheck _ | .binOp .. | .unOp .. | .convert .. | .makeInterface .. | .makeFunc .. | .slice .. | .fieldAddr ..
  | .field .. | .indexAddr .. | .index .. | .extract .. => .light
  | .alloc _ | .box .. | .buildSlice .. | .makeSlice .. => .alloc
  | .store .. => .store
  | .call _ => .call
  | _ => .other

/-! ### The builtins -/
def srcCells (h : AH) (size n : Nat) : Value → Option (List Value)
  | .slice none _ _ => if n = 0 then some [] else none
  | .slice (some a) l _ => if n = 0 then some [] else if n ≤ l then loadCellsAt h a (n * size) else none
  | .string s => if n ≤ s.size then some ((s.extract 0 n).data.toList.map fun b => .int .u8 b.toNat) else none
  | _ => none
def lenOfV : Value → Option Nat
  | .slice _ n _ => some n
  | .string s => some s.size
  | _ => none
def srcKind (P : Program) (argTypes : Array TypeId) : Bool :=
  match (argTypes[1]?).bind P.underlying with
  | some (.slice _) | some .string => true
  | _ => false
def aappend (P : Program) (h : AH) (argTypes : Array TypeId) (s x : Value) : Option (Value × AH) :=
  match (argTypes[0]?).bind P.underlying, s, lenOfV x with
  | some (.slice e), .slice base sLen sCap, some n =>
    if !srcKind P argTypes then none else
    match zeroOf P e, srcCells h (P.cellsOf e) n x with
    | some _, some new =>
      if !new.all cellB || new.length != n * P.cellsOf e then none else
      if sLen + n ≤ sCap then
        match base with
        | none => if n = 0 then some (s, h) else none
        | some a => if a.spot.isSome then none else if n = 0 then some (s, h) else
          (storeCellsAt h (a.add (sLen * P.cellsOf e)) new).map fun h' => (.slice base (sLen + n) sCap, h')
      else if (sLen + n) * (P.bytesOf e + 1) ≤ 2 ^ 46 then
        match base with
        | none => if sLen = 0 then some (.slice (some ⟨h.next, 0, none⟩) n n, h.alloc (.cells new e (0, 0) false)) else none
        | some a =>
          match loadCellsAt h a (sLen * P.cellsOf e), h.get a.block with
          | some old, some (.cells c e' fz x) =>
            if !old.all cellB then none else
            if x then some (.slice (some ⟨h.next, 0, none⟩) (sLen + n) (sLen + n), h.alloc (.cells (old ++ new) e (0, 0) false))
            else if e' = e ∧ a.off = 0 ∧ h.base ≤ a.block ∧ fz = (0, 0) ∧ sCap * P.cellsOf e ≤ c.length then
              some (.slice (some ⟨h.next, 0, none⟩) (sLen + n) (sLen + n), (h.set a.block none).alloc (.cells (old ++ new) e (0, 0) false))
            else none
          | _, _ => none
      else none
    | _, _ => none
  | _, _, _ => none
def abuiltin (P : Program) (h : AH) (b : Builtin) (argTypes : Array TypeId) (args : List Value) : Option (Value × AH) :=
  match b, args with
  | .len, [x] => match (argTypes[0]?).bind P.underlying, x with
    | some .string, .string s => some (.int .i64 s.size, h)
    | some (.array n _), _ => some (.int .i64 n, h)
    | some (.pointer e), _ => match P.underlying e with
      | some (.array n _) => some (.int .i64 n, h)
      | _ => none
    | some (.slice _), .slice _ n _ => some (.int .i64 n, h)
    | _, _ => none
  | .append, [s, x] => aappend P h argTypes s x
  | .copy, [d, x] => match (argTypes[0]?).bind P.underlying, d, lenOfV x with
    | some (.slice e), .slice base dLen _, some m =>
      if (P.info? e).isNone then none else
      match srcCells h (P.cellsOf e) (Nat.min m dLen) x with
      | some new => match base with
        | none => some (.int .i64 (Nat.min m dLen : Nat), h)
        | some a => if Nat.min m dLen = 0 then some (.int .i64 0, h) else (storeCellsAt h a new).map fun h' => (.int .i64 (Nat.min m dLen : Nat), h')
      | none => none
    | _, _, _ => none
  | .clear, [x] => match (argTypes[0]?).bind P.underlying, x with
    | some _, .slice none _ _ => some (.tuple #[], h)
    | some (.slice e), .slice (some a) n _ =>
      if n = 0 then some (.tuple #[], h) else
      match zeroOf P e with
      | some z => (storeCellsAt h a (zerosA z n)).map fun h' => (.tuple #[], h')
      | none => none
    | _, _ => none
  | .min, [.int k x, .int _ y] => some (.int k (if y < x then y else x), h)
  | .max, [.int k x, .int _ y] => some (.int k (if y > x then y else x), h)
  | _, _ => none

end Go.Ab
