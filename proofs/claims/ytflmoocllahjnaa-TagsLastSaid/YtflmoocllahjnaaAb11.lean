/- The abstract machine: how it runs. -/
import Derived.Test.YtflmoocllahjnaaAb10
namespace Go.Ab

inductive Leave where
  | fell | ret | exit (id : Nat)
structure Out where
  leave : Leave
  ds : List Nat
  env : List Value
  v : Value
inductive Task where
  | todo (fn : FuncId) (ro : Option Nat) (ds : List Nat) (env : List Value) (k : List Item)
  | ops (all : Array Oper) (rest : List Oper) (env : List Value)
  | call (f : FuncId) (args : List Value)
  | round (l : Nat) (args : List Value)

def aeval (P : Program) (env : List Value) : Operand → Value
  | .tmp t => env.getD t undef
  | .const v => if plainV v then v else top
  | .global g => if g < P.globals.size then .pointer (some ⟨g, 0, none⟩) else top
  | .func f => .func (.func f) #[] #[]
def aput (env : List Value) (d : Option Tmp) (v : Value) : List Value :=
  match d with
  | some d => env.set d v
  | none => env
/-- is an operation wanted? (it is not known where its guard's value is not told) -/
def aWanted (all : Array Oper) (env : List Value) (o : Oper) : Option Bool :=
  match o.guard with
  | none => some true
  | some (j, want) =>
    match ((all[j]?).bind (·.dst)).bind (env[·]?) with
    | some (.bool b) => some (b == want)
    | some (.chan _) => none
    | _ => some false
def callable (P : Program) (g : FuncId) : Bool :=
  match P.funcs[g]? with
  | some fn => fn.body.isSome && !(fn.name == "runtime.NumGoroutine")
  | none => false
abbrev Run := Task → AH → Option (Out × AH)
def litBuiltin : Builtin → Bool
  | .len | .min | .max => true
  | _ => false
def isLight (op : Op) : Bool :=
  match op with
  | .call c => (match c.callee with | .builtin b => litBuiltin b | _ => false)
  | op => kindOf op == .light
/-- the value of an operation that makes nothing, and writes nothing -/
def lightVal (P : Program) (ev : Operand → Value) (h : AH) (op : Op) : Option Value :=
  match op with
  | .call c => (match c.callee with | .builtin b => if litBuiltin b then (abuiltin P h b c.argTypes (c.args.toList.map ev)).map (·.1) else none | _ => none)
  | op => alight P ev h op
/-- a store, or a call -/
def heavyStep (P : Program) (R : Run) (ev : Operand → Value) (h : AH) (op : Op) : Option (Value × AH) :=
  match op with
  | .store t a x => match ev a with
    | .pointer (some a) => (astore P h t a (ev x)).map fun h' => (undef, h')
    | _ => none
  | .call c =>
    match c.callee with
    | .builtin b => abuiltin P h b c.argTypes (c.args.toList.map ev)
    | .value f => match ev f with
      | .func (.func g) first captured =>
        if callable P g then (R (.call g (first.toList ++ c.args.toList.map ev ++ captured.toList)) h).map fun r => (r.1.v, r.2) else none
      | .func (.yield l) first _ => (R (.round l (first.toList ++ c.args.toList.map ev)) h).map fun r => (r.1.v, r.2)
      | _ => none
    | .invoke _ _ => none
  | _ => none
def opStep (P : Program) (R : Run) (env : List Value) (h : AH) (op : Op) : Option (Value × AH) :=
  match kindOf op with
  | .light => (alight P (aeval P env) h op).map fun v => (v, h)
  | .alloc => (aalloc P (aeval P env) op).map fun r => (r.2 h.next, h.alloc r.1)
  | .store | .call => heavyStep P R (aeval P env) h op
  | .other => none

/-! ### A region that draws its order -/
def directs (o : Oper) : List Nat := (o.after.toList.filter fun e => Region.binds .any e).map (·.on)
def predsOf : List Oper → List (List Nat) → List (List Nat)
  | [], acc => acc
  | o :: os, acc => predsOf os (acc ++ [directs o ++ (directs o).flatMap fun j => acc.getD j []])
def opTmps (ops : List Oper) (o : Oper) : List Nat :=
  (o.op.operands.toList.filterMap fun | .tmp t => some t | _ => none) ++
  (match o.guard with | some (j, _) => ((ops[j]?).bind (·.dst)).toList | none => [])
def isHeavy (op : Op) : Bool := (kindOf op == .store || kindOf op == .call) && !isLight op
/-- does 'i' come ahead of 'j' in every order? -/
def ahead (ps : List (List Nat)) (i j : Nat) : Bool := (ps.getD j []).contains i
def drawOk (ops : List Oper) : Bool :=
  let ps := predsOf ops []
  let n := ops.length
  let is := List.range n
  (ops.zipIdx.all fun (o, i) => (directs o).all (· < i)) &&
  (ops.all fun o => match o.op with | .select _ _ => false | .defer _ => false | _ => kindOf o.op != .other) &&
  (ops.zipIdx.all fun (o, i) => ops.zipIdx.all fun (p, j) => i == j || (
    (o.dst.isNone || o.dst != p.dst) &&
    (match p.dst with | some d => !(opTmps ops o).contains d || (if j < i then ahead ps j i else ahead ps i j) | none => true) &&
    (!(isHeavy o.op && isHeavy p.op && j < i) || ahead ps j i))) && is.length == n
/-- where an operation that makes nothing may come up otherwise than by the text: ahead of, or behind, a store or a call -/
def floats (ops : List Oper) : List (Nat × Nat) :=
  let ps := predsOf ops []
  let n := ops.length
  let heavy := (List.range n).filter fun i => (ops[i]?).any fun o => isHeavy o.op
  let phases := heavy ++ [n]
  (List.range n).flatMap fun i =>
    if (ops[i]?).any (fun o => isLight o.op) then
      let own := (phases.find? (i < ·)).getD n
      (phases.filter fun p => p != own && heavy.all fun j => if j < p then !ahead ps i j else !ahead ps j i).map fun p => (i, p)
    else []

mutual
def veq : Value → Value → Bool
  | .bool a, .bool b => a == b
  | .int j a, .int k b => j == k && a == b
  | .string a, .string b => a == b
  | .pointer a, .pointer b => a == b
  | .slice a l c, .slice b m d => a == b && l == m && c == d
  | .map a, .map b => a == b
  | .nilFunc, .nilFunc => true
  | .nilIface, .nilIface => true
  | .func f a b, .func g c d => f == g && veqA a c && veqA b d
  | .iface t v, .iface u w => t == u && veq v w
  | .agg a, .agg b => veqA a b
  | .tuple a, .tuple b => veqA a b
  | _, _ => false
def veqA : Array Value → Array Value → Bool
  | ⟨a⟩, b => veqL a b.toList
def veqL : List Value → List Value → Bool
  | [], [] => true
  | a :: l, b :: m => veq a b && veqL l m
  | _, _ => false
end

/-- one operation of the text's order: its new block goes by a number kept for it -/
def drawStep (P : Program) (R : Run) (all : List Oper) (r0 i : Nat) (env : List Value) (h : AH) (o : Oper) : Option (Value × AH) :=
  match aWanted ⟨all⟩ env o with
  | none => none
  | some false => some (undef, h)
  | some true =>
    if isLight o.op then (lightVal P (aeval P env) h o.op).map fun v => (v, h)
    else if kindOf o.op == .alloc then (aalloc P (aeval P env) o.op).map fun r => (r.2 (r0 + i), h.set (r0 + i) (some r.1))
    else heavyStep P R (aeval P env) h o.op
structure Rec where
  env : List Value
  h : AH
  v : Value
def drawText (P : Program) (R : Run) (all : List Oper) (r0 : Nat) : Nat → List Oper → List Value → AH → Option (List Rec × List Value × AH)
  | _, [], env, h => some ([], env, h)
  | i, o :: os, env, h =>
    match drawStep P R all r0 i env h o with
    | some (v, h') => match drawText P R all r0 (i + 1) os (aput env o.dst v) h' with
      | some (rs, e) => some (⟨env, h, v⟩ :: rs, e)
      | none => none
    | none => none
def floatOk (P : Program) (all : List Oper) (rs : List Rec) (hEnd : AH) (x : Nat × Nat) : Bool :=
  match all[x.1]?, rs[x.1]? with
  | some o, some r =>
    match aWanted ⟨all⟩ r.env o with
    | some true => (match lightVal P (aeval P r.env) (match rs[x.2]? with | some q => q.h | none => hEnd) o.op with | some v => veq v r.v | none => false)
    | _ => true
  | _, _ => false
def drawRun (P : Program) (R : Run) (ops : Array Oper) (env : List Value) (h : AH) : Option (List Value × AH) :=
  if drawOk ops.toList && (P.follows .mixedOrders || !Region.departs ops) then
    match drawText P R ops.toList h.next 0 ops.toList env { h with next := h.next + ops.size } with
    | some (rs, env', h') => if (floats ops.toList).all (floatOk P ops.toList rs h') then some (env', h') else none
    | none => none
  else none

/-! ### All of it -/
def closeMarks : List Nat → AH → Option AH
  | [], h => some h
  | d :: ds, h => if h.base ≤ d then (match h.get d with | some (.marks true) => closeMarks ds (h.set d (some (.marks false))) | _ => none) else none
def aresults (P : Program) (h : AH) (env : List Value) : List ResultVar → Option (List Value)
  | [] => some []
  | .tmp t :: rs => (aresults P h env rs).map fun l => env.getD t undef :: l
  | .cell a t :: rs => match env.getD a undef with
    | .pointer (some a) => match aload P h t a, aresults P h env rs with
      | some v, some l => some (v :: l)
      | _, _ => none
    | _ => none
def oneOf (vs : List Value) : Value :=
  match vs with
  | [v] => v
  | vs => .tuple ⟨vs⟩
def setLoop (h : AH) (l : Nat) (st : LoopState) (pending : Option (Option Code)) : Option AH :=
  match h.get l with
  | some (.loop _ p fn tmps ps assign body d) => if h.base ≤ l then some (h.set l (some (.loop st (pending.getD p) fn tmps ps assign body d))) else none
  | _ => none

def runTodo (P : Program) (R : Run) (fn : FuncId) (ro : Option Nat) (ds : List Nat) (env : List Value) (k : List Item) (h : AH) : Option (Out × AH) :=
  match k with
  | [] => some (⟨.fell, ds, env, undef⟩, h)
  | .code c :: k =>
    match c with
    | .skip => R (.todo fn ro ds env k) h
    | .label _ => R (.todo fn ro ds env k) h
    | .seq a b => R (.todo fn ro ds env (.code a :: .code b :: k)) h
    | .cond c t e => match aeval P env c with
      | .bool b => R (.todo fn ro ds env (.code (if b then t else e) :: k)) h
      | _ => none
    | .block id b => R (.todo fn ro ds env (.code b :: .inBlock id :: k)) h
    | .loop b => R (.todo fn ro ds env (.code b :: .inLoop b :: k)) h
    | .scope b => R (.todo fn ro ds env (.code b :: .inScope b :: k)) h
    | .exit id => match exitTo id k with
      | some k' => R (.todo fn ro ds env k') h
      | none => if ro.isSome then some (⟨.exit id, ds, env, undef⟩, h) else none
    | .ret => some (⟨.ret, ds, env, undef⟩, h)
    | .region _ ops false => match R (.ops ops ops.toList env) h with
      | some (o, h') => R (.todo fn ro ds o.env k) h'
      | none => none
    | .region _ ops true => match drawRun P R ops env h with
      | some (env', h') => R (.todo fn ro ds env' k) h'
      | none => none
    | .rangeFunc f ps assign body =>
      match (match ro with
        | none => some (h.next, h.alloc (.marks true), h.next :: ds)
        | some l => match h.get l with
          | some (.loop _ _ _ _ _ _ _ d) => some (d, h, ds)
          | _ => none) with
      | some (d, h1, ds1) =>
        match aeval P env f with
        | .func (.func g) first captured =>
          if callable P g then
            match R (.call g (first.toList ++ [.func (.yield h1.next) #[] #[]] ++ captured.toList)) (h1.alloc (.loop .ready none fn env ps assign body d)) with
            | some (_, h3) =>
              match h3.get h1.next with
              | some (.loop st p _ _ _ _ _ _) =>
                if st = .busy then none else
                match setLoop h3 h1.next .exhausted none with
                | some h4 => R (.todo fn ro ds1 env ((p.map Item.code).toList ++ k)) h4
                | none => none
              | _ => none
            | none => none
          else none
        | _ => none
      | none => none
    | _ => none
  | .inBlock _ :: k => R (.todo fn ro ds env k) h
  | .inScope _ :: k => R (.todo fn ro ds env k) h
  | .inLoop b :: k => R (.todo fn ro ds env (.code b :: .inLoop b :: k)) h
  | .beginRound :: k =>
    match ro with
    | some l => match h.get l with
      | some (.loop .ready _ _ _ _ _ _ _) => match setLoop h l .busy none with
        | some h' => R (.todo fn ro ds env k) h'
        | none => none
      | _ => none
    | none => none
  | _ => none
def runOps (P : Program) (R : Run) (all : Array Oper) (rest : List Oper) (env : List Value) (h : AH) : Option (Out × AH) :=
  match rest with
  | [] => some (⟨.fell, [], env, undef⟩, h)
  | o :: rest =>
    match aWanted all env o with
    | none => none
    | some false => R (.ops all rest (aput env o.dst undef)) h
    | some true => match opStep P R env h o.op with
      | some (v, h') => R (.ops all rest (aput env o.dst v)) h'
      | none => none
def runCall (P : Program) (K : FuncId → List Value → Option Value) (R : Run) (f : FuncId) (args : List Value) (h : AH) : Option (Out × AH) :=
  match K f args with
  | some v => some (⟨.fell, [], [], v⟩, h)
  | none =>
    match P.funcs[f]? with
    | some fn =>
      match fn.body with
      | some body =>
        match R (.todo f none [] (args ++ List.replicate (fn.ntmps - args.length) undef) [.code body]) h with
        | some (o, h1) =>
          match o.leave with
          | .exit _ => none
          | _ => match closeMarks o.ds h1 with
            | some h2 => (aresults P h2 o.env fn.results.toList).map fun vs => (⟨.fell, [], [], oneOf vs⟩, h2)
            | none => none
        | none => none
      | none => none
    | none => none
def runRound (R : Run) (l : Nat) (args : List Value) (h : AH) : Option (Out × AH) :=
  match h.get l with
  | some (.loop _ _ fn tmps ps assign body _) =>
    if args.length = ps.size then
      match R (.todo fn (some l) [] ((ps.toList.zip args).foldl (fun t (p, v) => t.set p v) tmps) [.code assign, .beginRound, .code body]) h with
      | some (o, h1) =>
        if o.ds.isEmpty then
          match o.leave with
          | .fell => (setLoop h1 l .ready (some none)).map fun h2 => (⟨.fell, [], [], .bool true⟩, h2)
          | .ret => (setLoop h1 l .done (some (some .ret))).map fun h2 => (⟨.fell, [], [], .bool false⟩, h2)
          | .exit id => (setLoop h1 l .done (some (some (.exit id)))).map fun h2 => (⟨.fell, [], [], .bool false⟩, h2)
        else none
      | none => none
    else none
  | _ => none

def run (P : Program) (K : FuncId → List Value → Option Value) : Nat → Run
  | 0, _, _ => none
  | n + 1, .todo fn ro ds env k, h => runTodo P (fun t h => run P K n t h) fn ro ds env k h
  | n + 1, .ops all rest env, h => runOps P (fun t h => run P K n t h) all rest env h
  | n + 1, .call f args, h => runCall P K (fun t h => run P K n t h) f args h
  | n + 1, .round l args, h => runRound (fun t h => run P K n t h) l args h

end Go.Ab
