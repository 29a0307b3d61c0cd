/- The abstract machine again, as the kernel runs it fast: it is the same. (Printed by mkfast.py.) -/
import Derived.Test.YtincdgimnjofpaaDoorB3
section
namespace Go.Ab
noncomputable section
/-- the temporaries in a tree -/
structure En where
  n : Nat
  t : Tr Value
def En.get (e : En) (i : Nat) : Value := En.rec (motive := fun _ => Value) (fun n t => Bool.rec (motive := fun _ => Value) undef (t.get undef i) (Nat.blt i n)) e
def En.opt (e : En) (i : Nat) : Option Value := En.rec (motive := fun _ => Option Value) (fun n t => Bool.rec (motive := fun _ => Option Value) none (some (t.get undef i)) (Nat.blt i n)) e
def En.set (e : En) (i : Nat) (v : Value) : En := En.rec (motive := fun _ => En) (fun n t => Bool.rec (motive := fun _ => En) (En.mk n t) (En.mk n (t.set undef i v)) (Nat.blt i n)) e
def En.toL (e : En) : List Value := (List.range e.n).map fun i => e.t.get undef i
def ofFrom : List Value → Nat → Tr Value → Tr Value
  | [], _, t => t
  | v :: l, i, t => ofFrom l (i + 1) (t.set undef i v)
def En.of (l : List Value) (k : Nat) : En := ⟨l.length + k, ofFrom l 0 .lf⟩
theorem En.opt_eq (e : En) (i : Nat) : e.opt i = e.toL[i]? := by
  obtain ⟨n, t⟩ := e
  simp only [En.opt, En.toL]
  cases h : Nat.blt i n with
  | true =>
    have : i < n := by simpa [Nat.blt_eq] using h
    simp [this]
  | false =>
    have : ¬ i < n := by rw [← Nat.blt_eq, h]; simp
    simp [this]
theorem En.get_eq (e : En) (i : Nat) : e.get i = e.toL.getD i undef := by
  rw [List.getD_eq_getElem?_getD, ← En.opt_eq]
  obtain ⟨n, t⟩ := e
  simp only [En.get, En.opt]
  cases Nat.blt i n <;> rfl
theorem En.set_eq (e : En) (i : Nat) (v : Value) : (e.set i v).toL = e.toL.set i v := by
  apply List.ext_getElem?
  intro j
  rw [List.getElem?_set, ← En.opt_eq, ← En.opt_eq]
  obtain ⟨n, t⟩ := e
  have hl : (En.toL ⟨n, t⟩).length = n := by simp [En.toL]
  rw [hl]
  simp only [En.set]
  cases h : Nat.blt i n with
  | true =>
    have hi : i < n := by simpa [Nat.blt_eq] using h
    simp only [En.opt, Tr.get_set]
    by_cases e1 : i = j
    · subst e1; simp [h, hi]
    · simp [e1, Ne.symm e1]
  | false =>
    have hi : ¬ i < n := by rw [← Nat.blt_eq, h]; simp
    by_cases e1 : i = j
    · subst e1; simp [En.opt, h, hi]
    · simp [e1]
theorem ofFrom_get : ∀ (l : List Value) (i : Nat) (t : Tr Value) (m : Nat), (ofFrom l i t).get undef m = if i ≤ m ∧ m < i + l.length then l.getD (m - i) undef else t.get undef m
  | [], i, t, m => by
    rw [if_neg (by simp)]; rfl
  | v :: l, i, t, m => by
    simp only [ofFrom]
    rw [ofFrom_get l (i + 1) _ m, Tr.get_set]
    simp only [List.length_cons]
    by_cases h1 : m = i
    · subst h1
      rw [if_neg (by omega), if_pos rfl, if_pos (by omega)]
      simp
    · rw [if_neg h1]
      by_cases h2 : i + 1 ≤ m ∧ m < i + 1 + l.length
      · rw [if_pos h2, if_pos (by omega), show m - i = (m - (i + 1)) + 1 by omega]
        simp
      · rw [if_neg h2, if_neg (by omega)]
theorem En.of_eq (l : List Value) (k : Nat) : (En.of l k).toL = l ++ List.replicate k undef := by
  apply List.ext_getElem?
  intro j
  rw [← En.opt_eq]
  unfold En.of En.opt
  simp only [ofFrom_get, Tr.get_lf]
  cases h : Nat.blt j (l.length + k) with
  | true =>
    have hj : j < l.length + k := by simpa [Nat.blt_eq] using h
    by_cases h1 : j < l.length
    · rw [if_pos (by omega), List.getElem?_append_left h1]; simp [h1]
    · rw [if_neg (by omega), List.getElem?_append_right (by omega), List.getElem?_replicate, if_pos (by omega)]
  | false =>
    have hj : ¬ j < l.length + k := by rw [← Nat.blt_eq, h]; simp
    rw [List.getElem?_eq_none (by simp; omega)]
inductive TaskF where
  | todo (fn : FuncId) (ro : Option Nat) (ds : List Nat) (env : En) (k : List Item)
  | ops (all : Array Oper) (rest : List Oper) (env : En)
  | call (f : FuncId) (args : List Value)
  | round (l : Nat) (args : List Value)
structure OutF where
  leave : Leave
  ds : List Nat
  env : En
  v : Value
def nilE : En := ⟨0, .lf⟩
abbrev RunE := TaskF → AH → Option (OutF × AH)
def absT : TaskF → Task
  | .todo fn ro ds env k => .todo fn ro ds env.toL k
  | .ops all rest env => .ops all rest env.toL
  | .call f args => .call f args
  | .round l args => .round l args
def absO (o : OutF) : Out := ⟨o.leave, o.ds, o.env.toL, o.v⟩
def absR (r : OutF × AH) : Out × AH := (absO r.1, r.2)
def RelR (R' : RunE) (R : Run) : Prop := ∀ t h, R (absT t) h = (R' t h).map absR
def ae_c (v : Value) : Value := if plainV v then v else top
def ae_g (P : Program) (g : Nat) : Value := if g < P.globals.size then .pointer (some ⟨g, 0, none⟩) else top
def ae_f (f : Nat) : Value := .func (.func f) #[] #[]
def aevalE (P : Program) (env : En) (x : Operand) : Value := Operand.rec (motive := fun _ => Value) (En.get env) ae_c (ae_g P) ae_f x
theorem aevalE_eq (P : Program) (env : En) : aevalE P env = aeval P env.toL := by
  funext x
  cases x <;> first | rfl | exact En.get_eq _ _
def aputE (env : En) (d : Option Tmp) (v : Value) : En := Option.rec (motive := fun _ => En) env (fun d => env.set d v) d
theorem aputE_eq (env : En) (d : Option Tmp) (v : Value) : (aputE env d v).toL = aput env.toL d v := by
  cases d
  · rfl
  · exact En.set_eq _ _ _
def aw_v (want : Bool) (x : Option Value) : Option Bool :=
    match x with
    | some (.bool b) => some (b == want)
    | some (.chan _) => none
    | _ => some false
def lget {α : Type} (l : List α) : Nat → Option α := List.rec (motive := fun _ => Nat → Option α) (fun _ => none) (fun a _ ih n => Nat.rec (motive := fun _ => Option α) (some a) (fun n _ => ih n) n) l
theorem lget_eq {α : Type} : ∀ (l : List α) (n : Nat), lget l n = l[n]?
  | [], _ => rfl
  | _ :: _, 0 => rfl
  | a :: l, n + 1 => by
    show lget l n = _
    rw [lget_eq l n]; rfl
def aw_g (all : Array Oper) (env : En) (g : Nat × Bool) : Option Bool := aw_v g.2 (((lget all.toList g.1).bind (·.dst)).bind (fun d => env.opt d))
def aWantedE (all : Array Oper) (env : En) (o : Oper) : Option Bool := Option.rec (motive := fun _ => Option Bool) (some true) (aw_g all env) o.guard
theorem aWantedE_eq (all : Array Oper) (env : En) (o : Oper) : aWantedE all env o = aWanted all env.toL o := by
  unfold aWantedE aWanted
  cases o.guard with
  | none => rfl
  | some g =>
    obtain ⟨j, want⟩ := g
    show aw_g all env (j, want) = _
    unfold aw_g aw_v
    simp only [En.opt_eq, lget_eq, Array.getElem?_toList]
    rfl

def al_move (_ : Program) (ev : Operand → Value) (_ : AH) (x : Operand) : Option Value := some (ev x)
def al_assign (_ : Program) (ev : Operand → Value) (_ : AH) (x : Operand) : Option Value := some (ev x)
def al_pick (_ : Program) (ev : Operand → Value) (_ : AH) (c a b : Operand) : Option Value := match ev c with
    | .bool t => some (if t then ev a else ev b)
    | _ => none
def al_build (P : Program) (ev : Operand → Value) (_ : AH) (t : TypeId) (parts : Array (Nat × Operand)) : Option Value := abuild P t (parts.toList.map fun p => (p.1, ev p.2))
def al_load (P : Program) (ev : Operand → Value) (h : AH) (t : TypeId) (a : Operand) : Option Value := match ev a with
    | .pointer (some a) => aload P h t a
    | _ => none
def al_nilCheck (_ : Program) (ev : Operand → Value) (_ : AH) (x : Operand) : Option Value := match ev x with
    | .pointer (some a) => some (.pointer (some a))
    | .func (.func f) a b => some (.func (.func f) a b)
    | .func (.yield f) a b => some (.func (.yield f) a b)
    | _ => none
def al_binOp (P : Program) (ev : Operand → Value) (_ : AH) (op : BinOp) (t : TypeId) (x y : Operand) : Option Value := abin P op t x y (ev x) (ev y)
def al_unOp (_ : Program) (ev : Operand → Value) (_ : AH) (op : UnOp) (x : Operand) : Option Value := match op, ev x with
    | .neg, .int k n => some (.int k (k.wrap (0 - n)))
    | .not, .bool b => some (.bool !b)
    | _, _ => none
def al_convert (P : Program) (ev : Operand → Value) (h : AH) (s d : TypeId) (x : Operand) : Option Value := match P.underlying s, P.underlying d, ev x with
    | some _, some (.int k), .int _ n => some (.int k (k.wrap n))
    | some .string, some .string, .string z => some (.string z)
    | some (.slice e), some .string, v => (match P.underlying e with
      | some (.int .u8) => strOf h v
      | _ => none)
    | _, _, _ => none
def al_makeInterface (P : Program) (ev : Operand → Value) (_ : AH) (t : TypeId) (x : Operand) : Option Value := match P.underlying t with
    | some (.interface _) => none
    | some _ => some (.iface t (ev x))
    | none => none
def al_makeFunc (_ : Program) (ev : Operand → Value) (_ : AH) (fn : Fn) (first captured : Array Operand) : Option Value := match fn with
    | .func f => some (.func (.func f) (first.map ev) (captured.map ev))
    | _ => none
def al_slice (P : Program) (ev : Operand → Value) (h : AH) (t : TypeId) (x : Operand) (lo hi mx : Option Operand) : Option Value := aslice P h t (ev x) (lo.map ev) (hi.map ev) (mx.map ev)
def al_fieldAddr (P : Program) (ev : Operand → Value) (_ : AH) (s : TypeId) (x : Operand) (f : Nat) : Option Value := match P.underlying s, ev x with
    | some (.struct fs), .pointer (some a) => match fs[f]? with
      | some fd => if P.cellsOf fd.type = 0 then none else some (.pointer (some (a.add fd.offset)))
      | none => none
    | _, _ => none
def al_field (P : Program) (ev : Operand → Value) (_ : AH) (t : TypeId) (x : Operand) (f : Nat) : Option Value := match P.underlying t, ev x with
    | some (.struct fs), .agg cs => match fs[f]? with
      | some fd => apart P fd.type cs.toList fd.offset
      | none => none
    | _, _ => none
def al_indexAddr (P : Program) (ev : Operand → Value) (_ : AH) (t : TypeId) (x i : Operand) : Option Value := match P.underlying t, ev x, ev i with
    | some (.array n e), .pointer (some a), .int _ i => if 0 ≤ i ∧ i < n ∧ (P.info? e).isSome then some (.pointer (some (a.add (i.toNat * P.cellsOf e)))) else none
    | some (.slice e), .slice (some a) n _, .int _ i => if 0 ≤ i ∧ i < n ∧ (P.info? e).isSome ∧ a.spot = none then some (.pointer (some (a.add (i.toNat * P.cellsOf e)))) else none
    | _, _, _ => none
def al_index (P : Program) (ev : Operand → Value) (_ : AH) (t : TypeId) (x i : Operand) : Option Value := match P.underlying t, ev x, ev i with
    | some (.array n e), .agg cs, .int _ i => if 0 ≤ i ∧ i < n ∧ (P.info? e).isSome then apart P e cs.toList (i.toNat * P.cellsOf e) else none
    | some .string, .string s, .int _ i => if 0 ≤ i then (s[i.toNat]?).map fun b => .int .u8 b.toNat else none
    | _, _, _ => none
def al_extract (_ : Program) (ev : Operand → Value) (_ : AH) (t : Operand) (i : Nat) : Option Value := match ev t with
    | .tuple vs => vs.toList[i]?
    | _ => none
def al_lookup (P : Program) (ev : Operand → Value) (h : AH) (t : TypeId) (x ix : Operand) (ok : Bool) : Option Value := alookup P h t (ev x) (ev ix) ok
def alightF (P : Program) (ev : Operand → Value) (h : AH) : Op → Option Value
  | .move x => al_move P ev h x
  | .assign x => al_assign P ev h x
  | .pick c a b => al_pick P ev h c a b
  | .build t parts => al_build P ev h t parts
  | .load t a => al_load P ev h t a
  | .nilCheck x => al_nilCheck P ev h x
  | .binOp op t x y _ => al_binOp P ev h op t x y
  | .unOp op _ x => al_unOp P ev h op x
  | .convert s d x => al_convert P ev h s d x
  | .makeInterface t x => al_makeInterface P ev h t x
  | .makeFunc fn first captured => al_makeFunc P ev h fn first captured
  | .slice t x lo hi mx => al_slice P ev h t x lo hi mx
  | .fieldAddr s x f => al_fieldAddr P ev h s x f
  | .field t x f => al_field P ev h t x f
  | .indexAddr t x i => al_indexAddr P ev h t x i
  | .index t x i => al_index P ev h t x i
  | .extract t i => al_extract P ev h t i
  | .lookup t x ix ok => al_lookup P ev h t x ix ok
  | _ => none
theorem alightF_eq (P : Program) (ev : Operand → Value) (h : AH) (op : Op) : alightF P ev h op = alight P ev h op := by cases op <;> rfl
/-- where the deferred calls of a loop over a function are marked -/
def rdOf (h : AH) (ds : List Nat) (ro : Option Nat) : Option (Nat × AH × List Nat) :=
  match ro with
  | none => some (h.next, h.alloc (.marks true), h.next :: ds)
  | some l => match h.get l with
    | some (.loop _ _ _ _ _ _ _ d) => some (d, h, ds)
    | _ => none
structure RecE where
  env : En
  h : AH
  v : Value
def absC (r : RecE) : Rec := ⟨r.env.toL, r.h, r.v⟩

def lightValF (P : Program) (ev : Operand → Value) (h : AH) (op : Op) : Option Value :=
  match op with
  | .call c => (match c.callee with | .builtin b => if litBuiltin b then (abuiltin P h b c.argTypes (c.args.toList.map ev)).map (·.1) else none | _ => none)
  | op => alightF P ev h op

theorem lightValF_eq (P : Program) (ev : Operand → Value) (h : AH) (op : Op) : lightValF P ev h op = lightVal P ev h op := by
  cases op <;> first | exact alightF_eq P ev h _ | rfl

def heavyStepE (P : Program) (R : RunE) (ev : Operand → Value) (h : AH) (op : Op) : Option (Value × AH) :=
  match op with
  | .store t a x => match ev a with
    | .pointer (some a) => (astore P h t a (ev x)).map fun h' => (undef, h')
    | _ => none
  | .mapUpdate t m k x => (amapSet P h t (ev m) (ev k) (ev x)).map fun h' => (undef, h')
  | .call c =>
    match c.callee with
    | .builtin b => abuiltin P h b c.argTypes (c.args.toList.map ev)
    | .value f => match ev f with
      | .func (.func g) first captured =>
        if callable P g then (R (.call g (first.toList ++ c.args.toList.map ev ++ captured.toList)) h).map fun r => (r.1.v, r.2) else none
      | .func (.yield l) first _ => (R (.round l (first.toList ++ c.args.toList.map ev)) h).map fun r => (r.1.v, r.2)
      | _ => none
    | .invoke _ _ => none
  | _ => none

def os_l (v : Option Value) (h : AH) : Option (Value × AH) := Option.rec (motive := fun _ => Option (Value × AH)) none (fun v => some (v, h)) v
def os_a (b : Option (Blk × (Nat → Value))) (h : AH) : Option (Value × AH) := b.map fun r => (r.2 h.next, h.alloc r.1)
def ds_a (b : Option (Blk × (Nat → Value))) (r : Nat) (h : AH) : Option (Value × AH) := b.map fun x => (x.2 r, h.set r (some x.1))
def ds_c (P : Program) (R : RunE) (c : Call) (env : En) (h : AH) : Option (Value × AH) := if isLight (.call c) then os_l (lightValF P (aevalE P env) h (.call c)) h else heavyStepE P R (aevalE P env) h (.call c)
abbrev OsF := Program → RunE → En → AH → Option (Value × AH)
abbrev DsF := Program → RunE → Nat → En → AH → Option (Value × AH)
def opStepE (P : Program) (R : RunE) (env : En) (h : AH) (op : Op) : Option (Value × AH) := Op.rec (motive := fun _ => OsF)
  (fun x_ P _ env h => os_l (al_move P (aevalE P env) h x_) h)
  (fun x_ P _ env h => os_l (al_assign P (aevalE P env) h x_) h)
  (fun c_ a_ b_ P _ env h => os_l (al_pick P (aevalE P env) h c_ a_ b_) h)
  (fun e_ P _ env h => os_a (aalloc P (aevalE P env) (Op.alloc e_)) h)
  (fun e_ v_ P _ env h => os_a (aalloc P (aevalE P env) (Op.box e_ v_)) h)
  (fun t_ parts_ P _ env h => os_l (al_build P (aevalE P env) h t_ parts_) h)
  (fun t_ n_ parts_ P _ env h => os_a (aalloc P (aevalE P env) (Op.buildSlice t_ n_ parts_)) h)
  (fun _ _ _ _ _ _ _ _ => none)
  (fun t_ a_ P _ env h => os_l (al_load P (aevalE P env) h t_ a_) h)
  (fun t_ a_ v_ P R env h => heavyStepE P R (aevalE P env) h (Op.store t_ a_ v_))
  (fun _ _ _ _ _ => none)
  (fun _ _ _ _ _ => none)
  (fun x_ P _ env h => os_l (al_nilCheck P (aevalE P env) h x_) h)
  (fun o_ t_ x_ y_ _ P _ env h => os_l (al_binOp P (aevalE P env) h o_ t_ x_ y_) h)
  (fun o_ _ x_ P _ env h => os_l (al_unOp P (aevalE P env) h o_ x_) h)
  (fun a_ b_ x_ P _ env h => os_l (al_convert P (aevalE P env) h a_ b_ x_) h)
  (fun _ _ _ _ _ _ => none)
  (fun t_ x_ P _ env h => os_l (al_makeInterface P (aevalE P env) h t_ x_) h)
  (fun f_ a_ b_ P _ env h => os_l (al_makeFunc P (aevalE P env) h f_ a_ b_) h)
  (fun t_ r_ P _ env h => os_a (aalloc P (aevalE P env) (Op.makeMap t_ r_)) h)
  (fun _ _ _ _ _ _ => none)
  (fun t_ l_ c_ P _ env h => os_a (aalloc P (aevalE P env) (Op.makeSlice t_ l_ c_)) h)
  (fun t_ x_ l_ h_ m_ P _ env h => os_l (al_slice P (aevalE P env) h t_ x_ l_ h_ m_) h)
  (fun t_ x_ f_ P _ env h => os_l (al_fieldAddr P (aevalE P env) h t_ x_ f_) h)
  (fun t_ x_ f_ P _ env h => os_l (al_field P (aevalE P env) h t_ x_ f_) h)
  (fun t_ x_ i_ P _ env h => os_l (al_indexAddr P (aevalE P env) h t_ x_ i_) h)
  (fun t_ x_ i_ P _ env h => os_l (al_index P (aevalE P env) h t_ x_ i_) h)
  (fun t_ x_ i_ o_ P _ env h => os_l (al_lookup P (aevalE P env) h t_ x_ i_ o_) h)
  (fun t_ m_ k_ v_ P R env h => heavyStepE P R (aevalE P env) h (Op.mapUpdate t_ m_ k_ v_))
  (fun _ _ _ _ _ _ _ => none)
  (fun _ _ _ _ _ _ _ _ => none)
  (fun _ _ _ _ _ _ => none)
  (fun _ _ _ _ _ _ => none)
  (fun _ _ _ _ _ => none)
  (fun _ _ _ _ _ _ _ _ => none)
  (fun t_ i_ P _ env h => os_l (al_extract P (aevalE P env) h t_ i_) h)
  (fun c_ P R env h => heavyStepE P R (aevalE P env) h (Op.call c_))
  (fun _ _ _ _ _ => none)
  (fun _ _ _ _ _ => none)
  (fun _ _ _ _ _ => none)
  (fun _ _ _ _ _ _ => none)
  (fun _ _ _ _ _ _ _ => none)
  (fun _ _ _ _ _ _ => none) op P R env h
def drawOpE (P : Program) (R : RunE) (r : Nat) (env : En) (h : AH) (op : Op) : Option (Value × AH) := Op.rec (motive := fun _ => DsF)
  (fun x_ P _ _ env h => os_l (al_move P (aevalE P env) h x_) h)
  (fun x_ P _ _ env h => os_l (al_assign P (aevalE P env) h x_) h)
  (fun c_ a_ b_ P _ _ env h => os_l (al_pick P (aevalE P env) h c_ a_ b_) h)
  (fun e_ P _ r env h => ds_a (aalloc P (aevalE P env) (Op.alloc e_)) r h)
  (fun e_ v_ P _ r env h => ds_a (aalloc P (aevalE P env) (Op.box e_ v_)) r h)
  (fun t_ parts_ P _ _ env h => os_l (al_build P (aevalE P env) h t_ parts_) h)
  (fun t_ n_ parts_ P _ r env h => ds_a (aalloc P (aevalE P env) (Op.buildSlice t_ n_ parts_)) r h)
  (fun _ _ _ _ _ _ _ _ _ => none)
  (fun t_ a_ P _ _ env h => os_l (al_load P (aevalE P env) h t_ a_) h)
  (fun t_ a_ v_ P R _ env h => heavyStepE P R (aevalE P env) h (Op.store t_ a_ v_))
  (fun _ _ _ _ _ _ => none)
  (fun _ _ _ _ _ _ => none)
  (fun x_ P _ _ env h => os_l (al_nilCheck P (aevalE P env) h x_) h)
  (fun o_ t_ x_ y_ _ P _ _ env h => os_l (al_binOp P (aevalE P env) h o_ t_ x_ y_) h)
  (fun o_ _ x_ P _ _ env h => os_l (al_unOp P (aevalE P env) h o_ x_) h)
  (fun a_ b_ x_ P _ _ env h => os_l (al_convert P (aevalE P env) h a_ b_ x_) h)
  (fun _ _ _ _ _ _ _ => none)
  (fun t_ x_ P _ _ env h => os_l (al_makeInterface P (aevalE P env) h t_ x_) h)
  (fun f_ a_ b_ P _ _ env h => os_l (al_makeFunc P (aevalE P env) h f_ a_ b_) h)
  (fun t_ r_ P _ r env h => ds_a (aalloc P (aevalE P env) (Op.makeMap t_ r_)) r h)
  (fun _ _ _ _ _ _ _ => none)
  (fun t_ l_ c_ P _ r env h => ds_a (aalloc P (aevalE P env) (Op.makeSlice t_ l_ c_)) r h)
  (fun t_ x_ l_ h_ m_ P _ _ env h => os_l (al_slice P (aevalE P env) h t_ x_ l_ h_ m_) h)
  (fun t_ x_ f_ P _ _ env h => os_l (al_fieldAddr P (aevalE P env) h t_ x_ f_) h)
  (fun t_ x_ f_ P _ _ env h => os_l (al_field P (aevalE P env) h t_ x_ f_) h)
  (fun t_ x_ i_ P _ _ env h => os_l (al_indexAddr P (aevalE P env) h t_ x_ i_) h)
  (fun t_ x_ i_ P _ _ env h => os_l (al_index P (aevalE P env) h t_ x_ i_) h)
  (fun t_ x_ i_ o_ P _ _ env h => os_l (al_lookup P (aevalE P env) h t_ x_ i_ o_) h)
  (fun t_ m_ k_ v_ P R _ env h => heavyStepE P R (aevalE P env) h (Op.mapUpdate t_ m_ k_ v_))
  (fun _ _ _ _ _ _ _ _ => none)
  (fun _ _ _ _ _ _ _ _ _ => none)
  (fun _ _ _ _ _ _ _ => none)
  (fun _ _ _ _ _ _ _ => none)
  (fun _ _ _ _ _ _ => none)
  (fun _ _ _ _ _ _ _ _ _ => none)
  (fun t_ i_ P _ _ env h => os_l (al_extract P (aevalE P env) h t_ i_) h)
  (fun c_ P R _ env h => ds_c P R c_ env h)
  (fun _ _ _ _ _ _ => none)
  (fun _ _ _ _ _ _ => none)
  (fun _ _ _ _ _ _ => none)
  (fun _ _ _ _ _ _ _ => none)
  (fun _ _ _ _ _ _ _ _ => none)
  (fun _ _ _ _ _ _ _ => none) op P R r env h
theorem os_l_eq (v : Option Value) (h : AH) : os_l v h = v.map fun v => (v, h) := by cases v <;> rfl
theorem opStepE_old (P : Program) (R : RunE) (env : En) (h : AH) (op : Op) : opStepE P R env h op =
    match kindOf op with
    | .light => (alightF P (aevalE P env) h op).map fun v => (v, h)
    | .alloc => (aalloc P (aevalE P env) op).map fun r => (r.2 h.next, h.alloc r.1)
    | .store | .call => heavyStepE P R (aevalE P env) h op
    | .other => none := by
  cases op <;> first | rfl | exact os_l_eq _ _
theorem drawOpE_old (P : Program) (R : RunE) (r : Nat) (env : En) (h : AH) (op : Op) : drawOpE P R r env h op =
    if isLight op then (lightValF P (aevalE P env) h op).map fun v => (v, h)
    else if kindOf op == .alloc then (aalloc P (aevalE P env) op).map fun x => (x.2 r, h.set r (some x.1))
    else heavyStepE P R (aevalE P env) h op := by
  cases op <;> first | rfl | exact os_l_eq _ _ | skip
  rename_i c
  show ds_c P R c env h = _
  unfold ds_c
  rw [os_l_eq]
  rfl
def ds_w (P : Program) (R : RunE) (r : Nat) (env : En) (h : AH) (op : Op) (w : Option Bool) : Option (Value × AH) :=
  Option.rec (motive := fun _ => Option (Value × AH)) none (fun b => Bool.rec (motive := fun _ => Option (Value × AH)) (some (undef, h)) (drawOpE P R r env h op) b) w
def drawStepE (P : Program) (R : RunE) (all : List Oper) (r0 i : Nat) (env : En) (h : AH) (o : Oper) : Option (Value × AH) := ds_w P R (r0 + i) env h o.op (aWantedE ⟨all⟩ env o)
theorem drawStepE_old (P : Program) (R : RunE) (all : List Oper) (r0 i : Nat) (env : En) (h : AH) (o : Oper) : drawStepE P R all r0 i env h o =
  match aWantedE ⟨all⟩ env o with
  | none => none
  | some false => some (undef, h)
  | some true =>
    if isLight o.op then (lightValF P (aevalE P env) h o.op).map fun v => (v, h)
    else if kindOf o.op == .alloc then (aalloc P (aevalE P env) o.op).map fun r => (r.2 (r0 + i), h.set (r0 + i) (some r.1))
    else heavyStepE P R (aevalE P env) h o.op := by
  unfold drawStepE
  cases aWantedE ⟨all⟩ env o with
  | none => rfl
  | some b =>
    cases b with
    | false => rfl
    | true => exact drawOpE_old ..

abbrev DtR := Option (List RecE × En × AH)
def dt_a (env : En) (h : AH) (v : Value) (x : DtR) : DtR := Option.rec (motive := fun _ => DtR) none (fun r => some (⟨env, h, v⟩ :: r.1, r.2)) x
def dt_s (ih : Nat → En → AH → DtR) (i : Nat) (o : Oper) (env : En) (h : AH) (x : Option (Value × AH)) : DtR := Option.rec (motive := fun _ => DtR) none (fun r => dt_a env h r.1 (ih (i + 1) (aputE env o.dst r.1) r.2)) x
def drawTextE (P : Program) (R : RunE) (all : List Oper) (r0 i : Nat) (os : List Oper) (env : En) (h : AH) : DtR :=
  List.rec (motive := fun _ => Nat → En → AH → DtR) (fun _ env h => some ([], env, h)) (fun o _ ih i env h => dt_s ih i o env h (drawStepE P R all r0 i env h o)) os i env h
theorem drawTextE_cons (P : Program) (R : RunE) (all : List Oper) (r0 i : Nat) (o : Oper) (os : List Oper) (env : En) (h : AH) : drawTextE P R all r0 i (o :: os) env h =
    match drawStepE P R all r0 i env h o with
    | some (v, h') => match drawTextE P R all r0 (i + 1) os (aputE env o.dst v) h' with
      | some (rs, e) => some (⟨env, h, v⟩ :: rs, e)
      | none => none
    | none => none := by
  show dt_s (fun i env h => drawTextE P R all r0 i os env h) i o env h (drawStepE P R all r0 i env h o) = _
  cases drawStepE P R all r0 i env h o with
  | none => rfl
  | some r =>
    show dt_a env h r.1 (drawTextE P R all r0 (i + 1) os (aputE env o.dst r.1) r.2) = _
    cases hd : drawTextE P R all r0 (i + 1) os (aputE env o.dst r.1) r.2 with
    | none => simp only [hd]; rfl
    | some q => simp only [hd]; rfl

def floatOkE (P : Program) (all : List Oper) (rs : List RecE) (hEnd : AH) (x : Nat × Nat) : Bool :=
  match all[x.1]?, rs[x.1]? with
  | some o, some r =>
    match aWantedE ⟨all⟩ r.env o with
    | some true => (match lightValF P (aevalE P r.env) (match rs[x.2]? with | some q => q.h | none => hEnd) o.op with | some v => veq v r.v | none => false)
    | _ => true
  | _, _ => false

def drawRunE (P : Program) (R : RunE) (ops : Array Oper) (env : En) (h : AH) : Option (En × AH) :=
  if drawOk ops.toList && (P.follows .mixedOrders || !Region.departs ops) then
    match drawTextE P R ops.toList h.next 0 ops.toList env { h with next := h.next + ops.size } with
    | some (rs, env', h') => if (floats ops.toList).all (floatOkE P ops.toList rs h') then some (env', h') else none
    | none => none
  else none


def aresultsE (P : Program) (h : AH) (env : En) : List ResultVar → Option (List Value)
  | [] => some []
  | .tmp t :: rs => (aresultsE P h env rs).map fun l => env.get t :: l
  | .cell a t :: rs => match env.get a with
    | .pointer (some a) => match aload P h t a, aresultsE P h env rs with
      | some v, some l => some (v :: l)
      | _, _ => none
    | _ => none

section td
variable (P : Program) (R : RunE) (fn : FuncId) (ro : Option Nat) (ds : List Nat) (env : En) (k : List Item) (h : AH)
abbrev TdA := Option (OutF × AH)
def td_go (c : Code) : TdA := R (.todo fn ro ds env (.code c :: k)) h
def td_on : TdA := R (.todo fn ro ds env k) h
def td_seq (a b : Code) : TdA := R (.todo fn ro ds env (.code a :: .code b :: k)) h
def td_cond (c : Operand) (t e : Code) : TdA := match aevalE P env c with
      | .bool b => R (.todo fn ro ds env (.code (if b then t else e) :: k)) h
      | _ => none
def td_in (b : Code) (x : Item) : TdA := R (.todo fn ro ds env (.code b :: x :: k)) h
def td_exit (id : Nat) : TdA := match exitTo id k with
      | some k' => R (.todo fn ro ds env k') h
      | none => if ro.isSome then some (⟨.exit id, ds, env, undef⟩, h) else none
def td_ret : TdA := some (⟨.ret, ds, env, undef⟩, h)
def td_fell : TdA := some (⟨.fell, ds, env, undef⟩, h)
def td_reg2 (x : Option (OutF × AH)) : TdA := match x with
      | some (o, h') => R (.todo fn ro ds o.env k) h'
      | none => none
def td_reg (ops : Array Oper) : TdA := td_reg2 R fn ro ds k (R (.ops ops ops.toList env) h)
def td_draw2 (x : Option (En × AH)) : TdA := match x with
      | some (env', h') => R (.todo fn ro ds env' k) h'
      | none => none
def td_draw (ops : Array Oper) : TdA := td_draw2 R fn ro ds k (drawRunE P R ops env h)
def td_range (f : Operand) (ps : Array Tmp) (assign body : Code) : TdA :=
      match rdOf h ds ro with
      | some (d, h1, ds1) =>
        match aevalE P env f with
        | .func (.func g) first captured =>
          if callable P g then
            match R (.call g (first.toList ++ [.func (.yield h1.next) #[] #[]] ++ captured.toList)) (h1.alloc (.loop .ready none fn env.toL ps assign body d)) with
            | some (_, h3) =>
              match h3.get h1.next with
              | some (.loop st p _ _ _ _ _ _) =>
                if st = .busy then none else
                match setLoop h3 h1.next .exhausted none with
                | some h4 => R (.todo fn ro ds1 env ((p.map Item.code).toList ++ k)) h4
                | none => none
              | _ => none
            | none => none
          else none
        | _ => none
      | none => none
def td_begin : TdA :=
    match ro with
    | some l => match h.get l with
      | some (.loop .ready _ _ _ _ _ _ _) => match setLoop h l .busy none with
        | some h' => R (.todo fn ro ds env k) h'
        | none => none
      | _ => none
    | none => none
def td_code : Code → TdA
    | .skip => td_on R fn ro ds env k h
    | .label _ => td_on R fn ro ds env k h
    | .seq a b => td_seq R fn ro ds env k h a b
    | .cond c t e => td_cond P R fn ro ds env k h c t e
    | .block id b => td_in R fn ro ds env k h b (.inBlock id)
    | .loop b => td_in R fn ro ds env k h b (.inLoop b)
    | .scope b => td_in R fn ro ds env k h b (.inScope b)
    | .exit id => td_exit R fn ro ds env k h id
    | .ret => td_ret ds env h
    | .region _ ops d => Bool.rec (motive := fun _ => TdA) (td_reg R fn ro ds env k h ops) (td_draw P R fn ro ds env k h ops) d
    | .rangeFunc f ps assign body => td_range P R fn ro ds env k h f ps assign body
    | _ => none
def td_item : Item → TdA
    | .code c => td_code P R fn ro ds env k h c
    | .inBlock _ => td_on R fn ro ds env k h
    | .inScope _ => td_on R fn ro ds env k h
    | .inLoop b => td_in R fn ro ds env k h b (.inLoop b)
    | .beginRound => td_begin R fn ro ds env k h
    | _ => none
end td
def runTodoE (P : Program) (R : RunE) (fn : FuncId) (ro : Option Nat) (ds : List Nat) (env : En) (k : List Item) (h : AH) : Option (OutF × AH) :=
  List.rec (motive := fun _ => TdA) (td_fell ds env h) (fun x k _ => td_item P R fn ro ds env k h x) k

section op
variable (P : Program) (R : RunE) (all : Array Oper) (rest : List Oper) (env : En) (h : AH) (o : Oper)
def op_on (x : Value × AH) : TdA := R (.ops all rest (aputE env o.dst x.1)) x.2
def op_do : TdA := Option.rec (motive := fun _ => TdA) none (op_on R all rest env o) (opStepE P R env h o.op)
def op_no : TdA := R (.ops all rest (aputE env o.dst undef)) h
def op_w (w : Option Bool) : TdA := Option.rec (motive := fun _ => TdA) none (fun b => Bool.rec (motive := fun _ => TdA) (op_no R all rest env h o) (op_do P R all rest env h o) b) w
end op
def runOpsE (P : Program) (R : RunE) (all : Array Oper) (rest : List Oper) (env : En) (h : AH) : Option (OutF × AH) :=
  match rest with
  | [] => some (⟨.fell, [], env, undef⟩, h)
  | o :: rest =>
    op_w P R all rest env h o (aWantedE all env o)

def runCallE (P : Program) (K : FuncId → List Value → Option Ans) (R : RunE) (f : FuncId) (args : List Value) (h : AH) : Option (OutF × AH) :=
  match K f args with
  | some (.val v) => some (⟨.fell, [], nilE, v⟩, h)
  | some (.fwd g bs) => match R (.call g bs) h with
    | some (o, h1) => if fwdOk o.v then some (⟨.fell, [], nilE, o.v⟩, h1) else none
    | none => none
  | some (.host F) => (F h).map fun r => (⟨.fell, [], nilE, r.1⟩, r.2)
  | none =>
    match lget P.funcs.toList f with
    | some fn =>
      match fn.body with
      | some body =>
        match R (.todo f none [] (En.of args (fn.ntmps - args.length)) [.code body]) h with
        | some (o, h1) =>
          match o.leave with
          | .exit _ => none
          | _ => match closeMarks o.ds h1 with
            | some h2 => (aresultsE P h2 o.env fn.results.toList).map fun vs => (⟨.fell, [], nilE, oneOf vs⟩, h2)
            | none => none
        | none => none
      | none => none
    | none => none

def runRoundE (R : RunE) (l : Nat) (args : List Value) (h : AH) : Option (OutF × AH) :=
  match h.get l with
  | some (.loop _ _ fn tmps ps assign body _) =>
    if args.length = ps.size then
      match R (.todo fn (some l) [] (En.of ((ps.toList.zip args).foldl (fun t (p, v) => t.set p v) tmps) 0) [.code assign, .beginRound, .code body]) h with
      | some (o, h1) =>
        if o.ds.isEmpty then
          match o.leave with
          | .fell => (setLoop h1 l .ready (some none)).map fun h2 => (⟨.fell, [], nilE, .bool true⟩, h2)
          | .ret => (setLoop h1 l .done (some (some .ret))).map fun h2 => (⟨.fell, [], nilE, .bool false⟩, h2)
          | .exit id => (setLoop h1 l .done (some (some (.exit id)))).map fun h2 => (⟨.fell, [], nilE, .bool false⟩, h2)
        else none
      | none => none
    else none
  | _ => none


def stepF (P : Program) (K : FuncId → List Value → Option Ans) (R : RunE) (t : TaskF) (h : AH) : Option (OutF × AH) :=
  TaskF.rec (motive := fun _ => TdA) (fun fn ro ds env k => runTodoE P R fn ro ds env k h) (fun all rest env => runOpsE P R all rest env h) (fun f args => runCallE P K R f args h) (fun l args => runRoundE R l args h) t
def runF (P : Program) (K : FuncId → List Value → Option Ans) (n : Nat) : RunE :=
  Nat.rec (motive := fun _ => RunE) (fun _ _ => none) (fun _ R => stepF P K R) n

section same
variable {P : Program} {K : FuncId → List Value → Option Ans} {R' : RunE} {R : Run}
theorem RelR.val (hR : RelR R' R) (t : TaskF) (h : AH) : (R' t h).map (fun r => (r.1.v, r.2)) = (R (absT t) h).map fun r => (r.1.v, r.2) := by
  rw [hR t h, Option.map_map]; rfl
theorem heavyStepE_eq (hR : RelR R' R) (ev : Operand → Value) (h : AH) (op : Op) : heavyStepE P R' ev h op = heavyStep P R ev h op := by
  have h1 : ∀ g l, (R' (.call g l) h).map (fun r => (r.1.v, r.2)) = (R (.call g l) h).map fun r => (r.1.v, r.2) := fun g l => hR.val _ _
  have h2 : ∀ g l, (R' (.round g l) h).map (fun r => (r.1.v, r.2)) = (R (.round g l) h).map fun r => (r.1.v, r.2) := fun g l => hR.val _ _
  unfold heavyStepE heavyStep
  simp only [h1, h2]
  rfl
theorem opStepE_eq (hR : RelR R' R) (env : En) (h : AH) (op : Op) : opStepE P R' env h op = opStep P R env.toL h op := by
  rw [opStepE_old]
  unfold opStep
  simp only [aevalE_eq, alightF_eq, heavyStepE_eq hR]
  rfl
theorem drawStepE_eq (hR : RelR R' R) (all : List Oper) (r0 i : Nat) (env : En) (h : AH) (o : Oper) : drawStepE P R' all r0 i env h o = drawStep P R all r0 i env.toL h o := by
  rw [drawStepE_old]
  unfold drawStep
  simp only [aWantedE_eq, aevalE_eq, lightValF_eq, heavyStepE_eq hR]
  rfl
theorem drawTextE_eq (hR : RelR R' R) (all : List Oper) (r0 : Nat) : ∀ (os : List Oper) (i : Nat) (env : En) (h : AH),
    drawText P R all r0 i os env.toL h = (drawTextE P R' all r0 i os env h).map fun r => (r.1.map absC, r.2.1.toL, r.2.2)
  | [], _, _, _ => rfl
  | o :: os, i, env, h => by
    rw [drawTextE_cons]
    simp only [drawText, drawStepE_eq hR]
    cases drawStep P R all r0 i env.toL h o with
    | none => rfl
    | some r =>
      obtain ⟨v, h'⟩ := r
      simp only [← aputE_eq, drawTextE_eq hR all r0 os]
      cases drawTextE P R' all r0 (i + 1) os (aputE env o.dst v) h' with
      | none => rfl
      | some r => rfl
theorem floatOkE_eq (all : List Oper) (rs : List RecE) (hEnd : AH) (x : Nat × Nat) : floatOkE P all rs hEnd x = floatOk P all (rs.map absC) hEnd x := by
  unfold floatOkE floatOk
  simp only [List.getElem?_map]
  cases all[x.1]? with
  | none => rfl
  | some o =>
    cases rs[x.1]? with
    | none => rfl
    | some r =>
      simp only [Option.map_some, aWantedE_eq, aevalE_eq, lightValF_eq]
      cases rs[x.2]? <;> rfl
theorem drawRunE_eq (hR : RelR R' R) (ops : Array Oper) (env : En) (h : AH) : drawRun P R ops env.toL h = (drawRunE P R' ops env h).map fun r => (r.1.toL, r.2) := by
  unfold drawRunE drawRun
  rw [drawTextE_eq hR]
  split
  · cases drawTextE P R' ops.toList h.next 0 ops.toList env { h with next := h.next + ops.size } with
    | none => rfl
    | some r =>
      obtain ⟨rs, e, h'⟩ := r
      have : floatOkE P ops.toList rs h' = floatOk P ops.toList (rs.map absC) h' := funext (floatOkE_eq _ rs h')
      simp only [Option.map_some, this]
      split <;> rfl
  · rfl
theorem aresultsE_eq (h : AH) (env : En) : ∀ rs, aresultsE P h env rs = aresults P h env.toL rs
  | [] => rfl
  | .tmp t :: rs => by simp only [aresultsE, aresults, En.get_eq, aresultsE_eq h env rs]
  | .cell a t :: rs => by simp only [aresultsE, aresults, En.get_eq, aresultsE_eq h env rs]; rfl
theorem runOpsE_old (P : Program) (R : RunE) (all : Array Oper) (rest : List Oper) (env : En) (h : AH) : runOpsE P R all rest env h =
    match rest with
    | [] => some (⟨.fell, [], env, undef⟩, h)
    | o :: rest =>
      match aWantedE all env o with
      | none => none
      | some false => R (.ops all rest (aputE env o.dst undef)) h
      | some true => match opStepE P R env h o.op with
        | some (v, h') => R (.ops all rest (aputE env o.dst v)) h'
        | none => none := by
  cases rest with
  | nil => rfl
  | cons o rest =>
    show op_w P R all rest env h o (aWantedE all env o) = _
    simp only
    cases aWantedE all env o with
    | none => rfl
    | some b =>
      cases b with
      | false => rfl
      | true =>
        show op_do P R all rest env h o = _
        unfold op_do
        simp only
        cases opStepE P R env h o.op <;> rfl
theorem runOpsE_eq (hR : RelR R' R) (all : Array Oper) (rest : List Oper) (env : En) (h : AH) : runOps P R all rest env.toL h = (runOpsE P R' all rest env h).map absR := by
  rw [runOpsE_old]
  unfold runOps
  cases rest with
  | nil => rfl
  | cons o rest =>
    simp only [aWantedE_eq, opStepE_eq hR]
    cases aWanted all env.toL o with
    | none => rfl
    | some b =>
      cases b with
      | false => simp only [← aputE_eq]; exact hR (.ops all rest (aputE env o.dst undef)) h
      | true =>
        simp only
        cases opStep P R env.toL h o.op with
        | none => rfl
        | some r => simp only [← aputE_eq]; exact hR (.ops all rest (aputE env o.dst r.1)) r.2
theorem runTodoE_eq (hR : RelR R' R) (fn : FuncId) (ro : Option Nat) (ds : List Nat) (env : En) (k : List Item) (h : AH) : runTodo P R fn ro ds env.toL k h = (runTodoE P R' fn ro ds env k h).map absR := by
  have hT : ∀ fn ro ds (env : En) k h, R (.todo fn ro ds env.toL k) h = (R' (.todo fn ro ds env k) h).map absR := fun fn ro ds env k h => hR (.todo fn ro ds env k) h
  unfold runTodo
  cases k with
  | nil => rfl
  | cons x k =>
    cases x with
    | code c =>
      cases c with
      | skip => exact hT ..
      | label _ => exact hT ..
      | seq a b => exact hT ..
      | cond c t e =>
        show _ = (td_cond P R' fn ro ds env k h c t e).map absR
        unfold td_cond
        simp only [aevalE_eq]
        cases aeval P env.toL c <;> first | rfl | exact hT ..
      | block id b => exact hT ..
      | loop b => exact hT ..
      | scope b => exact hT ..
      | exit id =>
        show _ = (td_exit R' fn ro ds env k h id).map absR
        unfold td_exit
        simp only
        cases exitTo id k with
        | none => simp only; split <;> rfl
        | some k' => exact hT ..
      | ret => rfl
      | region i ops d =>
        cases d with
        | false =>
          show _ = (td_reg R' fn ro ds env k h ops).map absR
          unfold td_reg td_reg2
          simp only
          rw [show R (.ops ops ops.toList env.toL) h = (R' (.ops ops ops.toList env) h).map absR from hR (.ops ops ops.toList env) h]
          cases R' (.ops ops ops.toList env) h with
          | none => rfl
          | some r => exact hT ..
        | true =>
          show _ = (td_draw P R' fn ro ds env k h ops).map absR
          unfold td_draw td_draw2
          simp only [drawRunE_eq hR]
          cases drawRunE P R' ops env h with
          | none => rfl
          | some r => exact hT ..
      | rangeFunc f ps assign body =>
        show _ = (td_range P R' fn ro ds env k h f ps assign body).map absR
        unfold td_range
        simp only [aevalE_eq]
        split
        · rename_i d h1 ds1 hd
          have hd' : rdOf h ds ro = some (d, h1, ds1) := hd
          simp only [hd']
          split
          · rename_i g first captured hf
            simp only [hf]
            split
            · rw [show R (.call g (first.toList ++ [.func (.yield h1.next) #[] #[]] ++ captured.toList)) (h1.alloc (.loop .ready none fn env.toL ps assign body d)) =
                (R' (.call g (first.toList ++ [.func (.yield h1.next) #[] #[]] ++ captured.toList)) (h1.alloc (.loop .ready none fn env.toL ps assign body d))).map absR from hR (.call g _) _]
              cases R' (.call g (first.toList ++ [.func (.yield h1.next) #[] #[]] ++ captured.toList)) (h1.alloc (.loop .ready none fn env.toL ps assign body d)) with
              | none => rfl
              | some r =>
                simp only [Option.map_some, absR]
                split
                · rename_i st p _ _ _ _ _ _ hg
                  simp only [hg]
                  split
                  · rfl
                  · split
                    · rename_i h4 hs; simp only [hs]; exact hT ..
                    · rename_i hs; simp only [hs]; rfl
                · rename_i hg
                  split
                  · rename_i hg2; exact absurd hg2 (hg _ _ _ _ _ _ _ _)
                  · rfl
            · rfl
          · rename_i hf
            split
            · rename_i hf2; exact absurd hf2 (hf _ _ _)
            · rfl
        · rename_i hd
          have hd' : rdOf h ds ro = none := hd
          simp only [hd']
          rfl
      | _ => rfl
    | inBlock _ => exact hT ..
    | inScope _ => exact hT ..
    | inLoop b => exact hT ..
    | beginRound =>
      show _ = (td_begin R' fn ro ds env k h).map absR
      unfold td_begin
      cases ro with
      | none => rfl
      | some l =>
        simp only
        split
        · rename_i hg
          simp only [hg]
          split
          · rename_i h' hs; simp only [hs]; exact hT ..
          · rename_i hs; simp only [hs]; rfl
        · rename_i hg
          split
          · rename_i hg2; exact absurd hg2 (hg _ _ _ _ _ _ _)
          · rfl
    | _ => rfl
theorem runCallE_eq (hR : RelR R' R) (f : FuncId) (args : List Value) (h : AH) : runCall P K R f args h = (runCallE P K R' f args h).map absR := by
  unfold runCallE runCall
  cases K f args with
  | some a =>
    cases a with
    | val v => rfl
    | fwd g bs =>
      simp only
      rw [show R (.call g bs) h = (R' (.call g bs) h).map absR from hR (.call g bs) h]
      cases R' (.call g bs) h with
      | none => rfl
      | some r => simp only [Option.map_some, absR, absO]; split <;> rfl
    | host F => simp only; cases F h <;> rfl
  | none =>
    simp only
    rw [lget_eq, Array.getElem?_toList]
    cases P.funcs[f]? with
    | none => rfl
    | some fn =>
      simp only
      cases fn.body with
      | none => rfl
      | some body =>
        simp only
        rw [← En.of_eq, show R (.todo f none [] (En.of args (fn.ntmps - args.length)).toL [.code body]) h = (R' (.todo f none [] (En.of args (fn.ntmps - args.length)) [.code body]) h).map absR from hR (.todo f none [] (En.of args (fn.ntmps - args.length)) [.code body]) h]
        cases R' (.todo f none [] (En.of args (fn.ntmps - args.length)) [.code body]) h with
        | none => rfl
        | some r =>
          obtain ⟨⟨lv, ds, env, v⟩, h1⟩ := r
          simp only [Option.map_some, absR, absO, aresultsE_eq]
          cases lv with
          | exit id => rfl
          | fell => simp only; cases closeMarks ds h1 with | none => rfl | some h2 => simp only; cases aresults P h2 env.toL fn.results.toList <;> rfl
          | ret => simp only; cases closeMarks ds h1 with | none => rfl | some h2 => simp only; cases aresults P h2 env.toL fn.results.toList <;> rfl
theorem runRoundE_eq (hR : RelR R' R) (l : Nat) (args : List Value) (h : AH) : runRound R l args h = (runRoundE R' l args h).map absR := by
  unfold runRoundE runRound
  split
  · rename_i fn tmps ps as bd d hg
    simp only [hg]
    split
    · have hof : ∀ t : List Value, (En.of t 0).toL = t := fun t => by rw [En.of_eq]; simp
      have := hR (.todo fn (some l) [] (En.of ((ps.toList.zip args).foldl (fun t (p, v) => t.set p v) tmps) 0) [.code as, .beginRound, .code bd]) h
      simp only [absT, hof] at this
      rw [this]
      cases R' (.todo fn (some l) [] (En.of ((ps.toList.zip args).foldl (fun t (p, v) => t.set p v) tmps) 0) [.code as, .beginRound, .code bd]) h with
      | none => rfl
      | some r =>
        obtain ⟨⟨lv, ds, env, v⟩, h1⟩ := r
        simp only [Option.map_some, absR, absO]
        split
        · cases lv with
          | fell => simp only; cases setLoop h1 l .ready (some none) <;> rfl
          | ret => simp only; cases setLoop h1 l .done (some (some .ret)) <;> rfl
          | exit id => simp only; cases setLoop h1 l .done (some (some (.exit id))) <;> rfl
        · rfl
    · rfl
  · rename_i hg
    split
    · rename_i hg2; exact absurd hg2 (hg _ _ _ _ _ _ _ _)
    · rfl
theorem runF_eq : ∀ n, RelR (runF P K n) (run P K n)
  | 0 => fun t h => by cases t <;> rfl
  | n + 1 => fun t h => by
    have ih : RelR (runF P K n) fun t h => run P K n t h := runF_eq n
    cases t with
    | todo fn ro ds env k => exact runTodoE_eq ih ..
    | ops all rest env => exact runOpsE_eq ih ..
    | call f args => exact runCallE_eq ih ..
    | round l args => exact runRoundE_eq ih ..
end same
/-- what the fast one answers is what the other one does -/
theorem run_of_runF {P : Program} {K : FuncId → List Value → Option Ans} {n : Nat} {f : FuncId} {args : List Value} {h : AH} {v : Value} (hr : ((runF P K n (.call f args) h).any fun r => veq r.1.v v) = true) :
    ((run P K n (.call f args) h).any fun r => veq r.1.v v) = true := by
  have := runF_eq (P := P) (K := K) n (.call f args) h
  simp only [absT] at this
  rw [this]
  revert hr
  cases runF P K n (.call f args) h <;> exact id
end
end Go.Ab
end
