/- The abstract machine: places in a function's text. -/
import Derived.Test.YtflmoocllahjnaaAb26
namespace Go.Ab
variable {P : Program} {K : FuncId → List Value → Option Value}

def sub : Code → List Nat → Code
  | c, [] => c
  | .seq a _, 0 :: p => sub a p
  | .seq _ b, 1 :: p => sub b p
  | .cond _ t _, 0 :: p => sub t p
  | .cond _ _ e, 1 :: p => sub e p
  | .block _ b, 0 :: p => sub b p
  | .loop b, 0 :: p => sub b p
  | .scope b, 0 :: p => sub b p
  | .rangeFunc _ _ a _, 0 :: p => sub a p
  | .rangeFunc _ _ _ b, 1 :: p => sub b p
  | _, _ => .skip
def bodyOf (P : Program) (f : FuncId) : Option Code := (P.funcs[f]?).bind (·.body)
def ntm (P : Program) (f : FuncId) : Nat := (P.funcs[f]?).elim 0 (·.ntmps)
def cd (P : Program) (f : FuncId) (p : List Nat) : Code := sub ((bodyOf P f).getD .skip) p
theorem ok_enter {f : FuncId} {args : List Value} {h : AH} {Q : Value → AH → Prop} (hb : (bodyOf P f).isSome = true) (hK : K f args = none)
    (hw : Ok P K (.todo f none [] (args ++ List.replicate (ntm P f - args.length) undef) [.code (cd P f [])]) h (retV P f Q)) : Ok P K (.call f args) h fun o h' => Q o.v h' := by
  unfold bodyOf at hb
  cases hf : P.funcs[f]? with
  | none => rw [hf] at hb; cases hb
  | some fn =>
    cases hc : fn.body with
    | none => rw [hf] at hb; simp [hc] at hb
    | some body =>
      refine ok_call hf hc hK ?_
      have h1 : cd P f [] = body := by simp [cd, bodyOf, hf, hc, sub]
      have h2 : ntm P f = fn.ntmps := by simp [ntm, hf]
      rw [h1, h2] at hw
      exact hw

end Go.Ab
