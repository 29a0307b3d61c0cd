/- The abstract machine: its operations are the model's (all that make nothing; those that make one block). -/
import Derived.Test.YtflmoocllahjnaaAb7
namespace Go.Ab
open Go.RowKit
variable {P : Program} {B : Nat} {ρ : Rho} {h : AH} {w : World}

theorem eqAsk_run {op : BinOp} {t : TypeId} {x y : Operand} {a b a' b' : Value} (ha : VRel ρ a a') (hb : VRel ρ b b') (h1 : isTop a = false) (h2 : isTop b = false) (hq : eqAsk P t x y a b = true) :
    (eqGuard op t x y a' b').run P w = .ok () w := by
  cases a with
  | chan r => simp [isTop] at h1
  | nilIface =>
    simp only [VRel] at ha; subst ha
    cases b with
    | chan r => simp [isTop] at h2
    | nilIface =>
      simp only [VRel] at hb; subst hb
      simp only [eqAsk, Bool.or_eq_true] at hq
      cases x with
      | const c => rw [eqGuard_nil_constL]; rfl
      | _ =>
        cases y with
        | const c => rw [eqGuard_nil_constR]; rfl
        | _ => simp [isConst] at hq
    | iface u v => simp only [VRel] at hb; obtain ⟨_, _, rfl⟩ := hb; rw [eqGuard_nil_iface]; rfl
    | agg cs => simp only [VRel] at hb; obtain ⟨_, _, rfl⟩ := hb; cases op <;> rfl
    | tuple cs => simp only [VRel] at hb; obtain ⟨_, _, rfl⟩ := hb; cases op <;> rfl
    | func fn f c => simp only [VRel] at hb; obtain ⟨_, _, _, _, _, _, rfl⟩ := hb; cases op <;> rfl
    | pointer a => cases a with
      | none => simp only [VRel] at hb; subst hb; cases op <;> rfl
      | some a => simp only [VRel] at hb; obtain ⟨_, _, _, rfl⟩ := hb; cases op <;> rfl
    | map a => cases a with
      | none => simp only [VRel] at hb; subst hb; cases op <;> rfl
      | some a => simp only [VRel] at hb; obtain ⟨_, _, _, rfl⟩ := hb; cases op <;> rfl
    | slice a _ _ => cases a with
      | none => simp only [VRel] at hb; subst hb; cases op <;> rfl
      | some a =>
        obtain ⟨_, _, sp⟩ := a
        cases sp with
        | none => simp only [VRel] at hb; obtain ⟨_, _, _, _, _, _, rfl⟩ := hb; cases op <;> rfl
        | some _ => simp only [VRel] at hb; obtain ⟨_, _, _, _, rfl⟩ := hb; cases op <;> rfl
    | _ => simp only [VRel] at hb; subst hb; cases op <;> rfl
  | iface u v => simp only [VRel] at ha; obtain ⟨_, _, rfl⟩ := ha; rw [eqGuard_at_iface]; rfl
  | tuple cs => simp only [VRel] at ha; obtain ⟨_, _, rfl⟩ := ha; rw [eqGuard_at_tuple]; rfl
  | func fn f c => simp only [VRel] at ha; obtain ⟨_, _, _, _, _, _, rfl⟩ := ha; rw [eqGuard_at_func]; rfl
  | pointer a => cases a with
    | none => simp only [VRel] at ha; subst ha; rw [eqGuard_at_pointer]; rfl
    | some a => simp only [VRel] at ha; obtain ⟨_, _, _, rfl⟩ := ha; rw [eqGuard_at_pointer]; rfl
  | map a => cases a with
    | none => simp only [VRel] at ha; subst ha; rw [eqGuard_at_map]; rfl
    | some a => simp only [VRel] at ha; obtain ⟨_, _, _, rfl⟩ := ha; rw [eqGuard_at_map]; rfl
  | slice a _ _ => cases a with
    | none => simp only [VRel] at ha; subst ha; rw [eqGuard_at_slice]; rfl
    | some a =>
      obtain ⟨_, _, sp⟩ := a
      cases sp with
      | none => simp only [VRel] at ha; obtain ⟨_, _, _, _, _, _, rfl⟩ := ha; rw [eqGuard_at_slice]; rfl
      | some _ => simp only [VRel] at ha; obtain ⟨_, _, _, _, rfl⟩ := ha; rw [eqGuard_at_slice]; rfl
  | bool _ => simp only [VRel] at ha; subst ha; rw [eqGuard_at_bool]; rfl
  | int _ _ => simp only [VRel] at ha; subst ha; rw [eqGuard_at_int]; rfl
  | float _ _ => simp only [VRel] at ha; subst ha; rw [eqGuard_at_float]; rfl
  | complex _ _ _ => simp only [VRel] at ha; subst ha; rw [eqGuard_at_complex]; rfl
  | string _ => simp only [VRel] at ha; subst ha; rw [eqGuard_at_string]; rfl
  | nilFunc => simp only [VRel] at ha; subst ha; rw [eqGuard_at_nilFunc]; rfl
  | agg cs =>
    simp only [VRel] at ha; obtain ⟨cs', _, rfl⟩ := ha
    cases b with
    | agg ds =>
      simp only [VRel] at hb; obtain ⟨ds', _, rfl⟩ := hb
      simp only [eqAsk, Bool.not_eq_true'] at hq
      exact run_eqGuard_agg w op t x y cs' ds' hq
    | chan r => simp [isTop] at h2
    | iface u v => simp only [VRel] at hb; obtain ⟨_, _, rfl⟩ := hb; cases op <;> rfl
    | tuple cs => simp only [VRel] at hb; obtain ⟨_, _, rfl⟩ := hb; cases op <;> rfl
    | func fn f c => simp only [VRel] at hb; obtain ⟨_, _, _, _, _, _, rfl⟩ := hb; cases op <;> rfl
    | pointer a => cases a with
      | none => simp only [VRel] at hb; subst hb; cases op <;> rfl
      | some a => simp only [VRel] at hb; obtain ⟨_, _, _, rfl⟩ := hb; cases op <;> rfl
    | map a => cases a with
      | none => simp only [VRel] at hb; subst hb; cases op <;> rfl
      | some a => simp only [VRel] at hb; obtain ⟨_, _, _, rfl⟩ := hb; cases op <;> rfl
    | slice a _ _ => cases a with
      | none => simp only [VRel] at hb; subst hb; cases op <;> rfl
      | some a =>
        obtain ⟨_, _, sp⟩ := a
        cases sp with
        | none => simp only [VRel] at hb; obtain ⟨_, _, _, _, _, _, rfl⟩ := hb; cases op <;> rfl
        | some _ => simp only [VRel] at hb; obtain ⟨_, _, _, _, rfl⟩ := hb; cases op <;> rfl
    | _ => simp only [VRel] at hb; subst hb; cases op <;> rfl

theorem aeq_notTop {d : Nat} {t : TypeId} {x y : Value} {r : Bool} (h : aeq P d t x y = some r) : isTop x = false ∧ isTop y = false := by
  cases d with
  | zero => simp [aeq] at h
  | succ d => unfold aeq at h; split at h <;> first | exact ⟨rfl, rfl⟩ | cases h

theorem aint_run {op : BinOp} {k : IntKind} {t : TypeId} {m n : Int} {v : Value} (hv : aint op k m n = some v) : (binOp op t (.int k m) (.int k n)).run P w = .ok v w ∧ ∀ ρ : Rho, VRel ρ v v := by
  cases op <;> simp only [aint, acmp, Option.map_some, Option.some.injEq] at hv <;> try cases hv
  case add => exact ⟨by rw [binOp_add]; rfl, fun ρ => by simp only [VRel]⟩
  case sub => exact ⟨by rw [binOp_sub]; rfl, fun ρ => by simp only [VRel]⟩
  case mul => exact ⟨by rw [binOp_mul]; rfl, fun ρ => by simp only [VRel]⟩
  case quo =>
    split at hv
    · cases hv
    · rename_i h; cases hv; exact ⟨by rw [binOp_quo]; simp [Op.intDiv, h], fun ρ => by simp only [VRel]⟩
  case rem =>
    split at hv
    · cases hv
    · rename_i h; cases hv; exact ⟨by rw [binOp_rem]; simp [Op.intDiv, h], fun ρ => by simp only [VRel]⟩
  case eql => exact ⟨by rw [binOp_eql]; rfl, fun ρ => by simp only [VRel]⟩
  case neq => exact ⟨by rw [binOp_neq]; rfl, fun ρ => by simp only [VRel]⟩
  case lss => exact ⟨by rw [binOp_lss]; rfl, fun ρ => by simp only [VRel]⟩
  case leq => exact ⟨by rw [binOp_leq]; rfl, fun ρ => by simp only [VRel]⟩
  case gtr => exact ⟨by rw [binOp_gtr]; rfl, fun ρ => by simp only [VRel]⟩
  case geq => exact ⟨by rw [binOp_geq]; rfl, fun ρ => by simp only [VRel]⟩

theorem astr_run {op : BinOp} {t : TypeId} {m n : ByteArray} {v : Value} (hv : astr op m n = some v) : (binOp op t (.string m) (.string n)).run P w = .ok v w ∧ ∀ ρ : Rho, VRel ρ v v := by
  cases op <;> simp only [astr, Option.some.injEq] at hv <;> try cases hv
  case add =>
    split at hv
    · rename_i h
      cases hv
      refine ⟨?_, fun ρ => by simp only [VRel]⟩
      have : ¬ (((m.size + n.size : Nat) : Int) > IntKind.i64.max) := by rw [IntKind.max_i64]; omega
      simp only [binOp, Op.stringOp]
      rw [if_neg this]; rfl
    · cases hv
  case eql => exact ⟨by simp [binOp, Op.stringOp], fun ρ => by simp only [VRel]⟩
  case neq => exact ⟨by simp [binOp, Op.stringOp], fun ρ => by simp only [VRel]⟩
  case lss => exact ⟨by simp [binOp, Op.stringOp], fun ρ => by simp only [VRel]⟩

theorem binOp_eql_run {t : TypeId} {a b a' b' : Value} {r : Bool} (ha : VRel ρ a a') (hb : VRel ρ b b') (hq : aeq P 10000 t a b = some r) (hni : ∀ k m k' n, ¬ (a = .int k m ∧ b = .int k' n)) (hns : ∀ m n, ¬ (a = .string m ∧ b = .string n)) :
    (binOp .eql t a' b').run P w = .ok (.bool r) w ∧ (binOp .neq t a' b').run P w = .ok (.bool !r) w := by
  have he : (Op.equal t a' b').run P w = .ok r w := aeq_sound 10000 t a b a' b' r ha hb hq
  obtain ⟨h1, h2⟩ := aeq_notTop hq
  have key : ∀ op, (op = BinOp.eql ∨ op = BinOp.neq) → binOp op t a' b' = (if op = .eql then (do pure (.bool (← Op.equal t a' b')) : Sem Value) else do pure (.bool (!(← Op.equal t a' b')))) := by
    intro op hop
    cases a with
    | chan r => simp [isTop] at h1
    | int k m =>
      simp only [VRel] at ha; subst ha
      cases b with
      | int k' n => exact absurd ⟨rfl, rfl⟩ (hni k m k' n)
      | _ =>
        unfold aeq at hq
        split at hq <;> simp_all
    | string m =>
      simp only [VRel] at ha; subst ha
      cases b with
      | string n => exact absurd ⟨rfl, rfl⟩ (hns m n)
      | _ =>
        unfold aeq at hq
        split at hq <;> simp_all
    | float k m => unfold aeq at hq; split at hq <;> simp_all
    | complex k m n => unfold aeq at hq; split at hq <;> simp_all
    | tuple cs => unfold aeq at hq; split at hq <;> simp_all
    | bool c => simp only [VRel] at ha; subst ha; rcases hop with rfl | rfl <;> simp [binOp]
    | nilFunc => simp only [VRel] at ha; subst ha; rcases hop with rfl | rfl <;> simp [binOp]
    | nilIface => simp only [VRel] at ha; subst ha; rcases hop with rfl | rfl <;> simp [binOp]
    | iface u v => simp only [VRel] at ha; obtain ⟨_, _, rfl⟩ := ha; rcases hop with rfl | rfl <;> simp [binOp]
    | func fn f c => simp only [VRel] at ha; obtain ⟨_, _, _, _, _, _, rfl⟩ := ha; rcases hop with rfl | rfl <;> simp [binOp]
    | agg cs => simp only [VRel] at ha; obtain ⟨_, _, rfl⟩ := ha; rcases hop with rfl | rfl <;> simp [binOp]
    | pointer a => cases a with
      | none => simp only [VRel] at ha; subst ha; rcases hop with rfl | rfl <;> simp [binOp]
      | some a => simp only [VRel] at ha; obtain ⟨_, _, _, rfl⟩ := ha; rcases hop with rfl | rfl <;> simp [binOp]
    | map a => cases a with
      | none => simp only [VRel] at ha; subst ha; rcases hop with rfl | rfl <;> simp [binOp]
      | some a => simp only [VRel] at ha; obtain ⟨_, _, _, rfl⟩ := ha; rcases hop with rfl | rfl <;> simp [binOp]
    | slice a _ _ => cases a with
      | none => simp only [VRel] at ha; subst ha; rcases hop with rfl | rfl <;> simp [binOp]
      | some a =>
        obtain ⟨_, _, sp⟩ := a
        cases sp with
        | none => simp only [VRel] at ha; obtain ⟨_, _, _, _, _, _, rfl⟩ := ha; rcases hop with rfl | rfl <;> simp [binOp]
        | some _ => simp only [VRel] at ha; obtain ⟨_, _, _, _, rfl⟩ := ha; rcases hop with rfl | rfl <;> simp [binOp]
  rw [key .eql (.inl rfl), key .neq (.inr rfl)]
  simp [he]

theorem bin_sound {op : BinOp} {t : TypeId} {x y : Operand} {a b a' b' v : Value} (ha : VRel ρ a a') (hb : VRel ρ b b') (hv : abin P op t x y a b = some v) :
    ∃ v', (do eqGuard op t x y a' b'; binOp op t a' b' : Sem Value).run P w = .ok v' w ∧ VRel ρ v v' := by
  unfold abin at hv
  split at hv
  · rename_i k m k' n
    simp only [VRel] at ha hb; subst ha; subst hb
    split at hv
    · rename_i hk; subst hk
      obtain ⟨h1, h2⟩ := aint_run (P := P) (w := w) (t := t) hv
      exact ⟨v, by simp only [Sem.run_bind, eqGuard_at_int, Sem.run_pure, Result.andThen_ok, h1], h2 ρ⟩
    · cases hv
  · rename_i m n
    simp only [VRel] at ha hb; subst ha; subst hb
    obtain ⟨h1, h2⟩ := astr_run (P := P) (w := w) (t := t) hv
    exact ⟨v, by simp only [Sem.run_bind, eqGuard_at_string, Sem.run_pure, Result.andThen_ok, h1], h2 ρ⟩
  · rename_i hni hns
    have hni' : ∀ k m k' n, ¬ (a = .int k m ∧ b = .int k' n) := fun k m k' n hh => hni k m k' n hh.1 hh.2
    have hns' : ∀ m n, ¬ (a = .string m ∧ b = .string n) := fun m n hh => hns m n hh.1 hh.2
    split at hv
    · split at hv
      · rename_i hq
        simp only [Option.map_eq_some_iff] at hv
        obtain ⟨r, hr, rfl⟩ := hv
        obtain ⟨h1, h2⟩ := aeq_notTop hr
        refine ⟨.bool r, ?_, by simp only [VRel]⟩
        simp only [Sem.run_bind, eqAsk_run ha hb h1 h2 hq, Result.andThen_ok, (binOp_eql_run ha hb hr hni' hns').1]
      · cases hv
    · split at hv
      · rename_i hq
        simp only [Option.map_eq_some_iff] at hv
        obtain ⟨r, hr, rfl⟩ := hv
        obtain ⟨h1, h2⟩ := aeq_notTop hr
        refine ⟨.bool !r, ?_, by simp only [VRel]⟩
        simp only [Sem.run_bind, eqAsk_run ha hb h1 h2 hq, Result.andThen_ok, (binOp_eql_run ha hb hr hni' hns').2]
      · cases hv
    · cases hv

end Go.Ab
