/- The abstract machine: a walk as a proposition (operations that make blocks, write, call). -/
import Derived.Test.YtflmoocllahjnaaAb22
namespace Go.Ab
variable {P : Program} {K : FuncId → List Value → Option Value}

def lenT (x : Value) : Option Value := match x with
  | .string s => some (.int .i64 s.size)
  | _ => none
def lenS (x : Value) : Option Value := match x with
  | .slice _ n _ => some (.int .i64 n)
  | _ => none
def minV (x y : Value) : Option Value := match x, y with
  | .int k x, .int _ y => some (.int k (if y < x then y else x))
  | _, _ => none
def maxV (x y : Value) : Option Value := match x, y with
  | .int k x, .int _ y => some (.int k (if y > x then y else x))
  | _, _ => none
def appV (sz bytes : Nat) (e : TypeId) (h : AH) (s x : Value) : Option (Value × AH) :=
  match s, lenOfV x with
  | .slice base sLen sCap, some n =>
    match srcCells h sz n x with
    | some new =>
      if !new.all cellB || new.length != n * sz then none else
      if sLen + n ≤ sCap then
        match base with
        | none => if n = 0 then some (s, h) else none
        | some a => if a.spot.isSome then none else if n = 0 then some (s, h) else
          (storeCellsAt h (a.add (sLen * sz)) new).map fun h' => (.slice base (sLen + n) sCap, h')
      else if (sLen + n) * (bytes + 1) ≤ 2 ^ 46 then
        match base with
        | none => if sLen = 0 then some (.slice (some ⟨h.next, 0, none⟩) n n, h.alloc (.cells new e (0, 0) false)) else none
        | some a =>
          match loadCellsAt h a (sLen * sz), h.get a.block with
          | some old, some (.cells c e' fz x) =>
            if !old.all cellB then none else
            if x then some (.slice (some ⟨h.next, 0, none⟩) (sLen + n) (sLen + n), h.alloc (.cells (old ++ new) e (0, 0) false))
            else if e' = e ∧ a.off = 0 ∧ h.base ≤ a.block ∧ fz = (0, 0) ∧ sCap * sz ≤ c.length then
              some (.slice (some ⟨h.next, 0, none⟩) (sLen + n) (sLen + n), (h.set a.block none).alloc (.cells (old ++ new) e (0, 0) false))
            else none
          | _, _ => none
      else none
    | _ => none
  | _, _ => none
def copyV (sz : Nat) (h : AH) (d x : Value) : Option (Value × AH) :=
  match d, lenOfV x with
  | .slice base dLen _, some m =>
      match srcCells h sz (Nat.min m dLen) x with
      | some new => match base with
        | none => some (.int .i64 (Nat.min m dLen : Nat), h)
        | some a => if Nat.min m dLen = 0 then some (.int .i64 0, h) else (storeCellsAt h a new).map fun h' => (.int .i64 (Nat.min m dLen : Nat), h')
      | none => none
  | _, _ => none
def clearV (z : List Value) (h : AH) (x : Value) : Option (Value × AH) :=
  match x with
  | .slice none _ _ => some (.tuple #[], h)
  | .slice (some a) n _ =>
      if n = 0 then some (.tuple #[], h) else (storeCellsAt h a (zerosA z n)).map fun h' => (.tuple #[], h')
  | _ => none

def wpBuiltin (P : Program) (h : AH) (q : Value → AH → Prop) (argTypes : Array TypeId) : Builtin → List Value → Prop
  | .len, [x] => match (argTypes[0]?).bind P.underlying with
    | some .string => thn (lenT x) fun v => q v h
    | some (.slice _) => thn (lenS x) fun v => q v h
    | some (.array n _) => q (.int .i64 n) h
    | some (.pointer e) => (match P.underlying e with
      | some (.array n _) => q (.int .i64 n) h
      | _ => False)
    | _ => False
  | .append, [s, x] => match (argTypes[0]?).bind P.underlying with
    | some (.slice e) => if srcKind P argTypes ∧ (zeroOf P e).isSome then thn (appV (P.cellsOf e) (P.bytesOf e) e h s x) fun r => q r.1 r.2 else False
    | _ => False
  | .copy, [d, x] => match (argTypes[0]?).bind P.underlying with
    | some (.slice e) => if (P.info? e).isSome then thn (copyV (P.cellsOf e) h d x) fun r => q r.1 r.2 else False
    | _ => False
  | .clear, [x] => match (argTypes[0]?).bind P.underlying with
    | some (.slice e) => (match zeroOf P e with
      | some z => thn (clearV z h x) fun r => q r.1 r.2
      | none => False)
    | _ => False
  | .min, [x, y] => thn (minV x y) fun v => q v h
  | .max, [x, y] => thn (maxV x y) fun v => q v h
  | _, _ => False

theorem wpBuiltin_sound {h : AH} {q : Value → AH → Prop} {at_ : Array TypeId} {b : Builtin} {args : List Value} (hw : wpBuiltin P h q at_ b args) : ∃ v h', abuiltin P h b at_ args = some (v, h') ∧ q v h' := by
  unfold wpBuiltin at hw
  split at hw
  · split at hw
    · rename_i ht
      obtain ⟨v, h1, h2⟩ := hw
      refine ⟨v, h, ?_, h2⟩
      unfold lenT at h1
      split at h1
      · simp only [abuiltin, ht]; cases h1; rfl
      · cases h1
    · rename_i ht
      obtain ⟨v, h1, h2⟩ := hw
      refine ⟨v, h, ?_, h2⟩
      unfold lenS at h1
      split at h1
      · simp only [abuiltin, ht]; cases h1; rfl
      · cases h1
    · rename_i ht
      refine ⟨_, h, ?_, hw⟩
      simp only [abuiltin, ht]
    · rename_i ht
      split at hw
      · rename_i ht2
        refine ⟨_, h, ?_, hw⟩
        simp only [abuiltin, ht, ht2]
      · cases hw
    · cases hw
  · split at hw
    · rename_i e ht
      split at hw
      · rename_i hc
        obtain ⟨⟨v, h'⟩, h1, h2⟩ := hw
        refine ⟨v, h', ?_, h2⟩
        obtain ⟨z, hz⟩ := Option.isSome_iff_exists.1 hc.2
        unfold appV at h1
        split at h1
        · rename_i hl
          simp only [abuiltin, aappend, ht, hl, hc.1, hz, Bool.not_true, Bool.false_eq_true, if_false]
          split at h1
          · rename_i hs
            rw [hs]; exact h1
          · cases h1
        · cases h1
      · cases hw
    · cases hw
  · split at hw
    · rename_i e ht
      split at hw
      · rename_i hc
        obtain ⟨⟨v, h'⟩, h1, h2⟩ := hw
        refine ⟨v, h', ?_, h2⟩
        unfold copyV at h1
        split at h1
        · rename_i hl
          have hn : (P.info? e).isNone = false := by cases hh : P.info? e with | none => rw [hh] at hc; cases hc | some _ => rfl
          simp only [abuiltin, ht, hl, hn, Bool.false_eq_true, if_false]
          exact h1
        · cases h1
      · cases hw
    · cases hw
  · split at hw
    · rename_i e ht
      split at hw
      · rename_i z hz
        obtain ⟨⟨v, h'⟩, h1, h2⟩ := hw
        refine ⟨v, h', ?_, h2⟩
        unfold clearV at h1
        split at h1
        · simp only [abuiltin, ht]; exact h1
        · simp only [abuiltin, ht, hz]; exact h1
        · cases h1
      · cases hw
    · cases hw
  · obtain ⟨v, h1, h2⟩ := hw
    refine ⟨v, h, ?_, h2⟩
    unfold minV at h1
    split at h1
    · simp only [abuiltin]; cases h1; rfl
    · cases h1
  · obtain ⟨v, h1, h2⟩ := hw
    refine ⟨v, h, ?_, h2⟩
    unfold maxV at h1
    split at h1
    · simp only [abuiltin]; cases h1; rfl
    · cases h1
  · cases hw

/-- one that is called by name -/
def wpHeavy (P : Program) (K : FuncId → List Value → Option Value) (ev : Operand → Value) (h : AH) (q : Value → AH → Prop) : Op → Prop
  | .store t a x => if (P.info? t).isSome then thn (stV h (P.cellsOf t) (ev a) (ev x)) fun h' => q undef h' else False
  | .call c => match c.callee with
    | .builtin b => wpBuiltin P h q c.argTypes b (c.args.toList.map ev)
    | .value (.func g) => if callable P g then Ok P K (.call g (c.args.toList.map ev)) h fun o h' => q o.v h' else False
    | .value f => OkF P K (ev f) (c.args.toList.map ev) h q
    | .invoke _ _ => False
  | _ => False

theorem okF_sound {f : Value} {args : List Value} {h : AH} {q : Value → AH → Prop} (hw : OkF P K f args h q) :
    ∃ n v h', (match f with
      | .func (.func g) first captured => if callable P g then (run P K n (.call g (first.toList ++ args ++ captured.toList)) h).map fun r => (r.1.v, r.2) else none
      | .func (.yield l) first _ => (run P K n (.round l (first.toList ++ args)) h).map fun r => (r.1.v, r.2)
      | _ => none) = some (v, h') ∧ q v h' := by
  unfold OkF at hw
  split at hw
  · obtain ⟨hc, n, r, h1, h2⟩ := hw
    refine ⟨n, _, _, ?_, h2⟩
    simp only [hc, if_true, h1]; rfl
  · obtain ⟨n, r, h1, h2⟩ := hw
    refine ⟨n, _, _, ?_, h2⟩
    simp only [h1]; rfl
  · cases hw

theorem wpHeavy_sound {ev : Operand → Value} (hev : ∀ g, ev (.func g) = .func (.func g) #[] #[]) {h : AH} {q : Value → AH → Prop} {op : Op} (hw : wpHeavy P K ev h q op) :
    (kindOf op = .store ∨ kindOf op = .call) ∧ ∃ n v h', heavyStep P (run P K n) ev h op = some (v, h') ∧ q v h' := by
  unfold wpHeavy at hw
  split at hw
  · refine ⟨.inl rfl, ?_⟩
    split at hw
    · rename_i hinf
      obtain ⟨h', h1, h2⟩ := hw
      refine ⟨0, undef, h', ?_, h2⟩
      unfold stV at h1
      split at h1
      · rename_i he
        split at h1
        · rename_i hc
          split at h1
          · rename_i hl
            simp only [heavyStep, he, astore, hc, hl, hinf, and_self, if_true, h1]; rfl
          · cases h1
        · cases h1
      · cases h1
    · cases hw
  · rename_i c
    refine ⟨.inr rfl, ?_⟩
    split at hw
    · rename_i hcal
      obtain ⟨v, h', h1, h2⟩ := wpBuiltin_sound hw
      refine ⟨0, v, h', ?_, h2⟩
      simp only [heavyStep, hcal, h1]
    · rename_i hcal
      split at hw
      · rename_i hc
        obtain ⟨n, r, h1, h2⟩ := hw
        refine ⟨n, _, _, ?_, h2⟩
        simp only [heavyStep, hcal, hev, hc, if_true]
        rw [show (#[] : Array Value).toList ++ List.map ev c.args.toList ++ (#[] : Array Value).toList = List.map ev c.args.toList by simp, h1]
        rfl
      · cases hw
    · rename_i f hf hcal
      obtain ⟨n, v, h', h1, h2⟩ := okF_sound hw
      refine ⟨n, v, h', ?_, h2⟩
      simp only [heavyStep, hcal]
      exact h1
    · cases hw
  · cases hw

def slPtr (l c i : Nat) : Value := .slice (some ⟨i, 0, none⟩) l c
def ptr0 (i : Nat) : Value := .pointer (some ⟨i, 0, none⟩)
def wpAlloc (P : Program) (ev : Operand → Value) (q : Blk → (Nat → Value) → Prop) : Op → Prop
  | .alloc e => match zeroOf P e with
    | some z => q (.cells z e (0, 0) true) ptr0
    | none => False
  | .box e x => thn (blkOf e (ev x)) fun b => q b ptr0
  | .buildSlice t len parts => match P.underlying t with
    | some (.slice e) => (match zeroOf P e with
      | some z => if len * P.cellsOf e ≤ 2 ^ 24 then thn (afill (fun i => some (i * P.cellsOf e, P.cellsOf e)) (zerosA z len) (parts.toList.map fun p => (p.1, ev p.2))) fun l => q (.cells l e (0, 0) true) (slPtr len len) else False
      | none => False)
    | _ => False
  | .makeSlice t l c => match P.underlying t with
    | some (.slice e) => (match zeroOf P e with
      | some z => thn (mkS (P.bytesOf e) (ev l) (ev c)) fun n => q (.cells (zerosA z n.2) e (0, 0) true) (slPtr n.1 n.2)
      | none => False)
    | _ => False
  | _ => False
theorem wpAlloc_sound {ev : Operand → Value} {q : Blk → (Nat → Value) → Prop} {op : Op} (hw : wpAlloc P ev q op) : kindOf op = .alloc ∧ ∃ b f, aalloc P ev op = some (b, f) ∧ q b f := by
  unfold wpAlloc at hw
  split at hw
  · refine ⟨rfl, ?_⟩
    split at hw
    · rename_i hz
      exact ⟨_, _, by simp only [aalloc, hz]; rfl, hw⟩
    · cases hw
  · refine ⟨rfl, ?_⟩
    obtain ⟨b, h1, h2⟩ := hw
    refine ⟨b, ptr0, ?_, h2⟩
    unfold blkOf at h1
    simp only [Option.map_eq_some_iff] at h1
    obtain ⟨l, h1, rfl⟩ := h1
    simp only [aalloc, h1]; rfl
  · refine ⟨rfl, ?_⟩
    split at hw
    · rename_i ht
      split at hw
      · rename_i hz
        split at hw
        · rename_i hc
          obtain ⟨l, h1, h2⟩ := hw
          refine ⟨_, _, ?_, h2⟩
          simp only [aalloc, ht, hz, hc, if_true, h1]; rfl
        · cases hw
      · cases hw
    · cases hw
  · refine ⟨rfl, ?_⟩
    split at hw
    · rename_i ht
      split at hw
      · rename_i hz
        obtain ⟨n, h1, h2⟩ := hw
        refine ⟨_, _, ?_, h2⟩
        unfold mkS at h1
        split at h1
        · rename_i e1 e2
          split at h1
          · rename_i hc
            cases h1
            simp only [aalloc, ht, e1, e2, hz, hc, and_self, if_true]
            rfl
          · cases h1
        · cases h1
      · cases hw
    · cases hw
  · cases hw

end Go.Ab
