/- From a world: slices of slices of flat things; a struct's flat field. -/
import Derived.Test.YtincdgimnjofpaaDoorB5
import Derived.LaidLaws
import Derived.MakeChecks
import Derived.WalkKit
import Derived.ProofKit
import Derived.ChangeOld
import Derived.ChangeSame
import Derived.ChangeVars
import Derived.JoinedOf
import Derived.Carry
import Derived.LaidHandle
import Derived.Stop.Joined
section
namespace Go.Ab
open Go Go.RowKit
variable {P : Program} {H : Type}
def partsD (f : DataW H → Option (List Value)) (w : Nat) : List (DataW H) → Option (List Value)
  | [] => some []
  | d :: ds => match f d with
    | some c => if c.length = w then (partsD f w ds).map (c ++ ·) else none
    | none => none
def fieldsD (f : TypeId → DataW H → Option (List Value)) (w : TypeId → Nat) : List Field → List (DataW H) → Nat → Option (List Value)
  | [], [], _ => some []
  | x :: fs, d :: ds, o => match f x.type d with
    | some c => if x.offset = o ∧ c.length = w x.type then (fieldsD f w fs ds (o + c.length)).map (c ++ ·) else none
    | none => none
  | _, _, _ => none
/-- the cells that a datum of integers, bools and strings tells -/
def cellsD (P : Program) : Nat → TypeId → DataW H → Option (List Value)
  | 0, _, _ => none
  | n + 1, t, d => match P.underlying t, d with
    | some (.int _), .lit (.int k m) => some [.int k m]
    | some .bool, .lit (.bool b) => some [.bool b]
    | some .string, .lit (.string s) => some [.string ⟨s.toArray⟩]
    | some (.array _ e), .agg ds => match partsD (cellsD P n e) (P.cellsOf e) ds with
      | some l => if l.length = P.cellsOf t then some l else none
      | none => none
    | some (.struct fs), .agg ds => match fieldsD (cellsD P n) P.cellsOf fs.toList ds 0 with
      | some l => if l.length = P.cellsOf t then some l else none
      | none => none
    | _, _ => none
theorem partsD_len {f : DataW H → Option (List Value)} {w : Nat} : ∀ {ds : List (DataW H)} {l : List Value}, partsD f w ds = some l → l.length = ds.length * w
  | [], l, h => by simp [partsD] at h; subst h; simp
  | d :: ds, l, h => by
    unfold partsD at h
    split at h
    · rename_i c hc
      split at h
      · rename_i hl
        simp only [Option.map_eq_some_iff] at h
        obtain ⟨r, hr, rfl⟩ := h
        have := partsD_len hr
        simp [this, hl, Nat.succ_mul]; omega
      · cases h
    · cases h
theorem partsD_ok {f : DataW H → Option (List Value)} {w : Nat} {T : List Value → Option (DataW H × List MemPlace)} (ih : ∀ c x l, T c = some x → f x.1 = some l → c = l) : ∀ (xs : List (DataW H × List MemPlace)) (cs l : List Value),
    partsD f w (xs.map (·.1)) = some l → cs.length = xs.length * w → (∀ i, i < xs.length → T ((cs.drop (i * w)).take w) = xs[i]?) → cs = l
  | [], cs, l, h, hl, _ => by simp [partsD] at h; subst h; exact List.eq_nil_of_length_eq_zero (by simpa using hl)
  | x :: xs, cs, l, h, hl, hx => by
    simp only [List.map_cons, partsD] at h
    split at h
    · rename_i c hc
      split at h
      · rename_i hcl
        simp only [Option.map_eq_some_iff] at h
        obtain ⟨r, hr, rfl⟩ := h
        have h0 := hx 0 (by simp)
        simp only [Nat.zero_mul, List.drop_zero, List.getElem?_cons_zero] at h0
        have e0 := ih _ _ _ h0 hc
        have e1 := partsD_ok ih xs (cs.drop w) r hr (by rw [List.length_drop, hl, List.length_cons, Nat.succ_mul]; omega) fun i hi => by
          have := hx (i + 1) (by simp; omega)
          rw [List.getElem?_cons_succ] at this
          rw [List.drop_drop, ← this, Nat.succ_mul, Nat.add_comm]
        rw [← List.take_append_drop w cs, e0, e1]
      · cases h
    · cases h
theorem fieldsD_ok {f : TypeId → DataW H → Option (List Value)} {w : TypeId → Nat} {T : TypeId → List Value → Option (DataW H × List MemPlace)} (ih : ∀ t c x l, T t c = some x → f t x.1 = some l → c = l) {cs : List Value} : ∀ (fs : List Field) (xs : List (DataW H × List MemPlace)) (o : Nat) (l : List Value),
    fieldsD f w fs (xs.map (·.1)) o = some l → (∀ (i : Nat) (x : Field), fs[i]? = some x → T x.type ((cs.drop x.offset).take (w x.type)) = xs[i]?) → (cs.drop o).take l.length = l
  | [], [], o, l, h, _ => by simp [fieldsD] at h; subst h; simp
  | [], _ :: _, _, _, h, _ => by simp [fieldsD] at h
  | _ :: _, [], _, _, h, _ => by simp [fieldsD] at h
  | y :: fs, x :: xs, o, l, h, hx => by
    simp only [List.map_cons, fieldsD] at h
    split at h
    · rename_i c hc
      split at h
      · rename_i hcl
        simp only [Option.map_eq_some_iff] at h
        obtain ⟨r, hr, rfl⟩ := h
        have h0 := hx 0 y rfl
        have e0 := ih _ _ _ _ h0 hc
        have e1 := fieldsD_ok ih fs xs (o + c.length) r hr fun i z hz => hx (i + 1) z hz
        rw [hcl.1, ← hcl.2] at e0
        rw [List.length_append, List.take_add, List.drop_drop, e0, e1]
      · cases h
    · cases h
variable {enc : TypeId × Value → H} {w : World} {base : Nat} {spare : Nat → Bool} {held : Bool}
theorem trod_cells : ∀ (n : Nat) {t : TypeId} {cs l : List Value} {x : DataW H × List MemPlace} {fuel : Nat}, DataW.trod enc P w base spare held fuel t cs = some x → cellsD P n t x.1 = some l → cs = l := by
  intro n
  induction n with
  | zero => intro t cs l x fuel _ h; cases h
  | succ n ih =>
    intro t cs l x fuel ht h
    unfold cellsD at h
    split at h
    · rename_i hu hd
      obtain ⟨m, rfl, hx, _⟩ := DataW.trod_int hu ht
      rw [hx] at hd
      cases hd; cases h; rfl
    · rename_i hu hd
      obtain ⟨m, rfl, hx⟩ := DataW.trod_bool hu ht
      rw [hx] at hd
      cases hd; cases h; rfl
    · rename_i hu hd
      obtain ⟨m, rfl, hx, _⟩ := DataW.trod_string hu ht
      rw [hx] at hd
      cases hd; cases h; rfl
    · rename_i hu hd
      obtain ⟨xs, m, _, hx, hl, hxl, hxs⟩ := DataW.trod_array hu ht
      rw [hx] at hd
      cases hd
      split at h
      · rename_i r hr
        split at h
        · rename_i hrl
          cases h
          have := partsD_len hr
          rw [List.length_map] at this
          exact partsD_ok (T := DataW.trod enc P w base spare held m _) (fun c y l h1 h2 => ih h1 h2) xs cs l hr (by rw [hl, ← hrl, this]) fun i hi => hxs i (by omega)
        · cases h
      · cases h
    · rename_i hu hd
      obtain ⟨xs, m, _, hx, hl, hxl, hxs⟩ := DataW.trod_struct hu ht
      rw [hx] at hd
      cases hd
      split at h
      · rename_i r hr
        split at h
        · rename_i hrl
          cases h
          have := fieldsD_ok (w := P.cellsOf) (T := fun t c => DataW.trod enc P w base spare held m t c) (fun t c y l h1 h2 => ih h1 h2) (cs := cs) _ xs 0 l hr fun i y hy => hxs i y (by rw [← hy, Array.getElem?_toList])
          rw [List.drop_zero, List.take_of_length_le (by omega)] at this
          exact this
        · cases h
      · cases h
    · cases h
theorem laidVars_mem {n : String} {d : DataW Unit} : ∀ {laid : List (String × DataW Unit)} {ps : List MemPlace}, DataW.LaidVars P w laid ps → (n, d) ∈ laid →
    ∃ g t cs fuel p, P.globalNamed n = some g ∧ (P.globals[g]?).map (·.type) = some t ∧ w.var? P n = some cs ∧ DataW.trod (fun _ => ()) P w 0 (fun _ => true) false fuel t cs.toList = some (d, p)
  | [], _, _, hm => by cases hm
  | (n', d') :: r, ps, h, hm => by
    obtain ⟨g, t, cs, fuel, p, q, h1, h2, h3, h4, h5, _⟩ := h
    rcases List.mem_cons.1 hm with e | e
    · cases e; exact ⟨g, t, cs, fuel, p, h1, h2, h3, h4⟩
    · exact laidVars_mem h5 e
/-- A LISTED VARIABLE's BLOCK. -/
theorem laid_block {laid : List (String × DataW Unit)} {n : String} {d : DataW Unit} {g : Nat} {t : TypeId} {l : List Value} (fuel : Nat) (hp : (laid.all fun x => x.2.handleName?.isNone) = true) (h : laidMetH P laid w) (hm : (n, d) ∈ laid)
    (hg : P.globalNamed n = some g) (ht : (P.globals[g]?).map (·.type) = some t) (hc : cellsD P fuel t d = some l) : ∃ e fz, w.heap[g]? = some (.cells ⟨l⟩ e fz) := by
  rw [Go.MakeChecks.laidMetH_plain _ _ _ hp] at h
  obtain ⟨ps, hv, _⟩ := h
  obtain ⟨g', t', cs, f, p, h1, h2, h3, h4⟩ := laidVars_mem hv hm
  obtain rfl := Option.some.inj (hg.symm.trans h1)
  obtain rfl := Option.some.inj (ht.symm.trans h2)
  have := trod_cells fuel h4 hc
  simp only [World.var?, hg, Option.bind_some] at h3
  split at h3
  · rename_i c e fz hb
    cases h3
    refine ⟨e, fz, ?_⟩
    rw [hb]
    cases cs; simp at this; subst this; rfl
  · cases h3
end Go.Ab
end
section
namespace Go.Ab
open Go Go.RowKit Go.ChangeShapes Go.WideShapes Go.ChangeAt
variable {H : Type} {enc : TypeId × Value → H}
def rowedB (P : Program) (ts : List TypeId) : Bool := ts.all fun t => P.readableRec t && decide (t < P.types.size)
theorem all_stays {P : Program} (hl : laidOutB P = true) {W W' : World} (hb : Below W.heap.size W W') : ∀ (ts : List TypeId) {vs : List Value} {ds : List (DataW H)} {ps : List MemPlace}, rowedB P ts = true →
    DataW.TrodAll enc P W 0 (fun _ => true) true ts vs ds ps → DataW.TrodAll enc P W' 0 (fun b => decide (b < W.heap.size)) true ts vs ds ps
  | [], vs, ds, ps, _, h => by
    obtain ⟨rfl, rfl, rfl⟩ := trodAll_nil h
    exact trodAll_mk0
  | t :: ts, vs, ds, ps, hr, h => by
    obtain ⟨v, vs', d, ds', p, q, rfl, rfl, rfl, h1, h2⟩ := trodAll_cons h
    simp only [rowedB, List.all_cons, Bool.and_eq_true, decide_eq_true_eq] at hr
    have lt0 : ∀ x ∈ p, x.block < W.heap.size := by obtain ⟨m, hm⟩ := h1; exact DataW.trod_lt m _ _ _ hm
    exact trodAll_cons_mk (Below.trod hl hr.1.1 hr.1.2 h1 hb lt0) (all_stays hl hb ts hr.2 h2)
theorem all_len {P : Program} {w : World} {base : Nat} {spare : Nat → Bool} {held : Bool} : ∀ (ts : List TypeId) {vs : List Value} {ds : List (DataW H)} {ps : List MemPlace},
    DataW.TrodAll enc P w base spare held ts vs ds ps → ds.length = ts.length
  | [], vs, ds, ps, h => by obtain ⟨rfl, rfl, rfl⟩ := trodAll_nil h; rfl
  | t :: ts, vs, ds, ps, h => by
    obtain ⟨v, vs', d, ds', p, q, rfl, rfl, rfl, h1, h2⟩ := trodAll_cons h
    simp [all_len ts h2]
theorem law_lifted {C : Checked} {os : Os} (started : os.Started) {f : FuncId} {fn : Func} {s : ChangeSpec} {laid : List (String × DataW Unit)} {tb : TypeId} {fresh handsOn : Bool}
    (own : ownKnob C.prog.godebug = none) (noInit : C.prog.inits.idxOf? f = none) (hfn : C.prog.funcs[f]? = some fn) (hlo : laidOutB C.prog = true) (hps : rowedB C.prog fn.params.toList = true)
    (hres : fn.resultTypes = #[tb]) (htb : C.prog.underlying tb = some .bool) (hvars : s.vars = [])
    (hspec : ∀ ds : List (DataW H), ds.length = fn.params.size → s.fn H ds = { results := [.lit (.bool true)], args := ds })
    (witness : ∃ (w : World) (tape : Tape) (i : Input), w.os = os ∧ (w.forCall tape i).Shaped C.prog ∧ i.vars = [] ∧ Input.okWide C.prog (w.forCall tape i) .any w.heap.size f i ∧
      ((s.pre enc C.prog fn [] false (w.forCall tape i).memory i.args ∧ laidMetH C.prog laid (w.forCall tape i).memory) ∧ sizedMet enc C.prog fn (OpenSpec.ofChange s) false (w.forCall tape i).memory i.args) ∧ ({} : Assume).holds C.prog (lone (Frame.enter C.prog f i.args .normal) [] (w.forCall tape i)))
    (walk : ∀ (W : World) (base : Nat) (args : List Value) (ds : List (DataW H)) (ps : List MemPlace), DataW.TrodAll enc C.prog W 0 (fun _ => true) true fn.params.toList args ds ps →
      (∀ (j : Nat) t v, fn.params[j]? = some t → args[j]? = some v → Value.okWide C.prog W .any base t v) → laidMetH C.prog laid W → Calls C.prog f ⟨args⟩ W fun e W' => e = .returned (.bool true) ∧ Below W.heap.size W W') :
    ReturnsInHanded {} C os f .any (fun w args => (s.pre enc C.prog fn [] false w args ∧ laidMetH C.prog laid w) ∧ sizedMet enc C.prog fn (OpenSpec.ofChange s) false w args) (s.post enc C.prog fn false fresh handsOn false) := by
  refine returnsInHanded_of_change_and (C := C) (X := fun w _ => laidMetH C.prog laid w) (fun _ _ _ hh h => h.of_heap hh) own started noInit hfn witness ?_
  intro W base args ds gs before hval hW _ _ hL _
  have hW' := hW
  obtain ⟨p, q, hA, hV, rfl, hfz, hnd⟩ := hW
  rw [hvars] at hV
  obtain ⟨rfl, rfl⟩ := trodVars_none hV
  have hsp := hspec ds (by rw [all_len _ hA]; simp)
  obtain ⟨args⟩ := args
  refine (walk W base args ds p hA (fun j t v h1 h2 => hval j t v h1 (by simpa using h2)) hL).mono fun e W' ⟨he, bel⟩ => ?_
  subst he
  refine ⟨_, rfl, ds, [], _, [], p, [], hW', ?_, ?_, ?_, bel.frame _, fun h => by cases h⟩
  · rw [List.append_nil, hsp, hres]
    exact trodAll_mk1 (shut_bool htb _)
  · rw [List.append_nil, hsp]
    exact all_stays hlo bel _ hps hA
  · rw [List.append_nil, hsp, hvars]
    rfl
theorem flat_int {k : IntKind} {ks : List (Option IntKind)} {l : List Value} (h : Flat (some k :: ks) l) : ∃ (n : Int) (l' : List Value), l = .int k n :: l' ∧ Flat ks l' := by
  cases l with
  | nil => exact h.elim
  | cons v l => obtain ⟨⟨n, rfl, _⟩, h⟩ := h; exact ⟨n, l, rfl, h⟩
theorem flat_intW {k : IntKind} {ks : List (Option IntKind)} {l : List Value} (h : Flat (some k :: ks) l) : ∃ (n : Int) (l' : List Value), l = .int k n :: l' ∧ (Lit.int k n).wf = true ∧ Flat ks l' := by
  cases l with
  | nil => exact h.elim
  | cons v l => obtain ⟨⟨n, rfl, hw⟩, h⟩ := h; exact ⟨n, l, rfl, hw, h⟩
theorem wf_i64 {n : Int} (h : (Lit.int .i64 n).wf = true) : -9223372036854775808 ≤ n ∧ n ≤ 9223372036854775807 := by
  simp [Lit.wf, IntKind.min, IntKind.max, IntKind.signed, IntKind.bits] at h
  omega
theorem flat_bool {ks : List (Option IntKind)} {l : List Value} (h : Flat (none :: ks) l) : ∃ (n : Bool) (l' : List Value), l = .bool n :: l' ∧ Flat ks l' := by
  cases l with
  | nil => exact h.elim
  | cons v l => obtain ⟨⟨n, rfl⟩, h⟩ := h; exact ⟨n, l, rfl, h⟩
theorem flat_nil {l : List Value} (h : Flat [] l) : l = [] := by
  cases l with
  | nil => rfl
  | cons v l => exact h.elim
theorem open_rowF {P : Program} {W : World} {base : Nat} {t e : TypeId} {v : Value} {d : DataW H} {p : List MemPlace} {n : Nat} {ks : List (Option IntKind)} (ht : P.underlying t = some (.slice e)) (he : flatT P n e = some ks) (hc : P.cellsOf e = ks.length) (h0 : 0 < ks.length)
    (hok : Value.okWide P W .any base t v) (h : DataW.Trod enc P W 0 (fun _ => true) true t v d p) : ∃ a len cap, v = .slice a len cap ∧ FlatRow ks W a len cap := by
  obtain ⟨a, len, cap, rfl⟩ := okWide_slice ht hok
  obtain ⟨fuel, hf⟩ := h
  obtain ⟨a', len', cap', hcs, hr⟩ := open_flat ht he hc h0 hf
  simp [Value.cells] at hcs
  obtain ⟨rfl, rfl, rfl⟩ := hcs
  exact ⟨_, _, _, rfl, hr⟩
theorem open_structF {P : Program} {W : World} {base : Nat} {t : TypeId} {fs : Array Field} {v : Value} {d : DataW H} {p : List MemPlace} {n : Nat} {ks : List (Option IntKind)} (ht : P.underlying t = some (.struct fs)) (he : flatT P n t = some ks)
    (hok : Value.okWide P W .any base t v) (h : DataW.Trod enc P W 0 (fun _ => true) true t v d p) : ∃ l, v = .agg ⟨l⟩ ∧ Flat ks l := by
  simp only [Value.okWide, ht] at hok
  obtain ⟨cs, rfl, _, _⟩ := hok
  obtain ⟨fuel, hf⟩ := h
  obtain ⟨l⟩ := cs
  exact ⟨l, rfl, trod_flat n he hf⟩
theorem open_arrayF {P : Program} {W : World} {base : Nat} {t e : TypeId} {m : Nat} {v : Value} {d : DataW H} {p : List MemPlace} {n : Nat} {ks : List (Option IntKind)} (ht : P.underlying t = some (.array m e)) (he : flatT P n t = some ks)
    (hok : Value.okWide P W .any base t v) (h : DataW.Trod enc P W 0 (fun _ => true) true t v d p) : ∃ l, v = .agg ⟨l⟩ ∧ Flat ks l := by
  simp only [Value.okWide, ht] at hok
  obtain ⟨cs, rfl, _, _⟩ := hok
  obtain ⟨fuel, hf⟩ := h
  obtain ⟨l⟩ := cs
  exact ⟨l, rfl, trod_flat n he hf⟩
end Go.Ab
end
section
namespace Go.Ab
open Go Go.RowKit Go.ChangeShapes Go.WideShapes Go.ChangeAt
variable {H : Type} {enc : TypeId × Value → H}
theorem open_agg {P : Program} {W : World} {base : Nat} {t : TypeId} {fs : Array Field} {v : Value} (ht : P.underlying t = some (.struct fs)) (hok : Value.okWide P W .any base t v) : ∃ l, v = .agg ⟨l⟩ ∧ l.length = P.cellsOf t := by
  simp only [Value.okWide, ht] at hok
  obtain ⟨⟨l⟩, rfl, h, _⟩ := hok
  exact ⟨l, rfl, h⟩
theorem open_fieldRow {P : Program} {W : World} {t e : TypeId} {fs : Array Field} {i : Nat} {f : Field} {l : List Value} {d : DataW H} {p : List MemPlace} {n : Nat} {ks : List (Option IntKind)} (ht : P.underlying t = some (.struct fs)) (hf : fs[i]? = some f)
    (hu : P.underlying f.type = some (.slice e)) (h1 : P.cellsOf f.type = 1) (he : flatT P n e = some ks) (hc : P.cellsOf e = ks.length) (h0 : 0 < ks.length)
    (h : DataW.Trod enc P W 0 (fun _ => true) true t (.agg ⟨l⟩) d p) : ∃ a len cap, l[f.offset]? = some (.slice a len cap) ∧ FlatRow ks W a len cap := by
  obtain ⟨fuel, hfu⟩ := h
  obtain ⟨xs, m, _, _, hl, hx, hall⟩ := DataW.trod_struct ht hfu
  have hi := hall i f hf
  have hi2 : i < xs.length := by rw [hx]; exact (Array.getElem?_eq_some_iff.1 hf).1
  rw [List.getElem?_eq_getElem hi2] at hi
  obtain ⟨a, len, cap, hcs, hr⟩ := open_flat hu he hc h0 hi
  refine ⟨a, len, cap, ?_, hr⟩
  rw [h1] at hcs
  have e1 : (Value.cells (.agg ⟨l⟩)).toList = l := by simp [Value.cells]
  have := congrArg (fun z => z[0]?) hcs
  simpa [Value.cells] using this
end Go.Ab
end
section
namespace Go.Ab
open Go Go.RowKit Go.ChangeShapes Go.WideShapes Go.ChangeAt
theorem enc_lens {α : Type} {f : α → List Value} {W : Nat} (hf : ∀ x, (f x).length = W) (l : List α) : ∀ x ∈ l.map f, x.length = W := by
  intro x hx
  obtain ⟨y, _, rfl⟩ := List.mem_map.1 hx
  exact hf y
theorem rd_of_oldR {α : Type} {f : α → List Value} {R : α → Prop} {W n : Nat} {at' : Nat → List Value} (hex : ∀ i, i < n → ∃ x, at' i = f x ∧ R x) :
    ∃ l : List α, l.length = n ∧ (∀ x ∈ l, R x) ∧ ∀ (G : Bg) (v : Value), OldS G W v n at' → OldS G W v (l.map f).length (fun i => (l.map f).getD i []) := by
  let l : List α := (List.finRange n).map fun i => (hex i.1 i.2).choose
  have hl : l.length = n := by simp [l]
  have hg : ∀ i, (hi : i < n) → l[i]? = some (hex i hi).choose := fun i hi => by
    simp [l, List.getElem?_map, List.getElem?_eq_getElem (show i < (List.finRange n).length by simp; exact hi)]
  refine ⟨l, hl, fun x hx => ?_, fun G v ho => ?_⟩
  · obtain ⟨i, _, rfl⟩ := List.mem_map.1 hx
    exact (hex i.1 i.2).choose_spec.2
  · obtain ⟨a, c, rfl, hall⟩ := ho
    rw [List.length_map, hl]
    refine ⟨a, c, rfl, fun i hi => ?_⟩
    obtain ⟨b, o, cells, h1, h2, h3, h4⟩ := hall i hi
    refine ⟨b, o, cells, h1, h2, ?_, h4⟩
    rw [h3, (hex i hi).choose_spec.1]
    show f _ = (l.map f).getD i []
    rw [List.getD_eq_getElem?_getD, List.getElem?_map, hg i hi]
    rfl
theorem trod_ifc {H : Type} {enc : TypeId × Value → H} {P : Program} {w : World} {base fuel : Nat} {spare : Nat → Bool} {held : Bool} {t : TypeId} {ms : Array (String × TypeId)} {cs : List Value} {x : DataW H × List MemPlace} (ht : P.underlying t = some (.interface ms))
    (h : DataW.trod enc P w base spare held fuel t cs = some x) : ∃ ev, cs = [ev] ∧ (ev = .nilIface ∨ ∃ te pe, ev = .iface te pe) := by
  cases fuel with
  | zero => simp [DataW.trod] at h
  | succ n =>
    unfold DataW.trod at h
    rw [ht] at h
    match cs, h with
    | [], h => simp at h
    | [v], h =>
      refine ⟨v, rfl, ?_⟩
      cases v <;> simp at h
      · exact .inr ⟨_, _, rfl⟩
      · exact .inl rfl
    | _ :: _ :: _, h => simp at h
theorem laid_iface {P : Program} {w : World} {laid : List (String × DataW Unit)} {n : String} {d : DataW Unit} {g : Nat} {t : TypeId} {ms : Array (String × TypeId)} (hp : (laid.all fun x => x.2.handleName?.isNone) = true) (h : laidMetH P laid w) (hm : (n, d) ∈ laid)
    (hg : P.globalNamed n = some g) (ht : (P.globals[g]?).map (·.type) = some t) (hu : P.underlying t = some (.interface ms)) : ∃ ev e fz, w.heap[g]? = some (.cells ⟨[ev]⟩ e fz) ∧ (ev = .nilIface ∨ ∃ te pe, ev = .iface te pe) := by
  rw [Go.MakeChecks.laidMetH_plain _ _ _ hp] at h
  obtain ⟨ps, hv, _⟩ := h
  obtain ⟨g', t', cs, f, p, h1, h2, h3, h4⟩ := laidVars_mem hv hm
  obtain rfl := Option.some.inj (hg.symm.trans h1)
  obtain rfl := Option.some.inj (ht.symm.trans h2)
  obtain ⟨ev, he, hev⟩ := trod_ifc hu h4
  simp only [World.var?, hg, Option.bind_some] at h3
  split at h3
  · rename_i c e fz hb
    cases h3
    refine ⟨ev, e, fz, ?_, hev⟩
    rw [hb]
    cases cs; simp at he; subst he; rfl
  · cases h3
/-- what a slice that came with the arguments looks like -/
def SlOk (G : Bg) (v : Value) (n : Nat) : Prop := (v = .slice none 0 0 ∧ n = 0) ∨ (v = .slice (some ⟨0, 0, some 0⟩) 0 0 ∧ n = 0) ∨
  ∃ k o c cells e fz, v = .slice (some ⟨k, o, none⟩) n c ∧ 0 < n ∧ n ≤ c ∧ k < G.base ∧ G.old k = some (.cells cells e fz false)
theorem row_old2 {w : World} (P : Program) {ks : List (Option IntKind)} {a : Option Addr} {len cap : Nat} (h : FlatRow ks w a len cap) : ∃ (r : OB) (t : Nat → Value), OBok P w r ∧
    (∀ ρ k, ρ k = r.2 → VRel ρ (t k) (.slice a len cap)) ∧ ∃ at' : Nat → List Value, (∀ i, i < len → Flat ks (at' i)) ∧ ∀ (G : Bg) k, k < G.base → G.old k = r.1 → OldS G ks.length (t k) len at' ∧ SlOk G (t k) len := by
  rcases h with ⟨rfl, rfl, rfl⟩ | ⟨x, rfl, rfl⟩ | ⟨x, cc, e, fz, rfl, h0, hs, hl, hb, hsz, hf⟩
  · refine ⟨(none, none), fun _ => .slice none 0 0, ⟨fun o h => by (cases h), fun b s h => by cases h⟩, fun ρ k _ => by simp only [VRel], fun _ => [], fun i hi => by omega, fun G k _ _ => ⟨⟨none, 0, rfl, fun i hi => by omega⟩, .inl ⟨rfl, rfl⟩⟩⟩
  · refine ⟨(none, none), fun _ => .slice (some ⟨0, 0, some 0⟩) 0 0, ⟨fun o h => by (cases h), fun b s h => by cases h⟩, fun ρ k _ => ?_, fun _ => [], fun i hi => by omega, fun G k _ _ => ⟨⟨some ⟨0, 0, some 0⟩, 0, rfl, fun i hi => by omega⟩, .inr (.inl ⟨rfl, rfl⟩)⟩⟩
    simp only [VRel]
    exact ⟨trivial, trivial, x, cap, fun h => by omega, fun h => by omega, rfl⟩
  · refine ⟨(some (.cells (cc.toList.map san) e fz false), some (x.block, (0, 0))), fun k => .slice (some ⟨k, x.off, none⟩) len cap, ⟨fun o h b s hr => ?_, fun b s hr => ?_⟩, fun ρ k hr => ?_, fun i => (cc.toList.drop (x.off + i * ks.length)).take ks.length, hf, fun G k hk hg => ?_⟩
    · cases h; cases hr
      refine ⟨_, hb, fun ρ => ⟨cc, rfl, ?_, by simp, fun h => by cases h⟩⟩
      rw [List.length_map, List.drop_zero, List.take_of_length_le (by simp)]
      exact san_rel _
    · cases hr
      exact (Array.getElem?_eq_some_iff.1 hb).1
    · simp only [VRel]
      exact ⟨x.block, (0, 0), cap, hr, Nat.le_refl _, by simp, by cases x; simp at hs; subst hs; rfl⟩
    · refine ⟨⟨_, _, rfl, fun i hi => ⟨k, x.off, _, rfl, ⟨hk, e, fz, false, hg⟩, ?_, ?_⟩⟩, .inr (.inr ⟨k, x.off, cap, _, e, fz, rfl, h0, hl, hk, hg⟩)⟩
      · rw [← List.map_drop, ← List.map_take]
        exact san_flat (hf i hi)
      · rw [List.length_map]
        have : i * ks.length ≤ len * ks.length := Nat.mul_le_mul_right _ (by omega)
        simp; omega
variable {G : Bg} {h : AH} {L : List HP}
theorem bnd_I {n d m : Nat} (h : n ≤ m) : bnd (some (I n)) d m = some n := by
  unfold bnd
  simp; omega
theorem bnd_0 {d m : Nat} : bnd none d m = some d := rfl
theorem r_slTo {W n N : Nat} {v : Value} {at' : Nat → List Value} {k : Value → Prop} (ho : OldS G W v N at') (hv : SlOk G v N) (hn : n ≤ N) (hk : ∀ v', OldS G W v' n at' → k v') : thn (slS W h v none (some (I n)) none) k := by
  rcases hv with ⟨rfl, rfl⟩ | ⟨rfl, rfl⟩ | ⟨b, o, c, cells, e, fz, rfl, h0, hc, hb, hg⟩
  · obtain rfl : n = 0 := by omega
    exact ⟨_, rfl, hk _ ⟨none, 0, rfl, fun i hi => by omega⟩⟩
  · obtain rfl : n = 0 := by omega
    exact ⟨_, rfl, hk _ ⟨some ⟨0, 0, some 0⟩, 0, rfl, fun i hi => by omega⟩⟩
  · refine ⟨.slice (some ⟨b, o, none⟩) n c, ?_, hk _ ⟨_, _, rfl, fun i hi => ?_⟩⟩
    · unfold slS
      simp only [bnd_0, Option.isNone_some, Bool.false_and, Bool.false_eq_true, if_false]
      rw [bnd_I (by omega)]
      simp only [bnd_0, Option.isSome_none, Bool.false_eq_true, if_false]
      rw [if_pos (by omega), if_neg (by omega)]
      simp [Addr.add]
    · obtain ⟨a, c', he, hall⟩ := ho
      cases he
      exact hall i (by omega)
theorem r_slFrom {W n N : Nat} {v : Value} {at' : Nat → List Value} {k : Value → Prop} (hs : Hs G h L) (ho : OldS G W v N at') (hv : SlOk G v N) (hn : n ≤ N) (hk : ∀ v', OldS G W v' (N - n) (fun i => at' (i + n)) → k v') : thn (slS W h v (some (I n)) none none) k := by
  rcases hv with ⟨rfl, rfl⟩ | ⟨rfl, rfl⟩ | ⟨b, o, c, cells, e, fz, rfl, h0, hc, hb, hg⟩
  · obtain rfl : n = 0 := by omega
    exact ⟨_, rfl, hk _ ⟨none, 0, rfl, fun i hi => by omega⟩⟩
  · obtain rfl : n = 0 := by omega
    exact ⟨_, rfl, hk _ ⟨some ⟨0, 0, some 0⟩, 0, rfl, fun i hi => by omega⟩⟩
  · have hx : exactAt h b = some false := by
      unfold exactAt
      rw [hs.oldGet hb, hg]
    by_cases hcn : c = n
    · subst hcn
      obtain rfl : N = c := by omega
      refine ⟨dangling ((⟨b, o, none⟩ : Addr).add (N * W)), ?_, hk _ ⟨some ⟨b, o + N * W, some 2⟩, 0, ?_, fun i hi => by omega⟩⟩
      · unfold slS
        simp only [bnd_0, Option.isNone_none, Option.isSome_none, Bool.and_false, Bool.false_eq_true, if_false]
        rw [bnd_I (by omega)]
        simp only
        rw [if_pos (by omega), if_pos trivial, hx]
      · rw [add_none, Nat.sub_self]; rfl
    · refine ⟨.slice (some ⟨b, o + n * W, none⟩) (N - n) (c - n), ?_, hk _ ⟨_, _, rfl, fun i hi => ?_⟩⟩
      · unfold slS
        simp only [bnd_0, Option.isNone_none, Option.isSome_none, Bool.and_false, Bool.false_eq_true, if_false]
        rw [bnd_I (by omega)]
        simp only
        rw [if_pos (by omega), if_neg hcn]
        simp [Addr.add]
      · obtain ⟨a, c', he, hall⟩ := ho
        cases he
        obtain ⟨b', o', cells', h1, h2, h3, h4⟩ := hall (i + n) (by omega)
        cases h1
        refine ⟨b, o + n * W, cells', rfl, h2, ?_, ?_⟩
        · show _ = at' (i + n)
          rw [← h3, Nat.add_mul]
          congr 2
          omega
        · rw [Nat.add_mul] at h4
          omega
end Go.Ab
end
section
namespace Go.Ab
open Go Go.RowKit Go.ChangeShapes Go.WideShapes Go.ChangeAt
variable {P : Program} {H : Type} {enc : TypeId × Value → H} {w : World} {base : Nat} {spare : Nat → Bool} {held : Bool}
theorem top_rel {ρ : Rho} {v : Value} : VRel ρ top v := by simp [top, VRel]
theorem lrel_of {ρ : Rho} : ∀ {l l' : List Value}, l.length = l'.length → (∀ (j : Nat) (u v : Value), l[j]? = some u → l'[j]? = some v → VRel ρ u v) → LRel ρ l l'
  | [], [], _, _ => LRel.nil
  | u :: l, v :: l', h, k => LRel.cons (k 0 u v rfl rfl) (lrel_of (by simpa using h) fun j a b ha hb => k (j + 1) a b (by simpa using ha) (by simpa using hb))
  | [], _ :: _, h, _ => by simp at h
  | _ :: _, [], h, _ => by simp at h
/-- what is read of an old block, by these numbers of blocks -/
def OBat (P : Program) (w : World) (ρ : Rho) (r : OB) : Prop :=
  (∀ o, r.1 = some o → ∀ b s, r.2 = some (b, s) → ∃ o', w.heap[b]? = some o' ∧ BRel P ρ s o o') ∧ (∀ b s, r.2 = some (b, s) → b < w.heap.size)
theorem OBok.at' {r : OB} (h : OBok P w r) (ρ : Rho) : OBat P w ρ r := ⟨fun o ho b s hb => let ⟨o', h1, h2⟩ := h.1 o ho b s hb; ⟨o', h1, h2 ρ⟩, h.2⟩
theorem reads_of2 {g : Nat} {gl : Nat → Option Blk} {rs : List OB} (hg : P.globals.size ≤ g) (hsz : g ≤ w.heap.size) (hgl : GlOk P g gl w) (hr : ∀ r ∈ rs, OBat P w (rhoOf g rs) r) : Reads P (g + rs.length) (oldOf g gl rs) (rhoOf g rs) w where
  blk := fun i o hi ho b s hb => by
    have hb0 := hb
    unfold oldOf at ho; unfold rhoOf at hb
    split at ho
    · rename_i h
      rw [if_pos h] at hb
      cases hb
      obtain ⟨o', h1, h2⟩ := hgl i o h ho
      exact ⟨o', h1, h2 _⟩
    · rename_i h
      rw [if_neg h] at hb
      rw [List.getElem?_eq_getElem (by omega)] at ho hb
      exact (hr _ (List.getElem_mem (by omega))).1 o ho b s hb
  low := fun i b s hi hb => by
    unfold rhoOf at hb
    split at hb
    · cases hb; omega
    · rw [List.getElem?_eq_getElem (by omega)] at hb
      exact (hr _ (List.getElem_mem (by omega))).2 b s hb
  none := fun i hi => by unfold rhoOf; rw [if_neg (by omega), List.getElem?_eq_none (by omega)]; rfl
  glob := fun i hi => by unfold rhoOf; rw [if_pos (by omega)]
/-- a slice whose parts are slices of flat things -/
def NestRow (ks : List (Option IntKind)) (w : World) (a : Option Addr) (len cap : Nat) : Prop :=
  (a = none ∧ len = 0 ∧ cap = 0) ∨ (∃ x, a = some x ∧ len = 0) ∨
  ∃ x cc e fz, a = some x ∧ 0 < len ∧ x.spot = none ∧ len ≤ cap ∧ w.heap[x.block]? = some (.cells cc e fz) ∧ x.off + len ≤ cc.size ∧
    ∀ i, i < len → ∃ a' l' c', cc.toList[x.off + i]? = some (.slice a' l' c') ∧ FlatRow ks w a' l' c'
theorem open_nest {t e e2 : TypeId} {n fuel : Nat} {ks : List (Option IntKind)} {cs : List Value} {x : DataW H × List MemPlace} (ht : P.underlying t = some (.slice e)) (he : P.underlying e = some (.slice e2)) (hf : flatT P n e2 = some ks) (hc2 : P.cellsOf e2 = ks.length) (hc : P.cellsOf e = 1) (h0 : 0 < ks.length)
    (h : DataW.trod enc P w base spare held fuel t cs = some x) : ∃ a len cap, cs = [.slice a len cap] ∧ len ≤ maxLen ∧ NestRow ks w a len cap := by
  rcases DataW.trod_slice ht h with ⟨rfl, _⟩ | ⟨a, len, cap, elems, rest, m, _, rfl, _, hb, hl, hm, hlen, hel, _, _⟩
  · exact ⟨none, 0, 0, rfl, Nat.zero_le _, .inl ⟨rfl, rfl, rfl⟩⟩
  refine ⟨some a, len, cap, rfl, by omega, ?_⟩
  rcases Nat.eq_zero_or_pos len with hz | hz
  · exact .inr (.inl ⟨a, rfl, hz⟩)
  refine .inr (.inr ?_)
  have each : ∀ i, i < len → ∃ a' l' c', w.cell? (a.add i) = some (.slice a' l' c') ∧ FlatRow ks w a' l' c' := by
    intro i hi
    have h1 := hel i hi
    rw [List.getElem?_eq_getElem (by omega), hc, Option.bind_eq_some_iff] at h1
    obtain ⟨c, hcs, hy⟩ := h1
    obtain ⟨a', l', c', hce, hr⟩ := open_flat he hf hc2 h0 hy
    subst hce
    refine ⟨a', l', c', ?_, hr⟩
    unfold World.cells? at hcs
    split at hcs
    · have := mapM_some_get hcs 0 0 (by simp)
      rw [Nat.mul_one] at this
      have e0 : (a.add i).add 0 = a.add i := rfl
      rw [e0] at this
      simpa using this
    · cases hcs
  obtain ⟨a0, l0, c0, h00, hr0⟩ := each 0 hz
  obtain ⟨cc, e', fz, hb, hs⟩ : ∃ cc e fz, w.heap[a.block]? = some (.cells cc e fz) ∧ a.spot = none := by
    have hx0 : a.add 0 = a := rfl
    rw [hx0] at h00
    unfold World.cell? at h00
    split at h00
    · rename_i c e fz hb
      split at h00
      · cases h00
      · rename_i hs
        exact ⟨c, e, fz, hb, by simpa using hs⟩
    · cases h00
  have hcell : ∀ o, w.cell? ⟨a.block, o, none⟩ = cc[o]? := by
    intro o
    unfold World.cell?
    rw [hb]
    simp
  have hat : ∀ i, i < len → ∃ a' l' c', cc.toList[a.off + i]? = some (.slice a' l' c') ∧ FlatRow ks w a' l' c' := by
    intro i hi
    obtain ⟨a', l', c', h1, h2⟩ := each i hi
    rw [add_at hs, hcell] at h1
    exact ⟨a', l', c', by rw [Array.getElem?_toList]; exact h1, h2⟩
  refine ⟨a, cc, e', fz, rfl, hz, hs, hl, hb, ?_, hat⟩
  obtain ⟨a', l', c', h1, _⟩ := hat (len - 1) (by omega)
  have := (List.getElem?_eq_some_iff.1 h1).1
  simp at this
  omega
theorem open_fieldFlat {W : World} {t : TypeId} {fs : Array Field} {i : Nat} {f : Field} {l : List Value} {d : DataW H} {p : List MemPlace} {n : Nat} {ks : List (Option IntKind)} (ht : P.underlying t = some (.struct fs)) (hf : fs[i]? = some f) (he : flatT P n f.type = some ks)
    (h : DataW.Trod enc P W 0 (fun _ => true) true t (.agg ⟨l⟩) d p) : Flat ks ((l.drop f.offset).take (P.cellsOf f.type)) := by
  obtain ⟨fuel, hfu⟩ := h
  obtain ⟨xs, m, _, _, hl, hx, hall⟩ := DataW.trod_struct ht hfu
  have hi := hall i f hf
  have hi2 : i < xs.length := by rw [hx]; exact (Array.getElem?_eq_some_iff.1 hf).1
  rw [List.getElem?_eq_getElem hi2] at hi
  have := trod_flat n he hi
  simpa [Value.cells] using this
theorem open_fieldNest {W : World} {t e e2 : TypeId} {fs : Array Field} {i : Nat} {f : Field} {l : List Value} {d : DataW H} {p : List MemPlace} {n : Nat} {ks : List (Option IntKind)} (ht : P.underlying t = some (.struct fs)) (hf : fs[i]? = some f)
    (hu : P.underlying f.type = some (.slice e)) (hu2 : P.underlying e = some (.slice e2)) (h1 : P.cellsOf f.type = 1) (h2 : P.cellsOf e = 1) (he : flatT P n e2 = some ks) (hc : P.cellsOf e2 = ks.length) (h0 : 0 < ks.length)
    (h : DataW.Trod enc P W 0 (fun _ => true) true t (.agg ⟨l⟩) d p) : ∃ a len cap, l[f.offset]? = some (.slice a len cap) ∧ len ≤ maxLen ∧ NestRow ks W a len cap := by
  obtain ⟨fuel, hfu⟩ := h
  obtain ⟨xs, m, _, _, hl, hx, hall⟩ := DataW.trod_struct ht hfu
  have hi := hall i f hf
  have hi2 : i < xs.length := by rw [hx]; exact (Array.getElem?_eq_some_iff.1 hf).1
  rw [List.getElem?_eq_getElem hi2] at hi
  obtain ⟨a, len, cap, hcs, hm, hr⟩ := open_nest hu hu2 he hc h2 h0 hi
  refine ⟨a, len, cap, ?_, hm, hr⟩
  rw [h1] at hcs
  have e1 : (Value.cells (.agg ⟨l⟩)).toList = l := by simp [Value.cells]
  have := congrArg (fun z => z[0]?) hcs
  simpa [Value.cells] using this
/-- the parts of a slice of slices, as old blocks of their own, from the number 'k0' on -/
structure Nest (P : Program) (w : World) (ks : List (Option IntKind)) (k0 : Nat) (a : Option Addr) (len cap : Nat) (r : OB) (rs : List OB) (t : Nat → Value) (vs : List Value) (ns : List Nat) (at' : Nat → Nat → List Value) : Prop where
  ok : ∀ x ∈ rs, OBok P w x
  out : ∀ ρ : Rho, (∀ i x, rs[i]? = some x → ρ (k0 + i) = x.2) → OBat P w ρ r
  rel : ∀ ρ k, ρ k = r.2 → VRel ρ (t k) (.slice a len cap)
  lvs : vs.length = len
  lns : ns.length = len
  flat : ∀ i n, ns[i]? = some n → ∀ j, j < n → Flat ks (at' i j)
  old : ∀ (G : Bg) k, k < G.base → G.old k = r.1 → (∀ i x, rs[i]? = some x → k0 + i < G.base ∧ G.old (k0 + i) = x.1) →
    OldS G 1 (t k) len (fun i => [vs.getD i undef]) ∧ SlOk G (t k) len ∧ ∀ i v n, vs[i]? = some v → ns[i]? = some n → OldS G ks.length v n (at' i) ∧ SlOk G v n
theorem nest_old (P : Program) {ks : List (Option IntKind)} {a : Option Addr} {len cap : Nat} (k0 : Nat) (h : NestRow ks w a len cap) : ∃ r rs t vs ns at', Nest P w ks k0 a len cap r rs t vs ns at' := by
  rcases h with ⟨rfl, rfl, rfl⟩ | ⟨x, rfl, rfl⟩ | ⟨x, cc, e, fz, rfl, h0, hs, hl, hb, hsz, hf⟩
  · exact ⟨(none, none), [], fun _ => .slice none 0 0, [], [], fun _ _ => [], ⟨fun x hx => (by cases hx), fun ρ _ => ⟨fun o h => (by cases h), fun b s h => (by cases h)⟩, fun ρ k _ => (by simp only [VRel]), rfl, rfl, fun i n hn => (by simp at hn), fun G k _ _ _ => ⟨⟨none, 0, rfl, fun i hi => (by omega)⟩, .inl ⟨rfl, rfl⟩, fun i v n hv => (by simp at hv)⟩⟩⟩
  · refine ⟨(none, none), [], fun _ => .slice (some ⟨0, 0, some 0⟩) 0 0, [], [], fun _ _ => [], ⟨fun x hx => (by cases hx), fun ρ _ => ⟨fun o h => (by cases h), fun b s h => (by cases h)⟩, fun ρ k _ => ?_, rfl, rfl, fun i n hn => (by simp at hn), fun G k _ _ _ => ⟨⟨some ⟨0, 0, some 0⟩, 0, rfl, fun i hi => (by omega)⟩, .inr (.inl ⟨rfl, rfl⟩), fun i v n hv => (by simp at hv)⟩⟩⟩
    simp only [VRel]
    exact ⟨trivial, trivial, x, cap, fun h => by omega, fun h => by omega, rfl⟩
  · -- each part's own old block
    have hch : ∀ i, ∃ (y : OB × (Nat → Value) × (Nat → List Value) × Nat × Value), i < len → cc.toList[x.off + i]? = some y.2.2.2.2 ∧ OBok P w y.1 ∧ (∀ ρ k, ρ k = y.1.2 → VRel ρ (y.2.1 k) y.2.2.2.2) ∧ (∀ j, j < y.2.2.2.1 → Flat ks (y.2.2.1 j)) ∧
        ∀ (G : Bg) k, k < G.base → G.old k = y.1.1 → OldS G ks.length (y.2.1 k) y.2.2.2.1 y.2.2.1 ∧ SlOk G (y.2.1 k) y.2.2.2.1 := by
      intro i
      by_cases hi : i < len
      · obtain ⟨a', l', c', h1, h2⟩ := hf i hi
        obtain ⟨r, t, h3, h4, at', h5, h6⟩ := row_old2 P h2
        exact ⟨(r, t, at', l', .slice a' l' c'), fun _ => ⟨h1, h3, h4, h5, h6⟩⟩
      · exact ⟨((none, none), fun _ => undef, fun _ => [], 0, undef), fun h => absurd h hi⟩
    obtain ⟨Y, hY⟩ : ∃ Y : Nat → OB × (Nat → Value) × (Nat → List Value) × Nat × Value, ∀ i, i < len → cc.toList[x.off + i]? = some (Y i).2.2.2.2 ∧ OBok P w (Y i).1 ∧ (∀ ρ k, ρ k = (Y i).1.2 → VRel ρ ((Y i).2.1 k) (Y i).2.2.2.2) ∧ (∀ j, j < (Y i).2.2.2.1 → Flat ks ((Y i).2.2.1 j)) ∧
        ∀ (G : Bg) k, k < G.base → G.old k = (Y i).1.1 → OldS G ks.length ((Y i).2.1 k) (Y i).2.2.2.1 (Y i).2.2.1 ∧ SlOk G ((Y i).2.1 k) (Y i).2.2.2.1 :=
      ⟨fun i => (hch i).choose, fun i hi => (hch i).choose_spec hi⟩
    have hrs : ∀ {α : Type} (g : Nat → α) (i : Nat) (z : α), ((List.range len).map g)[i]? = some z → i < len ∧ z = g i := by
      intro α g i z hz
      have hi : i < len := by have := (List.getElem?_eq_some_iff.1 hz).1; simpa using this
      rw [List.getElem?_map, List.getElem?_range hi] at hz
      simp only [Option.map_some, Option.some.injEq] at hz
      exact ⟨hi, hz.symm⟩
    refine ⟨(some (.cells ((List.range cc.size).map fun j => if x.off ≤ j ∧ j < x.off + len then (Y (j - x.off)).2.1 (k0 + (j - x.off)) else top) e fz false), some (x.block, (0, 0))), (List.range len).map fun i => (Y i).1, fun k => .slice (some ⟨k, x.off, none⟩) len cap,
      (List.range len).map fun i => (Y i).2.1 (k0 + i), (List.range len).map fun i => (Y i).2.2.2.1, fun i => (Y i).2.2.1, ⟨?_, ?_, ?_, by simp, by simp, ?_, ?_⟩⟩
    · intro y hy
      obtain ⟨i, hi, rfl⟩ := List.mem_map.1 hy
      exact (hY i (List.mem_range.1 hi)).2.1
    · intro ρ hρ
      refine ⟨fun o ho b s hr => ?_, fun b s hr => ?_⟩
      · cases ho; cases hr
        refine ⟨_, hb, cc, rfl, ?_, by simp, fun h => by cases h⟩
        rw [List.drop_zero, List.take_of_length_le (by simp)]
        refine lrel_of (by simp) fun j u v hu hv => ?_
        rw [List.getElem?_map] at hu
        have hj : j < cc.size := by have := (List.getElem?_eq_some_iff.1 hv).1; simpa using this
        rw [List.getElem?_range hj] at hu
        simp only [Option.map_some, Option.some.injEq] at hu
        subst hu
        split
        · rename_i hc
          obtain ⟨h1, _, h3, _, _⟩ := hY (j - x.off) (by omega)
          rw [show x.off + (j - x.off) = j by omega, hv] at h1
          simp only [Option.some.injEq] at h1
          rw [h1]
          refine h3 ρ _ (hρ (j - x.off) _ ?_)
          rw [List.getElem?_map, List.getElem?_range (by omega)]; rfl
        · exact top_rel
      · cases hr
        exact (Array.getElem?_eq_some_iff.1 hb).1
    · intro ρ k hr
      simp only [VRel]
      exact ⟨x.block, (0, 0), cap, hr, Nat.le_refl _, by simp, by cases x; simp at hs; subst hs; rfl⟩
    · intro i n hn j hj
      obtain ⟨hi, rfl⟩ := hrs _ i n hn
      exact (hY i hi).2.2.2.1 j hj
    · intro G k hk hg hall
      refine ⟨⟨_, _, rfl, fun i hi => ⟨k, x.off, _, rfl, ⟨hk, e, fz, false, hg⟩, ?_, by simp; omega⟩⟩, .inr (.inr ⟨k, x.off, cap, _, e, fz, rfl, h0, hl, hk, hg⟩), fun i v n hv hn => ?_⟩
      · have hsz' : x.off + i * 1 < cc.size := by omega
        have hli : x.off + i * 1 < ((List.range cc.size).map fun j => if x.off ≤ j ∧ j < x.off + len then (Y (j - x.off)).2.1 (k0 + (j - x.off)) else top).length := by simp; omega
        rw [List.drop_eq_getElem_cons hli, List.take_succ_cons, List.take_zero]
        have e1 : ((List.range len).map fun i => (Y i).2.1 (k0 + i)).getD i undef = (Y i).2.1 (k0 + i) := by
          rw [List.getD_eq_getElem?_getD, List.getElem?_map, List.getElem?_range hi]; rfl
        show [_] = [((List.range len).map fun i => (Y i).2.1 (k0 + i)).getD i undef]
        rw [e1]
        simp only [List.getElem_map, List.getElem_range]
        rw [if_pos (by omega), show x.off + i * 1 - x.off = i by omega]
      · obtain ⟨hi, rfl⟩ := hrs _ i v hv
        obtain ⟨_, rfl⟩ := hrs _ i n hn
        obtain ⟨h1, h2⟩ := hall i (Y i).1 (by rw [List.getElem?_map, List.getElem?_range hi]; rfl)
        exact (hY i hi).2.2.2.2 G (k0 + i) h1 h2
end Go.Ab
end
