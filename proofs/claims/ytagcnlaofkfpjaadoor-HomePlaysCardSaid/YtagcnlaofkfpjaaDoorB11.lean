/- Separate parts of an abstract heap: slices that are read alone, old ones or own ones. -/
import Derived.Test.YtagcnlaofkfpjaaDoorB9
import Derived.LaidLaws
import Derived.MakeChecks
import Derived.WalkKit
import Derived.ProofKit
import Derived.ChangeOld
import Derived.ChangeSame
import Derived.ChangeVars
import Derived.JoinedOf
import Derived.Carry
import Derived.LaidHandle
import Derived.Stop.Joined
import Derived.Test.YtagcnlaofkfpjaaDoorB4
section
namespace Go.Ab
open Go Go.RowKit
variable {P : Program} {H : Type}
def partsD (f : DataW H → Option (List Value)) (w : Nat) : List (DataW H) → Option (List Value)
  | [] => some []
  | d :: ds => match f d with
    | some c => if c.length = w then (partsD f w ds).map (c ++ ·) else none
    | none => none
def fieldsD (f : TypeId → DataW H → Option (List Value)) (w : TypeId → Nat) : List Field → List (DataW H) → Nat → Option (List Value)
  | [], [], _ => some []
  | x :: fs, d :: ds, o => match f x.type d with
    | some c => if x.offset = o ∧ c.length = w x.type then (fieldsD f w fs ds (o + c.length)).map (c ++ ·) else none
    | none => none
  | _, _, _ => none
/-- the cells that a datum of integers, bools and strings tells -/
def cellsD (P : Program) : Nat → TypeId → DataW H → Option (List Value)
  | 0, _, _ => none
  | n + 1, t, d => match P.underlying t, d with
    | some (.int _), .lit (.int k m) => some [.int k m]
    | some .bool, .lit (.bool b) => some [.bool b]
    | some .string, .lit (.string s) => some [.string ⟨s.toArray⟩]
    | some (.array _ e), .agg ds => match partsD (cellsD P n e) (P.cellsOf e) ds with
      | some l => if l.length = P.cellsOf t then some l else none
      | none => none
    | some (.struct fs), .agg ds => match fieldsD (cellsD P n) P.cellsOf fs.toList ds 0 with
      | some l => if l.length = P.cellsOf t then some l else none
      | none => none
    | _, _ => none
theorem partsD_len {f : DataW H → Option (List Value)} {w : Nat} : ∀ {ds : List (DataW H)} {l : List Value}, partsD f w ds = some l → l.length = ds.length * w
  | [], l, h => by simp [partsD] at h; subst h; simp
  | d :: ds, l, h => by
    unfold partsD at h
    split at h
    · rename_i c hc
      split at h
      · rename_i hl
        simp only [Option.map_eq_some_iff] at h
        obtain ⟨r, hr, rfl⟩ := h
        have := partsD_len hr
        simp [this, hl, Nat.succ_mul]; omega
      · cases h
    · cases h
theorem partsD_ok {f : DataW H → Option (List Value)} {w : Nat} {T : List Value → Option (DataW H × List MemPlace)} (ih : ∀ c x l, T c = some x → f x.1 = some l → c = l) : ∀ (xs : List (DataW H × List MemPlace)) (cs l : List Value),
    partsD f w (xs.map (·.1)) = some l → cs.length = xs.length * w → (∀ i, i < xs.length → T ((cs.drop (i * w)).take w) = xs[i]?) → cs = l
  | [], cs, l, h, hl, _ => by simp [partsD] at h; subst h; exact List.eq_nil_of_length_eq_zero (by simpa using hl)
  | x :: xs, cs, l, h, hl, hx => by
    simp only [List.map_cons, partsD] at h
    split at h
    · rename_i c hc
      split at h
      · rename_i hcl
        simp only [Option.map_eq_some_iff] at h
        obtain ⟨r, hr, rfl⟩ := h
        have h0 := hx 0 (by simp)
        simp only [Nat.zero_mul, List.drop_zero, List.getElem?_cons_zero] at h0
        have e0 := ih _ _ _ h0 hc
        have e1 := partsD_ok ih xs (cs.drop w) r hr (by rw [List.length_drop, hl, List.length_cons, Nat.succ_mul]; omega) fun i hi => by
          have := hx (i + 1) (by simp; omega)
          rw [List.getElem?_cons_succ] at this
          rw [List.drop_drop, ← this, Nat.succ_mul, Nat.add_comm]
        rw [← List.take_append_drop w cs, e0, e1]
      · cases h
    · cases h
theorem fieldsD_ok {f : TypeId → DataW H → Option (List Value)} {w : TypeId → Nat} {T : TypeId → List Value → Option (DataW H × List MemPlace)} (ih : ∀ t c x l, T t c = some x → f t x.1 = some l → c = l) {cs : List Value} : ∀ (fs : List Field) (xs : List (DataW H × List MemPlace)) (o : Nat) (l : List Value),
    fieldsD f w fs (xs.map (·.1)) o = some l → (∀ (i : Nat) (x : Field), fs[i]? = some x → T x.type ((cs.drop x.offset).take (w x.type)) = xs[i]?) → (cs.drop o).take l.length = l
  | [], [], o, l, h, _ => by simp [fieldsD] at h; subst h; simp
  | [], _ :: _, _, _, h, _ => by simp [fieldsD] at h
  | _ :: _, [], _, _, h, _ => by simp [fieldsD] at h
  | y :: fs, x :: xs, o, l, h, hx => by
    simp only [List.map_cons, fieldsD] at h
    split at h
    · rename_i c hc
      split at h
      · rename_i hcl
        simp only [Option.map_eq_some_iff] at h
        obtain ⟨r, hr, rfl⟩ := h
        have h0 := hx 0 y rfl
        have e0 := ih _ _ _ _ h0 hc
        have e1 := fieldsD_ok ih fs xs (o + c.length) r hr fun i z hz => hx (i + 1) z hz
        rw [hcl.1, ← hcl.2] at e0
        rw [List.length_append, List.take_add, List.drop_drop, e0, e1]
      · cases h
    · cases h
variable {enc : TypeId × Value → H} {w : World} {base : Nat} {spare : Nat → Bool} {held : Bool}
theorem trod_cells : ∀ (n : Nat) {t : TypeId} {cs l : List Value} {x : DataW H × List MemPlace} {fuel : Nat}, DataW.trod enc P w base spare held fuel t cs = some x → cellsD P n t x.1 = some l → cs = l := by
  intro n
  induction n with
  | zero => intro t cs l x fuel _ h; cases h
  | succ n ih =>
    intro t cs l x fuel ht h
    unfold cellsD at h
    split at h
    · rename_i hu hd
      obtain ⟨m, rfl, hx, _⟩ := DataW.trod_int hu ht
      rw [hx] at hd
      cases hd; cases h; rfl
    · rename_i hu hd
      obtain ⟨m, rfl, hx⟩ := DataW.trod_bool hu ht
      rw [hx] at hd
      cases hd; cases h; rfl
    · rename_i hu hd
      obtain ⟨m, rfl, hx, _⟩ := DataW.trod_string hu ht
      rw [hx] at hd
      cases hd; cases h; rfl
    · rename_i hu hd
      obtain ⟨xs, m, _, hx, hl, hxl, hxs⟩ := DataW.trod_array hu ht
      rw [hx] at hd
      cases hd
      split at h
      · rename_i r hr
        split at h
        · rename_i hrl
          cases h
          have := partsD_len hr
          rw [List.length_map] at this
          exact partsD_ok (T := DataW.trod enc P w base spare held m _) (fun c y l h1 h2 => ih h1 h2) xs cs l hr (by rw [hl, ← hrl, this]) fun i hi => hxs i (by omega)
        · cases h
      · cases h
    · rename_i hu hd
      obtain ⟨xs, m, _, hx, hl, hxl, hxs⟩ := DataW.trod_struct hu ht
      rw [hx] at hd
      cases hd
      split at h
      · rename_i r hr
        split at h
        · rename_i hrl
          cases h
          have := fieldsD_ok (w := P.cellsOf) (T := fun t c => DataW.trod enc P w base spare held m t c) (fun t c y l h1 h2 => ih h1 h2) (cs := cs) _ xs 0 l hr fun i y hy => hxs i y (by rw [← hy, Array.getElem?_toList])
          rw [List.drop_zero, List.take_of_length_le (by omega)] at this
          exact this
        · cases h
      · cases h
    · cases h
theorem laidVars_mem {n : String} {d : DataW Unit} : ∀ {laid : List (String × DataW Unit)} {ps : List MemPlace}, DataW.LaidVars P w laid ps → (n, d) ∈ laid →
    ∃ g t cs fuel p, P.globalNamed n = some g ∧ (P.globals[g]?).map (·.type) = some t ∧ w.var? P n = some cs ∧ DataW.trod (fun _ => ()) P w 0 (fun _ => true) false fuel t cs.toList = some (d, p)
  | [], _, _, hm => by cases hm
  | (n', d') :: r, ps, h, hm => by
    obtain ⟨g, t, cs, fuel, p, q, h1, h2, h3, h4, h5, _⟩ := h
    rcases List.mem_cons.1 hm with e | e
    · cases e; exact ⟨g, t, cs, fuel, p, h1, h2, h3, h4⟩
    · exact laidVars_mem h5 e
/-- A LISTED VARIABLE's BLOCK. -/
theorem laid_block {laid : List (String × DataW Unit)} {n : String} {d : DataW Unit} {g : Nat} {t : TypeId} {l : List Value} (fuel : Nat) (hp : (laid.all fun x => x.2.handleName?.isNone) = true) (h : laidMetH P laid w) (hm : (n, d) ∈ laid)
    (hg : P.globalNamed n = some g) (ht : (P.globals[g]?).map (·.type) = some t) (hc : cellsD P fuel t d = some l) : ∃ e fz, w.heap[g]? = some (.cells ⟨l⟩ e fz) := by
  rw [Go.MakeChecks.laidMetH_plain _ _ _ hp] at h
  obtain ⟨ps, hv, _⟩ := h
  obtain ⟨g', t', cs, f, p, h1, h2, h3, h4⟩ := laidVars_mem hv hm
  obtain rfl := Option.some.inj (hg.symm.trans h1)
  obtain rfl := Option.some.inj (ht.symm.trans h2)
  have := trod_cells fuel h4 hc
  simp only [World.var?, hg, Option.bind_some] at h3
  split at h3
  · rename_i c e fz hb
    cases h3
    refine ⟨e, fz, ?_⟩
    rw [hb]
    cases cs; simp at this; subst this; rfl
  · cases h3
end Go.Ab
end
section
namespace Go.Ab
open Go Go.RowKit Go.ChangeShapes Go.WideShapes Go.ChangeAt
variable {H : Type} {enc : TypeId × Value → H}
def rowedB (P : Program) (ts : List TypeId) : Bool := ts.all fun t => P.readableRec t && decide (t < P.types.size)
theorem all_stays {P : Program} (hl : laidOutB P = true) {W W' : World} (hb : Below W.heap.size W W') : ∀ (ts : List TypeId) {vs : List Value} {ds : List (DataW H)} {ps : List MemPlace}, rowedB P ts = true →
    DataW.TrodAll enc P W 0 (fun _ => true) true ts vs ds ps → DataW.TrodAll enc P W' 0 (fun b => decide (b < W.heap.size)) true ts vs ds ps
  | [], vs, ds, ps, _, h => by
    obtain ⟨rfl, rfl, rfl⟩ := trodAll_nil h
    exact trodAll_mk0
  | t :: ts, vs, ds, ps, hr, h => by
    obtain ⟨v, vs', d, ds', p, q, rfl, rfl, rfl, h1, h2⟩ := trodAll_cons h
    simp only [rowedB, List.all_cons, Bool.and_eq_true, decide_eq_true_eq] at hr
    have lt0 : ∀ x ∈ p, x.block < W.heap.size := by obtain ⟨m, hm⟩ := h1; exact DataW.trod_lt m _ _ _ hm
    exact trodAll_cons_mk (Below.trod hl hr.1.1 hr.1.2 h1 hb lt0) (all_stays hl hb ts hr.2 h2)
theorem all_len {P : Program} {w : World} {base : Nat} {spare : Nat → Bool} {held : Bool} : ∀ (ts : List TypeId) {vs : List Value} {ds : List (DataW H)} {ps : List MemPlace},
    DataW.TrodAll enc P w base spare held ts vs ds ps → ds.length = ts.length
  | [], vs, ds, ps, h => by obtain ⟨rfl, rfl, rfl⟩ := trodAll_nil h; rfl
  | t :: ts, vs, ds, ps, h => by
    obtain ⟨v, vs', d, ds', p, q, rfl, rfl, rfl, h1, h2⟩ := trodAll_cons h
    simp [all_len ts h2]
theorem law_lifted {C : Checked} {os : Os} (started : os.Started) {f : FuncId} {fn : Func} {s : ChangeSpec} {laid : List (String × DataW Unit)} {tb : TypeId} {fresh handsOn : Bool}
    (own : ownKnob C.prog.godebug = none) (noInit : C.prog.inits.idxOf? f = none) (hfn : C.prog.funcs[f]? = some fn) (hlo : laidOutB C.prog = true) (hps : rowedB C.prog fn.params.toList = true)
    (hres : fn.resultTypes = #[tb]) (htb : C.prog.underlying tb = some .bool) (hvars : s.vars = [])
    (hspec : ∀ ds : List (DataW H), ds.length = fn.params.size → s.fn H ds = { results := [.lit (.bool true)], args := ds })
    (witness : ∃ (w : World) (tape : Tape) (i : Input), w.os = os ∧ (w.forCall tape i).Shaped C.prog ∧ i.vars = [] ∧ Input.okWide C.prog (w.forCall tape i) .any w.heap.size f i ∧
      ((s.pre enc C.prog fn [] false (w.forCall tape i).memory i.args ∧ laidMetH C.prog laid (w.forCall tape i).memory) ∧ sizedMet enc C.prog fn (OpenSpec.ofChange s) false (w.forCall tape i).memory i.args) ∧ ({} : Assume).holds C.prog (lone (Frame.enter C.prog f i.args .normal) [] (w.forCall tape i)))
    (walk : ∀ (W : World) (base : Nat) (args : List Value) (ds : List (DataW H)) (ps : List MemPlace), DataW.TrodAll enc C.prog W 0 (fun _ => true) true fn.params.toList args ds ps →
      (∀ (j : Nat) t v, fn.params[j]? = some t → args[j]? = some v → Value.okWide C.prog W .any base t v) → laidMetH C.prog laid W → Calls C.prog f ⟨args⟩ W fun e W' => e = .returned (.bool true) ∧ Below W.heap.size W W') :
    ReturnsInHanded {} C os f .any (fun w args => (s.pre enc C.prog fn [] false w args ∧ laidMetH C.prog laid w) ∧ sizedMet enc C.prog fn (OpenSpec.ofChange s) false w args) (s.post enc C.prog fn false fresh handsOn false) := by
  refine returnsInHanded_of_change_and (C := C) (X := fun w _ => laidMetH C.prog laid w) (fun _ _ _ hh h => h.of_heap hh) own started noInit hfn witness ?_
  intro W base args ds gs before hval hW _ _ hL _
  have hW' := hW
  obtain ⟨p, q, hA, hV, rfl, hfz, hnd⟩ := hW
  rw [hvars] at hV
  obtain ⟨rfl, rfl⟩ := trodVars_none hV
  have hsp := hspec ds (by rw [all_len _ hA]; simp)
  obtain ⟨args⟩ := args
  refine (walk W base args ds p hA (fun j t v h1 h2 => hval j t v h1 (by simpa using h2)) hL).mono fun e W' ⟨he, bel⟩ => ?_
  subst he
  refine ⟨_, rfl, ds, [], _, [], p, [], hW', ?_, ?_, ?_, bel.frame _, fun h => by cases h⟩
  · rw [List.append_nil, hsp, hres]
    exact trodAll_mk1 (shut_bool htb _)
  · rw [List.append_nil, hsp]
    exact all_stays hlo bel _ hps hA
  · rw [List.append_nil, hsp, hvars]
    rfl
theorem flat_int {k : IntKind} {ks : List (Option IntKind)} {l : List Value} (h : Flat (some k :: ks) l) : ∃ (n : Int) (l' : List Value), l = .int k n :: l' ∧ Flat ks l' := by
  cases l with
  | nil => exact h.elim
  | cons v l => obtain ⟨⟨n, rfl, _⟩, h⟩ := h; exact ⟨n, l, rfl, h⟩
theorem flat_intW {k : IntKind} {ks : List (Option IntKind)} {l : List Value} (h : Flat (some k :: ks) l) : ∃ (n : Int) (l' : List Value), l = .int k n :: l' ∧ (Lit.int k n).wf = true ∧ Flat ks l' := by
  cases l with
  | nil => exact h.elim
  | cons v l => obtain ⟨⟨n, rfl, hw⟩, h⟩ := h; exact ⟨n, l, rfl, hw, h⟩
theorem wf_i64 {n : Int} (h : (Lit.int .i64 n).wf = true) : -9223372036854775808 ≤ n ∧ n ≤ 9223372036854775807 := by
  simp [Lit.wf, IntKind.min, IntKind.max, IntKind.signed, IntKind.bits] at h
  omega
theorem flat_bool {ks : List (Option IntKind)} {l : List Value} (h : Flat (none :: ks) l) : ∃ (n : Bool) (l' : List Value), l = .bool n :: l' ∧ Flat ks l' := by
  cases l with
  | nil => exact h.elim
  | cons v l => obtain ⟨⟨n, rfl⟩, h⟩ := h; exact ⟨n, l, rfl, h⟩
theorem flat_nil {l : List Value} (h : Flat [] l) : l = [] := by
  cases l with
  | nil => rfl
  | cons v l => exact h.elim
theorem open_rowF {P : Program} {W : World} {base : Nat} {t e : TypeId} {v : Value} {d : DataW H} {p : List MemPlace} {n : Nat} {ks : List (Option IntKind)} (ht : P.underlying t = some (.slice e)) (he : flatT P n e = some ks) (hc : P.cellsOf e = ks.length) (h0 : 0 < ks.length)
    (hok : Value.okWide P W .any base t v) (h : DataW.Trod enc P W 0 (fun _ => true) true t v d p) : ∃ a len cap, v = .slice a len cap ∧ FlatRow ks W a len cap := by
  obtain ⟨a, len, cap, rfl⟩ := okWide_slice ht hok
  obtain ⟨fuel, hf⟩ := h
  obtain ⟨a', len', cap', hcs, hr⟩ := open_flat ht he hc h0 hf
  simp [Value.cells] at hcs
  obtain ⟨rfl, rfl, rfl⟩ := hcs
  exact ⟨_, _, _, rfl, hr⟩
theorem open_structF {P : Program} {W : World} {base : Nat} {t : TypeId} {fs : Array Field} {v : Value} {d : DataW H} {p : List MemPlace} {n : Nat} {ks : List (Option IntKind)} (ht : P.underlying t = some (.struct fs)) (he : flatT P n t = some ks)
    (hok : Value.okWide P W .any base t v) (h : DataW.Trod enc P W 0 (fun _ => true) true t v d p) : ∃ l, v = .agg ⟨l⟩ ∧ Flat ks l := by
  simp only [Value.okWide, ht] at hok
  obtain ⟨cs, rfl, _, _⟩ := hok
  obtain ⟨fuel, hf⟩ := h
  obtain ⟨l⟩ := cs
  exact ⟨l, rfl, trod_flat n he hf⟩
theorem open_arrayF {P : Program} {W : World} {base : Nat} {t e : TypeId} {m : Nat} {v : Value} {d : DataW H} {p : List MemPlace} {n : Nat} {ks : List (Option IntKind)} (ht : P.underlying t = some (.array m e)) (he : flatT P n t = some ks)
    (hok : Value.okWide P W .any base t v) (h : DataW.Trod enc P W 0 (fun _ => true) true t v d p) : ∃ l, v = .agg ⟨l⟩ ∧ Flat ks l := by
  simp only [Value.okWide, ht] at hok
  obtain ⟨cs, rfl, _, _⟩ := hok
  obtain ⟨fuel, hf⟩ := h
  obtain ⟨l⟩ := cs
  exact ⟨l, rfl, trod_flat n he hf⟩
end Go.Ab
end
section
namespace Go.Ab
variable {P : Program} {K : FuncId → List Value → Option Ans} {G : Bg} {h : AH} {L L' M : List HP}
def rdS (G : Bg) (W : Nat) (e : TypeId) (v : Value) (l : List (List Value)) : HP := fun r =>
  (∀ x ∈ l, x.length = W) ∧ ((OldS G W v l.length (fun i => l.getD i []) ∧ r = Res.emp) ∨ ∃ a c, v = .slice a l.length c ∧ slc W e a c (l.length, l.flatten) r)
variable {W : Nat} {e : TypeId} {v : Value} {l : List (List Value)}
theorem Hs.headP {A : HP} {p : Prop} (hs : Hs G h (A :: L)) (k : ∀ r, A r → p) : p := by
  obtain ⟨r, r2, h1, _⟩ := hs.fst
  exact k r h1
theorem rd_slice (hs : Hs G h (rdS G W e v l :: L)) : ∃ a c, v = .slice a l.length c := hs.headP fun r hr => by
  obtain ⟨_, ⟨⟨a, c, h1, _⟩, _⟩ | ⟨a, c, h1, _⟩⟩ := hr
  · exact ⟨a, c, h1⟩
  · exact ⟨a, c, h1⟩
theorem rd_lens (hs : Hs G h (rdS G W e v l :: L)) : ∀ x ∈ l, x.length = W := hs.headP fun _ hr => hr.1
theorem rd_old (hl : ∀ x ∈ l, x.length = W) (ho : OldS G W v l.length (fun i => l.getD i [])) (hs : Hs G h L) : Hs G h (rdS G W e v l :: L) :=
  Hs.join (A := []) hs fun r hr => ⟨hl, .inl ⟨ho, hr⟩⟩
theorem rd_own {a : Option Addr} {c n : Nat} {cs : List Value} (hl : ∀ x ∈ l, x.length = W) (hn : n = l.length) (hc : cs = l.flatten) (hs : Hs G h (slc W e a c (n, cs) :: L)) : Hs G h (rdS G W e (.slice a n c) l :: L) := by
  subst hn; subst hc
  exact Hs.join (A := [_]) hs fun r hr => ⟨hl, .inr ⟨a, c, rfl, star_one.1 hr⟩⟩
theorem flatten_at {W : Nat} : ∀ {l : List (List Value)} {i : Nat} {x : List Value}, (∀ x ∈ l, x.length = W) → l[i]? = some x → (l.flatten.drop (i * W)).take W = x ∧ i * W + W ≤ l.flatten.length
  | [], i, x, _, h => by simp at h
  | y :: l, 0, x, hl, h => by
    simp only [List.getElem?_cons_zero, Option.some.injEq] at h
    subst h
    have := hl y List.mem_cons_self
    simp [← this]
  | y :: l, i + 1, x, hl, h => by
    have hy := hl y List.mem_cons_self
    obtain ⟨h1, h2⟩ := flatten_at (fun z hz => hl z (List.mem_cons_of_mem _ hz)) (by simpa using h)
    rw [List.flatten_cons, show (i + 1) * W = y.length + i * W by rw [hy, Nat.succ_mul]; omega, List.drop_append, List.drop_of_length_le (by omega), Nat.add_sub_cancel_left, List.nil_append, List.length_append]
    exact ⟨h1, by omega⟩
/-- an element is read -/
theorem r_rd {i : Nat} {x : List Value} {k : Value → Prop} (hs : Hs G h (rdS G W e v l :: L)) (hW : 0 < W) (hx : l[i]? = some x) (hk : k (.agg ⟨x⟩)) : thn (idxS W v (I i)) fun p => thn (ldN h W p) k := by
  obtain ⟨hi, hxi⟩ := List.getElem?_eq_some_iff.1 hx
  have hxl : x.length = W := rd_lens hs x (hxi ▸ List.getElem_mem hi)
  obtain ⟨r, hst, hin⟩ := hs.res
  obtain ⟨r1, r2, hr, h2, hd, rfl⟩ := hst
  obtain ⟨hl, hr⟩ := hr
  rcases hr with ⟨ho, rfl⟩ | ⟨a, c, rfl, hr⟩
  · obtain ⟨a, c, rfl, hall⟩ := ho
    obtain ⟨b, o, cells, rfl, hob, hc, hle⟩ := hall i hi
    refine r_idxN hi ?_
    rw [show pt b (o + i * W) 0 = pt b o (i * W) by simp [pt]]
    refine r_ldNo hs hob (l := x) ?_ hxl hle hk
    rw [hc]
    simp [hx]
  · have hs' : Hs G h (slc W e a c (l.length, l.flatten) :: L) := ⟨hs.base, hs.old, hs.wf, hs.fr, ⟨_, ⟨r1, r2, hr, h2, hd, rfl⟩, hin⟩⟩
    obtain ⟨b, o, rfl, hs'⟩ := hs'.holeOpen (by omega)
    refine r_idxN hi ?_
    rw [show pt b (o + i * W) 0 = pt b o (i * W) by simp [pt]]
    exact r_ldN hs' hW (flatten_at hl hx).1 hxl hk
/-- a cell of an element is read -/
theorem r_rd1 {i j : Nat} {x : List Value} {u : Value} {k : Value → Prop} (hs : Hs G h (rdS G W e v l :: L)) (hx : l[i]? = some x) (hu : x[j]? = some u) (hk : k u) : thn (idxS W v (I i)) fun p => thn (padd j p) fun q => thn (ld1 h q) k := by
  obtain ⟨hi, hxi⟩ := List.getElem?_eq_some_iff.1 hx
  have hxl : x.length = W := rd_lens hs x (hxi ▸ List.getElem_mem hi)
  have hj : j < W := by rw [← hxl]; exact (List.getElem?_eq_some_iff.1 hu).1
  obtain ⟨r, hst, hin⟩ := hs.res
  obtain ⟨r1, r2, hr, h2, hd, rfl⟩ := hst
  obtain ⟨hl, hr⟩ := hr
  rcases hr with ⟨ho, rfl⟩ | ⟨a, c, rfl, hr⟩
  · obtain ⟨a, c, rfl, hall⟩ := ho
    obtain ⟨b, o, cells, rfl, hob, hc, hle⟩ := hall i hi
    refine r_idxN hi (r_padd ?_)
    refine r_ldo hs hob (o := o + i * W) (j := 0 + j) ?_ hk
    have h1 : (cells.drop (o + i * W)).take W = x := by rw [hc]; simp [hx]
    rw [← h1, List.getElem?_take_of_lt hj, List.getElem?_drop] at hu
    rw [Nat.zero_add]
    exact hu
  · have hs' : Hs G h (slc W e a c (l.length, l.flatten) :: L) := ⟨hs.base, hs.old, hs.wf, hs.fr, ⟨_, ⟨r1, r2, hr, h2, hd, rfl⟩, hin⟩⟩
    obtain ⟨b, o, rfl, hs'⟩ := hs'.holeOpen (by omega)
    refine r_idxN hi (r_padd ?_)
    rw [show pt b (o + i * W) (0 + j) = pt b o (i * W + j) by simp only [pt]; rw [Nat.zero_add, Nat.add_assoc]]
    refine r_ld hs' ?_ hk
    have h1 := (flatten_at hl hx).1
    rw [← h1, List.getElem?_take_of_lt hj, List.getElem?_drop] at hu
    exact hu
/-- a cell of a slice of one's own -/
theorem r_slc1 {n i c : Nat} {a : Option Addr} {cs : List Value} {u : Value} {k : Value → Prop} (hs : Hs G h L) [m : Has (slc 1 e a c) L (n, cs) L'] (hu : cs[i]? = some u) (hk : k u) : thn (idxS 1 (.slice a n c) (I i)) fun p => thn (ld1 h p) k := by
  have hs := m.of hs
  have hl := hs.slcLen
  simp only [Nat.mul_one] at hl
  have hi := (List.getElem?_eq_some_iff.1 hu).1
  obtain ⟨b, o, rfl, hs'⟩ := hs.holeOpen (by omega)
  refine r_idxN (by omega) ?_
  rw [show pt b (o + i * 1) 0 = pt b o i by simp [pt]]
  exact r_ld hs' hu hk
/-- a cell of a slice of one's own is written -/
theorem r_slcSet {n i c : Nat} {a : Option Addr} {cs : List Value} {v : Value} {k : AH → Prop} (hs : Hs G h L) [m : Has (slc 1 e a c) L (n, cs) L'] [hv : Cv v [v]] (hc : cellB v = true) (hi : i < n) (hk : ∀ h', Hs G h' (slc 1 e a c (n, cs.set i v) :: L') → k h') : thn (idxS 1 (.slice a n c) (I i)) fun p => thn (stV h 1 p v) k := by
  have hs := m.of hs
  have hl := hs.slcLen
  have hce := hs.slcCells
  simp only [Nat.mul_one] at hl
  obtain ⟨b, o, rfl, hs'⟩ := hs.holeOpen (by omega)
  refine r_idxN hi ?_
  rw [show pt b (o + i * 1) 0 = pt b o i by simp [pt]]
  refine r_sto hs' rfl (by simp; omega) (by simp [hc]) (by simp; omega) fun h' hs'' => ?_
  have e1 : setL cs i [v] = cs.set i v := by
    rw [← setL_splice cs i [v] (by simp; omega)]
    apply List.ext_getElem?
    intro j
    unfold splice
    rw [List.getElem?_set]
    simp only [List.length_singleton]
    by_cases hj : i = j
    · subst hj
      rw [if_pos rfl, if_pos (by omega), List.append_assoc, List.getElem?_append_right (by simp; omega)]
      simp [Nat.min_eq_left (show i ≤ cs.length by omega)]
    · rw [if_neg hj, List.append_assoc]
      by_cases hlt : j < i
      · rw [List.getElem?_append_left (by simp; omega), List.getElem?_take_of_lt hlt]
      · rw [List.getElem?_append_right (by simp; omega), List.getElem?_append_right (by simp; omega), List.getElem?_drop]
        congr 1
        simp
        omega
  rw [e1] at hs''
  have hx : (cs.set i v).all cellB = true := by
    rw [List.all_eq_true] at hce ⊢
    intro w hw
    rcases List.mem_or_eq_of_mem_set hw with hw | rfl
    · exact hce w hw
    · exact hc
  exact hk h' (Hs.holeClose hs'' (by simp; omega) hx)
/-- all of a slice of one's own -/
theorem r_slAll {W n c : Nat} {a : Option Addr} {cs : List Value} {k : Value → Prop} (hs : Hs G h L) [m : Has (slc W e a c) L (n, cs) L'] (h0 : 0 < n) (hk : k (.slice a n c)) : thn (slS W h (.slice a n c) none (some (I n)) none) k := by
  have hs := m.of hs
  have hx : n ≤ c ∧ ∃ b o, a = some ⟨b, o, none⟩ := hs.headP fun r hr => by
    obtain ⟨_, _, ⟨h1, _⟩ | ⟨h1, _⟩ | ⟨h1, b, pre, post, ex, ha, _⟩⟩ := hr
    · exact absurd h1 (by simp; omega)
    · exact absurd h1 (by simp; omega)
    · exact ⟨h1, b, pre.length, ha⟩
  obtain ⟨hc, b, o, rfl⟩ := hx
  refine ⟨.slice (some ⟨b, o, none⟩) n c, ?_, hk⟩
  have e1 : bnd (some (I n)) n c = some n := by unfold bnd; simp; omega
  unfold slS
  simp only [bnd, Option.isNone_some, Bool.false_and, Bool.false_eq_true, if_false]
  simp only [bnd] at e1
  rw [e1]
  simp only [Option.isSome_none, Bool.false_eq_true, if_false]
  rw [if_pos (by omega), if_neg (by omega)]
  simp [Addr.add]
theorem Hs.un1 {A : HP} (hs : Hs G h (sp [A] :: L)) : Hs G h (A :: L) := Hs.unpack hs
theorem Hs.pk1 {A : HP} (hs : Hs G h (A :: L)) : Hs G h (sp [A] :: L) := Hs.pack (A := [A]) hs
theorem Hs.un2 {A B : HP} (hs : Hs G h (sp [A, B] :: L)) : Hs G h (A :: B :: L) := Hs.unpack hs
theorem Hs.pk2 {A B : HP} (hs : Hs G h (A :: B :: L)) : Hs G h (sp [A, B] :: L) := Hs.pack (A := [A, B]) hs
theorem Hs.un3 {A B C : HP} (hs : Hs G h (sp [A, B, C] :: L)) : Hs G h (A :: B :: C :: L) := Hs.unpack hs
theorem Hs.pk3 {A B C : HP} (hs : Hs G h (A :: B :: C :: L)) : Hs G h (sp [A, B, C] :: L) := Hs.pack (A := [A, B, C]) hs
theorem Hs.un4 {A B C D : HP} (hs : Hs G h (sp [A, B, C, D] :: L)) : Hs G h (A :: B :: C :: D :: L) := Hs.unpack hs
theorem Hs.pk4 {A B C D : HP} (hs : Hs G h (A :: B :: C :: D :: L)) : Hs G h (sp [A, B, C, D] :: L) := Hs.pack (A := [A, B, C, D]) hs
theorem Hs.un5 {A B C D E : HP} (hs : Hs G h (sp [A, B, C, D, E] :: L)) : Hs G h (A :: B :: C :: D :: E :: L) := Hs.unpack hs
theorem Hs.pk5 {A B C D E : HP} (hs : Hs G h (A :: B :: C :: D :: E :: L)) : Hs G h (sp [A, B, C, D, E] :: L) := Hs.pack (A := [A, B, C, D, E]) hs
theorem Hs.un6 {A B C D E F : HP} (hs : Hs G h (sp [A, B, C, D, E, F] :: L)) : Hs G h (A :: B :: C :: D :: E :: F :: L) := Hs.unpack hs
theorem Hs.pk6 {A B C D E F : HP} (hs : Hs G h (A :: B :: C :: D :: E :: F :: L)) : Hs G h (sp [A, B, C, D, E, F] :: L) := Hs.pack (A := [A, B, C, D, E, F]) hs
theorem r_endd {f : FuncId} {p : List Nat} {n : Nat} {e : Nat → Value} {d l : Nat} {pd : Option Code} {k : Option Code × AH → Prop} (hs : Hs G h L) [m : HasLp l L ⟨P, f, p, n, e, d, .done, pd⟩ L'] (hk : ∀ h', Hs G h' L' → k (pd, h')) : thn (endV h l) k :=
  r_end (P := P) (f := f) (p := p) (n := n) (e := e) (d := d) (st := .done) (pd := pd) (k := fun a b => k (a, b)) (show Hs G h (lpT P f p n e d l (.done, pd) :: L') from m.of hs) (by decide) hk
/-- what is yielded, taken one by one: 'X' of those that came, 'Z' behind the one at which it is broken off -/
theorem Yds.fold {α : Type} {xs : List α} {f : α → List Value} {g : FuncId} {first captured : List Value} {A : HP} (hy : Yds P K G g first captured A (xs.map f)) {X : List α → HP} {Z : List α → α → HP} {y : Value} {Q : Value → AH → Prop}
    (hs : Hs G h (A :: X [] :: L))
    (step : ∀ done x h M, done ++ [x] <+: xs → Hs G h (X done :: M) → OkF P K y (f x) h fun v h' => (v = .bool true ∧ Hs G h' (X (done ++ [x]) :: M)) ∨ (v = .bool false ∧ Hs G h' (Z done x :: M)))
    (fin : ∀ v h', Hs G h' (A :: X xs :: L) → Q v h') (brk : ∀ done x v h', done ++ [x] <+: xs → Hs G h' (A :: Z done x :: L) → Q v h') : Cl P K g (first ++ [y] ++ captured) h Q := by
  refine hy (fun rest => exH fun done : List α => sp [puH (∃ ys, xs = done ++ ys ∧ rest = ys.map f), X done]) (exH fun dx : List α × α => sp [puH (dx.1 ++ [dx.2] <+: xs), Z dx.1 dx.2]) y L h Q ?_ ?_ ?_ ?_
  · refine Hs.at2 (Hs.exI ([] : List α) ?_)
    exact sp_pu ⟨xs, rfl, rfl⟩ (Hs.pack (A := [_]) hs.at2)
  · intro x rest h M hs
    obtain ⟨done, hs1⟩ := hs.exE
    obtain ⟨⟨ys, h1, h2⟩, hs2⟩ := sp_puE hs1
    clear hs hs1
    cases ys with
    | nil => cases h2
    | cons z ys =>
      simp only [List.map_cons, List.cons.injEq] at h2
      obtain ⟨e1, e2⟩ := h2
      subst e1; subst e2
      have hp : done ++ [z] <+: xs := ⟨ys, by rw [h1]; simp⟩
      refine (step done z h M hp hs2.unpack).mono fun v h' hv => hv.imp (fun e => ⟨e.1, ?_⟩) (fun e => ⟨e.1, ?_⟩)
      · exact Hs.exI (done ++ [z]) (sp_pu ⟨ys, by rw [h1]; simp, rfl⟩ (Hs.pack (A := [_]) e.2))
      · exact Hs.exI (done, z) (sp_pu hp (Hs.pack (A := [_]) e.2))
  · intro v h' hs
    obtain ⟨done, hs⟩ := hs.at2.exE
    obtain ⟨⟨ys, h1, h2⟩, hs⟩ := sp_puE hs
    cases ys with
    | cons z ys => cases h2
    | nil =>
      rw [List.append_nil] at h1
      subst h1
      exact fin v h' (Hs.at2 hs.unpack)
  · intro v h' hs
    obtain ⟨⟨done, x⟩, hs⟩ := hs.at2.exE
    obtain ⟨hp, hs⟩ := sp_puE hs
    exact brk done x v h' hp (Hs.at2 hs.unpack)
end Go.Ab
end
