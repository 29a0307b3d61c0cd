/- A law's frame: true comes back, all that was there is as it was. -/
import Derived.Test.YtajjljbmfdboaaaGreatDoorB3
import Derived.ChangeArms
import Derived.OpenShut
import Derived.Test.YtajjljbmfdboaaaGreatDoorB5
import Derived.ChangeSlices
import Derived.LaidLaws
import Derived.MakeChecks
import Derived.WalkKit
import Derived.ProofKit
import Derived.ChangeOld
import Derived.ChangeSame
import Derived.ChangeVars
import Derived.JoinedOf
import Derived.Carry
import Derived.LaidHandle
import Derived.Stop.Joined
section
namespace Go.Ab
open Go
variable {P : Program}
/-- integers (of a kind) and bools of a type -/
def catT (f : TypeId → Option (List (Option IntKind))) : List Field → Nat → Option (List (Option IntKind))
  | [], _ => some []
  | x :: l, o => if x.offset = o then match f x.type with
    | some a => (catT f l (o + a.length)).map fun b => a ++ b
    | none => none
    else none
def flatT (P : Program) : Nat → TypeId → Option (List (Option IntKind))
  | 0, _ => none
  | n + 1, t => match P.underlying t with
    | some (.int k) => some [some k]
    | some .bool => some [none]
    | some (.array m e) => match flatT P n e with
      | some l => if P.cellsOf e = l.length ∧ P.cellsOf t = m * l.length then some (List.replicate m l).flatten else none
      | none => none
    | some (.struct fs) => if fs.toList.all (fun x => (flatT P n x.type).any fun l => l.length == P.cellsOf x.type) then
        (catT (flatT P n) fs.toList 0).bind fun l => if P.cellsOf t = l.length then some l else none else none
    | _ => none
def kindV : Option IntKind → Value → Prop
  | some k, v => ∃ n, v = .int k n ∧ (Lit.int k n).wf = true
  | none, v => ∃ b, v = .bool b
def Flat : List (Option IntKind) → List Value → Prop
  | [], [] => True
  | k :: ks, v :: vs => kindV k v ∧ Flat ks vs
  | _, _ => False
theorem Flat.len : ∀ {ks : List (Option IntKind)} {vs : List Value}, Flat ks vs → vs.length = ks.length
  | [], [], _ => rfl
  | _ :: _, _ :: _, h => by simp [Flat.len h.2]
theorem Flat.append : ∀ {ks js : List (Option IntKind)} {vs ws : List Value}, Flat ks vs → Flat js ws → Flat (ks ++ js) (vs ++ ws)
  | [], _, [], _, _, h => h
  | _ :: _, _, _ :: _, _, h, h' => ⟨h.1, Flat.append h.2 h'⟩
theorem flat_rep {l : List (Option IntKind)} : ∀ (m : Nat) (cs : List Value), cs.length = m * l.length → (∀ i, i < m → Flat l ((cs.drop (i * l.length)).take l.length)) → Flat (List.replicate m l).flatten cs := by
  intro m
  induction m with
  | zero => intro cs hl _; have : cs = [] := List.eq_nil_of_length_eq_zero (by omega); subst this; trivial
  | succ m ih =>
    intro cs hl h
    rw [List.replicate_succ, List.flatten_cons, ← List.take_append_drop l.length cs]
    refine Flat.append (by simpa using h 0 (by omega)) (ih _ (by rw [List.length_drop, hl, Nat.succ_mul]; omega) fun i hi => ?_)
    have := h (i + 1) (by omega)
    rw [List.drop_drop]
    rwa [Nat.succ_mul, Nat.add_comm] at this
theorem flat_cat {f : TypeId → Option (List (Option IntKind))} {cs : List Value} : ∀ (l : List Field) (o : Nat) (ks : List (Option IntKind)), catT f l o = some ks → (∀ x ∈ l, ∀ a, f x.type = some a → Flat a ((cs.drop x.offset).take a.length)) → Flat ks ((cs.drop o).take ks.length) := by
  intro l
  induction l with
  | nil => intro o ks h _; simp [catT] at h; subst h; simp [Flat]
  | cons x l ih =>
    intro o ks h hall
    unfold catT at h
    split at h
    · rename_i ho
      cases hf : f x.type with
      | none => rw [hf] at h; cases h
      | some a =>
        rw [hf] at h
        simp only [Option.map_eq_some_iff] at h
        obtain ⟨b, hb, rfl⟩ := h
        have h1 := hall x List.mem_cons_self a hf
        have h2 := ih _ b hb (fun y hy => hall y (List.mem_cons_of_mem _ hy))
        rw [ho] at h1
        rw [List.length_append, List.take_add, List.drop_drop]
        exact Flat.append h1 h2
    · cases h
variable {H : Type} {enc : TypeId × Value → H} {w : World} {base : Nat} {spare : Nat → Bool} {held : Bool}
theorem trod_flat : ∀ (n : Nat) {t : TypeId} {ks : List (Option IntKind)} {cs : List Value} {x : DataW H × List MemPlace} {fuel : Nat}, flatT P n t = some ks → DataW.trod enc P w base spare held fuel t cs = some x → Flat ks cs := by
  intro n
  induction n with
  | zero => intro t ks cs x fuel h; cases h
  | succ n ih =>
    intro t ks cs x fuel h ht
    unfold flatT at h
    split at h
    · rename_i k hu
      cases h
      obtain ⟨m, rfl, _, hw⟩ := DataW.trod_int hu ht
      exact ⟨⟨m, rfl, hw⟩, trivial⟩
    · rename_i hu
      cases h
      obtain ⟨m, rfl, _⟩ := DataW.trod_bool hu ht
      exact ⟨⟨m, rfl⟩, trivial⟩
    · rename_i m e hu
      cases hf : flatT P n e with
      | none => rw [hf] at h; cases h
      | some l =>
        rw [hf] at h
        simp only at h
        split at h
        · rename_i hc
          cases h
          obtain ⟨xs, _, _, _, hl, hxl, hx⟩ := DataW.trod_array hu ht
          refine flat_rep m cs (by rw [hl]; exact hc.2) fun i hi => ?_
          have h1 := hx i hi
          rw [List.getElem?_eq_getElem (by omega), hc.1] at h1
          exact ih hf h1
        · cases h
    · rename_i fs hu
      split at h
      · rename_i hall
        simp only [Option.bind_eq_some_iff] at h
        obtain ⟨l, hl, h⟩ := h
        split at h
        · rename_i hc
          cases h
          obtain ⟨xs, _, _, _, hcs, hxl, hx⟩ := DataW.trod_struct hu ht
          have := flat_cat (cs := cs) fs.toList 0 ks hl (fun y hy a ha => by
            obtain ⟨i, hi, rfl⟩ := List.getElem_of_mem hy
            have h1 := hx i fs.toList[i] (by simp at hi; simp [hi])
            have hal := List.all_eq_true.1 hall _ hy
            rw [ha] at hal
            simp at hal
            simp at hi
            rw [List.getElem?_eq_getElem (by omega)] at h1
            have := ih ha h1
            simp only [Array.getElem_toList] at this ⊢
            rw [← hal] at this
            exact this)
          rw [List.drop_zero, List.take_of_length_le (by rw [hcs, hc]; exact Nat.le_refl _)] at this
          exact this
        · cases h
      · cases h
    · cases h
end Go.Ab
end
section
namespace Go.Ab
open Go Go.RowKit
variable {P : Program}
/-- integers and bools alone are looked at -/
def san : Value → Value
  | .int k n => .int k n
  | .bool b => .bool b
  | _ => top
theorem san_rel {ρ : Rho} : ∀ l : List Value, LRel ρ (l.map san) l
  | [] => rfl
  | v :: l => by
    refine LRel.cons ?_ (san_rel l)
    cases v <;> simp [san, top, VRel]
theorem san_flat : ∀ {ks : List (Option IntKind)} {l : List Value}, Flat ks l → l.map san = l
  | [], [], _ => rfl
  | none :: ks, v :: l, h => by
    obtain ⟨⟨b, rfl⟩, h2⟩ := h
    simp [san, san_flat h2]
  | some k :: ks, v :: l, h => by
    obtain ⟨⟨b, rfl, _⟩, h2⟩ := h
    simp [san, san_flat h2]
/-- a slice whose parts are flat -/
def FlatRow (ks : List (Option IntKind)) (w : World) (a : Option Addr) (len cap : Nat) : Prop :=
  (a = none ∧ len = 0 ∧ cap = 0) ∨ (∃ x, a = some x ∧ len = 0) ∨
  ∃ x cc e fz, a = some x ∧ 0 < len ∧ x.spot = none ∧ len ≤ cap ∧ w.heap[x.block]? = some (.cells cc e fz) ∧ x.off + len * ks.length ≤ cc.size ∧
    ∀ i, i < len → Flat ks ((cc.toList.drop (x.off + i * ks.length)).take ks.length)
theorem add_at {x : Addr} {i : Nat} (h : x.spot = none) : x.add i = ⟨x.block, x.off + i, none⟩ := by
  unfold Addr.add
  split
  · rename_i hi; subst hi; cases x; simp at h; subst h; rfl
  · rfl
variable {H : Type} {enc : TypeId × Value → H} {w : World} {base : Nat} {spare : Nat → Bool} {held : Bool}
theorem open_flat {t e : TypeId} {n fuel : Nat} {ks : List (Option IntKind)} {cs : List Value} {x : DataW H × List MemPlace} (ht : P.underlying t = some (.slice e)) (he : flatT P n e = some ks) (hc : P.cellsOf e = ks.length) (h0 : 0 < ks.length)
    (h : DataW.trod enc P w base spare held fuel t cs = some x) : ∃ a len cap, cs = [.slice a len cap] ∧ FlatRow ks w a len cap := by
  rcases DataW.trod_slice ht h with ⟨rfl, _⟩ | ⟨a, len, cap, elems, rest, m, _, rfl, _, hb, hl, hm, hlen, hel, _, _⟩
  · exact ⟨none, 0, 0, rfl, .inl ⟨rfl, rfl, rfl⟩⟩
  refine ⟨some a, len, cap, rfl, ?_⟩
  rcases Nat.eq_zero_or_pos len with hz | hz
  · exact .inr (.inl ⟨a, rfl, hz⟩)
  refine .inr (.inr ?_)
  have each : ∀ i, i < len → ∃ c : List Value, Flat ks c ∧ c.length = ks.length ∧ ∀ j, j < ks.length → w.cell? ((a.add (i * ks.length)).add j) = c[j]? := by
    intro i hi
    have h1 := hel i hi
    rw [List.getElem?_eq_getElem (by omega), hc, Option.bind_eq_some_iff] at h1
    obtain ⟨c, hcs, hy⟩ := h1
    refine ⟨c, trod_flat n he hy, ?_, fun j hj => ?_⟩
    · unfold World.cells? at hcs
      split at hcs
      · have := mapM_some_length hcs; simpa using this
      · cases hcs
    · unfold World.cells? at hcs
      split at hcs
      · exact mapM_some_get hcs j j (by simp [hj])
      · cases hcs
  obtain ⟨c0, hf0, hl0, hc0⟩ := each 0 hz
  have h00 := hc0 0 h0
  rw [List.getElem?_eq_getElem (by omega)] at h00
  obtain ⟨cc, e', fz, hb, hs⟩ : ∃ cc e fz, w.heap[a.block]? = some (.cells cc e fz) ∧ a.spot = none := by
    have hx0 : (a.add (0 * ks.length)).add 0 = a := by rw [Nat.zero_mul]; rfl
    rw [hx0] at h00
    unfold World.cell? at h00
    split at h00
    · rename_i c e fz hb
      split at h00
      · cases h00
      · rename_i hs
        exact ⟨c, e, fz, hb, by simpa using hs⟩
    · cases h00
  have hcell : ∀ o, w.cell? ⟨a.block, o, none⟩ = cc[o]? := by
    intro o
    unfold World.cell?
    rw [hb]
    simp
  have hat : ∀ i, i < len → ∃ c : List Value, Flat ks c ∧ c.length = ks.length ∧ ∀ j, j < ks.length → cc[a.off + i * ks.length + j]? = c[j]? := by
    intro i hi
    obtain ⟨c, hf, hcl, hj⟩ := each i hi
    refine ⟨c, hf, hcl, fun j hjl => ?_⟩
    rw [← hj j hjl, add_at hs, add_at rfl]
    exact (hcell _).symm
  refine ⟨a, cc, e', fz, rfl, hz, hs, hl, hb, ?_, ?_⟩
  · obtain ⟨c, hf, hcl, hj⟩ := hat (len - 1) (by omega)
    have := hj (ks.length - 1) (by omega)
    rw [List.getElem?_eq_getElem (by omega)] at this
    have h2 := (Array.getElem?_eq_some_iff.1 this).1
    have : len * ks.length = (len - 1) * ks.length + ks.length := by
      conv => lhs; rw [show len = (len - 1) + 1 by omega, Nat.succ_mul]
    omega
  · intro i hi
    obtain ⟨c, hf, hcl, hj⟩ := hat i hi
    have : (cc.toList.drop (a.off + i * ks.length)).take ks.length = c := by
      apply List.ext_getElem?
      intro j
      rw [List.getElem?_take]
      split
      · rename_i hjl
        rw [List.getElem?_drop, Array.getElem?_toList, hj j hjl]
      · rename_i hjl
        rw [List.getElem?_eq_none (by omega)]
    rw [this]; exact hf
/-- a slice that is only read -/
def OldS (G : Bg) (W : Nat) (v : Value) (n : Nat) (at' : Nat → List Value) : Prop := ∃ a c, v = .slice a n c ∧ ∀ i, i < n → ∃ b o cells, a = some ⟨b, o, none⟩ ∧ Ob G b cells ∧ (cells.drop (o + i * W)).take W = at' i ∧ o + i * W ≤ cells.length
/-- an old block: what is read of it, and the world's block -/
abbrev OB := Option Blk × Option (Nat × (Nat × Nat))
def OBok (P : Program) (w : World) (r : OB) : Prop :=
  (∀ o, r.1 = some o → ∀ b s, r.2 = some (b, s) → ∃ o', w.heap[b]? = some o' ∧ ∀ ρ, BRel P ρ s o o') ∧ (∀ b s, r.2 = some (b, s) → b < w.heap.size)
theorem row_old (P : Program) {ks : List (Option IntKind)} {a : Option Addr} {len cap : Nat} (h : FlatRow ks w a len cap) : ∃ (r : OB) (t : Nat → Value), OBok P w r ∧
    (∀ ρ k, ρ k = r.2 → VRel ρ (t k) (.slice a len cap)) ∧ ∃ at' : Nat → List Value, (∀ i, i < len → Flat ks (at' i)) ∧ ∀ (G : Bg) k, k < G.base → G.old k = r.1 → OldS G ks.length (t k) len at' := by
  rcases h with ⟨rfl, rfl, rfl⟩ | ⟨x, rfl, rfl⟩ | ⟨x, cc, e, fz, rfl, h0, hs, hl, hb, hsz, hf⟩
  · refine ⟨(none, none), fun _ => .slice none 0 0, ⟨fun o h => by (cases h), fun b s h => by cases h⟩, fun ρ k _ => by simp only [VRel], fun _ => [], fun i hi => by omega, fun G k _ _ => ⟨none, 0, rfl, fun i hi => by omega⟩⟩
  · refine ⟨(none, none), fun _ => .slice (some ⟨0, 0, some 0⟩) 0 0, ⟨fun o h => by (cases h), fun b s h => by cases h⟩, fun ρ k _ => ?_, fun _ => [], fun i hi => by omega, fun G k _ _ => ⟨some ⟨0, 0, some 0⟩, 0, rfl, fun i hi => by omega⟩⟩
    simp only [VRel]
    exact ⟨trivial, trivial, x, cap, fun h => by omega, fun h => by omega, rfl⟩
  · refine ⟨(some (.cells (cc.toList.map san) e fz false), some (x.block, (0, 0))), fun k => .slice (some ⟨k, x.off, none⟩) len cap, ⟨fun o h b s hr => ?_, fun b s hr => ?_⟩, fun ρ k hr => ?_, fun i => (cc.toList.drop (x.off + i * ks.length)).take ks.length, hf, fun G k hk hg => ?_⟩
    · cases h; cases hr
      refine ⟨_, hb, fun ρ => ⟨cc, rfl, ?_, by simp, fun h => by cases h⟩⟩
      rw [List.length_map, List.drop_zero, List.take_of_length_le (by simp)]
      exact san_rel _
    · cases hr
      exact (Array.getElem?_eq_some_iff.1 hb).1
    · simp only [VRel]
      exact ⟨x.block, (0, 0), cap, hr, Nat.le_refl _, by simp, by cases x; simp at hs; subst hs; rfl⟩
    · refine ⟨_, _, rfl, fun i hi => ⟨k, x.off, _, rfl, ⟨hk, e, fz, false, hg⟩, ?_, ?_⟩⟩
      · rw [← List.map_drop, ← List.map_take]
        exact san_flat (hf i hi)
      · rw [List.length_map]
        have : i * ks.length ≤ len * ks.length := Nat.mul_le_mul_right _ (by omega)
        simp; omega
/-- globals first, then blocks that came with the arguments -/
def oldOf (g : Nat) (gl : Nat → Option Blk) (rs : List OB) : Nat → Option Blk := fun i => if i < g then gl i else (rs[i - g]?).bind (·.1)
def rhoOf (g : Nat) (rs : List OB) : Rho := fun i => if i < g then some (i, (0, 0)) else (rs[i - g]?).bind (·.2)
def GlOk (P : Program) (g : Nat) (gl : Nat → Option Blk) (w : World) : Prop := ∀ i o, i < g → gl i = some o → ∃ o', w.heap[i]? = some o' ∧ ∀ ρ, BRel P ρ (0, 0) o o'
theorem reads_of {g : Nat} {gl : Nat → Option Blk} {rs : List OB} (hg : P.globals.size ≤ g) (hsz : g ≤ w.heap.size) (hgl : GlOk P g gl w) (hr : ∀ r ∈ rs, OBok P w r) : Reads P (g + rs.length) (oldOf g gl rs) (rhoOf g rs) w where
  blk := fun i o hi ho b s hb => by
    unfold oldOf at ho; unfold rhoOf at hb
    split at ho
    · rename_i h
      rw [if_pos h] at hb
      cases hb
      obtain ⟨o', h1, h2⟩ := hgl i o h ho
      exact ⟨o', h1, h2 _⟩
    · rename_i h
      rw [if_neg h] at hb
      rw [List.getElem?_eq_getElem (by omega)] at ho hb
      obtain ⟨o', h1, h2⟩ := (hr _ (List.getElem_mem (by omega))).1 o ho b s hb
      exact ⟨o', h1, h2 _⟩
  low := fun i b s hi hb => by
    unfold rhoOf at hb
    split at hb
    · cases hb; omega
    · rw [List.getElem?_eq_getElem (by omega)] at hb
      exact (hr _ (List.getElem_mem (by omega))).2 b s hb
  none := fun i hi => by unfold rhoOf; rw [if_neg (by omega), List.getElem?_eq_none (by omega)]; rfl
  glob := fun i hi => by unfold rhoOf; rw [if_pos (by omega)]
theorem oldOf_at {g i : Nat} {gl : Nat → Option Blk} {rs : List OB} {r : OB} (h : rs[i]? = some r) : oldOf g gl rs (g + i) = r.1 := by unfold oldOf; rw [if_neg (by omega), show g + i - g = i by omega, h]; rfl
theorem rhoOf_at {g i : Nat} {rs : List OB} {r : OB} (h : rs[i]? = some r) : rhoOf g rs (g + i) = r.2 := by unfold rhoOf; rw [if_neg (by omega), show g + i - g = i by omega, h]; rfl
theorem oldOf_gl {g i : Nat} {gl : Nat → Option Blk} {rs : List OB} (h : i < g) : oldOf g gl rs i = gl i := by unfold oldOf; rw [if_pos h]
theorem hs_start {base : Nat} {old : Nat → Option Blk} : Hs ⟨base, old⟩ (Go.Ab.start base old) [] where
  base := rfl
  old := rfl
  wf := Nat.le_refl _
  fr := fun i hi => by rw [start_get, if_neg (Nat.not_lt.2 (show base ≤ i from hi))]
  res := ⟨Res.emp, rfl, ⟨fun b o v h => by simp [Res.emp] at h, fun b h => by simp [Res.emp] at h, fun b e x n h => by simp [Res.emp] at h, fun b o h => by simp [Res.emp] at h⟩⟩
end Go.Ab
end
section
namespace Go.Ab
open Go Go.RowKit
variable {P : Program} {H : Type}
def partsD (f : DataW H → Option (List Value)) (w : Nat) : List (DataW H) → Option (List Value)
  | [] => some []
  | d :: ds => match f d with
    | some c => if c.length = w then (partsD f w ds).map (c ++ ·) else none
    | none => none
def fieldsD (f : TypeId → DataW H → Option (List Value)) (w : TypeId → Nat) : List Field → List (DataW H) → Nat → Option (List Value)
  | [], [], _ => some []
  | x :: fs, d :: ds, o => match f x.type d with
    | some c => if x.offset = o ∧ c.length = w x.type then (fieldsD f w fs ds (o + c.length)).map (c ++ ·) else none
    | none => none
  | _, _, _ => none
/-- the cells that a datum of integers, bools and strings tells -/
def cellsD (P : Program) : Nat → TypeId → DataW H → Option (List Value)
  | 0, _, _ => none
  | n + 1, t, d => match P.underlying t, d with
    | some (.int _), .lit (.int k m) => some [.int k m]
    | some .bool, .lit (.bool b) => some [.bool b]
    | some .string, .lit (.string s) => some [.string ⟨s.toArray⟩]
    | some (.array _ e), .agg ds => match partsD (cellsD P n e) (P.cellsOf e) ds with
      | some l => if l.length = P.cellsOf t then some l else none
      | none => none
    | some (.struct fs), .agg ds => match fieldsD (cellsD P n) P.cellsOf fs.toList ds 0 with
      | some l => if l.length = P.cellsOf t then some l else none
      | none => none
    | _, _ => none
theorem partsD_len {f : DataW H → Option (List Value)} {w : Nat} : ∀ {ds : List (DataW H)} {l : List Value}, partsD f w ds = some l → l.length = ds.length * w
  | [], l, h => by simp [partsD] at h; subst h; simp
  | d :: ds, l, h => by
    unfold partsD at h
    split at h
    · rename_i c hc
      split at h
      · rename_i hl
        simp only [Option.map_eq_some_iff] at h
        obtain ⟨r, hr, rfl⟩ := h
        have := partsD_len hr
        simp [this, hl, Nat.succ_mul]; omega
      · cases h
    · cases h
theorem partsD_ok {f : DataW H → Option (List Value)} {w : Nat} {T : List Value → Option (DataW H × List MemPlace)} (ih : ∀ c x l, T c = some x → f x.1 = some l → c = l) : ∀ (xs : List (DataW H × List MemPlace)) (cs l : List Value),
    partsD f w (xs.map (·.1)) = some l → cs.length = xs.length * w → (∀ i, i < xs.length → T ((cs.drop (i * w)).take w) = xs[i]?) → cs = l
  | [], cs, l, h, hl, _ => by simp [partsD] at h; subst h; exact List.eq_nil_of_length_eq_zero (by simpa using hl)
  | x :: xs, cs, l, h, hl, hx => by
    simp only [List.map_cons, partsD] at h
    split at h
    · rename_i c hc
      split at h
      · rename_i hcl
        simp only [Option.map_eq_some_iff] at h
        obtain ⟨r, hr, rfl⟩ := h
        have h0 := hx 0 (by simp)
        simp only [Nat.zero_mul, List.drop_zero, List.getElem?_cons_zero] at h0
        have e0 := ih _ _ _ h0 hc
        have e1 := partsD_ok ih xs (cs.drop w) r hr (by rw [List.length_drop, hl, List.length_cons, Nat.succ_mul]; omega) fun i hi => by
          have := hx (i + 1) (by simp; omega)
          rw [List.getElem?_cons_succ] at this
          rw [List.drop_drop, ← this, Nat.succ_mul, Nat.add_comm]
        rw [← List.take_append_drop w cs, e0, e1]
      · cases h
    · cases h
theorem fieldsD_ok {f : TypeId → DataW H → Option (List Value)} {w : TypeId → Nat} {T : TypeId → List Value → Option (DataW H × List MemPlace)} (ih : ∀ t c x l, T t c = some x → f t x.1 = some l → c = l) {cs : List Value} : ∀ (fs : List Field) (xs : List (DataW H × List MemPlace)) (o : Nat) (l : List Value),
    fieldsD f w fs (xs.map (·.1)) o = some l → (∀ (i : Nat) (x : Field), fs[i]? = some x → T x.type ((cs.drop x.offset).take (w x.type)) = xs[i]?) → (cs.drop o).take l.length = l
  | [], [], o, l, h, _ => by simp [fieldsD] at h; subst h; simp
  | [], _ :: _, _, _, h, _ => by simp [fieldsD] at h
  | _ :: _, [], _, _, h, _ => by simp [fieldsD] at h
  | y :: fs, x :: xs, o, l, h, hx => by
    simp only [List.map_cons, fieldsD] at h
    split at h
    · rename_i c hc
      split at h
      · rename_i hcl
        simp only [Option.map_eq_some_iff] at h
        obtain ⟨r, hr, rfl⟩ := h
        have h0 := hx 0 y rfl
        have e0 := ih _ _ _ _ h0 hc
        have e1 := fieldsD_ok ih fs xs (o + c.length) r hr fun i z hz => hx (i + 1) z hz
        rw [hcl.1, ← hcl.2] at e0
        rw [List.length_append, List.take_add, List.drop_drop, e0, e1]
      · cases h
    · cases h
variable {enc : TypeId × Value → H} {w : World} {base : Nat} {spare : Nat → Bool} {held : Bool}
theorem trod_cells : ∀ (n : Nat) {t : TypeId} {cs l : List Value} {x : DataW H × List MemPlace} {fuel : Nat}, DataW.trod enc P w base spare held fuel t cs = some x → cellsD P n t x.1 = some l → cs = l := by
  intro n
  induction n with
  | zero => intro t cs l x fuel _ h; cases h
  | succ n ih =>
    intro t cs l x fuel ht h
    unfold cellsD at h
    split at h
    · rename_i hu hd
      obtain ⟨m, rfl, hx, _⟩ := DataW.trod_int hu ht
      rw [hx] at hd
      cases hd; cases h; rfl
    · rename_i hu hd
      obtain ⟨m, rfl, hx⟩ := DataW.trod_bool hu ht
      rw [hx] at hd
      cases hd; cases h; rfl
    · rename_i hu hd
      obtain ⟨m, rfl, hx, _⟩ := DataW.trod_string hu ht
      rw [hx] at hd
      cases hd; cases h; rfl
    · rename_i hu hd
      obtain ⟨xs, m, _, hx, hl, hxl, hxs⟩ := DataW.trod_array hu ht
      rw [hx] at hd
      cases hd
      split at h
      · rename_i r hr
        split at h
        · rename_i hrl
          cases h
          have := partsD_len hr
          rw [List.length_map] at this
          exact partsD_ok (T := DataW.trod enc P w base spare held m _) (fun c y l h1 h2 => ih h1 h2) xs cs l hr (by rw [hl, ← hrl, this]) fun i hi => hxs i (by omega)
        · cases h
      · cases h
    · rename_i hu hd
      obtain ⟨xs, m, _, hx, hl, hxl, hxs⟩ := DataW.trod_struct hu ht
      rw [hx] at hd
      cases hd
      split at h
      · rename_i r hr
        split at h
        · rename_i hrl
          cases h
          have := fieldsD_ok (w := P.cellsOf) (T := fun t c => DataW.trod enc P w base spare held m t c) (fun t c y l h1 h2 => ih h1 h2) (cs := cs) _ xs 0 l hr fun i y hy => hxs i y (by rw [← hy, Array.getElem?_toList])
          rw [List.drop_zero, List.take_of_length_le (by omega)] at this
          exact this
        · cases h
      · cases h
    · cases h
theorem laidVars_mem {n : String} {d : DataW Unit} : ∀ {laid : List (String × DataW Unit)} {ps : List MemPlace}, DataW.LaidVars P w laid ps → (n, d) ∈ laid →
    ∃ g t cs fuel p, P.globalNamed n = some g ∧ (P.globals[g]?).map (·.type) = some t ∧ w.var? P n = some cs ∧ DataW.trod (fun _ => ()) P w 0 (fun _ => true) false fuel t cs.toList = some (d, p)
  | [], _, _, hm => by cases hm
  | (n', d') :: r, ps, h, hm => by
    obtain ⟨g, t, cs, fuel, p, q, h1, h2, h3, h4, h5, _⟩ := h
    rcases List.mem_cons.1 hm with e | e
    · cases e; exact ⟨g, t, cs, fuel, p, h1, h2, h3, h4⟩
    · exact laidVars_mem h5 e
/-- A LISTED VARIABLE's BLOCK. -/
theorem laid_block {laid : List (String × DataW Unit)} {n : String} {d : DataW Unit} {g : Nat} {t : TypeId} {l : List Value} (fuel : Nat) (hp : (laid.all fun x => x.2.handleName?.isNone) = true) (h : laidMetH P laid w) (hm : (n, d) ∈ laid)
    (hg : P.globalNamed n = some g) (ht : (P.globals[g]?).map (·.type) = some t) (hc : cellsD P fuel t d = some l) : ∃ e fz, w.heap[g]? = some (.cells ⟨l⟩ e fz) := by
  rw [Go.MakeChecks.laidMetH_plain _ _ _ hp] at h
  obtain ⟨ps, hv, _⟩ := h
  obtain ⟨g', t', cs, f, p, h1, h2, h3, h4⟩ := laidVars_mem hv hm
  obtain rfl := Option.some.inj (hg.symm.trans h1)
  obtain rfl := Option.some.inj (ht.symm.trans h2)
  have := trod_cells fuel h4 hc
  simp only [World.var?, hg, Option.bind_some] at h3
  split at h3
  · rename_i c e fz hb
    cases h3
    refine ⟨e, fz, ?_⟩
    rw [hb]
    cases cs; simp at this; subst this; rfl
  · cases h3
end Go.Ab
end
section
namespace Go.Ab
open Go Go.RowKit Go.ChangeShapes Go.WideShapes Go.ChangeAt
variable {H : Type} {enc : TypeId × Value → H}
def rowedB (P : Program) (ts : List TypeId) : Bool := ts.all fun t => P.readableRec t && decide (t < P.types.size)
theorem all_stays {P : Program} (hl : laidOutB P = true) {W W' : World} (hb : Below W.heap.size W W') : ∀ (ts : List TypeId) {vs : List Value} {ds : List (DataW H)} {ps : List MemPlace}, rowedB P ts = true →
    DataW.TrodAll enc P W 0 (fun _ => true) true ts vs ds ps → DataW.TrodAll enc P W' 0 (fun b => decide (b < W.heap.size)) true ts vs ds ps
  | [], vs, ds, ps, _, h => by
    obtain ⟨rfl, rfl, rfl⟩ := trodAll_nil h
    exact trodAll_mk0
  | t :: ts, vs, ds, ps, hr, h => by
    obtain ⟨v, vs', d, ds', p, q, rfl, rfl, rfl, h1, h2⟩ := trodAll_cons h
    simp only [rowedB, List.all_cons, Bool.and_eq_true, decide_eq_true_eq] at hr
    have lt0 : ∀ x ∈ p, x.block < W.heap.size := by obtain ⟨m, hm⟩ := h1; exact DataW.trod_lt m _ _ _ hm
    exact trodAll_cons_mk (Below.trod hl hr.1.1 hr.1.2 h1 hb lt0) (all_stays hl hb ts hr.2 h2)
theorem all_len {P : Program} {w : World} {base : Nat} {spare : Nat → Bool} {held : Bool} : ∀ (ts : List TypeId) {vs : List Value} {ds : List (DataW H)} {ps : List MemPlace},
    DataW.TrodAll enc P w base spare held ts vs ds ps → ds.length = ts.length
  | [], vs, ds, ps, h => by obtain ⟨rfl, rfl, rfl⟩ := trodAll_nil h; rfl
  | t :: ts, vs, ds, ps, h => by
    obtain ⟨v, vs', d, ds', p, q, rfl, rfl, rfl, h1, h2⟩ := trodAll_cons h
    simp [all_len ts h2]
theorem law_lifted {C : Checked} {os : Os} (started : os.Started) {f : FuncId} {fn : Func} {s : ChangeSpec} {laid : List (String × DataW Unit)} {tb : TypeId} {fresh handsOn : Bool}
    (own : ownKnob C.prog.godebug = none) (noInit : C.prog.inits.idxOf? f = none) (hfn : C.prog.funcs[f]? = some fn) (hlo : laidOutB C.prog = true) (hps : rowedB C.prog fn.params.toList = true)
    (hres : fn.resultTypes = #[tb]) (htb : C.prog.underlying tb = some .bool) (hvars : s.vars = [])
    (hspec : ∀ ds : List (DataW H), ds.length = fn.params.size → s.fn H ds = { results := [.lit (.bool true)], args := ds })
    (witness : ∃ (w : World) (tape : Tape) (i : Input), w.os = os ∧ (w.forCall tape i).Shaped C.prog ∧ i.vars = [] ∧ Input.okWide C.prog (w.forCall tape i) .any w.heap.size f i ∧
      ((s.pre enc C.prog fn [] false (w.forCall tape i).memory i.args ∧ laidMetH C.prog laid (w.forCall tape i).memory) ∧ sizedMet enc C.prog fn (OpenSpec.ofChange s) false (w.forCall tape i).memory i.args) ∧ ({} : Assume).holds C.prog (lone (Frame.enter C.prog f i.args .normal) [] (w.forCall tape i)))
    (walk : ∀ (W : World) (base : Nat) (args : List Value) (ds : List (DataW H)) (ps : List MemPlace), DataW.TrodAll enc C.prog W 0 (fun _ => true) true fn.params.toList args ds ps →
      (∀ (j : Nat) t v, fn.params[j]? = some t → args[j]? = some v → Value.okWide C.prog W .any base t v) → laidMetH C.prog laid W → Calls C.prog f ⟨args⟩ W fun e W' => e = .returned (.bool true) ∧ Below W.heap.size W W') :
    ReturnsInHanded {} C os f .any (fun w args => (s.pre enc C.prog fn [] false w args ∧ laidMetH C.prog laid w) ∧ sizedMet enc C.prog fn (OpenSpec.ofChange s) false w args) (s.post enc C.prog fn false fresh handsOn false) := by
  refine returnsInHanded_of_change_and (C := C) (X := fun w _ => laidMetH C.prog laid w) (fun _ _ _ hh h => h.of_heap hh) own started noInit hfn witness ?_
  intro W base args ds gs before hval hW _ _ hL _
  have hW' := hW
  obtain ⟨p, q, hA, hV, rfl, hfz, hnd⟩ := hW
  rw [hvars] at hV
  obtain ⟨rfl, rfl⟩ := trodVars_none hV
  have hsp := hspec ds (by rw [all_len _ hA]; simp)
  obtain ⟨args⟩ := args
  refine (walk W base args ds p hA (fun j t v h1 h2 => hval j t v h1 (by simpa using h2)) hL).mono fun e W' ⟨he, bel⟩ => ?_
  subst he
  refine ⟨_, rfl, ds, [], _, [], p, [], hW', ?_, ?_, ?_, bel.frame _, fun h => by cases h⟩
  · rw [List.append_nil, hsp, hres]
    exact trodAll_mk1 (shut_bool htb _)
  · rw [List.append_nil, hsp]
    exact all_stays hlo bel _ hps hA
  · rw [List.append_nil, hsp, hvars]
    rfl
theorem flat_int {k : IntKind} {ks : List (Option IntKind)} {l : List Value} (h : Flat (some k :: ks) l) : ∃ (n : Int) (l' : List Value), l = .int k n :: l' ∧ Flat ks l' := by
  cases l with
  | nil => exact h.elim
  | cons v l => obtain ⟨⟨n, rfl, _⟩, h⟩ := h; exact ⟨n, l, rfl, h⟩
theorem flat_intW {k : IntKind} {ks : List (Option IntKind)} {l : List Value} (h : Flat (some k :: ks) l) : ∃ (n : Int) (l' : List Value), l = .int k n :: l' ∧ (Lit.int k n).wf = true ∧ Flat ks l' := by
  cases l with
  | nil => exact h.elim
  | cons v l => obtain ⟨⟨n, rfl, hw⟩, h⟩ := h; exact ⟨n, l, rfl, hw, h⟩
theorem wf_i64 {n : Int} (h : (Lit.int .i64 n).wf = true) : -9223372036854775808 ≤ n ∧ n ≤ 9223372036854775807 := by
  simp [Lit.wf, IntKind.min, IntKind.max, IntKind.signed, IntKind.bits] at h
  omega
theorem flat_bool {ks : List (Option IntKind)} {l : List Value} (h : Flat (none :: ks) l) : ∃ (n : Bool) (l' : List Value), l = .bool n :: l' ∧ Flat ks l' := by
  cases l with
  | nil => exact h.elim
  | cons v l => obtain ⟨⟨n, rfl⟩, h⟩ := h; exact ⟨n, l, rfl, h⟩
theorem flat_nil {l : List Value} (h : Flat [] l) : l = [] := by
  cases l with
  | nil => rfl
  | cons v l => exact h.elim
theorem open_rowF {P : Program} {W : World} {base : Nat} {t e : TypeId} {v : Value} {d : DataW H} {p : List MemPlace} {n : Nat} {ks : List (Option IntKind)} (ht : P.underlying t = some (.slice e)) (he : flatT P n e = some ks) (hc : P.cellsOf e = ks.length) (h0 : 0 < ks.length)
    (hok : Value.okWide P W .any base t v) (h : DataW.Trod enc P W 0 (fun _ => true) true t v d p) : ∃ a len cap, v = .slice a len cap ∧ FlatRow ks W a len cap := by
  obtain ⟨a, len, cap, rfl⟩ := okWide_slice ht hok
  obtain ⟨fuel, hf⟩ := h
  obtain ⟨a', len', cap', hcs, hr⟩ := open_flat ht he hc h0 hf
  simp [Value.cells] at hcs
  obtain ⟨rfl, rfl, rfl⟩ := hcs
  exact ⟨_, _, _, rfl, hr⟩
theorem open_structF {P : Program} {W : World} {base : Nat} {t : TypeId} {fs : Array Field} {v : Value} {d : DataW H} {p : List MemPlace} {n : Nat} {ks : List (Option IntKind)} (ht : P.underlying t = some (.struct fs)) (he : flatT P n t = some ks)
    (hok : Value.okWide P W .any base t v) (h : DataW.Trod enc P W 0 (fun _ => true) true t v d p) : ∃ l, v = .agg ⟨l⟩ ∧ Flat ks l := by
  simp only [Value.okWide, ht] at hok
  obtain ⟨cs, rfl, _, _⟩ := hok
  obtain ⟨fuel, hf⟩ := h
  obtain ⟨l⟩ := cs
  exact ⟨l, rfl, trod_flat n he hf⟩
theorem open_arrayF {P : Program} {W : World} {base : Nat} {t e : TypeId} {m : Nat} {v : Value} {d : DataW H} {p : List MemPlace} {n : Nat} {ks : List (Option IntKind)} (ht : P.underlying t = some (.array m e)) (he : flatT P n t = some ks)
    (hok : Value.okWide P W .any base t v) (h : DataW.Trod enc P W 0 (fun _ => true) true t v d p) : ∃ l, v = .agg ⟨l⟩ ∧ Flat ks l := by
  simp only [Value.okWide, ht] at hok
  obtain ⟨cs, rfl, _, _⟩ := hok
  obtain ⟨fuel, hf⟩ := h
  obtain ⟨l⟩ := cs
  exact ⟨l, rfl, trod_flat n he hf⟩
end Go.Ab
end
