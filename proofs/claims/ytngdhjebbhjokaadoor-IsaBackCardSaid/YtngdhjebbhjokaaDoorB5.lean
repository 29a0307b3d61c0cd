/- Texts as lists of bytes. -/
import Derived.Test.YtngdhjebbhjokaaDoorB3
import Derived.ChangeArms
import Derived.OpenShut
import Derived.Test.YtngdhjebbhjokaaDoorB4
import Derived.ChangeSlices
import Derived.Lib.ItoaNum
import Derived.Lib.Bytes
section
namespace Go.Ab
open Go
variable {P : Program}
/-- integers (of a kind) and bools of a type -/
def catT (f : TypeId → Option (List (Option IntKind))) : List Field → Nat → Option (List (Option IntKind))
  | [], _ => some []
  | x :: l, o => if x.offset = o then match f x.type with
    | some a => (catT f l (o + a.length)).map fun b => a ++ b
    | none => none
    else none
def flatT (P : Program) : Nat → TypeId → Option (List (Option IntKind))
  | 0, _ => none
  | n + 1, t => match P.underlying t with
    | some (.int k) => some [some k]
    | some .bool => some [none]
    | some (.array m e) => match flatT P n e with
      | some l => if P.cellsOf e = l.length ∧ P.cellsOf t = m * l.length then some (List.replicate m l).flatten else none
      | none => none
    | some (.struct fs) => if fs.toList.all (fun x => (flatT P n x.type).any fun l => l.length == P.cellsOf x.type) then
        (catT (flatT P n) fs.toList 0).bind fun l => if P.cellsOf t = l.length then some l else none else none
    | _ => none
def kindV : Option IntKind → Value → Prop
  | some k, v => ∃ n, v = .int k n ∧ (Lit.int k n).wf = true
  | none, v => ∃ b, v = .bool b
def Flat : List (Option IntKind) → List Value → Prop
  | [], [] => True
  | k :: ks, v :: vs => kindV k v ∧ Flat ks vs
  | _, _ => False
theorem Flat.len : ∀ {ks : List (Option IntKind)} {vs : List Value}, Flat ks vs → vs.length = ks.length
  | [], [], _ => rfl
  | _ :: _, _ :: _, h => by simp [Flat.len h.2]
theorem Flat.append : ∀ {ks js : List (Option IntKind)} {vs ws : List Value}, Flat ks vs → Flat js ws → Flat (ks ++ js) (vs ++ ws)
  | [], _, [], _, _, h => h
  | _ :: _, _, _ :: _, _, h, h' => ⟨h.1, Flat.append h.2 h'⟩
theorem flat_rep {l : List (Option IntKind)} : ∀ (m : Nat) (cs : List Value), cs.length = m * l.length → (∀ i, i < m → Flat l ((cs.drop (i * l.length)).take l.length)) → Flat (List.replicate m l).flatten cs := by
  intro m
  induction m with
  | zero => intro cs hl _; have : cs = [] := List.eq_nil_of_length_eq_zero (by omega); subst this; trivial
  | succ m ih =>
    intro cs hl h
    rw [List.replicate_succ, List.flatten_cons, ← List.take_append_drop l.length cs]
    refine Flat.append (by simpa using h 0 (by omega)) (ih _ (by rw [List.length_drop, hl, Nat.succ_mul]; omega) fun i hi => ?_)
    have := h (i + 1) (by omega)
    rw [List.drop_drop]
    rwa [Nat.succ_mul, Nat.add_comm] at this
theorem flat_cat {f : TypeId → Option (List (Option IntKind))} {cs : List Value} : ∀ (l : List Field) (o : Nat) (ks : List (Option IntKind)), catT f l o = some ks → (∀ x ∈ l, ∀ a, f x.type = some a → Flat a ((cs.drop x.offset).take a.length)) → Flat ks ((cs.drop o).take ks.length) := by
  intro l
  induction l with
  | nil => intro o ks h _; simp [catT] at h; subst h; simp [Flat]
  | cons x l ih =>
    intro o ks h hall
    unfold catT at h
    split at h
    · rename_i ho
      cases hf : f x.type with
      | none => rw [hf] at h; cases h
      | some a =>
        rw [hf] at h
        simp only [Option.map_eq_some_iff] at h
        obtain ⟨b, hb, rfl⟩ := h
        have h1 := hall x List.mem_cons_self a hf
        have h2 := ih _ b hb (fun y hy => hall y (List.mem_cons_of_mem _ hy))
        rw [ho] at h1
        rw [List.length_append, List.take_add, List.drop_drop]
        exact Flat.append h1 h2
    · cases h
variable {H : Type} {enc : TypeId × Value → H} {w : World} {base : Nat} {spare : Nat → Bool} {held : Bool}
theorem trod_flat : ∀ (n : Nat) {t : TypeId} {ks : List (Option IntKind)} {cs : List Value} {x : DataW H × List MemPlace} {fuel : Nat}, flatT P n t = some ks → DataW.trod enc P w base spare held fuel t cs = some x → Flat ks cs := by
  intro n
  induction n with
  | zero => intro t ks cs x fuel h; cases h
  | succ n ih =>
    intro t ks cs x fuel h ht
    unfold flatT at h
    split at h
    · rename_i k hu
      cases h
      obtain ⟨m, rfl, _, hw⟩ := DataW.trod_int hu ht
      exact ⟨⟨m, rfl, hw⟩, trivial⟩
    · rename_i hu
      cases h
      obtain ⟨m, rfl, _⟩ := DataW.trod_bool hu ht
      exact ⟨⟨m, rfl⟩, trivial⟩
    · rename_i m e hu
      cases hf : flatT P n e with
      | none => rw [hf] at h; cases h
      | some l =>
        rw [hf] at h
        simp only at h
        split at h
        · rename_i hc
          cases h
          obtain ⟨xs, _, _, _, hl, hxl, hx⟩ := DataW.trod_array hu ht
          refine flat_rep m cs (by rw [hl]; exact hc.2) fun i hi => ?_
          have h1 := hx i hi
          rw [List.getElem?_eq_getElem (by omega), hc.1] at h1
          exact ih hf h1
        · cases h
    · rename_i fs hu
      split at h
      · rename_i hall
        simp only [Option.bind_eq_some_iff] at h
        obtain ⟨l, hl, h⟩ := h
        split at h
        · rename_i hc
          cases h
          obtain ⟨xs, _, _, _, hcs, hxl, hx⟩ := DataW.trod_struct hu ht
          have := flat_cat (cs := cs) fs.toList 0 ks hl (fun y hy a ha => by
            obtain ⟨i, hi, rfl⟩ := List.getElem_of_mem hy
            have h1 := hx i fs.toList[i] (by simp at hi; simp [hi])
            have hal := List.all_eq_true.1 hall _ hy
            rw [ha] at hal
            simp at hal
            simp at hi
            rw [List.getElem?_eq_getElem (by omega)] at h1
            have := ih ha h1
            simp only [Array.getElem_toList] at this ⊢
            rw [← hal] at this
            exact this)
          rw [List.drop_zero, List.take_of_length_le (by rw [hcs, hc]; exact Nat.le_refl _)] at this
          exact this
        · cases h
      · cases h
    · cases h
end Go.Ab
end
section
namespace Go.Ab
open Go Go.RowKit
variable {P : Program}
/-- integers and bools alone are looked at -/
def san : Value → Value
  | .int k n => .int k n
  | .bool b => .bool b
  | _ => top
theorem san_rel {ρ : Rho} : ∀ l : List Value, LRel ρ (l.map san) l
  | [] => rfl
  | v :: l => by
    refine LRel.cons ?_ (san_rel l)
    cases v <;> simp [san, top, VRel]
theorem san_flat : ∀ {ks : List (Option IntKind)} {l : List Value}, Flat ks l → l.map san = l
  | [], [], _ => rfl
  | none :: ks, v :: l, h => by
    obtain ⟨⟨b, rfl⟩, h2⟩ := h
    simp [san, san_flat h2]
  | some k :: ks, v :: l, h => by
    obtain ⟨⟨b, rfl, _⟩, h2⟩ := h
    simp [san, san_flat h2]
/-- a slice whose parts are flat -/
def FlatRow (ks : List (Option IntKind)) (w : World) (a : Option Addr) (len cap : Nat) : Prop :=
  (a = none ∧ len = 0 ∧ cap = 0) ∨ (∃ x, a = some x ∧ len = 0) ∨
  ∃ x cc e fz, a = some x ∧ 0 < len ∧ x.spot = none ∧ len ≤ cap ∧ w.heap[x.block]? = some (.cells cc e fz) ∧ x.off + len * ks.length ≤ cc.size ∧
    ∀ i, i < len → Flat ks ((cc.toList.drop (x.off + i * ks.length)).take ks.length)
theorem add_at {x : Addr} {i : Nat} (h : x.spot = none) : x.add i = ⟨x.block, x.off + i, none⟩ := by
  unfold Addr.add
  split
  · rename_i hi; subst hi; cases x; simp at h; subst h; rfl
  · rfl
variable {H : Type} {enc : TypeId × Value → H} {w : World} {base : Nat} {spare : Nat → Bool} {held : Bool}
theorem open_flat {t e : TypeId} {n fuel : Nat} {ks : List (Option IntKind)} {cs : List Value} {x : DataW H × List MemPlace} (ht : P.underlying t = some (.slice e)) (he : flatT P n e = some ks) (hc : P.cellsOf e = ks.length) (h0 : 0 < ks.length)
    (h : DataW.trod enc P w base spare held fuel t cs = some x) : ∃ a len cap, cs = [.slice a len cap] ∧ FlatRow ks w a len cap := by
  rcases DataW.trod_slice ht h with ⟨rfl, _⟩ | ⟨a, len, cap, elems, rest, m, _, rfl, _, hb, hl, hm, hlen, hel, _, _⟩
  · exact ⟨none, 0, 0, rfl, .inl ⟨rfl, rfl, rfl⟩⟩
  refine ⟨some a, len, cap, rfl, ?_⟩
  rcases Nat.eq_zero_or_pos len with hz | hz
  · exact .inr (.inl ⟨a, rfl, hz⟩)
  refine .inr (.inr ?_)
  have each : ∀ i, i < len → ∃ c : List Value, Flat ks c ∧ c.length = ks.length ∧ ∀ j, j < ks.length → w.cell? ((a.add (i * ks.length)).add j) = c[j]? := by
    intro i hi
    have h1 := hel i hi
    rw [List.getElem?_eq_getElem (by omega), hc, Option.bind_eq_some_iff] at h1
    obtain ⟨c, hcs, hy⟩ := h1
    refine ⟨c, trod_flat n he hy, ?_, fun j hj => ?_⟩
    · unfold World.cells? at hcs
      split at hcs
      · have := mapM_some_length hcs; simpa using this
      · cases hcs
    · unfold World.cells? at hcs
      split at hcs
      · exact mapM_some_get hcs j j (by simp [hj])
      · cases hcs
  obtain ⟨c0, hf0, hl0, hc0⟩ := each 0 hz
  have h00 := hc0 0 h0
  rw [List.getElem?_eq_getElem (by omega)] at h00
  obtain ⟨cc, e', fz, hb, hs⟩ : ∃ cc e fz, w.heap[a.block]? = some (.cells cc e fz) ∧ a.spot = none := by
    have hx0 : (a.add (0 * ks.length)).add 0 = a := by rw [Nat.zero_mul]; rfl
    rw [hx0] at h00
    unfold World.cell? at h00
    split at h00
    · rename_i c e fz hb
      split at h00
      · cases h00
      · rename_i hs
        exact ⟨c, e, fz, hb, by simpa using hs⟩
    · cases h00
  have hcell : ∀ o, w.cell? ⟨a.block, o, none⟩ = cc[o]? := by
    intro o
    unfold World.cell?
    rw [hb]
    simp
  have hat : ∀ i, i < len → ∃ c : List Value, Flat ks c ∧ c.length = ks.length ∧ ∀ j, j < ks.length → cc[a.off + i * ks.length + j]? = c[j]? := by
    intro i hi
    obtain ⟨c, hf, hcl, hj⟩ := each i hi
    refine ⟨c, hf, hcl, fun j hjl => ?_⟩
    rw [← hj j hjl, add_at hs, add_at rfl]
    exact (hcell _).symm
  refine ⟨a, cc, e', fz, rfl, hz, hs, hl, hb, ?_, ?_⟩
  · obtain ⟨c, hf, hcl, hj⟩ := hat (len - 1) (by omega)
    have := hj (ks.length - 1) (by omega)
    rw [List.getElem?_eq_getElem (by omega)] at this
    have h2 := (Array.getElem?_eq_some_iff.1 this).1
    have : len * ks.length = (len - 1) * ks.length + ks.length := by
      conv => lhs; rw [show len = (len - 1) + 1 by omega, Nat.succ_mul]
    omega
  · intro i hi
    obtain ⟨c, hf, hcl, hj⟩ := hat i hi
    have : (cc.toList.drop (a.off + i * ks.length)).take ks.length = c := by
      apply List.ext_getElem?
      intro j
      rw [List.getElem?_take]
      split
      · rename_i hjl
        rw [List.getElem?_drop, Array.getElem?_toList, hj j hjl]
      · rename_i hjl
        rw [List.getElem?_eq_none (by omega)]
    rw [this]; exact hf
/-- a slice that is only read -/
def OldS (G : Bg) (W : Nat) (v : Value) (n : Nat) (at' : Nat → List Value) : Prop := ∃ a c, v = .slice a n c ∧ ∀ i, i < n → ∃ b o cells, a = some ⟨b, o, none⟩ ∧ Ob G b cells ∧ (cells.drop (o + i * W)).take W = at' i ∧ o + i * W ≤ cells.length
/-- an old block: what is read of it, and the world's block -/
abbrev OB := Option Blk × Option (Nat × (Nat × Nat))
def OBok (P : Program) (w : World) (r : OB) : Prop :=
  (∀ o, r.1 = some o → ∀ b s, r.2 = some (b, s) → ∃ o', w.heap[b]? = some o' ∧ ∀ ρ, BRel P ρ s o o') ∧ (∀ b s, r.2 = some (b, s) → b < w.heap.size)
theorem row_old (P : Program) {ks : List (Option IntKind)} {a : Option Addr} {len cap : Nat} (h : FlatRow ks w a len cap) : ∃ (r : OB) (t : Nat → Value), OBok P w r ∧
    (∀ ρ k, ρ k = r.2 → VRel ρ (t k) (.slice a len cap)) ∧ ∃ at' : Nat → List Value, (∀ i, i < len → Flat ks (at' i)) ∧ ∀ (G : Bg) k, k < G.base → G.old k = r.1 → OldS G ks.length (t k) len at' := by
  rcases h with ⟨rfl, rfl, rfl⟩ | ⟨x, rfl, rfl⟩ | ⟨x, cc, e, fz, rfl, h0, hs, hl, hb, hsz, hf⟩
  · refine ⟨(none, none), fun _ => .slice none 0 0, ⟨fun o h => by (cases h), fun b s h => by cases h⟩, fun ρ k _ => by simp only [VRel], fun _ => [], fun i hi => by omega, fun G k _ _ => ⟨none, 0, rfl, fun i hi => by omega⟩⟩
  · refine ⟨(none, none), fun _ => .slice (some ⟨0, 0, some 0⟩) 0 0, ⟨fun o h => by (cases h), fun b s h => by cases h⟩, fun ρ k _ => ?_, fun _ => [], fun i hi => by omega, fun G k _ _ => ⟨some ⟨0, 0, some 0⟩, 0, rfl, fun i hi => by omega⟩⟩
    simp only [VRel]
    exact ⟨trivial, trivial, x, cap, fun h => by omega, fun h => by omega, rfl⟩
  · refine ⟨(some (.cells (cc.toList.map san) e fz false), some (x.block, (0, 0))), fun k => .slice (some ⟨k, x.off, none⟩) len cap, ⟨fun o h b s hr => ?_, fun b s hr => ?_⟩, fun ρ k hr => ?_, fun i => (cc.toList.drop (x.off + i * ks.length)).take ks.length, hf, fun G k hk hg => ?_⟩
    · cases h; cases hr
      refine ⟨_, hb, fun ρ => ⟨cc, rfl, ?_, by simp, fun h => by cases h⟩⟩
      rw [List.length_map, List.drop_zero, List.take_of_length_le (by simp)]
      exact san_rel _
    · cases hr
      exact (Array.getElem?_eq_some_iff.1 hb).1
    · simp only [VRel]
      exact ⟨x.block, (0, 0), cap, hr, Nat.le_refl _, by simp, by cases x; simp at hs; subst hs; rfl⟩
    · refine ⟨_, _, rfl, fun i hi => ⟨k, x.off, _, rfl, ⟨hk, e, fz, false, hg⟩, ?_, ?_⟩⟩
      · rw [← List.map_drop, ← List.map_take]
        exact san_flat (hf i hi)
      · rw [List.length_map]
        have : i * ks.length ≤ len * ks.length := Nat.mul_le_mul_right _ (by omega)
        simp; omega
/-- globals first, then blocks that came with the arguments -/
def oldOf (g : Nat) (gl : Nat → Option Blk) (rs : List OB) : Nat → Option Blk := fun i => if i < g then gl i else (rs[i - g]?).bind (·.1)
def rhoOf (g : Nat) (rs : List OB) : Rho := fun i => if i < g then some (i, (0, 0)) else (rs[i - g]?).bind (·.2)
def GlOk (P : Program) (g : Nat) (gl : Nat → Option Blk) (w : World) : Prop := ∀ i o, i < g → gl i = some o → ∃ o', w.heap[i]? = some o' ∧ ∀ ρ, BRel P ρ (0, 0) o o'
theorem reads_of {g : Nat} {gl : Nat → Option Blk} {rs : List OB} (hg : P.globals.size ≤ g) (hsz : g ≤ w.heap.size) (hgl : GlOk P g gl w) (hr : ∀ r ∈ rs, OBok P w r) : Reads P (g + rs.length) (oldOf g gl rs) (rhoOf g rs) w where
  blk := fun i o hi ho b s hb => by
    unfold oldOf at ho; unfold rhoOf at hb
    split at ho
    · rename_i h
      rw [if_pos h] at hb
      cases hb
      obtain ⟨o', h1, h2⟩ := hgl i o h ho
      exact ⟨o', h1, h2 _⟩
    · rename_i h
      rw [if_neg h] at hb
      rw [List.getElem?_eq_getElem (by omega)] at ho hb
      obtain ⟨o', h1, h2⟩ := (hr _ (List.getElem_mem (by omega))).1 o ho b s hb
      exact ⟨o', h1, h2 _⟩
  low := fun i b s hi hb => by
    unfold rhoOf at hb
    split at hb
    · cases hb; omega
    · rw [List.getElem?_eq_getElem (by omega)] at hb
      exact (hr _ (List.getElem_mem (by omega))).2 b s hb
  none := fun i hi => by unfold rhoOf; rw [if_neg (by omega), List.getElem?_eq_none (by omega)]; rfl
  glob := fun i hi => by unfold rhoOf; rw [if_pos (by omega)]
theorem oldOf_at {g i : Nat} {gl : Nat → Option Blk} {rs : List OB} {r : OB} (h : rs[i]? = some r) : oldOf g gl rs (g + i) = r.1 := by unfold oldOf; rw [if_neg (by omega), show g + i - g = i by omega, h]; rfl
theorem rhoOf_at {g i : Nat} {rs : List OB} {r : OB} (h : rs[i]? = some r) : rhoOf g rs (g + i) = r.2 := by unfold rhoOf; rw [if_neg (by omega), show g + i - g = i by omega, h]; rfl
theorem oldOf_gl {g i : Nat} {gl : Nat → Option Blk} {rs : List OB} (h : i < g) : oldOf g gl rs i = gl i := by unfold oldOf; rw [if_pos h]
theorem hs_start {base : Nat} {old : Nat → Option Blk} : Hs ⟨base, old⟩ (Go.Ab.start base old) [] where
  base := rfl
  old := rfl
  wf := Nat.le_refl _
  fr := fun i hi => by rw [start_get, if_neg (Nat.not_lt.2 (show base ≤ i from hi))]
  res := ⟨Res.emp, rfl, ⟨fun b o v h => by simp [Res.emp] at h, fun b h => by simp [Res.emp] at h, fun b e x n h => by simp [Res.emp] at h, fun b o h => by simp [Res.emp] at h⟩⟩
end Go.Ab
end
section
namespace Go.Ab
variable {P : Program} {K : FuncId → List Value → Option Ans} {G : Bg} {h : AH} {L L' M : List HP}
def rdS (G : Bg) (W : Nat) (e : TypeId) (v : Value) (l : List (List Value)) : HP := fun r =>
  (∀ x ∈ l, x.length = W) ∧ ((OldS G W v l.length (fun i => l.getD i []) ∧ r = Res.emp) ∨ ∃ a c, v = .slice a l.length c ∧ slc W e a c (l.length, l.flatten) r)
variable {W : Nat} {e : TypeId} {v : Value} {l : List (List Value)}
theorem Hs.headP {A : HP} {p : Prop} (hs : Hs G h (A :: L)) (k : ∀ r, A r → p) : p := by
  obtain ⟨r, r2, h1, _⟩ := hs.fst
  exact k r h1
theorem rd_slice (hs : Hs G h (rdS G W e v l :: L)) : ∃ a c, v = .slice a l.length c := hs.headP fun r hr => by
  obtain ⟨_, ⟨⟨a, c, h1, _⟩, _⟩ | ⟨a, c, h1, _⟩⟩ := hr
  · exact ⟨a, c, h1⟩
  · exact ⟨a, c, h1⟩
theorem rd_lens (hs : Hs G h (rdS G W e v l :: L)) : ∀ x ∈ l, x.length = W := hs.headP fun _ hr => hr.1
theorem rd_old (hl : ∀ x ∈ l, x.length = W) (ho : OldS G W v l.length (fun i => l.getD i [])) (hs : Hs G h L) : Hs G h (rdS G W e v l :: L) :=
  Hs.join (A := []) hs fun r hr => ⟨hl, .inl ⟨ho, hr⟩⟩
theorem rd_own {a : Option Addr} {c n : Nat} {cs : List Value} (hl : ∀ x ∈ l, x.length = W) (hn : n = l.length) (hc : cs = l.flatten) (hs : Hs G h (slc W e a c (n, cs) :: L)) : Hs G h (rdS G W e (.slice a n c) l :: L) := by
  subst hn; subst hc
  exact Hs.join (A := [_]) hs fun r hr => ⟨hl, .inr ⟨a, c, rfl, star_one.1 hr⟩⟩
theorem flatten_at {W : Nat} : ∀ {l : List (List Value)} {i : Nat} {x : List Value}, (∀ x ∈ l, x.length = W) → l[i]? = some x → (l.flatten.drop (i * W)).take W = x ∧ i * W + W ≤ l.flatten.length
  | [], i, x, _, h => by simp at h
  | y :: l, 0, x, hl, h => by
    simp only [List.getElem?_cons_zero, Option.some.injEq] at h
    subst h
    have := hl y List.mem_cons_self
    simp [← this]
  | y :: l, i + 1, x, hl, h => by
    have hy := hl y List.mem_cons_self
    obtain ⟨h1, h2⟩ := flatten_at (fun z hz => hl z (List.mem_cons_of_mem _ hz)) (by simpa using h)
    rw [List.flatten_cons, show (i + 1) * W = y.length + i * W by rw [hy, Nat.succ_mul]; omega, List.drop_append, List.drop_of_length_le (by omega), Nat.add_sub_cancel_left, List.nil_append, List.length_append]
    exact ⟨h1, by omega⟩
/-- an element is read -/
theorem r_rd {i : Nat} {x : List Value} {k : Value → Prop} (hs : Hs G h (rdS G W e v l :: L)) (hW : 0 < W) (hx : l[i]? = some x) (hk : k (.agg ⟨x⟩)) : thn (idxS W v (I i)) fun p => thn (ldN h W p) k := by
  obtain ⟨hi, hxi⟩ := List.getElem?_eq_some_iff.1 hx
  have hxl : x.length = W := rd_lens hs x (hxi ▸ List.getElem_mem hi)
  obtain ⟨r, hst, hin⟩ := hs.res
  obtain ⟨r1, r2, hr, h2, hd, rfl⟩ := hst
  obtain ⟨hl, hr⟩ := hr
  rcases hr with ⟨ho, rfl⟩ | ⟨a, c, rfl, hr⟩
  · obtain ⟨a, c, rfl, hall⟩ := ho
    obtain ⟨b, o, cells, rfl, hob, hc, hle⟩ := hall i hi
    refine r_idxN hi ?_
    rw [show pt b (o + i * W) 0 = pt b o (i * W) by simp [pt]]
    refine r_ldNo hs hob (l := x) ?_ hxl hle hk
    rw [hc]
    simp [hx]
  · have hs' : Hs G h (slc W e a c (l.length, l.flatten) :: L) := ⟨hs.base, hs.old, hs.wf, hs.fr, ⟨_, ⟨r1, r2, hr, h2, hd, rfl⟩, hin⟩⟩
    obtain ⟨b, o, rfl, hs'⟩ := hs'.holeOpen (by omega)
    refine r_idxN hi ?_
    rw [show pt b (o + i * W) 0 = pt b o (i * W) by simp [pt]]
    exact r_ldN hs' hW (flatten_at hl hx).1 hxl hk
/-- a cell of an element is read -/
theorem r_rd1 {i j : Nat} {x : List Value} {u : Value} {k : Value → Prop} (hs : Hs G h (rdS G W e v l :: L)) (hx : l[i]? = some x) (hu : x[j]? = some u) (hk : k u) : thn (idxS W v (I i)) fun p => thn (padd j p) fun q => thn (ld1 h q) k := by
  obtain ⟨hi, hxi⟩ := List.getElem?_eq_some_iff.1 hx
  have hxl : x.length = W := rd_lens hs x (hxi ▸ List.getElem_mem hi)
  have hj : j < W := by rw [← hxl]; exact (List.getElem?_eq_some_iff.1 hu).1
  obtain ⟨r, hst, hin⟩ := hs.res
  obtain ⟨r1, r2, hr, h2, hd, rfl⟩ := hst
  obtain ⟨hl, hr⟩ := hr
  rcases hr with ⟨ho, rfl⟩ | ⟨a, c, rfl, hr⟩
  · obtain ⟨a, c, rfl, hall⟩ := ho
    obtain ⟨b, o, cells, rfl, hob, hc, hle⟩ := hall i hi
    refine r_idxN hi (r_padd ?_)
    refine r_ldo hs hob (o := o + i * W) (j := 0 + j) ?_ hk
    have h1 : (cells.drop (o + i * W)).take W = x := by rw [hc]; simp [hx]
    rw [← h1, List.getElem?_take_of_lt hj, List.getElem?_drop] at hu
    rw [Nat.zero_add]
    exact hu
  · have hs' : Hs G h (slc W e a c (l.length, l.flatten) :: L) := ⟨hs.base, hs.old, hs.wf, hs.fr, ⟨_, ⟨r1, r2, hr, h2, hd, rfl⟩, hin⟩⟩
    obtain ⟨b, o, rfl, hs'⟩ := hs'.holeOpen (by omega)
    refine r_idxN hi (r_padd ?_)
    rw [show pt b (o + i * W) (0 + j) = pt b o (i * W + j) by simp only [pt]; rw [Nat.zero_add, Nat.add_assoc]]
    refine r_ld hs' ?_ hk
    have h1 := (flatten_at hl hx).1
    rw [← h1, List.getElem?_take_of_lt hj, List.getElem?_drop] at hu
    exact hu
/-- a cell of a slice of one's own -/
theorem r_slc1 {n i c : Nat} {a : Option Addr} {cs : List Value} {u : Value} {k : Value → Prop} (hs : Hs G h L) [m : Has (slc 1 e a c) L (n, cs) L'] (hu : cs[i]? = some u) (hk : k u) : thn (idxS 1 (.slice a n c) (I i)) fun p => thn (ld1 h p) k := by
  have hs := m.of hs
  have hl := hs.slcLen
  simp only [Nat.mul_one] at hl
  have hi := (List.getElem?_eq_some_iff.1 hu).1
  obtain ⟨b, o, rfl, hs'⟩ := hs.holeOpen (by omega)
  refine r_idxN (by omega) ?_
  rw [show pt b (o + i * 1) 0 = pt b o i by simp [pt]]
  exact r_ld hs' hu hk
/-- a cell of a slice of one's own is written -/
theorem r_slcSet {n i c : Nat} {a : Option Addr} {cs : List Value} {v : Value} {k : AH → Prop} (hs : Hs G h L) [m : Has (slc 1 e a c) L (n, cs) L'] [hv : Cv v [v]] (hc : cellB v = true) (hi : i < n) (hk : ∀ h', Hs G h' (slc 1 e a c (n, cs.set i v) :: L') → k h') : thn (idxS 1 (.slice a n c) (I i)) fun p => thn (stV h 1 p v) k := by
  have hs := m.of hs
  have hl := hs.slcLen
  have hce := hs.slcCells
  simp only [Nat.mul_one] at hl
  obtain ⟨b, o, rfl, hs'⟩ := hs.holeOpen (by omega)
  refine r_idxN hi ?_
  rw [show pt b (o + i * 1) 0 = pt b o i by simp [pt]]
  refine r_sto hs' rfl (by simp; omega) (by simp [hc]) (by simp; omega) fun h' hs'' => ?_
  have e1 : setL cs i [v] = cs.set i v := by
    rw [← setL_splice cs i [v] (by simp; omega)]
    apply List.ext_getElem?
    intro j
    unfold splice
    rw [List.getElem?_set]
    simp only [List.length_singleton]
    by_cases hj : i = j
    · subst hj
      rw [if_pos rfl, if_pos (by omega), List.append_assoc, List.getElem?_append_right (by simp; omega)]
      simp [Nat.min_eq_left (show i ≤ cs.length by omega)]
    · rw [if_neg hj, List.append_assoc]
      by_cases hlt : j < i
      · rw [List.getElem?_append_left (by simp; omega), List.getElem?_take_of_lt hlt]
      · rw [List.getElem?_append_right (by simp; omega), List.getElem?_append_right (by simp; omega), List.getElem?_drop]
        congr 1
        simp
        omega
  rw [e1] at hs''
  have hx : (cs.set i v).all cellB = true := by
    rw [List.all_eq_true] at hce ⊢
    intro w hw
    rcases List.mem_or_eq_of_mem_set hw with hw | rfl
    · exact hce w hw
    · exact hc
  exact hk h' (Hs.holeClose hs'' (by simp; omega) hx)
/-- all of a slice of one's own -/
theorem r_slAll {W n c : Nat} {a : Option Addr} {cs : List Value} {k : Value → Prop} (hs : Hs G h L) [m : Has (slc W e a c) L (n, cs) L'] (h0 : 0 < n) (hk : k (.slice a n c)) : thn (slS W h (.slice a n c) none (some (I n)) none) k := by
  have hs := m.of hs
  have hx : n ≤ c ∧ ∃ b o, a = some ⟨b, o, none⟩ := hs.headP fun r hr => by
    obtain ⟨_, _, ⟨h1, _⟩ | ⟨h1, _⟩ | ⟨h1, b, pre, post, ex, ha, _⟩⟩ := hr
    · exact absurd h1 (by simp; omega)
    · exact absurd h1 (by simp; omega)
    · exact ⟨h1, b, pre.length, ha⟩
  obtain ⟨hc, b, o, rfl⟩ := hx
  refine ⟨.slice (some ⟨b, o, none⟩) n c, ?_, hk⟩
  have e1 : bnd (some (I n)) n c = some n := by unfold bnd; simp; omega
  unfold slS
  simp only [bnd, Option.isNone_some, Bool.false_and, Bool.false_eq_true, if_false]
  simp only [bnd] at e1
  rw [e1]
  simp only [Option.isSome_none, Bool.false_eq_true, if_false]
  rw [if_pos (by omega), if_neg (by omega)]
  simp [Addr.add]
theorem Hs.un1 {A : HP} (hs : Hs G h (sp [A] :: L)) : Hs G h (A :: L) := Hs.unpack hs
theorem Hs.pk1 {A : HP} (hs : Hs G h (A :: L)) : Hs G h (sp [A] :: L) := Hs.pack (A := [A]) hs
theorem Hs.un2 {A B : HP} (hs : Hs G h (sp [A, B] :: L)) : Hs G h (A :: B :: L) := Hs.unpack hs
theorem Hs.pk2 {A B : HP} (hs : Hs G h (A :: B :: L)) : Hs G h (sp [A, B] :: L) := Hs.pack (A := [A, B]) hs
theorem Hs.un3 {A B C : HP} (hs : Hs G h (sp [A, B, C] :: L)) : Hs G h (A :: B :: C :: L) := Hs.unpack hs
theorem Hs.pk3 {A B C : HP} (hs : Hs G h (A :: B :: C :: L)) : Hs G h (sp [A, B, C] :: L) := Hs.pack (A := [A, B, C]) hs
theorem Hs.un4 {A B C D : HP} (hs : Hs G h (sp [A, B, C, D] :: L)) : Hs G h (A :: B :: C :: D :: L) := Hs.unpack hs
theorem Hs.pk4 {A B C D : HP} (hs : Hs G h (A :: B :: C :: D :: L)) : Hs G h (sp [A, B, C, D] :: L) := Hs.pack (A := [A, B, C, D]) hs
theorem Hs.un5 {A B C D E : HP} (hs : Hs G h (sp [A, B, C, D, E] :: L)) : Hs G h (A :: B :: C :: D :: E :: L) := Hs.unpack hs
theorem Hs.pk5 {A B C D E : HP} (hs : Hs G h (A :: B :: C :: D :: E :: L)) : Hs G h (sp [A, B, C, D, E] :: L) := Hs.pack (A := [A, B, C, D, E]) hs
theorem Hs.un6 {A B C D E F : HP} (hs : Hs G h (sp [A, B, C, D, E, F] :: L)) : Hs G h (A :: B :: C :: D :: E :: F :: L) := Hs.unpack hs
theorem Hs.pk6 {A B C D E F : HP} (hs : Hs G h (A :: B :: C :: D :: E :: F :: L)) : Hs G h (sp [A, B, C, D, E, F] :: L) := Hs.pack (A := [A, B, C, D, E, F]) hs
theorem r_endd {f : FuncId} {p : List Nat} {n : Nat} {e : Nat → Value} {d l : Nat} {pd : Option Code} {k : Option Code × AH → Prop} (hs : Hs G h L) [m : HasLp l L ⟨P, f, p, n, e, d, .done, pd⟩ L'] (hk : ∀ h', Hs G h' L' → k (pd, h')) : thn (endV h l) k :=
  r_end (P := P) (f := f) (p := p) (n := n) (e := e) (d := d) (st := .done) (pd := pd) (k := fun a b => k (a, b)) (show Hs G h (lpT P f p n e d l (.done, pd) :: L') from m.of hs) (by decide) hk
/-- what is yielded, taken one by one: 'X' of those that came, 'Z' behind the one at which it is broken off -/
theorem Yds.fold {α : Type} {xs : List α} {f : α → List Value} {g : FuncId} {first captured : List Value} {A : HP} (hy : Yds P K G g first captured A (xs.map f)) {X : List α → HP} {Z : List α → α → HP} {y : Value} {Q : Value → AH → Prop}
    (hs : Hs G h (A :: X [] :: L))
    (step : ∀ done x h M, done ++ [x] <+: xs → Hs G h (X done :: M) → OkF P K y (f x) h fun v h' => (v = .bool true ∧ Hs G h' (X (done ++ [x]) :: M)) ∨ (v = .bool false ∧ Hs G h' (Z done x :: M)))
    (fin : ∀ v h', Hs G h' (A :: X xs :: L) → Q v h') (brk : ∀ done x v h', done ++ [x] <+: xs → Hs G h' (A :: Z done x :: L) → Q v h') : Cl P K g (first ++ [y] ++ captured) h Q := by
  refine hy (fun rest => exH fun done : List α => sp [puH (∃ ys, xs = done ++ ys ∧ rest = ys.map f), X done]) (exH fun dx : List α × α => sp [puH (dx.1 ++ [dx.2] <+: xs), Z dx.1 dx.2]) y L h Q ?_ ?_ ?_ ?_
  · refine Hs.at2 (Hs.exI ([] : List α) ?_)
    exact sp_pu ⟨xs, rfl, rfl⟩ (Hs.pack (A := [_]) hs.at2)
  · intro x rest h M hs
    obtain ⟨done, hs1⟩ := hs.exE
    obtain ⟨⟨ys, h1, h2⟩, hs2⟩ := sp_puE hs1
    clear hs hs1
    cases ys with
    | nil => cases h2
    | cons z ys =>
      simp only [List.map_cons, List.cons.injEq] at h2
      obtain ⟨e1, e2⟩ := h2
      subst e1; subst e2
      have hp : done ++ [z] <+: xs := ⟨ys, by rw [h1]; simp⟩
      refine (step done z h M hp hs2.unpack).mono fun v h' hv => hv.imp (fun e => ⟨e.1, ?_⟩) (fun e => ⟨e.1, ?_⟩)
      · exact Hs.exI (done ++ [z]) (sp_pu ⟨ys, by rw [h1]; simp, rfl⟩ (Hs.pack (A := [_]) e.2))
      · exact Hs.exI (done, z) (sp_pu hp (Hs.pack (A := [_]) e.2))
  · intro v h' hs
    obtain ⟨done, hs⟩ := hs.at2.exE
    obtain ⟨⟨ys, h1, h2⟩, hs⟩ := sp_puE hs
    cases ys with
    | cons z ys => cases h2
    | nil =>
      rw [List.append_nil] at h1
      subst h1
      exact fin v h' (Hs.at2 hs.unpack)
  · intro v h' hs
    obtain ⟨⟨done, x⟩, hs⟩ := hs.at2.exE
    obtain ⟨hp, hs⟩ := sp_puE hs
    exact brk done x v h' hp (Hs.at2 hs.unpack)
end Go.Ab
end
section
namespace Go.Ab
abbrev tx (l : List UInt8) : Value := .string ⟨l.toArray⟩
theorem r_lenX {l : List UInt8} {k : Value → Prop} (hk : k (I l.length)) : thn (lenT (tx l)) k := ⟨_, rfl, by simpa [ByteArray.size] using hk⟩
theorem r_atX {l : List UInt8} {i : Nat} {k : Value → Prop} (hi : i < l.length) (hk : k (.int .u8 (l[i]).toNat)) : thn (atS (tx l) (I i)) k := by
  refine ⟨_, ?_, hk⟩
  show (if (0 : Int) ≤ (i : Int) then ((⟨l.toArray⟩ : ByteArray)[((i : Int)).toNat]?).map _ else none) = _
  rw [if_pos (by omega), Int.toNat_natCast]
  have : (⟨l.toArray⟩ : ByteArray)[i]? = some l[i] := by
    rw [getElem?_pos (⟨l.toArray⟩ : ByteArray) i hi]; rfl
  rw [this]; rfl
theorem r_eqU {a b : Int} {k : Value → Prop} (hk : k (.bool (decide (a = b)))) : thn (biI .eql (.int .u8 a) (.int .u8 b)) k := ⟨_, by show some (Value.bool (a == b)) = _; rfl, hk⟩
theorem str_append {a b : List UInt8} : (⟨a.toArray⟩ : ByteArray) ++ ⟨b.toArray⟩ = ⟨(a ++ b).toArray⟩ := by
  apply ByteArray.ext
  rw [ByteArray.data_append]
  simp
theorem r_catX {a b : List UInt8} {k : Value → Prop} (h : a.length + b.length ≤ 2 ^ 62) (hk : k (tx (a ++ b))) : thn (biT .add (tx a) (tx b)) k := by
  refine ⟨_, ?_, hk⟩
  show astr .add _ _ = _
  have : (⟨a.toArray⟩ : ByteArray).size + (⟨b.toArray⟩ : ByteArray).size = a.length + b.length := rfl
  simp only [astr]
  rw [if_pos (by rw [this]; exact h), str_append]
theorem tx_eq {a b : List UInt8} : ((⟨a.toArray⟩ : ByteArray).toList == (⟨b.toArray⟩ : ByteArray).toList) = decide (a = b) := by
  rw [Lib.toList_data, Lib.toList_data, Bool.eq_iff_iff, decide_eq_true_eq, beq_iff_eq]
theorem r_eqX {a b : List UInt8} {k : Value → Prop} (hk : k (.bool (decide (a = b)))) : thn (biT .eql (tx a) (tx b)) k := by
  refine ⟨_, ?_, hk⟩
  show astr .eql _ _ = _
  simp only [astr]
  rw [tx_eq]
theorem r_neX {a b : List UInt8} {k : Value → Prop} (hk : k (.bool (decide (a ≠ b)))) : thn (biT .neq (tx a) (tx b)) k := by
  refine ⟨_, ?_, hk⟩
  show astr .neq _ _ = _
  simp only [astr]
  rw [tx_eq]
  simp
theorem veq_X {s : ByteArray} : veq (.string s) (.string s) = true := by simp only [veq]; unfold BEq.beq ByteArray.instBEq ByteArray.beq; simp
theorem r_convU {v : Int} {k : Value → Prop} (h : 0 ≤ v ∧ v < 256) (hk : k (.int .u8 v)) : thn (convI .u8 (I v)) k := ⟨_, by
  show some (Value.int .u8 (IntKind.wrap .u8 v)) = _
  rw [show IntKind.wrap .u8 v = v by simp [IntKind.wrap, IntKind.signed, IntKind.bits]; omega], hk⟩
theorem r_quoN {u : Nat} {k : Value → Prop} (h : u ≤ 9223372036854775808) (hk : k (I (-((u / 10 : Nat) : Int)))) : thn (biI .quo (I (-(u : Int))) (I 10)) k := by
  refine ⟨_, ?_, hk⟩
  show aint .quo .i64 (-(u : Int)) 10 = _
  simp only [aint]
  rw [if_neg (by decide), Int.neg_tdiv, show (u : Int).tdiv 10 = ((u / 10 : Nat) : Int) from rfl]
  show some (I (wr _)) = _
  rw [wr_in (by omega)]
theorem r_remN {u : Nat} {k : Value → Prop} (hk : k (I (-((u % 10 : Nat) : Int)))) : thn (biI .rem (I (-(u : Int))) (I 10)) k := by
  refine ⟨_, ?_, hk⟩
  show aint .rem .i64 (-(u : Int)) 10 = _
  simp only [aint]
  rw [if_neg (by decide), Int.neg_tmod, show (u : Int).tmod 10 = ((u % 10 : Nat) : Int) from rfl]
theorem nDig_le : ∀ (k n : Nat), n < 10 ^ (k + 1) → Lib.nDigits n ≤ k + 1 := by
  intro k
  induction k with
  | zero => intro n h; rw [Lib.nDigits]; split <;> omega
  | succ k ih =>
    intro n h
    rw [Lib.nDigits]
    split
    · omega
    · have := ih (n / 10) (by omega)
      omega
theorem dec_len {u : Nat} (h : u ≤ 9223372036854775808) : (Lib.decDigits u).length ≤ 19 := by
  rw [Lib.decDigits_length]; exact nDig_le 18 u (by omega)
theorem itoa_len {n : Int} (h : -9223372036854775808 ≤ n ∧ n ≤ 9223372036854775807) : (Lib.itoa n).length ≤ 20 := by
  unfold Lib.itoa
  have h1 := dec_len (u := n.natAbs) (by omega)
  split
  · simp; omega
  · have h2 := dec_len (u := n.toNat) (by omega)
    omega
theorem tx_extract {l : List UInt8} {a b : Nat} : (⟨l.toArray⟩ : ByteArray).extract a b = ⟨((l.take b).drop a).toArray⟩ := by
  apply ByteArray.ext
  rw [ByteArray.data_extract]
  apply Array.ext'
  simp [List.drop_take]
theorem r_slTto {l : List UInt8} {n : Nat} {k : Value → Prop} (hn : n ≤ l.length) (hk : k (tx (l.take n))) : thn (slT (tx l) none (some (I n))) k := by
  refine ⟨_, ?_, hk⟩
  have hs : (⟨l.toArray⟩ : ByteArray).size = l.length := rfl
  simp only [slT, bnd, hs]
  rw [if_pos (by omega)]
  simp only [Int.toNat_natCast]
  rw [tx_extract, List.drop_zero]
theorem r_slTfrom {l : List UInt8} {n : Nat} {k : Value → Prop} (hn : n ≤ l.length) (hk : k (tx (l.drop n))) : thn (slT (tx l) (some (I n)) none) k := by
  refine ⟨_, ?_, hk⟩
  have hs : (⟨l.toArray⟩ : ByteArray).size = l.length := rfl
  simp only [slT, bnd, hs]
  rw [if_pos (by omega)]
  simp only [Int.toNat_natCast]
  rw [tx_extract, List.take_of_length_le (Nat.le_refl _)]
variable {G : Bg} {h : AH} {L L' : List HP}
theorem r_strOf1 {e : TypeId} {a : Addr} {c : Nat} {v : Nat} {k : Value → Prop} (hv : v < 256) (hs : Hs G h (slc 1 e (some a) c (1, [.int .u8 v]) :: L)) (hk : k (tx [UInt8.ofNat v])) : thn (strOf h (.slice (some a) 1 c)) k := by
  have h1 := slc_src hs
  simp only [srcCells] at h1
  rw [if_neg (by decide), if_pos (by decide)] at h1
  refine ⟨_, ?_, hk⟩
  simp only [strOf]
  rw [if_neg (by decide)]
  have h1 : loadCellsAt h a 1 = some [.int .u8 v] := h1
  rw [h1]
  rfl
/-- many marks are closed -/
def mks (ds : List Nat) : HP := sp (ds.map fun d => mk d ())
theorem r_cms {k : AH → Prop} : ∀ (ds : List Nat) {h : AH}, Hs G h (mks ds :: L) → (∀ h', Hs G h' L → k h') → thn (closeMarks ds h) k := by
  intro ds
  induction ds with
  | nil => intro h hs hk; exact r_cm0 (hk _ hs.tail)
  | cons d ds ih =>
    intro h hs hk
    have hs : Hs G h (mk d () :: ((ds.map fun d => mk d ()) ++ L)) := Hs.unpack hs
    exact r_cm1 hs fun h hs => ih (Hs.pack hs) hk
theorem mks_cons {d : Nat} {ds : List Nat} (hs : Hs G h (mk d () :: mks ds :: L)) : Hs G h (mks (d :: ds) :: L) := by
  have : Hs G h (mks ds :: mk d () :: L) := hs.at2
  have := Hs.unpack this
  refine Hs.pack (A := mk d () :: ds.map fun d => mk d ()) ?_
  exact this.perm (by
    show ((ds.map fun d => mk d ()) ++ (mk d () :: L)).Perm (mk d () :: ((ds.map fun d => mk d ()) ++ L))
    exact List.perm_middle)
theorem mks_nil (hs : Hs G h L) : Hs G h (mks [] :: L) := Hs.pack (A := []) hs
end Go.Ab
end
