/- The law's judge. -/
import Derived.Test.YtagcnlaofkfpjaaDoorB3
import Derived.ChangeArms
import Derived.OpenShut
import Derived.Test.YtagcnlaofkfpjaaDoorB4
import Derived.ChangeSlices
import Derived.Test.YtagcnlaofkfpjaaDoorB5
import Derived.Test.YtagcnlaofkfpjaaDoorB8
import Derived.Test.YtagcnlaofkfpjaaDoorB6
section
namespace Go.Ab
open Go
variable {P : Program}
/-- integers (of a kind) and bools of a type -/
def catT (f : TypeId → Option (List (Option IntKind))) : List Field → Nat → Option (List (Option IntKind))
  | [], _ => some []
  | x :: l, o => if x.offset = o then match f x.type with
    | some a => (catT f l (o + a.length)).map fun b => a ++ b
    | none => none
    else none
def flatT (P : Program) : Nat → TypeId → Option (List (Option IntKind))
  | 0, _ => none
  | n + 1, t => match P.underlying t with
    | some (.int k) => some [some k]
    | some .bool => some [none]
    | some (.array m e) => match flatT P n e with
      | some l => if P.cellsOf e = l.length ∧ P.cellsOf t = m * l.length then some (List.replicate m l).flatten else none
      | none => none
    | some (.struct fs) => if fs.toList.all (fun x => (flatT P n x.type).any fun l => l.length == P.cellsOf x.type) then
        (catT (flatT P n) fs.toList 0).bind fun l => if P.cellsOf t = l.length then some l else none else none
    | _ => none
def kindV : Option IntKind → Value → Prop
  | some k, v => ∃ n, v = .int k n ∧ (Lit.int k n).wf = true
  | none, v => ∃ b, v = .bool b
def Flat : List (Option IntKind) → List Value → Prop
  | [], [] => True
  | k :: ks, v :: vs => kindV k v ∧ Flat ks vs
  | _, _ => False
theorem Flat.len : ∀ {ks : List (Option IntKind)} {vs : List Value}, Flat ks vs → vs.length = ks.length
  | [], [], _ => rfl
  | _ :: _, _ :: _, h => by simp [Flat.len h.2]
theorem Flat.append : ∀ {ks js : List (Option IntKind)} {vs ws : List Value}, Flat ks vs → Flat js ws → Flat (ks ++ js) (vs ++ ws)
  | [], _, [], _, _, h => h
  | _ :: _, _, _ :: _, _, h, h' => ⟨h.1, Flat.append h.2 h'⟩
theorem flat_rep {l : List (Option IntKind)} : ∀ (m : Nat) (cs : List Value), cs.length = m * l.length → (∀ i, i < m → Flat l ((cs.drop (i * l.length)).take l.length)) → Flat (List.replicate m l).flatten cs := by
  intro m
  induction m with
  | zero => intro cs hl _; have : cs = [] := List.eq_nil_of_length_eq_zero (by omega); subst this; trivial
  | succ m ih =>
    intro cs hl h
    rw [List.replicate_succ, List.flatten_cons, ← List.take_append_drop l.length cs]
    refine Flat.append (by simpa using h 0 (by omega)) (ih _ (by rw [List.length_drop, hl, Nat.succ_mul]; omega) fun i hi => ?_)
    have := h (i + 1) (by omega)
    rw [List.drop_drop]
    rwa [Nat.succ_mul, Nat.add_comm] at this
theorem flat_cat {f : TypeId → Option (List (Option IntKind))} {cs : List Value} : ∀ (l : List Field) (o : Nat) (ks : List (Option IntKind)), catT f l o = some ks → (∀ x ∈ l, ∀ a, f x.type = some a → Flat a ((cs.drop x.offset).take a.length)) → Flat ks ((cs.drop o).take ks.length) := by
  intro l
  induction l with
  | nil => intro o ks h _; simp [catT] at h; subst h; simp [Flat]
  | cons x l ih =>
    intro o ks h hall
    unfold catT at h
    split at h
    · rename_i ho
      cases hf : f x.type with
      | none => rw [hf] at h; cases h
      | some a =>
        rw [hf] at h
        simp only [Option.map_eq_some_iff] at h
        obtain ⟨b, hb, rfl⟩ := h
        have h1 := hall x List.mem_cons_self a hf
        have h2 := ih _ b hb (fun y hy => hall y (List.mem_cons_of_mem _ hy))
        rw [ho] at h1
        rw [List.length_append, List.take_add, List.drop_drop]
        exact Flat.append h1 h2
    · cases h
variable {H : Type} {enc : TypeId × Value → H} {w : World} {base : Nat} {spare : Nat → Bool} {held : Bool}
theorem trod_flat : ∀ (n : Nat) {t : TypeId} {ks : List (Option IntKind)} {cs : List Value} {x : DataW H × List MemPlace} {fuel : Nat}, flatT P n t = some ks → DataW.trod enc P w base spare held fuel t cs = some x → Flat ks cs := by
  intro n
  induction n with
  | zero => intro t ks cs x fuel h; cases h
  | succ n ih =>
    intro t ks cs x fuel h ht
    unfold flatT at h
    split at h
    · rename_i k hu
      cases h
      obtain ⟨m, rfl, _, hw⟩ := DataW.trod_int hu ht
      exact ⟨⟨m, rfl, hw⟩, trivial⟩
    · rename_i hu
      cases h
      obtain ⟨m, rfl, _⟩ := DataW.trod_bool hu ht
      exact ⟨⟨m, rfl⟩, trivial⟩
    · rename_i m e hu
      cases hf : flatT P n e with
      | none => rw [hf] at h; cases h
      | some l =>
        rw [hf] at h
        simp only at h
        split at h
        · rename_i hc
          cases h
          obtain ⟨xs, _, _, _, hl, hxl, hx⟩ := DataW.trod_array hu ht
          refine flat_rep m cs (by rw [hl]; exact hc.2) fun i hi => ?_
          have h1 := hx i hi
          rw [List.getElem?_eq_getElem (by omega), hc.1] at h1
          exact ih hf h1
        · cases h
    · rename_i fs hu
      split at h
      · rename_i hall
        simp only [Option.bind_eq_some_iff] at h
        obtain ⟨l, hl, h⟩ := h
        split at h
        · rename_i hc
          cases h
          obtain ⟨xs, _, _, _, hcs, hxl, hx⟩ := DataW.trod_struct hu ht
          have := flat_cat (cs := cs) fs.toList 0 ks hl (fun y hy a ha => by
            obtain ⟨i, hi, rfl⟩ := List.getElem_of_mem hy
            have h1 := hx i fs.toList[i] (by simp at hi; simp [hi])
            have hal := List.all_eq_true.1 hall _ hy
            rw [ha] at hal
            simp at hal
            simp at hi
            rw [List.getElem?_eq_getElem (by omega)] at h1
            have := ih ha h1
            simp only [Array.getElem_toList] at this ⊢
            rw [← hal] at this
            exact this)
          rw [List.drop_zero, List.take_of_length_le (by rw [hcs, hc]; exact Nat.le_refl _)] at this
          exact this
        · cases h
      · cases h
    · cases h
end Go.Ab
end
section
namespace Go.Ab
open Go Go.RowKit
variable {P : Program}
/-- integers and bools alone are looked at -/
def san : Value → Value
  | .int k n => .int k n
  | .bool b => .bool b
  | _ => top
theorem san_rel {ρ : Rho} : ∀ l : List Value, LRel ρ (l.map san) l
  | [] => rfl
  | v :: l => by
    refine LRel.cons ?_ (san_rel l)
    cases v <;> simp [san, top, VRel]
theorem san_flat : ∀ {ks : List (Option IntKind)} {l : List Value}, Flat ks l → l.map san = l
  | [], [], _ => rfl
  | none :: ks, v :: l, h => by
    obtain ⟨⟨b, rfl⟩, h2⟩ := h
    simp [san, san_flat h2]
  | some k :: ks, v :: l, h => by
    obtain ⟨⟨b, rfl, _⟩, h2⟩ := h
    simp [san, san_flat h2]
/-- a slice whose parts are flat -/
def FlatRow (ks : List (Option IntKind)) (w : World) (a : Option Addr) (len cap : Nat) : Prop :=
  (a = none ∧ len = 0 ∧ cap = 0) ∨ (∃ x, a = some x ∧ len = 0) ∨
  ∃ x cc e fz, a = some x ∧ 0 < len ∧ x.spot = none ∧ len ≤ cap ∧ w.heap[x.block]? = some (.cells cc e fz) ∧ x.off + len * ks.length ≤ cc.size ∧
    ∀ i, i < len → Flat ks ((cc.toList.drop (x.off + i * ks.length)).take ks.length)
theorem add_at {x : Addr} {i : Nat} (h : x.spot = none) : x.add i = ⟨x.block, x.off + i, none⟩ := by
  unfold Addr.add
  split
  · rename_i hi; subst hi; cases x; simp at h; subst h; rfl
  · rfl
variable {H : Type} {enc : TypeId × Value → H} {w : World} {base : Nat} {spare : Nat → Bool} {held : Bool}
theorem open_flat {t e : TypeId} {n fuel : Nat} {ks : List (Option IntKind)} {cs : List Value} {x : DataW H × List MemPlace} (ht : P.underlying t = some (.slice e)) (he : flatT P n e = some ks) (hc : P.cellsOf e = ks.length) (h0 : 0 < ks.length)
    (h : DataW.trod enc P w base spare held fuel t cs = some x) : ∃ a len cap, cs = [.slice a len cap] ∧ FlatRow ks w a len cap := by
  rcases DataW.trod_slice ht h with ⟨rfl, _⟩ | ⟨a, len, cap, elems, rest, m, _, rfl, _, hb, hl, hm, hlen, hel, _, _⟩
  · exact ⟨none, 0, 0, rfl, .inl ⟨rfl, rfl, rfl⟩⟩
  refine ⟨some a, len, cap, rfl, ?_⟩
  rcases Nat.eq_zero_or_pos len with hz | hz
  · exact .inr (.inl ⟨a, rfl, hz⟩)
  refine .inr (.inr ?_)
  have each : ∀ i, i < len → ∃ c : List Value, Flat ks c ∧ c.length = ks.length ∧ ∀ j, j < ks.length → w.cell? ((a.add (i * ks.length)).add j) = c[j]? := by
    intro i hi
    have h1 := hel i hi
    rw [List.getElem?_eq_getElem (by omega), hc, Option.bind_eq_some_iff] at h1
    obtain ⟨c, hcs, hy⟩ := h1
    refine ⟨c, trod_flat n he hy, ?_, fun j hj => ?_⟩
    · unfold World.cells? at hcs
      split at hcs
      · have := mapM_some_length hcs; simpa using this
      · cases hcs
    · unfold World.cells? at hcs
      split at hcs
      · exact mapM_some_get hcs j j (by simp [hj])
      · cases hcs
  obtain ⟨c0, hf0, hl0, hc0⟩ := each 0 hz
  have h00 := hc0 0 h0
  rw [List.getElem?_eq_getElem (by omega)] at h00
  obtain ⟨cc, e', fz, hb, hs⟩ : ∃ cc e fz, w.heap[a.block]? = some (.cells cc e fz) ∧ a.spot = none := by
    have hx0 : (a.add (0 * ks.length)).add 0 = a := by rw [Nat.zero_mul]; rfl
    rw [hx0] at h00
    unfold World.cell? at h00
    split at h00
    · rename_i c e fz hb
      split at h00
      · cases h00
      · rename_i hs
        exact ⟨c, e, fz, hb, by simpa using hs⟩
    · cases h00
  have hcell : ∀ o, w.cell? ⟨a.block, o, none⟩ = cc[o]? := by
    intro o
    unfold World.cell?
    rw [hb]
    simp
  have hat : ∀ i, i < len → ∃ c : List Value, Flat ks c ∧ c.length = ks.length ∧ ∀ j, j < ks.length → cc[a.off + i * ks.length + j]? = c[j]? := by
    intro i hi
    obtain ⟨c, hf, hcl, hj⟩ := each i hi
    refine ⟨c, hf, hcl, fun j hjl => ?_⟩
    rw [← hj j hjl, add_at hs, add_at rfl]
    exact (hcell _).symm
  refine ⟨a, cc, e', fz, rfl, hz, hs, hl, hb, ?_, ?_⟩
  · obtain ⟨c, hf, hcl, hj⟩ := hat (len - 1) (by omega)
    have := hj (ks.length - 1) (by omega)
    rw [List.getElem?_eq_getElem (by omega)] at this
    have h2 := (Array.getElem?_eq_some_iff.1 this).1
    have : len * ks.length = (len - 1) * ks.length + ks.length := by
      conv => lhs; rw [show len = (len - 1) + 1 by omega, Nat.succ_mul]
    omega
  · intro i hi
    obtain ⟨c, hf, hcl, hj⟩ := hat i hi
    have : (cc.toList.drop (a.off + i * ks.length)).take ks.length = c := by
      apply List.ext_getElem?
      intro j
      rw [List.getElem?_take]
      split
      · rename_i hjl
        rw [List.getElem?_drop, Array.getElem?_toList, hj j hjl]
      · rename_i hjl
        rw [List.getElem?_eq_none (by omega)]
    rw [this]; exact hf
/-- a slice that is only read -/
def OldS (G : Bg) (W : Nat) (v : Value) (n : Nat) (at' : Nat → List Value) : Prop := ∃ a c, v = .slice a n c ∧ ∀ i, i < n → ∃ b o cells, a = some ⟨b, o, none⟩ ∧ Ob G b cells ∧ (cells.drop (o + i * W)).take W = at' i ∧ o + i * W ≤ cells.length
/-- an old block: what is read of it, and the world's block -/
abbrev OB := Option Blk × Option (Nat × (Nat × Nat))
def OBok (P : Program) (w : World) (r : OB) : Prop :=
  (∀ o, r.1 = some o → ∀ b s, r.2 = some (b, s) → ∃ o', w.heap[b]? = some o' ∧ ∀ ρ, BRel P ρ s o o') ∧ (∀ b s, r.2 = some (b, s) → b < w.heap.size)
theorem row_old (P : Program) {ks : List (Option IntKind)} {a : Option Addr} {len cap : Nat} (h : FlatRow ks w a len cap) : ∃ (r : OB) (t : Nat → Value), OBok P w r ∧
    (∀ ρ k, ρ k = r.2 → VRel ρ (t k) (.slice a len cap)) ∧ ∃ at' : Nat → List Value, (∀ i, i < len → Flat ks (at' i)) ∧ ∀ (G : Bg) k, k < G.base → G.old k = r.1 → OldS G ks.length (t k) len at' := by
  rcases h with ⟨rfl, rfl, rfl⟩ | ⟨x, rfl, rfl⟩ | ⟨x, cc, e, fz, rfl, h0, hs, hl, hb, hsz, hf⟩
  · refine ⟨(none, none), fun _ => .slice none 0 0, ⟨fun o h => by (cases h), fun b s h => by cases h⟩, fun ρ k _ => by simp only [VRel], fun _ => [], fun i hi => by omega, fun G k _ _ => ⟨none, 0, rfl, fun i hi => by omega⟩⟩
  · refine ⟨(none, none), fun _ => .slice (some ⟨0, 0, some 0⟩) 0 0, ⟨fun o h => by (cases h), fun b s h => by cases h⟩, fun ρ k _ => ?_, fun _ => [], fun i hi => by omega, fun G k _ _ => ⟨some ⟨0, 0, some 0⟩, 0, rfl, fun i hi => by omega⟩⟩
    simp only [VRel]
    exact ⟨trivial, trivial, x, cap, fun h => by omega, fun h => by omega, rfl⟩
  · refine ⟨(some (.cells (cc.toList.map san) e fz false), some (x.block, (0, 0))), fun k => .slice (some ⟨k, x.off, none⟩) len cap, ⟨fun o h b s hr => ?_, fun b s hr => ?_⟩, fun ρ k hr => ?_, fun i => (cc.toList.drop (x.off + i * ks.length)).take ks.length, hf, fun G k hk hg => ?_⟩
    · cases h; cases hr
      refine ⟨_, hb, fun ρ => ⟨cc, rfl, ?_, by simp, fun h => by cases h⟩⟩
      rw [List.length_map, List.drop_zero, List.take_of_length_le (by simp)]
      exact san_rel _
    · cases hr
      exact (Array.getElem?_eq_some_iff.1 hb).1
    · simp only [VRel]
      exact ⟨x.block, (0, 0), cap, hr, Nat.le_refl _, by simp, by cases x; simp at hs; subst hs; rfl⟩
    · refine ⟨_, _, rfl, fun i hi => ⟨k, x.off, _, rfl, ⟨hk, e, fz, false, hg⟩, ?_, ?_⟩⟩
      · rw [← List.map_drop, ← List.map_take]
        exact san_flat (hf i hi)
      · rw [List.length_map]
        have : i * ks.length ≤ len * ks.length := Nat.mul_le_mul_right _ (by omega)
        simp; omega
/-- globals first, then blocks that came with the arguments -/
def oldOf (g : Nat) (gl : Nat → Option Blk) (rs : List OB) : Nat → Option Blk := fun i => if i < g then gl i else (rs[i - g]?).bind (·.1)
def rhoOf (g : Nat) (rs : List OB) : Rho := fun i => if i < g then some (i, (0, 0)) else (rs[i - g]?).bind (·.2)
def GlOk (P : Program) (g : Nat) (gl : Nat → Option Blk) (w : World) : Prop := ∀ i o, i < g → gl i = some o → ∃ o', w.heap[i]? = some o' ∧ ∀ ρ, BRel P ρ (0, 0) o o'
theorem reads_of {g : Nat} {gl : Nat → Option Blk} {rs : List OB} (hg : P.globals.size ≤ g) (hsz : g ≤ w.heap.size) (hgl : GlOk P g gl w) (hr : ∀ r ∈ rs, OBok P w r) : Reads P (g + rs.length) (oldOf g gl rs) (rhoOf g rs) w where
  blk := fun i o hi ho b s hb => by
    unfold oldOf at ho; unfold rhoOf at hb
    split at ho
    · rename_i h
      rw [if_pos h] at hb
      cases hb
      obtain ⟨o', h1, h2⟩ := hgl i o h ho
      exact ⟨o', h1, h2 _⟩
    · rename_i h
      rw [if_neg h] at hb
      rw [List.getElem?_eq_getElem (by omega)] at ho hb
      obtain ⟨o', h1, h2⟩ := (hr _ (List.getElem_mem (by omega))).1 o ho b s hb
      exact ⟨o', h1, h2 _⟩
  low := fun i b s hi hb => by
    unfold rhoOf at hb
    split at hb
    · cases hb; omega
    · rw [List.getElem?_eq_getElem (by omega)] at hb
      exact (hr _ (List.getElem_mem (by omega))).2 b s hb
  none := fun i hi => by unfold rhoOf; rw [if_neg (by omega), List.getElem?_eq_none (by omega)]; rfl
  glob := fun i hi => by unfold rhoOf; rw [if_pos (by omega)]
theorem oldOf_at {g i : Nat} {gl : Nat → Option Blk} {rs : List OB} {r : OB} (h : rs[i]? = some r) : oldOf g gl rs (g + i) = r.1 := by unfold oldOf; rw [if_neg (by omega), show g + i - g = i by omega, h]; rfl
theorem rhoOf_at {g i : Nat} {rs : List OB} {r : OB} (h : rs[i]? = some r) : rhoOf g rs (g + i) = r.2 := by unfold rhoOf; rw [if_neg (by omega), show g + i - g = i by omega, h]; rfl
theorem oldOf_gl {g i : Nat} {gl : Nat → Option Blk} {rs : List OB} (h : i < g) : oldOf g gl rs i = gl i := by unfold oldOf; rw [if_pos h]
theorem hs_start {base : Nat} {old : Nat → Option Blk} : Hs ⟨base, old⟩ (Go.Ab.start base old) [] where
  base := rfl
  old := rfl
  wf := Nat.le_refl _
  fr := fun i hi => by rw [start_get, if_neg (Nat.not_lt.2 (show base ≤ i from hi))]
  res := ⟨Res.emp, rfl, ⟨fun b o v h => by simp [Res.emp] at h, fun b h => by simp [Res.emp] at h, fun b e x n h => by simp [Res.emp] at h, fun b o h => by simp [Res.emp] at h⟩⟩
end Go.Ab
end
section
namespace Go.Proofs.YtagcnlaofkfpjaaDoor
open Go Go.Ab Go.Hm
set_option maxRecDepth 100000
def glB (e : TypeId) (fz : Nat × Nat) : Nat → Option Blk := fun i => if i = 0 then some (.cells limE e fz true) else none
theorem awake_run (e : TypeId) (fz : Nat × Nat) : ((run Pr K0 3000 (.call 9 []) (Go.Ab.start 1 (oldOf 1 (glB e fz) []))).any fun r => veq r.1.v (.bool true)) = true := by kernel_rfl
end Go.Proofs.YtagcnlaofkfpjaaDoor
end
section
namespace Go.Proofs.YtagcnlaofkfpjaaDoor
open Go Go.Ab Go.Hm
attribute [local irreducible] thn Br ld1 ldN stV alc alcAt alcS alcSAt resv padd nilV extV part1 partN lenS lenT biI biT biB biP biS biF biE biA unV idxS idxA pickV appV copyV clearV slS slA slT mkS blkOf at1 atN atS convI convS minV maxV Cl OkF OkR EndX endV beginV defersOf setLoop closeMarks
variable {G : Bg} {h : AH} {L L' : List HP}
theorem serves_end {v : Value} {p2 p : Nat} {n r : Note} {i : Int} {Q : Value → AH → Prop} {ns : List Note} (hf : n.fits r ns.length) (hs : Hs G h (seg p2 0 r.enc :: seg p 0 n.enc :: L)) (hk : A14_8 Q v (pt p2 0 0) (I i) h) :
    (n.kind ≠ 10 → A14_5 Q v (pt p2 0 0) (I i) (pt p 0 0) (.bool true) h) ∧ (n.kind = 10 → A14_4 Q v (pt p2 0 0) (I i) (pt p 0 0) h) := by
  obtain ⟨h1, h2, h3⟩ := hf
  constructor
  · intro h10
    refine b14_5 (r_padd (r_ld hs rfl (r_eqI (r_br (fun h0 => b14_6 ?_) (fun h0 => b14_7 (r_not (r_brf hk)))))))
    exact r_padd (r_ld hs rfl (r_eqI (r_brT (by omega) (r_padd (r_ld hs rfl (r_eqI (r_not (r_brn (r_brT (by omega) hk)))))))))
  · intro h10
    refine b14_4 (r_padd (r_ld hs rfl (r_eqI (r_padd (r_ld hs rfl (r_eqI (r_brF (by omega) (b14_7 (r_not (r_brn (r_brT h10 hk)))))))))))
theorem serves_loop {e : TypeId} {a : Option Addr} {c p2 : Nat} {r : Note} {Q : Value → AH → Prop} {ns : List Note} (hlen : ns.length < 2 ^ 40) (hf : ∀ n ∈ ns, n.fits r ns.length) (hne : ns ≠ [] ∨ r.kind = 0)
    (hk : ∀ h', Hs G h' (slc 9 e a c (ns.length, encNs ns) :: L) → Q (.bool true) h') : ∀ (f i : Nat) (h : AH) (g : HP), i + f = ns.length → Hs G h (slc 9 e a c (ns.length, encNs ns) :: seg p2 0 r.enc :: g :: L) → A14_1 Q (.slice a ns.length c) (pt p2 0 0) (I i) h := by
  intro f
  induction f with
  | zero =>
    intro i h g hi hs
    refine b14_1 (r_lenS (r_ltI (r_brF (by omega) (r_lenS (r_gtI (r_br (fun h1 => hk _ hs.to) (fun h1 => ?_)))))))
    refine r_padd (r_ld hs rfl (r_eqI ?_))
    have hz : ns = [] := List.eq_nil_of_length_eq_zero (by omega)
    have h0 : r.kind = 0 := by rcases hne with h | h; exact absurd hz h; exact h
    rw [decide_eq_true h0]
    exact hk _ hs.to
  | succ f ih =>
    intro i h g hi hs
    have hlt : i < ns.length := by omega
    have hin := hf ns[i] (List.getElem_mem hlt)
    have hat := encNs_at ns i ns[i] (List.getElem?_eq_getElem hlt)
    generalize ns[i] = n at hin hat
    refine b14_1 (r_lenS (r_ltI (r_brT (by omega) (b14_2 ?_))))
    obtain ⟨b, o, rfl, H, hs2, _⟩ := hs.slcOpen (by omega)
    refine r_idxN hlt (r_ldNI hs2 (by decide) (l := n.enc) hat rfl (r_new hs ?_))
    clear hs2
    intro p h hs
    refine r_stW hs rfl rfl rfl rfl ?_
    intro h hs
    have hs : Hs G h (seg p2 0 r.enc :: seg p 0 n.enc :: slc 9 e (some ⟨b, o, none⟩) c (ns.length, encNs ns) :: g :: L) := hs.to
    have next : A14_8 Q (.slice (some ⟨b, o, none⟩) ns.length c) (pt p2 0 0) (I i) h :=
      b14_8 (r_addI (by omega) (ih (i + 1) h (sp [seg p 0 n.enc, g]) (by omega) hs.to))
    have fin := serves_end hin hs next
    obtain ⟨h1, h2, h3⟩ := hin
    rcases h3 with ⟨k1, k2, k3, k4⟩ | ⟨k1, k2, k3, k4, k5⟩ | ⟨k1, k2, k3, k4, k5⟩ | ⟨k1, k2, k3, k4⟩
    all_goals
      repeat' first
        | refine r_padd ?_
        | refine r_ld hs rfl ?_
        | refine r_neI ?_
        | refine r_eqI ?_
        | refine r_lenS ?_
        | refine r_brF (by omega) ?_
        | refine r_brT (by omega) ?_
        | exact fin.1 (by omega)
        | exact fin.2 (by omega)
        | (refine b14_3 ?_)
    all_goals
      rw [decide_eq_true k1]
      exact fin.1 (by omega)
theorem serves_ok {v : Value} {r : Note} {Q : Value → AH → Prop} {ns : List Note} (hlen : ns.length < 2 ^ 40) (hf : ∀ n ∈ ns, n.fits r ns.length) (hne : ns ≠ [] ∨ r.kind = 0) (hs : Hs G h L) [m : Has (notesR v) L ns L']
    (hk : ∀ h', Hs G h' (notesR v ns :: L') → Q (.bool true) h') : Cl Pr K 14 [.agg ⟨r.enc⟩, v] h Q := by
  obtain ⟨a, c, rfl, hs⟩ := notesE (m.of hs)
  refine c14 (b14_0 (r_bx hs ?_))
  intro p h hs
  exact serves_loop (e := 38) hlen hf hne (fun h hs => hk h (notesI rfl rfl hs)) ns.length 0 h (sp []) (by omega) hs.to
end Go.Proofs.YtagcnlaofkfpjaaDoor
end
section
namespace Go.Proofs.YtagcnlaofkfpjaaDoor
open Go Go.Ab Go.Hm
attribute [local irreducible] thn Br ld1 ldN stV alc alcAt alcS alcSAt resv padd nilV extV part1 partN lenS lenT biI biT biB biP biS biF biE biA unV idxS idxA pickV appV copyV clearV slS slA slT mkS blkOf at1 atN atS convI convS minV maxV Cl OkF OkR EndX endV beginV defersOf setLoop closeMarks
variable {G : Bg} {h : AH} {L L' : List HP}
abbrev Sp := Nat → Option Addr × Nat
def rowsE (x : Sp) (R : Nat → List Note) : List Value := [.slice (x 0).1 (R 0).length (x 0).2, .slice (x 1).1 (R 1).length (x 1).2, .slice (x 2).1 (R 2).length (x 2).2, .slice (x 3).1 (R 3).length (x 3).2]
def rowF (x : Sp) (R : Nat → List Note) (k : Nat) : HP := slc 9 38 (x k).1 (x k).2 ((R k).length, encNs (R k))
/-- four lists of notes in an array -/
def rowsR (p : Nat) (R : Nat → List Note) : HP := exH fun x : Sp => sp [seg p 0 (rowsE x R), big 4 (rowF x R)]
theorem rowsE_at {x : Sp} {R : Nat → List Note} {k : Nat} (hk : k < 4) : (rowsE x R)[0 + k * 1]? = some (.slice (x k).1 (R k).length (x k).2) := by
  have : k = 0 ∨ k = 1 ∨ k = 2 ∨ k = 3 := by omega
  rcases this with rfl | rfl | rfl | rfl <;> rfl
theorem rowsE_set {x : Sp} {R : Nat → List Note} {k : Nat} {a : Option Addr} {c : Nat} {l : List Note} (hk : k < 4) : setL (rowsE x R) (0 + k * 1) [.slice a l.length c] = rowsE (updA x k (a, c)) (updA R k l) := by
  have : k = 0 ∨ k = 1 ∨ k = 2 ∨ k = 3 := by omega
  rcases this with rfl | rfl | rfl | rfl <;> rfl
theorem rows_out {p k : Nat} {R : Nat → List Note} (hk : k < 4) (hs : Hs G h (rowsR p R :: L)) : ∃ x : Sp, Hs G h (seg p 0 (rowsE x R) :: slc 9 38 (x k).1 (x k).2 ((R k).length, encNs (R k)) :: sp (((List.range 4).erase k).map (rowF x R)) :: L) := by
  obtain ⟨x, hs⟩ := hs.exE
  have hs := hs.unpack
  have hs := (hs.front (big 4 (rowF x R))).bigOut k hk
  exact ⟨x, (show Hs G h (slc 9 38 (x k).1 (x k).2 ((R k).length, encNs (R k)) :: sp (((List.range 4).erase k).map (rowF x R)) :: seg p 0 (rowsE x R) :: L) from hs).to⟩
theorem rows_in (p : Nat) {k : Nat} (R : Nat → List Note) (x : Sp) (l : List Note) (a : Option Addr) (c : Nat) {cs : List Value} {n : Nat} {ec : List Value} (hk : k < 4) {L1 L2 L3 : List HP} (hs : Hs G h L) [m : Has (seg p 0) L cs L1] (hcs : cs = rowsE (updA x k (a, c)) (updA R k l)) [m2 : Has (slc 9 38 a c) L1 (n, ec) L2] (hn : n = l.length) (hec : ec = encNs l)
    [k3 : HasX (sp (((List.range 4).erase k).map (rowF x R))) L2 L3] : Hs G h (rowsR p (updA R k l) :: L3) := by
  subst hcs; subst hn; subst hec
  have hs := hs.perm (m.perm.trans ((m2.perm.trans (k3.perm.cons _)).cons _))
  have e0 : rowF (updA x k (a, c)) (updA R k l) k = slc 9 38 a c (l.length, encNs l) := by simp only [rowF, updA_same]
  rw [← e0] at hs
  have hs := hs.bigPut (n := 4) (i := k) (rowF x R) (rowF (updA x k (a, c)) (updA R k l)) hk (fun j _ hne => by simp only [rowF, updA_ne hne])
  exact Hs.exI (A := fun x : Sp => sp [seg p 0 (rowsE x (updA R k l)), big 4 (rowF x (updA R k l))]) (updA x k (a, c)) (Hs.pack (A := [_, _]) hs.at2)
theorem rows_same {p k : Nat} {R : Nat → List Note} {x : Sp} (hk : k < 4) (hs : Hs G h (seg p 0 (rowsE x R) :: slc 9 38 (x k).1 (x k).2 ((R k).length, encNs (R k)) :: sp (((List.range 4).erase k).map (rowF x R)) :: L)) : Hs G h (rowsR p R :: L) := by
  have := rows_in p R x (R k) (x k).1 (x k).2 hk hs (by rw [show ((x k).1, (x k).2) = x k from rfl, updA_self, updA_self]) rfl rfl
  rwa [updA_self] at this
theorem rows_shut (p k : Nat) (R : Nat → List Note) (x : Sp) (hk : k < 4) {L1 L2 L3 : List HP} (hs : Hs G h L) [m : HasX (seg p 0 (rowsE x R)) L L1] [m2 : HasX (slc 9 38 (x k).1 (x k).2 ((R k).length, encNs (R k))) L1 L2] [k3 : HasX (sp (((List.range 4).erase k).map (rowF x R))) L2 L3] : Hs G h (rowsR p R :: L3) :=
  rows_same hk (hs.perm (m.perm.trans ((m2.perm.trans (k3.perm.cons _)).cons _)))
theorem rows_new {p : Nat} (hs : Hs G h (seg p 0 [.slice none 0 0, .slice none 0 0, .slice none 0 0, .slice none 0 0] :: L)) : Hs G h (rowsR p (fun _ => []) :: L) := by
  have hs := slc_nil (W := 9) (e := 38) (slc_nil (W := 9) (e := 38) (slc_nil (W := 9) (e := 38) (slc_nil (W := 9) (e := 38) hs)))
  refine Hs.exI (A := fun x : Sp => sp [seg p 0 (rowsE x fun _ => []), big 4 (rowF x fun _ => [])]) (fun _ => (none, 0)) (Hs.pack (A := [_, _]) ?_)
  have hs := Hs.pack (A := [rowF (fun _ => (none, 0)) (fun _ => []) 0, rowF (fun _ => (none, 0)) (fun _ => []) 1, rowF (fun _ => (none, 0)) (fun _ => []) 2, rowF (fun _ => (none, 0)) (fun _ => []) 3]) hs
  exact hs.at2
/-! calls and what is asked -/
structure Op where
  ask : Int
  n : Note
  line : Int
def Op.enc (o : Op) : List Value := I o.ask :: o.n.enc ++ [I o.line]
/-- a slice that is only read -/
def Old (G : Bg) (W : Nat) (v : Value) (n : Nat) (at' : Nat → List Value) : Prop := ∃ a c, v = .slice a n c ∧ ∀ i, i < n → ∃ b o cells, a = some ⟨b, o, none⟩ ∧ Ob G b cells ∧ (cells.drop (o + i * W)).take W = at' i ∧ o + i * W ≤ cells.length
theorem old_ld {W n i : Nat} {v : Value} {at' : Nat → List Value} {k : Value → Prop} (ho : Old G W v n at') (hi : i < n) (hl : (at' i).length = W) (hs : Hs G h L) (hk : k (.agg ⟨at' i⟩)) : thn (idxS W v (I i)) fun p => thn (ldN h W p) k := by
  obtain ⟨a, c, rfl, hall⟩ := ho
  obtain ⟨b, o, cells, rfl, hob, hc, hle⟩ := hall i hi
  refine r_idxN hi ?_
  have : pt b (o + i * W) 0 = pt b o (i * W) := by simp [pt]
  rw [this]
  exact r_ldNo hs hob (by rw [← hc]) hl (by omega) hk
theorem old_len {W n : Nat} {v : Value} {at' : Nat → List Value} {k : Value → Prop} (ho : Old G W v n at') (hk : k (I n)) : thn (lenS v) k := by
  obtain ⟨a, c, rfl, _⟩ := ho
  exact r_lenS hk
theorem small_ok {Q : Value → AH → Prop} (hs : Hs G h L) (hk : ∀ h', Hs G h' L → Q (.agg ⟨C0.enc⟩) h') : Cl Pr K 8 [] h Q := by
  refine c8 (b8_0 (r_new hs ?_))
  intro p h hs
  refine r_fill (c := C0.enc) rfl (r_stW hs rfl rfl rfl rfl ?_)
  intro h hs
  exact r_ldN hs (by decide) (l := C0.enc) rfl rfl (hk _ hs.tail)
theorem awake_ok {Q : Value → AH → Prop} (hk : Q (.bool true) h) : Cl Pr K 9 [] h Q := by
  unfold Cl
  exact ok_known (v := .bool true) rfl hk
end Go.Proofs.YtagcnlaofkfpjaaDoor
end
section
namespace Go.Proofs.YtagcnlaofkfpjaaDoor
open Go Go.Ab Go.Hm
attribute [local irreducible] thn Br ld1 ldN stV alc alcAt alcS alcSAt resv padd nilV extV part1 partN lenS lenT biI biT biB biP biS biF biE biA unV idxS idxA pickV appV copyV clearV slS slA slT mkS blkOf at1 atN atS convI convS minV maxV Cl OkF OkR EndX endV beginV defersOf setLoop closeMarks
variable {G : Bg} {h : AH} {L L' : List HP}
theorem sh_loop {t0 t3 t5 t7 t8 t15 : Value} {ow : Int} {S : List Nat} {a : Option Addr} {c : Nat} {Q : Value → AH → Prop} (hlen : S.length ≤ 4) (hne : ∀ c ∈ S, (c : Int) ≠ ow) (hp : S.Pairwise (· < ·))
    (hk : ∀ h', Hs G h' (slc 1 3 a c (S.length, (natsI S).map I) :: L) → A3_20 Q t0 t3 t5 t7 t8 t15 h') : ∀ (f i : Nat) (h : AH) (g : HP), i + f = S.length → Hs G h (slc 1 3 a c (S.length, (natsI S).map I) :: g :: L) →
      A3_18 Q t0 t3 t5 t7 t8 t15 (I ow) (.slice a S.length c) (I i) h := by
  intro f
  induction f with
  | zero =>
    intro i h g hi hs
    exact b3_18 (r_lenS (r_ltI (r_brF (by omega) (hk _ hs.to))))
  | succ f ih =>
    intro i h g hi hs
    have hlt : i < S.length := by omega
    refine b3_18 (r_lenS (r_ltI (r_brT (by omega) (b3_19 (r_resv hs ?_)))))
    intro rv h hs
    have hs : Hs G h (slc 1 3 a c (S.length, (natsI S).map I) :: frK rv (22, []) :: g :: L) := hs.to
    have next : A3_18 Q t0 t3 t5 t7 t8 t15 (I ow) (.slice a S.length c) (I ((i + 1 : Nat) : Int)) h := ih (i + 1) h (sp [frK rv (22, []), g]) (by omega) hs.to
    obtain ⟨b, o, rfl, H, hs2, _⟩ := hs.slcOpen (by omega)
    have hat : ∀ (m : Nat) (hm : m < S.length), ((natsI S).map I)[m * 1 + 0]? = some (I (S[m] : Nat)) := fun m hm => by simp [natsI, hm]
    refine r_idxN hlt (r_ldI hs2 (hat i hlt) (r_eqI (r_brF (hne _ (List.getElem_mem hlt)) (r_gtI (r_br (fun h1 => ?_) (fun h1 => ?_))))))
    · refine r_idxN hlt (r_ldI hs2 (hat i hlt) (r_subI (by omega) ?_))
      rw [show (i : Int) - 1 = ((i - 1 : Nat) : Int) by omega]
      refine r_idxN (by omega) (r_ldI hs2 (hat (i - 1) (by omega)) (r_leI (r_brF ?_ (b3_21 (r_addI (by omega) next)))))
      have := List.pairwise_iff_getElem.1 hp (i - 1) i (by omega) hlt (by omega)
      omega
    · exact r_addI (by omega) next
theorem chk_loop {t0 t3 t8 : Value} {hb p1 i : Nat} {H : Hom} {R : Nat → List Note} {Q : Value → AH → Prop} (hi80 : i ≤ 1000) (ho : OInv H R i) (hk : ∀ h' g, Hs G h' (rowsR p1 R :: homR G hb C0 H :: g :: L) → A3_12 Q t0 t3 (pt hb 0 0) (pt p1 0 0) t8 h') : ∀ (f k : Nat) (h : AH) (g : HP), k + f = 4 → Hs G h (rowsR p1 R :: homR G hb C0 H :: g :: L) →
      A3_6 Q t0 t3 (pt hb 0 0) (pt p1 0 0) t8 (I k) h := by
  intro f
  induction f with
  | zero =>
    intro k h g hi hs
    exact b3_6 (r_ltI (r_brF (by omega) (hk _ _ hs)))
  | succ f ih =>
    intro k h g hi hs
    have hk4 : k < 4 := by omega
    obtain ⟨h1, h2, h3⟩ := ho k hk4
    have hhas : C0.has (k : Int) := ⟨by omega, by show (k : Int) < 4; omega⟩
    have hw : homWho C0 H k = ((H k).1.owner, (H k).1.sharers, 0) := by unfold homWho; rw [if_pos hhas]; rfl
    have hwt : homWaits C0 H k = ((H k).1.waits.length : Int) := by unfold homWaits; rw [if_pos hhas]; rfl
    refine b3_6 (r_ltI (r_brT (by omega) (b3_11 (who_ok (C := C0) hs fun v h hs => ?_))))
    rw [hw] at hs ⊢
    dsimp only at hs ⊢
    obtain ⟨a, c, hv, hq⟩ := intsE hs
    clear hs
    subst hv
    refine r_ext rfl (r_ext rfl (r_ext rfl (r_resv hq ?_)))
    intro rv h hs
    have hs : Hs G h (rowsR p1 R :: homR G hb C0 H :: slc 1 3 a c ((natsI (H k).1.sharers).length, (natsI (H k).1.sharers).map I) :: frK rv (8, []) :: g :: L) := hs.to
    obtain ⟨x, hs⟩ := rows_out hk4 hs
    refine waits_ok (C := C0) hs fun hs => ?_
    rw [hwt]
    refine r_idxAn hk4 (r_ld hs (rowsE_at hk4) (r_lenS (r_neI (r_fl veq_I (r_fl (r_idxAn hk4 veq_P) (r_fl (r_ld hs (rowsE_at hk4) veq_S) (r_fl (r_lenS veq_I) (r_brF ?_ (b3_16 ?_)))))))))
    · rw [h2]; simp
    · have hs := rows_shut p1 k R x hk4 hs
      have hm := sharersF_mem (r := (H k).1) 4 0
      have := sh_loop (t0 := t0) (t3 := t3) (t5 := pt hb 0 0) (t7 := pt p1 0 0) (t8 := t8) (t15 := I k) (ow := (H k).1.owner) (S := (H k).1.sharers) (a := a) (c := c) (Q := Q) (G := G) (L := [rowsR p1 R, homR G hb C0 H, frK rv (8, []), g] ++ L) (sharersF_len 4 0)
        (fun c hc => h1.apart c (by have := hm.1 c hc; omega) (hm.1 c hc).1) hm.2 (fun h hs => b3_20 (r_addI (by omega) (ih (k + 1) h (sp [slc 1 3 a c ((H k).1.sharers.length, (natsI (H k).1.sharers).map I), frK rv (8, []), g]) (by omega) hs.to))) (H k).1.sharers.length 0 h (sp []) (by omega)
      have e : (natsI (H k).1.sharers).length = (H k).1.sharers.length := by simp [natsI]
      rw [e] at hs ⊢
      exact this hs.to
end Go.Proofs.YtagcnlaofkfpjaaDoor
end
section
namespace Go.Proofs.YtagcnlaofkfpjaaDoor
open Go Go.Ab Go.Hm
attribute [local irreducible] thn Br ld1 ldN stV alc alcAt alcS alcSAt resv padd nilV extV part1 partN lenS lenT biI biT biB biP biS biF biE biA unV idxS idxA pickV appV copyV clearV slS slA slT mkS blkOf at1 atN atS convI convS minV maxV Cl OkF OkR EndX endV beginV defersOf setLoop closeMarks
variable {G : Bg} {h : AH} {L L' : List HP}
theorem rowsE_len {x : Sp} {R : Nat → List Note} {k : Nat} (hk : k < 4) : Nat.ble (0 + k * 1 + 1) (rowsE x R).length = true := by
  have : k = 0 ∨ k = 1 ∨ k = 2 ∨ k = 3 := by omega
  rcases this with rfl | rfl | rfl | rfl <;> rfl
section
variable {t0 t8 : Value} {hb p1 p2 p3 : Nat} {bits : Int} {H2 : Hom} {R : Nat → List Note} {o : Op} {g : HP} {Q : Value → AH → Prop}
theorem app_7 (hr : 0 ≤ o.n.line ∧ o.n.line < 4) (hlen : (R o.n.line.toNat).length < 1000) (hs : Hs G h (rowsR p1 R :: homR G hb C0 H2 :: seg p3 0 o.enc :: g :: seg p2 0 [I bits] :: L))
    (hk : ∀ h g, Hs G h (rowsR p1 (updA R o.n.line.toNat (R o.n.line.toNat ++ [o.n])) :: homR G hb C0 H2 :: g :: seg p2 0 [I bits] :: L) → A3_6 Q t0 (pt p2 0 0) (pt hb 0 0) (pt p1 0 0) t8 (I 0) h) :
    A3_7 Q t0 (pt p2 0 0) (pt hb 0 0) (pt p1 0 0) t8 (pt p3 0 0) h := by
  have hk4 : o.n.line.toNat < 4 := by omega
  refine b3_7 ?_
  refine r_resv hs ?_
  intro rv h hs
  have hs : Hs G h (rowsR p1 R :: homR G hb C0 H2 :: seg p3 0 o.enc :: frK rv (14, []) :: g :: seg p2 0 [I bits] :: L) := hs.to
  obtain ⟨y, hs⟩ := rows_out hk4 hs
  refine r_padd (r_padd (r_ld hs rfl (r_padd (r_padd (r_ld hs rfl (r_idxA hr.1 hr.2 (r_ld hs (rowsE_at hk4) (r_padd (r_ldN hs (by decide) (l := o.n.enc) rfl rfl (r_fill (c := o.n.enc) rfl ?_))))))))))
  refine r_newSAt hs rfl rfl rfl rfl rfl ?_
  intro a h hs
  refine r_appS (hs.front2 (slc 9 38 (y o.n.line.toNat).1 (y o.n.line.toNat).2 ((R o.n.line.toNat).length, encNs (R o.n.line.toNat))) (slc 9 38 (some a) 1 (1, o.n.enc))) (by omega) ?_
  intro a4 c4 h hs
  dsimp only
  have hs1 := hs
  refine r_idxA hr.1 hr.2 (r_sto hs rfl (rowsE_len hk4) rfl rfl ?_)
  intro h hs
  refine r_fl (r_padd veq_P) (r_fl (r_padd veq_P) (r_fl (r_ld hs1 rfl veq_I) (hk h (sp [seg p3 0 o.enc, slc 9 38 (some a) 1 (1, o.n.enc), frK rv (14, [10]), g]) ?_)))
  have hs := rows_in p1 R y (R o.n.line.toNat ++ [o.n]) a4 c4 hk4 hs (by rw [← rowsE_set hk4]; simp) (by simp) (by simp [encNs_append])
  exact hs.to
theorem take_4l (hkd : (homTake C0 H2 o.n).2.2 = 0 ∧ (o.n.kind = 1 ∨ o.n.kind = 2 ∨ o.n.kind = 3) → 0 ≤ o.n.line ∧ o.n.line < 4) (hlen : ∀ k, k < 4 → (R k).length < 1000) {N : Nat} (hN : N ≤ 1000) (hi : HInv C0 H2 N) (hlim : Ob G 0 limE) (hs : Hs G h (rowsR p1 R :: homR G hb C0 H2 :: seg p3 0 o.enc :: g :: seg p2 0 [I bits] :: L))
    (hk1 : (homTake C0 H2 o.n).2.2 = 0 ∧ (o.n.kind = 1 ∨ o.n.kind = 2 ∨ o.n.kind = 3) → ∀ h g, Hs G h (rowsR p1 (updA R o.n.line.toNat (R o.n.line.toNat ++ [o.n])) :: homR G hb C0 (homTake C0 H2 o.n).1 :: g :: seg p2 0 [I bits] :: L) → A3_6 Q t0 (pt p2 0 0) (pt hb 0 0) (pt p1 0 0) t8 (I 0) h)
    (hk2 : ¬ ((homTake C0 H2 o.n).2.2 = 0 ∧ (o.n.kind = 1 ∨ o.n.kind = 2 ∨ o.n.kind = 3)) → ∀ h g, Hs G h (rowsR p1 R :: homR G hb C0 (homTake C0 H2 o.n).1 :: g :: seg p2 0 [I bits] :: L) → A3_6 Q t0 (pt p2 0 0) (pt hb 0 0) (pt p1 0 0) t8 (I 0) h) :
    A3_4 Q t0 (pt p2 0 0) (pt hb 0 0) (pt p1 0 0) t8 (pt p3 0 0) h := by
  refine b3_4 (r_padd (r_ldN hs (by decide) (l := o.n.enc) rfl rfl (take_ok C0_ok hlim (fun l hl => ⟨(hi l hl).1, by have := (hi l hl).2; omega⟩) hs fun v h hs => ?_)))
  have hs : Hs G h (rowsR p1 R :: homR G hb C0 (homTake C0 H2 o.n).1 :: seg p3 0 o.enc :: sp [notesR v (homTake C0 H2 o.n).2.1, g] :: seg p2 0 [I bits] :: L) := hs.to
  generalize (homTake C0 H2 o.n).1 = H2 at hs hk1 hk2
  generalize sp [notesR v (homTake C0 _ o.n).2.1, g] = g at hs
  refine r_ext rfl (r_ext rfl (r_eqI (r_br (fun h1 => ?_) (fun h1 => hk2 (fun e => h1 e.1) _ (sp [seg p3 0 o.enc, g]) hs.to))))
  refine r_padd (r_padd (r_ld hs rfl (r_eqI (r_br (fun h2 => ?_) (fun h2 => ?_)))))
  · have hr := hkd ⟨h1, .inl h2⟩
    have hk4 : o.n.line.toNat < 4 := by omega
    have hlen := hlen _ hk4
    have hk := hk1 ⟨h1, .inl h2⟩
    refine r_resv hs ?_
    intro rv h hs
    have hs : Hs G h (rowsR p1 R :: homR G hb C0 H2 :: seg p3 0 o.enc :: frK rv (14, []) :: g :: seg p2 0 [I bits] :: L) := hs.to
    obtain ⟨y, hs⟩ := rows_out hk4 hs
    refine r_padd (r_padd (r_ld hs rfl (r_padd (r_padd (r_ld hs rfl (r_idxA hr.1 hr.2 (r_ld hs (rowsE_at hk4) (r_padd (r_ldN hs (by decide) (l := o.n.enc) rfl rfl (r_fill (c := o.n.enc) rfl ?_))))))))))
    refine r_newSAt hs rfl rfl rfl rfl rfl ?_
    intro a h hs
    refine r_appS (hs.front2 (slc 9 38 (y o.n.line.toNat).1 (y o.n.line.toNat).2 ((R o.n.line.toNat).length, encNs (R o.n.line.toNat))) (slc 9 38 (some a) 1 (1, o.n.enc))) (by omega) ?_
    intro a4 c4 h hs
    dsimp only
    have hs1 := hs
    refine r_idxA hr.1 hr.2 (r_sto hs rfl (rowsE_len hk4) rfl rfl ?_)
    intro h hs
    refine r_fl (r_padd veq_P) (r_fl (r_padd veq_P) (r_fl (r_ld hs1 rfl veq_I) (hk h (sp [seg p3 0 o.enc, slc 9 38 (some a) 1 (1, o.n.enc), frK rv (14, [10]), g]) ?_)))
    have hs := rows_in p1 R y (R o.n.line.toNat ++ [o.n]) a4 c4 hk4 hs (by rw [← rowsE_set hk4]; simp) (by simp) (by simp [encNs_append])
    exact hs.to
  · refine r_padd (r_padd (r_ld hs rfl (r_eqI (r_br (fun h3 => ?_) (fun h3 => ?_)))))
    · have hr := hkd ⟨h1, .inr (.inl h3)⟩
      have hk4 : o.n.line.toNat < 4 := by omega
      have hlen := hlen _ hk4
      have hk := hk1 ⟨h1, .inr (.inl h3)⟩
      refine r_resv hs ?_
      intro rv h hs
      have hs : Hs G h (rowsR p1 R :: homR G hb C0 H2 :: seg p3 0 o.enc :: frK rv (14, []) :: g :: seg p2 0 [I bits] :: L) := hs.to
      obtain ⟨y, hs⟩ := rows_out hk4 hs
      refine r_padd (r_padd (r_ld hs rfl (r_padd (r_padd (r_ld hs rfl (r_idxA hr.1 hr.2 (r_ld hs (rowsE_at hk4) (r_padd (r_ldN hs (by decide) (l := o.n.enc) rfl rfl (r_fill (c := o.n.enc) rfl ?_))))))))))
      refine r_newSAt hs rfl rfl rfl rfl rfl ?_
      intro a h hs
      refine r_appS (hs.front2 (slc 9 38 (y o.n.line.toNat).1 (y o.n.line.toNat).2 ((R o.n.line.toNat).length, encNs (R o.n.line.toNat))) (slc 9 38 (some a) 1 (1, o.n.enc))) (by omega) ?_
      intro a4 c4 h hs
      dsimp only
      have hs1 := hs
      refine r_idxA hr.1 hr.2 (r_sto hs rfl (rowsE_len hk4) rfl rfl ?_)
      intro h hs
      refine r_fl (r_padd veq_P) (r_fl (r_padd veq_P) (r_fl (r_ld hs1 rfl veq_I) (hk h (sp [seg p3 0 o.enc, slc 9 38 (some a) 1 (1, o.n.enc), frK rv (14, [10]), g]) ?_)))
      have hs := rows_in p1 R y (R o.n.line.toNat ++ [o.n]) a4 c4 hk4 hs (by rw [← rowsE_set hk4]; simp) (by simp) (by simp [encNs_append])
      exact hs.to
    · refine r_padd (r_padd (r_ld hs rfl (r_eqI (r_br (fun h4 => ?_) (fun h4 => b3_8 (hk2 (fun e => by omega) _ (sp [seg p3 0 o.enc, g]) hs.to))))))
      have hr := hkd ⟨h1, .inr (.inr h4)⟩
      exact app_7 hr (hlen _ (by omega)) hs (hk1 ⟨h1, .inr (.inr h4)⟩)
end
end Go.Proofs.YtagcnlaofkfpjaaDoor
end
section
namespace Go.Proofs.YtagcnlaofkfpjaaDoor
open Go Go.Ab Go.Hm
attribute [local irreducible] thn Br ld1 ldN stV alc alcAt alcS alcSAt resv padd nilV extV part1 partN lenS lenT biI biT biB biP biS biF biE biA unV idxS idxA pickV appV copyV clearV slS slA slT mkS blkOf at1 atN atS convI convS minV maxV Cl OkF OkR EndX endV beginV defersOf setLoop closeMarks
variable {G : Bg} {h : AH} {L L' : List HP}
def swN (l : Int) : Note := { Note.zero with core := -1, line := l }
section
variable {t0 t8 : Value} {hb p1 p2 p3 i : Nat} {bits : Int} {H H2 : Hom} {R : Nat → List Note} {o : Op} {g : HP} {Q : Value → AH → Prop}
theorem app_13 (hr : 0 ≤ o.line ∧ o.line < 4) (hlen : (R o.line.toNat).length < 1000) (hs : Hs G h (rowsR p1 R :: homR G hb C0 H2 :: seg p3 0 o.enc :: g :: seg p2 0 [I bits] :: L))
    (hk : ∀ h g, Hs G h (rowsR p1 (updA R o.line.toNat (R o.line.toNat ++ [swN o.line])) :: homR G hb C0 H2 :: g :: seg p2 0 [I bits] :: L) → A3_6 Q t0 (pt p2 0 0) (pt hb 0 0) (pt p1 0 0) t8 (I 0) h) :
    A3_13 Q t0 (pt p2 0 0) (pt hb 0 0) (pt p1 0 0) t8 (pt p3 0 0) h := by
  have hk4 : o.line.toNat < 4 := by omega
  refine b3_13 (r_resv hs ?_)
  intro rv h hs
  have hs : Hs G h (rowsR p1 R :: homR G hb C0 H2 :: seg p3 0 o.enc :: frK rv (13, []) :: g :: seg p2 0 [I bits] :: L) := hs.to
  obtain ⟨y, hs⟩ := rows_out hk4 hs
  refine r_padd (r_ld hs rfl (r_padd (r_ld hs rfl (r_idxA hr.1 hr.2 (r_ld hs (rowsE_at hk4) (r_padd (r_ld hs rfl (r_fill (c := (swN o.line).enc) rfl (r_fill (c := (swN o.line).enc) rfl ?_)))))))))
  refine r_newSAt hs rfl rfl rfl rfl rfl ?_
  intro a h hs
  refine r_appS (hs.front2 (slc 9 38 (y o.line.toNat).1 (y o.line.toNat).2 ((R o.line.toNat).length, encNs (R o.line.toNat))) (slc 9 38 (some a) 1 (1, (swN o.line).enc))) (by omega) ?_
  intro a4 c4 h hs
  dsimp only
  have hs1 := hs
  refine r_idxA hr.1 hr.2 (r_sto hs rfl (rowsE_len hk4) rfl rfl ?_)
  intro h hs
  refine r_fl (r_padd veq_P) (r_fl (r_ld hs1 rfl veq_I) (hk h (sp [seg p3 0 o.enc, slc 9 38 (some a) 1 (1, (swN o.line).enc), frK rv (13, [9]), g]) ?_))
  have hs := rows_in p1 R y (R o.line.toNat ++ [swN o.line]) a4 c4 hk4 hs (by rw [← rowsE_set hk4]; simp) (by simp) (by simp [encNs_append])
  exact hs.to
theorem tail_17 {n : Note} {w : List Note} (hr : 0 ≤ o.line ∧ o.line < 4) (hw : R o.line.toNat = n :: w) (hs : Hs G h (rowsR p1 R :: homR G hb C0 H2 :: seg p3 0 o.enc :: g :: seg p2 0 [I bits] :: L))
    (hk : ∀ h g, Hs G h (rowsR p1 (updA R o.line.toNat w) :: homR G hb C0 H2 :: g :: seg p2 0 [I bits] :: L) → A3_6 Q t0 (pt p2 0 0) (pt hb 0 0) (pt p1 0 0) t8 (I 0) h) :
    A3_17 Q t0 (pt p2 0 0) (pt hb 0 0) (pt p1 0 0) t8 (pt p3 0 0) h := by
  have hk4 : o.line.toNat < 4 := by omega
  refine b3_17 (r_resv hs ?_)
  intro rv h hs
  have hs : Hs G h (rowsR p1 R :: homR G hb C0 H2 :: seg p3 0 o.enc :: frK rv (9, []) :: g :: seg p2 0 [I bits] :: L) := hs.to
  obtain ⟨y, hs⟩ := rows_out hk4 hs
  refine r_padd (r_ld hs rfl (r_padd (r_ld hs rfl (r_idxA hr.1 hr.2 (r_ld hs (rowsE_at hk4) ?_)))))
  have hl : (R o.line.toNat).length = w.length + 1 := by rw [hw]; rfl
  have he : encNs (R o.line.toNat) = n.enc ++ encNs w := by rw [hw]; rfl
  rw [hl, he] at hs
  rw [hl]
  refine r_slTail (e := 38) hs ?_
  intro a' c' hs
  refine r_idxA hr.1 hr.2 (r_sto hs rfl (rowsE_len hk4) rfl rfl ?_)
  intro h hs
  refine hk h (sp [seg p3 0 o.enc, frK rv (9, []), g]) ?_
  have hs := rows_in p1 R y w a' c' hk4 hs (rowsE_set hk4) rfl (by simp [Note.enc])
  exact hs.to
theorem begin_10 {j : Int → Int → Int × Bool} {at' : Nat → List Value} (hlim : Ob G 0 limE) (hj : Judges (.iface 24 (.agg ⟨[I bits]⟩)) j) (hi80 : i ≤ 80) (ho : OInv H R i)
    (hs : Hs G h (rowsR p1 R :: homR G hb C0 H :: seg p3 0 o.enc :: g :: seg p2 0 [I bits] :: L))
    (hk1 : ∀ H2 R2 h g, OInv H2 R2 (i + 1) → Hs G h (rowsR p1 R2 :: homR G hb C0 H2 :: g :: seg p2 0 [I bits] :: L) → A3_6 Q t0 (pt p2 0 0) (pt hb 0 0) (pt p1 0 0) (I i) (I 0) h)
    (hk2 : ∀ H2 h g, OInv H2 R (i + 1) → Hs G h (rowsR p1 R :: homR G hb C0 H2 :: g :: seg p2 0 [I bits] :: L) → A3_2 Q t0 (pt p2 0 0) (pt hb 0 0) (pt p1 0 0) (I ((i + 1 : Nat) : Int)) h) :
    A3_10 Q t0 (pt p2 0 0) (pt hb 0 0) (pt p1 0 0) (I i) (pt p3 0 0) h := by
  have hbo := begin_order (l := o.line) (j := fun w => j w o.line) ho
  refine b3_10 (r_padd (r_ld hs rfl (busy_ok (C := C0) hs fun hs => ?_)))
  refine r_padd (r_ld hs rfl (r_ldN hs (by decide) (l := [I bits]) rfl rfl (begin_ok C0_ok (N := 1000) hlim hj (ho.h 1000 (by omega)) hs fun v h hs => ?_)))
  have hs : Hs G h (rowsR p1 R :: homR G hb C0 (homBegin C0 H o.line (fun w => j w o.line)).1 :: seg p3 0 o.enc :: notesR v (homBegin C0 H o.line (fun w => j w o.line)).2.1 :: g :: seg p2 0 [I bits] :: L) := hs.to
  have hTl : (homBegin C0 H o.line (fun w => j w o.line)).2.1.length ≤ 4 := homBegin_len
  generalize homBegin C0 H o.line (fun w => j w o.line) = T at hs hbo hTl
  refine r_ext rfl (r_ext rfl (r_neI (r_br (fun h1 => b3_14 ?_) (fun h1 => b3_15 ?_))))
  · obtain ⟨e1, e2, e3⟩ := hbo.1 h1
    obtain ⟨a, c, hv, hq⟩ := notesE (hs.front (notesR v T.2.1))
    have hn : Hs G h (rowsR p1 R :: homR G hb C0 T.1 :: sp [seg p3 0 o.enc, g] :: seg p2 0 [I bits] :: L) := hq.to
    clear hs
    subst hv
    rw [e1]
    have nx := hk2 T.1 h _ e2 hn
    refine r_lenS (r_neI (r_brF (by simp) (r_brb (fun hb => ?_) (fun hb => r_addI (by omega) nx))))
    exact r_neI (r_brF (by rw [e3 hb]; simp) (b3_12 (r_addI (by omega) nx)))
  · obtain ⟨e1, e2, n, w, e3, e4, e5, e6⟩ := hbo.2 (by simpa using h1)
    have hk4 : o.line.toNat < 4 := by omega
    rw [e2]
    refine r_brf ?_
    obtain ⟨y, hs⟩ := rows_out hk4 hs
    refine r_padd (r_ld hs rfl (r_idxA e1.1 e1.2 (r_ld hs (rowsE_at hk4) (r_lenS (r_eqI (r_brF (by rw [e3]; simp; omega) ?_))))))
    refine r_padd (r_ld hs rfl (r_idxA e1.1 e1.2 (r_ld hs (rowsE_at hk4) ?_)))
    have hsl := hs.front (slc 9 38 (y o.line.toNat).1 (y o.line.toNat).2 ((R o.line.toNat).length, encNs (R o.line.toNat)))
    obtain ⟨b2, o2, hya, HH, hs2, _⟩ := hsl.slcOpen (by rw [e3]; simp)
    rw [hya]
    have hd : ((encNs (R o.line.toNat)).drop (0 * 9 + 0)).take 9 = n.enc := by rw [e3]; simp [Note.enc]
    refine r_idxN (i := 0) (by rw [e3]; simp) (r_ldNI hs2 (by decide) (l := n.enc) hd rfl ?_)
    have hlen : T.2.1.length < 2 ^ 40 := by omega
    refine serves_ok hlen e5 e6 hs fun h hs => ?_
    have hs := rows_shut p1 o.line.toNat R y hk4 hs
    have hs : Hs G h (rowsR p1 R :: homR G hb C0 T.1 :: seg p3 0 o.enc :: sp [notesR v T.2.1, g] :: seg p2 0 [I bits] :: L) := hs.to
    exact r_not (r_brf (tail_17 e1 e3 hs fun h g hs => hk1 _ _ h g e4 hs))
end
theorem order_loop {t0 : Value} {hb p1 p2 : Nat} {bits : Int} {N : Nat} {ops : Nat → Op} {Q : Value → AH → Prop} {j : Int → Int → Int × Bool} (hlim : Ob G 0 limE) (hj : Judges (.iface 24 (.agg ⟨[I bits]⟩)) j) (hN : N ≤ 80) (hold : Old G 11 t0 N fun i => (ops i).enc)
    (hk : ∀ h', Q (.bool true) h') : ∀ (f i : Nat) (h : AH) (H : Hom) (R : Nat → List Note) (g : HP), i + f = N → OInv H R i → Hs G h (rowsR p1 R :: homR G hb C0 H :: g :: seg p2 0 [I bits] :: L) →
      A3_2 Q t0 (pt p2 0 0) (pt hb 0 0) (pt p1 0 0) (I i) h := by
  intro f
  induction f with
  | zero =>
    intro i h H R g hi ho hs
    exact b3_2 (old_len hold (r_ltI (r_brF (by omega) (awake_ok (hk _)))))
  | succ f ih =>
    intro i h H R g hi ho hs
    have nx : ∀ H2 R2 h g, OInv H2 R2 (i + 1) → Hs G h (rowsR p1 R2 :: homR G hb C0 H2 :: g :: seg p2 0 [I bits] :: L) → A3_2 Q t0 (pt p2 0 0) (pt hb 0 0) (pt p1 0 0) (I ((i + 1 : Nat) : Int)) h := fun H2 R2 h g ho hs => ih (i + 1) h H2 R2 g (by omega) ho hs
    have chk : ∀ H2 R2 h g, OInv H2 R2 (i + 1) → Hs G h (rowsR p1 R2 :: homR G hb C0 H2 :: g :: seg p2 0 [I bits] :: L) → A3_6 Q t0 (pt p2 0 0) (pt hb 0 0) (pt p1 0 0) (I i) (I 0) h := fun H2 R2 h g ho hs =>
      chk_loop (i := i + 1) (by omega) ho (fun h g hs => b3_12 (r_addI (by omega) (nx H2 R2 h g ho hs))) 4 0 h g rfl hs
    refine b3_2 (old_len hold (r_ltI (r_brT (by omega) (b3_3 (old_ld hold (by omega) rfl hs (r_new hs ?_))))))
    intro p3 h hs
    generalize ops i = o
    refine r_stW hs rfl rfl rfl rfl ?_
    intro h hs
    have hs : Hs G h (rowsR p1 R :: homR G hb C0 H :: seg p3 0 o.enc :: g :: seg p2 0 [I bits] :: L) := hs.to
    refine r_padd (r_ld hs rfl (r_eqI (r_br (fun h1 => ?_) (fun h1 => b3_5 (r_eqI (r_br (fun h2 => b3_9 ?_) (fun h2 => ?_)))))))
    · have ht := take_order (n := o.n) ho
      have hlen : ∀ k, k < 4 → (R k).length < 1000 := fun k hk => by obtain ⟨_, a, b⟩ := ho k hk; rw [a]; simp; omega
      exact take_4l (fun e => (ht.1 e).1) hlen (N := i) (by omega) (ho.h i (Nat.le_refl _)) hlim hs (fun e h g hs => chk _ _ h g (ht.1 e).2 hs) (fun e h g hs => chk _ _ h g (ht.2 e) hs)
    · have ht := sweep_order (l := o.line) ho
      have hlen : ∀ k, k < 4 → (R k).length < 1000 := fun k hk => by obtain ⟨_, a, b⟩ := ho k hk; rw [a]; simp; omega
      refine r_padd (r_ld hs rfl (sweep_ok (C := C0) (ho.h _ (by omega)) hs fun h hs => ?_))
      have hs : Hs G h (rowsR p1 R :: homR G hb C0 (homSweep C0 H o.line).1 :: seg p3 0 o.enc :: g :: seg p2 0 [I bits] :: L) := hs.to
      refine r_eqI (r_br (fun h3 => ?_) (fun h3 => b3_8 (chk _ _ h (sp [seg p3 0 o.enc, g]) (ht.2 h3) hs.to)))
      obtain ⟨e1, e2⟩ := ht.1 h3
      exact app_13 e1 (hlen _ (by omega)) hs (fun h g hs => chk _ _ h g e2 hs)
    · exact begin_10 (at' := fun _ => []) hlim hj (by omega) ho hs chk (fun H2 h g => nx H2 R h g)
theorem order_ok {t0 : Value} {bits : Int} {N : Nat} {ops : Nat → Op} {Q : Value → AH → Prop} {j : Int → Int → Int × Bool} (hlim : Ob G 0 limE) (hj : Judges (.iface 24 (.agg ⟨[I bits]⟩)) j) (hold : Old G 11 t0 N fun i => (ops i).enc) (hs : Hs G h L)
    (hk : ∀ h', Q (.bool true) h') : Cl Pr K 3 [t0, .agg ⟨[I bits]⟩] h Q := by
  refine c3 (b3_0 (r_bx hs ?_))
  intro p2 h hs
  refine small_ok hs fun h hs => homeNew_ok C0_ok hlim hs fun hb h hs => ?_
  refine r_ext rfl (r_ext rfl (r_ptEq (r_brf (r_neI (r_brF (by omega) (old_len hold (r_gtI (r_br (fun h1 => ?_) (fun h1 => b3_1 (r_new hs ?_))))))))))
  · exact r_ptNe (r_brt (r_eqI (r_brT rfl (awake_ok (hk _)))))
  · intro p1 h hs
    have hs := rows_new hs
    refine order_loop (L := L) hlim hj (by omega) hold hk N 0 h (homM C0.lines) (fun _ => []) (sp []) (by omega) ?_ hs.to
    intro k hk4
    have : (homM C0.lines k).1 = row0 := by unfold homM; rw [if_pos (show k < C0.lines from hk4)]
    rw [this]
    exact ⟨LInv0 k, rfl, Nat.le_refl _⟩
end Go.Proofs.YtagcnlaofkfpjaaDoor
end
section
namespace Go.Proofs.YtagcnlaofkfpjaaDoor
open Go Go.Ab Go.Hm
attribute [local irreducible] thn Br ld1 ldN stV alc alcAt alcS alcSAt resv padd nilV extV part1 partN lenS lenT biI biT biB biP biS biF biE biA unV idxS idxA pickV appV copyV clearV slS slA slT mkS blkOf at1 atN atS convI convS minV maxV Cl OkF OkR EndX endV beginV defersOf setLoop closeMarks
variable {G : Bg} {h : AH} {L L' : List HP}
def mayJ (bits w l : Int) : Int × Bool :=
  ((wr (l.tmod 5 + 5)).tmod 5, if 0 ≤ w then (if w < 5 then (if 0 ≤ l then (if l < 12 then decide ((bits.fdiv (2 ^ (min (12 * w + l).toNat 64))).tmod 2 = 1) else false) else false) else false) else false)
theorem may_ok {bits w l : Int} {Q : Value → AH → Prop} (hs : Hs G h L) (hk : ∀ h', Hs G h' L → Q (.tuple ⟨[I (mayJ bits w l).1, .bool (mayJ bits w l).2]⟩) h') : Cl Pr K 41 [.agg ⟨[I bits]⟩, I w, I l] h Q := by
  unfold mayJ at hk
  refine c41 (b41_0 (r_bx hs ?_))
  intro p h hs
  refine r_resv hs ?_
  intro rv h hs
  have hk := hk h hs.tail.tail
  refine r_remT (by decide) (r_addW (r_remT (by decide) (r_geI (r_br (fun h1 => r_ltI (r_br (fun h2 => r_geI (r_br (fun h3 => r_ltI (r_br (fun h4 => ?_) (fun h4 => ?_))) (fun h3 => ?_))) (fun h2 => ?_))) (fun h1 => ?_)))))
  · simp only [if_pos h1, if_pos h2, if_pos h3, if_pos h4] at hk
    exact r_padd (r_ld hs rfl (r_mulI (by omega) (r_addI (by omega) (r_shr (by omega) (r_remT (by decide) (r_eqI hk))))))
  · simp only [if_pos h1, if_pos h2, if_pos h3, if_neg h4] at hk; exact hk
  · simp only [if_pos h1, if_pos h2, if_neg h3] at hk; exact hk
  · simp only [if_pos h1, if_neg h2] at hk; exact hk
  · simp only [if_neg h1] at hk; exact hk
theorem judges (bits : Int) : Judges (.iface 24 (.agg ⟨[I bits]⟩)) (mayJ bits) where
  ne := fun k hk => r_some (by unfold biE; rfl) hk
  may := fun G h L w l Q hs hk => ok_fwd (g := 41) (bs := [.agg ⟨[I bits]⟩, I w, I l]) rfl (may_ok hs fun h hs => ⟨rfl, hk h hs⟩)
end Go.Proofs.YtagcnlaofkfpjaaDoor
end
