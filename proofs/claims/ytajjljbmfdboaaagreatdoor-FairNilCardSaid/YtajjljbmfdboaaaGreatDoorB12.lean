/- From the world: arguments of the machine's laws. -/
import Derived.Test.YtajjljbmfdboaaaGreatDoorB7
import Derived.Test.YtajjljbmfdboaaaGreatDoorB8
import Derived.Test.YtajjljbmfdboaaaGreatDoorB9
import Derived.Test.YtajjljbmfdboaaaGreatDoorB6
import Derived.Test.YtajjljbmfdboaaaGreatDoorTie
import Derived.Test.YtajjljbmfdboaaaGreatDoorCards
import Derived.LaidMore
import Derived.SevenTiedAt
section
namespace Go.Proofs.YtajjljbmfdboaaaGreatDoor
open Go Go.Ab Go.RowKit
def Gl (w : World) : Prop := (∃ e z, w.heap[0]? = some (.cells ⟨limE⟩ e z)) ∧ (∃ e z, w.heap[1]? = some (.cells ⟨opsE⟩ e z)) ∧ (∃ e z, w.heap[2]? = some (.cells ⟨kinE⟩ e z)) ∧ (∃ e z, w.heap[3]? = some (.cells ⟨moeE⟩ e z))
theorem gl_ok {w : World} {e0 e1 e2 e3 : TypeId} {z0 z1 z2 z3 : Nat × Nat} (h0 : w.heap[0]? = some (.cells ⟨limE⟩ e0 z0)) (h1 : w.heap[1]? = some (.cells ⟨opsE⟩ e1 z1)) (h2 : w.heap[2]? = some (.cells ⟨kinE⟩ e2 z2)) (h3 : w.heap[3]? = some (.cells ⟨moeE⟩ e3 z3)) : GlOk Pr 4 (glM e0 z0 e1 z1 e2 z2 e3 z3) w := by
  have plain : ∀ (l : List Value) (e : TypeId) (z : Nat × Nat) (b : Nat), plainL l = true → w.heap[b]? = some (.cells ⟨l⟩ e z) → ∃ o', w.heap[b]? = some o' ∧ ∀ ρ, BRel Pr ρ (0, 0) (.cells l e z true) o' := fun l e z b hp h =>
    ⟨_, h, fun ρ => ⟨⟨l⟩, rfl, by rw [List.drop_zero, List.take_of_length_le (by simp)]; exact plainL_rel _ hp, by simp, fun _ => ⟨rfl, rfl⟩⟩⟩
  intro i o hi ho
  unfold glM at ho
  have : i = 0 ∨ i = 1 ∨ i = 2 ∨ i = 3 := by omega
  rcases this with rfl | rfl | rfl | rfl
  · cases ho; exact plain _ _ _ 0 (by rfl) h0
  · cases ho; exact plain _ _ _ 1 (by rfl) h1
  · cases ho; exact plain _ _ _ 2 (by rfl) h2
  · cases ho; exact plain _ _ _ 3 (by rfl) h3
theorem gl_keep {B : Nat} (hB : 4 ≤ B) {w w' : World} (h : Below B w w') : Gl w → Gl w' := fun ⟨⟨e0, z0, h0⟩, ⟨e1, z1, h1⟩, ⟨e2, z2, h2⟩, ⟨e3, z3, h3⟩⟩ =>
  ⟨⟨e0, z0, (h.block 0 (by omega)).trans h0⟩, ⟨e1, z1, (h.block 1 (by omega)).trans h1⟩, ⟨e2, z2, (h.block 2 (by omega)).trans h2⟩, ⟨e3, z3, (h.block 3 (by omega)).trans h3⟩⟩
theorem under3 : Pr.underlying 3 = some (.int .i64) := by kernel_rfl
theorem cells3 : Pr.cellsOf 3 = 1 := by kernel_rfl
noncomputable def ctx0 (B : Nat) (hB : 4 ≤ B) : Ctx Pr B K0 where
  G := Gl
  keep := fun w w' h => gl_keep hB h
  call := fun f args v w hk => by
    unfold K0 at hk
    split at hk <;> cases hk
  fwd := fun f args g bs hk ρ args' w ha hg => by
    unfold K0 at hk
    split at hk
    · cases hk
    · rename_i v x l
      cases hk
      simp only [LRel] at ha
      obtain ⟨_, _, hv, ⟨x', _, hx, ⟨l', _, hl, rfl, rfl⟩, rfl⟩, rfl⟩ := ha
      simp only [VRel] at hv
      obtain ⟨v', hv, rfl⟩ := hv
      refine ⟨[v', x', l'], (w.alloc (.cells #[.int .i64 0] 3)).alloc (.cells #[.bool false] 4), LRel.cons hv (LRel.cons hx (LRel.cons hl rfl)), ((Below.refl _ _).alloc (Nat.le_refl _) _).alloc (by simp) _, fun a S hok hc => ?_⟩
      unfold fwdOk at hok
      split at hok
      · rename_i n b
        have hsz : ((w.alloc (.cells #[.int .i64 0] 3)).alloc (.cells #[.bool false] 4)).heap.size = w.heap.size + 2 := by simp
        rw [hsz]
        exact judged_fwd v' x' l' w S n b hc
      · cases hok
    · cases hk
  host := fun f args F hk h v h' hF ρ w args' hi _ ha => by
    unfold K0 at hk
    split at hk
    · rename_i c
      cases hk
      exact sorted_host under3 cells3 (fun c b nn D0 R w h1 h2 h3 h4 h5 => Tryz.sortedKeys c b nn D0 R w h1 h2 h3 h4 h5) hF hi ha
    · cases hk
    · cases hk
theorem gl_size {w : World} (hg : Gl w) : 4 ≤ w.heap.size := by
  obtain ⟨_, _, _, ⟨e, z, h⟩⟩ := hg
  exact (Array.getElem?_eq_some_iff.1 h).1
theorem gl_reads {w : World} {e0 e1 e2 e3 : TypeId} {z0 z1 z2 z3 : Nat × Nat} (hs : 4 ≤ w.heap.size) (h : GlOk Pr 4 (glM e0 z0 e1 z1 e2 z2 e3 z3) w) : Reads Pr 4 (oldOf 4 (glM e0 z0 e1 z1 e2 z2 e3 z3) []) (rhoOf 4 []) w :=
  reads_of (rs := []) (by rw [globals4]; exact Nat.le_refl _) hs h (fun r hr => by cases hr)
theorem facts_plain : (facts.all fun x => plainL x.2.1 && plainV x.2.2) = true := by kernel_rfl
theorem facts_so {w : World} (hg : Gl w) : ∀ x ∈ facts, Calls Pr x.1 ⟨x.2.1⟩ w fun e w' => e = .returned x.2.2 ∧ Below w.heap.size w w' := by
  have hs := gl_size hg
  obtain ⟨⟨e0, z0, h0⟩, ⟨e1, z1, h1⟩, ⟨e2, z2, h2⟩, ⟨e3, z3, h3⟩⟩ := id hg
  exact facts_call facts_plain (facts_run e0 z0 e1 z1 e2 z2 e3 z3) (ctx0 w.heap.size hs) hg (gl_reads hs (gl_ok h0 h1 h2 h3))
noncomputable def ctx1 (B : Nat) (hB : 4 ≤ B) : Ctx Pr B K1 := (ctx0 B hB).addL facts facts_plain fun x hx w hg => facts_so hg x hx
/-- a closed call that is run once -/
theorem awake_so {f : FuncId} {n : Nat} (hr : ∀ (e0 : TypeId) (z0 : Nat × Nat) (e1 : TypeId) (z1 : Nat × Nat) (e2 : TypeId) (z2 : Nat × Nat) (e3 : TypeId) (z3 : Nat × Nat), ((runF Pr K1 n (.call f []) (st4 e0 z0 e1 z1 e2 z2 e3 z3)).any fun r => veq r.1.v (.bool true)) = true) {w : World} (hg : Gl w) :
    Calls Pr f #[] w fun e w' => e = .returned (.bool true) ∧ Below w.heap.size w w' := by
  have hs := gl_size hg
  obtain ⟨⟨e0, z0, h0⟩, ⟨e1, z1, h1⟩, ⟨e2, z2, h2⟩, ⟨e3, z3, h3⟩⟩ := id hg
  exact closed_call rfl (run_of_runF (hr e0 z0 e1 z1 e2 z2 e3 z3)) (ctx1 w.heap.size hs) hg (gl_reads hs (gl_ok h0 h1 h2 h3))
noncomputable def ctxA (f : FuncId) {n : Nat} (hr : ∀ (e0 : TypeId) (z0 : Nat × Nat) (e1 : TypeId) (z1 : Nat × Nat) (e2 : TypeId) (z2 : Nat × Nat) (e3 : TypeId) (z3 : Nat × Nat), ((runF Pr K1 n (.call f []) (st4 e0 z0 e1 z1 e2 z2 e3 z3)).any fun r => veq r.1.v (.bool true)) = true) (B : Nat) (hB : 4 ≤ B) : Ctx Pr B (addK K1 f (.bool true)) :=
  (ctx1 B hB).add f (.bool true) rfl fun _ hg => awake_so hr hg
end Go.Proofs.YtajjljbmfdboaaaGreatDoor
end
section
namespace Go.Proofs.YtajjljbmfdboaaaGreatDoor
open Go Go.Ab Go.RowKit
theorem own : ownKnob Tryz.prog.godebug = none := by kernel_rfl
theorem laidOut : laidOutB Tryz.prog = true := by kernel_rfl
theorem g0 : Tryz.prog.globalNamed "donjon/place.limits" = some 0 := by kernel_rfl
theorem g1 : Tryz.prog.globalNamed "donjon/isa.ops" = some 1 := by kernel_rfl
theorem g2 : Tryz.prog.globalNamed "donjon/note.kinds" = some 2 := by kernel_rfl
theorem g3 : Tryz.prog.globalNamed "donjon/moesi.rows" = some 3 := by kernel_rfl
theorem gl_of {W : World} {l : List (String × DataW Unit)} (hp : (l.all fun x => x.2.handleName?.isNone) = true) (h : laidMetH Tryz.prog l W) (m0 : ("donjon/place.limits", Rows.laid_donjon_place_limits) ∈ l) (m1 : ("donjon/isa.ops", Rows.laid_donjon_isa_ops) ∈ l)
    (m2 : ("donjon/note.kinds", Rows.laid_donjon_note_kinds) ∈ l) (m3 : ("donjon/moesi.rows", Rows.laid_donjon_moesi_rows) ∈ l) : Gl W := by
  obtain ⟨e0, z0, h0⟩ := laid_block (l := limE) 8 hp h m0 g0 (t := 288) (by kernel_rfl) (by kernel_rfl)
  obtain ⟨e1, z1, h1⟩ := laid_block (l := opsE) 8 hp h m1 g1 (t := 381) (by kernel_rfl) (by kernel_rfl)
  obtain ⟨e2, z2, h2⟩ := laid_block (l := kinE) 8 hp h m2 g2 (t := 407) (by kernel_rfl) (by kernel_rfl)
  obtain ⟨e3, z3, h3⟩ := laid_block (l := moeE) 8 hp h m3 g3 (t := 427) (by kernel_rfl) (by kernel_rfl)
  exact ⟨⟨e0, z0, h0⟩, ⟨e1, z1, h1⟩, ⟨e2, z2, h2⟩, ⟨e3, z3, h3⟩⟩
theorem doFlat : flatT Tryz.prog 8 23 = some [some .i64, some .i64, some .i64, some .i64] := by kernel_rfl
theorem do_of {l : List Value} (h0 : Flat [some .i64, some .i64, some .i64, some .i64] l) : ∃ a b c d : Int, l = [I a, I b, I c, I d] := by
  obtain ⟨a, l1, e1, h1⟩ := flat_int h0
  obtain ⟨b, l2, e2, h2⟩ := flat_int h1
  obtain ⟨c, l3, e3, h3⟩ := flat_int h2
  obtain ⟨d, l4, e4, h4⟩ := flat_int h3
  have e5 := flat_nil h4
  subst e5 e4 e3 e2 e1
  exact ⟨a, b, c, d, rfl⟩
/-- a law whose call is closed but for numbers -/
theorem closed_law {fA f : FuncId} {nA n : Nat} {args : List Value} (hA : ∀ (e0 : TypeId) (z0 : Nat × Nat) (e1 : TypeId) (z1 : Nat × Nat) (e2 : TypeId) (z2 : Nat × Nat) (e3 : TypeId) (z3 : Nat × Nat), ((runF Pr K1 nA (.call fA []) (st4 e0 z0 e1 z1 e2 z2 e3 z3)).any fun r => veq r.1.v (.bool true)) = true) (ha : plainL args = true)
    (hr : ∀ (e0 : TypeId) (z0 : Nat × Nat) (e1 : TypeId) (z1 : Nat × Nat) (e2 : TypeId) (z2 : Nat × Nat) (e3 : TypeId) (z3 : Nat × Nat), ((runF Pr (addK K1 fA (.bool true)) n (.call f args) (st4 e0 z0 e1 z1 e2 z2 e3 z3)).any fun r => veq r.1.v (.bool true)) = true) {w : World} (hg : Gl w) :
    Calls Pr f ⟨args⟩ w fun e w' => e = .returned (.bool true) ∧ Below w.heap.size w w' := by
  have hs := gl_size hg
  obtain ⟨⟨e0, z0, h0⟩, ⟨e1, z1, h1⟩, ⟨e2, z2, h2⟩, ⟨e3, z3, h3⟩⟩ := id hg
  exact closed_callA ha rfl (run_of_runF (hr e0 z0 e1 z1 e2 z2 e3 z3)) (ctxA fA hA w.heap.size hs) hg (gl_reads hs (gl_ok h0 h1 h2 h3))
end Go.Proofs.YtajjljbmfdboaaaGreatDoor
end
