/- NoteOne: for every input the law answers true, and each argument reads afterwards as it read before. No condition but the listed variables' text. -/
import Derived.Test.YtjchglfcndckhaaDoorB7
import Derived.Test.YtjchglfcndckhaaDoorB6
import Derived.Test.YtjchglfcndckhaaDoorB8
import Derived.Test.YtjchglfcndckhaaDoorB9
import Derived.Test.YtjchglfcndckhaaDoorTie
import Derived.Test.YtjchglfcndckhaaDoorCards
import Derived.LaidMore
import Derived.SevenTiedAt
section
namespace Go.Proofs.YtjchglfcndckhaaDoor
open Go Go.Ab Go.Hm Go.Nt Go.RowKit
def powE : List Value := Lib.pow10Tab.map fun z => Value.int .u64 z
def Gl (w : World) : Prop := (∃ e z, w.heap[0]? = some (.cells ⟨kindsE⟩ e z)) ∧ (∃ e z, w.heap[1]? = some (.cells ⟨limE⟩ e z)) ∧ ∃ e z, w.heap[2]? = some (.cells ⟨powE⟩ e z)
theorem gl_ok {w : World} {e0 e1 : TypeId} {z0 z1 : Nat × Nat} (h0 : w.heap[0]? = some (.cells ⟨kindsE⟩ e0 z0)) (h1 : w.heap[1]? = some (.cells ⟨limE⟩ e1 z1)) : GlOk Pr 5 (glN e0 z0 e1 z1) w := by
  intro i o hi ho
  unfold glN at ho
  split at ho
  · rename_i e; subst e
    cases ho
    refine ⟨_, h0, fun ρ => ⟨⟨kindsE⟩, rfl, ?_, by simp, fun _ => rfl⟩⟩
    rw [List.drop_zero, List.take_of_length_le (by simp)]
    exact plainL_rel _ (by rfl)
  · split at ho
    · rename_i e; subst e
      cases ho
      refine ⟨_, h1, fun ρ => ⟨⟨limE⟩, rfl, ?_, by simp, fun _ => rfl⟩⟩
      rw [List.drop_zero, List.take_of_length_le (by simp)]
      exact plainL_rel _ (by rfl)
    · cases ho
theorem gl_keep {B : Nat} (hB : 3 ≤ B) {w w' : World} (h : Below B w w') : Gl w → Gl w' := fun ⟨⟨e, z, h0⟩, ⟨e', z', h1⟩, e2, z2, h2⟩ =>
  ⟨⟨e, z, (h.block 0 (by omega)).trans h0⟩, ⟨e', z', (h.block 1 (by omega)).trans h1⟩, e2, z2, (h.block 2 (by omega)).trans h2⟩
theorem gPow : Tryd.prog.globalNamed "internal/strconv.uint64pow10" = some 2 := by kernel_rfl
theorem below_grow {w : World} {n : Nat} {os : Array Obj} : Below w.heap.size w (Go.Sort.grow (w.drewN n) os) := ⟨rfl, rfl, rfl, by
  show w.heap.size ≤ (w.heap ++ os).size
  simp, fun k hk => by
  show (w.heap ++ os)[k]? = w.heap[k]?
  rw [Array.getElem?_append_left hk]⟩
noncomputable def ctx0 (B : Nat) (hB : 3 ≤ B) : Ctx Pr B K0 where
  G := Gl
  keep := fun w w' h => gl_keep hB h
  call := fun f args v w hk hg => by
    unfold K0 at hk
    split at hk
    · rename_i n
      split at hk
      · rename_i hn
        cases hk
        refine ⟨rfl, rfl, ?_⟩
        obtain ⟨_, _, e2, z2, h2⟩ := hg
        refine (Tryd.strconv_Itoa n hn.1 hn.2 w ?_).mono fun e w' ⟨he, k, os, hw⟩ => ⟨he, by rw [hw]; exact below_grow⟩
        simp only [Lib.TabIs, World.var?, gPow, Option.bind_some, h2]
        rfl
      · cases hk
    · cases hk
  fwd := fun f args g bs hk => by
    unfold K0 at hk
    split at hk
    · split at hk <;> cases hk
    · cases hk
theorem globals5 : Pr.globals.size = 5 := by kernel_rfl
theorem size_of {w : World} (h : Gl w) (h5 : 5 ≤ w.heap.size) : 3 ≤ w.heap.size := by omega
def GlS (w : World) : Prop := Gl w ∧ 5 ≤ w.heap.size
theorem awake_calls {w : World} (h5 : 5 ≤ w.heap.size) (hg : Gl w) : Calls Pr 9 #[] w fun e w' => e = .returned (.bool true) ∧ Below w.heap.size w w' := by
  have hg' := hg
  obtain ⟨⟨e0, z0, h0⟩, ⟨e1, z1, h1⟩, _⟩ := hg
  exact closed_call rfl (awake_run e0 z0 e1 z1) (ctx0 w.heap.size (by omega)) hg' (reads_of (gl := glN e0 z0 e1 z1) (rs := []) (g := 5) (by rw [globals5]; exact Nat.le_refl _) h5 (gl_ok h0 h1) (fun r hr => by cases hr))
noncomputable def ctx0S (B : Nat) (hB : 5 ≤ B) : Ctx Pr B K0 where
  G := fun w => Gl w ∧ 5 ≤ w.heap.size
  keep := fun w w' h hg => ⟨gl_keep (by omega) h hg.1, Nat.le_trans hg.2 h.size⟩
  call := fun f args v w hk hg => (ctx0 B (by omega)).call f args v w hk hg.1
  fwd := fun f args g bs hk ρ args' w ha hg => (ctx0 B (by omega)).fwd f args g bs hk ρ args' w ha hg.1
noncomputable def ctx (B : Nat) (hB : 5 ≤ B) : Ctx Pr B K := (ctx0S B hB).add 9 (.bool true) rfl fun w hg => awake_calls hg.2 hg.1
theorem own : ownKnob Tryd.prog.godebug = none := by kernel_rfl
theorem laidOut : laidOutB Tryd.prog = true := by kernel_rfl
theorem gKinds : Tryd.prog.globalNamed "donjon/note.kinds" = some 0 := by kernel_rfl
theorem gLim : Tryd.prog.globalNamed "donjon/place.limits" = some 1 := by kernel_rfl
theorem gBru : Tryd.prog.globalNamed "math/bits.deBruijn64tab" = some 4 := by kernel_rfl
theorem tKinds : (Tryd.prog.globals[0]?).map (·.type) = some 49 := by kernel_rfl
theorem tLim : (Tryd.prog.globals[1]?).map (·.type) = some 46 := by kernel_rfl
theorem tPow : (Tryd.prog.globals[2]?).map (·.type) = some 76 := by kernel_rfl
theorem tBru : (Tryd.prog.globals[4]?).map (·.type) = some 83 := by kernel_rfl
theorem gl_of {W : World} {l : List (String × DataW Unit)} (hp : (l.all fun x => x.2.handleName?.isNone) = true) (h : laidMetH Tryd.prog l W) (m0 : ("donjon/note.kinds", Rows.laid_donjon_note_kinds) ∈ l) (m1 : ("donjon/place.limits", Rows.laid_donjon_place_limits) ∈ l)
    (m2 : ("internal/strconv.uint64pow10", Rows.laid_internal_strconv_uint64pow10) ∈ l) (m4 : ("math/bits.deBruijn64tab", Rows.laid_math_bits_deBruijn64tab) ∈ l) : Gl W ∧ 5 ≤ W.heap.size := by
  obtain ⟨e0, z0, h0⟩ := laid_block (l := kindsE) 8 hp h m0 gKinds tKinds (by kernel_rfl)
  obtain ⟨e1, z1, h1⟩ := laid_block (l := limE) 8 hp h m1 gLim tLim (by kernel_rfl)
  obtain ⟨e2, z2, h2⟩ := laid_block (l := powE) 8 hp h m2 gPow tPow (by kernel_rfl)
  obtain ⟨e4, z4, h4⟩ := laid_block (l := ((cellsD Tryd.prog 8 83 (Rows.laid_math_bits_deBruijn64tab (H := Unit))).getD [])) 8 hp h m4 gBru tBru (by kernel_rfl)
  exact ⟨⟨⟨e0, z0, h0⟩, ⟨e1, z1, h1⟩, e2, z2, h2⟩, (Array.getElem?_eq_some_iff.1 h4).1⟩
theorem calls_law {W : World} (hL : Gl W ∧ 5 ≤ W.heap.size) {f : FuncId} {args : List Value} (hp : plainL args = true) (hok : ∀ (G : Bg) (h : AH), Ob G 0 kindsE → Ob G 1 limE → Hs G h [] → Cl Pr K f args h fun v _ => v = .bool true) :
    Calls Pr f ⟨args⟩ W fun e W' => e = .returned (.bool true) ∧ Below W.heap.size W W' := by
  have hL' := hL
  obtain ⟨⟨⟨e0, z0, h0⟩, ⟨e1, z1, h1⟩, _⟩, h5⟩ := hL
  have reads : Reads Pr (5 + ([] : List OB).length) (oldOf 5 (glN e0 z0 e1 z1) []) (rhoOf 5 []) W := reads_of (by rw [globals5]; exact Nat.le_refl _) h5 (gl_ok h0 h1) (fun r hr => by cases hr)
  have ok := hok ⟨5, oldOf 5 (glN e0 z0 e1 z1) []⟩ (Go.Ab.start 5 (oldOf 5 (glN e0 z0 e1 z1) [])) ⟨by show 0 < 5; omega, e0, z0, true, (oldOf_gl (g := 5) (i := 0) (gl := glN e0 z0 e1 z1) (rs := []) (by omega)).trans rfl⟩ ⟨by show 1 < 5; omega, e1, z1, true, (oldOf_gl (g := 5) (i := 1) (gl := glN e0 z0 e1 z1) (rs := []) (by omega)).trans rfl⟩ hs_start
  have := calls_of (ctx W.heap.size h5) hL' reads (args := args) (args' := args) (plainL_rel _ hp) ok
  intro cs
  obtain ⟨e, w', fr, ⟨ρ', o, h', v', he, hv', hq, _, hb⟩, hx⟩ := this cs
  rw [hq] at hv'
  simp only [VRel] at hv'
  exact ⟨e, w', fr, ⟨by rw [he, hv'], hb⟩, hx⟩
theorem cfgFlat : flatT Tryd.prog 8 23 = some [some .i64, some .i64, some .i64, some .i64, some .i64, some .i64, some .i64] := by kernel_rfl
theorem cfg_of {l : List Value} (h0 : Flat [some .i64, some .i64, some .i64, some .i64, some .i64, some .i64, some .i64] l) : ∃ C : Cfg, l = C.enc := by
  obtain ⟨a, l1, e1, h1⟩ := flat_int h0
  obtain ⟨b, l2, e2, h2⟩ := flat_int h1
  obtain ⟨c, l3, e3, h3⟩ := flat_int h2
  obtain ⟨d, l4, e4, h4⟩ := flat_int h3
  obtain ⟨e, l5, e5, h5⟩ := flat_int h4
  obtain ⟨f, l6, e6, h6⟩ := flat_int h5
  obtain ⟨g, l7, e7, h7⟩ := flat_int h6
  have e8 := flat_nil h7
  subst e8 e7 e6 e5 e4 e3 e2 e1
  exact ⟨⟨a, b, c, d, e, f, g⟩, rfl⟩
def noteKs : List (Option IntKind) := [some .i64, some .i64, some .i64, some .i64, some .i64, some .i64, some .i64, none, some .i64]
theorem noteFlat : flatT Tryd.prog 8 27 = some noteKs := by kernel_rfl
theorem note_of {l : List Value} (h0 : Flat noteKs l) : ∃ n : Note, l = n.enc := by
  obtain ⟨a, l1, e1, h1⟩ := flat_int h0
  obtain ⟨b, l2, e2, h2⟩ := flat_int h1
  obtain ⟨c, l3, e3, h3⟩ := flat_int h2
  obtain ⟨d, l4, e4, h4⟩ := flat_int h3
  obtain ⟨e, l5, e5, h5⟩ := flat_int h4
  obtain ⟨f, l6, e6, h6⟩ := flat_int h5
  obtain ⟨g, l7, e7, h7⟩ := flat_int h6
  obtain ⟨i, l8, e8, h8⟩ := flat_bool h7
  obtain ⟨j, l9, e9, h9⟩ := flat_int h8
  have e10 := flat_nil h9
  subst e10 e9 e8 e7 e6 e5 e4 e3 e2 e1
  exact ⟨⟨a, b, c, d, e, f, g, i, j⟩, rfl⟩
theorem pairFlat : flatT Tryd.prog 8 24 = some [some .i64, some .i64] := by kernel_rfl
theorem pair_of {l : List Value} (h0 : Flat [some .i64, some .i64] l) : ∃ a b : Int, l = [I a, I b] := by
  obtain ⟨a, l1, e1, h1⟩ := flat_int h0
  obtain ⟨b, l2, e2, h2⟩ := flat_int h1
  have e3 := flat_nil h2
  subst e3 e2 e1
  exact ⟨a, b, rfl⟩
end Go.Proofs.YtjchglfcndckhaaDoor
end
section
namespace Go.Proofs.YtjchglfcndckhaaDoor
open Go Go.Ab Go.Hm Go.Nt Go.RowKit
theorem noteOne_door (os : Os) (args : Array Value) : laidMetH Tryd.prog Rows.noteOneRow.laid ((World.doorLaid Tryd.prog 4000 os).forCall (fun _ _ => 0) ⟨#[], args, []⟩).memory :=
  laidMetH_of_parts3 (fuel := 8) (laidMet_of_run' 8 (by kernel_rfl) (by kernel_rfl)) (by kernel_rfl) (by kernel_rfl)
set_option maxRecDepth 100000 in
theorem noteOne_lifted (os : Os) (started : os.Started) (H : Type) (enc : TypeId × Value → H) :
    ReturnsInHanded {} Tryd.checked os 6 .any (fun w args => (Rows.noteOneSpec.pre enc Tryd.prog Tryd.f6 [] false w args ∧ laidMetH Tryd.prog Rows.noteOneRow.laid w) ∧ sizedMet enc Tryd.prog Tryd.f6 (OpenSpec.ofChange Rows.noteOneSpec) false w args)
      (Rows.noteOneSpec.post enc Tryd.prog Tryd.f6 false true false false) := by
  refine law_lifted (C := Tryd.checked) started own (by kernel_rfl) Tryd.func6 laidOut (by kernel_rfl) rfl Tryd.underlying4 rfl (fun ds hd => by
      match ds, hd with
      | [d1, d2, d3], _ => rfl)
    (ChangeSpec.witness_shaped (enc := enc) (C := Tryd.checked) (os := os) (X := fun w _ => laidMetH Tryd.prog Rows.noteOneRow.laid w) false (World.doorLaid Tryd.prog 4000 os) #[.agg #[.int .i64 0, .int .i64 0, .int .i64 0, .int .i64 0, .int .i64 0, .int .i64 0, .int .i64 0], .agg #[.int .i64 0, .int .i64 0, .int .i64 0, .int .i64 0, .int .i64 0, .int .i64 0, .int .i64 0, .bool false, .int .i64 0], .int .i64 0] 8 rfl (World.shaped_of_RefB (by kernel_rfl) (by kernel_rfl)) (by kernel_rfl) (by kernel_rfl) (by kernel_rfl) (noteOne_door os _)) ?_
  intro W base args ds ps hA hval hL
  rw [show (Tryd.f6.params.toList) = [23, 27, 3] from by rw [Tryd.params6]] at hA
  rw [Tryd.params6] at hval
  obtain ⟨v0, vs0, d0, ds0, p0, q0, rfl, rfl, rfl, h0, r0⟩ := ChangeShapes.trodAll_cons hA
  obtain ⟨v1, vs1, d1, ds1, p1, q1, rfl, rfl, rfl, h1, r1⟩ := ChangeShapes.trodAll_cons r0
  obtain ⟨v2, vs2, d2, ds2, p2, q2, rfl, rfl, rfl, h2, r2⟩ := ChangeShapes.trodAll_cons r1
  obtain ⟨rfl, rfl, rfl⟩ := ChangeShapes.trodAll_nil r2
  obtain ⟨l0, rfl, hl0⟩ := open_structF Tryd.underlying23 cfgFlat (hval 0 _ v0 rfl rfl) h0
  obtain ⟨x0, rfl⟩ := cfg_of hl0
  obtain ⟨l1, rfl, hl1⟩ := open_structF Tryd.underlying27 noteFlat (hval 1 _ v1 rfl rfl) h1
  obtain ⟨x1, rfl⟩ := note_of hl1
  obtain ⟨x2, rfl, rfl, rfl, w2⟩ := ChangeShapes.open_int Tryd.underlying3 (hval 2 _ v2 rfl rfl) h2
  exact calls_law (gl_of (by kernel_rfl) hL (by simp [Rows.noteOneRow]) (by simp [Rows.noteOneRow]) (by simp [Rows.noteOneRow]) (by simp [Rows.noteOneRow])) (args := [.agg ⟨x0.enc⟩, .agg ⟨x1.enc⟩, I x2]) rfl fun G h hkd hlim hs => one_ok hkd hlim hs (fun _ => rfl)
theorem noteOne_over : Rows.noteOneRow.holds Tryd.pinned (OpenSpec.ofChange Rows.noteOneSpec) :=
  OpenClaim.holds_of_wide 6 Tryd.f6 rfl rfl rfl rfl rfl rfl rfl ⟨rfl, rfl, rfl, rfl, rfl⟩ rfl rfl rfl rfl rfl (by kernel_rfl) Tryd.func6 (by kernel_rfl)
    (of_decide_eq_true (by kernel_rfl)) (by unfold Func.isWrapper; first | (rw [if_pos (by decide +kernel)]; kernel_rfl) | (rw [if_neg (by decide +kernel)]; exact ⟨rfl, rfl⟩))
    (fun os started H enc _ => noteOne_lifted os started H enc)
/-- ████ THE STATEMENT ████ -/
theorem noteOne_proved : Rows.NoteOneCardSaid :=
  Claim7.holds_tied_plain_at .later [] Rows.noteOneCard.laidKinds true Rows.noteOneCard.stood.harness false
    noteOne_over (fun _ h => by cases h) (by kernel_rfl) (fun _ h => by cases h) noteOne_row_tie rfl ⟨rfl, rfl⟩ (by kernel_rfl) rfl
    (fun f fn hf hfn => by
      obtain rfl : f = 6 := Option.some.inj ((show Tryd.prog.funcNamed "donjon/donjonlaw03.NoteOne" = some 6 by kernel_rfl).symm.trans hf) |>.symm
      obtain rfl : fn = Tryd.f6 := (Option.some.inj (Tryd.func6.symm.trans hfn)).symm
      exact ⟨by kernel_rfl, fun j t ht => by
        rw [Tryd.params6] at ht
        have hm : t ∈ [23, 27, 3] := by simpa using Array.mem_of_getElem? ht
        have hall : ([23, 27, 3].all fun u => !Tryd.prog.wantsStandIn u) = true := by kernel_rfl
        exact (show Tryd.prog.wantsStandIn t = false by simpa using List.all_eq_true.1 hall t hm)⟩)
    (by kernel_rfl)
end Go.Proofs.YtjchglfcndckhaaDoor
end
