/- HomePlays: for every input the law answers true, and each argument reads afterwards as it read before. No condition but the listed variable's text. -/
import Derived.Test.YtagcnlaofkfpjaaDoorB10
import Derived.Test.YtagcnlaofkfpjaaDoorB9
import Derived.Test.YtagcnlaofkfpjaaDoorB11
import Derived.WalkKit
import Derived.ProofKit
import Derived.OpenShut
import Derived.ChangeOld
import Derived.Below
import Derived.Test.YtagcnlaofkfpjaaDoorTie
import Derived.Test.YtagcnlaofkfpjaaDoorCards
import Derived.LaidMore
import Derived.SevenTiedAt
import Derived.Test.YtagcnlaofkfpjaaDoorB13
section
namespace Go.Proofs.YtagcnlaofkfpjaaDoor
open Go Go.Ab Go.Hm Go.RowKit
/-- the listed variable -/
def Lim (w : World) : Prop := ∃ e fz, w.heap[0]? = some (.cells ⟨limE⟩ e fz)
theorem lim_gl {w : World} {e : TypeId} {fz : Nat × Nat} (h : w.heap[0]? = some (.cells ⟨limE⟩ e fz)) : GlOk Pr 1 (glB e fz) w := by
  intro i o hi ho
  have : i = 0 := by omega
  subst this
  simp only [glB, if_true, Option.some.injEq] at ho
  subst ho
  refine ⟨_, h, fun ρ => ⟨⟨limE⟩, rfl, ?_, by simp, fun _ => rfl⟩⟩
  rw [List.drop_zero, List.take_of_length_le (by simp)]
  exact plainL_rel _ (by rfl)
theorem lim_keep {B : Nat} (hB : 0 < B) {w w' : World} (h : Below B w w') : Lim w → Lim w' := fun ⟨e, fz, hh⟩ => ⟨e, fz, (h.block 0 hB).trans hh⟩
noncomputable def ctx0 (B : Nat) (hB : 0 < B) : Ctx Pr B K0 where
  G := Lim
  keep := fun w w' h => lim_keep hB h
  call := fun f args v w hk => by
    unfold K0 at hk
    split at hk <;> cases hk
  host := fun f args F hk => by
    unfold K0 at hk
    split at hk <;> cases hk
  fwd := fun f args g bs hk ρ args' w ha hg => by
    unfold K0 at hk
    split at hk
    · rename_i v x l
      cases hk
      simp only [LRel] at ha
      obtain ⟨_, _, hv, ⟨x', _, hx, ⟨l', _, hl, rfl, rfl⟩, rfl⟩, rfl⟩ := ha
      simp only [VRel] at hv
      obtain ⟨v', hv, rfl⟩ := hv
      refine ⟨[v', x', l'], (w.alloc (.cells #[.int .i64 0] 3)).alloc (.cells #[.bool false] 4), LRel.cons hv (LRel.cons hx (LRel.cons hl rfl)), ((Below.refl _ _).alloc (Nat.le_refl _) _).alloc (by simp) _, fun a S hok hc => ?_⟩
      unfold fwdOk at hok
      split at hok
      · rename_i n b
        have hsz : ((w.alloc (.cells #[.int .i64 0] 3)).alloc (.cells #[.bool false] 4)).heap.size = w.heap.size + 2 := by simp
        rw [hsz]
        exact judged_fwd v' x' l' w S n b hc
      · cases hok
    · cases hk
theorem globals1 : Pr.globals.size = 1 := by kernel_rfl
theorem awake_calls {w : World} (hs : 0 < w.heap.size) (hg : Lim w) : Calls Pr 9 #[] w fun e w' => e = .returned (.bool true) ∧ Below w.heap.size w w' := by
  obtain ⟨e, fz, hh⟩ := hg
  exact closed_call rfl (awake_run e fz) (ctx0 w.heap.size hs) ⟨e, fz, hh⟩ (reads_of (gl := glB e fz) (rs := []) (g := 1) (by rw [globals1]; exact Nat.le_refl _) hs (lim_gl hh) (fun r hr => by cases hr))
noncomputable def ctx (B : Nat) (hB : 0 < B) : Ctx Pr B K := (ctx0 B hB).add 9 (.bool true) rfl fun w hg => by
  have hg' := hg
  obtain ⟨e, fz, hh⟩ := hg'
  exact awake_calls (Array.getElem?_eq_some_iff.1 hh).1 hg
end Go.Proofs.YtagcnlaofkfpjaaDoor
end
section
namespace Go.Proofs.YtagcnlaofkfpjaaDoor
open Go Go.Ab Go.Hm Go.RowKit
theorem own : ownKnob Tryd.prog.godebug = none := by kernel_rfl
theorem laidOut : laidOutB Tryd.prog = true := by kernel_rfl
def opKs : List (Option IntKind) := [some .i64, some .i64, some .i64, some .i64, some .i64, some .i64, some .i64, some .i64, none, some .i64, some .i64]
theorem opFlat : flatT Tryd.prog 8 40 = some opKs := by kernel_rfl
theorem opCells : Tryd.prog.cellsOf 40 = opKs.length := by kernel_rfl
theorem op_of {l : List Value} (h0 : Flat opKs l) : ∃ o : Op, l = o.enc := by
  obtain ⟨a, l1, e1, h1⟩ := flat_int h0
  obtain ⟨b, l2, e2, h2⟩ := flat_int h1
  obtain ⟨c, l3, e3, h3⟩ := flat_int h2
  obtain ⟨d, l4, e4, h4⟩ := flat_int h3
  obtain ⟨e, l5, e5, h5⟩ := flat_int h4
  obtain ⟨f, l6, e6, h6⟩ := flat_int h5
  obtain ⟨g, l7, e7, h7⟩ := flat_int h6
  obtain ⟨i, l8, e8, h8⟩ := flat_int h7
  obtain ⟨j, l9, e9, h9⟩ := flat_bool h8
  obtain ⟨k, l10, e10, h10⟩ := flat_int h9
  obtain ⟨m, l11, e11, h11⟩ := flat_int h10
  have e12 := flat_nil h11
  subst e12 e11 e10 e9 e8 e7 e6 e5 e4 e3 e2 e1
  exact ⟨⟨a, ⟨b, c, d, e, f, g, i, j, k⟩, m⟩, rfl⟩
theorem ruleFlat : flatT Tryd.prog 8 24 = some [some .i64] := by kernel_rfl
theorem rule_of {l : List Value} (h : Flat [some .i64] l) : ∃ b : Int, l = [I b] := by
  obtain ⟨a, l1, e1, h1⟩ := flat_int h
  have e2 := flat_nil h1
  subst e2 e1
  exact ⟨a, rfl⟩
theorem gLim : Tryd.prog.globalNamed "donjon/place.limits" = some 0 := by kernel_rfl
theorem tLim : (Tryd.prog.globals[0]?).map (·.type) = some 104 := by kernel_rfl
theorem lim_of {W : World} (h : laidMetH Tryd.prog [("donjon/place.limits", Rows.laid_donjon_place_limits)] W) : Lim W :=
  laid_block (l := limE) 8 (by kernel_rfl) h (List.mem_singleton.2 rfl) gLim tLim (by kernel_rfl)
theorem door_met (os : Os) (args : Array Value) : laidMetH Tryd.prog [("donjon/place.limits", Rows.laid_donjon_place_limits)] ((World.doorLaid Tryd.prog 400 os).forCall (fun _ _ => 0) ⟨#[], args, []⟩).memory :=
  laidMetH_of_parts3 (fuel := 8) (laidMet_of_run' 8 (by kernel_rfl) (by kernel_rfl)) (by kernel_rfl) (by kernel_rfl)
/-- WHAT A LAW'S CALL IS: of what was there nothing turns. -/
theorem calls_law {W : World} (hL : Lim W) {a : Option Addr} {len cap : Nat} (hrow : FlatRow opKs W a len cap) {f : FuncId} {more more' : List Value} (hmore : ∀ ρ, LRel ρ more more')
    (hok : ∀ (G : Bg) (h : AH) (t : Value) (ops : Nat → Op), Ob G 0 limE → Old G 11 t len (fun i => (ops i).enc) → Hs G h [] → Cl Pr K f (t :: more) h fun v _ => v = .bool true) :
    Calls Pr f ⟨.slice a len cap :: more'⟩ W fun e W' => e = .returned (.bool true) ∧ Below W.heap.size W W' := by
  obtain ⟨r, t, hr, hv, at', hflat, hold⟩ := row_old Pr hrow
  have hL' := hL
  obtain ⟨e, fz, hh⟩ := hL
  have h0 : 0 < W.heap.size := (Array.getElem?_eq_some_iff.1 hh).1
  have reads : Reads Pr (1 + [r].length) (oldOf 1 (glB e fz) [r]) (rhoOf 1 [r]) W := reads_of (by rw [globals1]; exact Nat.le_refl _) h0 (lim_gl hh) (fun x hx => by rw [List.mem_singleton.1 hx]; exact hr)
  have hop : ∀ i, ∃ o : Op, i < len → at' i = o.enc := fun i => by
    by_cases hi : i < len
    · obtain ⟨o, ho⟩ := op_of (hflat i hi); exact ⟨o, fun _ => ho⟩
    · exact ⟨⟨0, Note.zero, 0⟩, fun h => absurd h hi⟩
  have hO := hold ⟨2, oldOf 1 (glB e fz) [r]⟩ 1 (by show 1 < 2; omega) (oldOf_at (g := 1) (i := 0) (gl := glB e fz) (rs := [r]) rfl)
  have ok := hok ⟨2, oldOf 1 (glB e fz) [r]⟩ (Go.Ab.start 2 (oldOf 1 (glB e fz) [r])) (t 1) (fun i => (hop i).choose) ⟨by show 0 < 2; omega, e, fz, true, (oldOf_gl (g := 1) (i := 0) (gl := glB e fz) (rs := [r]) (by omega)).trans rfl⟩ (by
    obtain ⟨a', c', h1, h2⟩ := hO
    refine ⟨a', c', h1, fun i hi => ?_⟩
    obtain ⟨b, o, cells, k1, k2, k3, k4⟩ := h2 i hi
    exact ⟨b, o, cells, k1, k2, k3.trans ((hop i).choose_spec hi), k4⟩) hs_start
  have := calls_of (ctx W.heap.size h0) hL' reads (args := t 1 :: more) (args' := .slice a len cap :: more') (LRel.cons (hv _ 1 (rhoOf_at (g := 1) (i := 0) (rs := [r]) rfl)) (hmore _)) ok
  intro cs
  obtain ⟨e, w', fr, ⟨ρ', o, h', v', he, hv', hq, _, hb⟩, hx⟩ := this cs
  rw [hq] at hv'
  simp only [VRel] at hv'
  exact ⟨e, w', fr, ⟨by rw [he, hv'], hb⟩, hx⟩
end Go.Proofs.YtagcnlaofkfpjaaDoor
end
section
namespace Go.Proofs.YtagcnlaofkfpjaaDoor
open Go Go.Ab Go.Hm Go.RowKit
set_option maxRecDepth 100000 in
theorem homePlays_lifted (os : Os) (started : os.Started) (H : Type) (enc : TypeId × Value → H) :
    ReturnsInHanded {} Tryd.checked os 6 .any (fun w args => (Rows.homePlaysSpec.pre enc Tryd.prog Tryd.f6 [] false w args ∧ laidMetH Tryd.prog [("donjon/place.limits", Rows.laid_donjon_place_limits)] w) ∧ sizedMet enc Tryd.prog Tryd.f6 (OpenSpec.ofChange Rows.homePlaysSpec) false w args)
      (Rows.homePlaysSpec.post enc Tryd.prog Tryd.f6 false true false false) := by
  refine law_lifted (C := Tryd.checked) started own (by kernel_rfl) Tryd.func6 laidOut (by kernel_rfl) rfl Tryd.underlying4 rfl (fun ds hd => by
      match ds, hd with
      | [d1, d2], _ => rfl)
    (ChangeSpec.witness_shaped (enc := enc) (C := Tryd.checked) (os := os) (X := fun w _ => laidMetH Tryd.prog [("donjon/place.limits", Rows.laid_donjon_place_limits)] w) false (World.doorLaid Tryd.prog 400 os) #[.slice none 0 0, .agg #[.int .i64 0]] 8 rfl (World.shaped_of_RefB (by kernel_rfl) (by kernel_rfl)) (by kernel_rfl) (by kernel_rfl) (by kernel_rfl) (door_met os _)) ?_
  intro W base args ds ps hA hval hL
  rw [show (Tryd.f6.params.toList) = [22, 24] from by rw [Tryd.params6]] at hA
  rw [Tryd.params6] at hval
  obtain ⟨v0, vs0, d0, ds0, p0, q0, rfl, rfl, rfl, h0, r0⟩ := ChangeShapes.trodAll_cons hA
  obtain ⟨v1, vs1, d1, ds1, p1, q1, rfl, rfl, rfl, h1, r1⟩ := ChangeShapes.trodAll_cons r0
  obtain ⟨rfl, rfl, rfl⟩ := ChangeShapes.trodAll_nil r1
  obtain ⟨a, len, cap, rfl, hrow⟩ := open_rowF Tryd.underlying22 opFlat opCells (by decide) (hval 0 _ v0 rfl rfl) h0
  obtain ⟨l1, rfl, hl1⟩ := open_structF Tryd.underlying24 ruleFlat (hval 1 _ v1 rfl rfl) h1
  obtain ⟨x1, rfl⟩ := rule_of hl1
  exact calls_law (lim_of hL) hrow (more := [.agg ⟨[I x1]⟩]) (fun ρ => plainL_rel _ rfl) fun G h t ops hlim hold hs => plays_ok hlim (judges x1) hold hs (fun _ => rfl)
theorem homePlays_over : Rows.homePlaysRow.holds Tryd.pinned (OpenSpec.ofChange Rows.homePlaysSpec) :=
  OpenClaim.holds_of_wide 6 Tryd.f6 rfl rfl rfl rfl rfl rfl rfl ⟨rfl, rfl, rfl, rfl, rfl⟩ rfl rfl rfl rfl rfl (by kernel_rfl) Tryd.func6 (by kernel_rfl)
    (of_decide_eq_true (by kernel_rfl)) (by unfold Func.isWrapper; first | (rw [if_pos (by decide +kernel)]; kernel_rfl) | (rw [if_neg (by decide +kernel)]; exact ⟨rfl, rfl⟩))
    (fun os started H enc _ => homePlays_lifted os started H enc)
/-- ████ THE STATEMENT ████ -/
theorem homePlays_proved : Rows.HomePlaysCardSaid :=
  Claim7.holds_tied_plain_at .later [] [.data] true Rows.homePlaysCard.stood.harness false
    homePlays_over (fun _ h => by cases h) (by kernel_rfl) (fun _ h => by cases h) homePlays_row_tie rfl ⟨rfl, rfl⟩ (by kernel_rfl) rfl
    (fun f fn hf hfn => by
      obtain rfl : f = 6 := Option.some.inj ((show Tryd.prog.funcNamed "donjon/donjonlaw12.HomePlays" = some 6 by kernel_rfl).symm.trans hf) |>.symm
      obtain rfl : fn = Tryd.f6 := (Option.some.inj (Tryd.func6.symm.trans hfn)).symm
      exact ⟨by kernel_rfl, fun j t ht => by
        rw [Tryd.params6] at ht
        have hm : t ∈ [22, 24] := by simpa using Array.mem_of_getElem? ht
        have hall : ([22, 24].all fun u => !Tryd.prog.wantsStandIn u) = true := by kernel_rfl
        exact (show Tryd.prog.wantsStandIn t = false by simpa using List.all_eq_true.1 hall t hm)⟩)
    (by kernel_rfl)
end Go.Proofs.YtagcnlaofkfpjaaDoor
end
