/- CacheGrants: for every input the law answers true, and each argument reads afterwards as it read before. No condition but the listed variables' text. -/
import Derived.Test.YtfkjpjkkjlipiaaDoorB7
import Derived.Test.YtfkjpjkkjlipiaaDoorB6
import Derived.Test.YtfkjpjkkjlipiaaDoorB9
import Derived.Test.YtfkjpjkkjlipiaaDoorTie
import Derived.Test.YtfkjpjkkjlipiaaDoorCards
import Derived.LaidMore
import Derived.SevenTiedAt
import Derived.Test.YtfkjpjkkjlipiaaDoorB12
section
namespace Go.Proofs.YtfkjpjkkjlipiaaDoor
open Go Go.Ab Go.Hm Go.RowKit
def Gl (w : World) : Prop := (∃ e z, w.heap[0]? = some (.cells ⟨limE⟩ e z)) ∧ (∃ e z, w.heap[1]? = some (.cells ⟨rowsE⟩ e z))
theorem gl_ok {w : World} {e0 e1 : TypeId} {z0 z1 : Nat × Nat} (h0 : w.heap[0]? = some (.cells ⟨limE⟩ e0 z0)) (h1 : w.heap[1]? = some (.cells ⟨rowsE⟩ e1 z1)) : GlOk Pr 2 (glC e0 z0 e1 z1) w := by
  intro i o hi ho
  unfold glC at ho
  split at ho
  · rename_i e; subst e
    cases ho
    refine ⟨_, h0, fun ρ => ⟨⟨limE⟩, rfl, ?_, by simp, fun _ => rfl⟩⟩
    rw [List.drop_zero, List.take_of_length_le (by simp)]
    exact plainL_rel _ (by rfl)
  · split at ho
    · rename_i e; subst e
      cases ho
      refine ⟨_, h1, fun ρ => ⟨⟨rowsE⟩, rfl, ?_, by simp, fun _ => rfl⟩⟩
      rw [List.drop_zero, List.take_of_length_le (by simp)]
      exact plainL_rel _ (by rfl)
    · cases ho
theorem gl_keep {B : Nat} (hB : 2 ≤ B) {w w' : World} (h : Below B w w') : Gl w → Gl w' := fun ⟨⟨e, z, h0⟩, e', z', h1⟩ =>
  ⟨⟨e, z, (h.block 0 (by omega)).trans h0⟩, e', z', (h.block 1 (by omega)).trans h1⟩
noncomputable def ctx0 (B : Nat) (hB : 2 ≤ B) : Ctx Pr B K0 where
  G := Gl
  keep := fun w w' h => gl_keep hB h
  call := fun f args v w hk hg => by
    unfold K0 at hk
    cases hk
  fwd := fun f args g bs hk => by
    unfold K0 at hk
    cases hk
theorem globals2 : Pr.globals.size = 2 := by kernel_rfl
theorem size_of {w : World} (h : Gl w) : 2 ≤ w.heap.size := by
  obtain ⟨_, e, z, h1⟩ := h
  exact (Array.getElem?_eq_some_iff.1 h1).1
theorem awake_calls {w : World} (hg : Gl w) : Calls Pr 9 #[] w fun e w' => e = .returned (.bool true) ∧ Below w.heap.size w w' := by
  have hg' := hg
  have h2 := size_of hg
  obtain ⟨⟨e0, z0, h0⟩, e1, z1, h1⟩ := hg
  exact closed_call rfl (awake_run e0 z0 e1 z1) (ctx0 w.heap.size h2) hg' (reads_of (gl := glC e0 z0 e1 z1) (rs := []) (g := 2) (by rw [globals2]; exact Nat.le_refl _) h2 (gl_ok h0 h1) (fun r hr => by cases hr))
noncomputable def ctx (B : Nat) (hB : 2 ≤ B) : Ctx Pr B K := (ctx0 B hB).add 9 (.bool true) rfl fun w hg => awake_calls hg
theorem own : ownKnob Tryd.prog.godebug = none := by kernel_rfl
theorem laidOut : laidOutB Tryd.prog = true := by kernel_rfl
theorem gLim : Tryd.prog.globalNamed "donjon/place.limits" = some 0 := by kernel_rfl
theorem gRows : Tryd.prog.globalNamed "donjon/moesi.rows" = some 1 := by kernel_rfl
theorem tLim : (Tryd.prog.globals[0]?).map (·.type) = some 121 := by kernel_rfl
theorem tRows : (Tryd.prog.globals[1]?).map (·.type) = some 153 := by kernel_rfl
theorem gl_of {W : World} {l : List (String × DataW Unit)} (hp : (l.all fun x => x.2.handleName?.isNone) = true) (h : laidMetH Tryd.prog l W) (m0 : ("donjon/place.limits", Rows.laid_donjon_place_limits) ∈ l)
    (m1 : ("donjon/moesi.rows", Rows.laid_donjon_moesi_rows) ∈ l) : Gl W := by
  obtain ⟨e0, z0, h0⟩ := laid_block (l := limE) 8 hp h m0 gLim tLim (by kernel_rfl)
  obtain ⟨e1, z1, h1⟩ := laid_block (l := rowsE) 8 hp h m1 gRows tRows (by kernel_rfl)
  exact ⟨⟨e0, z0, h0⟩, ⟨e1, z1, h1⟩⟩
theorem calls_law {W : World} (hL : Gl W) {f : FuncId} {args : List Value} (hp : plainL args = true) (hok : ∀ (G : Bg) (h : AH), Ob G 0 limE → Ob G 1 rowsE → Hs G h [] → Cl Pr K f args h fun v _ => v = .bool true) :
    Calls Pr f ⟨args⟩ W fun e W' => e = .returned (.bool true) ∧ Below W.heap.size W W' := by
  have hL' := hL
  have h2 := size_of hL
  obtain ⟨⟨e0, z0, h0⟩, e1, z1, h1⟩ := hL
  have reads : Reads Pr (2 + ([] : List OB).length) (oldOf 2 (glC e0 z0 e1 z1) []) (rhoOf 2 []) W := reads_of (by rw [globals2]; exact Nat.le_refl _) h2 (gl_ok h0 h1) (fun r hr => by cases hr)
  have ok := hok ⟨2, oldOf 2 (glC e0 z0 e1 z1) []⟩ (Go.Ab.start 2 (oldOf 2 (glC e0 z0 e1 z1) [])) ⟨by show 0 < 2; omega, e0, z0, true, (oldOf_gl (g := 2) (i := 0) (gl := glC e0 z0 e1 z1) (rs := []) (by omega)).trans rfl⟩ ⟨by show 1 < 2; omega, e1, z1, true, (oldOf_gl (g := 2) (i := 1) (gl := glC e0 z0 e1 z1) (rs := []) (by omega)).trans rfl⟩ hs_start
  have := calls_of (ctx W.heap.size h2) hL' reads (args := args) (args' := args) (plainL_rel _ hp) ok
  intro cs
  obtain ⟨e, w', fr, ⟨ρ', o, h', v', he, hv', hq, _, hb⟩, hx⟩ := this cs
  rw [hq] at hv'
  simp only [VRel] at hv'
  exact ⟨e, w', fr, ⟨by rw [he, hv'], hb⟩, hx⟩
theorem cfgFlat : flatT Tryd.prog 8 36 = some [some .i64, some .i64, some .i64, some .i64, some .i64, some .i64, some .i64] := by kernel_rfl
theorem cfg_of {l : List Value} (h0 : Flat [some .i64, some .i64, some .i64, some .i64, some .i64, some .i64, some .i64] l) : ∃ C : Cfg, l = C.enc := by
  obtain ⟨a, l1, e1, h1⟩ := flat_int h0
  obtain ⟨b, l2, e2, h2⟩ := flat_int h1
  obtain ⟨c, l3, e3, h3⟩ := flat_int h2
  obtain ⟨d, l4, e4, h4⟩ := flat_int h3
  obtain ⟨e, l5, e5, h5⟩ := flat_int h4
  obtain ⟨f, l6, e6, h6⟩ := flat_int h5
  obtain ⟨g, l7, e7, h7⟩ := flat_int h6
  have e8 := flat_nil h7
  subst e8 e7 e6 e5 e4 e3 e2 e1
  exact ⟨⟨a, b, c, d, e, f, g⟩, rfl⟩
def opKs : List (Option IntKind) := [some .i64, some .i64, some .i64, some .i64, some .i64, none, some .i64, some .i64, some .i64, some .i64, some .i64, some .i64, some .i64, none, some .i64]
theorem opFlat : flatT Tryd.prog 8 28 = some opKs := by kernel_rfl
theorem op_of {l : List Value} (h0 : Flat opKs l) : ∃ o : COp, l = o.enc := by
  obtain ⟨a1, m1, f1, g1⟩ := flat_int h0
  obtain ⟨a2, m2, f2, g2⟩ := flat_int g1
  obtain ⟨a3, m3, f3, g3⟩ := flat_int g2
  obtain ⟨a4, m4, f4, g4⟩ := flat_int g3
  obtain ⟨a5, m5, f5, g5⟩ := flat_int g4
  obtain ⟨a6, m6, f6, g6⟩ := flat_bool g5
  obtain ⟨a, l1, e1, h1⟩ := flat_int g6
  obtain ⟨b, l2, e2, h2⟩ := flat_int h1
  obtain ⟨c, l3, e3, h3⟩ := flat_int h2
  obtain ⟨d, l4, e4, h4⟩ := flat_int h3
  obtain ⟨e, l5, e5, h5⟩ := flat_int h4
  obtain ⟨f, l6, e6, h6⟩ := flat_int h5
  obtain ⟨g, l7, e7, h7⟩ := flat_int h6
  obtain ⟨i, l8, e8, h8⟩ := flat_bool h7
  obtain ⟨j, l9, e9, h9⟩ := flat_int h8
  have e10 := flat_nil h9
  subst e10 e9 e8 e7 e6 e5 e4 e3 e2 e1 f6 f5 f4 f3 f2 f1
  exact ⟨⟨a1, a2, a3, a4, a5, a6, ⟨a, b, c, d, e, f, g, i, j⟩⟩, rfl⟩
end Go.Proofs.YtfkjpjkkjlipiaaDoor
end
section
namespace Go.Proofs.YtfkjpjkkjlipiaaDoor
open Go Go.Ab Go.Hm Go.Ct Go.RowKit
theorem row_len {P : Program} {H : Type} {enc : TypeId × Value → H} {W : World} {t e : TypeId} {a : Option Addr} {len cap : Nat} {d : DataW H} {p : List MemPlace} (ht : P.underlying t = some (.slice e)) (h : DataW.Trod enc P W 0 (fun _ => true) true t (.slice a len cap) d p) : len ≤ maxLen := by
  obtain ⟨fuel, hf⟩ := h
  rcases DataW.trod_slice ht hf with ⟨h1, _⟩ | ⟨a', l', c', elems, rest, m, _, h1, _, hb, hl, hm, _⟩
  · simp [Value.cells] at h1
    omega
  · simp [Value.cells] at h1
    obtain ⟨_, rfl, rfl⟩ := h1
    omega
theorem opCells : Tryd.prog.cellsOf 28 = opKs.length := by kernel_rfl
theorem plain_app (ρ : Nat → Option (Nat × (Nat × Nat))) : ∀ (pre : List Value), plainL pre = true → ∀ {t v : Value} {post : List Value}, plainL post = true → VRel ρ t v → LRel ρ (pre ++ t :: post) (pre ++ v :: post) := by
  intro pre
  induction pre with
  | nil => intro _ t v post hp hv; exact LRel.cons hv (plainL_rel _ hp)
  | cons x pre ih =>
    intro h t v post hp hv
    simp only [plainL, Bool.and_eq_true] at h
    exact LRel.cons (plainV_rel _ h.1) (ih h.2 hp hv)
theorem calls_law2 {W : World} (hL : Gl W) {a : Option Addr} {len cap : Nat} (hrow : FlatRow opKs W a len cap) {f : FuncId} {pre post : List Value} (hpre : plainL pre = true) (hpost : plainL post = true)
    (hok : ∀ (G : Bg) (h : AH) (t : Value) (ops : Nat → COp), Ob G 0 limE → Ob G 1 rowsE → Old G 15 t len (fun i => (ops i).enc) → Hs G h [] → Cl Pr K f (pre ++ t :: post) h fun v _ => v = .bool true) :
    Calls Pr f ⟨pre ++ .slice a len cap :: post⟩ W fun e W' => e = .returned (.bool true) ∧ Below W.heap.size W W' := by
  obtain ⟨r, t, hr, hv, at', hflat, hold⟩ := row_old Pr hrow
  have hL' := hL
  have h2 := size_of hL
  obtain ⟨⟨e0, z0, h0⟩, e1, z1, h1⟩ := hL
  have reads : Reads Pr (2 + [r].length) (oldOf 2 (glC e0 z0 e1 z1) [r]) (rhoOf 2 [r]) W := reads_of (by rw [globals2]; exact Nat.le_refl _) h2 (gl_ok h0 h1) (fun x hx => by rw [List.mem_singleton.1 hx]; exact hr)
  have hop : ∀ i, ∃ o : COp, i < len → at' i = o.enc := fun i => by
    by_cases hi : i < len
    · obtain ⟨o, ho⟩ := op_of (hflat i hi); exact ⟨o, fun _ => ho⟩
    · exact ⟨⟨0, 0, 0, 0, 0, false, Note.zero⟩, fun h => absurd h hi⟩
  have hO := hold ⟨3, oldOf 2 (glC e0 z0 e1 z1) [r]⟩ 2 (by show 2 < 3; omega) (oldOf_at (g := 2) (i := 0) (gl := glC e0 z0 e1 z1) (rs := [r]) rfl)
  have ok := hok ⟨3, oldOf 2 (glC e0 z0 e1 z1) [r]⟩ (Go.Ab.start 3 (oldOf 2 (glC e0 z0 e1 z1) [r])) (t 2) (fun i => (hop i).choose) ⟨by show 0 < 3; omega, e0, z0, true, (oldOf_gl (g := 2) (i := 0) (gl := glC e0 z0 e1 z1) (rs := [r]) (by omega)).trans rfl⟩ ⟨by show 1 < 3; omega, e1, z1, true, (oldOf_gl (g := 2) (i := 1) (gl := glC e0 z0 e1 z1) (rs := [r]) (by omega)).trans rfl⟩ (by
    obtain ⟨a', c', h1, h2⟩ := hO
    refine ⟨a', c', h1, fun i hi => ?_⟩
    obtain ⟨b, o, cells, k1, k2, k3, k4⟩ := h2 i hi
    exact ⟨b, o, cells, k1, k2, k3.trans ((hop i).choose_spec hi), k4⟩) hs_start
  have := calls_of (ctx W.heap.size h2) hL' reads (args := pre ++ t 2 :: post) (args' := pre ++ .slice a len cap :: post) (plain_app _ pre hpre hpost (hv _ 2 (rhoOf_at (g := 2) (i := 0) (rs := [r]) rfl))) ok
  intro cs
  obtain ⟨e, w', fr, ⟨ρ', o, h', v', he, hv', hq, _, hb⟩, hx⟩ := this cs
  rw [hq] at hv'
  simp only [VRel] at hv'
  exact ⟨e, w', fr, ⟨by rw [he, hv'], hb⟩, hx⟩
theorem pairFlat : flatT Tryd.prog 8 22 = some [some .i64, some .i64] := by kernel_rfl
theorem pair_of {l : List Value} (h0 : Flat [some .i64, some .i64] l) : ∃ a b : Int, l = [I a, I b] := by
  obtain ⟨a, l1, e1, h1⟩ := flat_int h0
  obtain ⟨b, l2, e2, h2⟩ := flat_int h1
  have e3 := flat_nil h2
  subst e3 e2 e1
  exact ⟨a, b, rfl⟩
end Go.Proofs.YtfkjpjkkjlipiaaDoor
end
section
namespace Go.Proofs.YtfkjpjkkjlipiaaDoor
open Go Go.Ab Go.Hm Go.RowKit
theorem cacheGrants_door (os : Os) (args : Array Value) : laidMetH Tryd.prog Rows.cacheGrantsRow.laid ((World.doorLaid Tryd.prog 4000 os).forCall (fun _ _ => 0) ⟨#[], args, []⟩).memory :=
  laidMetH_of_parts3 (fuel := 8) (laidMet_of_run' 8 (by kernel_rfl) (by kernel_rfl)) (by kernel_rfl) (by kernel_rfl)
set_option maxRecDepth 100000 in
theorem cacheGrants_lifted (os : Os) (started : os.Started) (H : Type) (enc : TypeId × Value → H) :
    ReturnsInHanded {} Tryd.checked os 5 .any (fun w args => (Rows.cacheGrantsSpec.pre enc Tryd.prog Tryd.f5 [] false w args ∧ laidMetH Tryd.prog Rows.cacheGrantsRow.laid w) ∧ sizedMet enc Tryd.prog Tryd.f5 (OpenSpec.ofChange Rows.cacheGrantsSpec) false w args)
      (Rows.cacheGrantsSpec.post enc Tryd.prog Tryd.f5 false true false false) := by
  refine law_lifted (C := Tryd.checked) started own (by kernel_rfl) Tryd.func5 laidOut (by kernel_rfl) rfl Tryd.underlying4 rfl (fun ds hd => by
      match ds, hd with
      | [d1, d2, d3], _ => rfl)
    (ChangeSpec.witness_shaped (enc := enc) (C := Tryd.checked) (os := os) (X := fun w _ => laidMetH Tryd.prog Rows.cacheGrantsRow.laid w) false (World.doorLaid Tryd.prog 4000 os) #[.agg #[.int .i64 0, .int .i64 0], .slice none 0 0, .agg #[.int .i64 0, .int .i64 0, .int .i64 0, .int .i64 0, .int .i64 0, .bool false, .int .i64 0, .int .i64 0, .int .i64 0, .int .i64 0, .int .i64 0, .int .i64 0, .int .i64 0, .bool false, .int .i64 0]] 8 rfl (World.shaped_of_RefB (by kernel_rfl) (by kernel_rfl)) (by kernel_rfl) (by kernel_rfl) (by kernel_rfl) (cacheGrants_door os _)) ?_
  intro W base args ds ps hA hval hL
  rw [show (Tryd.f5.params.toList) = [22, 23, 28] from by rw [Tryd.params5]] at hA
  rw [Tryd.params5] at hval
  obtain ⟨v0, vs0, d0, ds0, p0, q0, rfl, rfl, rfl, h0, r0⟩ := ChangeShapes.trodAll_cons hA
  obtain ⟨v1, vs1, d1, ds1, p1, q1, rfl, rfl, rfl, h1, r1⟩ := ChangeShapes.trodAll_cons r0
  obtain ⟨v2, vs2, d2, ds2, p2, q2, rfl, rfl, rfl, h2, r2⟩ := ChangeShapes.trodAll_cons r1
  obtain ⟨rfl, rfl, rfl⟩ := ChangeShapes.trodAll_nil r2
  obtain ⟨l0, rfl, hl0⟩ := open_arrayF Tryd.underlying22 pairFlat (hval 0 _ v0 rfl rfl) h0
  obtain ⟨x0, y0, rfl⟩ := pair_of hl0
  obtain ⟨a1, len1, cap1, rfl, hrow⟩ := open_rowF Tryd.underlying23 opFlat opCells (by decide) (hval 1 _ v1 rfl rfl) h1
  have hlen := row_len Tryd.underlying23 h1
  obtain ⟨l2, rfl, hl2⟩ := open_structF Tryd.underlying28 opFlat (hval 2 _ v2 rfl rfl) h2
  obtain ⟨x2, rfl⟩ := op_of hl2
  exact calls_law2 (gl_of (by kernel_rfl) hL (by simp [Rows.cacheGrantsRow]) (by simp [Rows.cacheGrantsRow])) hrow (pre := [.agg ⟨[I x0, I y0]⟩]) (post := [.agg ⟨x2.enc⟩]) rfl rfl fun G h t ops hlim hrows hold hs => grants_ok (a := x0) (b := y0) (o := x2) (by unfold maxLen at hlen; omega) hold hlim hrows hs (fun h => rfl)
theorem cacheGrants_over : Rows.cacheGrantsRow.holds Tryd.pinned (OpenSpec.ofChange Rows.cacheGrantsSpec) :=
  OpenClaim.holds_of_wide 5 Tryd.f5 rfl rfl rfl rfl rfl rfl rfl ⟨rfl, rfl, rfl, rfl, rfl⟩ rfl rfl rfl rfl rfl (by kernel_rfl) Tryd.func5 (by kernel_rfl)
    (of_decide_eq_true (by kernel_rfl)) (by unfold Func.isWrapper; first | (rw [if_pos (by decide +kernel)]; kernel_rfl) | (rw [if_neg (by decide +kernel)]; exact ⟨rfl, rfl⟩))
    (fun os started H enc _ => cacheGrants_lifted os started H enc)
/-- ████ THE STATEMENT ████ -/
theorem cacheGrants_proved : Rows.CacheGrantsCardSaid :=
  Claim7.holds_tied_plain_at .later [] Rows.cacheGrantsCard.laidKinds true Rows.cacheGrantsCard.stood.harness false
    cacheGrants_over (fun _ h => by cases h) (by kernel_rfl) (fun _ h => by cases h) cacheGrants_row_tie rfl ⟨rfl, rfl⟩ (by kernel_rfl) rfl
    (fun f fn hf hfn => by
      obtain rfl : f = 5 := Option.some.inj ((show Tryd.prog.funcNamed "donjon/donjonlaw13.CacheGrants" = some 5 by kernel_rfl).symm.trans hf) |>.symm
      obtain rfl : fn = Tryd.f5 := (Option.some.inj (Tryd.func5.symm.trans hfn)).symm
      exact ⟨by kernel_rfl, fun j t ht => by
        rw [Tryd.params5] at ht
        have hm : t ∈ [22, 23, 28] := by simpa using Array.mem_of_getElem? ht
        have hall : ([22, 23, 28].all fun u => !Tryd.prog.wantsStandIn u) = true := by kernel_rfl
        exact (show Tryd.prog.wantsStandIn t = false by simpa using List.all_eq_true.1 hall t hm)⟩)
    (by kernel_rfl)
end Go.Proofs.YtfkjpjkkjlipiaaDoor
end
