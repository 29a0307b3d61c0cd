/- SafeOrder: for every input the law answers true, and each argument reads afterwards as it read before. No condition but the listed variables' text. -/
import Derived.Test.YtemlagiabnkceaaDoorB8
import Derived.Test.YtemlagiabnkceaaDoorB9
import Derived.Test.YtemlagiabnkceaaDoorTie
import Derived.Test.YtemlagiabnkceaaDoorCards
import Derived.LaidMore
import Derived.SevenTiedAt
section
namespace Go.Proofs.YtemlagiabnkceaaDoor
open Go Go.Ab Go.Hm Go.Sf Go.RowKit
def Gl (w : World) : Prop := (∃ e z, w.heap[0]? = some (.cells ⟨limE⟩ e z)) ∧ (∃ e z, w.heap[1]? = some (.cells ⟨rowsE⟩ e z))
theorem gl_ok {w : World} {e0 e1 : TypeId} {z0 z1 : Nat × Nat} (h0 : w.heap[0]? = some (.cells ⟨limE⟩ e0 z0)) (h1 : w.heap[1]? = some (.cells ⟨rowsE⟩ e1 z1)) : GlOk Pr 2 (glC e0 z0 e1 z1) w := by
  intro i o hi ho
  unfold glC at ho
  split at ho
  · rename_i e; subst e
    cases ho
    refine ⟨_, h0, fun ρ => ⟨⟨limE⟩, rfl, ?_, by simp, fun _ => rfl⟩⟩
    rw [List.drop_zero, List.take_of_length_le (by simp)]
    exact plainL_rel _ (by rfl)
  · split at ho
    · rename_i e; subst e
      cases ho
      refine ⟨_, h1, fun ρ => ⟨⟨rowsE⟩, rfl, ?_, by simp, fun _ => rfl⟩⟩
      rw [List.drop_zero, List.take_of_length_le (by simp)]
      exact plainL_rel _ (by rfl)
    · cases ho
theorem gl_keep {B : Nat} (hB : 2 ≤ B) {w w' : World} (h : Below B w w') : Gl w → Gl w' := fun ⟨⟨e, z, h0⟩, e', z', h1⟩ =>
  ⟨⟨e, z, (h.block 0 (by omega)).trans h0⟩, e', z', (h.block 1 (by omega)).trans h1⟩
noncomputable def ctx0 (B : Nat) (hB : 2 ≤ B) : Ctx Pr B K0 where
  G := Gl
  keep := fun w w' h => gl_keep hB h
  call := fun f args v w hk hg => by
    unfold K0 at hk
    cases hk
  fwd := fun f args g bs hk => by
    unfold K0 at hk
    cases hk
theorem globals2 : Pr.globals.size = 2 := by kernel_rfl
theorem size_of {w : World} (h : Gl w) : 2 ≤ w.heap.size := by
  obtain ⟨_, e, z, h1⟩ := h
  exact (Array.getElem?_eq_some_iff.1 h1).1
theorem awake_calls {w : World} (hg : Gl w) : Calls Pr 5 #[] w fun e w' => e = .returned (.bool true) ∧ Below w.heap.size w w' := by
  have hg' := hg
  have h2 := size_of hg
  obtain ⟨⟨e0, z0, h0⟩, e1, z1, h1⟩ := hg
  exact closed_call rfl (awake_run e0 z0 e1 z1) (ctx0 w.heap.size h2) hg' (reads_of (gl := glC e0 z0 e1 z1) (rs := []) (g := 2) (by rw [globals2]; exact Nat.le_refl _) h2 (gl_ok h0 h1) (fun r hr => by cases hr))
noncomputable def ctx (B : Nat) (hB : 2 ≤ B) : Ctx Pr B K := (ctx0 B hB).add 5 (.bool true) rfl fun w hg => awake_calls hg
theorem own : ownKnob Tryd.prog.godebug = none := by kernel_rfl
theorem laidOut : laidOutB Tryd.prog = true := by kernel_rfl
theorem gLim : Tryd.prog.globalNamed "donjon/place.limits" = some 0 := by kernel_rfl
theorem gRows : Tryd.prog.globalNamed "donjon/moesi.rows" = some 1 := by kernel_rfl
theorem tLim : (Tryd.prog.globals[0]?).map (·.type) = some 56 := by kernel_rfl
theorem tRows : (Tryd.prog.globals[1]?).map (·.type) = some 80 := by kernel_rfl
theorem gl_of {W : World} {l : List (String × DataW Unit)} (hp : (l.all fun x => x.2.handleName?.isNone) = true) (h : laidMetH Tryd.prog l W) (m0 : ("donjon/place.limits", Rows.laid_donjon_place_limits) ∈ l)
    (m1 : ("donjon/moesi.rows", Rows.laid_donjon_moesi_rows) ∈ l) : Gl W := by
  obtain ⟨e0, z0, h0⟩ := laid_block (l := limE) 8 hp h m0 gLim tLim (by kernel_rfl)
  obtain ⟨e1, z1, h1⟩ := laid_block (l := rowsE) 8 hp h m1 gRows tRows (by kernel_rfl)
  exact ⟨⟨e0, z0, h0⟩, ⟨e1, z1, h1⟩⟩
theorem rd_of_old {α : Type} {f : α → List Value} {W n : Nat} {at' : Nat → List Value} (x0 : α) (hex : ∀ i, i < n → ∃ x, at' i = f x) : ∃ l : List α, ∀ (G : Bg) (v : Value), OldS G W v n at' → OldS G W v (l.map f).length (fun i => (l.map f).getD i []) := by
  have hc : ∀ i, ∃ x, i < n → at' i = f x := fun i => by
    by_cases h : i < n
    · obtain ⟨x, hx⟩ := hex i h; exact ⟨x, fun _ => hx⟩
    · exact ⟨x0, fun k => absurd k h⟩
  refine ⟨(List.range n).map fun i => (hc i).choose, fun G v ho => ?_⟩
  obtain ⟨a, c, rfl, hall⟩ := ho
  simp only [List.length_map, List.length_range]
  refine ⟨a, c, rfl, fun i hi => ?_⟩
  obtain ⟨b, o, cells, h1, h2, h3, h4⟩ := hall i hi
  refine ⟨b, o, cells, h1, h2, ?_, h4⟩
  rw [h3, (hc i).choose_spec hi]
  simp [hi]
theorem copy_of {l : List Value} (h0 : Flat [some .i64, some .i64, some .i64, some .i64, some .i64, some .i64] l) : ∃ x : SCopy, l = x.enc := by
  obtain ⟨a1, m1, f1, g1⟩ := flat_int h0
  obtain ⟨a2, m2, f2, g2⟩ := flat_int g1
  obtain ⟨a3, m3, f3, g3⟩ := flat_int g2
  obtain ⟨a4, m4, f4, g4⟩ := flat_int g3
  obtain ⟨a5, m5, f5, g5⟩ := flat_int g4
  obtain ⟨a6, m6, f6, g6⟩ := flat_int g5
  have f7 := flat_nil g6
  subst f7 f6 f5 f4 f3 f2 f1
  exact ⟨⟨a1, a2, a3, a4, a5, a6⟩, rfl⟩
theorem known_of {l : List Value} (h0 : Flat [some .i64, some .i64, some .i64] l) : ∃ x : SKn, l = x.enc := by
  obtain ⟨a1, m1, f1, g1⟩ := flat_int h0
  obtain ⟨a2, m2, f2, g2⟩ := flat_int g1
  obtain ⟨a3, m3, f3, g3⟩ := flat_int g2
  have f7 := flat_nil g3
  subst f7 f3 f2 f1
  exact ⟨⟨a1, a2, a3⟩, rfl⟩
theorem entry_of {l : List Value} (h0 : Flat [some .i64, none] l) : ∃ x : SEn, l = x.enc := by
  obtain ⟨a1, m1, f1, g1⟩ := flat_int h0
  obtain ⟨a2, m2, f2, g2⟩ := flat_bool g1
  have f7 := flat_nil g2
  subst f7 f2 f1
  exact ⟨⟨a1, a2⟩, rfl⟩
theorem line_of {l : List Value} (h0 : Flat [some .i64, some .i64] l) : ∃ x : Int × Int, l = Sf.lnE x := by
  obtain ⟨a1, m1, f1, g1⟩ := flat_int h0
  obtain ⟨a2, m2, f2, g2⟩ := flat_int g1
  have f7 := flat_nil g2
  subst f7 f2 f1
  exact ⟨(a1, a2), rfl⟩
theorem note_of {l0 : List Value} (h0 : Flat [some .i64, some .i64, some .i64, some .i64, some .i64, some .i64, some .i64, none, some .i64] l0) : ∃ x : Note, l0 = x.enc := by
  obtain ⟨a, l1, e1, h1⟩ := flat_int h0
  obtain ⟨b, l2, e2, h2⟩ := flat_int h1
  obtain ⟨c, l3, e3, h3⟩ := flat_int h2
  obtain ⟨d, l4, e4, h4⟩ := flat_int h3
  obtain ⟨e, l5, e5, h5⟩ := flat_int h4
  obtain ⟨f, l6, e6, h6⟩ := flat_int h5
  obtain ⟨g, l7, e7, h7⟩ := flat_int h6
  obtain ⟨i, l8, e8, h8⟩ := flat_bool h7
  obtain ⟨j, l9, e9, h9⟩ := flat_int h8
  have e10 := flat_nil h9
  subst e10 e9 e8 e7 e6 e5 e4 e3 e2 e1
  exact ⟨⟨a, b, c, d, e, f, g, i, j⟩, rfl⟩
def ksC : List (Option IntKind) := [some .i64, some .i64, some .i64, some .i64, some .i64, some .i64]
def ksK : List (Option IntKind) := [some .i64, some .i64, some .i64]
def ksE : List (Option IntKind) := [some .i64, none]
def ksN : List (Option IntKind) := [some .i64, some .i64, some .i64, some .i64, some .i64, some .i64, some .i64, none, some .i64]
def ksL : List (Option IntKind) := [some .i64, some .i64]
theorem calls_shot {W : World} (hL : Gl W) {a0 a1 a2 a3 a4 : Option Addr} {n0 n1 n2 n3 n4 c0 c1 c2 c3 c4 : Nat} (r0 : FlatRow ksC W a0 n0 c0) (r1 : FlatRow ksK W a1 n1 c1) (r2 : FlatRow ksE W a2 n2 c2) (r3 : FlatRow ksN W a3 n3 c3) (r4 : FlatRow ksL W a4 n4 c4) {f : FuncId}
    (hok : ∀ (G : Bg) (h : AH) (S : Shot) (v0 v1 v2 v3 v4 : Value), Ob G 0 limE → Ob G 1 rowsE → Hs G h (shotH G ⟨S, v0, v1, v2, v3, v4⟩ :: []) → Cl Pr K f [.agg ⟨[v0, v1, v2, v3, v4]⟩] h fun v _ => v = .bool true) :
    Calls Pr f ⟨[.agg ⟨[.slice a0 n0 c0, .slice a1 n1 c1, .slice a2 n2 c2, .slice a3 n3 c3, .slice a4 n4 c4]⟩]⟩ W fun e W' => e = .returned (.bool true) ∧ Below W.heap.size W W' := by
  obtain ⟨q0, t0, hr0, hv0, at0, hf0, ho0⟩ := row_old Pr r0
  obtain ⟨q1, t1, hr1, hv1, at1, hf1, ho1⟩ := row_old Pr r1
  obtain ⟨q2, t2, hr2, hv2, at2, hf2, ho2⟩ := row_old Pr r2
  obtain ⟨q3, t3, hr3, hv3, at3, hf3, ho3⟩ := row_old Pr r3
  obtain ⟨q4, t4, hr4, hv4, at4, hf4, ho4⟩ := row_old Pr r4
  obtain ⟨l0, k0⟩ := rd_of_old (W := 6) (f := SCopy.enc) ⟨0, 0, 0, 0, 0, 0⟩ (fun i hi => copy_of (hf0 i hi))
  obtain ⟨l1, k1⟩ := rd_of_old (W := 3) (f := SKn.enc) ⟨0, 0, 0⟩ (fun i hi => known_of (hf1 i hi))
  obtain ⟨l2, k2⟩ := rd_of_old (W := 2) (f := SEn.enc) ⟨0, false⟩ (fun i hi => entry_of (hf2 i hi))
  obtain ⟨l3, k3⟩ := rd_of_old (W := 9) (f := Note.enc) Note.zero (fun i hi => note_of (hf3 i hi))
  obtain ⟨l4, k4⟩ := rd_of_old (W := 2) (f := Sf.lnE) (0, 0) (fun i hi => line_of (hf4 i hi))
  have hL' := hL
  have h2 := size_of hL
  obtain ⟨⟨e0, z0, g0⟩, e1, z1, g1⟩ := hL
  have reads : Reads Pr (2 + [q0, q1, q2, q3, q4].length) (oldOf 2 (glC e0 z0 e1 z1) [q0, q1, q2, q3, q4]) (rhoOf 2 [q0, q1, q2, q3, q4]) W := reads_of (by rw [globals2]; exact Nat.le_refl _) h2 (gl_ok g0 g1) (fun x hx => by
    simp only [List.mem_cons, List.not_mem_nil, or_false] at hx
    rcases hx with rfl | rfl | rfl | rfl | rfl
    · exact hr0
    · exact hr1
    · exact hr2
    · exact hr3
    · exact hr4)
  have at5 : ∀ i r, [q0, q1, q2, q3, q4][i]? = some r → oldOf 2 (glC e0 z0 e1 z1) [q0, q1, q2, q3, q4] (2 + i) = r.1 := fun i r h => oldOf_at h
  have o0 := ho0 ⟨7, oldOf 2 (glC e0 z0 e1 z1) [q0, q1, q2, q3, q4]⟩ 2 (by show 2 < 7; omega) (at5 0 q0 rfl)
  have o1 := ho1 ⟨7, oldOf 2 (glC e0 z0 e1 z1) [q0, q1, q2, q3, q4]⟩ 3 (by show 3 < 7; omega) (at5 1 q1 rfl)
  have o2 := ho2 ⟨7, oldOf 2 (glC e0 z0 e1 z1) [q0, q1, q2, q3, q4]⟩ 4 (by show 4 < 7; omega) (at5 2 q2 rfl)
  have o3 := ho3 ⟨7, oldOf 2 (glC e0 z0 e1 z1) [q0, q1, q2, q3, q4]⟩ 5 (by show 5 < 7; omega) (at5 3 q3 rfl)
  have o4 := ho4 ⟨7, oldOf 2 (glC e0 z0 e1 z1) [q0, q1, q2, q3, q4]⟩ 6 (by show 6 < 7; omega) (at5 4 q4 rfl)
  have hs0 : Hs ⟨7, oldOf 2 (glC e0 z0 e1 z1) [q0, q1, q2, q3, q4]⟩ (Go.Ab.start 7 (oldOf 2 (glC e0 z0 e1 z1) [q0, q1, q2, q3, q4])) [] := hs_start
  have hs := (rd_old (e := 34) (enc_lens (f := SCopy.enc) (W := 6) (fun x => rfl) l0) (k0 _ _ o0) (rd_old (e := 36) (enc_lens (f := SKn.enc) (W := 3) (fun x => rfl) l1) (k1 _ _ o1) (rd_old (e := 67) (enc_lens (f := SEn.enc) (W := 2) (fun x => rfl) l2) (k2 _ _ o2)
    (rd_old (e := 38) (enc_lens (f := Note.enc) (W := 9) (fun x => rfl) l3) (k3 _ _ o3) (rd_old (e := 32) (enc_lens (f := Sf.lnE) (W := 2) (fun x => rfl) l4) (k4 _ _ o4) hs0)))))
  have ok := hok _ _ ⟨l0, l1, l2, l3, l4⟩ _ _ _ _ _ ⟨by show 0 < 7; omega, e0, z0, true, (oldOf_gl (g := 2) (i := 0) (gl := glC e0 z0 e1 z1) (rs := [q0, q1, q2, q3, q4]) (by omega)).trans rfl⟩ ⟨by show 1 < 7; omega, e1, z1, true, (oldOf_gl (g := 2) (i := 1) (gl := glC e0 z0 e1 z1) (rs := [q0, q1, q2, q3, q4]) (by omega)).trans rfl⟩ hs.pk5
  have rel : LRel (rhoOf 2 [q0, q1, q2, q3, q4]) [.agg ⟨[t0 2, t1 3, t2 4, t3 5, t4 6]⟩] [.agg ⟨[.slice a0 n0 c0, .slice a1 n1 c1, .slice a2 n2 c2, .slice a3 n3 c3, .slice a4 n4 c4]⟩] := by
    refine LRel.cons ?_ (plainL_rel [] rfl)
    simp only [VRel]
    refine ⟨_, ?_, rfl⟩
    show LRel _ _ _
    exact LRel.cons (hv0 _ 2 (rhoOf_at (g := 2) (i := 0) rfl)) (LRel.cons (hv1 _ 3 (rhoOf_at (g := 2) (i := 1) rfl)) (LRel.cons (hv2 _ 4 (rhoOf_at (g := 2) (i := 2) rfl)) (LRel.cons (hv3 _ 5 (rhoOf_at (g := 2) (i := 3) rfl)) (LRel.cons (hv4 _ 6 (rhoOf_at (g := 2) (i := 4) rfl)) (plainL_rel [] rfl)))))
  have := calls_of (ctx W.heap.size h2) hL' reads rel ok
  intro cs
  obtain ⟨e, w', fr, ⟨ρ', o, h', v', he, hv', hq, _, hb⟩, hx⟩ := this cs
  rw [hq] at hv'
  simp only [VRel] at hv'
  exact ⟨e, w', fr, ⟨by rw [he, hv'], hb⟩, hx⟩
end Go.Proofs.YtemlagiabnkceaaDoor
end
section
namespace Go.Proofs.YtemlagiabnkceaaDoor
open Go Go.Ab Go.Hm Go.Sf Go.RowKit
theorem safeOrder_door (os : Os) (args : Array Value) : laidMetH Tryd.prog Rows.safeOrderRow.laid ((World.doorLaid Tryd.prog 4000 os).forCall (fun _ _ => 0) ⟨#[], args, []⟩).memory :=
  laidMetH_of_parts3 (fuel := 8) (laidMet_of_run' 8 (by kernel_rfl) (by kernel_rfl)) (by kernel_rfl) (by kernel_rfl)
theorem fltC : flatT Tryd.prog 8 34 = some ksC := by kernel_rfl
theorem fltK : flatT Tryd.prog 8 36 = some ksK := by kernel_rfl
theorem fltE : flatT Tryd.prog 8 67 = some ksE := by kernel_rfl
theorem fltN : flatT Tryd.prog 8 38 = some ksN := by kernel_rfl
theorem fltL : flatT Tryd.prog 8 32 = some ksL := by kernel_rfl
theorem ceC : Tryd.prog.cellsOf 34 = ksC.length := by kernel_rfl
theorem ceK : Tryd.prog.cellsOf 36 = ksK.length := by kernel_rfl
theorem ceE : Tryd.prog.cellsOf 67 = ksE.length := by kernel_rfl
theorem ceN : Tryd.prog.cellsOf 38 = ksN.length := by kernel_rfl
theorem ceL : Tryd.prog.cellsOf 32 = ksL.length := by kernel_rfl
theorem shot_open {W : World} {H : Type} {enc : TypeId × Value → H} {base : Nat} {v : Value} {d : DataW H} {p : List MemPlace} (hok : Value.okWide Tryd.prog W .any base 28 v) (h : DataW.Trod enc Tryd.prog W 0 (fun _ => true) true 28 v d p) :
    ∃ a0 n0 c0 a1 n1 c1 a2 n2 c2 a3 n3 c3 a4 n4 c4, v = .agg ⟨[.slice a0 n0 c0, .slice a1 n1 c1, .slice a2 n2 c2, .slice a3 n3 c3, .slice a4 n4 c4]⟩ ∧ FlatRow ksC W a0 n0 c0 ∧ FlatRow ksK W a1 n1 c1 ∧ FlatRow ksE W a2 n2 c2 ∧ FlatRow ksN W a3 n3 c3 ∧ FlatRow ksL W a4 n4 c4 := by
  have hu := Tryd.underlying28
  obtain ⟨l, rfl, hl⟩ := open_agg hu hok
  have h5 : l.length = 5 := hl.trans (by kernel_rfl)
  obtain ⟨a0, n0, c0, e0, r0⟩ := open_fieldRow hu (i := 0) rfl Tryd.underlying22 (by kernel_rfl) fltC ceC (by decide) h
  obtain ⟨a1, n1, c1, e1, r1⟩ := open_fieldRow hu (i := 1) rfl Tryd.underlying23 (by kernel_rfl) fltK ceK (by decide) h
  obtain ⟨a2, n2, c2, e2, r2⟩ := open_fieldRow hu (i := 2) rfl Tryd.underlying24 (by kernel_rfl) fltE ceE (by decide) h
  obtain ⟨a3, n3, c3, e3, r3⟩ := open_fieldRow hu (i := 3) rfl Tryd.underlying25 (by kernel_rfl) fltN ceN (by decide) h
  obtain ⟨a4, n4, c4, e4, r4⟩ := open_fieldRow hu (i := 4) rfl Tryd.underlying26 (by kernel_rfl) fltL ceL (by decide) h
  match l, h5 with
  | [x0, x1, x2, x3, x4], _ =>
    obtain rfl : x0 = .slice a0 n0 c0 := Option.some.inj e0
    obtain rfl : x1 = .slice a1 n1 c1 := Option.some.inj e1
    obtain rfl : x2 = .slice a2 n2 c2 := Option.some.inj e2
    obtain rfl : x3 = .slice a3 n3 c3 := Option.some.inj e3
    obtain rfl : x4 = .slice a4 n4 c4 := Option.some.inj e4
    exact ⟨a0, n0, c0, a1, n1, c1, a2, n2, c2, a3, n3, c3, a4, n4, c4, rfl, r0, r1, r2, r3, r4⟩
set_option maxRecDepth 100000 in
theorem safeOrder_lifted (os : Os) (started : os.Started) (H : Type) (enc : TypeId × Value → H) :
    ReturnsInHanded {} Tryd.checked os 3 .any (fun w args => (Rows.safeOrderSpec.pre enc Tryd.prog Tryd.f3 [] false w args ∧ laidMetH Tryd.prog Rows.safeOrderRow.laid w) ∧ sizedMet enc Tryd.prog Tryd.f3 (OpenSpec.ofChange Rows.safeOrderSpec) false w args)
      (Rows.safeOrderSpec.post enc Tryd.prog Tryd.f3 false true false false) := by
  refine law_lifted (C := Tryd.checked) started own (by kernel_rfl) Tryd.func3 laidOut (by kernel_rfl) rfl Tryd.underlying4 rfl (fun ds hd => by
      match ds, hd with
      | [d1], _ => rfl)
    (ChangeSpec.witness_shaped (enc := enc) (C := Tryd.checked) (os := os) (X := fun w _ => laidMetH Tryd.prog Rows.safeOrderRow.laid w) false (World.doorLaid Tryd.prog 4000 os) #[.agg #[.slice none 0 0, .slice none 0 0, .slice none 0 0, .slice none 0 0, .slice none 0 0]] 8 rfl (World.shaped_of_RefB (by kernel_rfl) (by kernel_rfl)) (by kernel_rfl) (by kernel_rfl) (by kernel_rfl) (safeOrder_door os _)) ?_
  intro W base args ds ps hA hval hL
  rw [show (Tryd.f3.params.toList) = [28] from by rw [Tryd.params3]] at hA
  rw [Tryd.params3] at hval
  obtain ⟨v0, vs0, d0, ds0, p0, q0, rfl, rfl, rfl, h0, r0⟩ := ChangeShapes.trodAll_cons hA
  obtain ⟨rfl, rfl, rfl⟩ := ChangeShapes.trodAll_nil r0
  obtain ⟨a0, n0, c0, a1, n1, c1, a2, n2, c2, a3, n3, c3, a4, n4, c4, rfl, k0, k1, k2, k3, k4⟩ := shot_open (hval 0 _ v0 rfl rfl) h0
  exact calls_shot (gl_of (by kernel_rfl) hL (by simp [Rows.safeOrderRow]) (by simp [Rows.safeOrderRow])) k0 k1 k2 k3 k4 fun G h S v0 v1 v2 v3 v4 hlim hrows hs => order_ok hlim hrows hs fun _ => rfl
theorem safeOrder_over : Rows.safeOrderRow.holds Tryd.pinned (OpenSpec.ofChange Rows.safeOrderSpec) :=
  OpenClaim.holds_of_wide 3 Tryd.f3 rfl rfl rfl rfl rfl rfl rfl ⟨rfl, rfl, rfl, rfl, rfl⟩ rfl rfl rfl rfl rfl (by kernel_rfl) Tryd.func3 (by kernel_rfl)
    (of_decide_eq_true (by kernel_rfl)) (by unfold Func.isWrapper; first | (rw [if_pos (by decide +kernel)]; kernel_rfl) | (rw [if_neg (by decide +kernel)]; exact ⟨rfl, rfl⟩))
    (fun os started H enc _ => safeOrder_lifted os started H enc)
/-- ████ THE STATEMENT ████ -/
theorem safeOrder_proved : Rows.SafeOrderCardSaid :=
  Claim7.holds_tied_plain_at .later [] Rows.safeOrderCard.laidKinds true Rows.safeOrderCard.stood.harness false
    safeOrder_over (fun _ h => by cases h) (by kernel_rfl) (fun _ h => by cases h) safeOrder_row_tie rfl ⟨rfl, rfl⟩ (by kernel_rfl) rfl
    (fun f fn hf hfn => by
      obtain rfl : f = 3 := Option.some.inj ((show Tryd.prog.funcNamed "donjon/donjonlaw17.SafeOrder" = some 3 by kernel_rfl).symm.trans hf) |>.symm
      obtain rfl : fn = Tryd.f3 := (Option.some.inj (Tryd.func3.symm.trans hfn)).symm
      exact ⟨by kernel_rfl, fun j t ht => by
        rw [Tryd.params3] at ht
        have hm : t ∈ [28] := by simpa using Array.mem_of_getElem? ht
        have hall : ([28].all fun u => !Tryd.prog.wantsStandIn u) = true := by kernel_rfl
        exact (show Tryd.prog.wantsStandIn t = false by simpa using List.all_eq_true.1 hall t hm)⟩)
    (by kernel_rfl)
end Go.Proofs.YtemlagiabnkceaaDoor
end
