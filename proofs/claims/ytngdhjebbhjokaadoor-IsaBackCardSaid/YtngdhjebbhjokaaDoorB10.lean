/- From the world: instructions. -/
import Derived.Test.YtngdhjebbhjokaaDoorB8
import Derived.Test.YtngdhjebbhjokaaDoorB9
import Derived.Test.YtngdhjebbhjokaaDoorTie
import Derived.Test.YtngdhjebbhjokaaDoorCards
import Derived.LaidMore
import Derived.SevenTiedAt
section
namespace Go.Proofs.YtngdhjebbhjokaaDoor
open Go Go.Ab Go.Is Go.RowKit
def powE : List Value := [.int .u64 1, .int .u64 10, .int .u64 100, .int .u64 1000, .int .u64 10000, .int .u64 100000, .int .u64 1000000, .int .u64 10000000, .int .u64 100000000, .int .u64 1000000000, .int .u64 10000000000, .int .u64 100000000000, .int .u64 1000000000000, .int .u64 10000000000000, .int .u64 100000000000000,
  .int .u64 1000000000000000, .int .u64 10000000000000000, .int .u64 100000000000000000, .int .u64 1000000000000000000, .int .u64 10000000000000000000]
def Ifc (w : World) (g : Nat) : Prop := ∃ ev e z, w.heap[g]? = some (.cells ⟨[ev]⟩ e z) ∧ (ev = .nilIface ∨ ∃ te pe, ev = .iface te pe)
def Gl (w : World) : Prop := (∃ e z, w.heap[0]? = some (.cells ⟨opsE⟩ e z)) ∧ (∃ e z, w.heap[2]? = some (.cells ⟨powE⟩ e z)) ∧ Ifc w 3 ∧ Ifc w 4 ∧ 9 ≤ w.heap.size
theorem gl_ok {w : World} {e0 : TypeId} {z0 : Nat × Nat} (h0 : w.heap[0]? = some (.cells ⟨opsE⟩ e0 z0)) : GlOk Pr 9 (glI e0 z0) w := by
  intro i o hi ho
  unfold glI at ho
  split at ho
  · rename_i e; subst e
    cases ho
    refine ⟨_, h0, fun ρ => ⟨⟨opsE⟩, rfl, ?_, by simp, fun _ => rfl⟩⟩
    rw [List.drop_zero, List.take_of_length_le (by simp)]
    exact plainL_rel _ (by rfl)
  · cases ho
theorem gl_keep {B : Nat} (hB : 9 ≤ B) {w w' : World} (h : Below B w w') : Gl w → Gl w' := fun ⟨⟨e, z, h0⟩, ⟨e2, z2, h2⟩, ⟨v3, e3, z3, h3, k3⟩, ⟨v4, e4, z4, h4, k4⟩, h9⟩ =>
  ⟨⟨e, z, (h.block 0 (by omega)).trans h0⟩, ⟨e2, z2, (h.block 2 (by omega)).trans h2⟩, ⟨v3, e3, z3, (h.block 3 (by omega)).trans h3, k3⟩, ⟨v4, e4, z4, (h.block 4 (by omega)).trans h4, k4⟩, Nat.le_trans h9 h.size⟩
theorem gPow : Tryd.prog.globalNamed "internal/strconv.uint64pow10" = some 2 := by kernel_rfl
theorem below_grow {w : World} {n : Nat} {os : Array Obj} : Below w.heap.size w (Go.Sort.grow (w.drewN n) os) := ⟨rfl, rfl, rfl, by
  show w.heap.size ≤ (w.heap ++ os).size
  simp, fun k hk => by
  show (w.heap ++ os)[k]? = w.heap[k]?
  rw [Array.getElem?_append_left hk]⟩
theorem below_same {w : World} : Below w.heap.size w w := ⟨rfl, rfl, rfl, Nat.le_refl _, fun _ _ => rfl⟩
theorem cell_of {w : World} {g : Nat} {ev : Value} {e : TypeId} {z : Nat × Nat} (h : w.heap[g]? = some (.cells ⟨[ev]⟩ e z)) : w.cell? ⟨g, 0, none⟩ = some ev := by
  simp [World.cell?, h]
theorem vrel_err (ρ : Rho) (n : Int) (t : TypeId) (v : Value) : VRel ρ (.tuple ⟨[I n, .iface t top]⟩) (.tuple ⟨[I n, .iface t v]⟩) := by
  simp only [VRel]
  refine ⟨_, ?_, rfl⟩
  show LRel ρ _ _
  refine LRel.cons (plainV_rel _ rfl) (LRel.cons ?_ (plainL_rel [] rfl))
  simp only [VRel]
  exact ⟨v, by simp [top, VRel], rfl⟩
noncomputable def ctx0 (B : Nat) (hB : 9 ≤ B) : Ctx Pr B K0 where
  G := Gl
  keep := fun w w' h => gl_keep hB h
  call := fun f args v w hk hg => by
    unfold K0 at hk
    split at hk
    · rename_i n
      split at hk
      · rename_i hn
        cases hk
        refine ⟨rfl, call_plain rfl ?_⟩
        obtain ⟨_, ⟨e2, z2, h2⟩, _⟩ := hg
        refine (Tryd.strconv_Itoa n hn.1 hn.2 w ?_).mono fun e w' ⟨he, k, os, hw⟩ => ⟨he, by rw [hw]; exact below_grow⟩
        simp only [Lib.TabIs, World.var?, gPow, Option.bind_some, h2]
        rfl
      · cases hk
    · rename_i s c
      cases hk
      exact ⟨rfl, call_plain rfl ((Tryd.strings_Count_one s c w).mono fun e w' ⟨he, hw⟩ => ⟨he, by rw [hw]; exact below_same⟩)⟩
    · rename_i s c
      cases hk
      exact ⟨rfl, call_plain rfl ((Tryd.strings_Index_one s c w).mono fun e w' ⟨he, hw⟩ => ⟨he, by rw [hw]; exact below_same⟩)⟩
    · rename_i s c
      cases hk
      exact ⟨rfl, call_plain rfl ((Tryd.stringslite_Index_one s c w).mono fun e w' ⟨he, hw⟩ => ⟨he, by rw [hw]; exact below_same⟩)⟩
    · rename_i s
      obtain ⟨_, _, ⟨v3, e3, z3, h3, k3⟩, ⟨v4, e4, z4, h4, k4⟩, _⟩ := hg
      split at hk
      · rename_i hsz
        split at hk
        · rename_i v hv
          cases hk
          refine ⟨rfl, call_plain rfl ((Tryd.strconv_Atoi_ok s (by omega) v hv w).mono fun e w' ⟨he, hw⟩ => ⟨he, ?_⟩)⟩
          rcases hw with rfl | ⟨t, rfl⟩
          · exact below_same
          · exact ⟨rfl, rfl, rfl, by rw [Lib.bytesWorld_size]; omega, fun j hj => Lib.bytesWorld_at_old w _ t j hj⟩
        · rename_i hv
          cases hk
          exact ⟨rfl, (Tryd.strconv_Atoi_syntax s hsz hv v3 w (cell_of h3) k3).mono fun e w' ⟨N, he, _, _, hb⟩ => ⟨⟨_, he, fun ρ => vrel_err ρ _ _ _⟩, hb⟩⟩
        · rename_i hv
          cases hk
          exact ⟨rfl, (Tryd.strconv_Atoi_range s hsz hv v4 w (cell_of h4) k4).mono fun e w' ⟨N, he, _, _, hb⟩ => ⟨⟨_, he, fun ρ => vrel_err ρ _ _ _⟩, hb⟩⟩
      · cases hk
    · cases hk
  fwd := fun f args g bs hk => by
    unfold K0 at hk
    split at hk
    · split at hk <;> cases hk
    · cases hk
    · cases hk
    · cases hk
    · split at hk
      · split at hk <;> cases hk
      · cases hk
    · cases hk
theorem globals9 : Pr.globals.size = 9 := by kernel_rfl
theorem awake_calls {w : World} (hg : Gl w) : Calls Pr 7 #[] w fun e w' => e = .returned (.bool true) ∧ Below w.heap.size w w' := by
  have hg' := hg
  obtain ⟨⟨e0, z0, h0⟩, _, _, _, h9⟩ := hg
  exact closed_call rfl (awake_run e0 z0) (ctx0 w.heap.size h9) hg' (reads_of (gl := glI e0 z0) (rs := []) (g := 9) (by rw [globals9]; exact Nat.le_refl _) h9 (gl_ok h0) (fun r hr => by cases hr))
noncomputable def ctx (B : Nat) (hB : 9 ≤ B) : Ctx Pr B K := (ctx0 B hB).add 7 (.bool true) rfl fun w hg => awake_calls hg
theorem own : ownKnob Tryd.prog.godebug = none := by kernel_rfl
theorem laidOut : laidOutB Tryd.prog = true := by kernel_rfl
theorem gOps : Tryd.prog.globalNamed "donjon/isa.ops" = some 0 := by kernel_rfl
theorem gSyn : Tryd.prog.globalNamed "strconv.ErrSyntax" = some 3 := by kernel_rfl
theorem gRan : Tryd.prog.globalNamed "strconv.ErrRange" = some 4 := by kernel_rfl
theorem gAcc : Tryd.prog.globalNamed "unicode/utf8.acceptRanges" = some 8 := by kernel_rfl
theorem tOps : (Tryd.prog.globals[0]?).map (·.type) = some 45 := by kernel_rfl
theorem tPow : (Tryd.prog.globals[2]?).map (·.type) = some 95 := by kernel_rfl
theorem tSyn : (Tryd.prog.globals[3]?).map (·.type) = some 70 := by kernel_rfl
theorem tRan : (Tryd.prog.globals[4]?).map (·.type) = some 70 := by kernel_rfl
theorem tAcc : (Tryd.prog.globals[8]?).map (·.type) = some 121 := by kernel_rfl
theorem gl_of {W : World} {l : List (String × DataW Unit)} (hp : (l.all fun x => x.2.handleName?.isNone) = true) (h : laidMetH Tryd.prog l W) (m0 : ("donjon/isa.ops", Rows.laid_donjon_isa_ops) ∈ l)
    (m2 : ("internal/strconv.uint64pow10", Rows.laid_internal_strconv_uint64pow10) ∈ l) (m3 : ("strconv.ErrSyntax", Rows.laid_strconv_ErrSyntax) ∈ l) (m4 : ("strconv.ErrRange", Rows.laid_strconv_ErrRange) ∈ l) (m8 : ("unicode/utf8.acceptRanges", Rows.laid_unicode_utf8_acceptRanges) ∈ l) : Gl W := by
  obtain ⟨e0, z0, h0⟩ := laid_block (l := opsE) 8 hp h m0 gOps tOps (by kernel_rfl)
  obtain ⟨e2, z2, h2⟩ := laid_block (l := powE) 8 hp h m2 gPow tPow (by kernel_rfl)
  have h3 := laid_iface hp h m3 gSyn tSyn Tryd.underlying70
  have h4 := laid_iface hp h m4 gRan tRan Tryd.underlying70
  obtain ⟨e8, z8, h8⟩ := laid_block (l := ((cellsD Tryd.prog 8 121 (Rows.laid_unicode_utf8_acceptRanges (H := Unit))).getD [])) 8 hp h m8 gAcc tAcc (by kernel_rfl)
  exact ⟨⟨e0, z0, h0⟩, ⟨e2, z2, h2⟩, h3, h4, (Array.getElem?_eq_some_iff.1 h8).1⟩
theorem calls_law {W : World} (hL : Gl W) {f : FuncId} {args : List Value} (hp : plainL args = true) (hok : ∀ (G : Bg) (h : AH), Ob G 0 opsE → Hs G h [] → Cl Pr K f args h fun v _ => v = .bool true) :
    Calls Pr f ⟨args⟩ W fun e W' => e = .returned (.bool true) ∧ Below W.heap.size W W' := by
  have hL' := hL
  obtain ⟨⟨e0, z0, h0⟩, _, _, _, h9⟩ := hL
  have reads : Reads Pr (9 + ([] : List OB).length) (oldOf 9 (glI e0 z0) []) (rhoOf 9 []) W := reads_of (by rw [globals9]; exact Nat.le_refl _) h9 (gl_ok h0) (fun r hr => by cases hr)
  have ok := hok ⟨9, oldOf 9 (glI e0 z0) []⟩ (Go.Ab.start 9 (oldOf 9 (glI e0 z0) [])) ⟨by show 0 < 9; omega, e0, z0, true, (oldOf_gl (g := 9) (i := 0) (gl := glI e0 z0) (rs := []) (by omega)).trans rfl⟩ hs_start
  have := calls_of (ctx W.heap.size h9) hL' reads (args := args) (args' := args) (plainL_rel _ hp) ok
  intro cs
  obtain ⟨e, w', fr, ⟨ρ', o, h', v', he, hv', hq, _, hb⟩, hx⟩ := this cs
  rw [hq] at hv'
  simp only [VRel] at hv'
  exact ⟨e, w', fr, ⟨by rw [he, hv'], hb⟩, hx⟩
theorem ins_of {l : List Value} (h0 : Flat [some .i64, some .i64, some .i64, some .i64] l) : ∃ x : Ins, l = x.enc ∧ (inR x.op ∧ x.inR) := by
  obtain ⟨a1, m1, f1, w1, g1⟩ := flat_intW h0
  obtain ⟨a2, m2, f2, w2, g2⟩ := flat_intW g1
  obtain ⟨a3, m3, f3, w3, g3⟩ := flat_intW g2
  obtain ⟨a4, m4, f4, w4, g4⟩ := flat_intW g3
  have f5 := flat_nil g4
  subst f5 f4 f3 f2 f1
  exact ⟨⟨a1, a2, a3, a4⟩, rfl, wf_i64 w1, wf_i64 w2, wf_i64 w3, wf_i64 w4⟩
theorem insFlat : flatT Tryd.prog 8 34 = some [some .i64, some .i64, some .i64, some .i64] := by kernel_rfl
theorem insCells : Tryd.prog.cellsOf 34 = [some IntKind.i64, some .i64, some .i64, some .i64].length := by kernel_rfl
theorem plain_app (ρ : Nat → Option (Nat × (Nat × Nat))) : ∀ (pre : List Value), plainL pre = true → ∀ {t v : Value} {post : List Value}, plainL post = true → VRel ρ t v → LRel ρ (pre ++ t :: post) (pre ++ v :: post) := by
  intro pre
  induction pre with
  | nil => intro _ t v post hp hv; exact LRel.cons hv (plainL_rel _ hp)
  | cons x pre ih =>
    intro h t v post hp hv
    simp only [plainL, Bool.and_eq_true] at h
    exact LRel.cons (plainV_rel _ h.1) (ih h.2 hp hv)
theorem calls_law2 {W : World} (hL : Gl W) {a : Option Addr} {len cap : Nat} (hrow : FlatRow [some .i64, some .i64, some .i64, some .i64] W a len cap) {f : FuncId} {pre post : List Value} (hpre : plainL pre = true) (hpost : plainL post = true)
    (hok : ∀ (G : Bg) (h : AH) (t : Value) (p : List Ins), p.length = len → (∀ x ∈ p, inR x.op ∧ x.inR) → OldS G 4 t p.length (fun i => (p.map Ins.enc).getD i []) → SlOk G t p.length → Ob G 0 opsE → Hs G h (rdS G 4 34 t (p.map Ins.enc) :: []) → Cl Pr K f (pre ++ t :: post) h fun v _ => v = .bool true) :
    Calls Pr f ⟨pre ++ .slice a len cap :: post⟩ W fun e W' => e = .returned (.bool true) ∧ Below W.heap.size W W' := by
  obtain ⟨r, t, hr, hv, at', hflat, hold⟩ := row_old2 Pr hrow
  obtain ⟨p, hpl, hpr, kp⟩ := rd_of_oldR (W := 4) (f := Ins.enc) (R := fun x => inR x.op ∧ x.inR) (fun i hi => ins_of (hflat i hi))
  have hL' := hL
  obtain ⟨⟨e0, z0, h0⟩, _, _, _, h9⟩ := hL
  have reads : Reads Pr (9 + [r].length) (oldOf 9 (glI e0 z0) [r]) (rhoOf 9 [r]) W := reads_of (by rw [globals9]; exact Nat.le_refl _) h9 (gl_ok h0) (fun x hx => by rw [List.mem_singleton.1 hx]; exact hr)
  obtain ⟨hO, hSl⟩ := hold ⟨10, oldOf 9 (glI e0 z0) [r]⟩ 9 (by show 9 < 10; omega) (oldOf_at (g := 9) (i := 0) (gl := glI e0 z0) (rs := [r]) rfl)
  have hs0 : Hs ⟨10, oldOf 9 (glI e0 z0) [r]⟩ (Go.Ab.start 10 (oldOf 9 (glI e0 z0) [r])) [] := hs_start
  have hs := rd_old (e := 34) (enc_lens (f := Ins.enc) (W := 4) (fun x => rfl) p) (kp _ _ hO) hs0
  have ok := hok _ _ _ p hpl hpr (by have := kp _ _ hO; rwa [List.length_map] at this) (by rw [hpl]; exact hSl) ⟨by show 0 < 10; omega, e0, z0, true, (oldOf_gl (g := 9) (i := 0) (gl := glI e0 z0) (rs := [r]) (by omega)).trans rfl⟩ hs
  have := calls_of (ctx W.heap.size h9) hL' reads (args := pre ++ t 9 :: post) (args' := pre ++ .slice a len cap :: post) (plain_app _ pre hpre hpost (hv _ 9 (rhoOf_at (g := 9) (i := 0) (rs := [r]) rfl))) ok
  intro cs
  obtain ⟨e, w', fr, ⟨ρ', o, h', v', he, hv', hq, _, hb⟩, hx⟩ := this cs
  rw [hq] at hv'
  simp only [VRel] at hv'
  exact ⟨e, w', fr, ⟨by rw [he, hv'], hb⟩, hx⟩
end Go.Proofs.YtngdhjebbhjokaaDoor
end
