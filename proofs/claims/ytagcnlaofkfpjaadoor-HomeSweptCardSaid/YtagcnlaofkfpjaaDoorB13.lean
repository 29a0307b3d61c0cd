/- HomeSwept: for every input the law answers true, and each argument reads afterwards as it read before. No condition but the listed variable's text. -/
import Derived.Test.YtagcnlaofkfpjaaDoorB9
import Derived.Test.YtagcnlaofkfpjaaDoorB8
import Derived.Test.YtagcnlaofkfpjaaDoorB10
import Derived.WalkKit
import Derived.ProofKit
import Derived.OpenShut
import Derived.ChangeOld
import Derived.Below
import Derived.Test.YtagcnlaofkfpjaaDoorTie
import Derived.Test.YtagcnlaofkfpjaaDoorCards
import Derived.LaidMore
import Derived.SevenTiedAt
import Derived.Test.YtagcnlaofkfpjaaDoorB7
section
namespace Go.Proofs.YtagcnlaofkfpjaaDoor
open Go Go.Ab Go.Hm Go.RowKit
/-- the listed variable -/
def Lim (w : World) : Prop := ∃ e fz, w.heap[0]? = some (.cells ⟨limE⟩ e fz)
theorem lim_gl {w : World} {e : TypeId} {fz : Nat × Nat} (h : w.heap[0]? = some (.cells ⟨limE⟩ e fz)) : GlOk Pr 1 (glB e fz) w := by
  intro i o hi ho
  have : i = 0 := by omega
  subst this
  simp only [glB, if_true, Option.some.injEq] at ho
  subst ho
  refine ⟨_, h, fun ρ => ⟨⟨limE⟩, rfl, ?_, by simp, fun _ => rfl⟩⟩
  rw [List.drop_zero, List.take_of_length_le (by simp)]
  exact plainL_rel _ (by rfl)
theorem lim_keep {B : Nat} (hB : 0 < B) {w w' : World} (h : Below B w w') : Lim w → Lim w' := fun ⟨e, fz, hh⟩ => ⟨e, fz, (h.block 0 hB).trans hh⟩
noncomputable def ctx0 (B : Nat) (hB : 0 < B) : Ctx Pr B K0 where
  G := Lim
  keep := fun w w' h => lim_keep hB h
  call := fun f args v w hk => by
    unfold K0 at hk
    split at hk <;> cases hk
  fwd := fun f args g bs hk ρ args' w ha hg => by
    unfold K0 at hk
    split at hk
    · rename_i v x l
      cases hk
      simp only [LRel] at ha
      obtain ⟨_, _, hv, ⟨x', _, hx, ⟨l', _, hl, rfl, rfl⟩, rfl⟩, rfl⟩ := ha
      simp only [VRel] at hv
      obtain ⟨v', hv, rfl⟩ := hv
      refine ⟨[v', x', l'], (w.alloc (.cells #[.int .i64 0] 3)).alloc (.cells #[.bool false] 4), LRel.cons hv (LRel.cons hx (LRel.cons hl rfl)), ((Below.refl _ _).alloc (Nat.le_refl _) _).alloc (by simp) _, fun a S hok hc => ?_⟩
      unfold fwdOk at hok
      split at hok
      · rename_i n b
        have hsz : ((w.alloc (.cells #[.int .i64 0] 3)).alloc (.cells #[.bool false] 4)).heap.size = w.heap.size + 2 := by simp
        rw [hsz]
        exact judged_fwd v' x' l' w S n b hc
      · cases hok
    · cases hk
theorem globals1 : Pr.globals.size = 1 := by kernel_rfl
theorem awake_calls {w : World} (hs : 0 < w.heap.size) (hg : Lim w) : Calls Pr 9 #[] w fun e w' => e = .returned (.bool true) ∧ Below w.heap.size w w' := by
  obtain ⟨e, fz, hh⟩ := hg
  exact closed_call rfl (awake_run e fz) (ctx0 w.heap.size hs) ⟨e, fz, hh⟩ (reads_of (gl := glB e fz) (rs := []) (g := 1) (by rw [globals1]; exact Nat.le_refl _) hs (lim_gl hh) (fun r hr => by cases hr))
noncomputable def ctx (B : Nat) (hB : 0 < B) : Ctx Pr B K := (ctx0 B hB).add 9 (.bool true) rfl fun w hg => by
  have hg' := hg
  obtain ⟨e, fz, hh⟩ := hg'
  exact awake_calls (Array.getElem?_eq_some_iff.1 hh).1 hg
end Go.Proofs.YtagcnlaofkfpjaaDoor
end
section
namespace Go.Proofs.YtagcnlaofkfpjaaDoor
open Go Go.Ab Go.Hm Go.RowKit
theorem own : ownKnob Tryd.prog.godebug = none := by kernel_rfl
theorem laidOut : laidOutB Tryd.prog = true := by kernel_rfl
def opKs : List (Option IntKind) := [some .i64, some .i64, some .i64, some .i64, some .i64, some .i64, some .i64, some .i64, none, some .i64, some .i64]
theorem opFlat : flatT Tryd.prog 8 40 = some opKs := by kernel_rfl
theorem opCells : Tryd.prog.cellsOf 40 = opKs.length := by kernel_rfl
theorem op_of {l : List Value} (h0 : Flat opKs l) : ∃ o : Op, l = o.enc := by
  obtain ⟨a, l1, e1, h1⟩ := flat_int h0
  obtain ⟨b, l2, e2, h2⟩ := flat_int h1
  obtain ⟨c, l3, e3, h3⟩ := flat_int h2
  obtain ⟨d, l4, e4, h4⟩ := flat_int h3
  obtain ⟨e, l5, e5, h5⟩ := flat_int h4
  obtain ⟨f, l6, e6, h6⟩ := flat_int h5
  obtain ⟨g, l7, e7, h7⟩ := flat_int h6
  obtain ⟨i, l8, e8, h8⟩ := flat_int h7
  obtain ⟨j, l9, e9, h9⟩ := flat_bool h8
  obtain ⟨k, l10, e10, h10⟩ := flat_int h9
  obtain ⟨m, l11, e11, h11⟩ := flat_int h10
  have e12 := flat_nil h11
  subst e12 e11 e10 e9 e8 e7 e6 e5 e4 e3 e2 e1
  exact ⟨⟨a, ⟨b, c, d, e, f, g, i, j, k⟩, m⟩, rfl⟩
theorem ruleFlat : flatT Tryd.prog 8 24 = some [some .i64] := by kernel_rfl
theorem rule_of {l : List Value} (h : Flat [some .i64] l) : ∃ b : Int, l = [I b] := by
  obtain ⟨a, l1, e1, h1⟩ := flat_int h
  have e2 := flat_nil h1
  subst e2 e1
  exact ⟨a, rfl⟩
theorem gLim : Tryd.prog.globalNamed "donjon/place.limits" = some 0 := by kernel_rfl
theorem tLim : (Tryd.prog.globals[0]?).map (·.type) = some 104 := by kernel_rfl
theorem lim_of {W : World} (h : laidMetH Tryd.prog [("donjon/place.limits", Rows.laid_donjon_place_limits)] W) : Lim W :=
  laid_block (l := limE) 8 (by kernel_rfl) h (List.mem_singleton.2 rfl) gLim tLim (by kernel_rfl)
theorem door_met (os : Os) (args : Array Value) : laidMetH Tryd.prog [("donjon/place.limits", Rows.laid_donjon_place_limits)] ((World.doorLaid Tryd.prog 400 os).forCall (fun _ _ => 0) ⟨#[], args, []⟩).memory :=
  laidMetH_of_parts3 (fuel := 8) (laidMet_of_run' 8 (by kernel_rfl) (by kernel_rfl)) (by kernel_rfl) (by kernel_rfl)
/-- WHAT A LAW'S CALL IS: of what was there nothing turns. -/
theorem calls_law {W : World} (hL : Lim W) {a : Option Addr} {len cap : Nat} (hrow : FlatRow opKs W a len cap) {f : FuncId} {more more' : List Value} (hmore : ∀ ρ, LRel ρ more more')
    (hok : ∀ (G : Bg) (h : AH) (t : Value) (ops : Nat → Op), Ob G 0 limE → Old G 11 t len (fun i => (ops i).enc) → Hs G h [] → Cl Pr K f (t :: more) h fun v _ => v = .bool true) :
    Calls Pr f ⟨.slice a len cap :: more'⟩ W fun e W' => e = .returned (.bool true) ∧ Below W.heap.size W W' := by
  obtain ⟨r, t, hr, hv, at', hflat, hold⟩ := row_old Pr hrow
  have hL' := hL
  obtain ⟨e, fz, hh⟩ := hL
  have h0 : 0 < W.heap.size := (Array.getElem?_eq_some_iff.1 hh).1
  have reads : Reads Pr (1 + [r].length) (oldOf 1 (glB e fz) [r]) (rhoOf 1 [r]) W := reads_of (by rw [globals1]; exact Nat.le_refl _) h0 (lim_gl hh) (fun x hx => by rw [List.mem_singleton.1 hx]; exact hr)
  have hop : ∀ i, ∃ o : Op, i < len → at' i = o.enc := fun i => by
    by_cases hi : i < len
    · obtain ⟨o, ho⟩ := op_of (hflat i hi); exact ⟨o, fun _ => ho⟩
    · exact ⟨⟨0, Note.zero, 0⟩, fun h => absurd h hi⟩
  have hO := hold ⟨2, oldOf 1 (glB e fz) [r]⟩ 1 (by show 1 < 2; omega) (oldOf_at (g := 1) (i := 0) (gl := glB e fz) (rs := [r]) rfl)
  have ok := hok ⟨2, oldOf 1 (glB e fz) [r]⟩ (Go.Ab.start 2 (oldOf 1 (glB e fz) [r])) (t 1) (fun i => (hop i).choose) ⟨by show 0 < 2; omega, e, fz, true, (oldOf_gl (g := 1) (i := 0) (gl := glB e fz) (rs := [r]) (by omega)).trans rfl⟩ (by
    obtain ⟨a', c', h1, h2⟩ := hO
    refine ⟨a', c', h1, fun i hi => ?_⟩
    obtain ⟨b, o, cells, k1, k2, k3, k4⟩ := h2 i hi
    exact ⟨b, o, cells, k1, k2, k3.trans ((hop i).choose_spec hi), k4⟩) hs_start
  have := calls_of (ctx W.heap.size h0) hL' reads (args := t 1 :: more) (args' := .slice a len cap :: more') (LRel.cons (hv _ 1 (rhoOf_at (g := 1) (i := 0) (rs := [r]) rfl)) (hmore _)) ok
  intro cs
  obtain ⟨e, w', fr, ⟨ρ', o, h', v', he, hv', hq, _, hb⟩, hx⟩ := this cs
  rw [hq] at hv'
  simp only [VRel] at hv'
  exact ⟨e, w', fr, ⟨by rw [he, hv'], hb⟩, hx⟩
end Go.Proofs.YtagcnlaofkfpjaaDoor
end
section
namespace Go.Proofs.YtagcnlaofkfpjaaDoor
open Go Go.Ab Go.Hm
/-- what a call answers -/
def homAns (C : Cfg) (H : Hom) (o : Op) (j : Int → Int → Int × Bool) : Hom × List Note × Int :=
  if o.ask = 0 then homTake C H o.n else if o.ask = 1 then ((homSweep C H o.line).1, [], (homSweep C H o.line).2) else homBegin C H o.line (fun w => j w o.line)
def Op.at (o : Op) : Int := if o.ask = 0 then o.n.line else o.line
def AInv (H : Hom) (i : Nat) : Prop := ∀ k, k < 4 → LInv k (H k).1 ∧ (H k).1.waits.length ≤ i
def rws (H : Hom) (k : Nat) : List Note := (H k).1.waits.map Note.face
theorem AInv.o {H : Hom} {i : Nat} (h : AInv H i) : OInv H (rws H) i := fun k hk => ⟨(h k hk).1, rfl, (h k hk).2⟩
theorem ainv_of {H : Hom} {R : Nat → List Note} {i : Nat} (h : OInv H R i) : AInv H i := fun k hk => ⟨(h k hk).1, (h k hk).2.2⟩
theorem AInv.h {H : Hom} {i : Nat} (h : AInv H i) (N : Nat) (hN : i ≤ N) : HInv C0 H N := h.o.h N hN
theorem ans_inv {H : Hom} {i : Nat} {o : Op} {j : Int → Int → Int × Bool} (h : AInv H i) : AInv (homAns C0 H o j).1 (i + 1) := by
  unfold homAns
  split
  · have := take_order (n := o.n) h.o
    by_cases hc : (homTake C0 H o.n).2.2 = 0 ∧ (o.n.kind = 1 ∨ o.n.kind = 2 ∨ o.n.kind = 3)
    · exact ainv_of (this.1 hc).2
    · exact ainv_of (this.2 hc)
  · split
    · have := sweep_order (l := o.line) h.o
      by_cases hc : (homSweep C0 H o.line).2 = 0
      · exact ainv_of (this.1 hc).2
      · exact ainv_of (this.2 hc)
    · have := begin_order (l := o.line) (j := fun w => j w o.line) h.o
      by_cases hc : (homBegin C0 H o.line (fun w => j w o.line)).2.2 = 0
      · obtain ⟨_, _, n, w, _, h1, _⟩ := this.2 hc
        exact ainv_of h1
      · exact ainv_of (this.1 hc).2.1
theorem ans_other {H : Hom} {k : Nat} {o : Op} {j : Int → Int → Int × Bool} (h : o.at ≠ (k : Int)) : (homAns C0 H o j).1 k = H k := by
  unfold Op.at at h
  unfold homAns
  split
  · rename_i h0
    rw [if_pos h0] at h
    unfold homTake
    split
    · rfl
    · split
      · rename_i hc
        exact updA_ne (by have := hc.2.1; omega)
      · rfl
  · rename_i h0
    rw [if_neg h0] at h
    split
    · unfold homSweep
      split
      · rename_i hc
        exact updA_ne (by have := hc.1; omega)
      · rfl
    · unfold homBegin
      split
      · rename_i hc
        exact updA_ne (by have := hc.1; omega)
      · rfl
theorem ans_same {A B : Hom} {k : Nat} {o : Op} {j : Int → Int → Int × Bool} (h : o.at = (k : Int)) (he : A k = B k) : (homAns C0 A o j).1 k = (homAns C0 B o j).1 k ∧ (homAns C0 A o j).2 = (homAns C0 B o j).2 := by
  unfold Op.at at h
  unfold homAns
  split
  · rename_i h0
    rw [if_pos h0] at h
    unfold homTake
    split
    · exact ⟨he, rfl⟩
    · split
      · rw [show o.n.line.toNat = k by omega, he]
        exact ⟨by dsimp only; rw [updA_same, updA_same], rfl⟩
      · exact ⟨he, rfl⟩
  · rename_i h0
    rw [if_neg h0] at h
    split
    · unfold homSweep
      split
      · rw [show o.line.toNat = k by omega, he]
        exact ⟨by dsimp only; rw [updA_same, updA_same], rfl⟩
      · exact ⟨he, rfl⟩
    · unfold homBegin
      split
      · rw [show o.line.toNat = k by omega, he]
        exact ⟨by dsimp only; rw [updA_same, updA_same], rfl⟩
      · exact ⟨he, rfl⟩
theorem neA_note {n : Note} {k : Value → Prop} (hk : k (.bool false)) : thn (biA [0, 0, 0, 0, 0, 0, 0, 1, 0] .neq (.agg ⟨n.enc⟩) (.agg ⟨n.enc⟩)) k := ⟨_, by simp [biA, cmpK, cmp1, eqn, Note.enc], hk⟩
attribute [local irreducible] thn Br ld1 ldN stV alc alcAt alcS alcSAt resv padd nilV extV part1 partN lenS lenT biI biT biB biP biS biF biE biA unV idxS idxA pickV appV copyV clearV slS slA slT mkS blkOf at1 atN atS convI convS minV maxV Cl OkF OkR EndX endV beginV defersOf setLoop closeMarks
variable {G : Bg} {h : AH} {L L' : List HP}
theorem answers_ok {hb : Nat} {H : Hom} {o : Op} {bits : Int} {j : Int → Int → Int × Bool} {N : Nat} {Q : Value → AH → Prop} (hlim : Ob G 0 limE) (hj : Judges (.iface 24 (.agg ⟨[I bits]⟩)) j) (hN : N ≤ 1000) (hi : HInv C0 H N) (hs : Hs G h L) [m : Has (homR G hb C0) L H L']
    (hk : ∀ v h', Hs G h' (notesR v (homAns C0 H o j).2.1 :: homR G hb C0 (homAns C0 H o j).1 :: L') → Q (.tuple ⟨[v, I (homAns C0 H o j).2.2]⟩) h') : Cl Pr K 17 [pt hb 0 0, .agg ⟨o.enc⟩, .agg ⟨[I bits]⟩] h Q := by
  refine c17 (b17_0 (r_bx (m.of hs) ?_))
  intro p2 h hs
  refine r_bx hs ?_
  intro p5 h hs
  unfold homAns at hk
  refine r_padd (r_ld hs rfl (r_eqI (r_br (fun h1 => ?_) (fun h1 => b17_1 (r_eqI (r_br (fun h2 => ?_) (fun h2 => ?_)))))))
  · rw [if_pos h1] at hk
    refine r_padd (r_ldN hs (by decide) (l := o.n.enc) rfl rfl (take_ok C0_ok hlim (fun l hl => ⟨(hi l hl).1, by have := (hi l hl).2; omega⟩) hs fun v h hs => ?_))
    exact r_ext rfl (r_ext rfl (hk v h hs.to))
  · rw [if_neg h1, if_pos h2] at hk
    refine r_padd (r_ld hs rfl (sweep_ok (C := C0) (fun l hl => ⟨(hi l hl).1, by have := (hi l hl).2; omega⟩) hs fun h hs => ?_))
    exact hk _ h (notes0 hs).to
  · rw [if_neg h1, if_neg h2] at hk
    refine r_padd (r_ld hs rfl (r_ldN hs (by decide) (l := [I bits]) rfl rfl (begin_ok C0_ok hlim hj hi hs fun v h hs => ?_)))
    exact r_ext rfl (r_ext rfl (hk v h hs.to))
theorem notes_same {v w : Value} {ns : List Note} {Q : Value → AH → Prop} (hlen : ns.length < 2 ^ 40) (hs : Hs G h (notesR v ns :: notesR w ns :: L)) (hk : ∀ h', Hs G h' (notesR v ns :: notesR w ns :: L) → Q (.bool true) h') : Cl Pr K 18 [v, w] h Q := by
  obtain ⟨a, c, hv, hq⟩ := notesE hs
  obtain ⟨a2, c2, hw, hr⟩ := notesE hq.at2
  clear hs hq
  subst hv hw
  refine c18 (b18_0 (r_lenS (r_lenS (r_neI (r_brF (by simp) (b18_1 ?_))))))
  have loop : ∀ (f i : Nat) (h : AH) (g : HP), i + f = ns.length → Hs G h (slc 9 38 a2 c2 (ns.length, encNs ns) :: slc 9 38 a c (ns.length, encNs ns) :: g :: L) →
      A18_2 Q (.slice a ns.length c) (.slice a2 ns.length c2) (I i) h := by
    intro f
    induction f with
    | zero =>
      intro i h g hi hs
      exact b18_2 (r_lenS (r_ltI (r_brF (by omega) (hk h (notesI rfl rfl (notesI rfl rfl hs).at2).to))))
    | succ f ih =>
      intro i h g hi hs
      have hlt : i < ns.length := by omega
      have hat := encNs_at ns i ns[i] (List.getElem?_eq_getElem hlt)
      refine b18_2 (r_lenS (r_ltI (r_brT (by omega) (b18_3 (r_resv hs ?_)))))
      intro rv h hs
      have hs : Hs G h (slc 9 38 a2 c2 (ns.length, encNs ns) :: slc 9 38 a c (ns.length, encNs ns) :: sp [frK rv (9, []), g] :: L) := hs.to
      obtain ⟨b2, o2, rfl, H2, hs2, _⟩ := hs.slcOpen (by omega)
      obtain ⟨b, o, rfl, H, hs1, _⟩ := hs.at2.slcOpen (by omega)
      refine r_idxN hlt (r_ldNI hs1 (by decide) (l := ns[i].enc) hat rfl (r_idxN hlt (r_ldNI hs2 (by decide) (l := ns[i].enc) hat rfl (neA_note (r_brf (b18_4 (r_addI (by omega) (ih (i + 1) h _ (by omega) hs))))))))
  exact loop ns.length 0 h (sp []) (by omega) hr.to
theorem ints_same {v w : Value} {l : List Int} {Q : Value → AH → Prop} (hlen : l.length < 2 ^ 40) (hs : Hs G h (intsR 3 v l :: intsR 3 w l :: L)) (hk : ∀ h', Hs G h' L → Q (.bool true) h') : Cl Pr K 20 [v, w] h Q := by
  obtain ⟨a, c, hv, hq⟩ := intsE hs
  obtain ⟨a2, c2, hw, hr⟩ := intsE hq.at2
  clear hs hq
  subst hv hw
  refine c20 (b20_0 (r_lenS (r_lenS (r_neI (r_brF (by simp) (b20_1 ?_))))))
  have loop : ∀ (f i : Nat) (h : AH) (g : HP), i + f = l.length → Hs G h (slc 1 3 a2 c2 (l.length, l.map I) :: slc 1 3 a c (l.length, l.map I) :: g :: L) →
      A20_2 Q (.slice a l.length c) (.slice a2 l.length c2) (I i) h := by
    intro f
    induction f with
    | zero =>
      intro i h g hi hs
      exact b20_2 (r_lenS (r_ltI (r_brF (by omega) (hk h hs.to))))
    | succ f ih =>
      intro i h g hi hs
      have hlt : i < l.length := by omega
      have hat : (l.map I)[i * 1 + 0]? = some (I l[i]) := by rw [Nat.mul_one, Nat.add_zero, List.getElem?_map, List.getElem?_eq_getElem hlt]; rfl
      refine b20_2 (r_lenS (r_ltI (r_brT (by omega) (b20_3 (r_resv hs ?_)))))
      intro rv h hs
      have hs : Hs G h (slc 1 3 a2 c2 (l.length, l.map I) :: slc 1 3 a c (l.length, l.map I) :: sp [frK rv (9, []), g] :: L) := hs.to
      obtain ⟨b2, o2, rfl, H2, hs2, _⟩ := hs.slcOpen (by omega)
      obtain ⟨b, o, rfl, H, hs1, _⟩ := hs.at2.slcOpen (by omega)
      refine r_idxN hlt (r_ldI hs1 hat (r_idxN hlt (r_ldI hs2 hat (r_neI (r_brF (by simp) (b20_4 (r_addI (by omega) (ih (i + 1) h _ (by omega) hs))))))))
  exact loop l.length 0 h (sp []) (by omega) hr.to
end Go.Proofs.YtagcnlaofkfpjaaDoor
end
section
namespace Go.Proofs.YtagcnlaofkfpjaaDoor
open Go Go.Ab Go.Hm
theorem eqA2 {d : Ln} {k : Value → Prop} (hk : k (.bool true)) : thn (biA [0, 0] .eql (.agg ⟨lnE d⟩) (.agg ⟨lnE d⟩)) k := ⟨_, by simp [biA, cmpK, cmp1, eqn, lnE], hk⟩
theorem r_eqBs {b : Bool} {k : Value → Prop} (hk : k (.bool true)) : thn (biB .eql (.bool b) (.bool b)) k := ⟨_, by simp [biB, eqn], hk⟩
theorem reply_len {x : Lin} {l : Int} {n : Note} : (Lin.reply x l n).2.length ≤ 4 := by
  unfold Lin.reply Row.rest
  simp only
  split
  · split
    · simp
    · exact grant_len
  · simp
theorem ans_len {A : Hom} {o : Op} {j : Int → Int → Int × Bool} : (homAns C0 A o j).2.1.length ≤ 4 := by
  unfold homAns
  split
  · unfold homTake
    split
    · simp
    · split
      · unfold Lin.take
        split
        · split <;> simp
        · split
          · split
            · simp
            · exact reply_len
          · simp
      · simp
  · split
    · simp
    · exact homBegin_len
attribute [local irreducible] thn Br ld1 ldN stV alc alcAt alcS alcSAt resv padd nilV extV part1 partN lenS lenT biI biT biB biP biS biF biE biA unV idxS idxA pickV appV copyV clearV slS slA slT mkS blkOf at1 atN atS convI convS minV maxV Cl OkF OkR EndX endV beginV defersOf setLoop closeMarks
variable {G : Bg} {h : AH} {L L' : List HP}
section
variable {ha hb p2 : Nat} {bits : Int} {A B : Hom} {Q : Value → AH → Prop} {k : Nat}
theorem apart_end (hlim : Ob G 0 limE) (hk4 : k < 4) (he : A k = B k) {g : HP} (hs : Hs G h (homR G ha C0 A :: homR G hb C0 B :: g :: L)) (hk : ∀ h', Q (.bool true) h') : A4_4 Q (I k) (pt ha 0 0) (pt hb 0 0) h := by
  have hhas : C0.has (k : Int) := ⟨by omega, by show (k : Int) < 4; omega⟩
  have hw : ∀ H, homWho C0 H k = ((H k).1.owner, (H k).1.sharers, 0) := fun H => by unfold homWho; rw [if_pos hhas]; rfl
  have hwt : ∀ H, homWaits C0 H k = ((H k).1.waits.length : Int) := fun H => by unfold homWaits; rw [if_pos hhas]; rfl
  have hbz : ∀ H, homBusy C0 H k = (H k).1.busy := fun H => by unfold homBusy; rw [decide_eq_true hhas]; simp
  refine b4_4 (who_ok (C := C0) (H := A) hs fun v h hs => ?_)
  rw [hw] at hs ⊢
  refine r_ext rfl (r_ext rfl (r_ext rfl (who_ok (C := C0) (H := B) hs fun w h hs => ?_)))
  rw [hw] at hs ⊢
  dsimp only at hs ⊢
  rw [he] at hs ⊢
  refine r_ext rfl (r_ext rfl (r_ext rfl ?_))
  have hs : Hs G h (homR G ha C0 A :: intsR 3 v (natsI (B k).1.sharers) :: intsR 3 w (natsI (B k).1.sharers) :: homR G hb C0 B :: g :: L) := hs.to
  obtain ⟨mb, b, o, cap, hs⟩ := hom_open hs
  refine r_nilP (r_padd (r_ld hs rfl (read_ok (C := C0) C0_ok hlim hs hk4 fun h hs => ?_)))
  have hs := hom_end C0 A ha mb b o cap hs
  refine r_ext rfl (r_ext rfl (r_new hs ?_))
  intro pa h hs
  refine r_stW hs rfl rfl rfl rfl ?_
  intro h hs
  have hs : Hs G h (homR G hb C0 B :: homR G ha C0 A :: intsR 3 v (natsI (B k).1.sharers) :: intsR 3 w (natsI (B k).1.sharers) :: seg pa 0 (lnE (A k).2) :: g :: L) := hs.to
  obtain ⟨mb, b, o, cap, hs⟩ := hom_open hs
  refine r_nilP (r_padd (r_ld hs rfl (read_ok (C := C0) C0_ok hlim hs hk4 fun h hs => ?_)))
  have hs := hom_end C0 B hb mb b o cap hs
  refine r_ext rfl (r_ext rfl (r_new hs ?_))
  intro pb h hs
  refine r_stW hs rfl rfl rfl rfl ?_
  intro h hs
  refine r_eqI (r_brT rfl ?_)
  have hs : Hs G h (intsR 3 v (natsI (B k).1.sharers) :: intsR 3 w (natsI (B k).1.sharers) :: homR G ha C0 A :: homR G hb C0 B :: seg pa 0 (lnE (A k).2) :: seg pb 0 (lnE (B k).2) :: g :: L) := hs.to
  have hsl : (natsI (B k).1.sharers).length < 2 ^ 40 := by
    have := sharersF_len (r := (B k).1) 4 0
    simp only [natsI, List.length_map]
    show (B k).1.sharers.length < _
    unfold Row.sharers; omega
  refine ints_same hsl hs fun h hs => r_brt ?_
  refine r_ldN hs (by decide) (l := lnE (A k).2) rfl rfl (r_ldN hs (by decide) (l := lnE (B k).2) rfl rfl ?_)
  rw [he]
  refine eqA2 (r_brt ?_)
  refine busy_ok (C := C0) (H := A) hs fun hs => busy_ok (C := C0) (H := B) hs fun hs => ?_
  rw [hbz, hbz, he]
  refine r_eqBs (r_brt ?_)
  refine waits_ok (C := C0) (H := A) hs fun hs => waits_ok (C := C0) (H := B) hs fun hs => ?_
  rw [hwt, hwt, he]
  exact r_eqI (r_brT rfl (awake_ok (hk _)))
theorem apart_loop {t0 : Value} {N : Nat} {ops : Nat → Op} {j : Int → Int → Int × Bool} (hlim : Ob G 0 limE) (hj : Judges (.iface 24 (.agg ⟨[I bits]⟩)) j) (hN : N ≤ 60) (hold : Old G 11 t0 N fun i => (ops i).enc) (hk4 : k < 4)
    (hk : ∀ h', Q (.bool true) h') : ∀ (f i : Nat) (h : AH) (A B : Hom) (g : HP), i + f = N → AInv A i → AInv B i → A k = B k → Hs G h (homR G ha C0 A :: homR G hb C0 B :: g :: seg p2 0 [I bits] :: L) →
      A4_2 Q t0 (I k) (pt p2 0 0) (pt ha 0 0) (pt hb 0 0) (I i) h := by
  intro f
  induction f with
  | zero =>
    intro i h A B g hi hA hB he hs
    exact b4_2 (old_len hold (r_ltI (r_brF (by omega) (apart_end hlim hk4 he hs hk))))
  | succ f ih =>
    intro i h A B g hi hA hB he hs
    refine b4_2 (old_len hold (r_ltI (r_brT (by omega) (b4_3 (old_ld hold (by omega) rfl hs (r_new hs ?_))))))
    intro p3 h hs
    generalize ops i = o
    refine r_stW hs rfl rfl rfl rfl ?_
    intro h hs
    have hs : Hs G h (homR G ha C0 A :: homR G hb C0 B :: seg p3 0 o.enc :: g :: seg p2 0 [I bits] :: L) := hs.to
    have nx : ∀ h B' g, AInv B' (i + 1) → (homAns C0 A o j).1 k = B' k → Hs G h (homR G ha C0 (homAns C0 A o j).1 :: homR G hb C0 B' :: g :: seg p2 0 [I bits] :: L) → A4_7 Q t0 (I k) (pt p2 0 0) (pt ha 0 0) (pt hb 0 0) (I i) h := fun h B' g h1 h2 hs =>
      b4_7 (r_addI (by omega) (ih (i + 1) h _ B' g (by omega) (ans_inv hA) h1 h2 hs))
    have two : ∀ h v, o.at = (k : Int) → Hs G h (notesR v (homAns C0 A o j).2.1 :: homR G ha C0 (homAns C0 A o j).1 :: homR G hb C0 B :: seg p3 0 o.enc :: g :: seg p2 0 [I bits] :: L) →
        A4_8 Q t0 (I k) (pt p2 0 0) (pt ha 0 0) (pt hb 0 0) (I i) (pt p3 0 0) v (I (homAns C0 A o j).2.2) h := fun h v hat hs => by
      have hsm := ans_same (j := j) hat he
      refine b4_8 (r_ldN hs (by decide) (l := o.enc) rfl rfl (r_ldN hs (by decide) (l := [I bits]) rfl rfl (answers_ok hlim hj (N := 1000) (by omega) (hB.h 1000 (by omega)) hs fun w h hs => ?_)))
      refine r_ext rfl (r_ext rfl ?_)
      rw [← hsm.2] at hs ⊢
      have hlen : (homAns C0 A o j).2.1.length < 2 ^ 40 := by
        have := ans_len (A := A) (o := o) (j := j); omega
      refine notes_same (v := v) (w := w) (L := [homR G ha C0 (homAns C0 A o j).1, homR G hb C0 (homAns C0 B o j).1, seg p3 0 o.enc, g] ++ seg p2 0 [I bits] :: L) hlen hs.to fun h hs => r_not (r_brf (r_neI (r_brF (by simp) ?_)))
      exact nx h (homAns C0 B o j).1 (sp [notesR v (homAns C0 A o j).2.1, notesR w (homAns C0 A o j).2.1, seg p3 0 o.enc, g]) (ans_inv hB) hsm.1 hs.to
    have other : ∀ h v, o.at ≠ (k : Int) → Hs G h (notesR v (homAns C0 A o j).2.1 :: homR G ha C0 (homAns C0 A o j).1 :: homR G hb C0 B :: seg p3 0 o.enc :: g :: seg p2 0 [I bits] :: L) →
        A4_7 Q t0 (I k) (pt p2 0 0) (pt ha 0 0) (pt hb 0 0) (I i) h := fun h v hat hs =>
      nx h B (sp [notesR v (homAns C0 A o j).2.1, seg p3 0 o.enc, g]) (fun k hk => ⟨(hB k hk).1, by have := (hB k hk).2; omega⟩) ((ans_other hat).trans he) hs.to
    refine r_padd (r_ld hs rfl (r_padd (r_ld hs rfl (r_eqI (r_br (fun h1 => b4_5 ?_) (fun h1 => b4_6 ?_))))))
    · have e : o.at = o.n.line := by unfold Op.at; rw [if_pos h1]
      refine r_padd (r_padd (r_ld hs rfl (r_ldN hs (by decide) (l := o.enc) rfl rfl (r_ldN hs (by decide) (l := [I bits]) rfl rfl (answers_ok hlim hj (N := 1000) (by omega) (hA.h 1000 (by omega)) hs fun v h hs => ?_)))))
      have hs : Hs G h (notesR v (homAns C0 A o j).2.1 :: homR G ha C0 (homAns C0 A o j).1 :: homR G hb C0 B :: seg p3 0 o.enc :: g :: seg p2 0 [I bits] :: L) := hs.to
      exact r_ext rfl (r_ext rfl (r_neI (r_br (fun h2 => other h v (by rw [e]; exact h2) hs) (fun h2 => two h v (by rw [e]; omega) hs))))
    · have e : o.at = o.line := by unfold Op.at; rw [if_neg h1]
      refine r_ldN hs (by decide) (l := o.enc) rfl rfl (r_ldN hs (by decide) (l := [I bits]) rfl rfl (answers_ok hlim hj (N := 1000) (by omega) (hA.h 1000 (by omega)) hs fun v h hs => ?_))
      have hs : Hs G h (notesR v (homAns C0 A o j).2.1 :: homR G ha C0 (homAns C0 A o j).1 :: homR G hb C0 B :: seg p3 0 o.enc :: g :: seg p2 0 [I bits] :: L) := hs.to
      exact r_ext rfl (r_ext rfl (r_neI (r_br (fun h2 => other h v (by rw [e]; exact h2) hs) (fun h2 => two h v (by rw [e]; omega) hs))))
end
theorem AInv0 : AInv (homM C0.lines) 0 := fun k hk4 => by
  have : (homM C0.lines k).1 = row0 := by unfold homM; rw [if_pos (show k < C0.lines from hk4)]
  rw [this]
  exact ⟨LInv0 k, Nat.le_refl _⟩
theorem apart_ok {t0 : Value} {bits line : Int} {N : Nat} {ops : Nat → Op} {Q : Value → AH → Prop} {j : Int → Int → Int × Bool} (hlim : Ob G 0 limE) (hj : Judges (.iface 24 (.agg ⟨[I bits]⟩)) j) (hold : Old G 11 t0 N fun i => (ops i).enc) (hs : Hs G h L)
    (hk : ∀ h', Q (.bool true) h') : Cl Pr K 4 [t0, .agg ⟨[I bits]⟩, I line] h Q := by
  refine c4 (b4_0 (r_bx hs ?_))
  intro p2 h hs
  refine small_ok hs fun h hs => homeNew_ok C0_ok hlim hs fun ha h hs => r_ext rfl (r_ext rfl ?_)
  refine small_ok hs fun h hs => homeNew_ok C0_ok hlim hs fun hb h hs => r_ext rfl (r_ext rfl ?_)
  refine r_ptEq (r_brf (r_ptEq (r_brf (r_neI (r_brF (by omega) (r_neI (r_brF (by omega) (old_len hold (r_gtI (r_br (fun h1 => ?_) (fun h1 => ?_)))))))))))
  · exact r_ptNe (r_brt (r_eqI (r_brT rfl (awake_ok (hk _)))))
  · refine r_ltI (r_br (fun h2 => r_ptNe (r_brt (r_eqI (r_brT rfl (awake_ok (hk _)))))) (fun h2 => r_gtI (r_br (fun h3 => r_ptNe (r_brt (r_eqI (r_brT rfl (awake_ok (hk _)))))) (fun h3 => ?_))))
    obtain ⟨k, rfl⟩ := Int.eq_ofNat_of_zero_le (show 0 ≤ line by omega)
    exact b4_1 (apart_loop (L := L) hlim hj (by omega) hold (by omega) hk N 0 h (homM C0.lines) (homM C0.lines) (sp []) (by omega) AInv0 AInv0 rfl hs.to)
end Go.Proofs.YtagcnlaofkfpjaaDoor
end
section
namespace Go.Hm
open Go Go.Ab
def isSw (n : Note) : Bool := decide (n.kind = 0)
def Row.cur (r : Row) : Nat := if r.busy = true ∧ r.served.kind = 0 then 1 else 0
def Row.sw (r : Row) : Nat := r.cur + r.waits.countP isSw
structure SInv (r : Row) : Prop where
  gk : r.granted = true → r.served.kind ≠ 0
  hold : r.busy = true → r.served.kind = 0 → ∀ i : Nat, i < 4 → (r.sh i = true ∨ (i : Int) = r.owner) → r.asked i = true
theorem SInv0 : SInv row0 := ⟨by simp [row0], by simp [row0]⟩
/-- a sweep is over: no one has the line -/
def Row.none' (r : Row) : Prop := r.owner = -1 ∧ (∀ i, i < 4 → r.sh i = false) ∧ r.busy = false
theorem sharers_nil {r : Row} (h : ∀ i, i < 4 → r.sh i = false) : r.sharers = [] := by
  unfold Row.sharers
  have h0 := h 0 (by omega); have h1 := h 1 (by omega); have h2 := h 2 (by omega); have h3 := h 3 (by omega)
  simp [Row.sharersF, h0, h1, h2, h3]
def Over (r r' : Row) : Prop := r'.sw < r.sw → r'.sw + 1 = r.sw ∧ r'.none'
theorem over_same {r r' : Row} (h1 : r'.cur = r.cur) (h2 : r'.waits = r.waits) : Over r r' := fun h => by unfold Row.sw at h; rw [h1, h2] at h; omega
theorem grant_cur {r : Row} {l : Int} {d : Ln} : (r.grant l d).1.cur = r.cur ∧ (r.grant l d).1.waits = r.waits ∧ (r.served.kind ≠ 0 → SInv (r.grant l d).1) := by
  unfold Row.grant
  split
  · exact ⟨rfl, rfl, fun h => ⟨fun _ => h, fun _ h2 => absurd h2 h⟩⟩
  · split
    · exact ⟨rfl, rfl, fun h => ⟨fun _ => h, fun _ h2 => absurd h2 h⟩⟩
    · exact ⟨rfl, rfl, fun h => ⟨fun _ => h, fun _ h2 => absurd h2 h⟩⟩
theorem quiet_all {r : Row} (h : r.quiet = true) : ∀ i, i < 4 → r.asked i = false := by
  unfold Row.quiet at h
  simp at h
  intro i hi
  have : i = 0 ∨ i = 1 ∨ i = 2 ∨ i = 3 := by omega
  rcases this with rfl | rfl | rfl | rfl
  · exact h.1.1.1
  · exact h.1.1.2
  · exact h.1.2
  · exact h.2
theorem heard_sinv {r : Row} {n : Note} (h : SInv r) (hc : 0 ≤ n.core ∧ n.core < 4) : SInv (r.heard n) ∧ (r.heard n).cur = r.cur ∧ (r.heard n).waits = r.waits ∧ (r.heard n).served = r.served ∧ (r.heard n).busy = r.busy ∧ (r.heard n).granted = r.granted := by
  unfold Row.heard
  split
  · refine ⟨⟨h.gk, fun hb hk i hi ho => ?_⟩, rfl, rfl, rfl, rfl, rfl⟩
    show updB r.asked n.core false i = true
    have ho : updB r.sh n.core false i = true ∨ (i : Int) = (if r.owner = n.core then -1 else r.owner) := ho
    unfold updB at ho ⊢
    have hne : (i : Int) ≠ n.core := by
      intro e
      rw [if_pos e] at ho
      rcases ho with ho | ho
      · cases ho
      · split at ho <;> omega
    rw [if_neg hne] at ho ⊢
    refine h.hold hb hk i hi ?_
    rcases ho with ho | ho
    · exact .inl ho
    · split at ho
      · omega
      · exact .inr ho
  · rename_i h1
    have h1 : r.served.kind = 1 := by simpa using h1
    split
    · split
      · exact ⟨⟨h.gk, fun _ hk => by have : r.served.kind = 0 := hk; omega⟩, rfl, rfl, rfl, rfl, rfl⟩
      · exact ⟨⟨h.gk, fun _ hk => by have : r.served.kind = 0 := hk; omega⟩, rfl, rfl, rfl, rfl, rfl⟩
    · split
      · exact ⟨⟨h.gk, fun _ hk => by have : r.served.kind = 0 := hk; omega⟩, rfl, rfl, rfl, rfl, rfl⟩
      · exact ⟨⟨h.gk, fun _ hk => by have : r.served.kind = 0 := hk; omega⟩, rfl, rfl, rfl, rfl, rfl⟩
theorem free_sinv {r : Row} : SInv r.free := ⟨fun h => (by cases h), fun h => (by cases h)⟩
theorem free_cur {r : Row} : r.free.cur = 0 := by unfold Row.cur Row.free; simp
theorem wait_sw {r : Row} {n : Note} : (r.wait n).sw = r.sw + (if n.kind = 0 then 1 else 0) := by
  unfold Row.sw Row.wait Row.cur isSw
  simp only [List.countP_append, List.countP_singleton]
  by_cases h : n.kind = 0 <;> simp [h] <;> omega
theorem wait_sinv {r : Row} {n : Note} (h : SInv r) : SInv (r.wait n) := ⟨h.gk, h.hold⟩
theorem take_sw {k : Nat} {x : Lin} {n : Note} (h : LInv k x.1) (hs : SInv x.1) (ht : takes n.kind) (hn : 0 ≤ n.core ∧ n.core < 4) :
    SInv (Lin.take x k n).1.1 ∧ ((Lin.take x k n).1.1.sw < x.1.sw → (Lin.take x k n).2.2 = 0 ∧ (Lin.take x k n).1.1.sw + 1 = x.1.sw ∧ (Lin.take x k n).1.1.none' ∧ (n.dirty = true → (Lin.take x k n).1.2 = (n.d0, n.d1))) := by
  unfold Lin.take
  split
  · split
    · exact ⟨hs, fun h => by simp at h⟩
    · rename_i h2
      have hg : x.1.granted = true := by
        cases hg : x.1.granted with
        | true => rfl
        | false => exact absurd (.inl hg) h2
      refine ⟨free_sinv, fun hlt => ?_⟩
      have hk := hs.gk hg
      exfalso
      have : x.1.cur = 0 := by unfold Row.cur; rw [if_neg (fun e => hk e.2)]
      have hlt : x.1.free.cur + x.1.waits.countP isSw < x.1.cur + x.1.waits.countP isSw := hlt
      omega
  · split
    · split
      · exact ⟨hs, fun h => by simp at h⟩
      · rename_i ha
        obtain ⟨a1, a2, a3, a4, a5, a6⟩ := heard_sinv (n := n) hs hn
        have hl := heard_lsrv (n := n) h hn (by simpa using ha)
        unfold Lin.reply Row.rest
        simp only
        split
        · rename_i hq
          split
          · rename_i h0
            refine ⟨free_sinv, fun hlt => ⟨trivial, ?_, ?_, ?_⟩⟩
            · show (x.1.heard n).free.cur + (x.1.heard n).waits.countP isSw + 1 = _
              rw [free_cur, a3]
              unfold Row.sw Row.cur
              rw [if_pos ⟨a5 ▸ hl.busy, a4 ▸ h0⟩]; omega
            · have hall := quiet_all hq
              have hno : ∀ i : Nat, i < 4 → ¬ ((x.1.heard n).sh i = true ∨ (i : Int) = (x.1.heard n).owner) := fun i hi ho => by
                have := a1.hold hl.busy h0 i hi ho
                rw [hall i hi] at this; cases this
              refine ⟨?_, fun i hi => ?_, rfl⟩
              · show (x.1.heard n).owner = -1
                have := hl.owner
                have e0 := hno 0 (by omega)
                have e1 := hno 1 (by omega)
                have e2 := hno 2 (by omega)
                have e3 := hno 3 (by omega)
                simp only [not_or, Int.ofNat_zero, Int.natCast_one, Int.cast_ofNat_Int] at e0 e1 e2 e3
                omega
              · show (x.1.heard n).sh i = false
                have := fun e => hno i hi (.inl e)
                simpa using this
            · intro hd
              show x.1.heardM x.2 n = _
              unfold Row.heardM
              rw [if_pos ⟨by rw [← a4, h0]; decide, hd⟩]
          · rename_i h0
            obtain ⟨g1, g2, g3⟩ := grant_cur (r := x.1.heard n) (l := k) (d := (x.1.heard n).dat (x.1.heardM x.2 n))
            refine ⟨g3 h0, fun hlt => ?_⟩
            have := over_same (g1.trans a2) (g2.trans a3) hlt
            have hlt : ((x.1.heard n).grant k ((x.1.heard n).dat (x.1.heardM x.2 n))).1.sw < x.1.sw := hlt
            unfold Row.sw at hlt
            rw [g1, g2, a2, a3] at hlt
            omega
        · refine ⟨a1, fun hlt => ?_⟩
          have hlt : (x.1.heard n).sw < x.1.sw := hlt
          unfold Row.sw at hlt
          rw [a2, a3] at hlt
          omega
    · refine ⟨wait_sinv hs, fun hlt => ?_⟩
      have hlt : (x.1.wait n).sw < x.1.sw := hlt
      rw [wait_sw] at hlt
      omega
theorem firstF_holds {r : Row} {x : Int} : ∀ (f i : Nat), r.firstF x f i = -1 → ∀ c, i ≤ c → c < i + f → r.holds x c = false := by
  intro f
  induction f with
  | zero => intro i h c h1 h2; omega
  | succ f ih =>
    intro i h c h1 h2
    unfold Row.firstF at h
    split at h
    · omega
    · rename_i hh
      by_cases e : c = i
      · subst e; simpa using hh
      · exact ih (i + 1) h c (by omega) (by omega)
theorem mem_holdersF {r : Row} {x : Int} : ∀ (f i c : Nat), i ≤ c → c < i + f → r.holds x c = true → c ∈ r.holdersF x f i := by
  intro f
  induction f with
  | zero => intro i c h1 h2; omega
  | succ f ih =>
    intro i c h1 h2 h
    unfold Row.holdersF
    by_cases e : c = i
    · subst e; rw [if_pos h]; exact List.mem_cons_self
    · have := ih (i + 1) c (by omega) (by omega) h
      split
      · exact List.mem_cons_of_mem _ this
      · exact this
theorem holds_of {r : Row} {i : Nat} (h : r.sh i = true ∨ (i : Int) = r.owner) : r.holds (-1) i = true := by
  rcases h with h | h
  · exact holds1 (by omega) h
  · exact holds2 (by omega) h
theorem get_sinv {r : Row} {l : Int} {m : Ln} {n : Note} {w : Int} (hg : r.granted = false) (hk : n.kind ≠ 0) : SInv (r.get l m n w).1 ∧ (r.get l m n w).1.cur = 0 ∧ (r.get l m n w).1.waits = r.waits := by
  have key : ∀ (r : Row) (l : List Nat), r.served.kind ≠ 0 → SInv (r.askAll l) ∧ (r.askAll l).cur = 0 := fun r l h => ⟨⟨fun _ => h, fun _ h2 => absurd h2 h⟩, by unfold Row.cur; rw [if_neg (fun e => h e.2)]⟩
  have key2 : ∀ (r : Row) (l : Int) (d : Ln), r.served.kind ≠ 0 → SInv (r.grant l d).1 ∧ (r.grant l d).1.cur = 0 := fun r l d h => by
    obtain ⟨g1, g2, g3⟩ := grant_cur (r := r) (l := l) (d := d)
    exact ⟨g3 h, by rw [g1]; unfold Row.cur; rw [if_neg (fun e => h e.2)]⟩
  have hu : (r.serve n w).unown.served.kind ≠ 0 := by unfold Row.unown; split <;> exact hk
  have hw := get_waits (r := r) (line := l) (m := m) (n := n) (w := w)
  refine (and_assoc (c := (r.get l m n w).1.waits = r.waits)).1 ⟨?_, hw⟩
  unfold Row.get
  simp only
  split
  · unfold Row.getM
    split
    · exact key (r.serve n w) _ hk
    · exact key2 (r.serve n w) _ _ hk
  · unfold Row.getS
    split
    · exact key _ _ hu
    · exact key2 _ _ _ hu
theorem begin_sw {k : Nat} {x : Lin} {j : Int → Int × Bool} (h : LInv k x.1) (hs : SInv x.1) :
    SInv (Lin.begin x k j).1.1 ∧ ((Lin.begin x k j).1.1.sw < x.1.sw → (Lin.begin x k j).2.2 = 0 ∧ (Lin.begin x k j).1.1.sw + 1 = x.1.sw ∧ (Lin.begin x k j).1.1.none') := by
  unfold Lin.begin
  split
  · exact ⟨hs, fun h => by simp at h⟩
  · rename_i hb
    have hb : x.1.busy = false := by simpa using hb
    have hg : x.1.granted = false := by
      cases hg : x.1.granted with
      | false => rfl
      | true => have := h.gb hg; rw [hb] at this; cases this
    have hc0 : x.1.cur = 0 := by unfold Row.cur; rw [if_neg (fun e => by rw [hb] at e; simp at e)]
    split
    · exact ⟨hs, fun h => by simp at h⟩
    · rename_i n w hw
      have hsw : x.1.sw = (if n.kind = 0 then 1 else 0) + w.countP isSw := by
        unfold Row.sw
        rw [hc0, hw, List.countP_cons]
        unfold isSw
        by_cases h : n.kind = 0 <;> simp [h] <;> omega
      simp only
      unfold Row.begun
      split
      · rename_i h3
        refine ⟨⟨hs.gk, fun hb' => ?_⟩, fun hlt => ?_⟩
        · have : x.1.busy = true := hb'
          rw [hb] at this; cases this
        · exfalso
          have hlt : x.1.cur + w.countP isSw < x.1.sw := hlt
          rw [hsw, hc0, if_neg (by omega)] at hlt
          omega
      · split
        · rename_i h12
          split
          · obtain ⟨a1, a2, a3⟩ := get_sinv (r := x.1.next w) (l := k) (m := x.2) (n := n) (w := (j n.world).1) hg (by omega)
            refine ⟨a1, fun hlt => ?_⟩
            exfalso
            have hlt : ((x.1.next w).get k x.2 n (j n.world).1).1.sw < x.1.sw := hlt
            unfold Row.sw at hlt
            have hsw' : x.1.cur + x.1.waits.countP isSw = (if n.kind = 0 then 1 else 0) + w.countP isSw := hsw
            rw [a2, a3, hsw', if_neg (by omega)] at hlt
            have : (x.1.next w).waits = w := rfl
            rw [this] at hlt
            omega
          · refine ⟨⟨hs.gk, fun hb' => ?_⟩, fun hlt => ?_⟩
            · have : x.1.busy = true := hb'
              rw [hb] at this; cases this
            · exfalso
              have hlt : x.1.cur + w.countP isSw < x.1.sw := hlt
              rw [hsw, hc0, if_neg (by omega)] at hlt
              omega
        · rename_i h3 h12
          have hk0 : n.kind = 0 := by
            have := (h.waits n (by rw [hw]; exact List.mem_cons_self)).2.2
            omega
          split
          · rename_i hf
            refine ⟨⟨hs.gk, fun hb' => ?_⟩, fun hlt => ⟨trivial, ?_, ?_⟩⟩
            · have : x.1.busy = true := hb'
              rw [hb] at this; cases this
            · show x.1.cur + w.countP isSw + 1 = x.1.sw
              rw [hsw, hc0, if_pos hk0]; omega
            · have hh := firstF_holds 4 0 hf
              have hno : ∀ i : Nat, i < 4 → ¬ (x.1.sh i = true ∨ (i : Int) = x.1.owner) := fun i hi ho => by
                have h1 := holds_of (r := x.1.next w) ho
                rw [hh i (by omega) (by omega)] at h1; cases h1
              refine ⟨?_, fun i hi => ?_, hb⟩
              · show x.1.owner = -1
                have := h.owner
                have e0 := hno 0 (by omega)
                have e1 := hno 1 (by omega)
                have e2 := hno 2 (by omega)
                have e3 := hno 3 (by omega)
                simp only [not_or, Int.ofNat_zero, Int.natCast_one, Int.cast_ofNat_Int] at e0 e1 e2 e3
                omega
              · show x.1.sh i = false
                have := fun e => hno i hi (.inl e)
                simpa using this
          · refine ⟨⟨fun hg' => ?_, fun _ _ i hi ho => ?_⟩, fun hlt => ?_⟩
            · have : x.1.granted = true := hg'
              rw [hg] at this; cases this
            · show ((x.1.asked i) || ((x.1.next w).holders (-1)).contains i) = true
              have := mem_holdersF (r := x.1.next w) (x := -1) 4 0 i (by omega) (by omega) (holds_of ho)
              have : i ∈ (x.1.next w).holders (-1) := this
              simp [this]
            · exfalso
              have hcur : (((x.1.next w).serve0 n).askAll ((x.1.next w).holders (-1))).cur = 1 := by unfold Row.cur; rw [if_pos ⟨rfl, hk0⟩]
              have hlt : (((x.1.next w).serve0 n).askAll ((x.1.next w).holders (-1))).cur + w.countP isSw < x.1.sw := hlt
              rw [hcur, hsw, if_pos hk0] at hlt
              omega
end Go.Hm
end
section
namespace Go.Proofs.YtagcnlaofkfpjaaDoor
open Go Go.Ab Go.Hm
def homSweeps (C : Cfg) (H : Hom) (l : Int) : Nat := if C.has l then (H l.toNat).1.sw else 0
def SwInv (H : Hom) : Prop := ∀ k, k < 4 → SInv (H k).1
theorem ans_swept {H : Hom} {i k : Nat} {o : Op} {j : Int → Int → Int × Bool} (hA : AInv H i) (hS : SwInv H) (hk : k < 4) :
    SInv ((homAns C0 H o j).1 k).1 ∧ (((homAns C0 H o j).1 k).1.sw < (H k).1.sw → (homAns C0 H o j).2.2 = 0 ∧ ((homAns C0 H o j).1 k).1.sw + 1 = (H k).1.sw ∧ ((homAns C0 H o j).1 k).1.none' ∧
      (o.ask = 0 → o.n.dirty = true → ((homAns C0 H o j).1 k).2 = (o.n.d0, o.n.d1))) := by
  by_cases hat : o.at = (k : Int)
  · have hl := (hA k hk).1
    have hs := hS k hk
    unfold Op.at at hat
    unfold homAns
    split
    · rename_i h0
      rw [if_pos h0] at hat
      unfold homTake
      split
      · exact ⟨hs, fun h => by simp at h⟩
      · rename_i ht
        split
        · rename_i hc
          have e : o.n.line.toNat = k := by omega
          rw [e, hat]
          dsimp only
          rw [updA_same]
          have hc3 : o.n.core < 3 := hc.1.2
          obtain ⟨a, b⟩ := take_sw (n := o.n) hl hs (by simpa using ht) ⟨hc.1.1, by omega⟩
          exact ⟨a, fun h => by obtain ⟨b1, b2, b3, b4⟩ := b h; exact ⟨b1, b2, b3, fun _ => b4⟩⟩
        · exact ⟨hs, fun h => by simp at h⟩
    · rename_i h0
      rw [if_neg h0] at hat
      split
      · unfold homSweep
        split
        · have e : o.line.toNat = k := by omega
          rw [e]
          dsimp only
          rw [updA_same]
          refine ⟨wait_sinv hs, fun h => ?_⟩
          have h : ((H k).1.wait (sweepN o.line)).sw < (H k).1.sw := h
          rw [wait_sw] at h
          omega
        · exact ⟨hs, fun h => by simp at h⟩
      · unfold homBegin
        split
        · have e : o.line.toNat = k := by omega
          rw [e, hat]
          dsimp only
          rw [updA_same]
          obtain ⟨a, b⟩ := begin_sw (j := fun w => j w k) hl hs
          exact ⟨a, fun h => by obtain ⟨b1, b2, b3⟩ := b h; exact ⟨b1, b2, b3, fun h => absurd h h0⟩⟩
        · exact ⟨hs, fun h => by simp at h⟩
  · rw [ans_other hat]
    exact ⟨hS k hk, fun h => by omega⟩
theorem neA2 {d : Ln} {k : Value → Prop} (hk : k (.bool false)) : thn (biA [0, 0] .neq (.agg ⟨lnE d⟩) (.agg ⟨lnE d⟩)) k := ⟨_, by simp [biA, cmpK, cmp1, eqn, lnE], hk⟩
attribute [local irreducible] thn Br ld1 ldN stV alc alcAt alcS alcSAt resv padd nilV extV part1 partN lenS lenT biI biT biB biP biS biF biE biA unV idxS idxA pickV appV copyV clearV slS slA slT mkS blkOf at1 atN atS convI convS minV maxV Cl OkF OkR EndX endV beginV defersOf setLoop closeMarks
variable {G : Bg} {h : AH} {L L' : List HP}
theorem old_idx {W n i : Nat} {v : Value} {at' : Nat → List Value} {k : Value → Prop} (ho : Old G W v n at') (hi : i < n) (hk : ∀ b o cells, Ob G b cells → (cells.drop o).take W = at' i → k (pt b o 0)) : thn (idxS W v (I i)) k := by
  obtain ⟨a, c, rfl, hall⟩ := ho
  obtain ⟨b, o, cells, rfl, hob, hc, hle⟩ := hall i hi
  refine r_idxN hi ?_
  have : pt b (o + i * W) 0 = pt b o (i * W) := by simp [pt]
  exact hk b (o + i * W) cells hob hc
theorem part_of {cells l : List Value} {o W j m : Nat} (h : (cells.drop o).take W = l) (hm : j + m ≤ W) : (cells.drop (o + j)).take m = (l.drop j).take m := by
  rw [← h, List.drop_take, List.take_take, List.drop_drop, Nat.min_eq_left (by omega)]
theorem cell_of {cells l : List Value} {o W j : Nat} (h : (cells.drop o).take W = l) (hm : j < W) : cells[o + j]? = l[j]? := by
  rw [← h, List.getElem?_take, if_pos hm, List.getElem?_drop]
theorem len_of {cells l : List Value} {o W : Nat} (h : (cells.drop o).take W = l) (hl : l.length = W) (h0 : 0 < W) : o + W ≤ cells.length := by
  rw [← h, List.length_take, List.length_drop] at hl; omega
theorem sweeps_loop {e : TypeId} {wa : Option Addr} {wc : Nat} {ns : List Note} {Q : Value → AH → Prop} {total : Nat} (hlen : ns.length < 2 ^ 40) (ht : total < 2 ^ 50) (hk : ∀ h' g, Hs G h' (slc 9 e wa wc (ns.length, encNs ns) :: g :: L) → Q (I total) h') :
    ∀ (f i many : Nat) (h : AH) (g : HP), i + f = ns.length → many + (ns.drop i).countP isSw = total → Hs G h (slc 9 e wa wc (ns.length, encNs ns) :: g :: L) → A21_4 Q (I many) (.slice wa ns.length wc) (I ns.length) (I i) h := by
  intro f
  induction f with
  | zero =>
    intro i many h g hi hm hs
    rw [List.drop_of_length_le (by omega)] at hm
    simp only [List.countP_nil, Nat.add_zero] at hm
    subst hm
    exact b21_4 (r_ltI (r_brF (by omega) (hk h g hs)))
  | succ f ih =>
    intro i many h g hi hm hs
    have hlt : i < ns.length := by omega
    have hat := encNs_at ns i ns[i] (List.getElem?_eq_getElem hlt)
    rw [List.drop_eq_getElem_cons hlt, List.countP_cons] at hm
    generalize ns[i] = n at hat hm
    refine b21_4 (r_ltI (r_brT (by omega) (b21_5 ?_)))
    obtain ⟨b, o, hwa, H, hs2, _⟩ := hs.slcOpen (by omega)
    rw [hwa]
    refine r_idxN hlt (r_ldNI hs2 (by decide) (l := n.enc) hat rfl (r_new hs ?_))
    clear hs2
    intro p h hs
    refine r_stW hs rfl rfl rfl rfl ?_
    intro h hs
    have hs3 := hs
    have hs : Hs G h (slc 9 e wa wc (ns.length, encNs ns) :: sp [seg p 0 n.enc, g] :: L) := hs.to
    rw [← hwa]
    refine r_padd (r_ld hs3 rfl (r_eqI (r_br (fun h0 => b21_6 (r_addI (by omega) (r_addI (by omega) ?_))) (fun h0 => b21_7 (r_addI (by omega) ?_)))))
    · rw [show isSw n = true by unfold isSw; rw [decide_eq_true h0], if_pos rfl] at hm
      exact ih (i + 1) (many + 1) h _ (by omega) (by omega) hs
    · rw [show isSw n = false by unfold isSw; rw [decide_eq_false h0], if_neg (by simp)] at hm
      exact ih (i + 1) many h _ (by omega) (by omega) hs
theorem sweeps_ok {C : Cfg} {hb : Nat} {H : Hom} {x : Int} {Q : Value → AH → Prop} (hw : ∀ l, l < C.lines → (H l).1.waits.length < 2 ^ 40) (hs : Hs G h L) [m : Has (homR G hb C) L H L'] (hk : ∀ h', Hs G h' (homR G hb C H :: L') → Q (I (homSweeps C H x : Nat)) h') :
    Cl Pr K 21 [pt hb 0 0, I x] h Q := by
  have hq := m.of hs
  obtain ⟨mb, b, o, cap, hs⟩ := hom_open (m.of hs)
  unfold homSweeps at hk
  refine c21 (b21_0 (has_ok hs (r_not (r_brn (r_br (fun h3 => b21_1 ?_) (fun h3 => ?_))))))
  · obtain ⟨l, rfl⟩ := Int.eq_ofNat_of_zero_le h3.1
    have hl : l < C.lines := by have := h3.2; omega
    rw [if_pos h3, Int.toNat_natCast] at hk
    have hwl := hw l hl
    obtain ⟨wa, wc, hs⟩ := rowR_open (row_out (H := H) (b := b) (o := o) hl hs)
    have fin : ∀ h' g, Hs G h' (slc 9 38 wa wc ((H l).1.waits.length, encNs (H l).1.waits) :: g :: seg b (o + l * 25) ((H l).1.enc wa wc) :: homX b o C.lines H l :: seg hb 0 (homE mb C b o cap) :: memN G C.lines mb C (fun i => (H i).2) :: hole G 25 73 (some ⟨b, o, none⟩) cap C.lines b o :: L') → Q (I ((H l).1.sw : Nat)) h' := fun h' g hs => by
      have hs := row_shut b (o + l * 25) (H l).1 wa wc hs rfl rfl rfl
      exact hk h' (hom_same (H := H) (hb := hb) (mb := mb) (b := b) (o := o) (cap := cap) (L := L') hl hs.to)
    have htot : (H l).1.sw < 2 ^ 50 := by
      have := List.countP_le_length (p := isSw) (l := (H l).1.waits)
      unfold Row.sw Row.cur; split <;> omega
    have loop : ∀ many : Nat, many = (H l).1.cur → A21_4 Q (I many) (.slice wa (H l).1.waits.length wc) (I (H l).1.waits.length) (I 0) h := fun many hm =>
      sweeps_loop (e := 38) hwl htot fin (H l).1.waits.length 0 many h (sp []) (by omega) (by rw [List.drop_zero, hm]; rfl) hs.to
    refine r_nilP (r_padd (r_ld hs rfl (r_idxN hl (r_nilP (r_padd (r_ld hs rfl (r_brb (fun hb1 => ?_) (fun hb1 => ?_))))))))
    · refine r_nilP (r_padd (r_padd (r_ld hs rfl (r_eqI (r_br (fun h1 => b21_2 ?_) (fun h1 => b21_3 ?_))))))
      · exact r_addI (by omega) (r_nilP (r_padd (r_ld hs rfl (r_lenS (loop 1 (by unfold Row.cur; rw [if_pos ⟨hb1, h1⟩]))))))
      · exact r_nilP (r_padd (r_ld hs rfl (r_lenS (loop 0 (by unfold Row.cur; rw [if_neg (fun e => h1 e.2)])))))
    · exact r_nilP (r_padd (r_ld hs rfl (r_lenS (loop 0 (by unfold Row.cur; rw [if_neg (fun e => by rw [hb1] at e; simp at e)])))))
  · rw [if_neg h3] at hk
    exact hk h hq
end Go.Proofs.YtagcnlaofkfpjaaDoor
end
section
namespace Go.Proofs.YtagcnlaofkfpjaaDoor
open Go Go.Ab Go.Hm
def wE (W : Nat → Int) : List Value := [I (W 0), I (W 1), I (W 2), I (W 3)]
theorem wE_at {W : Nat → Int} {k : Nat} (hk : k < 4) : (wE W)[0 + k * 1]? = some (I (W k)) := by
  have : k = 0 ∨ k = 1 ∨ k = 2 ∨ k = 3 := by omega
  rcases this with rfl | rfl | rfl | rfl <;> rfl
theorem wE_set {W : Nat → Int} {k : Nat} {v : Int} (hk : k < 4) : setL (wE W) (0 + k * 1) [I v] = wE (updA W k v) := by
  have : k = 0 ∨ k = 1 ∨ k = 2 ∨ k = 3 := by omega
  rcases this with rfl | rfl | rfl | rfl <;> rfl
theorem wE_len {W : Nat → Int} {k : Nat} (hk : k < 4) : Nat.ble (0 + k * 1 + 1) (wE W).length = true := by
  have : k = 0 ∨ k = 1 ∨ k = 2 ∨ k = 3 := by omega
  rcases this with rfl | rfl | rfl | rfl <;> rfl
attribute [local irreducible] thn Br ld1 ldN stV alc alcAt alcS alcSAt resv padd nilV extV part1 partN lenS lenT biI biT biB biP biS biF biE biA unV idxS idxA pickV appV copyV clearV slS slA slT mkS blkOf at1 atN atS convI convS minV maxV Cl OkF OkR EndX endV beginV defersOf setLoop closeMarks
variable {G : Bg} {h : AH} {L L' : List HP}
section
variable {t0 t3 : Value} {hb p1 : Nat} {H : Hom} {Q : Value → AH → Prop} {i : Nat}
theorem was_loop (hw : ∀ l, l < 4 → (H l).1.waits.length < 2 ^ 40) (hk : ∀ h' W, (∀ k, k < 4 → W k = ((H k).1.sw : Int)) → Hs G h' (homR G hb C0 H :: seg p1 0 (wE W) :: L) → A5_6 Q t0 t3 (pt hb 0 0) (I i) (pt p1 0 0) h') : ∀ (f k : Nat) (h : AH) (W : Nat → Int), k + f = 4 → (∀ j, j < k → W j = ((H j).1.sw : Int)) → Hs G h (homR G hb C0 H :: seg p1 0 (wE W) :: L) →
    A5_4 Q t0 t3 (pt hb 0 0) (I i) (pt p1 0 0) (I k) h := by
  intro f
  induction f with
  | zero =>
    intro k h W hf hW hs
    exact b5_4 (r_ltI (r_brF (by omega) (hk h W (fun k hk => hW k (by omega)) hs)))
  | succ f ih =>
    intro k h W hf hW hs
    have hk4 : k < 4 := by omega
    have hhas : C0.has (k : Int) := ⟨by omega, by show (k : Int) < 4; omega⟩
    refine b5_4 (r_ltI (r_brT (by omega) (b5_5 (sweeps_ok (C := C0) hw hs fun h hs => ?_))))
    have e : homSweeps C0 H k = (H k).1.sw := by unfold homSweeps; rw [if_pos hhas]; rfl
    rw [e]
    refine r_idxAn hk4 (r_sto hs rfl (wE_len hk4) rfl rfl ?_)
    intro h hs
    rw [wE_set hk4] at hs
    refine r_addI (by omega) (ih (k + 1) h (updA W k ((H k).1.sw : Int)) (by omega) (fun j hj => ?_) hs.to)
    by_cases e : j = k
    · subst e; exact updA_same
    · rw [updA_ne e]; exact hW j (by omega)
theorem look_loop {N : Nat} {o : Op} {H' : Hom} {W : Nat → Int} {ops : Nat → Op} {err : Int} (hlim : Ob G 0 limE) (hold : Old G 11 t0 N fun i => (ops i).enc) (hi : i < N) (ho : ops i = o) (hw : ∀ l, l < 4 → (H' l).1.waits.length < 2 ^ 40)
    (hs2 : ∀ k, k < 4 → ((H' k).1.sw : Int) < W k → err = 0 ∧ ((H' k).1.sw : Int) = W k - 1 ∧ (H' k).1.none' ∧ (o.ask = 0 → o.n.dirty = true → (H' k).2 = (o.n.d0, o.n.d1)))
    (hk : ∀ h' g, Hs G h' (homR G hb C0 H' :: seg p1 0 (wE W) :: g :: L) → A5_9 Q t0 t3 (pt hb 0 0) (I i) h') : ∀ (f k : Nat) (h : AH) (g : HP), k + f = 4 → Hs G h (homR G hb C0 H' :: seg p1 0 (wE W) :: g :: L) →
    A5_7 Q t0 t3 (pt hb 0 0) (I i) (pt p1 0 0) (I err) (I k) h := by
  intro f
  induction f with
  | zero =>
    intro k h g hf hs
    exact b5_7 (r_ltI (r_brF (by omega) (hk h g hs)))
  | succ f ih =>
    intro k h g hf hs
    have hk4 : k < 4 := by omega
    have hhas : C0.has (k : Int) := ⟨by omega, by show (k : Int) < 4; omega⟩
    have e : homSweeps C0 H' k = (H' k).1.sw := by unfold homSweeps; rw [if_pos hhas]; rfl
    refine b5_7 (r_ltI (r_brT (by omega) (b5_8 (r_resv hs ?_))))
    intro rv h hs
    have hs0 := hs
    refine sweeps_ok (C := C0) hw hs fun h hs => ?_
    rw [e]
    refine r_idxAn hk4 (r_ld hs (wE_at hk4) (r_geI (r_fl veq_I (r_fl (r_idxAn hk4 veq_P) (r_fl (r_ld hs0 (wE_at hk4) veq_I) (r_br (fun h1 => ?_) (fun h1 => ?_)))))))
    · exact b5_10 (r_addI (by omega) (ih (k + 1) h (sp [frK rv (7, []), g]) (by omega) hs.to))
    clear hs0
    obtain ⟨rfl, e2, ⟨e3, e4, e5⟩, e6⟩ := hs2 k hk4 (by omega)
    have hwho : homWho C0 H' k = ((H' k).1.owner, (H' k).1.sharers, 0) := by unfold homWho; rw [if_pos hhas]; rfl
    have hbz : homBusy C0 H' k = (H' k).1.busy := by unfold homBusy; rw [decide_eq_true hhas]; simp
    refine b5_11 (who_ok (C := C0) (H := H') hs fun v h hs => ?_)
    rw [hwho, sharers_nil e4, e3] at hs ⊢
    dsimp only at hs ⊢
    refine r_ext rfl (r_ext rfl (r_ext rfl ?_))
    obtain ⟨sa, sc, hv, hq⟩ := intsE hs
    clear hs
    subst hv
    have hs : Hs G h (homR G hb C0 H' :: seg p1 0 (wE W) :: sp [slc 1 3 sa sc ((natsI []).length, (natsI []).map I), frK rv (7, []), g] :: L) := hq.to
    clear hq
    generalize sp [slc 1 3 sa sc ((natsI []).length, (natsI []).map I), frK rv (7, []), g] = g at hs
    obtain ⟨mb, b, o', cap, hs⟩ := hom_open hs
    refine r_nilP (r_padd (r_ld hs rfl (read_ok (C := C0) C0_ok hlim hs hk4 fun h hs => ?_)))
    have hs := hom_end C0 H' hb mb b o' cap hs
    refine r_ext rfl (r_ext rfl (r_new hs ?_))
    intro pa h hs
    refine r_stW hs rfl rfl rfl rfl ?_
    intro h hs
    refine old_idx hold hi fun bo oo cells hob hcl => ?_
    rw [ho] at hcl
    have hlen := len_of hcl rfl (by omega)
    refine r_padd (r_ldNo hs hob (l := o.n.enc) ((part_of hcl (j := 1) (m := 9) (by omega)).trans rfl) rfl (by omega) (r_new hs ?_))
    intro pn h hs
    refine r_stW hs rfl rfl rfl rfl ?_
    intro h hs
    refine r_resv hs ?_
    intro rw' h hs
    refine r_neI (r_brF (by omega) (r_neI (r_brF (by omega) ?_)))
    have hs : Hs G h (homR G hb C0 H' :: seg p1 0 (wE W) :: seg pn 0 o.n.enc :: seg pa 0 (lnE (H' k).2) :: frK rw' (48, []) :: g :: L) := hs.to
    have hs9 := hs
    refine sweeps_ok (C := C0) hw hs fun h hs => ?_
    rw [e]
    refine r_idxAn hk4 (r_ld hs (wE_at hk4) (r_subI (by have := hw k hk4; have := List.countP_le_length (p := isSw) (l := (H' k).1.waits); unfold Row.sw Row.cur at e2; split at e2 <;> omega) (r_neI (r_brF (by omega) (r_neI (r_brF (by omega) (r_lenS (r_neI (r_brF (by simp [natsI]) ?_)))))))))
    refine busy_ok (C := C0) (H := H') hs fun hs => ?_
    rw [hbz, e5]
    refine r_brf (old_idx hold hi fun bo oo cells hob hcl => ?_)
    rw [ho] at hcl
    have hsub : -9223372036854775808 ≤ W k - 1 ∧ W k - 1 ≤ 9223372036854775807 := by
      have := hw k hk4; have := List.countP_le_length (p := isSw) (l := (H' k).1.waits); unfold Row.sw Row.cur at e2; split at e2 <;> omega
    have nx : A5_7 Q t0 t3 (pt hb 0 0) (I i) (pt p1 0 0) (I 0) (I ((k + 1 : Nat) : Int)) h := ih (k + 1) h (sp [seg pn 0 o.n.enc, seg pa 0 (lnE (H' k).2), frK rw' (48, []), g]) (by omega) hs.to
    refine r_padd (r_ldo hs hob ((cell_of hcl (j := 0) (by omega)).trans rfl) (r_eqI (r_br (fun h0 => ?_) (fun h0 => ?_))))
    · refine r_padd (r_ld hs rfl (r_brb (fun hd => ?_) (fun hd => ?_)))
      · refine r_ldN hs (by decide) (l := lnE (H' k).2) rfl rfl (r_padd (r_ldN hs (by decide) (l := lnE (o.n.d0, o.n.d1)) rfl rfl ?_))
        rw [e6 h0 hd]
        exact neA2 (r_fl veq_I (r_fl (r_idxAn hk4 veq_P) (r_fl (r_ld hs9 (wE_at hk4) veq_I) (r_fl (r_subI hsub veq_I) (r_brf (b5_10 (r_addI (by omega) nx)))))))
      · exact r_fl veq_I (r_fl (r_idxAn hk4 veq_P) (r_fl (r_ld hs9 (wE_at hk4) veq_I) (r_fl (r_subI hsub veq_I) (r_addI (by omega) nx))))
    · exact r_fl veq_I (r_fl (r_idxAn hk4 veq_P) (r_fl (r_ld hs9 (wE_at hk4) veq_I) (r_fl (r_subI hsub veq_I) (r_addI (by omega) nx))))
end
theorem swept_loop {t0 : Value} {hb p2 : Nat} {bits : Int} {N : Nat} {ops : Nat → Op} {Q : Value → AH → Prop} {j : Int → Int → Int × Bool} (hlim : Ob G 0 limE) (hj : Judges (.iface 24 (.agg ⟨[I bits]⟩)) j) (hN : N ≤ 80) (hold : Old G 11 t0 N fun i => (ops i).enc)
    (hk : ∀ h', Q (.bool true) h') : ∀ (f i : Nat) (h : AH) (H : Hom) (g : HP), i + f = N → AInv H i → SwInv H → Hs G h (homR G hb C0 H :: g :: seg p2 0 [I bits] :: L) →
      A5_2 Q t0 (pt p2 0 0) (pt hb 0 0) (I i) h := by
  intro f
  induction f with
  | zero =>
    intro i h H g hi hA hS hs
    exact b5_2 (old_len hold (r_ltI (r_brF (by omega) (awake_ok (hk _)))))
  | succ f ih =>
    intro i h H g hi hA hS hs
    refine b5_2 (old_len hold (r_ltI (r_brT (by omega) (b5_3 (r_new hs ?_)))))
    intro p1 h hs
    have hs : Hs G h (homR G hb C0 H :: seg p1 0 (wE fun _ => 0) :: g :: seg p2 0 [I bits] :: L) := (show Hs G h (seg p1 0 (wE fun _ => 0) :: homR G hb C0 H :: g :: seg p2 0 [I bits] :: L) from hs).to
    refine was_loop (L := g :: seg p2 0 [I bits] :: L) (fun l hl => by have := (hA l hl).2; omega) (fun h W hW hs => ?_) 4 0 h (fun _ => 0) rfl (fun j hj => by omega) hs
    refine b5_6 (r_resv hs ?_)
    intro rv h hs
    refine old_ld hold (by omega) rfl hs (r_ldN hs (by decide) (l := [I bits]) rfl rfl (answers_ok hlim hj (N := 1000) (by omega) (hA.h 1000 (by omega)) hs fun v h hs => ?_))
    refine r_ext rfl (r_ext rfl ?_)
    have hA' := ans_inv (o := ops i) (j := j) hA
    refine look_loop (L := seg p2 0 [I bits] :: L) (ops := ops) (o := ops i) (H' := (homAns C0 H (ops i) j).1) (W := W) hlim hold (by omega) rfl (fun l hl => by have := (hA' l hl).2; omega) (fun k hk4 hlt => ?_) (fun h g hs => ?_) 4 0 h (sp [notesR v (homAns C0 H (ops i) j).2.1, frK rv (12, []), g]) rfl hs.to
    · rw [hW k hk4] at hlt ⊢
      obtain ⟨a, b, c, d⟩ := (ans_swept (o := ops i) (j := j) hA hS hk4).2 (by omega)
      exact ⟨a, by omega, c, d⟩
    · exact b5_9 (r_addI (by omega) (ih (i + 1) h _ (sp [seg p1 0 (wE W), g]) (by omega) hA' (fun k hk4 => (ans_swept (o := ops i) (j := j) hA hS hk4).1) hs.to))
theorem swept_ok {t0 : Value} {bits : Int} {N : Nat} {ops : Nat → Op} {Q : Value → AH → Prop} {j : Int → Int → Int × Bool} (hlim : Ob G 0 limE) (hj : Judges (.iface 24 (.agg ⟨[I bits]⟩)) j) (hold : Old G 11 t0 N fun i => (ops i).enc) (hs : Hs G h L)
    (hk : ∀ h', Q (.bool true) h') : Cl Pr K 5 [t0, .agg ⟨[I bits]⟩] h Q := by
  refine c5 (b5_0 (r_bx hs ?_))
  intro p2 h hs
  refine small_ok hs fun h hs => homeNew_ok C0_ok hlim hs fun hb h hs => ?_
  refine r_ext rfl (r_ext rfl (r_ptEq (r_brf (r_neI (r_brF (by omega) (old_len hold (r_gtI (r_br (fun h1 => ?_) (fun h1 => ?_)))))))))
  · exact r_ptNe (r_brt (r_eqI (r_brT rfl (awake_ok (hk _)))))
  · refine b5_1 (swept_loop (L := L) hlim hj (by omega) hold hk N 0 h (homM C0.lines) (sp []) (by omega) AInv0 (fun k hk4 => ?_) hs.to)
    have : (homM C0.lines k).1 = row0 := by unfold homM; rw [if_pos (show k < C0.lines from hk4)]
    rw [this]
    exact SInv0
end Go.Proofs.YtagcnlaofkfpjaaDoor
end
section
namespace Go.Proofs.YtagcnlaofkfpjaaDoor
open Go Go.Ab Go.Hm Go.RowKit
set_option maxRecDepth 100000 in
theorem homeSwept_lifted (os : Os) (started : os.Started) (H : Type) (enc : TypeId × Value → H) :
    ReturnsInHanded {} Tryd.checked os 5 .any (fun w args => (Rows.homeSweptSpec.pre enc Tryd.prog Tryd.f5 [] false w args ∧ laidMetH Tryd.prog [("donjon/place.limits", Rows.laid_donjon_place_limits)] w) ∧ sizedMet enc Tryd.prog Tryd.f5 (OpenSpec.ofChange Rows.homeSweptSpec) false w args)
      (Rows.homeSweptSpec.post enc Tryd.prog Tryd.f5 false true false false) := by
  refine law_lifted (C := Tryd.checked) started own (by kernel_rfl) Tryd.func5 laidOut (by kernel_rfl) rfl Tryd.underlying4 rfl (fun ds hd => by
      match ds, hd with
      | [d1, d2], _ => rfl)
    (ChangeSpec.witness_shaped (enc := enc) (C := Tryd.checked) (os := os) (X := fun w _ => laidMetH Tryd.prog [("donjon/place.limits", Rows.laid_donjon_place_limits)] w) false (World.doorLaid Tryd.prog 400 os) #[.slice none 0 0, .agg #[.int .i64 0]] 8 rfl (World.shaped_of_RefB (by kernel_rfl) (by kernel_rfl)) (by kernel_rfl) (by kernel_rfl) (by kernel_rfl) (door_met os _)) ?_
  intro W base args ds ps hA hval hL
  rw [show (Tryd.f5.params.toList) = [22, 24] from by rw [Tryd.params5]] at hA
  rw [Tryd.params5] at hval
  obtain ⟨v0, vs0, d0, ds0, p0, q0, rfl, rfl, rfl, h0, r0⟩ := ChangeShapes.trodAll_cons hA
  obtain ⟨v1, vs1, d1, ds1, p1, q1, rfl, rfl, rfl, h1, r1⟩ := ChangeShapes.trodAll_cons r0
  obtain ⟨rfl, rfl, rfl⟩ := ChangeShapes.trodAll_nil r1
  obtain ⟨a, len, cap, rfl, hrow⟩ := open_rowF Tryd.underlying22 opFlat opCells (by decide) (hval 0 _ v0 rfl rfl) h0
  obtain ⟨l1, rfl, hl1⟩ := open_structF Tryd.underlying24 ruleFlat (hval 1 _ v1 rfl rfl) h1
  obtain ⟨x1, rfl⟩ := rule_of hl1
  exact calls_law (lim_of hL) hrow (more := [.agg ⟨[I x1]⟩]) (fun ρ => plainL_rel _ rfl) fun G h t ops hlim hold hs => swept_ok hlim (judges x1) hold hs (fun _ => rfl)
theorem homeSwept_over : Rows.homeSweptRow.holds Tryd.pinned (OpenSpec.ofChange Rows.homeSweptSpec) :=
  OpenClaim.holds_of_wide 5 Tryd.f5 rfl rfl rfl rfl rfl rfl rfl ⟨rfl, rfl, rfl, rfl, rfl⟩ rfl rfl rfl rfl rfl (by kernel_rfl) Tryd.func5 (by kernel_rfl)
    (of_decide_eq_true (by kernel_rfl)) (by unfold Func.isWrapper; first | (rw [if_pos (by decide +kernel)]; kernel_rfl) | (rw [if_neg (by decide +kernel)]; exact ⟨rfl, rfl⟩))
    (fun os started H enc _ => homeSwept_lifted os started H enc)
/-- ████ THE STATEMENT ████ -/
theorem homeSwept_proved : Rows.HomeSweptCardSaid :=
  Claim7.holds_tied_plain_at .later [] [.data] true Rows.homeSweptCard.stood.harness false
    homeSwept_over (fun _ h => by cases h) (by kernel_rfl) (fun _ h => by cases h) homeSwept_row_tie rfl ⟨rfl, rfl⟩ (by kernel_rfl) rfl
    (fun f fn hf hfn => by
      obtain rfl : f = 5 := Option.some.inj ((show Tryd.prog.funcNamed "donjon/donjonlaw12.HomeSwept" = some 5 by kernel_rfl).symm.trans hf) |>.symm
      obtain rfl : fn = Tryd.f5 := (Option.some.inj (Tryd.func5.symm.trans hfn)).symm
      exact ⟨by kernel_rfl, fun j t ht => by
        rw [Tryd.params5] at ht
        have hm : t ∈ [22, 24] := by simpa using Array.mem_of_getElem? ht
        have hall : ([22, 24].all fun u => !Tryd.prog.wantsStandIn u) = true := by kernel_rfl
        exact (show Tryd.prog.wantsStandIn t = false by simpa using List.all_eq_true.1 hall t hm)⟩)
    (by kernel_rfl)
end Go.Proofs.YtagcnlaofkfpjaaDoor
end
