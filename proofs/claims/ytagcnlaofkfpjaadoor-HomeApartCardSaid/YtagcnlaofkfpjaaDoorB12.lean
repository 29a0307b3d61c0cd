/- HomeApart: for every input the law answers true, and each argument reads afterwards as it read before. No condition but the listed variable's text. -/
import Derived.Test.YtagcnlaofkfpjaaDoorB9
import Derived.Test.YtagcnlaofkfpjaaDoorB8
import Derived.Test.YtagcnlaofkfpjaaDoorB10
import Derived.WalkKit
import Derived.ProofKit
import Derived.OpenShut
import Derived.ChangeOld
import Derived.Below
import Derived.Test.YtagcnlaofkfpjaaDoorTie
import Derived.Test.YtagcnlaofkfpjaaDoorCards
import Derived.LaidMore
import Derived.SevenTiedAt
section
namespace Go.Proofs.YtagcnlaofkfpjaaDoor
open Go Go.Ab Go.Hm Go.RowKit
/-- the listed variable -/
def Lim (w : World) : Prop := ∃ e fz, w.heap[0]? = some (.cells ⟨limE⟩ e fz)
theorem lim_gl {w : World} {e : TypeId} {fz : Nat × Nat} (h : w.heap[0]? = some (.cells ⟨limE⟩ e fz)) : GlOk Pr 1 (glB e fz) w := by
  intro i o hi ho
  have : i = 0 := by omega
  subst this
  simp only [glB, if_true, Option.some.injEq] at ho
  subst ho
  refine ⟨_, h, fun ρ => ⟨⟨limE⟩, rfl, ?_, by simp, fun _ => rfl⟩⟩
  rw [List.drop_zero, List.take_of_length_le (by simp)]
  exact plainL_rel _ (by rfl)
theorem lim_keep {B : Nat} (hB : 0 < B) {w w' : World} (h : Below B w w') : Lim w → Lim w' := fun ⟨e, fz, hh⟩ => ⟨e, fz, (h.block 0 hB).trans hh⟩
noncomputable def ctx0 (B : Nat) (hB : 0 < B) : Ctx Pr B K0 where
  G := Lim
  keep := fun w w' h => lim_keep hB h
  call := fun f args v w hk => by
    unfold K0 at hk
    split at hk <;> cases hk
  fwd := fun f args g bs hk ρ args' w ha hg => by
    unfold K0 at hk
    split at hk
    · rename_i v x l
      cases hk
      simp only [LRel] at ha
      obtain ⟨_, _, hv, ⟨x', _, hx, ⟨l', _, hl, rfl, rfl⟩, rfl⟩, rfl⟩ := ha
      simp only [VRel] at hv
      obtain ⟨v', hv, rfl⟩ := hv
      refine ⟨[v', x', l'], (w.alloc (.cells #[.int .i64 0] 3)).alloc (.cells #[.bool false] 4), LRel.cons hv (LRel.cons hx (LRel.cons hl rfl)), ((Below.refl _ _).alloc (Nat.le_refl _) _).alloc (by simp) _, fun a S hok hc => ?_⟩
      unfold fwdOk at hok
      split at hok
      · rename_i n b
        have hsz : ((w.alloc (.cells #[.int .i64 0] 3)).alloc (.cells #[.bool false] 4)).heap.size = w.heap.size + 2 := by simp
        rw [hsz]
        exact judged_fwd v' x' l' w S n b hc
      · cases hok
    · cases hk
theorem globals1 : Pr.globals.size = 1 := by kernel_rfl
theorem awake_calls {w : World} (hs : 0 < w.heap.size) (hg : Lim w) : Calls Pr 9 #[] w fun e w' => e = .returned (.bool true) ∧ Below w.heap.size w w' := by
  obtain ⟨e, fz, hh⟩ := hg
  exact closed_call rfl (awake_run e fz) (ctx0 w.heap.size hs) ⟨e, fz, hh⟩ (reads_of (gl := glB e fz) (rs := []) (g := 1) (by rw [globals1]; exact Nat.le_refl _) hs (lim_gl hh) (fun r hr => by cases hr))
noncomputable def ctx (B : Nat) (hB : 0 < B) : Ctx Pr B K := (ctx0 B hB).add 9 (.bool true) rfl fun w hg => by
  have hg' := hg
  obtain ⟨e, fz, hh⟩ := hg'
  exact awake_calls (Array.getElem?_eq_some_iff.1 hh).1 hg
end Go.Proofs.YtagcnlaofkfpjaaDoor
end
section
namespace Go.Proofs.YtagcnlaofkfpjaaDoor
open Go Go.Ab Go.Hm Go.RowKit
theorem own : ownKnob Tryd.prog.godebug = none := by kernel_rfl
theorem laidOut : laidOutB Tryd.prog = true := by kernel_rfl
def opKs : List (Option IntKind) := [some .i64, some .i64, some .i64, some .i64, some .i64, some .i64, some .i64, some .i64, none, some .i64, some .i64]
theorem opFlat : flatT Tryd.prog 8 40 = some opKs := by kernel_rfl
theorem opCells : Tryd.prog.cellsOf 40 = opKs.length := by kernel_rfl
theorem op_of {l : List Value} (h0 : Flat opKs l) : ∃ o : Op, l = o.enc := by
  obtain ⟨a, l1, e1, h1⟩ := flat_int h0
  obtain ⟨b, l2, e2, h2⟩ := flat_int h1
  obtain ⟨c, l3, e3, h3⟩ := flat_int h2
  obtain ⟨d, l4, e4, h4⟩ := flat_int h3
  obtain ⟨e, l5, e5, h5⟩ := flat_int h4
  obtain ⟨f, l6, e6, h6⟩ := flat_int h5
  obtain ⟨g, l7, e7, h7⟩ := flat_int h6
  obtain ⟨i, l8, e8, h8⟩ := flat_int h7
  obtain ⟨j, l9, e9, h9⟩ := flat_bool h8
  obtain ⟨k, l10, e10, h10⟩ := flat_int h9
  obtain ⟨m, l11, e11, h11⟩ := flat_int h10
  have e12 := flat_nil h11
  subst e12 e11 e10 e9 e8 e7 e6 e5 e4 e3 e2 e1
  exact ⟨⟨a, ⟨b, c, d, e, f, g, i, j, k⟩, m⟩, rfl⟩
theorem ruleFlat : flatT Tryd.prog 8 24 = some [some .i64] := by kernel_rfl
theorem rule_of {l : List Value} (h : Flat [some .i64] l) : ∃ b : Int, l = [I b] := by
  obtain ⟨a, l1, e1, h1⟩ := flat_int h
  have e2 := flat_nil h1
  subst e2 e1
  exact ⟨a, rfl⟩
theorem gLim : Tryd.prog.globalNamed "donjon/place.limits" = some 0 := by kernel_rfl
theorem tLim : (Tryd.prog.globals[0]?).map (·.type) = some 104 := by kernel_rfl
theorem lim_of {W : World} (h : laidMetH Tryd.prog [("donjon/place.limits", Rows.laid_donjon_place_limits)] W) : Lim W :=
  laid_block (l := limE) 8 (by kernel_rfl) h (List.mem_singleton.2 rfl) gLim tLim (by kernel_rfl)
theorem door_met (os : Os) (args : Array Value) : laidMetH Tryd.prog [("donjon/place.limits", Rows.laid_donjon_place_limits)] ((World.doorLaid Tryd.prog 400 os).forCall (fun _ _ => 0) ⟨#[], args, []⟩).memory :=
  laidMetH_of_parts3 (fuel := 8) (laidMet_of_run' 8 (by kernel_rfl) (by kernel_rfl)) (by kernel_rfl) (by kernel_rfl)
/-- WHAT A LAW'S CALL IS: of what was there nothing turns. -/
theorem calls_law {W : World} (hL : Lim W) {a : Option Addr} {len cap : Nat} (hrow : FlatRow opKs W a len cap) {f : FuncId} {more more' : List Value} (hmore : ∀ ρ, LRel ρ more more')
    (hok : ∀ (G : Bg) (h : AH) (t : Value) (ops : Nat → Op), Ob G 0 limE → Old G 11 t len (fun i => (ops i).enc) → Hs G h [] → Cl Pr K f (t :: more) h fun v _ => v = .bool true) :
    Calls Pr f ⟨.slice a len cap :: more'⟩ W fun e W' => e = .returned (.bool true) ∧ Below W.heap.size W W' := by
  obtain ⟨r, t, hr, hv, at', hflat, hold⟩ := row_old Pr hrow
  have hL' := hL
  obtain ⟨e, fz, hh⟩ := hL
  have h0 : 0 < W.heap.size := (Array.getElem?_eq_some_iff.1 hh).1
  have reads : Reads Pr (1 + [r].length) (oldOf 1 (glB e fz) [r]) (rhoOf 1 [r]) W := reads_of (by rw [globals1]; exact Nat.le_refl _) h0 (lim_gl hh) (fun x hx => by rw [List.mem_singleton.1 hx]; exact hr)
  have hop : ∀ i, ∃ o : Op, i < len → at' i = o.enc := fun i => by
    by_cases hi : i < len
    · obtain ⟨o, ho⟩ := op_of (hflat i hi); exact ⟨o, fun _ => ho⟩
    · exact ⟨⟨0, Note.zero, 0⟩, fun h => absurd h hi⟩
  have hO := hold ⟨2, oldOf 1 (glB e fz) [r]⟩ 1 (by show 1 < 2; omega) (oldOf_at (g := 1) (i := 0) (gl := glB e fz) (rs := [r]) rfl)
  have ok := hok ⟨2, oldOf 1 (glB e fz) [r]⟩ (Go.Ab.start 2 (oldOf 1 (glB e fz) [r])) (t 1) (fun i => (hop i).choose) ⟨by show 0 < 2; omega, e, fz, true, (oldOf_gl (g := 1) (i := 0) (gl := glB e fz) (rs := [r]) (by omega)).trans rfl⟩ (by
    obtain ⟨a', c', h1, h2⟩ := hO
    refine ⟨a', c', h1, fun i hi => ?_⟩
    obtain ⟨b, o, cells, k1, k2, k3, k4⟩ := h2 i hi
    exact ⟨b, o, cells, k1, k2, k3.trans ((hop i).choose_spec hi), k4⟩) hs_start
  have := calls_of (ctx W.heap.size h0) hL' reads (args := t 1 :: more) (args' := .slice a len cap :: more') (LRel.cons (hv _ 1 (rhoOf_at (g := 1) (i := 0) (rs := [r]) rfl)) (hmore _)) ok
  intro cs
  obtain ⟨e, w', fr, ⟨ρ', o, h', v', he, hv', hq, _, hb⟩, hx⟩ := this cs
  rw [hq] at hv'
  simp only [VRel] at hv'
  exact ⟨e, w', fr, ⟨by rw [he, hv'], hb⟩, hx⟩
end Go.Proofs.YtagcnlaofkfpjaaDoor
end
section
namespace Go.Proofs.YtagcnlaofkfpjaaDoor
open Go Go.Ab Go.Hm
/-- what a call answers -/
def homAns (C : Cfg) (H : Hom) (o : Op) (j : Int → Int → Int × Bool) : Hom × List Note × Int :=
  if o.ask = 0 then homTake C H o.n else if o.ask = 1 then ((homSweep C H o.line).1, [], (homSweep C H o.line).2) else homBegin C H o.line (fun w => j w o.line)
def Op.at (o : Op) : Int := if o.ask = 0 then o.n.line else o.line
def AInv (H : Hom) (i : Nat) : Prop := ∀ k, k < 4 → LInv k (H k).1 ∧ (H k).1.waits.length ≤ i
def rws (H : Hom) (k : Nat) : List Note := (H k).1.waits.map Note.face
theorem AInv.o {H : Hom} {i : Nat} (h : AInv H i) : OInv H (rws H) i := fun k hk => ⟨(h k hk).1, rfl, (h k hk).2⟩
theorem ainv_of {H : Hom} {R : Nat → List Note} {i : Nat} (h : OInv H R i) : AInv H i := fun k hk => ⟨(h k hk).1, (h k hk).2.2⟩
theorem AInv.h {H : Hom} {i : Nat} (h : AInv H i) (N : Nat) (hN : i ≤ N) : HInv C0 H N := h.o.h N hN
theorem ans_inv {H : Hom} {i : Nat} {o : Op} {j : Int → Int → Int × Bool} (h : AInv H i) : AInv (homAns C0 H o j).1 (i + 1) := by
  unfold homAns
  split
  · have := take_order (n := o.n) h.o
    by_cases hc : (homTake C0 H o.n).2.2 = 0 ∧ (o.n.kind = 1 ∨ o.n.kind = 2 ∨ o.n.kind = 3)
    · exact ainv_of (this.1 hc).2
    · exact ainv_of (this.2 hc)
  · split
    · have := sweep_order (l := o.line) h.o
      by_cases hc : (homSweep C0 H o.line).2 = 0
      · exact ainv_of (this.1 hc).2
      · exact ainv_of (this.2 hc)
    · have := begin_order (l := o.line) (j := fun w => j w o.line) h.o
      by_cases hc : (homBegin C0 H o.line (fun w => j w o.line)).2.2 = 0
      · obtain ⟨_, _, n, w, _, h1, _⟩ := this.2 hc
        exact ainv_of h1
      · exact ainv_of (this.1 hc).2.1
theorem ans_other {H : Hom} {k : Nat} {o : Op} {j : Int → Int → Int × Bool} (h : o.at ≠ (k : Int)) : (homAns C0 H o j).1 k = H k := by
  unfold Op.at at h
  unfold homAns
  split
  · rename_i h0
    rw [if_pos h0] at h
    unfold homTake
    split
    · rfl
    · split
      · rename_i hc
        exact updA_ne (by have := hc.2.1; omega)
      · rfl
  · rename_i h0
    rw [if_neg h0] at h
    split
    · unfold homSweep
      split
      · rename_i hc
        exact updA_ne (by have := hc.1; omega)
      · rfl
    · unfold homBegin
      split
      · rename_i hc
        exact updA_ne (by have := hc.1; omega)
      · rfl
theorem ans_same {A B : Hom} {k : Nat} {o : Op} {j : Int → Int → Int × Bool} (h : o.at = (k : Int)) (he : A k = B k) : (homAns C0 A o j).1 k = (homAns C0 B o j).1 k ∧ (homAns C0 A o j).2 = (homAns C0 B o j).2 := by
  unfold Op.at at h
  unfold homAns
  split
  · rename_i h0
    rw [if_pos h0] at h
    unfold homTake
    split
    · exact ⟨he, rfl⟩
    · split
      · rw [show o.n.line.toNat = k by omega, he]
        exact ⟨by dsimp only; rw [updA_same, updA_same], rfl⟩
      · exact ⟨he, rfl⟩
  · rename_i h0
    rw [if_neg h0] at h
    split
    · unfold homSweep
      split
      · rw [show o.line.toNat = k by omega, he]
        exact ⟨by dsimp only; rw [updA_same, updA_same], rfl⟩
      · exact ⟨he, rfl⟩
    · unfold homBegin
      split
      · rw [show o.line.toNat = k by omega, he]
        exact ⟨by dsimp only; rw [updA_same, updA_same], rfl⟩
      · exact ⟨he, rfl⟩
theorem neA_note {n : Note} {k : Value → Prop} (hk : k (.bool false)) : thn (biA [0, 0, 0, 0, 0, 0, 0, 1, 0] .neq (.agg ⟨n.enc⟩) (.agg ⟨n.enc⟩)) k := ⟨_, by simp [biA, cmpK, cmp1, eqn, Note.enc], hk⟩
attribute [local irreducible] thn Br ld1 ldN stV alc alcAt alcS alcSAt resv padd nilV extV part1 partN lenS lenT biI biT biB biP biS biF biE biA unV idxS idxA pickV appV copyV clearV slS slA slT mkS blkOf at1 atN atS convI convS minV maxV Cl OkF OkR EndX endV beginV defersOf setLoop closeMarks
variable {G : Bg} {h : AH} {L L' : List HP}
theorem answers_ok {hb : Nat} {H : Hom} {o : Op} {bits : Int} {j : Int → Int → Int × Bool} {N : Nat} {Q : Value → AH → Prop} (hlim : Ob G 0 limE) (hj : Judges (.iface 24 (.agg ⟨[I bits]⟩)) j) (hN : N ≤ 1000) (hi : HInv C0 H N) (hs : Hs G h L) [m : Has (homR G hb C0) L H L']
    (hk : ∀ v h', Hs G h' (notesR v (homAns C0 H o j).2.1 :: homR G hb C0 (homAns C0 H o j).1 :: L') → Q (.tuple ⟨[v, I (homAns C0 H o j).2.2]⟩) h') : Cl Pr K 17 [pt hb 0 0, .agg ⟨o.enc⟩, .agg ⟨[I bits]⟩] h Q := by
  refine c17 (b17_0 (r_bx (m.of hs) ?_))
  intro p2 h hs
  refine r_bx hs ?_
  intro p5 h hs
  unfold homAns at hk
  refine r_padd (r_ld hs rfl (r_eqI (r_br (fun h1 => ?_) (fun h1 => b17_1 (r_eqI (r_br (fun h2 => ?_) (fun h2 => ?_)))))))
  · rw [if_pos h1] at hk
    refine r_padd (r_ldN hs (by decide) (l := o.n.enc) rfl rfl (take_ok C0_ok hlim (fun l hl => ⟨(hi l hl).1, by have := (hi l hl).2; omega⟩) hs fun v h hs => ?_))
    exact r_ext rfl (r_ext rfl (hk v h hs.to))
  · rw [if_neg h1, if_pos h2] at hk
    refine r_padd (r_ld hs rfl (sweep_ok (C := C0) (fun l hl => ⟨(hi l hl).1, by have := (hi l hl).2; omega⟩) hs fun h hs => ?_))
    exact hk _ h (notes0 hs).to
  · rw [if_neg h1, if_neg h2] at hk
    refine r_padd (r_ld hs rfl (r_ldN hs (by decide) (l := [I bits]) rfl rfl (begin_ok C0_ok hlim hj hi hs fun v h hs => ?_)))
    exact r_ext rfl (r_ext rfl (hk v h hs.to))
theorem notes_same {v w : Value} {ns : List Note} {Q : Value → AH → Prop} (hlen : ns.length < 2 ^ 40) (hs : Hs G h (notesR v ns :: notesR w ns :: L)) (hk : ∀ h', Hs G h' (notesR v ns :: notesR w ns :: L) → Q (.bool true) h') : Cl Pr K 18 [v, w] h Q := by
  obtain ⟨a, c, hv, hq⟩ := notesE hs
  obtain ⟨a2, c2, hw, hr⟩ := notesE hq.at2
  clear hs hq
  subst hv hw
  refine c18 (b18_0 (r_lenS (r_lenS (r_neI (r_brF (by simp) (b18_1 ?_))))))
  have loop : ∀ (f i : Nat) (h : AH) (g : HP), i + f = ns.length → Hs G h (slc 9 38 a2 c2 (ns.length, encNs ns) :: slc 9 38 a c (ns.length, encNs ns) :: g :: L) →
      A18_2 Q (.slice a ns.length c) (.slice a2 ns.length c2) (I i) h := by
    intro f
    induction f with
    | zero =>
      intro i h g hi hs
      exact b18_2 (r_lenS (r_ltI (r_brF (by omega) (hk h (notesI rfl rfl (notesI rfl rfl hs).at2).to))))
    | succ f ih =>
      intro i h g hi hs
      have hlt : i < ns.length := by omega
      have hat := encNs_at ns i ns[i] (List.getElem?_eq_getElem hlt)
      refine b18_2 (r_lenS (r_ltI (r_brT (by omega) (b18_3 (r_resv hs ?_)))))
      intro rv h hs
      have hs : Hs G h (slc 9 38 a2 c2 (ns.length, encNs ns) :: slc 9 38 a c (ns.length, encNs ns) :: sp [frK rv (9, []), g] :: L) := hs.to
      obtain ⟨b2, o2, rfl, H2, hs2, _⟩ := hs.slcOpen (by omega)
      obtain ⟨b, o, rfl, H, hs1, _⟩ := hs.at2.slcOpen (by omega)
      refine r_idxN hlt (r_ldNI hs1 (by decide) (l := ns[i].enc) hat rfl (r_idxN hlt (r_ldNI hs2 (by decide) (l := ns[i].enc) hat rfl (neA_note (r_brf (b18_4 (r_addI (by omega) (ih (i + 1) h _ (by omega) hs))))))))
  exact loop ns.length 0 h (sp []) (by omega) hr.to
theorem ints_same {v w : Value} {l : List Int} {Q : Value → AH → Prop} (hlen : l.length < 2 ^ 40) (hs : Hs G h (intsR 3 v l :: intsR 3 w l :: L)) (hk : ∀ h', Hs G h' L → Q (.bool true) h') : Cl Pr K 20 [v, w] h Q := by
  obtain ⟨a, c, hv, hq⟩ := intsE hs
  obtain ⟨a2, c2, hw, hr⟩ := intsE hq.at2
  clear hs hq
  subst hv hw
  refine c20 (b20_0 (r_lenS (r_lenS (r_neI (r_brF (by simp) (b20_1 ?_))))))
  have loop : ∀ (f i : Nat) (h : AH) (g : HP), i + f = l.length → Hs G h (slc 1 3 a2 c2 (l.length, l.map I) :: slc 1 3 a c (l.length, l.map I) :: g :: L) →
      A20_2 Q (.slice a l.length c) (.slice a2 l.length c2) (I i) h := by
    intro f
    induction f with
    | zero =>
      intro i h g hi hs
      exact b20_2 (r_lenS (r_ltI (r_brF (by omega) (hk h hs.to))))
    | succ f ih =>
      intro i h g hi hs
      have hlt : i < l.length := by omega
      have hat : (l.map I)[i * 1 + 0]? = some (I l[i]) := by rw [Nat.mul_one, Nat.add_zero, List.getElem?_map, List.getElem?_eq_getElem hlt]; rfl
      refine b20_2 (r_lenS (r_ltI (r_brT (by omega) (b20_3 (r_resv hs ?_)))))
      intro rv h hs
      have hs : Hs G h (slc 1 3 a2 c2 (l.length, l.map I) :: slc 1 3 a c (l.length, l.map I) :: sp [frK rv (9, []), g] :: L) := hs.to
      obtain ⟨b2, o2, rfl, H2, hs2, _⟩ := hs.slcOpen (by omega)
      obtain ⟨b, o, rfl, H, hs1, _⟩ := hs.at2.slcOpen (by omega)
      refine r_idxN hlt (r_ldI hs1 hat (r_idxN hlt (r_ldI hs2 hat (r_neI (r_brF (by simp) (b20_4 (r_addI (by omega) (ih (i + 1) h _ (by omega) hs))))))))
  exact loop l.length 0 h (sp []) (by omega) hr.to
end Go.Proofs.YtagcnlaofkfpjaaDoor
end
section
namespace Go.Proofs.YtagcnlaofkfpjaaDoor
open Go Go.Ab Go.Hm
theorem eqA2 {d : Ln} {k : Value → Prop} (hk : k (.bool true)) : thn (biA [0, 0] .eql (.agg ⟨lnE d⟩) (.agg ⟨lnE d⟩)) k := ⟨_, by simp [biA, cmpK, cmp1, eqn, lnE], hk⟩
theorem r_eqBs {b : Bool} {k : Value → Prop} (hk : k (.bool true)) : thn (biB .eql (.bool b) (.bool b)) k := ⟨_, by simp [biB, eqn], hk⟩
theorem reply_len {x : Lin} {l : Int} {n : Note} : (Lin.reply x l n).2.length ≤ 4 := by
  unfold Lin.reply Row.rest
  simp only
  split
  · split
    · simp
    · exact grant_len
  · simp
theorem ans_len {A : Hom} {o : Op} {j : Int → Int → Int × Bool} : (homAns C0 A o j).2.1.length ≤ 4 := by
  unfold homAns
  split
  · unfold homTake
    split
    · simp
    · split
      · unfold Lin.take
        split
        · split <;> simp
        · split
          · split
            · simp
            · exact reply_len
          · simp
      · simp
  · split
    · simp
    · exact homBegin_len
attribute [local irreducible] thn Br ld1 ldN stV alc alcAt alcS alcSAt resv padd nilV extV part1 partN lenS lenT biI biT biB biP biS biF biE biA unV idxS idxA pickV appV copyV clearV slS slA slT mkS blkOf at1 atN atS convI convS minV maxV Cl OkF OkR EndX endV beginV defersOf setLoop closeMarks
variable {G : Bg} {h : AH} {L L' : List HP}
section
variable {ha hb p2 : Nat} {bits : Int} {A B : Hom} {Q : Value → AH → Prop} {k : Nat}
theorem apart_end (hlim : Ob G 0 limE) (hk4 : k < 4) (he : A k = B k) {g : HP} (hs : Hs G h (homR G ha C0 A :: homR G hb C0 B :: g :: L)) (hk : ∀ h', Q (.bool true) h') : A4_4 Q (I k) (pt ha 0 0) (pt hb 0 0) h := by
  have hhas : C0.has (k : Int) := ⟨by omega, by show (k : Int) < 4; omega⟩
  have hw : ∀ H, homWho C0 H k = ((H k).1.owner, (H k).1.sharers, 0) := fun H => by unfold homWho; rw [if_pos hhas]; rfl
  have hwt : ∀ H, homWaits C0 H k = ((H k).1.waits.length : Int) := fun H => by unfold homWaits; rw [if_pos hhas]; rfl
  have hbz : ∀ H, homBusy C0 H k = (H k).1.busy := fun H => by unfold homBusy; rw [decide_eq_true hhas]; simp
  refine b4_4 (who_ok (C := C0) (H := A) hs fun v h hs => ?_)
  rw [hw] at hs ⊢
  refine r_ext rfl (r_ext rfl (r_ext rfl (who_ok (C := C0) (H := B) hs fun w h hs => ?_)))
  rw [hw] at hs ⊢
  dsimp only at hs ⊢
  rw [he] at hs ⊢
  refine r_ext rfl (r_ext rfl (r_ext rfl ?_))
  have hs : Hs G h (homR G ha C0 A :: intsR 3 v (natsI (B k).1.sharers) :: intsR 3 w (natsI (B k).1.sharers) :: homR G hb C0 B :: g :: L) := hs.to
  obtain ⟨mb, b, o, cap, hs⟩ := hom_open hs
  refine r_nilP (r_padd (r_ld hs rfl (read_ok (C := C0) C0_ok hlim hs hk4 fun h hs => ?_)))
  have hs := hom_end C0 A ha mb b o cap hs
  refine r_ext rfl (r_ext rfl (r_new hs ?_))
  intro pa h hs
  refine r_stW hs rfl rfl rfl rfl ?_
  intro h hs
  have hs : Hs G h (homR G hb C0 B :: homR G ha C0 A :: intsR 3 v (natsI (B k).1.sharers) :: intsR 3 w (natsI (B k).1.sharers) :: seg pa 0 (lnE (A k).2) :: g :: L) := hs.to
  obtain ⟨mb, b, o, cap, hs⟩ := hom_open hs
  refine r_nilP (r_padd (r_ld hs rfl (read_ok (C := C0) C0_ok hlim hs hk4 fun h hs => ?_)))
  have hs := hom_end C0 B hb mb b o cap hs
  refine r_ext rfl (r_ext rfl (r_new hs ?_))
  intro pb h hs
  refine r_stW hs rfl rfl rfl rfl ?_
  intro h hs
  refine r_eqI (r_brT rfl ?_)
  have hs : Hs G h (intsR 3 v (natsI (B k).1.sharers) :: intsR 3 w (natsI (B k).1.sharers) :: homR G ha C0 A :: homR G hb C0 B :: seg pa 0 (lnE (A k).2) :: seg pb 0 (lnE (B k).2) :: g :: L) := hs.to
  have hsl : (natsI (B k).1.sharers).length < 2 ^ 40 := by
    have := sharersF_len (r := (B k).1) 4 0
    simp only [natsI, List.length_map]
    show (B k).1.sharers.length < _
    unfold Row.sharers; omega
  refine ints_same hsl hs fun h hs => r_brt ?_
  refine r_ldN hs (by decide) (l := lnE (A k).2) rfl rfl (r_ldN hs (by decide) (l := lnE (B k).2) rfl rfl ?_)
  rw [he]
  refine eqA2 (r_brt ?_)
  refine busy_ok (C := C0) (H := A) hs fun hs => busy_ok (C := C0) (H := B) hs fun hs => ?_
  rw [hbz, hbz, he]
  refine r_eqBs (r_brt ?_)
  refine waits_ok (C := C0) (H := A) hs fun hs => waits_ok (C := C0) (H := B) hs fun hs => ?_
  rw [hwt, hwt, he]
  exact r_eqI (r_brT rfl (awake_ok (hk _)))
theorem apart_loop {t0 : Value} {N : Nat} {ops : Nat → Op} {j : Int → Int → Int × Bool} (hlim : Ob G 0 limE) (hj : Judges (.iface 24 (.agg ⟨[I bits]⟩)) j) (hN : N ≤ 60) (hold : Old G 11 t0 N fun i => (ops i).enc) (hk4 : k < 4)
    (hk : ∀ h', Q (.bool true) h') : ∀ (f i : Nat) (h : AH) (A B : Hom) (g : HP), i + f = N → AInv A i → AInv B i → A k = B k → Hs G h (homR G ha C0 A :: homR G hb C0 B :: g :: seg p2 0 [I bits] :: L) →
      A4_2 Q t0 (I k) (pt p2 0 0) (pt ha 0 0) (pt hb 0 0) (I i) h := by
  intro f
  induction f with
  | zero =>
    intro i h A B g hi hA hB he hs
    exact b4_2 (old_len hold (r_ltI (r_brF (by omega) (apart_end hlim hk4 he hs hk))))
  | succ f ih =>
    intro i h A B g hi hA hB he hs
    refine b4_2 (old_len hold (r_ltI (r_brT (by omega) (b4_3 (old_ld hold (by omega) rfl hs (r_new hs ?_))))))
    intro p3 h hs
    generalize ops i = o
    refine r_stW hs rfl rfl rfl rfl ?_
    intro h hs
    have hs : Hs G h (homR G ha C0 A :: homR G hb C0 B :: seg p3 0 o.enc :: g :: seg p2 0 [I bits] :: L) := hs.to
    have nx : ∀ h B' g, AInv B' (i + 1) → (homAns C0 A o j).1 k = B' k → Hs G h (homR G ha C0 (homAns C0 A o j).1 :: homR G hb C0 B' :: g :: seg p2 0 [I bits] :: L) → A4_7 Q t0 (I k) (pt p2 0 0) (pt ha 0 0) (pt hb 0 0) (I i) h := fun h B' g h1 h2 hs =>
      b4_7 (r_addI (by omega) (ih (i + 1) h _ B' g (by omega) (ans_inv hA) h1 h2 hs))
    have two : ∀ h v, o.at = (k : Int) → Hs G h (notesR v (homAns C0 A o j).2.1 :: homR G ha C0 (homAns C0 A o j).1 :: homR G hb C0 B :: seg p3 0 o.enc :: g :: seg p2 0 [I bits] :: L) →
        A4_8 Q t0 (I k) (pt p2 0 0) (pt ha 0 0) (pt hb 0 0) (I i) (pt p3 0 0) v (I (homAns C0 A o j).2.2) h := fun h v hat hs => by
      have hsm := ans_same (j := j) hat he
      refine b4_8 (r_ldN hs (by decide) (l := o.enc) rfl rfl (r_ldN hs (by decide) (l := [I bits]) rfl rfl (answers_ok hlim hj (N := 1000) (by omega) (hB.h 1000 (by omega)) hs fun w h hs => ?_)))
      refine r_ext rfl (r_ext rfl ?_)
      rw [← hsm.2] at hs ⊢
      have hlen : (homAns C0 A o j).2.1.length < 2 ^ 40 := by
        have := ans_len (A := A) (o := o) (j := j); omega
      refine notes_same (v := v) (w := w) (L := [homR G ha C0 (homAns C0 A o j).1, homR G hb C0 (homAns C0 B o j).1, seg p3 0 o.enc, g] ++ seg p2 0 [I bits] :: L) hlen hs.to fun h hs => r_not (r_brf (r_neI (r_brF (by simp) ?_)))
      exact nx h (homAns C0 B o j).1 (sp [notesR v (homAns C0 A o j).2.1, notesR w (homAns C0 A o j).2.1, seg p3 0 o.enc, g]) (ans_inv hB) hsm.1 hs.to
    have other : ∀ h v, o.at ≠ (k : Int) → Hs G h (notesR v (homAns C0 A o j).2.1 :: homR G ha C0 (homAns C0 A o j).1 :: homR G hb C0 B :: seg p3 0 o.enc :: g :: seg p2 0 [I bits] :: L) →
        A4_7 Q t0 (I k) (pt p2 0 0) (pt ha 0 0) (pt hb 0 0) (I i) h := fun h v hat hs =>
      nx h B (sp [notesR v (homAns C0 A o j).2.1, seg p3 0 o.enc, g]) (fun k hk => ⟨(hB k hk).1, by have := (hB k hk).2; omega⟩) ((ans_other hat).trans he) hs.to
    refine r_padd (r_ld hs rfl (r_padd (r_ld hs rfl (r_eqI (r_br (fun h1 => b4_5 ?_) (fun h1 => b4_6 ?_))))))
    · have e : o.at = o.n.line := by unfold Op.at; rw [if_pos h1]
      refine r_padd (r_padd (r_ld hs rfl (r_ldN hs (by decide) (l := o.enc) rfl rfl (r_ldN hs (by decide) (l := [I bits]) rfl rfl (answers_ok hlim hj (N := 1000) (by omega) (hA.h 1000 (by omega)) hs fun v h hs => ?_)))))
      have hs : Hs G h (notesR v (homAns C0 A o j).2.1 :: homR G ha C0 (homAns C0 A o j).1 :: homR G hb C0 B :: seg p3 0 o.enc :: g :: seg p2 0 [I bits] :: L) := hs.to
      exact r_ext rfl (r_ext rfl (r_neI (r_br (fun h2 => other h v (by rw [e]; exact h2) hs) (fun h2 => two h v (by rw [e]; omega) hs))))
    · have e : o.at = o.line := by unfold Op.at; rw [if_neg h1]
      refine r_ldN hs (by decide) (l := o.enc) rfl rfl (r_ldN hs (by decide) (l := [I bits]) rfl rfl (answers_ok hlim hj (N := 1000) (by omega) (hA.h 1000 (by omega)) hs fun v h hs => ?_))
      have hs : Hs G h (notesR v (homAns C0 A o j).2.1 :: homR G ha C0 (homAns C0 A o j).1 :: homR G hb C0 B :: seg p3 0 o.enc :: g :: seg p2 0 [I bits] :: L) := hs.to
      exact r_ext rfl (r_ext rfl (r_neI (r_br (fun h2 => other h v (by rw [e]; exact h2) hs) (fun h2 => two h v (by rw [e]; omega) hs))))
end
theorem AInv0 : AInv (homM C0.lines) 0 := fun k hk4 => by
  have : (homM C0.lines k).1 = row0 := by unfold homM; rw [if_pos (show k < C0.lines from hk4)]
  rw [this]
  exact ⟨LInv0 k, Nat.le_refl _⟩
theorem apart_ok {t0 : Value} {bits line : Int} {N : Nat} {ops : Nat → Op} {Q : Value → AH → Prop} {j : Int → Int → Int × Bool} (hlim : Ob G 0 limE) (hj : Judges (.iface 24 (.agg ⟨[I bits]⟩)) j) (hold : Old G 11 t0 N fun i => (ops i).enc) (hs : Hs G h L)
    (hk : ∀ h', Q (.bool true) h') : Cl Pr K 4 [t0, .agg ⟨[I bits]⟩, I line] h Q := by
  refine c4 (b4_0 (r_bx hs ?_))
  intro p2 h hs
  refine small_ok hs fun h hs => homeNew_ok C0_ok hlim hs fun ha h hs => r_ext rfl (r_ext rfl ?_)
  refine small_ok hs fun h hs => homeNew_ok C0_ok hlim hs fun hb h hs => r_ext rfl (r_ext rfl ?_)
  refine r_ptEq (r_brf (r_ptEq (r_brf (r_neI (r_brF (by omega) (r_neI (r_brF (by omega) (old_len hold (r_gtI (r_br (fun h1 => ?_) (fun h1 => ?_)))))))))))
  · exact r_ptNe (r_brt (r_eqI (r_brT rfl (awake_ok (hk _)))))
  · refine r_ltI (r_br (fun h2 => r_ptNe (r_brt (r_eqI (r_brT rfl (awake_ok (hk _)))))) (fun h2 => r_gtI (r_br (fun h3 => r_ptNe (r_brt (r_eqI (r_brT rfl (awake_ok (hk _)))))) (fun h3 => ?_))))
    obtain ⟨k, rfl⟩ := Int.eq_ofNat_of_zero_le (show 0 ≤ line by omega)
    exact b4_1 (apart_loop (L := L) hlim hj (by omega) hold (by omega) hk N 0 h (homM C0.lines) (homM C0.lines) (sp []) (by omega) AInv0 AInv0 rfl hs.to)
end Go.Proofs.YtagcnlaofkfpjaaDoor
end
section
namespace Go.Proofs.YtagcnlaofkfpjaaDoor
open Go Go.Ab Go.Hm Go.RowKit
set_option maxRecDepth 100000 in
theorem homeApart_lifted (os : Os) (started : os.Started) (H : Type) (enc : TypeId × Value → H) :
    ReturnsInHanded {} Tryd.checked os 4 .any (fun w args => (Rows.homeApartSpec.pre enc Tryd.prog Tryd.f4 [] false w args ∧ laidMetH Tryd.prog [("donjon/place.limits", Rows.laid_donjon_place_limits)] w) ∧ sizedMet enc Tryd.prog Tryd.f4 (OpenSpec.ofChange Rows.homeApartSpec) false w args)
      (Rows.homeApartSpec.post enc Tryd.prog Tryd.f4 false true false false) := by
  refine law_lifted (C := Tryd.checked) started own (by kernel_rfl) Tryd.func4 laidOut (by kernel_rfl) rfl Tryd.underlying4 rfl (fun ds hd => by
      match ds, hd with
      | [d1, d2, d3], _ => rfl)
    (ChangeSpec.witness_shaped (enc := enc) (C := Tryd.checked) (os := os) (X := fun w _ => laidMetH Tryd.prog [("donjon/place.limits", Rows.laid_donjon_place_limits)] w) false (World.doorLaid Tryd.prog 400 os) #[.slice none 0 0, .agg #[.int .i64 0], .int .i64 0] 8 rfl (World.shaped_of_RefB (by kernel_rfl) (by kernel_rfl)) (by kernel_rfl) (by kernel_rfl) (by kernel_rfl) (door_met os _)) ?_
  intro W base args ds ps hA hval hL
  rw [show (Tryd.f4.params.toList) = [22, 24, 3] from by rw [Tryd.params4]] at hA
  rw [Tryd.params4] at hval
  obtain ⟨v0, vs0, d0, ds0, p0, q0, rfl, rfl, rfl, h0, r0⟩ := ChangeShapes.trodAll_cons hA
  obtain ⟨v1, vs1, d1, ds1, p1, q1, rfl, rfl, rfl, h1, r1⟩ := ChangeShapes.trodAll_cons r0
  obtain ⟨v2, vs2, d2, ds2, p2, q2, rfl, rfl, rfl, h2, r2⟩ := ChangeShapes.trodAll_cons r1
  obtain ⟨rfl, rfl, rfl⟩ := ChangeShapes.trodAll_nil r2
  obtain ⟨a, len, cap, rfl, hrow⟩ := open_rowF Tryd.underlying22 opFlat opCells (by decide) (hval 0 _ v0 rfl rfl) h0
  obtain ⟨l1, rfl, hl1⟩ := open_structF Tryd.underlying24 ruleFlat (hval 1 _ v1 rfl rfl) h1
  obtain ⟨x1, rfl⟩ := rule_of hl1
  obtain ⟨x2, rfl, rfl, rfl, w2⟩ := ChangeShapes.open_int Tryd.underlying3 (hval 2 _ v2 rfl rfl) h2
  exact calls_law (lim_of hL) hrow (more := [.agg ⟨[I x1]⟩, I x2]) (fun ρ => plainL_rel _ rfl) fun G h t ops hlim hold hs => apart_ok hlim (judges x1) hold hs (fun _ => rfl)
theorem homeApart_over : Rows.homeApartRow.holds Tryd.pinned (OpenSpec.ofChange Rows.homeApartSpec) :=
  OpenClaim.holds_of_wide 4 Tryd.f4 rfl rfl rfl rfl rfl rfl rfl ⟨rfl, rfl, rfl, rfl, rfl⟩ rfl rfl rfl rfl rfl (by kernel_rfl) Tryd.func4 (by kernel_rfl)
    (of_decide_eq_true (by kernel_rfl)) (by unfold Func.isWrapper; first | (rw [if_pos (by decide +kernel)]; kernel_rfl) | (rw [if_neg (by decide +kernel)]; exact ⟨rfl, rfl⟩))
    (fun os started H enc _ => homeApart_lifted os started H enc)
/-- ████ THE STATEMENT ████ -/
theorem homeApart_proved : Rows.HomeApartCardSaid :=
  Claim7.holds_tied_plain_at .later [] [.data] true Rows.homeApartCard.stood.harness false
    homeApart_over (fun _ h => by cases h) (by kernel_rfl) (fun _ h => by cases h) homeApart_row_tie rfl ⟨rfl, rfl⟩ (by kernel_rfl) rfl
    (fun f fn hf hfn => by
      obtain rfl : f = 4 := Option.some.inj ((show Tryd.prog.funcNamed "donjon/donjonlaw12.HomeApart" = some 4 by kernel_rfl).symm.trans hf) |>.symm
      obtain rfl : fn = Tryd.f4 := (Option.some.inj (Tryd.func4.symm.trans hfn)).symm
      exact ⟨by kernel_rfl, fun j t ht => by
        rw [Tryd.params4] at ht
        have hm : t ∈ [22, 24, 3] := by simpa using Array.mem_of_getElem? ht
        have hall : ([22, 24, 3].all fun u => !Tryd.prog.wantsStandIn u) = true := by kernel_rfl
        exact (show Tryd.prog.wantsStandIn t = false by simpa using List.all_eq_true.1 hall t hm)⟩)
    (by kernel_rfl)
end Go.Proofs.YtagcnlaofkfpjaaDoor
end
