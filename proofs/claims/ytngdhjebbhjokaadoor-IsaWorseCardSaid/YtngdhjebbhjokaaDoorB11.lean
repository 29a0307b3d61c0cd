/- IsaWorse: for every input the law answers true, and each argument reads afterwards as it read before. No condition but the listed variables' text. -/
import Derived.Test.YtngdhjebbhjokaaDoorB8
import Derived.Test.YtngdhjebbhjokaaDoorB10
import Derived.Lay
import Derived.LaidOnce
section
namespace Go.Proofs.YtngdhjebbhjokaaDoor
open Go Go.Ab Go.Is
theorem may0 {x : Ins} {many : Int} : mayV x many = 0 ↔ isO x.op = true ∧ (x.pairs.all fun p => fitsV p.1 p.2 many) = true := by
  unfold mayV
  constructor
  · intro h
    split at h
    · rename_i ho
      split at h
      · rename_i hf; exact ⟨ho, hf⟩
      · cases h
    · cases h
  · rintro ⟨h1, h2⟩
    rw [if_pos h1, if_pos h2]
theorem o11 {x : Int} (h : isO x = true) : x = 1 ∨ x = 2 ∨ x = 3 ∨ x = 4 ∨ x = 5 ∨ x = 6 ∨ x = 7 ∨ x = 8 ∨ x = 9 ∨ x = 10 ∨ x = 11 := by
  have := of_decide_eq_true h
  omega
theorem worse1 {x : Ins} {many more : Int} (h : mayV x many = 0) (hm : 1 ≤ more) : mayV x (many + more) = 0 := by
  rw [may0] at h ⊢
  refine ⟨h.1, ?_⟩
  rw [List.all_eq_true] at h ⊢
  intro p hp
  have := h.2 p hp
  unfold fitsV at this ⊢
  split
  · rename_i c; rw [if_pos c] at this; exact this
  rename_i c; rw [if_neg c] at this
  split
  · rfl
  rename_i c; rw [if_neg c] at this
  split
  · rename_i c; rw [if_pos c] at this; exact this
  rename_i c; rw [if_neg c] at this
  split
  · rename_i c; rw [if_pos c] at this; exact this
  rename_i c; rw [if_neg c] at this
  split
  · rename_i c; rw [if_pos c] at this
    have := of_decide_eq_true this
    exact decide_eq_true (by omega)
  · rename_i c; rw [if_neg c] at this; exact this
theorem worse2 {x : Ins} {many more : Int} (h : mayV x many = 0) (hm : 1 ≤ more) (h3 : x.op ≠ 2 ∧ x.op ≠ 8) : mayV { x with c := more } many = 10 := by
  rw [may0] at h
  unfold mayV
  rw [if_pos h.1, if_neg]
  intro hh
  rw [List.all_eq_true] at hh
  have ho := of_decide_eq_true h.1
  have h2 : ((whatO x.op.toNat).getD 2 0, more) ∈ ({ x with c := more } : Ins).pairs := List.mem_of_getElem? (pairs_at (x := { x with c := more }) h.1 (i := 2) (by decide))
  have := hh _ h2
  obtain ⟨op, a, b, c⟩ := x
  simp only at h3 this ho
  have e : (whatO op.toNat).getD 2 0 = 0 := by
    have : op = 1 ∨ op = 3 ∨ op = 4 ∨ op = 5 ∨ op = 6 ∨ op = 7 ∨ op = 9 ∨ op = 10 ∨ op = 11 := by omega
    rcases this with rfl | rfl | rfl | rfl | rfl | rfl | rfl | rfl | rfl <;> rfl
  rw [e] at this
  have := of_decide_eq_true (p := more = 0) this
  omega
theorem worse3 {x : Ins} {many : Int} (h : mayV x many = 0) : mayV { x with op := x.op + 100 } many = 15 := by
  rw [may0] at h
  have := of_decide_eq_true h.1
  unfold mayV
  rw [if_neg]
  intro hh
  have := of_decide_eq_true hh
  simp only at this
  omega
attribute [local irreducible] thn Br ld1 ldN stV alc alcAt alcS alcSAt resv padd nilV extV part1 partN lenS lenT biI biT biB biP biS biF biE biA unV idxS idxA pickV appV copyV clearV slS slA slT mkS blkOf at1 atN atS convI convS minV maxV Cl OkF OkR EndX endV beginV defersOf setLoop closeMarks
variable {G : Bg} {h : AH} {L L' M : List HP} {Q : Value → AH → Prop}
theorem worse_ok {x : Ins} {many more : Int} (hg : Ob G 0 opsE) (hs : Hs G h L) (hk : ∀ h', Q (.bool true) h') : Cl Pr K 5 [.agg ⟨x.enc⟩, I many, I more] h Q := by
  refine c5 (b5_0 (r_bx hs fun p h hs => r_ldN hs (by decide) (l := x.enc) rfl rfl (may_ok hg hs fun h hs => r_neI (r_br (fun _ => awake_ok (hk _)) (fun hm => ?_)))))
  refine r_ltI (r_br (fun _ => awake_ok (hk _)) (fun m0 => r_ltI (r_br (fun _ => awake_ok (hk _)) (fun m1 => r_gtI (r_br (fun _ => awake_ok (hk _)) (fun m2 => r_gtI (r_br (fun _ => awake_ok (hk _)) (fun m3 => ?_))))))))
  have hm : mayV x many = 0 := by omega
  have ho := of_decide_eq_true ((may0.1 hm).1)
  have last : ∀ (h : AH) (L : List HP), Hs G h (seg p 0 x.enc :: L) → thn (ldN h 4 (pt p 0 0)) fun v14 => alc h (.cells [(I 0), (I 0), (I 0), (I 0)] 34 (0, 0) true) fun p16 h15 => thn (stV h15 4 (pt p16 0 0) v14) fun h17 => thn (padd 0 (pt p 0 0)) fun v18 => thn (ld1 h17 v18) fun v19 => thn (biI .add v19 (I 100)) fun v20 =>
      thn (padd 0 (pt p16 0 0)) fun v21 => thn (stV h17 1 v21 v20) fun h22 => thn (ldN h22 4 (pt p16 0 0)) fun v23 => Cl Pr K 12 [v23, I many] h22 fun v24 h24 => thn (biI .eql v24 (I 15)) fun v25 => Br v25 (Cl Pr K 7 [] h24 fun v26 h26 => Q v26 h26) (Q (.bool false) h24) := fun h L hs => by
    refine r_ldN hs (by decide) (l := x.enc) rfl rfl (r_new hs fun q h hs => r_stW hs rfl rfl rfl rfl fun h hs => r_padd (r_ld (b := p) (o := 0) hs rfl (r_addI (by omega) (r_padd (r_sto (b := q) (o := 0) hs rfl rfl rfl rfl fun h hs => ?_)))))
    refine r_ldN (b := q) (o := 0) hs (by decide) (l := ({ x with op := x.op + 100 } : Ins).enc) rfl rfl (may_ok hg hs fun h hs => ?_)
    rw [worse3 hm]
    exact r_eqI (r_brT rfl (awake_ok (hk _)))
  have w1 : mayV x (many + more) = 0 := worse1 hm (by omega)
  refine b5_1 (r_ldN hs (by decide) (l := x.enc) rfl rfl (r_new hs fun q h hs => r_stW hs rfl rfl rfl rfl fun h hs => r_padd (r_sto (b := q) (o := 0) hs rfl rfl rfl rfl fun h hs => ?_)))
  refine r_padd (r_ld (b := p) (o := 0) hs rfl (r_eqI (r_br (fun c2 => ?_) (fun c2 => ?_))))
  · refine r_ldN (b := p) (o := 0) hs (by decide) (l := x.enc) rfl rfl (r_addI (by omega) (may_ok hg hs fun h hs => ?_))
    rw [w1]
    refine r_neI (r_brF (by omega) (r_not (r_brf (last h _ (hs.front (seg p 0 x.enc))))))
  · refine r_padd (r_ld (b := p) (o := 0) hs rfl (r_eqI (r_ldN (b := p) (o := 0) hs (by decide) (l := x.enc) rfl rfl (r_addI (by omega) (may_ok hg hs fun h hs => ?_)))))
    rw [w1]
    refine r_neI (r_brF (by omega) (r_not (r_brn (r_br (fun c8 => last h _ (hs.front (seg p 0 x.enc))) (fun c8 => ?_)))))
    refine r_ldN (b := q) (o := 0) hs (by decide) (l := ({ x with c := more } : Ins).enc) rfl rfl (may_ok hg hs fun h hs => ?_)
    rw [worse2 hm (by omega) ⟨c2, c8⟩]
    refine r_neI (r_brF (by omega) (b5_2 (last h _ (hs.front (seg p 0 x.enc)))))
end Go.Proofs.YtngdhjebbhjokaaDoor
end
section
namespace Go.Proofs.YtngdhjebbhjokaaDoor
open Go Go.Ab Go.Is Go.RowKit
set_option maxRecDepth 100000 in
theorem isaWorse_lifted (os : Os) (started : os.Started) (H : Type) (enc : TypeId × Value → H) :
    ReturnsInHanded {} Tryd.checked os 5 .any (fun w args => (Rows.isaWorseSpec.pre enc Tryd.prog Tryd.f5 [] false w args ∧ laidMetH Tryd.prog Rows.isaWorseRow.laid w) ∧ sizedMet enc Tryd.prog Tryd.f5 (OpenSpec.ofChange Rows.isaWorseSpec) false w args)
      (Rows.isaWorseSpec.post enc Tryd.prog Tryd.f5 false true false false) := by
  refine law_lifted (C := Tryd.checked) started own (by kernel_rfl) Tryd.func5 laidOut (by kernel_rfl) rfl Tryd.underlying4 rfl (fun ds hd => by
      match ds, hd with
      | [d1, d2, d3], _ => rfl)
    (ChangeSpec.witness_shaped (enc := enc) (C := Tryd.checked) (os := os) (X := fun w _ => laidMetH Tryd.prog Rows.isaWorseRow.laid w) false (World.laidAll Tryd.prog os Rows.isaWorseRow.laid) #[.agg #[.int .i64 0, .int .i64 0, .int .i64 0, .int .i64 0], .int .i64 0, .int .i64 0] 8 (World.laidAll_os _ _ _)
      (World.shaped_of_ZipB (by kernel_rfl) (by kernel_rfl)) (by kernel_rfl) (by kernel_rfl) (by kernel_rfl)
      (by rw [MakeChecks.laidMetH_plain _ _ _ (by kernel_rfl)]; exact laidMet_laidAll _ (by kernel_rfl) (by kernel_rfl))) ?_
  intro W base args ds ps hA hval hL
  rw [show (Tryd.f5.params.toList) = [34, 3, 3] from by rw [Tryd.params5]] at hA
  rw [Tryd.params5] at hval
  obtain ⟨v0, vs0, d0, ds0, p0, q0, rfl, rfl, rfl, h0, r0⟩ := ChangeShapes.trodAll_cons hA
  obtain ⟨v1, vs1, d1, ds1, p1, q1, rfl, rfl, rfl, h1, r1⟩ := ChangeShapes.trodAll_cons r0
  obtain ⟨v2, vs2, d2, ds2, p2, q2, rfl, rfl, rfl, h2, r2⟩ := ChangeShapes.trodAll_cons r1
  obtain ⟨rfl, rfl, rfl⟩ := ChangeShapes.trodAll_nil r2
  obtain ⟨l0, rfl, hl0⟩ := open_structF Tryd.underlying34 insFlat (hval 0 _ v0 rfl rfl) h0
  obtain ⟨x0, rfl, hx0⟩ := ins_of hl0
  obtain ⟨x1, rfl, rfl, rfl, w1⟩ := ChangeShapes.open_int Tryd.underlying3 (hval 1 _ v1 rfl rfl) h1
  obtain ⟨x2, rfl, rfl, rfl, w2⟩ := ChangeShapes.open_int Tryd.underlying3 (hval 2 _ v2 rfl rfl) h2
  exact calls_law (gl_of (by kernel_rfl) hL (by simp [Rows.isaWorseRow]) (by simp [Rows.isaWorseRow]) (by simp [Rows.isaWorseRow]) (by simp [Rows.isaWorseRow]) (by simp [Rows.isaWorseRow])) (args := [.agg ⟨x0.enc⟩, I x1, I x2]) rfl fun G h hg hs => worse_ok (x := x0) (many := x1) (more := x2) hg hs fun _ => rfl
theorem isaWorse_over : Rows.isaWorseRow.holds Tryd.pinned (OpenSpec.ofChange Rows.isaWorseSpec) :=
  OpenClaim.holds_of_wide 5 Tryd.f5 rfl rfl rfl rfl rfl rfl rfl ⟨rfl, rfl, rfl, rfl, rfl⟩ rfl rfl rfl rfl rfl (by kernel_rfl) Tryd.func5 (by kernel_rfl)
    (of_decide_eq_true (by kernel_rfl)) (by unfold Func.isWrapper; first | (rw [if_pos (by decide +kernel)]; kernel_rfl) | (rw [if_neg (by decide +kernel)]; exact ⟨rfl, rfl⟩))
    (fun os started H enc _ => isaWorse_lifted os started H enc)
/-- ████ THE STATEMENT ████ -/
theorem isaWorse_proved : Rows.IsaWorseCardSaid :=
  Claim7.holds_tied_plain_at .later [] Rows.isaWorseCard.laidKinds true Rows.isaWorseCard.stood.harness true
    isaWorse_over (fun _ h => by cases h) (by kernel_rfl) (fun _ h => by cases h) isaWorse_row_tie rfl ⟨rfl, rfl⟩ (by kernel_rfl) rfl
    (fun f fn hf hfn => by
      obtain rfl : f = 5 := Option.some.inj ((show Tryd.prog.funcNamed "donjon/donjonlaw10.IsaWorse" = some 5 by kernel_rfl).symm.trans hf) |>.symm
      obtain rfl : fn = Tryd.f5 := (Option.some.inj (Tryd.func5.symm.trans hfn)).symm
      exact ⟨by kernel_rfl, fun j t ht => by
        rw [Tryd.params5] at ht
        have hm : t ∈ [34, 3, 3] := by simpa using Array.mem_of_getElem? ht
        have hall : ([34, 3, 3].all fun u => !Tryd.prog.wantsStandIn u) = true := by kernel_rfl
        exact (show Tryd.prog.wantsStandIn t = false by simpa using List.all_eq_true.1 hall t hm)⟩)
    (by kernel_rfl)
end Go.Proofs.YtngdhjebbhjokaaDoor
end
