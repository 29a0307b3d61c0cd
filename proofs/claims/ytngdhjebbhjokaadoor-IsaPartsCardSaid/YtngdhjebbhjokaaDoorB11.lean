/- IsaParts: for every input the law answers true, and each argument reads afterwards as it read before. No condition but the listed variables' text. -/
import Derived.Test.YtngdhjebbhjokaaDoorB8
import Derived.Test.YtngdhjebbhjokaaDoorB9
import Derived.Test.YtngdhjebbhjokaaDoorB10
import Derived.Lay
import Derived.LaidOnce
section
namespace Go.Proofs.YtngdhjebbhjokaaDoor
open Go Go.Ab Go.Is
/-! the plain law -/
def noPlace (x : Ins) : Prop := x.op ≠ 9 ∧ x.op ≠ 10
theorem fits_any {w v m n : Int} (h : w ≠ 5) : fitsV w v m = fitsV w v n := by
  unfold fitsV
  rw [if_neg h, if_neg h]
theorem may_any {x : Ins} (h : noPlace x) (m n : Int) : mayV x m = mayV x n := by
  unfold mayV
  by_cases ho : isO x.op = true
  · rw [if_pos ho, if_pos ho]
    have e : (x.pairs.all fun p => fitsV p.1 p.2 m) = (x.pairs.all fun p => fitsV p.1 p.2 n) := by
      rw [Bool.eq_iff_iff, List.all_eq_true, List.all_eq_true]
      have key : ∀ p ∈ x.pairs, p.1 ≠ 5 := fun p hp => by
        have h1 := (List.of_mem_zip hp).1
        have := of_decide_eq_true ho
        have h2 : x.op = 1 ∨ x.op = 2 ∨ x.op = 3 ∨ x.op = 4 ∨ x.op = 5 ∨ x.op = 6 ∨ x.op = 7 ∨ x.op = 8 ∨ x.op = 11 := by unfold noPlace at h; omega
        intro h5
        rw [h5] at h1
        rcases h2 with e | e | e | e | e | e | e | e | e <;> rw [e] at h1 <;> revert h1 <;> decide
      exact ⟨fun hh p hp => by rw [← fits_any (key p hp)]; exact hh p hp, fun hh p hp => by rw [fits_any (key p hp)]; exact hh p hp⟩
    rw [e]
  · rw [if_neg ho, if_neg ho]
theorem ck_iff {m : Int} : ∀ (l : List Ins) (i : Nat), (ckF m l i).2 = 0 ↔ ∀ x ∈ l, mayV x m = 0
  | [], i => by simp [ckF]
  | x :: l, i => by
    rw [ckF]
    split
    · rename_i h
      exact ⟨fun hh => absurd hh h, fun hh => absurd (hh x List.mem_cons_self) h⟩
    · rename_i h
      rw [ck_iff l (i + 1)]
      exact ⟨fun hh y hy => by
        rcases List.mem_cons.1 hy with rfl | hy
        · omega
        · exact hh y hy, fun hh y hy => hh y (List.mem_cons_of_mem _ hy)⟩
theorem check_iff {p : List Ins} (hl : p.length ≤ 32) (h : ∀ x ∈ p, noPlace x) : (checkV p).2 = 0 ↔ ∀ x ∈ p, mayV x 0 = 0 := by
  unfold checkV
  rw [if_neg (by omega), ck_iff]
  exact ⟨fun hh x hx => by rw [may_any (h x hx) 0 p.length]; exact hh x hx, fun hh x hx => by rw [may_any (h x hx) p.length 0]; exact hh x hx⟩
theorem print2_iff {p : List Ins} : (printV p).2 = 0 ↔ (checkV p).2 = 0 := by
  unfold printV
  split
  · rename_i h; exact ⟨fun _ => h, fun _ => rfl⟩
  · rfl
theorem parts_iff {p : List Ins} (hl : p.length ≤ 32) (h : ∀ x ∈ p, noPlace x) (n : Nat) : (printV p).2 = 0 ↔ ((printV (p.take n)).2 = 0 ∧ (printV (p.drop n)).2 = 0) := by
  rw [print2_iff, print2_iff, print2_iff, check_iff hl h, check_iff (by rw [List.length_take]; omega) fun x hx => h x (List.mem_of_mem_take hx), check_iff (by rw [List.length_drop]; omega) fun x hx => h x (List.mem_of_mem_drop hx)]
  exact ⟨fun hh => ⟨fun x hx => hh x (List.mem_of_mem_take hx), fun x hx => hh x (List.mem_of_mem_drop hx)⟩, fun ⟨h1, h2⟩ x hx => by
    rw [← List.take_append_drop n p] at hx
    rcases List.mem_append.1 hx with hx | hx
    · exact h1 x hx
    · exact h2 x hx⟩
theorem parts_text {p : List Ins} (n : Nat) (h1 : (printV p).2 = 0) (h2 : (printV (p.take n)).2 = 0) (h3 : (printV (p.drop n)).2 = 0) : (printV p).1 = (printV (p.take n)).1 ++ (printV (p.drop n)).1 := by
  have hp := print2_iff.1 h1
  have ht := print2_iff.1 h2
  have hd := print2_iff.1 h3
  unfold printV
  rw [if_pos hp, if_pos ht, if_pos hd]
  show textV p = textV (p.take n) ++ textV (p.drop n)
  unfold textV
  rw [← List.flatMap_append, List.take_append_drop]
theorem r_neBB {a b : Bool} {k : Value → Prop} (hk : k (.bool (!(a == b)))) : thn (biB .neq (.bool a) (.bool b)) k := ⟨_, rfl, hk⟩
attribute [local irreducible] thn Br ld1 ldN stV alc alcAt alcS alcSAt resv padd nilV extV part1 partN lenS lenT biI biT biB biP biS biF biE biA unV idxS idxA pickV appV copyV clearV slS slA slT mkS blkOf at1 atN atS convI convS minV maxV Cl OkF OkR EndX endV beginV defersOf setLoop closeMarks
variable {G : Bg} {h : AH} {L L' M : List HP} {Q : Value → AH → Prop}
theorem parts_end {t : Value} {p : List Ins} {n : Nat} (hr : ∀ x ∈ p, x.inR) (hg : Ob G 0 opsE) (ho : OldS G 4 t p.length (fun i => (p.map Ins.enc).getD i [])) (hv : SlOk G t p.length) (hl : p.length ≤ 32) (hnp : ∀ x ∈ p, noPlace x) (hn : n ≤ p.length)
    (hs : Hs G h (rdS G 4 34 t (p.map Ins.enc) :: L)) (hk : ∀ h', Q (.bool true) h') : A6_4 Q t (I n) h := by
  refine b6_4 (print_ok hr hg hs fun h hs => r_ext rfl (r_ext rfl ?_))
  refine r_slTo ho hv hn fun t1 ho1 => ?_
  have e1 : OldS G 4 t1 ((p.take n).map Ins.enc).length (fun i => ((p.take n).map Ins.enc).getD i []) := by
    obtain ⟨a, c, rfl, hall⟩ := ho1
    have e : ((p.take n).map Ins.enc).length = n := by simp; omega
    rw [e]
    refine ⟨a, c, rfl, fun i hi => ?_⟩
    obtain ⟨b, o, cells, k1, k2, k3, k4⟩ := hall i hi
    refine ⟨b, o, cells, k1, k2, ?_, k4⟩
    rw [k3]
    simp [List.getElem?_take_of_lt hi]
  have hs1 := rd_old (e := 34) (enc_lens (f := Ins.enc) (W := 4) (fun x => rfl) (p.take n)) e1 hs
  refine print_ok (fun x hx => hr x (List.mem_of_mem_take hx)) hg hs1 fun h hs => r_ext rfl (r_ext rfl ?_)
  refine r_slFrom hs ho hv hn fun t2 ho2 => ?_
  have e2 : OldS G 4 t2 ((p.drop n).map Ins.enc).length (fun i => ((p.drop n).map Ins.enc).getD i []) := by
    obtain ⟨a, c, rfl, hall⟩ := ho2
    have e : ((p.drop n).map Ins.enc).length = p.length - n := by simp
    rw [e]
    refine ⟨a, c, rfl, fun i hi => ?_⟩
    obtain ⟨b, o, cells, k1, k2, k3, k4⟩ := hall i hi
    refine ⟨b, o, cells, k1, k2, ?_, k4⟩
    rw [k3]
    simp [List.getElem?_drop, Nat.add_comm]
  have hs2 := rd_old (e := 34) (enc_lens (f := Ins.enc) (W := 4) (fun x => rfl) (p.drop n)) e2 hs
  refine print_ok (fun x hx => hr x (List.mem_of_mem_drop hx)) hg hs2 fun h hs => r_ext rfl (r_ext rfl (r_eqI (r_eqI ?_)))
  have pi := parts_iff hl hnp n
  have last : ∀ {h : AH}, (decide ((printV p).2 = 0) = (decide ((printV (p.take n)).2 = 0) && decide ((printV (p.drop n)).2 = 0))) → thn (biI .neq (I (printV p).2) (I 0)) fun v15 => Br v15 (Cl Pr K 7 [] h fun v16 h16 => Q v16 h16) (
      thn (biT .add (tx (printV (p.take n)).1) (tx (printV (p.drop n)).1)) fun v16 => thn (biT .eql (tx (printV p).1) v16) fun v17 => Br v17 (Cl Pr K 7 [] h fun v18 h18 => Q v18 h18) (Q (.bool false) h)) := fun {h} _ => by
    refine r_neI (r_br (fun _ => awake_ok (hk _)) (fun c => ?_))
    have h0 : (printV p).2 = 0 := by omega
    obtain ⟨h1, h2⟩ := pi.1 h0
    have ht := parts_text n h0 h1 h2
    have lim : ∀ q : List Ins, (printV q).2 = 0 → (∀ x ∈ q, x.inR) → (printV q).1.length ≤ 32 * 69 := fun q hq hqr => by
      have hc := print2_iff.1 hq
      obtain ⟨hl, hm⟩ := Is.check_ok hc
      unfold printV
      rw [if_pos hc]
      have := text_len (p := q) fun x hx => ⟨may_is (hm x hx), hqr x hx⟩
      show (textV q).length ≤ _
      omega
    have l1 := lim (p.take n) h1 fun x hx => hr x (List.mem_of_mem_take hx)
    have l2 := lim (p.drop n) h2 fun x hx => hr x (List.mem_of_mem_drop hx)
    exact r_catX (by omega) (r_eqX (r_brT ht (awake_ok (hk _))))
  have eqn : decide ((printV p).2 = 0) = (decide ((printV (p.take n)).2 = 0) && decide ((printV (p.drop n)).2 = 0)) := by
    rw [Bool.eq_iff_iff]
    simpa using pi
  refine r_br (fun c => r_eqI (r_neBB ?_)) (fun c => r_neBB ?_)
  · rw [eqn, decide_eq_true c, Bool.true_and]
    simp only [beq_self_eq_true, Bool.not_true]
    exact r_brf (last eqn)
  · rw [eqn, decide_eq_false c, Bool.false_and]
    exact r_brf (last eqn)
theorem parts_loop {t : Value} {p : List Ins} {n : Nat} (hr : ∀ x ∈ p, x.inR) (hg : Ob G 0 opsE) (ho : OldS G 4 t p.length (fun i => (p.map Ins.enc).getD i [])) (hv : SlOk G t p.length) (hl : p.length ≤ 32) (hn : n ≤ p.length) (hk : ∀ h', Q (.bool true) h') :
    ∀ (f i : Nat) (h : AH), i + f = p.length → (∀ x ∈ p.take i, noPlace x) → Hs G h (rdS G 4 34 t (p.map Ins.enc) :: L) → A6_2 Q t (I n) (I i) h := by
  intro f
  induction f with
  | zero =>
    intro i h hi hp hs
    obtain ⟨ta, tc, ht⟩ := rd_slice hs
    rw [List.take_of_length_le (by omega)] at hp
    have len : ∀ {k : Value → Prop}, k (I p.length) → thn (lenS t) k := fun hk => by
      rw [ht]; refine r_lenS ?_; rw [List.length_map]; exact hk
    exact b6_2 (len (r_ltI (r_brF (by omega) (parts_end hr hg ho hv hl hp hn hs hk))))
  | succ f ih =>
    intro i h hi hp hs
    obtain ⟨ta, tc, ht⟩ := rd_slice hs
    obtain ⟨x, hx, hd⟩ := at_lt (l := p) (i := i) (by omega)
    have len : ∀ {k : Value → Prop}, k (I p.length) → thn (lenS t) k := fun hk => by
      rw [ht]; refine r_lenS ?_; rw [List.length_map]; exact hk
    refine b6_2 (len (r_ltI (r_brT (by omega) (b6_3 ?_))))
    refine r_rd1 hs (i := i) (j := 0) (x := x.enc) (u := I x.op) (by simp [hx]) rfl (r_eqI (r_br (fun _ => awake_ok (hk _)) (fun c9 => ?_)))
    refine r_rd1 hs (i := i) (j := 0) (x := x.enc) (u := I x.op) (by simp [hx]) rfl (r_eqI (r_br (fun _ => awake_ok (hk _)) (fun c10 => b6_5 (r_addI (by omega) (ih (i + 1) h (by omega) ?_ hs)))))
    intro y hy
    rw [List.take_add_one, hx] at hy
    rcases List.mem_append.1 hy with hy | hy
    · exact hp y hy
    · simp only [Option.toList_some, List.mem_singleton] at hy
      subst hy
      exact ⟨c9, c10⟩
theorem parts_ok {t : Value} {p : List Ins} {n : Int} (hr : ∀ x ∈ p, x.inR) (hg : Ob G 0 opsE) (ho : OldS G 4 t p.length (fun i => (p.map Ins.enc).getD i [])) (hv : SlOk G t p.length)
    (hs : Hs G h (rdS G 4 34 t (p.map Ins.enc) :: L)) (hk : ∀ h', Q (.bool true) h') : Cl Pr K 6 [t, I n] h Q := by
  obtain ⟨ta, tc, ht⟩ := rd_slice hs
  have len : ∀ {k : Value → Prop}, k (I p.length) → thn (lenS t) k := fun hk => by
    rw [ht]; refine r_lenS ?_; rw [List.length_map]; exact hk
  refine c6 (b6_0 (len (r_gtI (r_br (fun _ => awake_ok (hk _)) (fun h1 => r_ltI (r_br (fun _ => awake_ok (hk _)) (fun h2 => len (r_gtI (r_br (fun _ => awake_ok (hk _)) (fun h3 => b6_1 ?_))))))))))
  have e : n = ((n.toNat : Nat) : Int) := by omega
  rw [e]
  exact parts_loop (n := n.toNat) hr hg ho hv (by omega) (by omega) hk p.length 0 h (by omega) (by simp) hs
end Go.Proofs.YtngdhjebbhjokaaDoor
end
section
namespace Go.Proofs.YtngdhjebbhjokaaDoor
open Go Go.Ab Go.Is Go.RowKit
set_option maxRecDepth 100000 in
theorem isaParts_lifted (os : Os) (started : os.Started) (H : Type) (enc : TypeId × Value → H) :
    ReturnsInHanded {} Tryd.checked os 6 .any (fun w args => (Rows.isaPartsSpec.pre enc Tryd.prog Tryd.f6 [] false w args ∧ laidMetH Tryd.prog Rows.isaPartsRow.laid w) ∧ sizedMet enc Tryd.prog Tryd.f6 (OpenSpec.ofChange Rows.isaPartsSpec) false w args)
      (Rows.isaPartsSpec.post enc Tryd.prog Tryd.f6 false true false false) := by
  refine law_lifted (C := Tryd.checked) started own (by kernel_rfl) Tryd.func6 laidOut (by kernel_rfl) rfl Tryd.underlying4 rfl (fun ds hd => by
      match ds, hd with
      | [d1, d2], _ => rfl)
    (ChangeSpec.witness_shaped (enc := enc) (C := Tryd.checked) (os := os) (X := fun w _ => laidMetH Tryd.prog Rows.isaPartsRow.laid w) false (World.laidAll Tryd.prog os Rows.isaPartsRow.laid) #[.slice none 0 0, .int .i64 0] 8 (World.laidAll_os _ _ _)
      (World.shaped_of_ZipB (by kernel_rfl) (by kernel_rfl)) (by kernel_rfl) (by kernel_rfl) (by kernel_rfl)
      (by rw [MakeChecks.laidMetH_plain _ _ _ (by kernel_rfl)]; exact laidMet_laidAll _ (by kernel_rfl) (by kernel_rfl))) ?_
  intro W base args ds ps hA hval hL
  rw [show (Tryd.f6.params.toList) = [22, 3] from by rw [Tryd.params6]] at hA
  rw [Tryd.params6] at hval
  obtain ⟨v0, vs0, d0, ds0, p0, q0, rfl, rfl, rfl, h0, r0⟩ := ChangeShapes.trodAll_cons hA
  obtain ⟨v1, vs1, d1, ds1, p1, q1, rfl, rfl, rfl, h1, r1⟩ := ChangeShapes.trodAll_cons r0
  obtain ⟨rfl, rfl, rfl⟩ := ChangeShapes.trodAll_nil r1
  obtain ⟨a0, len0, cap0, rfl, hrow⟩ := open_rowF Tryd.underlying22 insFlat insCells (by decide) (hval 0 _ v0 rfl rfl) h0
  obtain ⟨x1, rfl, rfl, rfl, w1⟩ := ChangeShapes.open_int Tryd.underlying3 (hval 1 _ v1 rfl rfl) h1
  exact calls_law2 (gl_of (by kernel_rfl) hL (by simp [Rows.isaPartsRow]) (by simp [Rows.isaPartsRow]) (by simp [Rows.isaPartsRow]) (by simp [Rows.isaPartsRow]) (by simp [Rows.isaPartsRow])) hrow (pre := []) (post := [I x1]) rfl rfl fun G h t p hpl hpr ho hv hg hs => parts_ok (n := x1) (fun x hx => (hpr x hx).2) hg ho hv hs fun _ => rfl
theorem isaParts_over : Rows.isaPartsRow.holds Tryd.pinned (OpenSpec.ofChange Rows.isaPartsSpec) :=
  OpenClaim.holds_of_wide 6 Tryd.f6 rfl rfl rfl rfl rfl rfl rfl ⟨rfl, rfl, rfl, rfl, rfl⟩ rfl rfl rfl rfl rfl (by kernel_rfl) Tryd.func6 (by kernel_rfl)
    (of_decide_eq_true (by kernel_rfl)) (by unfold Func.isWrapper; first | (rw [if_pos (by decide +kernel)]; kernel_rfl) | (rw [if_neg (by decide +kernel)]; exact ⟨rfl, rfl⟩))
    (fun os started H enc _ => isaParts_lifted os started H enc)
/-- ████ THE STATEMENT ████ -/
theorem isaParts_proved : Rows.IsaPartsCardSaid :=
  Claim7.holds_tied_plain_at .later [] Rows.isaPartsCard.laidKinds true Rows.isaPartsCard.stood.harness true
    isaParts_over (fun _ h => by cases h) (by kernel_rfl) (fun _ h => by cases h) isaParts_row_tie rfl ⟨rfl, rfl⟩ (by kernel_rfl) rfl
    (fun f fn hf hfn => by
      obtain rfl : f = 6 := Option.some.inj ((show Tryd.prog.funcNamed "donjon/donjonlaw10.IsaParts" = some 6 by kernel_rfl).symm.trans hf) |>.symm
      obtain rfl : fn = Tryd.f6 := (Option.some.inj (Tryd.func6.symm.trans hfn)).symm
      exact ⟨by kernel_rfl, fun j t ht => by
        rw [Tryd.params6] at ht
        have hm : t ∈ [22, 3] := by simpa using Array.mem_of_getElem? ht
        have hall : ([22, 3].all fun u => !Tryd.prog.wantsStandIn u) = true := by kernel_rfl
        exact (show Tryd.prog.wantsStandIn t = false by simpa using List.all_eq_true.1 hall t hm)⟩)
    (by kernel_rfl)
end Go.Proofs.YtngdhjebbhjokaaDoor
end
