/- The document's home: a grant, a Take. -/
import Derived.Test.YtagcnlaofkfpjaaDoorB9
import Derived.Test.YtagcnlaofkfpjaaDoorB8
import Derived.Test.YtagcnlaofkfpjaaDoorB7
import Derived.Test.YtagcnlaofkfpjaaDoorB11
section
namespace Go.Proofs.YtagcnlaofkfpjaaDoor
open Go Go.Ab Go.Hm
/-- what a call answers -/
def homAns (C : Cfg) (H : Hom) (o : Op) (j : Int → Int → Int × Bool) : Hom × List Note × Int :=
  if o.ask = 0 then homTake C H o.n else if o.ask = 1 then ((homSweep C H o.line).1, [], (homSweep C H o.line).2) else homBegin C H o.line (fun w => j w o.line)
def Op.at (o : Op) : Int := if o.ask = 0 then o.n.line else o.line
def AInv (H : Hom) (i : Nat) : Prop := ∀ k, k < 4 → LInv k (H k).1 ∧ (H k).1.waits.length ≤ i
def rws (H : Hom) (k : Nat) : List Note := (H k).1.waits.map Note.face
theorem AInv.o {H : Hom} {i : Nat} (h : AInv H i) : OInv H (rws H) i := fun k hk => ⟨(h k hk).1, rfl, (h k hk).2⟩
theorem ainv_of {H : Hom} {R : Nat → List Note} {i : Nat} (h : OInv H R i) : AInv H i := fun k hk => ⟨(h k hk).1, (h k hk).2.2⟩
theorem AInv.h {H : Hom} {i : Nat} (h : AInv H i) (N : Nat) (hN : i ≤ N) : HInv C0 H N := h.o.h N hN
theorem ans_inv {H : Hom} {i : Nat} {o : Op} {j : Int → Int → Int × Bool} (h : AInv H i) : AInv (homAns C0 H o j).1 (i + 1) := by
  unfold homAns
  split
  · have := take_order (n := o.n) h.o
    by_cases hc : (homTake C0 H o.n).2.2 = 0 ∧ (o.n.kind = 1 ∨ o.n.kind = 2 ∨ o.n.kind = 3)
    · exact ainv_of (this.1 hc).2
    · exact ainv_of (this.2 hc)
  · split
    · have := sweep_order (l := o.line) h.o
      by_cases hc : (homSweep C0 H o.line).2 = 0
      · exact ainv_of (this.1 hc).2
      · exact ainv_of (this.2 hc)
    · have := begin_order (l := o.line) (j := fun w => j w o.line) h.o
      by_cases hc : (homBegin C0 H o.line (fun w => j w o.line)).2.2 = 0
      · obtain ⟨_, _, n, w, _, h1, _⟩ := this.2 hc
        exact ainv_of h1
      · exact ainv_of (this.1 hc).2.1
theorem ans_other {H : Hom} {k : Nat} {o : Op} {j : Int → Int → Int × Bool} (h : o.at ≠ (k : Int)) : (homAns C0 H o j).1 k = H k := by
  unfold Op.at at h
  unfold homAns
  split
  · rename_i h0
    rw [if_pos h0] at h
    unfold homTake
    split
    · rfl
    · split
      · rename_i hc
        exact updA_ne (by have := hc.2.1; omega)
      · rfl
  · rename_i h0
    rw [if_neg h0] at h
    split
    · unfold homSweep
      split
      · rename_i hc
        exact updA_ne (by have := hc.1; omega)
      · rfl
    · unfold homBegin
      split
      · rename_i hc
        exact updA_ne (by have := hc.1; omega)
      · rfl
theorem ans_same {A B : Hom} {k : Nat} {o : Op} {j : Int → Int → Int × Bool} (h : o.at = (k : Int)) (he : A k = B k) : (homAns C0 A o j).1 k = (homAns C0 B o j).1 k ∧ (homAns C0 A o j).2 = (homAns C0 B o j).2 := by
  unfold Op.at at h
  unfold homAns
  split
  · rename_i h0
    rw [if_pos h0] at h
    unfold homTake
    split
    · exact ⟨he, rfl⟩
    · split
      · rw [show o.n.line.toNat = k by omega, he]
        exact ⟨by dsimp only; rw [updA_same, updA_same], rfl⟩
      · exact ⟨he, rfl⟩
  · rename_i h0
    rw [if_neg h0] at h
    split
    · unfold homSweep
      split
      · rw [show o.line.toNat = k by omega, he]
        exact ⟨by dsimp only; rw [updA_same, updA_same], rfl⟩
      · exact ⟨he, rfl⟩
    · unfold homBegin
      split
      · rw [show o.line.toNat = k by omega, he]
        exact ⟨by dsimp only; rw [updA_same, updA_same], rfl⟩
      · exact ⟨he, rfl⟩
theorem neA_note {n : Note} {k : Value → Prop} (hk : k (.bool false)) : thn (biA [0, 0, 0, 0, 0, 0, 0, 1, 0] .neq (.agg ⟨n.enc⟩) (.agg ⟨n.enc⟩)) k := ⟨_, by simp [biA, cmpK, cmp1, eqn, Note.enc], hk⟩
attribute [local irreducible] thn Br ld1 ldN stV alc alcAt alcS alcSAt resv padd nilV extV part1 partN lenS lenT biI biT biB biP biS biF biE biA unV idxS idxA pickV appV copyV clearV slS slA slT mkS blkOf at1 atN atS convI convS minV maxV Cl OkF OkR EndX endV beginV defersOf setLoop closeMarks
variable {G : Bg} {h : AH} {L L' : List HP}
theorem answers_ok {hb : Nat} {H : Hom} {o : Op} {bits : Int} {j : Int → Int → Int × Bool} {N : Nat} {Q : Value → AH → Prop} (hlim : Ob G 0 limE) (hj : Judges (.iface 24 (.agg ⟨[I bits]⟩)) j) (hN : N ≤ 1000) (hi : HInv C0 H N) (hs : Hs G h L) [m : Has (homR G hb C0) L H L']
    (hk : ∀ v h', Hs G h' (notesR v (homAns C0 H o j).2.1 :: homR G hb C0 (homAns C0 H o j).1 :: L') → Q (.tuple ⟨[v, I (homAns C0 H o j).2.2]⟩) h') : Cl Pr K 17 [pt hb 0 0, .agg ⟨o.enc⟩, .agg ⟨[I bits]⟩] h Q := by
  refine c17 (b17_0 (r_bx (m.of hs) ?_))
  intro p2 h hs
  refine r_bx hs ?_
  intro p5 h hs
  unfold homAns at hk
  refine r_padd (r_ld hs rfl (r_eqI (r_br (fun h1 => ?_) (fun h1 => b17_1 (r_eqI (r_br (fun h2 => ?_) (fun h2 => ?_)))))))
  · rw [if_pos h1] at hk
    refine r_padd (r_ldN hs (by decide) (l := o.n.enc) rfl rfl (take_ok C0_ok hlim (fun l hl => ⟨(hi l hl).1, by have := (hi l hl).2; omega⟩) hs fun v h hs => ?_))
    exact r_ext rfl (r_ext rfl (hk v h hs.to))
  · rw [if_neg h1, if_pos h2] at hk
    refine r_padd (r_ld hs rfl (sweep_ok (C := C0) (fun l hl => ⟨(hi l hl).1, by have := (hi l hl).2; omega⟩) hs fun h hs => ?_))
    exact hk _ h (notes0 hs).to
  · rw [if_neg h1, if_neg h2] at hk
    refine r_padd (r_ld hs rfl (r_ldN hs (by decide) (l := [I bits]) rfl rfl (begin_ok C0_ok hlim hj hi hs fun v h hs => ?_)))
    exact r_ext rfl (r_ext rfl (hk v h hs.to))
theorem notes_same {v w : Value} {ns : List Note} {Q : Value → AH → Prop} (hlen : ns.length < 2 ^ 40) (hs : Hs G h (notesR v ns :: notesR w ns :: L)) (hk : ∀ h', Hs G h' (notesR v ns :: notesR w ns :: L) → Q (.bool true) h') : Cl Pr K 18 [v, w] h Q := by
  obtain ⟨a, c, hv, hq⟩ := notesE hs
  obtain ⟨a2, c2, hw, hr⟩ := notesE hq.at2
  clear hs hq
  subst hv hw
  refine c18 (b18_0 (r_lenS (r_lenS (r_neI (r_brF (by simp) (b18_1 ?_))))))
  have loop : ∀ (f i : Nat) (h : AH) (g : HP), i + f = ns.length → Hs G h (slc 9 38 a2 c2 (ns.length, encNs ns) :: slc 9 38 a c (ns.length, encNs ns) :: g :: L) →
      A18_2 Q (.slice a ns.length c) (.slice a2 ns.length c2) (I i) h := by
    intro f
    induction f with
    | zero =>
      intro i h g hi hs
      exact b18_2 (r_lenS (r_ltI (r_brF (by omega) (hk h (notesI rfl rfl (notesI rfl rfl hs).at2).to))))
    | succ f ih =>
      intro i h g hi hs
      have hlt : i < ns.length := by omega
      have hat := encNs_at ns i ns[i] (List.getElem?_eq_getElem hlt)
      refine b18_2 (r_lenS (r_ltI (r_brT (by omega) (b18_3 (r_resv hs ?_)))))
      intro rv h hs
      have hs : Hs G h (slc 9 38 a2 c2 (ns.length, encNs ns) :: slc 9 38 a c (ns.length, encNs ns) :: sp [frK rv (9, []), g] :: L) := hs.to
      obtain ⟨b2, o2, rfl, H2, hs2, _⟩ := hs.slcOpen (by omega)
      obtain ⟨b, o, rfl, H, hs1, _⟩ := hs.at2.slcOpen (by omega)
      refine r_idxN hlt (r_ldNI hs1 (by decide) (l := ns[i].enc) hat rfl (r_idxN hlt (r_ldNI hs2 (by decide) (l := ns[i].enc) hat rfl (neA_note (r_brf (b18_4 (r_addI (by omega) (ih (i + 1) h _ (by omega) hs))))))))
  exact loop ns.length 0 h (sp []) (by omega) hr.to
theorem ints_same {v w : Value} {l : List Int} {Q : Value → AH → Prop} (hlen : l.length < 2 ^ 40) (hs : Hs G h (intsR 3 v l :: intsR 3 w l :: L)) (hk : ∀ h', Hs G h' L → Q (.bool true) h') : Cl Pr K 20 [v, w] h Q := by
  obtain ⟨a, c, hv, hq⟩ := intsE hs
  obtain ⟨a2, c2, hw, hr⟩ := intsE hq.at2
  clear hs hq
  subst hv hw
  refine c20 (b20_0 (r_lenS (r_lenS (r_neI (r_brF (by simp) (b20_1 ?_))))))
  have loop : ∀ (f i : Nat) (h : AH) (g : HP), i + f = l.length → Hs G h (slc 1 3 a2 c2 (l.length, l.map I) :: slc 1 3 a c (l.length, l.map I) :: g :: L) →
      A20_2 Q (.slice a l.length c) (.slice a2 l.length c2) (I i) h := by
    intro f
    induction f with
    | zero =>
      intro i h g hi hs
      exact b20_2 (r_lenS (r_ltI (r_brF (by omega) (hk h hs.to))))
    | succ f ih =>
      intro i h g hi hs
      have hlt : i < l.length := by omega
      have hat : (l.map I)[i * 1 + 0]? = some (I l[i]) := by rw [Nat.mul_one, Nat.add_zero, List.getElem?_map, List.getElem?_eq_getElem hlt]; rfl
      refine b20_2 (r_lenS (r_ltI (r_brT (by omega) (b20_3 (r_resv hs ?_)))))
      intro rv h hs
      have hs : Hs G h (slc 1 3 a2 c2 (l.length, l.map I) :: slc 1 3 a c (l.length, l.map I) :: sp [frK rv (9, []), g] :: L) := hs.to
      obtain ⟨b2, o2, rfl, H2, hs2, _⟩ := hs.slcOpen (by omega)
      obtain ⟨b, o, rfl, H, hs1, _⟩ := hs.at2.slcOpen (by omega)
      refine r_idxN hlt (r_ldI hs1 hat (r_idxN hlt (r_ldI hs2 hat (r_neI (r_brF (by simp) (b20_4 (r_addI (by omega) (ih (i + 1) h _ (by omega) hs))))))))
  exact loop l.length 0 h (sp []) (by omega) hr.to
end Go.Proofs.YtagcnlaofkfpjaaDoor
end
section
namespace Go.Proofs.YtagcnlaofkfpjaaDoor
open Go Go.Ab Go.Hm
theorem eqA2 {d : Ln} {k : Value → Prop} (hk : k (.bool true)) : thn (biA [0, 0] .eql (.agg ⟨lnE d⟩) (.agg ⟨lnE d⟩)) k := ⟨_, by simp [biA, cmpK, cmp1, eqn, lnE], hk⟩
theorem r_eqBs {b : Bool} {k : Value → Prop} (hk : k (.bool true)) : thn (biB .eql (.bool b) (.bool b)) k := ⟨_, by simp [biB, eqn], hk⟩
theorem reply_len {x : Lin} {l : Int} {n : Note} : (Lin.reply x l n).2.length ≤ 4 := by
  unfold Lin.reply Row.rest
  simp only
  split
  · split
    · simp
    · exact grant_len
  · simp
theorem ans_len {A : Hom} {o : Op} {j : Int → Int → Int × Bool} : (homAns C0 A o j).2.1.length ≤ 4 := by
  unfold homAns
  split
  · unfold homTake
    split
    · simp
    · split
      · unfold Lin.take
        split
        · split <;> simp
        · split
          · split
            · simp
            · exact reply_len
          · simp
      · simp
  · split
    · simp
    · exact homBegin_len
attribute [local irreducible] thn Br ld1 ldN stV alc alcAt alcS alcSAt resv padd nilV extV part1 partN lenS lenT biI biT biB biP biS biF biE biA unV idxS idxA pickV appV copyV clearV slS slA slT mkS blkOf at1 atN atS convI convS minV maxV Cl OkF OkR EndX endV beginV defersOf setLoop closeMarks
variable {G : Bg} {h : AH} {L L' : List HP}
section
variable {ha hb p2 : Nat} {bits : Int} {A B : Hom} {Q : Value → AH → Prop} {k : Nat}
theorem apart_end (hlim : Ob G 0 limE) (hk4 : k < 4) (he : A k = B k) {g : HP} (hs : Hs G h (homR G ha C0 A :: homR G hb C0 B :: g :: L)) (hk : ∀ h', Q (.bool true) h') : A4_4 Q (I k) (pt ha 0 0) (pt hb 0 0) h := by
  have hhas : C0.has (k : Int) := ⟨by omega, by show (k : Int) < 4; omega⟩
  have hw : ∀ H, homWho C0 H k = ((H k).1.owner, (H k).1.sharers, 0) := fun H => by unfold homWho; rw [if_pos hhas]; rfl
  have hwt : ∀ H, homWaits C0 H k = ((H k).1.waits.length : Int) := fun H => by unfold homWaits; rw [if_pos hhas]; rfl
  have hbz : ∀ H, homBusy C0 H k = (H k).1.busy := fun H => by unfold homBusy; rw [decide_eq_true hhas]; simp
  refine b4_4 (who_ok (C := C0) (H := A) hs fun v h hs => ?_)
  rw [hw] at hs ⊢
  refine r_ext rfl (r_ext rfl (r_ext rfl (who_ok (C := C0) (H := B) hs fun w h hs => ?_)))
  rw [hw] at hs ⊢
  dsimp only at hs ⊢
  rw [he] at hs ⊢
  refine r_ext rfl (r_ext rfl (r_ext rfl ?_))
  have hs : Hs G h (homR G ha C0 A :: intsR 3 v (natsI (B k).1.sharers) :: intsR 3 w (natsI (B k).1.sharers) :: homR G hb C0 B :: g :: L) := hs.to
  obtain ⟨mb, b, o, cap, hs⟩ := hom_open hs
  refine r_nilP (r_padd (r_ld hs rfl (read_ok (C := C0) C0_ok hlim hs hk4 fun h hs => ?_)))
  have hs := hom_end C0 A ha mb b o cap hs
  refine r_ext rfl (r_ext rfl (r_new hs ?_))
  intro pa h hs
  refine r_stW hs rfl rfl rfl rfl ?_
  intro h hs
  have hs : Hs G h (homR G hb C0 B :: homR G ha C0 A :: intsR 3 v (natsI (B k).1.sharers) :: intsR 3 w (natsI (B k).1.sharers) :: seg pa 0 (lnE (A k).2) :: g :: L) := hs.to
  obtain ⟨mb, b, o, cap, hs⟩ := hom_open hs
  refine r_nilP (r_padd (r_ld hs rfl (read_ok (C := C0) C0_ok hlim hs hk4 fun h hs => ?_)))
  have hs := hom_end C0 B hb mb b o cap hs
  refine r_ext rfl (r_ext rfl (r_new hs ?_))
  intro pb h hs
  refine r_stW hs rfl rfl rfl rfl ?_
  intro h hs
  refine r_eqI (r_brT rfl ?_)
  have hs : Hs G h (intsR 3 v (natsI (B k).1.sharers) :: intsR 3 w (natsI (B k).1.sharers) :: homR G ha C0 A :: homR G hb C0 B :: seg pa 0 (lnE (A k).2) :: seg pb 0 (lnE (B k).2) :: g :: L) := hs.to
  have hsl : (natsI (B k).1.sharers).length < 2 ^ 40 := by
    have := sharersF_len (r := (B k).1) 4 0
    simp only [natsI, List.length_map]
    show (B k).1.sharers.length < _
    unfold Row.sharers; omega
  refine ints_same hsl hs fun h hs => r_brt ?_
  refine r_ldN hs (by decide) (l := lnE (A k).2) rfl rfl (r_ldN hs (by decide) (l := lnE (B k).2) rfl rfl ?_)
  rw [he]
  refine eqA2 (r_brt ?_)
  refine busy_ok (C := C0) (H := A) hs fun hs => busy_ok (C := C0) (H := B) hs fun hs => ?_
  rw [hbz, hbz, he]
  refine r_eqBs (r_brt ?_)
  refine waits_ok (C := C0) (H := A) hs fun hs => waits_ok (C := C0) (H := B) hs fun hs => ?_
  rw [hwt, hwt, he]
  exact r_eqI (r_brT rfl (awake_ok (hk _)))
theorem apart_loop {t0 : Value} {N : Nat} {ops : Nat → Op} {j : Int → Int → Int × Bool} (hlim : Ob G 0 limE) (hj : Judges (.iface 24 (.agg ⟨[I bits]⟩)) j) (hN : N ≤ 60) (hold : Old G 11 t0 N fun i => (ops i).enc) (hk4 : k < 4)
    (hk : ∀ h', Q (.bool true) h') : ∀ (f i : Nat) (h : AH) (A B : Hom) (g : HP), i + f = N → AInv A i → AInv B i → A k = B k → Hs G h (homR G ha C0 A :: homR G hb C0 B :: g :: seg p2 0 [I bits] :: L) →
      A4_2 Q t0 (I k) (pt p2 0 0) (pt ha 0 0) (pt hb 0 0) (I i) h := by
  intro f
  induction f with
  | zero =>
    intro i h A B g hi hA hB he hs
    exact b4_2 (old_len hold (r_ltI (r_brF (by omega) (apart_end hlim hk4 he hs hk))))
  | succ f ih =>
    intro i h A B g hi hA hB he hs
    refine b4_2 (old_len hold (r_ltI (r_brT (by omega) (b4_3 (old_ld hold (by omega) rfl hs (r_new hs ?_))))))
    intro p3 h hs
    generalize ops i = o
    refine r_stW hs rfl rfl rfl rfl ?_
    intro h hs
    have hs : Hs G h (homR G ha C0 A :: homR G hb C0 B :: seg p3 0 o.enc :: g :: seg p2 0 [I bits] :: L) := hs.to
    have nx : ∀ h B' g, AInv B' (i + 1) → (homAns C0 A o j).1 k = B' k → Hs G h (homR G ha C0 (homAns C0 A o j).1 :: homR G hb C0 B' :: g :: seg p2 0 [I bits] :: L) → A4_7 Q t0 (I k) (pt p2 0 0) (pt ha 0 0) (pt hb 0 0) (I i) h := fun h B' g h1 h2 hs =>
      b4_7 (r_addI (by omega) (ih (i + 1) h _ B' g (by omega) (ans_inv hA) h1 h2 hs))
    have two : ∀ h v, o.at = (k : Int) → Hs G h (notesR v (homAns C0 A o j).2.1 :: homR G ha C0 (homAns C0 A o j).1 :: homR G hb C0 B :: seg p3 0 o.enc :: g :: seg p2 0 [I bits] :: L) →
        A4_8 Q t0 (I k) (pt p2 0 0) (pt ha 0 0) (pt hb 0 0) (I i) (pt p3 0 0) v (I (homAns C0 A o j).2.2) h := fun h v hat hs => by
      have hsm := ans_same (j := j) hat he
      refine b4_8 (r_ldN hs (by decide) (l := o.enc) rfl rfl (r_ldN hs (by decide) (l := [I bits]) rfl rfl (answers_ok hlim hj (N := 1000) (by omega) (hB.h 1000 (by omega)) hs fun w h hs => ?_)))
      refine r_ext rfl (r_ext rfl ?_)
      rw [← hsm.2] at hs ⊢
      have hlen : (homAns C0 A o j).2.1.length < 2 ^ 40 := by
        have := ans_len (A := A) (o := o) (j := j); omega
      refine notes_same (v := v) (w := w) (L := [homR G ha C0 (homAns C0 A o j).1, homR G hb C0 (homAns C0 B o j).1, seg p3 0 o.enc, g] ++ seg p2 0 [I bits] :: L) hlen hs.to fun h hs => r_not (r_brf (r_neI (r_brF (by simp) ?_)))
      exact nx h (homAns C0 B o j).1 (sp [notesR v (homAns C0 A o j).2.1, notesR w (homAns C0 A o j).2.1, seg p3 0 o.enc, g]) (ans_inv hB) hsm.1 hs.to
    have other : ∀ h v, o.at ≠ (k : Int) → Hs G h (notesR v (homAns C0 A o j).2.1 :: homR G ha C0 (homAns C0 A o j).1 :: homR G hb C0 B :: seg p3 0 o.enc :: g :: seg p2 0 [I bits] :: L) →
        A4_7 Q t0 (I k) (pt p2 0 0) (pt ha 0 0) (pt hb 0 0) (I i) h := fun h v hat hs =>
      nx h B (sp [notesR v (homAns C0 A o j).2.1, seg p3 0 o.enc, g]) (fun k hk => ⟨(hB k hk).1, by have := (hB k hk).2; omega⟩) ((ans_other hat).trans he) hs.to
    refine r_padd (r_ld hs rfl (r_padd (r_ld hs rfl (r_eqI (r_br (fun h1 => b4_5 ?_) (fun h1 => b4_6 ?_))))))
    · have e : o.at = o.n.line := by unfold Op.at; rw [if_pos h1]
      refine r_padd (r_padd (r_ld hs rfl (r_ldN hs (by decide) (l := o.enc) rfl rfl (r_ldN hs (by decide) (l := [I bits]) rfl rfl (answers_ok hlim hj (N := 1000) (by omega) (hA.h 1000 (by omega)) hs fun v h hs => ?_)))))
      have hs : Hs G h (notesR v (homAns C0 A o j).2.1 :: homR G ha C0 (homAns C0 A o j).1 :: homR G hb C0 B :: seg p3 0 o.enc :: g :: seg p2 0 [I bits] :: L) := hs.to
      exact r_ext rfl (r_ext rfl (r_neI (r_br (fun h2 => other h v (by rw [e]; exact h2) hs) (fun h2 => two h v (by rw [e]; omega) hs))))
    · have e : o.at = o.line := by unfold Op.at; rw [if_neg h1]
      refine r_ldN hs (by decide) (l := o.enc) rfl rfl (r_ldN hs (by decide) (l := [I bits]) rfl rfl (answers_ok hlim hj (N := 1000) (by omega) (hA.h 1000 (by omega)) hs fun v h hs => ?_))
      have hs : Hs G h (notesR v (homAns C0 A o j).2.1 :: homR G ha C0 (homAns C0 A o j).1 :: homR G hb C0 B :: seg p3 0 o.enc :: g :: seg p2 0 [I bits] :: L) := hs.to
      exact r_ext rfl (r_ext rfl (r_neI (r_br (fun h2 => other h v (by rw [e]; exact h2) hs) (fun h2 => two h v (by rw [e]; omega) hs))))
end
theorem AInv0 : AInv (homM C0.lines) 0 := fun k hk4 => by
  have : (homM C0.lines k).1 = row0 := by unfold homM; rw [if_pos (show k < C0.lines from hk4)]
  rw [this]
  exact ⟨LInv0 k, Nat.le_refl _⟩
theorem apart_ok {t0 : Value} {bits line : Int} {N : Nat} {ops : Nat → Op} {Q : Value → AH → Prop} {j : Int → Int → Int × Bool} (hlim : Ob G 0 limE) (hj : Judges (.iface 24 (.agg ⟨[I bits]⟩)) j) (hold : Old G 11 t0 N fun i => (ops i).enc) (hs : Hs G h L)
    (hk : ∀ h', Q (.bool true) h') : Cl Pr K 4 [t0, .agg ⟨[I bits]⟩, I line] h Q := by
  refine c4 (b4_0 (r_bx hs ?_))
  intro p2 h hs
  refine small_ok hs fun h hs => homeNew_ok C0_ok hlim hs fun ha h hs => r_ext rfl (r_ext rfl ?_)
  refine small_ok hs fun h hs => homeNew_ok C0_ok hlim hs fun hb h hs => r_ext rfl (r_ext rfl ?_)
  refine r_ptEq (r_brf (r_ptEq (r_brf (r_neI (r_brF (by omega) (r_neI (r_brF (by omega) (old_len hold (r_gtI (r_br (fun h1 => ?_) (fun h1 => ?_)))))))))))
  · exact r_ptNe (r_brt (r_eqI (r_brT rfl (awake_ok (hk _)))))
  · refine r_ltI (r_br (fun h2 => r_ptNe (r_brt (r_eqI (r_brT rfl (awake_ok (hk _)))))) (fun h2 => r_gtI (r_br (fun h3 => r_ptNe (r_brt (r_eqI (r_brT rfl (awake_ok (hk _)))))) (fun h3 => ?_))))
    obtain ⟨k, rfl⟩ := Int.eq_ofNat_of_zero_le (show 0 ≤ line by omega)
    exact b4_1 (apart_loop (L := L) hlim hj (by omega) hold (by omega) hk N 0 h (homM C0.lines) (homM C0.lines) (sp []) (by omega) AInv0 AInv0 rfl hs.to)
end Go.Proofs.YtagcnlaofkfpjaaDoor
end
section
namespace Go.Hm
open Go Go.Ab
def isSw (n : Note) : Bool := decide (n.kind = 0)
def Row.cur (r : Row) : Nat := if r.busy = true ∧ r.served.kind = 0 then 1 else 0
def Row.sw (r : Row) : Nat := r.cur + r.waits.countP isSw
structure SInv (r : Row) : Prop where
  gk : r.granted = true → r.served.kind ≠ 0
  hold : r.busy = true → r.served.kind = 0 → ∀ i : Nat, i < 4 → (r.sh i = true ∨ (i : Int) = r.owner) → r.asked i = true
theorem SInv0 : SInv row0 := ⟨by simp [row0], by simp [row0]⟩
/-- a sweep is over: no one has the line -/
def Row.none' (r : Row) : Prop := r.owner = -1 ∧ (∀ i, i < 4 → r.sh i = false) ∧ r.busy = false
theorem sharers_nil {r : Row} (h : ∀ i, i < 4 → r.sh i = false) : r.sharers = [] := by
  unfold Row.sharers
  have h0 := h 0 (by omega); have h1 := h 1 (by omega); have h2 := h 2 (by omega); have h3 := h 3 (by omega)
  simp [Row.sharersF, h0, h1, h2, h3]
def Over (r r' : Row) : Prop := r'.sw < r.sw → r'.sw + 1 = r.sw ∧ r'.none'
theorem over_same {r r' : Row} (h1 : r'.cur = r.cur) (h2 : r'.waits = r.waits) : Over r r' := fun h => by unfold Row.sw at h; rw [h1, h2] at h; omega
theorem grant_cur {r : Row} {l : Int} {d : Ln} : (r.grant l d).1.cur = r.cur ∧ (r.grant l d).1.waits = r.waits ∧ (r.served.kind ≠ 0 → SInv (r.grant l d).1) := by
  unfold Row.grant
  split
  · exact ⟨rfl, rfl, fun h => ⟨fun _ => h, fun _ h2 => absurd h2 h⟩⟩
  · split
    · exact ⟨rfl, rfl, fun h => ⟨fun _ => h, fun _ h2 => absurd h2 h⟩⟩
    · exact ⟨rfl, rfl, fun h => ⟨fun _ => h, fun _ h2 => absurd h2 h⟩⟩
theorem quiet_all {r : Row} (h : r.quiet = true) : ∀ i, i < 4 → r.asked i = false := by
  unfold Row.quiet at h
  simp at h
  intro i hi
  have : i = 0 ∨ i = 1 ∨ i = 2 ∨ i = 3 := by omega
  rcases this with rfl | rfl | rfl | rfl
  · exact h.1.1.1
  · exact h.1.1.2
  · exact h.1.2
  · exact h.2
theorem heard_sinv {r : Row} {n : Note} (h : SInv r) (hc : 0 ≤ n.core ∧ n.core < 4) : SInv (r.heard n) ∧ (r.heard n).cur = r.cur ∧ (r.heard n).waits = r.waits ∧ (r.heard n).served = r.served ∧ (r.heard n).busy = r.busy ∧ (r.heard n).granted = r.granted := by
  unfold Row.heard
  split
  · refine ⟨⟨h.gk, fun hb hk i hi ho => ?_⟩, rfl, rfl, rfl, rfl, rfl⟩
    show updB r.asked n.core false i = true
    have ho : updB r.sh n.core false i = true ∨ (i : Int) = (if r.owner = n.core then -1 else r.owner) := ho
    unfold updB at ho ⊢
    have hne : (i : Int) ≠ n.core := by
      intro e
      rw [if_pos e] at ho
      rcases ho with ho | ho
      · cases ho
      · split at ho <;> omega
    rw [if_neg hne] at ho ⊢
    refine h.hold hb hk i hi ?_
    rcases ho with ho | ho
    · exact .inl ho
    · split at ho
      · omega
      · exact .inr ho
  · rename_i h1
    have h1 : r.served.kind = 1 := by simpa using h1
    split
    · split
      · exact ⟨⟨h.gk, fun _ hk => by have : r.served.kind = 0 := hk; omega⟩, rfl, rfl, rfl, rfl, rfl⟩
      · exact ⟨⟨h.gk, fun _ hk => by have : r.served.kind = 0 := hk; omega⟩, rfl, rfl, rfl, rfl, rfl⟩
    · split
      · exact ⟨⟨h.gk, fun _ hk => by have : r.served.kind = 0 := hk; omega⟩, rfl, rfl, rfl, rfl, rfl⟩
      · exact ⟨⟨h.gk, fun _ hk => by have : r.served.kind = 0 := hk; omega⟩, rfl, rfl, rfl, rfl, rfl⟩
theorem free_sinv {r : Row} : SInv r.free := ⟨fun h => (by cases h), fun h => (by cases h)⟩
theorem free_cur {r : Row} : r.free.cur = 0 := by unfold Row.cur Row.free; simp
theorem wait_sw {r : Row} {n : Note} : (r.wait n).sw = r.sw + (if n.kind = 0 then 1 else 0) := by
  unfold Row.sw Row.wait Row.cur isSw
  simp only [List.countP_append, List.countP_singleton]
  by_cases h : n.kind = 0 <;> simp [h] <;> omega
theorem wait_sinv {r : Row} {n : Note} (h : SInv r) : SInv (r.wait n) := ⟨h.gk, h.hold⟩
theorem take_sw {k : Nat} {x : Lin} {n : Note} (h : LInv k x.1) (hs : SInv x.1) (ht : takes n.kind) (hn : 0 ≤ n.core ∧ n.core < 4) :
    SInv (Lin.take x k n).1.1 ∧ ((Lin.take x k n).1.1.sw < x.1.sw → (Lin.take x k n).2.2 = 0 ∧ (Lin.take x k n).1.1.sw + 1 = x.1.sw ∧ (Lin.take x k n).1.1.none' ∧ (n.dirty = true → (Lin.take x k n).1.2 = (n.d0, n.d1))) := by
  unfold Lin.take
  split
  · split
    · exact ⟨hs, fun h => by simp at h⟩
    · rename_i h2
      have hg : x.1.granted = true := by
        cases hg : x.1.granted with
        | true => rfl
        | false => exact absurd (.inl hg) h2
      refine ⟨free_sinv, fun hlt => ?_⟩
      have hk := hs.gk hg
      exfalso
      have : x.1.cur = 0 := by unfold Row.cur; rw [if_neg (fun e => hk e.2)]
      have hlt : x.1.free.cur + x.1.waits.countP isSw < x.1.cur + x.1.waits.countP isSw := hlt
      omega
  · split
    · split
      · exact ⟨hs, fun h => by simp at h⟩
      · rename_i ha
        obtain ⟨a1, a2, a3, a4, a5, a6⟩ := heard_sinv (n := n) hs hn
        have hl := heard_lsrv (n := n) h hn (by simpa using ha)
        unfold Lin.reply Row.rest
        simp only
        split
        · rename_i hq
          split
          · rename_i h0
            refine ⟨free_sinv, fun hlt => ⟨trivial, ?_, ?_, ?_⟩⟩
            · show (x.1.heard n).free.cur + (x.1.heard n).waits.countP isSw + 1 = _
              rw [free_cur, a3]
              unfold Row.sw Row.cur
              rw [if_pos ⟨a5 ▸ hl.busy, a4 ▸ h0⟩]; omega
            · have hall := quiet_all hq
              have hno : ∀ i : Nat, i < 4 → ¬ ((x.1.heard n).sh i = true ∨ (i : Int) = (x.1.heard n).owner) := fun i hi ho => by
                have := a1.hold hl.busy h0 i hi ho
                rw [hall i hi] at this; cases this
              refine ⟨?_, fun i hi => ?_, rfl⟩
              · show (x.1.heard n).owner = -1
                have := hl.owner
                have e0 := hno 0 (by omega)
                have e1 := hno 1 (by omega)
                have e2 := hno 2 (by omega)
                have e3 := hno 3 (by omega)
                simp only [not_or, Int.ofNat_zero, Int.natCast_one, Int.cast_ofNat_Int] at e0 e1 e2 e3
                omega
              · show (x.1.heard n).sh i = false
                have := fun e => hno i hi (.inl e)
                simpa using this
            · intro hd
              show x.1.heardM x.2 n = _
              unfold Row.heardM
              rw [if_pos ⟨by rw [← a4, h0]; decide, hd⟩]
          · rename_i h0
            obtain ⟨g1, g2, g3⟩ := grant_cur (r := x.1.heard n) (l := k) (d := (x.1.heard n).dat (x.1.heardM x.2 n))
            refine ⟨g3 h0, fun hlt => ?_⟩
            have := over_same (g1.trans a2) (g2.trans a3) hlt
            have hlt : ((x.1.heard n).grant k ((x.1.heard n).dat (x.1.heardM x.2 n))).1.sw < x.1.sw := hlt
            unfold Row.sw at hlt
            rw [g1, g2, a2, a3] at hlt
            omega
        · refine ⟨a1, fun hlt => ?_⟩
          have hlt : (x.1.heard n).sw < x.1.sw := hlt
          unfold Row.sw at hlt
          rw [a2, a3] at hlt
          omega
    · refine ⟨wait_sinv hs, fun hlt => ?_⟩
      have hlt : (x.1.wait n).sw < x.1.sw := hlt
      rw [wait_sw] at hlt
      omega
theorem firstF_holds {r : Row} {x : Int} : ∀ (f i : Nat), r.firstF x f i = -1 → ∀ c, i ≤ c → c < i + f → r.holds x c = false := by
  intro f
  induction f with
  | zero => intro i h c h1 h2; omega
  | succ f ih =>
    intro i h c h1 h2
    unfold Row.firstF at h
    split at h
    · omega
    · rename_i hh
      by_cases e : c = i
      · subst e; simpa using hh
      · exact ih (i + 1) h c (by omega) (by omega)
theorem mem_holdersF {r : Row} {x : Int} : ∀ (f i c : Nat), i ≤ c → c < i + f → r.holds x c = true → c ∈ r.holdersF x f i := by
  intro f
  induction f with
  | zero => intro i c h1 h2; omega
  | succ f ih =>
    intro i c h1 h2 h
    unfold Row.holdersF
    by_cases e : c = i
    · subst e; rw [if_pos h]; exact List.mem_cons_self
    · have := ih (i + 1) c (by omega) (by omega) h
      split
      · exact List.mem_cons_of_mem _ this
      · exact this
theorem holds_of {r : Row} {i : Nat} (h : r.sh i = true ∨ (i : Int) = r.owner) : r.holds (-1) i = true := by
  rcases h with h | h
  · exact holds1 (by omega) h
  · exact holds2 (by omega) h
theorem get_sinv {r : Row} {l : Int} {m : Ln} {n : Note} {w : Int} (hg : r.granted = false) (hk : n.kind ≠ 0) : SInv (r.get l m n w).1 ∧ (r.get l m n w).1.cur = 0 ∧ (r.get l m n w).1.waits = r.waits := by
  have key : ∀ (r : Row) (l : List Nat), r.served.kind ≠ 0 → SInv (r.askAll l) ∧ (r.askAll l).cur = 0 := fun r l h => ⟨⟨fun _ => h, fun _ h2 => absurd h2 h⟩, by unfold Row.cur; rw [if_neg (fun e => h e.2)]⟩
  have key2 : ∀ (r : Row) (l : Int) (d : Ln), r.served.kind ≠ 0 → SInv (r.grant l d).1 ∧ (r.grant l d).1.cur = 0 := fun r l d h => by
    obtain ⟨g1, g2, g3⟩ := grant_cur (r := r) (l := l) (d := d)
    exact ⟨g3 h, by rw [g1]; unfold Row.cur; rw [if_neg (fun e => h e.2)]⟩
  have hu : (r.serve n w).unown.served.kind ≠ 0 := by unfold Row.unown; split <;> exact hk
  have hw := get_waits (r := r) (line := l) (m := m) (n := n) (w := w)
  refine (and_assoc (c := (r.get l m n w).1.waits = r.waits)).1 ⟨?_, hw⟩
  unfold Row.get
  simp only
  split
  · unfold Row.getM
    split
    · exact key (r.serve n w) _ hk
    · exact key2 (r.serve n w) _ _ hk
  · unfold Row.getS
    split
    · exact key _ _ hu
    · exact key2 _ _ _ hu
theorem begin_sw {k : Nat} {x : Lin} {j : Int → Int × Bool} (h : LInv k x.1) (hs : SInv x.1) :
    SInv (Lin.begin x k j).1.1 ∧ ((Lin.begin x k j).1.1.sw < x.1.sw → (Lin.begin x k j).2.2 = 0 ∧ (Lin.begin x k j).1.1.sw + 1 = x.1.sw ∧ (Lin.begin x k j).1.1.none') := by
  unfold Lin.begin
  split
  · exact ⟨hs, fun h => by simp at h⟩
  · rename_i hb
    have hb : x.1.busy = false := by simpa using hb
    have hg : x.1.granted = false := by
      cases hg : x.1.granted with
      | false => rfl
      | true => have := h.gb hg; rw [hb] at this; cases this
    have hc0 : x.1.cur = 0 := by unfold Row.cur; rw [if_neg (fun e => by rw [hb] at e; simp at e)]
    split
    · exact ⟨hs, fun h => by simp at h⟩
    · rename_i n w hw
      have hsw : x.1.sw = (if n.kind = 0 then 1 else 0) + w.countP isSw := by
        unfold Row.sw
        rw [hc0, hw, List.countP_cons]
        unfold isSw
        by_cases h : n.kind = 0 <;> simp [h] <;> omega
      simp only
      unfold Row.begun
      split
      · rename_i h3
        refine ⟨⟨hs.gk, fun hb' => ?_⟩, fun hlt => ?_⟩
        · have : x.1.busy = true := hb'
          rw [hb] at this; cases this
        · exfalso
          have hlt : x.1.cur + w.countP isSw < x.1.sw := hlt
          rw [hsw, hc0, if_neg (by omega)] at hlt
          omega
      · split
        · rename_i h12
          split
          · obtain ⟨a1, a2, a3⟩ := get_sinv (r := x.1.next w) (l := k) (m := x.2) (n := n) (w := (j n.world).1) hg (by omega)
            refine ⟨a1, fun hlt => ?_⟩
            exfalso
            have hlt : ((x.1.next w).get k x.2 n (j n.world).1).1.sw < x.1.sw := hlt
            unfold Row.sw at hlt
            have hsw' : x.1.cur + x.1.waits.countP isSw = (if n.kind = 0 then 1 else 0) + w.countP isSw := hsw
            rw [a2, a3, hsw', if_neg (by omega)] at hlt
            have : (x.1.next w).waits = w := rfl
            rw [this] at hlt
            omega
          · refine ⟨⟨hs.gk, fun hb' => ?_⟩, fun hlt => ?_⟩
            · have : x.1.busy = true := hb'
              rw [hb] at this; cases this
            · exfalso
              have hlt : x.1.cur + w.countP isSw < x.1.sw := hlt
              rw [hsw, hc0, if_neg (by omega)] at hlt
              omega
        · rename_i h3 h12
          have hk0 : n.kind = 0 := by
            have := (h.waits n (by rw [hw]; exact List.mem_cons_self)).2.2
            omega
          split
          · rename_i hf
            refine ⟨⟨hs.gk, fun hb' => ?_⟩, fun hlt => ⟨trivial, ?_, ?_⟩⟩
            · have : x.1.busy = true := hb'
              rw [hb] at this; cases this
            · show x.1.cur + w.countP isSw + 1 = x.1.sw
              rw [hsw, hc0, if_pos hk0]; omega
            · have hh := firstF_holds 4 0 hf
              have hno : ∀ i : Nat, i < 4 → ¬ (x.1.sh i = true ∨ (i : Int) = x.1.owner) := fun i hi ho => by
                have h1 := holds_of (r := x.1.next w) ho
                rw [hh i (by omega) (by omega)] at h1; cases h1
              refine ⟨?_, fun i hi => ?_, hb⟩
              · show x.1.owner = -1
                have := h.owner
                have e0 := hno 0 (by omega)
                have e1 := hno 1 (by omega)
                have e2 := hno 2 (by omega)
                have e3 := hno 3 (by omega)
                simp only [not_or, Int.ofNat_zero, Int.natCast_one, Int.cast_ofNat_Int] at e0 e1 e2 e3
                omega
              · show x.1.sh i = false
                have := fun e => hno i hi (.inl e)
                simpa using this
          · refine ⟨⟨fun hg' => ?_, fun _ _ i hi ho => ?_⟩, fun hlt => ?_⟩
            · have : x.1.granted = true := hg'
              rw [hg] at this; cases this
            · show ((x.1.asked i) || ((x.1.next w).holders (-1)).contains i) = true
              have := mem_holdersF (r := x.1.next w) (x := -1) 4 0 i (by omega) (by omega) (holds_of ho)
              have : i ∈ (x.1.next w).holders (-1) := this
              simp [this]
            · exfalso
              have hcur : (((x.1.next w).serve0 n).askAll ((x.1.next w).holders (-1))).cur = 1 := by unfold Row.cur; rw [if_pos ⟨rfl, hk0⟩]
              have hlt : (((x.1.next w).serve0 n).askAll ((x.1.next w).holders (-1))).cur + w.countP isSw < x.1.sw := hlt
              rw [hcur, hsw, if_pos hk0] at hlt
              omega
end Go.Hm
end
section
namespace Go.Proofs.YtagcnlaofkfpjaaDoor
open Go Go.Ab Go.Hm
def homSweeps (C : Cfg) (H : Hom) (l : Int) : Nat := if C.has l then (H l.toNat).1.sw else 0
def SwInv (H : Hom) : Prop := ∀ k, k < 4 → SInv (H k).1
theorem ans_swept {H : Hom} {i k : Nat} {o : Op} {j : Int → Int → Int × Bool} (hA : AInv H i) (hS : SwInv H) (hk : k < 4) :
    SInv ((homAns C0 H o j).1 k).1 ∧ (((homAns C0 H o j).1 k).1.sw < (H k).1.sw → (homAns C0 H o j).2.2 = 0 ∧ ((homAns C0 H o j).1 k).1.sw + 1 = (H k).1.sw ∧ ((homAns C0 H o j).1 k).1.none' ∧
      (o.ask = 0 → o.n.dirty = true → ((homAns C0 H o j).1 k).2 = (o.n.d0, o.n.d1))) := by
  by_cases hat : o.at = (k : Int)
  · have hl := (hA k hk).1
    have hs := hS k hk
    unfold Op.at at hat
    unfold homAns
    split
    · rename_i h0
      rw [if_pos h0] at hat
      unfold homTake
      split
      · exact ⟨hs, fun h => by simp at h⟩
      · rename_i ht
        split
        · rename_i hc
          have e : o.n.line.toNat = k := by omega
          rw [e, hat]
          dsimp only
          rw [updA_same]
          have hc3 : o.n.core < 3 := hc.1.2
          obtain ⟨a, b⟩ := take_sw (n := o.n) hl hs (by simpa using ht) ⟨hc.1.1, by omega⟩
          exact ⟨a, fun h => by obtain ⟨b1, b2, b3, b4⟩ := b h; exact ⟨b1, b2, b3, fun _ => b4⟩⟩
        · exact ⟨hs, fun h => by simp at h⟩
    · rename_i h0
      rw [if_neg h0] at hat
      split
      · unfold homSweep
        split
        · have e : o.line.toNat = k := by omega
          rw [e]
          dsimp only
          rw [updA_same]
          refine ⟨wait_sinv hs, fun h => ?_⟩
          have h : ((H k).1.wait (sweepN o.line)).sw < (H k).1.sw := h
          rw [wait_sw] at h
          omega
        · exact ⟨hs, fun h => by simp at h⟩
      · unfold homBegin
        split
        · have e : o.line.toNat = k := by omega
          rw [e, hat]
          dsimp only
          rw [updA_same]
          obtain ⟨a, b⟩ := begin_sw (j := fun w => j w k) hl hs
          exact ⟨a, fun h => by obtain ⟨b1, b2, b3⟩ := b h; exact ⟨b1, b2, b3, fun h => absurd h h0⟩⟩
        · exact ⟨hs, fun h => by simp at h⟩
  · rw [ans_other hat]
    exact ⟨hS k hk, fun h => by omega⟩
theorem neA2 {d : Ln} {k : Value → Prop} (hk : k (.bool false)) : thn (biA [0, 0] .neq (.agg ⟨lnE d⟩) (.agg ⟨lnE d⟩)) k := ⟨_, by simp [biA, cmpK, cmp1, eqn, lnE], hk⟩
attribute [local irreducible] thn Br ld1 ldN stV alc alcAt alcS alcSAt resv padd nilV extV part1 partN lenS lenT biI biT biB biP biS biF biE biA unV idxS idxA pickV appV copyV clearV slS slA slT mkS blkOf at1 atN atS convI convS minV maxV Cl OkF OkR EndX endV beginV defersOf setLoop closeMarks
variable {G : Bg} {h : AH} {L L' : List HP}
theorem old_idx {W n i : Nat} {v : Value} {at' : Nat → List Value} {k : Value → Prop} (ho : Old G W v n at') (hi : i < n) (hk : ∀ b o cells, Ob G b cells → (cells.drop o).take W = at' i → k (pt b o 0)) : thn (idxS W v (I i)) k := by
  obtain ⟨a, c, rfl, hall⟩ := ho
  obtain ⟨b, o, cells, rfl, hob, hc, hle⟩ := hall i hi
  refine r_idxN hi ?_
  have : pt b (o + i * W) 0 = pt b o (i * W) := by simp [pt]
  exact hk b (o + i * W) cells hob hc
theorem part_of {cells l : List Value} {o W j m : Nat} (h : (cells.drop o).take W = l) (hm : j + m ≤ W) : (cells.drop (o + j)).take m = (l.drop j).take m := by
  rw [← h, List.drop_take, List.take_take, List.drop_drop, Nat.min_eq_left (by omega)]
theorem cell_of {cells l : List Value} {o W j : Nat} (h : (cells.drop o).take W = l) (hm : j < W) : cells[o + j]? = l[j]? := by
  rw [← h, List.getElem?_take, if_pos hm, List.getElem?_drop]
theorem len_of {cells l : List Value} {o W : Nat} (h : (cells.drop o).take W = l) (hl : l.length = W) (h0 : 0 < W) : o + W ≤ cells.length := by
  rw [← h, List.length_take, List.length_drop] at hl; omega
theorem sweeps_loop {e : TypeId} {wa : Option Addr} {wc : Nat} {ns : List Note} {Q : Value → AH → Prop} {total : Nat} (hlen : ns.length < 2 ^ 40) (ht : total < 2 ^ 50) (hk : ∀ h' g, Hs G h' (slc 9 e wa wc (ns.length, encNs ns) :: g :: L) → Q (I total) h') :
    ∀ (f i many : Nat) (h : AH) (g : HP), i + f = ns.length → many + (ns.drop i).countP isSw = total → Hs G h (slc 9 e wa wc (ns.length, encNs ns) :: g :: L) → A21_4 Q (I many) (.slice wa ns.length wc) (I ns.length) (I i) h := by
  intro f
  induction f with
  | zero =>
    intro i many h g hi hm hs
    rw [List.drop_of_length_le (by omega)] at hm
    simp only [List.countP_nil, Nat.add_zero] at hm
    subst hm
    exact b21_4 (r_ltI (r_brF (by omega) (hk h g hs)))
  | succ f ih =>
    intro i many h g hi hm hs
    have hlt : i < ns.length := by omega
    have hat := encNs_at ns i ns[i] (List.getElem?_eq_getElem hlt)
    rw [List.drop_eq_getElem_cons hlt, List.countP_cons] at hm
    generalize ns[i] = n at hat hm
    refine b21_4 (r_ltI (r_brT (by omega) (b21_5 ?_)))
    obtain ⟨b, o, hwa, H, hs2, _⟩ := hs.slcOpen (by omega)
    rw [hwa]
    refine r_idxN hlt (r_ldNI hs2 (by decide) (l := n.enc) hat rfl (r_new hs ?_))
    clear hs2
    intro p h hs
    refine r_stW hs rfl rfl rfl rfl ?_
    intro h hs
    have hs3 := hs
    have hs : Hs G h (slc 9 e wa wc (ns.length, encNs ns) :: sp [seg p 0 n.enc, g] :: L) := hs.to
    rw [← hwa]
    refine r_padd (r_ld hs3 rfl (r_eqI (r_br (fun h0 => b21_6 (r_addI (by omega) (r_addI (by omega) ?_))) (fun h0 => b21_7 (r_addI (by omega) ?_)))))
    · rw [show isSw n = true by unfold isSw; rw [decide_eq_true h0], if_pos rfl] at hm
      exact ih (i + 1) (many + 1) h _ (by omega) (by omega) hs
    · rw [show isSw n = false by unfold isSw; rw [decide_eq_false h0], if_neg (by simp)] at hm
      exact ih (i + 1) many h _ (by omega) (by omega) hs
theorem sweeps_ok {C : Cfg} {hb : Nat} {H : Hom} {x : Int} {Q : Value → AH → Prop} (hw : ∀ l, l < C.lines → (H l).1.waits.length < 2 ^ 40) (hs : Hs G h L) [m : Has (homR G hb C) L H L'] (hk : ∀ h', Hs G h' (homR G hb C H :: L') → Q (I (homSweeps C H x : Nat)) h') :
    Cl Pr K 21 [pt hb 0 0, I x] h Q := by
  have hq := m.of hs
  obtain ⟨mb, b, o, cap, hs⟩ := hom_open (m.of hs)
  unfold homSweeps at hk
  refine c21 (b21_0 (has_ok hs (r_not (r_brn (r_br (fun h3 => b21_1 ?_) (fun h3 => ?_))))))
  · obtain ⟨l, rfl⟩ := Int.eq_ofNat_of_zero_le h3.1
    have hl : l < C.lines := by have := h3.2; omega
    rw [if_pos h3, Int.toNat_natCast] at hk
    have hwl := hw l hl
    obtain ⟨wa, wc, hs⟩ := rowR_open (row_out (H := H) (b := b) (o := o) hl hs)
    have fin : ∀ h' g, Hs G h' (slc 9 38 wa wc ((H l).1.waits.length, encNs (H l).1.waits) :: g :: seg b (o + l * 25) ((H l).1.enc wa wc) :: homX b o C.lines H l :: seg hb 0 (homE mb C b o cap) :: memN G C.lines mb C (fun i => (H i).2) :: hole G 25 73 (some ⟨b, o, none⟩) cap C.lines b o :: L') → Q (I ((H l).1.sw : Nat)) h' := fun h' g hs => by
      have hs := row_shut b (o + l * 25) (H l).1 wa wc hs rfl rfl rfl
      exact hk h' (hom_same (H := H) (hb := hb) (mb := mb) (b := b) (o := o) (cap := cap) (L := L') hl hs.to)
    have htot : (H l).1.sw < 2 ^ 50 := by
      have := List.countP_le_length (p := isSw) (l := (H l).1.waits)
      unfold Row.sw Row.cur; split <;> omega
    have loop : ∀ many : Nat, many = (H l).1.cur → A21_4 Q (I many) (.slice wa (H l).1.waits.length wc) (I (H l).1.waits.length) (I 0) h := fun many hm =>
      sweeps_loop (e := 38) hwl htot fin (H l).1.waits.length 0 many h (sp []) (by omega) (by rw [List.drop_zero, hm]; rfl) hs.to
    refine r_nilP (r_padd (r_ld hs rfl (r_idxN hl (r_nilP (r_padd (r_ld hs rfl (r_brb (fun hb1 => ?_) (fun hb1 => ?_))))))))
    · refine r_nilP (r_padd (r_padd (r_ld hs rfl (r_eqI (r_br (fun h1 => b21_2 ?_) (fun h1 => b21_3 ?_))))))
      · exact r_addI (by omega) (r_nilP (r_padd (r_ld hs rfl (r_lenS (loop 1 (by unfold Row.cur; rw [if_pos ⟨hb1, h1⟩]))))))
      · exact r_nilP (r_padd (r_ld hs rfl (r_lenS (loop 0 (by unfold Row.cur; rw [if_neg (fun e => h1 e.2)])))))
    · exact r_nilP (r_padd (r_ld hs rfl (r_lenS (loop 0 (by unfold Row.cur; rw [if_neg (fun e => by rw [hb1] at e; simp at e)])))))
  · rw [if_neg h3] at hk
    exact hk h hq
end Go.Proofs.YtagcnlaofkfpjaaDoor
end
section
namespace Go.Hm
open Go Go.Ab
structure RLn where
  owner : Int
  sh : List Int
  row : List Note
  now : Note
  busy : Bool
  aw : List Int
  granted : Bool
  told : Bool
  d : Ln
  mem : Ln
  world : Int
def wo (l : List Int) (n : Int) : List Int := l.filter fun x => decide (x ≠ n)
theorem mem_wo {l : List Int} {n x : Int} : x ∈ wo l n ↔ x ∈ l ∧ x ≠ n := by simp [wo]
def RLn.hold (y : RLn) (but : Int) (i : Nat) : Bool := decide ((i : Int) ≠ but) && (decide ((i : Int) = y.owner) || decide ((i : Int) ∈ y.sh))
def RLn.holdersF (y : RLn) (but : Int) : Nat → Nat → List Int
  | 0, _ => []
  | f + 1, i => if y.hold but i then (i : Int) :: y.holdersF but f (i + 1) else y.holdersF but f (i + 1)
def RLn.holders (y : RLn) (but : Int) : List Int := y.holdersF but 4 0
def RLn.sharersF (y : RLn) : Nat → Nat → List Int
  | 0, _ => []
  | f + 1, i => if (i : Int) ∈ y.sh then (i : Int) :: y.sharersF f (i + 1) else y.sharersF f (i + 1)
def RLn.sharers (y : RLn) : List Int := y.sharersF 4 0
def RLn.noteR (y : RLn) (kind : Int) : Note := { Note.zero with kind := kind, core := y.now.core, line := y.now.line }
def RLn.gst (y : RLn) : Int := if y.now.kind = 1 then (if y.holders y.now.core = [] then 2 else 1) else 4
def RLn.dat (y : RLn) : Ln := if y.told = true then y.d else y.mem
def RLn.gnote (y : RLn) : Note := ⟨8, y.now.core, y.now.line, y.world, y.gst, y.dat.1, y.dat.2, false, 0⟩
def RLn.share (y : RLn) : RLn := { y with sh := wo y.sh y.now.core ++ [y.now.core], busy := true, granted := true, told := false }
def RLn.own (y : RLn) : RLn := { y with owner := y.now.core, sh := [], busy := true, granted := true, told := false }
def RLn.grant (y : RLn) : RLn := if y.gst = 1 then y.share else y.own
def RLn.heard1 (y : RLn) (n : Note) : RLn := { y with aw := wo y.aw n.core }
def RLn.heard2 (y : RLn) (n : Note) : RLn := { y with owner := -1, sh := if n.state = 1 ∨ n.state = 2 ∨ n.state = 4 then wo y.sh n.core ++ [n.core] else wo y.sh n.core }
def RLn.heard3 (y : RLn) (n : Note) : RLn := { y with told := true, d := (n.d0, n.d1) }
def RLn.leave (y : RLn) (c : Int) : RLn := { y with owner := if y.owner = c then -1 else y.owner, sh := wo y.sh c }
def RLn.keep (y : RLn) (n : Note) : RLn := if n.dirty = true then { y with mem := (n.d0, n.d1) } else y
def RLn.heardS (y : RLn) (n : Note) : RLn := if n.state ≠ 3 then y.heard2 n else y
def RLn.heardD (y : RLn) (n : Note) : RLn := if n.dirty = true then y.heard3 n else y
def RLn.heard (y : RLn) (n : Note) : RLn := if y.now.kind = 1 then ((y.heard1 n).heardS n).heardD n else ((y.heard1 n).leave n.core).keep n
def RLn.idle (y : RLn) : RLn := { y with busy := false }
def RLn.done (y : RLn) : RLn := { y with busy := false, granted := false }
def RLn.rest (y : RLn) : RLn × List Note := if y.aw ≠ [] then (y, []) else if y.now.kind = 0 then (y.idle, []) else (y.grant, [y.gnote])
def RLn.wait (y : RLn) (n : Note) : RLn := { y with row := y.row ++ [n] }
def RLn.take (y : RLn) (n : Note) : RLn × List Note × Int :=
  if n.kind = 4 then (if y.granted = false ∨ y.now.core ≠ n.core then (y, [], 16) else (y.done, [], 0))
  else if n.kind = 5 then (if n.core ∈ y.aw then ((y.heard n).rest.1, (y.heard n).rest.2, 0) else (y, [], 16))
  else (y.wait n, [], 0)
def RLn.on (y : RLn) : RLn := { y with busy := true }
def RLn.ask (y : RLn) (l : List Int) : RLn := { y with aw := l, busy := true }
def probesR (line st : Int) (l : List Int) : List Note := l.map fun c => { Note.zero with kind := 11, core := c, line := line, state := st }
def RLn.serve (y : RLn) (n : Note) (w : List Note) (ow : Int) : RLn := { y with now := n, row := w, world := ow }
def RLn.put (y : RLn) (n : Note) : RLn := { y with owner := if y.owner = n.core then -1 else y.owner, mem := if y.owner = n.core ∧ n.dirty = true then (n.d0, n.d1) else y.mem, sh := wo y.sh n.core }
def RLn.unown (y : RLn) (c : Int) : RLn := if y.owner = c then { y with owner := -1 } else y
def RLn.getS (y : RLn) : RLn × List Note := if 0 ≤ y.owner then (y.ask [y.owner], probesR y.now.line 1 [y.owner]) else (y.grant, [y.gnote])
def RLn.getM (y : RLn) (n : Note) : RLn × List Note :=
  if y.holders n.core ≠ [] then (y.ask (y.holders n.core), probesR y.now.line 0 (y.holders n.core)) else if n.kind = 0 then (y, []) else (y.grant, [y.gnote])
def RLn.begun (y : RLn) (n : Note) (may : Bool) : RLn × List Note :=
  if n.kind = 3 then (y.put n, [y.noteR 10])
  else if n.kind ≠ 0 ∧ may = false then (y, [y.noteR 9])
  else if n.kind = 1 then (y.unown n.core).getS
  else y.getM n
def RLn.begin (y : RLn) (may : Bool) (ow : Int) : RLn × List Note × Int :=
  if y.busy = true then (y, [], 16)
  else match y.row with
    | [] => (y, [], 12)
    | n :: w => let g := (y.serve n w ow).begun n may; (g.1, g.2, 0)
def RLn.zero : RLn := ⟨-1, [], [], Note.zero, false, [], false, false, (0, 0), (0, 0), 0⟩
def RLn.sw (y : RLn) : Nat := y.row.countP isSw + (if y.busy = true ∧ y.now.kind = 0 then 1 else 0)

/-! ### What both have in common -/
structure RRel (k : Nat) (x : Lin) (y : RLn) : Prop where
  owner : y.owner = x.1.owner
  sh : ∀ i : Nat, i < 4 → x.1.sh i = decide ((i : Int) ∈ y.sh)
  row : y.row = x.1.waits.map Note.face
  busy : y.busy = x.1.busy
  now : x.1.busy = true → y.now = x.1.served.face ∧ x.1.served.line = k ∧ (x.1.served.kind = 0 ∨ x.1.served.kind = 1 ∨ x.1.served.kind = 2) ∧ (x.1.served.kind ≠ 0 → y.world = x.1.world)
  aw : ∀ i : Nat, i < 4 → x.1.asked i = decide ((i : Int) ∈ y.aw)
  awr : ∀ c ∈ y.aw, 0 ≤ c ∧ c < 4
  granted : y.granted = x.1.granted
  gk : x.1.granted = true → x.1.served.kind ≠ 0
  told : x.1.granted = false → y.told = x.1.told ∧ (x.1.told = true → y.d = (x.1.d0, x.1.d1))
  tk : x.1.told = true → x.1.busy = true ∧ x.1.served.kind = 1
  gt : x.1.granted = true → y.told = false
  mem : y.mem = x.2
theorem RRel0 (k : Nat) : RRel k (row0, (0, 0)) RLn.zero := ⟨rfl, by simp [row0, RLn.zero], rfl, rfl, by simp [row0], by simp [row0, RLn.zero], by simp [RLn.zero], rfl, by simp [row0], by simp [row0, RLn.zero], by simp [row0], fun _ => rfl, rfl⟩
theorem face_kind {n : Note} : n.face.kind = n.kind := by unfold Note.face; split <;> rfl
theorem face_line {n : Note} : n.face.line = n.line := by unfold Note.face; split <;> rfl
theorem face_same {n : Note} (h : n.kind ≠ 0) : n.face = n := by unfold Note.face; rw [if_neg h]
theorem holdersF_eq {r : Row} {y : RLn} (ho : y.owner = r.owner) (hs : ∀ i : Nat, i < 4 → r.sh i = decide ((i : Int) ∈ y.sh)) {c : Int} : ∀ (f i : Nat), i + f = 4 → y.holdersF c f i = (r.holdersF c f i).map fun (j : Nat) => (j : Int) := by
  intro f
  induction f with
  | zero => intro i _; rfl
  | succ f ih =>
    intro i hi
    have e : y.hold c i = r.holds c i := by
      unfold RLn.hold Row.holds
      rw [ho, hs i (by omega), Bool.or_comm]
    unfold RLn.holdersF Row.holdersF
    rw [e]
    split
    · rw [ih (i + 1) (by omega)]; rfl
    · exact ih (i + 1) (by omega)
theorem holders_eq {r : Row} {y : RLn} (ho : y.owner = r.owner) (hs : ∀ i : Nat, i < 4 → r.sh i = decide ((i : Int) ∈ y.sh)) {c : Int} : y.holders c = (r.holders c).map fun (j : Nat) => (j : Int) := holdersF_eq ho hs 4 0 rfl
theorem sharersF_eq {r : Row} {y : RLn} (hs : ∀ i : Nat, i < 4 → r.sh i = decide ((i : Int) ∈ y.sh)) : ∀ (f i : Nat), i + f = 4 → y.sharersF f i = (r.sharersF f i).map fun (j : Nat) => (j : Int) := by
  intro f
  induction f with
  | zero => intro i _; rfl
  | succ f ih =>
    intro i hi
    unfold RLn.sharersF Row.sharersF
    rw [hs i (by omega)]
    by_cases h : (i : Int) ∈ y.sh
    · rw [if_pos h, if_pos (by simpa using h), ih (i + 1) (by omega)]; rfl
    · rw [if_neg h, if_neg (by simpa using h)]; exact ih (i + 1) (by omega)
theorem first_none {r : Row} {c : Int} : r.first c = -1 ↔ r.holders c = [] := by
  have : ∀ (f i : Nat), r.firstF c f i = -1 ↔ r.holdersF c f i = [] := by
    intro f
    induction f with
    | zero => intro i; simp [Row.firstF, Row.holdersF]
    | succ f ih =>
      intro i
      unfold Row.firstF Row.holdersF
      split
      · constructor
        · intro h; omega
        · intro h; cases h
      · exact ih (i + 1)
  exact this 4 0
theorem probes_eq {line st : Int} {l : List Nat} : probesR line st (l.map fun (j : Nat) => (j : Int)) = probes line st l := by
  unfold probesR probes
  rw [List.map_map]; rfl
theorem quiet_aw {k : Nat} {x : Lin} {y : RLn} (R : RRel k x y) : x.1.quiet = true ↔ y.aw = [] := by
  constructor
  · intro hq
    have ha := quiet_all hq
    cases he : y.aw with
    | nil => rfl
    | cons c l =>
      have hc := R.awr c (by rw [he]; exact List.mem_cons_self)
      obtain ⟨i, rfl⟩ := Int.eq_ofNat_of_zero_le hc.1
      have := R.aw i (by omega)
      rw [ha i (by omega), he] at this
      simp at this
  · intro he
    have : ∀ i, i < 4 → x.1.asked i = false := fun i hi => by rw [R.aw i hi, he]; simp
    unfold Row.quiet
    rw [this 0 (by omega), this 1 (by omega), this 2 (by omega), this 3 (by omega)]; rfl
theorem upd_wo {f : Nat → Bool} {l : List Int} {c : Int} (h : ∀ i : Nat, i < 4 → f i = decide ((i : Int) ∈ l)) : ∀ i : Nat, i < 4 → updB f c false i = decide ((i : Int) ∈ wo l c) := by
  intro i hi
  unfold updB
  rw [h i hi]
  by_cases e : (i : Int) = c
  · simp [e, mem_wo]
  · simp [e, mem_wo]
theorem upd_ap {f : Nat → Bool} {l : List Int} {c : Int} (h : ∀ i : Nat, i < 4 → f i = decide ((i : Int) ∈ l)) : ∀ i : Nat, i < 4 → updB f c true i = decide ((i : Int) ∈ wo l c ++ [c]) := by
  intro i hi
  unfold updB
  rw [h i hi]
  by_cases e : (i : Int) = c
  · simp [e, mem_wo]
  · simp [e, mem_wo]
theorem grant_rel {k : Nat} {r : Row} {m : Ln} {y : RLn} (R : RRel k (r, m) y) (hb : r.busy = true) (hg : r.granted = false) (h0 : r.served.kind ≠ 0) :
    RRel k ((r.grant k (r.dat m)).1, m) y.grant ∧ (r.grant k (r.dat m)).2 = [y.gnote] := by
  obtain ⟨e1, e2, e3, e4⟩ := R.now hb
  simp only at e1 e2 e3 e4
  rw [face_same h0] at e1
  have e4 := e4 h0
  have hd : y.dat = r.dat m := by
    have := R.told hg
    simp only at this
    unfold RLn.dat Row.dat
    rw [this.1]
    by_cases ht : r.told = true
    · rw [if_pos ht, if_pos ht, this.2 ht]
    · rw [if_neg ht, if_neg ht, R.mem]
  have hh : y.holders r.served.core = (r.holders r.served.core).map fun (j : Nat) => (j : Int) := holders_eq R.owner R.sh
  have hn : ∀ st, y.gst = st → y.gnote = r.grantN k st (r.dat m) := fun st h => by
    unfold RLn.gnote Row.grantN
    rw [h, hd, e1, e2, e4]
  unfold Row.grant
  by_cases h2 : r.served.kind = 2
  · have hst : y.gst = 4 := by unfold RLn.gst; rw [e1, if_neg (by omega)]
    rw [if_pos h2]
    unfold RLn.grant
    rw [if_neg (by rw [hst]; decide)]
    refine ⟨⟨by simp [RLn.own, e1], by simp [RLn.own], R.row, by simp [RLn.own, hb], fun _ => ⟨by simp [RLn.own, e1, face_same h0], e2, e3, fun _ => e4⟩, R.aw, R.awr, rfl, fun _ => h0, fun h => (by cases h), fun ht => ⟨hb, (R.tk ht).2⟩, fun _ => rfl, R.mem⟩, by rw [hn 4 hst]⟩
  · have h1 : r.served.kind = 1 := by omega
    rw [if_neg h2]
    by_cases hf : r.first r.served.core = -1
    · have hst : y.gst = 2 := by unfold RLn.gst; rw [e1, if_pos h1, hh, first_none.1 hf]; rfl
      rw [if_pos hf]
      unfold RLn.grant
      rw [if_neg (by rw [hst]; decide)]
      refine ⟨⟨by simp [RLn.own, e1], fun i hi => ?_, R.row, by simp [RLn.own, hb], fun _ => ⟨by simp [RLn.own, e1, face_same h0], e2, e3, fun _ => e4⟩, R.aw, R.awr, rfl, fun _ => h0, fun h => (by cases h), fun ht => ⟨hb, (R.tk ht).2⟩, fun _ => rfl, R.mem⟩, by rw [hn 2 hst]⟩
      have := first_none.1 hf
      have hno : r.holds r.served.core i = false := firstF_holds 4 0 hf i (by omega) (by omega)
      show updB r.sh r.served.core false i = decide ((i : Int) ∈ ([] : List Int))
      unfold updB
      unfold Row.holds at hno
      split
      · rfl
      · rename_i e
        rw [decide_eq_true e] at hno
        simp at hno
        rw [hno.1]; rfl
    · have hst : y.gst = 1 := by
        unfold RLn.gst; rw [e1, if_pos h1, hh, if_neg]
        intro e
        exact hf (first_none.2 (by simpa using e))
      rw [if_neg hf]
      unfold RLn.grant
      rw [if_pos hst]
      refine ⟨⟨R.owner, fun i hi => ?_, R.row, by simp [RLn.share, hb], fun _ => ⟨by simp [RLn.share, e1, face_same h0], e2, e3, fun _ => e4⟩, R.aw, R.awr, rfl, fun _ => h0, fun h => (by cases h), fun ht => ⟨hb, (R.tk ht).2⟩, fun _ => rfl, R.mem⟩, by rw [hn 1 hst]⟩
      show updB r.sh r.served.core true i = decide ((i : Int) ∈ wo y.sh y.now.core ++ [y.now.core])
      rw [e1]
      exact upd_ap R.sh i hi
theorem h3_rel {k : Nat} {r : Row} {m : Ln} {z : RLn} {n : Note} (h : RRel k (r, m) z) (hb : r.busy = true) (hg : r.granted = false) (h1 : r.served.kind = 1) : RRel k (r.heard3 n, m) (z.heard3 n) :=
  ⟨h.owner, h.sh, h.row, h.busy, h.now, h.aw, h.awr, h.granted, h.gk, fun _ => ⟨rfl, fun _ => rfl⟩, fun _ => ⟨hb, h1⟩, fun e => (by rw [show (r.heard3 n).granted = r.granted from rfl, hg] at e; cases e), h.mem⟩
theorem heard_rel {k : Nat} {x : Lin} {y : RLn} {n : Note} (R : RRel k x y) (hn : 0 ≤ n.core ∧ n.core < 4) (hb : x.1.busy = true) (hg : x.1.granted = false) :
    RRel k (x.1.heard n, x.1.heardM x.2 n) (y.heard n) := by
  obtain ⟨e1, e2, e3, e4⟩ := R.now hb
  have ek : y.now.kind = x.1.served.kind := by rw [e1, face_kind]
  have t := R.told hg
  have h1 : RRel k (x.1.heard1 n, x.2) (y.heard1 n) := ⟨R.owner, R.sh, R.row, R.busy, R.now, upd_wo R.aw, fun c hc => R.awr c (mem_wo.1 hc).1, R.granted, R.gk, R.told, R.tk, R.gt, R.mem⟩
  have b1 : (x.1.heard1 n).busy = true := hb
  have g1 : (x.1.heard1 n).granted = false := hg
  unfold Row.heard Row.heardM RLn.heard
  by_cases hk : x.1.served.kind = 1
  · rw [if_neg (show ¬ x.1.served.kind ≠ 1 from fun e => e hk), if_neg (show ¬ (x.1.served.kind ≠ 1 ∧ n.dirty = true) from fun e => e.1 hk), if_pos (show y.now.kind = 1 by omega)]
    have h2 : n.state ≠ 3 → RRel k ((x.1.heard1 n).heard2 n, x.2) ((y.heard1 n).heard2 n) := fun h => by
      refine ⟨rfl, fun i hi => ?_, h1.row, h1.busy, h1.now, h1.aw, h1.awr, h1.granted, h1.gk, h1.told, h1.tk, h1.gt, h1.mem⟩
      show updB (x.1.heard1 n).sh n.core (valid n.state) i = decide ((i : Int) ∈ (if n.state = 1 ∨ n.state = 2 ∨ n.state = 4 then wo (y.heard1 n).sh n.core ++ [n.core] else wo (y.heard1 n).sh n.core))
      by_cases hv : n.state = 1 ∨ n.state = 2 ∨ n.state = 4
      · rw [if_pos hv, show valid n.state = true by unfold valid; rw [decide_eq_true (show 0 ≤ n.state ∧ n.state < 5 by omega), decide_eq_true (show n.state ≠ 0 by omega)]; rfl]
        exact upd_ap h1.sh i hi
      · rw [if_neg hv, show valid n.state = false by
          unfold valid
          by_cases h5 : 0 ≤ n.state ∧ n.state < 5
          · rw [decide_eq_true h5, decide_eq_false (show ¬ n.state ≠ 0 by omega)]; rfl
          · rw [decide_eq_false h5]; rfl]
        exact upd_wo h1.sh i hi
    unfold RLn.heardS RLn.heardD
    by_cases hs : n.state ≠ 3
    · rw [if_pos hs, if_pos hs]
      cases hd : n.dirty with
      | true => exact h3_rel (h2 hs) hb hg hk
      | false => exact h2 hs
    · rw [if_neg hs, if_neg hs]
      cases hd : n.dirty with
      | true => exact h3_rel h1 hb hg hk
      | false => exact h1
  · rw [if_pos (show x.1.served.kind ≠ 1 from hk), if_neg (show ¬ y.now.kind = 1 by omega)]
    have hl : RRel k ((x.1.heard1 n).leave n.core, x.2) ((y.heard1 n).leave n.core) := by
      refine ⟨?_, upd_wo h1.sh, h1.row, h1.busy, h1.now, h1.aw, h1.awr, h1.granted, h1.gk, h1.told, h1.tk, h1.gt, h1.mem⟩
      show (if y.owner = n.core then -1 else y.owner) = (if x.1.owner = n.core then -1 else x.1.owner)
      rw [R.owner]
    unfold RLn.keep
    cases hd : n.dirty with
    | true =>
      rw [if_pos ⟨hk, rfl⟩, if_pos rfl]
      exact ⟨hl.owner, hl.sh, hl.row, hl.busy, hl.now, hl.aw, hl.awr, hl.granted, hl.gk, hl.told, hl.tk, hl.gt, rfl⟩
    | false =>
      rw [if_neg (show ¬ (x.1.served.kind ≠ 1 ∧ false = true) from fun e => by cases e.2), if_neg (show ¬ false = true from fun e => by cases e)]
      exact hl
theorem rest_rel {k : Nat} {r : Row} {m : Ln} {y : RLn} (R : RRel k (r, m) y) (hb : r.busy = true) (hg : r.granted = false) : RRel k ((r.rest k m).1, m) y.rest.1 ∧ (r.rest k m).2 = y.rest.2 := by
  have hq := quiet_aw R
  obtain ⟨e1, e2, e3, e4⟩ := R.now hb
  have ek : y.now.kind = r.served.kind := by rw [e1, face_kind]
  unfold Row.rest RLn.rest
  by_cases h : r.quiet = true
  · have ha := hq.1 h
    rw [if_pos h, if_neg (show ¬ y.aw ≠ [] from fun e => e ha)]
    by_cases h0 : r.served.kind = 0
    · rw [if_pos h0, if_pos (show y.now.kind = 0 by omega)]
      have t := R.told hg
      simp only at t
      have tf : r.told = false := by
        cases ht : r.told with
        | false => rfl
        | true => have := (R.tk ht).2; simp only at this; omega
      refine ⟨⟨R.owner, R.sh, R.row, rfl, fun h => (by cases h), R.aw, R.awr, R.granted.trans hg, fun h => (by cases h), fun _ => ⟨t.1.trans tf, fun h => (by cases h)⟩, fun h => (by cases h), fun h => (by cases h), R.mem⟩, rfl⟩
    · rw [if_neg h0, if_neg (show ¬ y.now.kind = 0 by omega)]
      exact grant_rel R hb hg h0
  · rw [if_neg h, if_pos (show y.aw ≠ [] from fun e => h (hq.2 e))]
    exact ⟨R, rfl⟩
theorem take_rel {k : Nat} {x : Lin} {y : RLn} {n : Note} (R : RRel k x y) (hL : LInv k x.1) (hn : 0 ≤ n.core ∧ n.core < 4) (hl : n.line = k) (ht : takes n.kind) :
    RRel k (Lin.take x k n).1 (y.take n).1 ∧ (Lin.take x k n).2 = (y.take n).2 := by
  unfold Lin.take RLn.take
  by_cases h4 : n.kind = 4
  · rw [if_pos h4, if_pos h4]
    by_cases hg : x.1.granted = true
    · have hb := hL.gb hg
      obtain ⟨e1, e2, e3, e4⟩ := R.now hb
      have hc : y.now.core = x.1.served.core := by rw [e1, face_same (R.gk hg)]
      have hq := (quiet_aw R).1 (hL.still (.inl hg))
      by_cases hcc : x.1.served.core = n.core
      · rw [if_neg (show ¬ (x.1.granted = false ∨ x.1.served.core ≠ n.core) by rw [hg]; simp [hcc]), if_neg (show ¬ (y.granted = false ∨ y.now.core ≠ n.core) by rw [R.granted, hg, hc]; simp [hcc])]
        exact ⟨⟨R.owner, R.sh, R.row, rfl, fun h => (by cases h), R.aw, R.awr, rfl, fun h => (by cases h), fun _ => ⟨R.gt hg, fun h => (by cases h)⟩, fun h => (by cases h), fun h => (by cases h), R.mem⟩, rfl⟩
      · rw [if_pos (.inr hcc), if_pos (.inr (by rw [hc]; exact hcc))]
        exact ⟨R, rfl⟩
    · have hg : x.1.granted = false := by simpa using hg
      rw [if_pos (.inl hg), if_pos (.inl (R.granted.trans hg))]
      exact ⟨R, rfl⟩
  · rw [if_neg h4, if_neg h4]
    by_cases h5 : n.kind = 5
    · rw [if_pos h5, if_pos h5]
      obtain ⟨c, hc⟩ := Int.eq_ofNat_of_zero_le hn.1
      have ha := R.aw c (by omega)
      have ec : n.core.toNat = c := by omega
      rw [ec]
      by_cases hm : n.core ∈ y.aw
      · have hat : x.1.asked c = true := by rw [ha, ← hc]; simpa using hm
        rw [if_neg (show ¬ x.1.asked c = false by rw [hat]; simp), if_pos hm]
        have hs := heard_lsrv (n := n) hL hn (by rw [ec]; exact hat)
        have hb : x.1.busy = true := by
          cases hb : x.1.busy with
          | true => rfl
          | false =>
            have := (quiet_aw R).1 (hL.still (.inr hb))
            rw [this] at hm; cases hm
        have hg : x.1.granted = false := by
          cases hg : x.1.granted with
          | false => rfl
          | true =>
            have := (quiet_aw R).1 (hL.still (.inl hg))
            rw [this] at hm; cases hm
        have H := rest_rel (heard_rel (n := n) R hn hb hg) hs.busy hs.gr
        unfold Lin.reply
        exact ⟨H.1, by simp only [H.2]⟩
      · have hat : x.1.asked c = false := by rw [ha, ← hc]; simpa using hm
        rw [if_pos hat, if_neg hm]
        exact ⟨R, rfl⟩
    · rw [if_neg h5, if_neg h5]
      unfold takes at ht
      refine ⟨⟨R.owner, R.sh, ?_, R.busy, R.now, R.aw, R.awr, R.granted, R.gk, R.told, R.tk, R.gt, R.mem⟩, rfl⟩
      show y.row ++ [n] = (x.1.waits ++ [n]).map Note.face
      rw [R.row, List.map_append, List.map_singleton, face_same (show n.kind ≠ 0 by omega)]
theorem sweep_rel {k : Nat} {x : Lin} {y : RLn} (R : RRel k x y) : RRel k (Lin.sweep x k) (y.wait { Note.zero with core := -1, line := k }) := by
  refine ⟨R.owner, R.sh, ?_, R.busy, R.now, R.aw, R.awr, R.granted, R.gk, R.told, R.tk, R.gt, R.mem⟩
  show y.row ++ [_] = (x.1.waits ++ [sweepN k]).map Note.face
  rw [R.row, List.map_append, List.map_singleton]
  rfl
theorem ask_rel {k : Nat} {r : Row} {m : Ln} {y : RLn} {l : List Nat} (R : RRel k (r, m) y) (hb : r.busy = true) (hq : r.quiet = true) (hl : ∀ c ∈ l, c < 4) : RRel k (r.askAll l, m) (y.ask (l.map fun (j : Nat) => (j : Int))) := by
  refine ⟨R.owner, R.sh, R.row, hb.symm, R.now, fun i hi => ?_, fun c hc => ?_, R.granted, R.gk, R.told, R.tk, R.gt, R.mem⟩
  · show (r.asked i || l.contains i) = decide ((i : Int) ∈ l.map fun (j : Nat) => (j : Int))
    rw [quiet_all hq i hi, Bool.false_or]
    by_cases h : i ∈ l
    · rw [decide_eq_true (List.mem_map.2 ⟨i, h, rfl⟩)]; simpa using h
    · rw [decide_eq_false (fun e => h (by obtain ⟨j, hj, e⟩ := List.mem_map.1 e; rwa [show j = i by omega] at hj))]; simpa using h
  · obtain ⟨j, hj, rfl⟩ := List.mem_map.1 hc
    have := hl j hj
    omega
theorem begun_rel {k : Nat} {r : Row} {m : Ln} {y : RLn} {n : Note} {w : List Note} {may : Bool} {ow : Int} {j : Int → Int × Bool} (R : RRel k (r, m) y) (hL : LInv k r) (hw : r.waits = n :: w) (hb : r.busy = false) (hm : n.kind = 1 ∨ n.kind = 2 → (ow, may) = j n.world) :
    RRel k (Row.begun (r.next w) k m n j).1 ((y.serve n.face (w.map Note.face) ow).begun n.face may).1 ∧ (Row.begun (r.next w) k m n j).2 = ((y.serve n.face (w.map Note.face) ow).begun n.face may).2 := by
  obtain ⟨hnl, hnc, hnk⟩ := hL.waits n (by rw [hw]; exact List.mem_cons_self)
  have hg : r.granted = false := by
    cases hg : r.granted with
    | false => rfl
    | true => have := hL.gb hg; rw [hb] at this; cases this
  have hq : r.quiet = true := hL.still (.inr hb)
  have ht : r.told = false := by
    cases ht : r.told with
    | false => rfl
    | true => have := (R.tk ht).1; simp only [hb] at this; cases this
  have t := R.told hg
  have nobusy : ∀ {P : Prop}, r.busy = true → P := fun h => by rw [hb] at h; cases h
  have S : RRel k (r.next w, m) (y.serve n.face (w.map Note.face) ow) := ⟨R.owner, R.sh, rfl, R.busy, fun h => nobusy h, R.aw, R.awr, R.granted, R.gk, R.told, R.tk, R.gt, R.mem⟩
  -- a request that is served
  have V : (n.kind = 1 ∨ n.kind = 2) → RRel k ((r.next w).serve n (j n.world).1, m) (y.serve n.face (w.map Note.face) ow).on := fun hk => by
    refine ⟨R.owner, R.sh, rfl, rfl, fun _ => ⟨rfl, hnl, by show n.kind = 0 ∨ n.kind = 1 ∨ n.kind = 2; omega, fun _ => ?_⟩, R.aw, R.awr, R.granted, fun h => ?_, fun h => ?_, fun h => ?_, R.gt, R.mem⟩
    · show ow = (j n.world).1
      rw [← hm hk]
    · show n.kind ≠ 0
      omega
    · exact t
    · exact ⟨rfl, by have h : r.told = true := h; rw [ht] at h; cases h⟩
  have V0 : n.kind = 0 → RRel k ((r.next w).serve0 n, m) (y.serve n.face (w.map Note.face) ow).on := fun hk => by
    refine ⟨R.owner, R.sh, rfl, rfl, fun _ => ⟨rfl, hnl, by show n.kind = 0 ∨ n.kind = 1 ∨ n.kind = 2; omega, fun h => absurd hk h⟩, R.aw, R.awr, R.granted, fun h => ?_, fun h => ?_, fun h => ?_, R.gt, R.mem⟩
    · have h : r.granted = true := h
      rw [hg] at h; cases h
    · exact t
    · exact ⟨rfl, by have h : r.told = true := h; rw [ht] at h; cases h⟩
  generalize hy : y.serve n.face (w.map Note.face) ow = z at S V V0 ⊢
  have zn : z.now = n.face := by rw [← hy]; rfl
  unfold Row.begun RLn.begun
  rw [face_kind]
  by_cases h3 : n.kind = 3
  · rw [if_pos h3, if_pos h3, face_same (show n.kind ≠ 0 by omega)]
    refine ⟨⟨?_, upd_wo S.sh, S.row, S.busy, fun h => nobusy h, S.aw, S.awr, S.granted, S.gk, S.told, S.tk, S.gt, ?_⟩, ?_⟩
    · show (if z.owner = n.core then -1 else z.owner) = (if r.owner = n.core then -1 else r.owner)
      rw [S.owner]; rfl
    · show (if z.owner = n.core ∧ n.dirty = true then (n.d0, n.d1) else z.mem) = (if r.owner = n.core ∧ n.dirty = true then (n.d0, n.d1) else m)
      rw [S.owner, S.mem]; rfl
    · show [ackN 10 n.core k] = [z.noteR 10]
      unfold RLn.noteR ackN
      rw [zn, face_same (show n.kind ≠ 0 by omega), hnl]
  · rw [if_neg h3, if_neg h3]
    by_cases hk : n.kind = 1 ∨ n.kind = 2
    · rw [if_pos hk]
      have hn0 : n.kind ≠ 0 := by omega
      rw [face_same hn0]
      rw [face_same hn0] at zn
      have ej := hm hk
      by_cases hmay : may = true
      · rw [← ej, if_pos hmay, if_neg (show ¬ (n.kind ≠ 0 ∧ may = false) by rw [hmay]; simp)]
        have V := V hk
        rw [← ej] at V
        have vb : ((r.next w).serve n ow).busy = true := rfl
        have vg : ((r.next w).serve n ow).granted = false := hg
        unfold Row.get
        by_cases h2 : n.kind = 2
        · rw [if_pos h2, if_neg (show ¬ n.kind = 1 by omega)]
          unfold Row.getM RLn.getM
          have hh : z.holders n.core = (((r.next w).serve n ow).holders n.core).map fun (i : Nat) => (i : Int) := holders_eq V.owner V.sh
          by_cases hf : ((r.next w).serve n ow).first n.core = -1
          · have he := first_none.1 hf
            rw [if_neg (show ¬ ((r.next w).serve n ow).first ((r.next w).serve n ow).served.core ≠ -1 from fun e => e hf), if_neg (show ¬ z.holders n.core ≠ [] by rw [hh, he]; simp), if_neg hn0]
            exact grant_rel (y := z.on) V vb vg hn0
          · have he : ((r.next w).serve n ow).holders n.core ≠ [] := fun e => hf (first_none.2 e)
            rw [if_pos (show ((r.next w).serve n ow).first ((r.next w).serve n ow).served.core ≠ -1 from hf), if_pos (show z.holders n.core ≠ [] by rw [hh]; simpa using he), hh]
            refine ⟨ask_rel (y := z.on) V vb hq (fun c hc => holders_lt c hc), ?_⟩
            show probes k 0 _ = probesR z.now.line 0 _
            rw [zn, hnl, probes_eq]; rfl
        · have h1 : n.kind = 1 := by omega
          rw [if_neg h2, if_pos h1]
          have U : RRel k (((r.next w).serve n ow).unown, m) (z.unown n.core).on := by
            have zo : z.owner = r.owner := S.owner
            unfold Row.unown RLn.unown
            by_cases ho : r.owner = n.core
            · rw [if_pos (show ((r.next w).serve n ow).owner = ((r.next w).serve n ow).served.core from ho), if_pos (zo.trans ho)]
              exact ⟨rfl, V.sh, V.row, V.busy, V.now, V.aw, V.awr, V.granted, V.gk, V.told, V.tk, V.gt, V.mem⟩
            · rw [if_neg (show ¬ ((r.next w).serve n ow).owner = ((r.next w).serve n ow).served.core from ho), if_neg (by rw [zo]; exact ho)]
              exact V
          have ub : ((r.next w).serve n ow).unown.busy = true := by unfold Row.unown; split <;> rfl
          have ug : ((r.next w).serve n ow).unown.granted = false := by unfold Row.unown; split <;> exact vg
          have uq : ((r.next w).serve n ow).unown.quiet = true := by unfold Row.unown; split <;> exact hq
          have us : ((r.next w).serve n ow).unown.served = n := by unfold Row.unown; split <;> rfl
          have uo : -1 ≤ ((r.next w).serve n ow).unown.owner ∧ ((r.next w).serve n ow).unown.owner < 4 := by
            have := hL.owner
            unfold Row.unown; split
            · show -1 ≤ (-1 : Int) ∧ (-1 : Int) < 4; omega
            · exact this
          have un : (z.unown n.core).now = n := by unfold RLn.unown; split <;> exact zn
          generalize ((r.next w).serve n ow).unown = r' at U ub ug uq us uo ⊢
          generalize z.unown n.core = z' at U un ⊢
          unfold Row.getS RLn.getS
          have zo : z'.owner = r'.owner := U.owner
          by_cases ho : r'.owner = -1
          · rw [if_neg (show ¬ r'.owner ≠ -1 from fun e => e ho), if_neg (show ¬ 0 ≤ z'.owner by omega)]
            exact grant_rel (y := z'.on) U ub ug (by rw [us]; exact hn0)
          · rw [if_pos (show r'.owner ≠ -1 from ho), if_pos (show 0 ≤ z'.owner by omega)]
            have e : [z'.owner] = [r'.owner.toNat].map fun (i : Nat) => (i : Int) := by simp; omega
            rw [e]
            refine ⟨ask_rel (y := z'.on) U ub uq (fun c hc => by rw [List.mem_singleton.1 hc]; omega), ?_⟩
            show probes k 1 _ = probesR z'.now.line 1 _
            rw [un, hnl, probes_eq]
      · have hmf : may = false := by simpa using hmay
        rw [← ej, if_neg hmay, if_pos ⟨hn0, hmf⟩]
        refine ⟨S, ?_⟩
        show [ackN 9 n.core k] = [z.noteR 9]
        unfold RLn.noteR ackN
        rw [zn, hnl]
    · have h0 : n.kind = 0 := by omega
      rw [if_neg hk, if_neg (show ¬ (n.kind ≠ 0 ∧ may = false) from fun e => e.1 h0), if_neg (show ¬ n.kind = 1 by omega)]
      have hc : n.face.core = -1 := by unfold Note.face; rw [if_pos h0]
      unfold RLn.getM
      rw [hc, face_kind]
      have hh : z.holders (-1) = ((r.next w).holders (-1)).map fun (i : Nat) => (i : Int) := holders_eq S.owner S.sh
      by_cases hf : (r.next w).first (-1) = -1
      · rw [if_pos hf, if_neg (show ¬ z.holders (-1) ≠ [] by rw [hh, first_none.1 hf]; simp), if_pos h0]
        exact ⟨S, rfl⟩
      · have he : (r.next w).holders (-1) ≠ [] := fun e => hf (first_none.2 e)
        rw [if_neg hf, if_pos (show z.holders (-1) ≠ [] by rw [hh]; simpa using he), hh]
        refine ⟨ask_rel (y := z.on) (V0 h0) rfl hq (fun c hc => holders_lt c hc), ?_⟩
        show probes k 0 _ = probesR z.now.line 0 _
        rw [zn, face_line, hnl, probes_eq]
theorem begin_rel {k : Nat} {x : Lin} {y : RLn} {may : Bool} {ow : Int} {j : Int → Int × Bool} (R : RRel k x y) (hL : LInv k x.1) (hm : ∀ n w, x.1.waits = n :: w → n.kind = 1 ∨ n.kind = 2 → (ow, may) = j n.world) :
    RRel k (Lin.begin x k j).1 (y.begin may ow).1 ∧ (Lin.begin x k j).2 = (y.begin may ow).2 := by
  unfold Lin.begin RLn.begin
  rw [R.busy, R.row]
  by_cases hb : x.1.busy = true
  · rw [if_pos hb, if_pos hb]; exact ⟨R, rfl⟩
  · rw [if_neg hb, if_neg hb]
    cases hw : x.1.waits with
    | nil => exact ⟨R, rfl⟩
    | cons n w =>
      have H := begun_rel (m := x.2) (r := x.1) R hL hw (by simpa using hb) (hm n w hw)
      exact ⟨H.1, by simp only [List.map_cons, H.2]⟩
theorem countP_face {l : List Note} : (l.map Note.face).countP isSw = l.countP isSw := by
  rw [List.countP_map]
  congr 1
  funext n
  show isSw n.face = isSw n
  unfold isSw; rw [face_kind]
theorem sw_rel {k : Nat} {x : Lin} {y : RLn} (R : RRel k x y) : y.sw = x.1.sw := by
  unfold RLn.sw Row.sw Row.cur
  rw [R.row, countP_face, R.busy, Nat.add_comm]
  by_cases hb : x.1.busy = true
  · rw [(R.now hb).1, face_kind]
  · rw [if_neg (fun e => hb e.1), if_neg (fun e => hb e.1)]
theorem sharers_rel {k : Nat} {x : Lin} {y : RLn} (R : RRel k x y) : y.sharers = x.1.sharers.map fun (j : Nat) => (j : Int) := sharersF_eq R.sh 4 0 rfl
end Go.Hm
end
section
namespace Go.Proofs.YtagcnlaofkfpjaaDoor
open Go Go.Ab Go.Hm
abbrev SA := Option Addr × Nat
def RLn.enc (y : RLn) (s r w : SA) : List Value :=
  [I y.owner, .slice s.1 y.sh.length s.2, .slice r.1 y.row.length r.2, I y.now.kind, I y.now.core, I y.now.line, I y.now.world, I y.now.state, I y.now.d0, I y.now.d1, .bool y.now.dirty, I y.now.no, .bool y.busy, .slice w.1 y.aw.length w.2, .bool y.granted, .bool y.told, I y.d.1, I y.d.2, I y.mem.1, I y.mem.2, I y.world]
def shC (y : RLn) (s : SA) : HP := slc 1 3 s.1 s.2 (y.sh.length, y.sh.map I)
def rowC (y : RLn) (s : SA) : HP := slc 9 38 s.1 s.2 (y.row.length, encNs y.row)
def awC (y : RLn) (s : SA) : HP := slc 1 3 s.1 s.2 (y.aw.length, y.aw.map I)
def rlP (b o : Nat) (y : RLn) (x : SA × SA × SA) : List HP := [seg b o (RLn.enc y x.1 x.2.1 x.2.2), slc 1 3 x.1.1 x.1.2 (y.sh.length, y.sh.map I), slc 9 38 x.2.1.1 x.2.1.2 (y.row.length, encNs y.row), slc 1 3 x.2.2.1 x.2.2.2 (y.aw.length, y.aw.map I)]
/-- a line -/
def rlR (b o : Nat) (y : RLn) : HP := exH fun x : SA × SA × SA => sp (rlP b o y x)
attribute [local irreducible] thn Br ld1 ldN stV alc alcAt alcS alcSAt resv padd nilV extV part1 partN lenS lenT biI biT biB biP biS biF biE biA unV idxS idxA pickV appV copyV clearV slS slA slT mkS blkOf at1 atN atS convI convS minV maxV Cl OkF OkR EndX endV beginV defersOf setLoop closeMarks
variable {G : Bg} {h : AH} {L L' : List HP}
theorem rl_open {b o : Nat} {y : RLn} (hs : Hs G h (rlR b o y :: L)) : ∃ s r w : SA, Hs G h (seg b o (RLn.enc y s r w) :: slc 1 3 s.1 s.2 (y.sh.length, y.sh.map I) :: slc 9 38 r.1 r.2 (y.row.length, encNs y.row) :: slc 1 3 w.1 w.2 (y.aw.length, y.aw.map I) :: L) := by
  obtain ⟨⟨s, r, w⟩, hs⟩ := hs.exE
  exact ⟨s, r, w, hs.unpack⟩
/-- a line is told again -/
theorem rl_shut (b o : Nat) (y : RLn) (s r w : SA) {c' : List Value} {n1 n2 n3 : Nat} {c1 c2 c3 : List Value} {L1 L2 L3 L4 : List HP} (hs : Hs G h L) [m : Has (seg b o) L c' L1] (hc : c' = RLn.enc y s r w) [m1 : Has (slc 1 3 s.1 s.2) L1 (n1, c1) L2] (h1 : n1 = y.sh.length ∧ c1 = y.sh.map I)
    [m2 : Has (slc 9 38 r.1 r.2) L2 (n2, c2) L3] (h2 : n2 = y.row.length ∧ c2 = encNs y.row) [m3 : Has (slc 1 3 w.1 w.2) L3 (n3, c3) L4] (h3 : n3 = y.aw.length ∧ c3 = y.aw.map I) : Hs G h (rlR b o y :: L4) := by
  obtain ⟨rfl, rfl⟩ := h1
  obtain ⟨rfl, rfl⟩ := h2
  obtain ⟨rfl, rfl⟩ := h3
  subst hc
  exact Hs.exI (A := fun x : SA × SA × SA => sp (rlP b o y x)) (s, r, w) (Hs.pack (A := rlP b o y (s, r, w)) (hs.perm (m.perm.trans ((m1.perm.trans ((m2.perm.trans (m3.perm.cons _)).cons _)).cons _))))
theorem map_at {l : List Int} {i : Nat} (h : i < l.length) : (l.map I)[i]? = some (I l[i]) := by rw [List.getElem?_map, List.getElem?_eq_getElem h]; rfl
theorem in_ok {e : TypeId} {a : Option Addr} {c n : Nat} {cs : List Value} {l : List Int} {x : Int} {Q : Value → AH → Prop} (hs : Hs G h L) [m : Has (slc 1 e a c) L (n, cs) L'] (hn : n = l.length) (hc : cs = l.map I) (hl : l.length < 2 ^ 40) (hk : Q (.bool (decide (x ∈ l))) h) : Cl Pr K 52 [.slice a n c, I x] h Q := by
  subst hn; subst hc
  have loop : ∀ (f i : Nat), i + f = l.length → (decide (x ∈ l) = decide (x ∈ l.drop i)) → A52_1 Q (.slice a l.length c) (I x) (I i) h := by
    intro f
    induction f with
    | zero =>
      intro i hi he
      refine b52_1 (r_lenS (r_ltI (r_brF (by omega) ?_)))
      rw [he, List.drop_of_length_le (by omega)] at hk
      simpa using hk
    | succ f ih =>
      intro i hi he
      have hlt : i < l.length := by omega
      refine b52_1 (r_lenS (r_ltI (r_brT (by omega) (b52_2 ?_))))
      refine r_slc1 (e := e) hs (u := I l[i]) (map_at hlt) (r_eqI (r_br (fun h1 => ?_) (fun h1 => ?_)))
      · rw [he, decide_eq_true (show x ∈ l.drop i by rw [List.drop_eq_getElem_cons hlt, h1]; exact List.mem_cons_self)] at hk
        exact hk
      · refine b52_3 (r_addI (by omega) (ih (i + 1) (by omega) ?_))
        rw [he, List.drop_eq_getElem_cons hlt]
        exact decide_eq_decide.2 ⟨fun h => (List.mem_cons.1 h).resolve_left (fun e => h1 e.symm), fun h => List.mem_cons_of_mem _ h⟩
  exact c52 (b52_0 (loop l.length 0 (by omega) rfl))
theorem wo_cons {x n : Int} {l : List Int} : wo (x :: l) n = if x ≠ n then x :: wo l n else wo l n := by
  unfold wo
  by_cases h : x = n <;> simp [h]
theorem without_ok {a : Option Addr} {c n : Nat} {cs : List Value} {l : List Int} {x : Int} {Q : Value → AH → Prop} (hs : Hs G h L) [m : Has (slc 1 3 a c) L (n, cs) L'] (hn : n = l.length) (hc : cs = l.map I) (hl : l.length < 2 ^ 40)
    (hk : ∀ a' c' h', Hs G h' (slc 1 3 a' c' ((wo l x).length, (wo l x).map I) :: L) → Q (.slice a' (wo l x).length c') h') : Cl Pr K 53 [.slice a n c, I x] h Q := by
  subst hn; subst hc
  have loop : ∀ (f i : Nat) (done : List Int) (a2 : Option Addr) (c2 : Nat) (g : HP) (h : AH), i + f = l.length → done.length ≤ i → done ++ wo (l.drop i) x = wo l x → Hs G h (slc 1 3 a2 c2 (done.length, done.map I) :: g :: L) → A53_1 Q (.slice a l.length c) (I x) (.slice a2 done.length c2) (I i) h := by
    intro f
    induction f with
    | zero =>
      intro i done a2 c2 g h hi hd he hs
      refine b53_1 (r_lenS (r_ltI (r_brF (by omega) ?_)))
      rw [List.drop_of_length_le (by omega)] at he
      have he : done = wo l x := by simpa [wo] using he
      rw [← he] at hk
      exact hk _ _ _ (drop2 hs)
    | succ f ih =>
      intro i done a2 c2 g h hi hd he hs
      have hlt : i < l.length := by omega
      rw [List.drop_eq_getElem_cons hlt, wo_cons] at he
      have hs1 : Hs G h (slc 1 3 a c (l.length, l.map I) :: L') := m.of hs.tail.tail
      refine b53_1 (r_lenS (r_ltI (r_brT (by omega) (b53_2 ?_))))
      refine r_slc1 (e := 3) hs1 (u := I l[i]) (map_at hlt) (r_neI (r_br (fun h1 => ?_) (fun h1 => ?_)))
      · rw [if_pos h1] at he
        refine b53_3 (r_slc1 (e := 3) hs1 (u := I l[i]) (map_at hlt) (r_fill (c := [I l[i]]) rfl (r_newS hs rfl rfl rfl ?_)))
        intro a3 h hs
        refine r_appS (hs.front2 (slc 1 3 a2 c2 (done.length, done.map I)) (slc 1 3 (some a3) 1 (1, [I l[i]]))) (by omega) ?_
        intro a4 c4 h hs
        dsimp only
        refine r_addI (by omega) ?_
        have := ih (i + 1) (done ++ [l[i]]) a4 c4 (sp [slc 1 3 (some a3) 1 (1, [I l[i]]), g]) h (by omega) (by simp; omega) (by rw [← he]; simp) (by
          simp only [List.map_append, List.length_append, List.map_cons, List.map_nil, List.length_cons, List.length_nil, Nat.zero_add] at hs ⊢
          exact hs.to)
        simpa using this
      · rw [if_neg h1] at he
        exact b53_4 (r_addI (by omega) (ih (i + 1) done a2 c2 g h (by omega) (by omega) he hs))
  refine c53 (b53_0 (loop l.length 0 [] none 0 (sp []) h (by omega) (by simp) (by simp) ?_))
  exact slc_nil (Hs.pack (A := []) hs)
theorem holders_rok {b o : Nat} {y : RLn} {s r w : SA} {x : Int} {cs : List Value} {n : Nat} {ss : List Value} {Q : Value → AH → Prop} (hs : Hs G h L) [m : Has (seg b o) L cs L'] (hc : cs = RLn.enc y s r w) {M : List HP} [m2 : Has (slc 1 3 s.1 s.2) L (n, ss) M] (hss : n = y.sh.length ∧ ss = y.sh.map I) (hl : y.sh.length < 2 ^ 40)
    (hk : ∀ a' c' h', Hs G h' (slc 1 3 a' c' ((y.holders x).length, (y.holders x).map I) :: L) → Q (.slice a' (y.holders x).length c') h') : Cl Pr K 57 [pt b o 0, I x] h Q := by
  subst hc
  obtain ⟨rfl, rfl⟩ := hss
  have loop : ∀ (f i : Nat) (done : List Int) (a2 : Option Addr) (c2 : Nat) (g : HP) (h : AH), i + f = 4 → done.length ≤ i → done ++ y.holdersF x f i = y.holders x → Hs G h (slc 1 3 a2 c2 (done.length, done.map I) :: g :: L) → A57_1 Q (pt b o 0) (I x) (.slice a2 done.length c2) (I i) h := by
    intro f
    induction f with
    | zero =>
      intro i done a2 c2 g h hi hd he hs
      refine b57_1 (r_ltI (r_brF (by omega) ?_))
      simp only [RLn.holdersF, List.append_nil] at he
      rw [← he] at hk
      exact hk _ _ _ (drop2 hs)
    | succ f ih =>
      intro i done a2 c2 g h hi hd he hs
      rw [RLn.holdersF] at he
      have hs1 := hs.tail.tail
      have app : ∀ a3 h, y.hold x i = true → Hs G h (slc 1 3 (some a3) 1 (1, [I i]) :: slc 1 3 a2 c2 (done.length, done.map I) :: g :: L) → thn (appV 1 8 3 h (.slice a2 done.length c2) (.slice (some a3) 1 1)) fun r => thn (biI .add (I i) (I 1)) fun v => A57_1 Q (pt b o 0) (I x) r.1 v r.2 := fun a3 h hh hs => by
        rw [if_pos hh] at he
        refine r_appS (hs.front2 (slc 1 3 a2 c2 (done.length, done.map I)) (slc 1 3 (some a3) 1 (1, [I i]))) (by omega) ?_
        intro a4 c4 h hs
        dsimp only
        refine r_addI (by omega) ?_
        have := ih (i + 1) (done ++ [(i : Int)]) a4 c4 (sp [slc 1 3 (some a3) 1 (1, [I i]), g]) h (by omega) (by simp; omega) (by rw [← he]; simp) (by
          simp only [List.map_append, List.length_append, List.map_cons, List.map_nil, List.length_cons, List.length_nil, Nat.zero_add] at hs ⊢
          exact hs.to)
        simpa using this
      refine b57_1 (r_ltI (r_brT (by omega) (b57_2 (r_neI (r_br (fun h1 => ?_) (fun h1 => ?_))))))
      · refine r_nilP (r_padd (r_ld hs1 rfl (r_eqI (r_br (fun h2 => ?_) (fun h2 => ?_)))))
        · refine r_fill (c := [I i]) rfl (r_newS hs rfl rfl rfl ?_)
          intro a3 h hs
          exact app a3 h (by unfold RLn.hold; rw [decide_eq_true h1, decide_eq_true h2]; rfl) hs
        · refine r_nilP (r_padd (r_ld hs1 rfl (in_ok (e := 3) (l := y.sh) hs1 rfl rfl hl (r_br (fun h3 => ?_) (fun h3 => ?_)))))
          · refine b57_3 (r_fill (c := [I i]) rfl (r_newS hs rfl rfl rfl ?_))
            intro a3 h hs
            exact app a3 h (by unfold RLn.hold; rw [decide_eq_true h1, decide_eq_true h3]; simp) hs
          · rw [if_neg (by unfold RLn.hold; rw [decide_eq_false h2, decide_eq_false h3]; simp)] at he
            exact b57_4 (r_addI (by omega) (ih (i + 1) done a2 c2 g h (by omega) (by omega) he hs))
      · rw [if_neg (by unfold RLn.hold; rw [decide_eq_false h1]; simp)] at he
        exact r_addI (by omega) (ih (i + 1) done a2 c2 g h (by omega) (by omega) he hs)
  refine c57 (b57_0 (loop 4 0 [] none 0 (sp []) h (by omega) (by simp) (by rfl) ?_))
  exact slc_nil (Hs.pack (A := []) hs)
theorem note_rok {b o : Nat} {y : RLn} {s r w : SA} {kind : Int} {cs : List Value} {Q : Value → AH → Prop} (hs : Hs G h L) [m : Has (seg b o) L cs L'] (hc : cs = RLn.enc y s r w) (hk : ∀ h', Hs G h' L → Q (.agg ⟨(y.noteR kind).enc⟩) h') : Cl Pr K 55 [pt b o 0, I kind] h Q := by
  subst hc
  refine c55 (b55_0 (r_new hs ?_))
  intro p h hs
  refine r_resv hs ?_
  intro rv h hs
  have hs1 : Hs G h (seg b o (RLn.enc y s r w) :: L') := m.of hs.tail.tail
  refine r_nilP (r_padd (r_padd (r_ld hs1 rfl (r_nilP (r_padd (r_padd (r_ld hs1 rfl (r_fill (c := (y.noteR kind).enc) rfl ?_))))))))
  refine r_stW hs rfl rfl rfl rfl ?_
  intro h hs
  refine r_ldN hs (by decide) (l := (y.noteR kind).enc) rfl rfl ?_
  exact hk h hs.tail.tail
theorem probes_rok {b o : Nat} {y : RLn} {s r w : SA} {st : Int} {l : List Int} {a : Option Addr} {c : Nat} {Q : Value → AH → Prop} (hl : l.length < 2 ^ 30) (hs : Hs G h (seg b o (RLn.enc y s r w) :: slc 1 3 a c (l.length, l.map I) :: L))
    (hk : ∀ v h', Hs G h' (notesR v (probesR y.now.line st l) :: seg b o (RLn.enc (y.ask l) s r (a, c)) :: slc 1 3 a c (l.length, l.map I) :: L) → Q v h') : Cl Pr K 56 [pt b o 0, I st, .slice a l.length c] h Q := by
  have loop : ∀ (f i : Nat) (a2 : Option Addr) (c2 : Nat) (g : HP) (h : AH), i + f = l.length → Hs G h (slc 9 38 a2 c2 ((probesR y.now.line st (l.take i)).length, encNs (probesR y.now.line st (l.take i))) :: seg b o (RLn.enc y s r w) :: slc 1 3 a c (l.length, l.map I) :: g :: L) →
      A56_1 Q (pt b o 0) (I st) (.slice a l.length c) (.slice a2 (probesR y.now.line st (l.take i)).length c2) (I i) h := by
    intro f
    induction f with
    | zero =>
      intro i a2 c2 g h hi hs
      rw [List.take_of_length_le (by omega)] at hs ⊢
      refine b56_1 (r_lenS (r_ltI (r_brF (by omega) (b56_3 (r_nilP (r_padd (r_sto hs rfl rfl rfl rfl ?_)))))))
      intro h hs
      refine r_nilP (r_padd (r_sto hs rfl rfl rfl rfl ?_))
      intro h hs
      have hs : Hs G h (slc 9 38 a2 c2 ((probesR y.now.line st l).length, encNs (probesR y.now.line st l)) :: seg b o (RLn.enc (y.ask l) s r (a, c)) :: slc 1 3 a c (l.length, l.map I) :: L) := (hs.sg (b := b) (o := o) (c := RLn.enc (y.ask l) s r (a, c)) rfl).to
      exact hk _ _ (notesI rfl rfl hs)
    | succ f ih =>
      intro i a2 c2 g h hi hs
      have hlt : i < l.length := by omega
      have hpl : (probesR y.now.line st (l.take i)).length = i := by simp [probesR]; omega
      refine b56_1 (r_lenS (r_ltI (r_brT (by omega) (b56_2 (r_resv hs ?_)))))
      intro rv h hs
      refine r_slc1 (e := 3) hs (u := I l[i]) (map_at hlt) (r_nilP (r_padd (r_padd (r_ld hs rfl (r_fill (c := (⟨11, l[i], y.now.line, 0, st, 0, 0, false, 0⟩ : Note).enc) rfl (r_fill (c := (⟨11, l[i], y.now.line, 0, st, 0, 0, false, 0⟩ : Note).enc) rfl ?_))))))
      refine r_newSAt hs rfl rfl rfl rfl rfl ?_
      intro a3 h hs
      refine r_appS (hs.front2 (slc 9 38 a2 c2 ((probesR y.now.line st (l.take i)).length, encNs (probesR y.now.line st (l.take i)))) (slc 9 38 (some a3) 1 (1, (⟨11, l[i], y.now.line, 0, st, 0, 0, false, 0⟩ : Note).enc))) (by omega) ?_
      intro a4 c4 h hs
      dsimp only
      refine r_addI (by omega) ?_
      have e : probesR y.now.line st (l.take (i + 1)) = probesR y.now.line st (l.take i) ++ [⟨11, l[i], y.now.line, 0, st, 0, 0, false, 0⟩] := by
        rw [List.take_succ_eq_append_getElem hlt]
        simp only [probesR, List.map_append, List.map_cons, List.map_nil, Note.zero]
      have := ih (i + 1) a4 c4 (sp [slc 9 38 (some a3) 1 (1, (⟨11, l[i], y.now.line, 0, st, 0, 0, false, 0⟩ : Note).enc), frK rv (15, [12]), g]) h (by omega) (by
        rw [e, encNs_append, List.length_append]
        simp only [encNs_cons, encNs_nil, List.append_nil, List.length_cons, List.length_nil, Nat.zero_add]
        exact hs.to)
      rw [e, List.length_append] at this
      exact this
  refine c56 (b56_0 (loop l.length 0 none 0 (sp []) h (by omega) ?_))
  have hs := slc_nil (W := 9) (e := 38) hs
  exact (show Hs G h (slc 9 38 none 0 ((probesR y.now.line st (l.take 0)).length, encNs (probesR y.now.line st (l.take 0))) :: _) from hs).to
end Go.Proofs.YtagcnlaofkfpjaaDoor
end
section
namespace Go.Proofs.YtagcnlaofkfpjaaDoor
open Go Go.Ab Go.Hm
attribute [local irreducible] thn Br ld1 ldN stV alc alcAt alcS alcSAt resv padd nilV extV part1 partN lenS lenT biI biT biB biP biS biF biE biA unV idxS idxA pickV appV copyV clearV slS slA slT mkS blkOf at1 atN atS convI convS minV maxV Cl OkF OkR EndX endV beginV defersOf setLoop closeMarks
variable {G : Bg} {h : AH} {L L' : List HP}
section
variable {b o p : Nat} {y : RLn} {s r w : SA} {Q : Value → AH → Prop} {d : Ln}
def gn (y : RLn) (st : Int) (d : Ln) : Note := ⟨8, y.now.core, y.now.line, y.world, st, d.1, d.2, false, 0⟩
theorem grant_r7 {st : Int} (hs : Hs G h (seg p 0 (gn y st d).enc :: rlR b o y :: L)) (hk : ∀ v h', Hs G h' (notesR v [gn y st d] :: rlR b o y.own :: L) → Q v h') : A54_7 Q (pt b o 0) (pt p 0 0) h := by
  obtain ⟨s, r, w, hs⟩ := rl_open hs.at2
  refine b54_7 (r_padd (r_ld hs rfl (r_nilP (r_padd (r_sto hs rfl rfl rfl rfl ?_)))))
  intro h hs
  refine r_nilP (r_padd (r_sto hs rfl rfl rfl rfl ?_))
  intro h hs
  refine r_nilP (r_padd (r_sto hs rfl rfl rfl rfl ?_))
  intro h hs
  refine r_nilP (r_padd (r_sto hs rfl rfl rfl rfl ?_))
  intro h hs
  refine r_nilP (r_padd (r_sto hs rfl rfl rfl rfl ?_))
  intro h hs
  refine r_ldN hs (by decide) (l := (gn y st d).enc) rfl rfl (r_fill (c := (gn y st d).enc) rfl (r_newS hs rfl rfl rfl ?_))
  intro a h hs
  refine hk _ _ ?_
  have hs := notes1 (n := gn y st d) rfl hs
  have hs := rl_shut b o y.own (none, 0) r w (slc_nil (W := 1) (e := 3) hs) rfl ⟨rfl, rfl⟩ ⟨rfl, rfl⟩ ⟨rfl, rfl⟩
  exact hs.to
theorem grant_r6 (hl : y.sh.length < 2 ^ 30) (hs : Hs G h (seg p 0 (gn y 1 d).enc :: rlR b o y :: L)) (hk : ∀ v h', Hs G h' (notesR v [gn y 1 d] :: rlR b o y.share :: L) → Q v h') : A54_6 Q (pt b o 0) (pt p 0 0) h := by
  obtain ⟨s, r, w, hs⟩ := rl_open hs.at2
  refine b54_6 (r_resv hs ?_)
  intro rv h hs
  have hs0 := hs
  refine r_nilP (r_padd (r_ld hs rfl (r_padd (r_ld hs (v := I y.now.core) rfl (without_ok (l := y.sh) (x := y.now.core) hs rfl rfl (by omega) ?_)))))
  intro a1 c1 h hs
  have hwl : (wo y.sh y.now.core).length ≤ y.sh.length := List.length_filter_le _ _
  refine r_padd (r_ld hs (v := I y.now.core) rfl (r_fill (c := [I y.now.core]) rfl (r_newSAt hs rfl rfl rfl rfl rfl ?_)))
  intro a3 h hs
  refine r_appS (hs.front2 (slc 1 3 a1 c1 ((wo y.sh y.now.core).length, (wo y.sh y.now.core).map I)) (slc 1 3 (some a3) 1 (1, [I y.now.core]))) (by omega) ?_
  intro a4 c4 h hs
  dsimp only
  refine r_nilP (r_padd (r_sto hs rfl rfl rfl rfl ?_))
  intro h hs
  refine r_fl veq_P (r_fl veq_P (r_fl (r_padd veq_P) (r_fl (r_ld hs0 rfl veq_I) ?_)))
  clear hs0
  refine r_nilP (r_padd (r_sto hs rfl rfl rfl rfl ?_))
  intro h hs
  refine r_nilP (r_padd (r_sto hs rfl rfl rfl rfl ?_))
  intro h hs
  refine r_nilP (r_padd (r_sto hs rfl rfl rfl rfl ?_))
  intro h hs
  refine r_ldN hs (by decide) (l := (gn y 1 d).enc) rfl rfl (r_fill (c := (gn y 1 d).enc) rfl (r_newS hs rfl rfl rfl ?_))
  intro a h hs
  refine hk _ _ ?_
  have hs := notes1 (n := gn y 1 d) rfl hs
  have hs := rl_shut b o y.share (a4, c4) r w hs (by simp [RLn.enc, setL, RLn.share]) ⟨by simp [RLn.share], by simp [RLn.share]⟩ ⟨rfl, rfl⟩ ⟨rfl, rfl⟩
  exact hs.to
theorem grant_r4 (hl : y.sh.length < 2 ^ 30) {st : Int} (h1 : st = 1 ∨ y.now.kind ≠ 1) (hst : y.gst = st) (hd : d = y.dat) (hs : Hs G h (seg p 0 (gn y st d).enc :: rlR b o y :: L)) (hk : ∀ v h', Hs G h' (notesR v [y.gnote] :: rlR b o y.grant :: L) → Q v h') : A54_4 Q (pt b o 0) (pt p 0 0) h := by
  have hg : y.gnote = gn y st d := by unfold RLn.gnote gn; rw [hst, hd]
  rw [hg] at hk
  unfold RLn.grant at hk
  rw [hst] at hk
  refine b54_4 (r_padd (r_ld hs rfl (r_eqI (r_br (fun h2 => ?_) (fun h2 => ?_)))))
  · have h2 : st = 1 := h2
    subst h2
    rw [if_pos rfl] at hk
    exact grant_r6 hl hs hk
  · rw [if_neg (show ¬ st = 1 from h2)] at hk
    exact grant_r7 hs hk
theorem grant_r3 (hl : y.sh.length < 2 ^ 30) (h1 : y.now.kind = 1) {st : Int} (hd : d = y.dat) (hs : Hs G h (seg p 0 (gn y st d).enc :: rlR b o y :: L)) (hk : ∀ v h', Hs G h' (notesR v [y.gnote] :: rlR b o y.grant :: L) → Q v h') : A54_3 Q (pt b o 0) (pt p 0 0) h := by
  obtain ⟨s, r, w, hs⟩ := rl_open hs.at2
  refine b54_3 (r_padd (r_sto hs rfl rfl rfl rfl ?_))
  intro h hs
  have hs := hs.sg (b := p) (o := 0) (c := (gn y 2 d).enc) rfl
  refine r_padd (r_ld hs (v := I y.now.core) rfl (holders_rok (x := y.now.core) (y := y) (s := s) (r := r) (w := w) hs rfl ⟨rfl, rfl⟩ (by omega) ?_))
  intro a1 c1 h hs
  refine r_lenS (r_gtI (r_br (fun h2 => ?_) (fun h2 => ?_)))
  · refine b54_5 (r_padd (r_sto hs rfl rfl rfl rfl ?_))
    intro h hs
    have hs := hs.sg (b := p) (o := 0) (c := (gn y 1 d).enc) rfl
    have hs := rl_shut b o y s r w hs rfl ⟨rfl, rfl⟩ ⟨rfl, rfl⟩ ⟨rfl, rfl⟩
    have hst : y.gst = 1 := by unfold RLn.gst; rw [if_pos h1, if_neg (fun e => by rw [e] at h2; simp at h2)]
    have hg : y.gnote = gn y 1 d := by unfold RLn.gnote gn; rw [hst, hd]
    rw [hg] at hk
    unfold RLn.grant at hk
    rw [if_pos hst] at hk
    refine r_padd (r_ld hs rfl (r_eqI (r_brT rfl ?_)))
    exact grant_r6 (L := L) hl hs.to hk
  · have hst : y.gst = 2 := by
      unfold RLn.gst; rw [if_pos h1, if_pos (List.eq_nil_of_length_eq_zero (by omega))]
    have hg : y.gnote = gn y 2 d := by unfold RLn.gnote gn; rw [hst, hd]
    have hs := rl_shut b o y s r w hs rfl ⟨rfl, rfl⟩ ⟨rfl, rfl⟩ ⟨rfl, rfl⟩
    rw [hg] at hk
    unfold RLn.grant at hk
    rw [hst, if_neg (show ¬ (2 : Int) = 1 by decide)] at hk
    refine b54_4 (r_padd (r_ld hs rfl (r_eqI (r_brF (show ¬ (2 : Int) = 1 by decide) ?_))))
    exact grant_r7 (L := L) hs.to hk
theorem grant_rok (hl : y.sh.length < 2 ^ 30) (hs : Hs G h (rlR b o y :: L)) (hk : ∀ v h', Hs G h' (notesR v [y.gnote] :: rlR b o y.grant :: L) → Q v h') : Cl Pr K 54 [pt b o 0] h Q := by
  obtain ⟨s, r, w, hs⟩ := rl_open hs
  refine c54 (b54_0 (note_rok (y := y) (s := s) (r := r) (w := w) hs rfl fun h hs => r_new hs ?_))
  intro p h hs
  refine r_stW hs rfl rfl rfl rfl ?_
  intro h hs
  refine r_nilP (r_padd (r_ld hs rfl (r_padd (r_sto hs rfl rfl rfl rfl ?_))))
  intro h hs
  refine r_nilP (r_padd (r_ldN hs (by decide) (l := [I y.mem.1, I y.mem.2]) rfl rfl (r_padd (r_sto hs rfl rfl rfl rfl ?_))))
  intro h hs
  have fin : ∀ h d, d = y.dat → Hs G h (seg p 0 (gn y 4 d).enc :: rlR b o y :: L) → (y.now.kind = 1 → A54_3 Q (pt b o 0) (pt p 0 0) h) ∧ (y.now.kind ≠ 1 → A54_4 Q (pt b o 0) (pt p 0 0) h) := fun h d hd hs =>
    ⟨fun h1 => grant_r3 hl h1 hd hs hk, fun h1 => grant_r4 hl (.inr h1) (by unfold RLn.gst; rw [if_neg h1]) hd hs hk⟩
  refine r_nilP (r_padd (r_ld hs rfl (r_brb (fun ht => ?_) (fun ht => ?_))))
  · refine b54_1 (r_nilP (r_padd (r_ldN hs (by decide) (l := [I y.d.1, I y.d.2]) rfl rfl (r_padd (r_sto hs rfl rfl rfl rfl ?_)))))
    intro h hs
    refine r_padd (r_sto hs rfl rfl rfl rfl ?_)
    intro h hs
    have hs := hs.sg (b := p) (o := 0) (c := (gn y 4 y.d).enc) rfl
    have hs1 := rl_shut b o y s r w hs rfl ⟨rfl, rfl⟩ ⟨rfl, rfl⟩ ⟨rfl, rfl⟩
    have := fin h y.d (by unfold RLn.dat; rw [if_pos ht]) hs1.to
    exact r_nilP (r_padd (r_padd (r_ld hs rfl (r_eqI (r_br this.1 this.2)))))
  · refine b54_2 (r_padd (r_sto hs rfl rfl rfl rfl ?_))
    intro h hs
    have hs := hs.sg (b := p) (o := 0) (c := (gn y 4 y.mem).enc) rfl
    have hs1 := rl_shut b o y s r w hs rfl ⟨rfl, rfl⟩ ⟨rfl, rfl⟩ ⟨rfl, rfl⟩
    have := fin h y.mem (by unfold RLn.dat; rw [if_neg (by rw [ht]; simp)]) hs1.to
    exact r_nilP (r_padd (r_padd (r_ld hs rfl (r_eqI (r_br this.1 this.2)))))
end
/-! ### a Take -/
section
variable {b o p : Nat} {y : RLn} {n : Note} {Q : Value → AH → Prop} {t6 : Value}
def Bd (y : RLn) : Prop := y.sh.length < 2 ^ 29 ∧ y.row.length < 2 ^ 29 ∧ y.aw.length < 2 ^ 29
theorem take_r16 (hl : y.sh.length < 2 ^ 30) (hal : y.aw.length < 2 ^ 30) (hs : Hs G h (rlR b o y :: L)) (hk : ∀ v h', Hs G h' (notesR v y.rest.2 :: rlR b o y.rest.1 :: L) → Q (.tuple ⟨[v, I 0]⟩) h') : A39_16 Q (pt b o 0) h := by
  unfold RLn.rest at hk
  have hs0 := hs
  obtain ⟨s, r, w, hs⟩ := rl_open hs
  refine b39_16 (r_nilP (r_padd (r_ld hs rfl (r_lenS (r_gtI (r_br (fun h1 => ?_) (fun h1 => ?_)))))))
  · rw [if_pos (show y.aw ≠ [] from fun e => by rw [e] at h1; simp at h1)] at hk
    exact hk _ _ (notes0 hs0)
  · rw [if_neg (show ¬ y.aw ≠ [] from fun e => e (List.eq_nil_of_length_eq_zero (by omega)))] at hk
    refine b39_19 (r_nilP (r_padd (r_padd (r_ld hs rfl (r_eqI (r_br (fun h2 => ?_) (fun h2 => ?_)))))))
    · rw [if_pos h2] at hk
      refine b39_20 (r_nilP (r_padd (r_sto hs rfl rfl rfl rfl ?_)))
      intro h hs
      exact hk _ _ (notes0 (rl_shut b o y.idle s r w hs rfl ⟨rfl, rfl⟩ ⟨rfl, rfl⟩ ⟨rfl, rfl⟩))
    · rw [if_neg h2] at hk
      exact grant_rok hl hs0 hk
theorem take_r15 (hl : y.sh.length < 2 ^ 30) (hal : y.aw.length < 2 ^ 30) (hs : Hs G h (seg p 0 n.enc :: rlR b o y :: L)) (hk : ∀ v h', Hs G h' (notesR v (y.heard3 n).rest.2 :: rlR b o (y.heard3 n).rest.1 :: L) → Q (.tuple ⟨[v, I 0]⟩) h') : A39_15 Q (pt p 0 0) (pt b o 0) h := by
  obtain ⟨s, r, w, hs⟩ := rl_open hs.at2
  refine b39_15 (r_nilP (r_padd (r_sto hs rfl rfl rfl rfl ?_)))
  intro h hs
  refine r_padd (r_ldN hs (by decide) (l := [I n.d0, I n.d1]) rfl rfl (r_nilP (r_padd (r_sto hs rfl rfl rfl rfl ?_))))
  intro h hs
  have hs1 := (rl_shut b o (y.heard3 n) s r w hs rfl ⟨rfl, rfl⟩ ⟨rfl, rfl⟩ ⟨rfl, rfl⟩)
  have go : A39_16 Q (pt b o 0) h := take_r16 (y := y.heard3 n) (L := L) hl hal hs1.to hk
  refine r_nilP (r_padd (r_ld hs rfl (r_lenS (r_gtI (r_br (fun h1 => ?_) (fun h1 => ?_))))))
  · unfold RLn.rest at hk
    rw [if_pos (show (y.heard3 n).aw ≠ [] from fun e => by rw [show y.aw = [] from e] at h1; simp at h1)] at hk
    exact hk _ _ (notes0 hs1).to
  · unfold RLn.rest at hk
    rw [if_neg (show ¬ (y.heard3 n).aw ≠ [] from fun e => e (List.eq_nil_of_length_eq_zero (by have : ¬ (0 : Int) < (y.aw.length : Int) := h1; show y.aw.length = 0; omega)))] at hk
    obtain ⟨s, r, w, hs⟩ := rl_open hs1
    refine b39_19 (r_nilP (r_padd (r_padd (r_ld hs rfl (r_eqI (r_br (fun h2 => ?_) (fun h2 => ?_)))))))
    · rw [if_pos h2] at hk
      refine b39_20 (r_nilP (r_padd (r_sto hs rfl rfl rfl rfl ?_)))
      intro h hs
      exact hk _ _ (notes0 (rl_shut b o (y.heard3 n).idle s r w hs rfl ⟨rfl, rfl⟩ ⟨rfl, rfl⟩ ⟨rfl, rfl⟩)).to
    · rw [if_neg h2] at hk
      exact grant_rok (y := y.heard3 n) (L := L) hl hs1.to hk
theorem take_r12 (hl : y.sh.length < 2 ^ 30) (hal : y.aw.length < 2 ^ 30) (hs : Hs G h (seg p 0 n.enc :: rlR b o y :: L)) (hk : ∀ v h', Hs G h' (notesR v (y.heardD n).rest.2 :: rlR b o (y.heardD n).rest.1 :: L) → Q (.tuple ⟨[v, I 0]⟩) h') :
    (n.dirty = true → A39_15 Q (pt p 0 0) (pt b o 0) h) ∧ (n.dirty = false → A39_16 Q (pt b o 0) h) := by
  unfold RLn.heardD at hk
  refine ⟨fun hd => ?_, fun hd => ?_⟩
  · rw [if_pos hd] at hk
    exact take_r15 hl hal hs hk
  · rw [if_neg (by rw [hd]; simp)] at hk
    exact take_r16 hl hal hs.tail hk
theorem take_r18 (hl : y.sh.length < 2 ^ 30) (hal : y.aw.length < 2 ^ 30) (hs : Hs G h (seg p 0 n.enc :: rlR b o y :: L)) (hk : ∀ v h', Hs G h' (notesR v (y.keep n).rest.2 :: rlR b o (y.keep n).rest.1 :: L) → Q (.tuple ⟨[v, I 0]⟩) h') :
    (n.dirty = true → A39_18 Q (pt p 0 0) (pt b o 0) h) ∧ (n.dirty = false → A39_16 Q (pt b o 0) h) := by
  unfold RLn.keep at hk
  refine ⟨fun hd => ?_, fun hd => ?_⟩
  · rw [if_pos hd] at hk
    obtain ⟨s, r, w, hs⟩ := rl_open hs.at2
    refine b39_18 (r_padd (r_ldN hs (by decide) (l := [I n.d0, I n.d1]) rfl rfl (r_nilP (r_padd (r_sto hs rfl rfl rfl rfl ?_)))))
    intro h hs
    have hs1 := (rl_shut b o ({ y with mem := (n.d0, n.d1) } : RLn) s r w hs rfl ⟨rfl, rfl⟩ ⟨rfl, rfl⟩ ⟨rfl, rfl⟩)
    generalize hy : ({ y with mem := (n.d0, n.d1) } : RLn) = z at hs1 hk
    have el : z.sh = y.sh ∧ z.aw = y.aw := by subst hy; exact ⟨rfl, rfl⟩
    refine r_nilP (r_padd (r_ld hs rfl (r_lenS (r_gtI (r_br (fun h1 => ?_) (fun h1 => ?_))))))
    · unfold RLn.rest at hk
      rw [if_pos (show z.aw ≠ [] from fun e => by rw [← el.2, e] at h1; simp at h1)] at hk
      exact hk _ _ (notes0 hs1).to
    · unfold RLn.rest at hk
      rw [if_neg (show ¬ z.aw ≠ [] from fun e => e (List.eq_nil_of_length_eq_zero (by rw [el.2]; have : ¬ (0 : Int) < (y.aw.length : Int) := h1; omega)))] at hk
      obtain ⟨s, r, w, hs⟩ := rl_open hs1
      refine b39_19 (r_nilP (r_padd (r_padd (r_ld hs rfl (r_eqI (r_br (fun h2 => ?_) (fun h2 => ?_)))))))
      · rw [if_pos h2] at hk
        refine b39_20 (r_nilP (r_padd (r_sto hs rfl rfl rfl rfl ?_)))
        intro h hs
        exact hk _ _ (notes0 (rl_shut b o z.idle s r w hs rfl ⟨rfl, rfl⟩ ⟨rfl, rfl⟩ ⟨rfl, rfl⟩)).to
      · rw [if_neg h2] at hk
        exact grant_rok (y := z) (L := L) (by rw [el.1]; exact hl) hs1.to hk
  · rw [if_neg (by rw [hd]; simp)] at hk
    exact take_r16 hl hal hs.tail hk
theorem take_r11 (hl : y.sh.length < 2 ^ 29) (hal : y.aw.length < 2 ^ 30) (hs : Hs G h (seg p 0 n.enc :: rlR b o y :: L)) (hk : ∀ v h', Hs G h' (notesR v ((y.heard2 n).heardD n).rest.2 :: rlR b o ((y.heard2 n).heardD n).rest.1 :: L) → Q (.tuple ⟨[v, I 0]⟩) h') : A39_11 Q (pt p 0 0) (pt b o 0) h := by
  obtain ⟨s, r, w, hs⟩ := rl_open hs.at2
  have hwl : (wo y.sh n.core).length ≤ y.sh.length := List.length_filter_le _ _
  have hhl : (y.heard2 n).sh.length < 2 ^ 30 := by
    unfold RLn.heard2
    simp only
    split
    · rw [List.length_append, List.length_singleton]; omega
    · omega
  refine b39_11 (r_nilP (r_padd (r_sto hs rfl rfl rfl rfl ?_)))
  intro h hs
  refine r_resv hs ?_
  intro rv h hs
  refine r_nilP (r_padd (r_ld hs rfl (r_padd (r_ld hs (v := I n.core) rfl (without_ok (l := y.sh) (x := n.core) hs rfl rfl (by omega) ?_)))))
  intro a1 c1 h hs
  refine r_nilP (r_padd (r_sto hs rfl rfl rfl rfl ?_))
  intro h hs
  refine r_fl veq_P (r_padd (r_ld hs rfl (r_eqI (r_br (fun h1 => ?_) (fun h1 => r_padd (r_ld hs rfl (r_eqI (r_br (fun h2 => ?_) (fun h2 => r_padd (r_ld hs rfl (r_eqI (r_br (fun h3 => b39_17 ?_) (fun h3 => ?_)))))))))))))
  rotate_left 3
  · have e : (y.heard2 n).sh = wo y.sh n.core := by unfold RLn.heard2; simp only; rw [if_neg (by omega)]
    have hs1 := rl_shut b o (y.heard2 n) (a1, c1) r w hs (by simp [RLn.enc, setL, e]; (repeat' apply And.intro) <;> rfl) ⟨by rw [e], by rw [e]⟩ ⟨rfl, rfl⟩ ⟨rfl, rfl⟩
    have := take_r12 (p := p) (y := y.heard2 n) (L := L) hhl hal hs1.to hk
    exact b39_12 (r_padd (r_ld hs rfl (r_brb this.1 this.2)))
  all_goals
    have e : (y.heard2 n).sh = wo y.sh n.core ++ [n.core] := by unfold RLn.heard2; simp only; rw [if_pos (by omega)]
    refine r_resv hs ?_
    intro rv2 h hs
    refine r_nilP (r_padd (r_ld hs rfl (r_padd (r_ld hs (v := I n.core) rfl (r_fill (c := [I n.core]) rfl (r_newSAt hs rfl rfl rfl rfl rfl ?_))))))
    intro a3 h hs
    refine r_appS (hs.front2 (slc 1 3 a1 c1 ((wo y.sh n.core).length, (wo y.sh n.core).map I)) (slc 1 3 (some a3) 1 (1, [I n.core]))) (by omega) ?_
    intro a4 c4 h hs
    dsimp only
    refine r_nilP (r_padd (r_sto hs rfl rfl rfl rfl ?_))
    intro h hs
    have hs1 := rl_shut b o (y.heard2 n) (a4, c4) r w hs (by simp [RLn.enc, setL, e]; (repeat' apply And.intro) <;> rfl) ⟨by simp [e], by simp [e]⟩ ⟨rfl, rfl⟩ ⟨rfl, rfl⟩
    have := take_r12 (p := p) (y := y.heard2 n) (L := L) hhl hal hs1.to hk
    exact r_fl veq_P (r_padd (r_ld hs rfl (r_brb this.1 this.2)))
theorem take_r10 (hl : y.sh.length < 2 ^ 29) (hal : y.aw.length < 2 ^ 30) (hs : Hs G h (seg p 0 n.enc :: rlR b o y :: L)) (hk : ∀ v h', Hs G h' (notesR v ((y.leave n.core).keep n).rest.2 :: rlR b o ((y.leave n.core).keep n).rest.1 :: L) → Q (.tuple ⟨[v, I 0]⟩) h') : A39_10 Q (pt p 0 0) (pt b o 0) h := by
  obtain ⟨s, r, w, hs⟩ := rl_open hs.at2
  have hwl : (wo y.sh n.core).length ≤ y.sh.length := List.length_filter_le _ _
  have hhl : (y.leave n.core).sh.length < 2 ^ 30 := by
    show (wo y.sh n.core).length < _
    omega
  refine b39_10 (r_resv hs ?_)
  intro rv h hs
  refine r_nilP (r_padd (r_ld hs rfl (r_padd (r_ld hs (v := I n.core) rfl (r_eqI (r_br (fun h1 => b39_13 (r_nilP (r_padd (r_sto hs rfl rfl rfl rfl ?_)))) (fun h1 => b39_14 ?_)))))))
  · intro h hs
    refine r_resv hs ?_
    intro rv h hs
    refine r_nilP (r_padd (r_ld hs rfl (r_padd (r_ld hs (v := I n.core) rfl (without_ok (l := y.sh) (x := n.core) hs rfl rfl (by omega) ?_)))))
    intro a1 c1 h hs
    refine r_nilP (r_padd (r_sto hs rfl rfl rfl rfl ?_))
    intro h hs
    have hs1 := rl_shut b o (y.leave n.core) (a1, c1) r w hs (by simp [RLn.enc, setL, RLn.leave, h1]) ⟨rfl, rfl⟩ ⟨rfl, rfl⟩ ⟨rfl, rfl⟩
    have := take_r18 (p := p) (y := y.leave n.core) (L := L) hhl hal hs1.to hk
    exact r_fl veq_P (r_padd (r_ld hs rfl (r_brb this.1 this.2)))
  · refine r_resv hs ?_
    intro rv h hs
    refine r_nilP (r_padd (r_ld hs rfl (r_padd (r_ld hs (v := I n.core) rfl (without_ok (l := y.sh) (x := n.core) hs rfl rfl (by omega) ?_)))))
    intro a1 c1 h hs
    refine r_nilP (r_padd (r_sto hs rfl rfl rfl rfl ?_))
    intro h hs
    have hs1 := rl_shut b o (y.leave n.core) (a1, c1) r w hs (by simp [RLn.enc, setL, RLn.leave, h1]) ⟨rfl, rfl⟩ ⟨rfl, rfl⟩ ⟨rfl, rfl⟩
    have := take_r18 (p := p) (y := y.leave n.core) (L := L) hhl hal hs1.to hk
    exact r_fl veq_P (r_padd (r_ld hs rfl (r_brb this.1 this.2)))
theorem take_r8 (hl : y.sh.length < 2 ^ 29) (hal : y.aw.length < 2 ^ 29) (hs : Hs G h (seg p 0 n.enc :: rlR b o y :: L)) (hk : ∀ v h', Hs G h' (notesR v (y.heard n).rest.2 :: rlR b o (y.heard n).rest.1 :: L) → Q (.tuple ⟨[v, I 0]⟩) h') : A39_8 Q (pt p 0 0) (pt b o 0) h := by
  obtain ⟨s, r, w, hs⟩ := rl_open hs.at2
  have hwl : (wo y.aw n.core).length ≤ y.aw.length := List.length_filter_le _ _
  have hal2 : (y.heard1 n).aw.length < 2 ^ 30 := by
    show (wo y.aw n.core).length < _
    omega
  refine b39_8 (r_resv hs ?_)
  intro rv h hs
  refine r_nilP (r_padd (r_ld hs rfl (r_padd (r_ld hs (v := I n.core) rfl (without_ok (l := y.aw) (x := n.core) hs rfl rfl (by omega) ?_)))))
  intro a1 c1 h hs
  refine r_nilP (r_padd (r_sto hs rfl rfl rfl rfl ?_))
  intro h hs
  have hs1 := rl_shut b o (y.heard1 n) s r (a1, c1) hs rfl ⟨rfl, rfl⟩ ⟨rfl, rfl⟩ ⟨rfl, rfl⟩
  have hs1 : Hs G h (seg p 0 n.enc :: rlR b o (y.heard1 n) :: L) := hs1.to
  unfold RLn.heard at hk
  refine r_fl veq_P (r_nilP (r_padd (r_padd (r_ld hs rfl (r_eqI (r_br (fun h1 => b39_9 ?_) (fun h1 => ?_)))))))
  · rw [if_pos h1] at hk
    unfold RLn.heardS at hk
    refine r_padd (r_ld hs1 rfl (r_neI (r_br (fun h2 => ?_) (fun h2 => ?_))))
    · rw [if_pos h2] at hk
      exact take_r11 (y := y.heard1 n) hl hal2 hs1 hk
    · rw [if_neg h2] at hk
      have := take_r12 (p := p) (y := y.heard1 n) (show y.sh.length < 2 ^ 30 by omega) hal2 hs1 hk
      exact b39_12 (r_padd (r_ld hs1 rfl (r_brb this.1 this.2)))
  · rw [if_neg h1] at hk
    exact take_r10 (y := y.heard1 n) hl hal2 hs1 hk
theorem take_rl (hl : y.sh.length < 2 ^ 29) (hal : y.aw.length < 2 ^ 29) (hrl : y.row.length < 2 ^ 29) (hs : Hs G h (seg p 0 n.enc :: rlR b o y :: L)) (hk : ∀ v h', Hs G h' (notesR v (y.take n).2.1 :: rlR b o (y.take n).1 :: L) → Q (.tuple ⟨[v, I (y.take n).2.2]⟩) h') :
    (n.kind = 4 → A39_3 Q (pt p 0 0) (pt b o 0) h) ∧ (n.kind ≠ 4 → A39_4 Q (pt p 0 0) (pt b o 0) h) := by
  unfold RLn.take at hk
  refine ⟨fun h4 => ?_, fun h4 => ?_⟩
  · rw [if_pos h4] at hk
    have hs0 := hs
    obtain ⟨s, r, w, hs⟩ := rl_open hs.at2
    refine b39_3 (r_resv hs ?_)
    intro rv h hs
    have no : y.granted = false ∨ y.now.core ≠ n.core → Q (.tuple ⟨[.slice none 0 0, I 16]⟩) h := fun h1 => by
      rw [if_pos h1] at hk
      have hs1 := rl_shut b o y s r w hs rfl ⟨rfl, rfl⟩ ⟨rfl, rfl⟩ ⟨rfl, rfl⟩
      exact hk _ _ (notes0 hs1).to
    refine r_nilP (r_padd (r_ld hs rfl (r_not (r_brn (r_brb (fun h1 => ?_) (fun h1 => no (.inl h1)))))))
    refine r_nilP (r_padd (r_padd (r_ld hs rfl (r_padd (r_ld hs rfl (r_neI (r_br (fun h2 => no (.inr h2)) (fun h2 => b39_5 ?_))))))))
    rw [if_neg (show ¬ (y.granted = false ∨ y.now.core ≠ n.core) by rw [h1]; simpa using h2)] at hk
    refine r_nilP (r_padd (r_sto hs rfl rfl rfl rfl ?_))
    intro h hs
    refine r_nilP (r_padd (r_sto hs rfl rfl rfl rfl ?_))
    intro h hs
    have hs1 := rl_shut b o y.done s r w hs rfl ⟨rfl, rfl⟩ ⟨rfl, rfl⟩ ⟨rfl, rfl⟩
    exact hk _ _ (notes0 hs1).to
  · rw [if_neg h4] at hk
    refine b39_4 (r_padd (r_ld hs rfl (r_neI (r_br (fun h5 => ?_) (fun h5 => ?_)))))
    · have h5 : n.kind ≠ 5 := h5
      rw [if_neg h5] at hk
      obtain ⟨s, r, w, hs⟩ := rl_open hs.at2
      refine b39_6 (r_resv hs ?_)
      intro rv h hs
      refine r_nilP (r_padd (r_ld hs rfl (r_ldN hs (by decide) (l := n.enc) rfl rfl (r_fill (c := n.enc) rfl (r_newSAt hs rfl rfl rfl rfl rfl ?_)))))
      intro a3 h hs
      refine r_appS (hs.front2 (slc 9 38 r.1 r.2 (y.row.length, encNs y.row)) (slc 9 38 (some a3) 1 (1, n.enc))) (by omega) ?_
      intro a4 c4 h hs
      dsimp only
      refine r_nilP (r_padd (r_sto hs rfl rfl rfl rfl ?_))
      intro h hs
      refine r_fl veq_P ?_
      have hs1 := rl_shut b o (y.wait n) s (a4, c4) w hs (by simp [RLn.enc, setL, RLn.wait]) ⟨rfl, rfl⟩ ⟨by simp [RLn.wait], by simp [RLn.wait, encNs_append]⟩ ⟨rfl, rfl⟩
      exact hk _ _ (notes0 hs1).to
    · have h5 : n.kind = 5 := by have : ¬ n.kind ≠ 5 := h5; omega
      rw [if_pos h5] at hk
      obtain ⟨s, r, w, hs⟩ := rl_open hs.at2
      refine b39_7 (r_resv hs ?_)
      intro rv h hs
      refine r_nilP (r_padd (r_ld hs rfl (r_padd (r_ld hs (v := I n.core) rfl (in_ok (e := 3) (l := y.aw) hs rfl rfl (by omega) (r_not (r_brn (r_br (fun h1 => ?_) (fun h1 => ?_)))))))))
      · rw [if_pos h1] at hk
        have hs1 := rl_shut b o y s r w hs rfl ⟨rfl, rfl⟩ ⟨rfl, rfl⟩ ⟨rfl, rfl⟩
        exact take_r8 (L := L) hl hal hs1.to hk
      · rw [if_neg h1] at hk
        have hs1 := rl_shut b o y s r w hs rfl ⟨rfl, rfl⟩ ⟨rfl, rfl⟩ ⟨rfl, rfl⟩
        exact hk _ _ (notes0 hs1).to
end
end Go.Proofs.YtagcnlaofkfpjaaDoor
end
