/- Instructions: the law of texts. -/
import Derived.Test.YtngdhjebbhjokaaDoorB8
import Derived.Test.YtngdhjebbhjokaaDoorB9
section
namespace Go.Proofs.YtngdhjebbhjokaaDoor
open Go Go.Ab Go.Is
/-! decimal numerals -/
attribute [local irreducible] thn Br ld1 ldN stV alc alcAt alcS alcSAt resv padd nilV extV part1 partN lenS lenT biI biT biB biP biS biF biE biA unV idxS idxA pickV appV copyV clearV slS slA slT mkS blkOf at1 atN atS convI convS minV maxV Cl OkF OkR EndX endV beginV defersOf setLoop closeMarks
variable {G : Bg} {h : AH} {L L' M : List HP} {Q : Value → AH → Prop}
theorem decP_ok : ∀ (u : Nat), u ≤ 9223372036854775807 → ∀ (h : AH) (L : List HP) (Q : Value → AH → Prop), Hs G h L → (∀ h', Hs G h' L → Q (tx (Lib.decDigits u)) h') → Cl Pr K 29 [I u] h Q := by
  intro u
  induction u using Nat.strongRecOn with
  | _ u ih =>
    intro hu h L Q hs hk
    refine c29 (b29_0 (r_ltI (r_brF (by omega) (b29_2 (r_rem (by omega) (by decide) (r_addI (by omega) (r_convU (by omega) ?_)))))))
    rw [show (48 : Int) + (u : Int) % 10 = ((48 + u % 10 : Nat) : Int) by omega]
    refine r_fill (c := [.int .u8 ((48 + u % 10 : Nat) : Int)]) rfl (r_newS hs rfl rfl rfl ?_)
    intro a h hs
    refine r_strOf1 (v := 48 + u % 10) (by omega) hs (r_gtI (r_br (fun h9 => b29_3 (r_quo (by omega) (by decide) (by omega) ?_)) (fun h9 => ?_)))
    · rw [show (u : Int) / 10 = ((u / 10 : Nat) : Int) by omega]
      refine ih (u / 10) (by omega) (by omega) h L _ hs.tail fun h hs => ?_
      have h1 := dec_len (u := u / 10) (by omega)
      refine r_catX (by simp; omega) ?_
      have := hk h hs
      rw [Lib.decDigits, dif_neg (by omega)] at this
      exact this
    · have := hk h hs.tail
      rw [Lib.decDigits, dif_pos (by omega)] at this
      rw [show u % 10 = u by omega]
      exact this
theorem decN_ok : ∀ (u : Nat), 1 ≤ u → u ≤ 9223372036854775808 → ∀ (h : AH) (L : List HP) (Q : Value → AH → Prop), Hs G h L → (∀ h', Hs G h' L → Q (tx (45 :: Lib.decDigits u)) h') → Cl Pr K 29 [I (-(u : Int))] h Q := by
  intro u
  induction u using Nat.strongRecOn with
  | _ u ih =>
    intro h1 hu h L Q hs hk
    refine c29 (b29_0 (r_ltI (r_brT (by omega) (b29_1 (r_gtI (r_br (fun h9 => ?_) (fun h9 => ?_)))))))
    · refine r_negI (by omega) ?_
      rw [show (0 : Int) - -(u : Int) = (u : Int) by omega]
      refine decP_ok u (by omega) h L _ hs fun h hs => ?_
      have h1 := dec_len (u := u) (by omega)
      exact r_catX (a := [45]) (by simp; omega) (hk h hs)
    · refine r_quoN (by omega) ?_
      refine ih (u / 10) (by omega) (by omega) (by omega) h L _ hs fun h hs => ?_
      refine r_remN (r_negI (by omega) ?_)
      rw [show (0 : Int) - -((u % 10 : Nat) : Int) = ((u % 10 : Nat) : Int) by omega]
      refine decP_ok (u % 10) (by omega) h L _ hs fun h hs => ?_
      have h1 := dec_len (u := u / 10) (by omega)
      have h2 := dec_len (u := u % 10) (by omega)
      refine r_catX (by simp; omega) ?_
      have := hk h hs
      rw [Lib.decDigits, dif_neg (by omega)] at this
      rw [show Lib.decDigits (u % 10) = [UInt8.ofNat (48 + u % 10)] by rw [Lib.decDigits, dif_pos (by omega)]]
      exact this
theorem dec_ok {x : Int} (hx : inR x) (hs : Hs G h L) (hk : ∀ h', Hs G h' L → Q (tx (Lib.itoa x)) h') : Cl Pr K 29 [I x] h Q := by
  unfold inR at hx
  unfold Lib.itoa at hk
  by_cases h0 : x < 0
  · rw [if_pos h0] at hk
    have := decN_ok x.natAbs (by omega) (by omega) h L Q hs hk
    rwa [show -((x.natAbs : Nat) : Int) = x by omega] at this
  · rw [if_neg h0] at hk
    have := decP_ok x.toNat (by omega) h L Q hs hk
    rwa [show ((x.toNat : Nat) : Int) = x by omega] at this
/-! words, numbers -/
def manyO (o : Nat) : Nat := [0, 2, 3, 2, 2, 2, 0, 1, 3, 1, 2, 0].getD o 0
def wordV (x : Int) : List UInt8 := if isO x then wordO x.toNat else []
theorem word_ok {x : Int} (hs : Hs G h L) (hk : ∀ h', Hs G h' L → Q (tx (wordV x)) h') : Cl Pr K 27 [I x] h Q := by
  unfold wordV at hk
  refine c27 (b27_0 (r_ltI (r_br (fun c => ?_) (fun c => r_gtI (r_br (fun d => ?_) (fun d => b27_1 (r_fill (c := (opsL.tail.map fun r => tx r.1)) rfl (r_newS hs rfl rfl rfl fun a h hs => ?_))))))))
  · have := hk h hs
    rw [if_neg (by unfold isO; rw [decide_eq_false (by omega)]; decide)] at this
    exact this
  · have := hk h hs
    rw [if_neg (by unfold isO; rw [decide_eq_false (by omega)]; decide)] at this
    exact this
  · have hk := hk h hs.tail
    rw [if_pos (by unfold isO; rw [decide_eq_true (by omega)])] at hk
    refine r_subI (by omega) ?_
    rw [show x - 1 = ((x.toNat - 1 : Nat) : Int) by omega]
    refine r_slc1 (e := 9) hs (u := tx (wordO x.toNat)) ?_ hk
    rcases o12 (k := x.toNat) (by omega) with e | e | e | e | e | e | e | e | e | e | e | e
    · omega
    all_goals rw [e]; rfl
theorem many_ok {o : Nat} (h1 : 1 ≤ o) (h2 : o < 12) (hs : Hs G h L) (hk : ∀ h', Hs G h' L → Q (I (manyO o : Nat)) h') : Cl Pr K 28 [I o] h Q := by
  refine c28 (b28_0 (r_fill (c := [I 2, I 3, I 2, I 2, I 2, I 0, I 1, I 3, I 1, I 2, I 0]) rfl (r_newS hs rfl rfl rfl fun a h hs => r_subI (by omega) ?_)))
  rw [show (o : Int) - 1 = ((o - 1 : Nat) : Int) by omega]
  refine r_slc1 (e := 3) hs (u := I (manyO o : Nat)) ?_ (hk h hs.tail)
  rcases o12 h2 with e | e | e | e | e | e | e | e | e | e | e | e
  · omega
  all_goals rw [e]; rfl
/-- the least and the greatest number, and whether there are such -/
def mostV (what many : Int) : Int × Int × Bool := if what = 1 then (0, 3, true) else if what = 3 then (1, 3, true) else if what = 4 then (1, 4, true) else if what = 5 then (0, many, true) else (0, 0, false)
theorem most_ok {o i : Nat} {many : Int} (h1 : 1 ≤ o) (h2 : o < 12) (hi : i < manyO o) (hs : Hs G h L) (hk : ∀ h', Hs G h' L → Q (.tuple ⟨[I (mostV ((whatO o).getD i 0) many).1, I (mostV ((whatO o).getD i 0) many).2.1, .bool (mostV ((whatO o).getD i 0) many).2.2]⟩) h') :
    Cl Pr K 38 [I o, I i, I many] h Q := by
  refine c38 (b38_0 (r_fill (c := [I 1, I 3, I 2, I 2, I 2, I 0, I 0, I 0, I 0, I 1, I 0]) rfl (r_newS hs rfl rfl rfl fun a h hs => r_subI (by omega) ?_)))
  rw [show (o : Int) - 1 = ((o - 1 : Nat) : Int) by omega]
  have hk := hk h hs.tail
  have h3 : i < 3 := by
    rcases o12 h2 with e | e | e | e | e | e | e | e | e | e | e | e <;> rw [e] at hi <;> simp [manyO] at hi <;> omega
  have i3 : i = 0 ∨ i = 1 ∨ i = 2 := by omega
  rcases o12 h2 with e | e | e | e | e | e | e | e | e | e | e | e
  · omega
  all_goals
    subst e
    rcases i3 with e | e | e
    all_goals
      subst e
      first
      | (exfalso; revert hi; decide)
      | (refine r_slc1 (e := 3) hs rfl ?_
         repeat' first
          | exact hk
          | refine r_ltI ?_
          | refine r_eqI ?_
          | refine r_brT (by decide) ?_
          | refine r_brF (by decide) ?_
          | refine b38_1 ?_
          | refine b38_2 ?_
          | refine b38_3 ?_
          | refine b38_4 ?_)
end Go.Proofs.YtngdhjebbhjokaaDoor
end
section
namespace Go.Proofs.YtngdhjebbhjokaaDoor
open Go Go.Ab Go.Is
theorem many_used {x : Ins} (h : isO x.op = true) : used x.pairs = x.vals.take (manyO x.op.toNat) ∧ manyO x.op.toNat ≤ 3 ∧ ∀ i, i < 3 → ((whatO x.op.toNat).getD i 0 = 0 ↔ manyO x.op.toNat ≤ i) := by
  have := of_decide_eq_true h
  obtain ⟨op, a, b, c⟩ := x
  simp only at this ⊢
  have h2 : op = 1 ∨ op = 2 ∨ op = 3 ∨ op = 4 ∨ op = 5 ∨ op = 6 ∨ op = 7 ∨ op = 8 ∨ op = 9 ∨ op = 10 ∨ op = 11 := by omega
  rcases h2 with rfl | rfl | rfl | rfl | rfl | rfl | rfl | rfl | rfl | rfl | rfl <;> refine ⟨rfl, by decide, ?_⟩ <;> intro i hi <;> have : i = 0 ∨ i = 1 ∨ i = 2 := (by omega) <;> rcases this with rfl | rfl | rfl <;> decide
theorem most_fits {what v many : Int} (h0 : what ≠ 0) (h5 : 0 ≤ what ∧ what ≤ 5) : fitsV what v many = !((mostV what many).2.2 && (decide (v < (mostV what many).1) || decide ((mostV what many).2.1 < v))) := by
  have : what = 1 ∨ what = 2 ∨ what = 3 ∨ what = 4 ∨ what = 5 := by omega
  rcases this with rfl | rfl | rfl | rfl | rfl
  · show decide (0 ≤ v ∧ v < 4) = !(true && (decide (v < 0) || decide (3 < v)))
    by_cases h : 0 ≤ v ∧ v < 4
    · rw [decide_eq_true h, decide_eq_false (by omega), decide_eq_false (by omega)]; rfl
    · rw [decide_eq_false h]; by_cases h1 : v < 0
      · rw [decide_eq_true h1]; rfl
      · rw [decide_eq_false h1, decide_eq_true (by omega)]; rfl
  · rfl
  · show decide (1 ≤ v ∧ v ≤ 3) = !(true && (decide (v < 1) || decide (3 < v)))
    by_cases h : 1 ≤ v ∧ v ≤ 3
    · rw [decide_eq_true h, decide_eq_false (by omega), decide_eq_false (by omega)]; rfl
    · rw [decide_eq_false h]; by_cases h1 : v < 1
      · rw [decide_eq_true h1]; rfl
      · rw [decide_eq_false h1, decide_eq_true (by omega)]; rfl
  · show decide (1 ≤ v ∧ v ≤ 4) = !(true && (decide (v < 1) || decide (4 < v)))
    by_cases h : 1 ≤ v ∧ v ≤ 4
    · rw [decide_eq_true h, decide_eq_false (by omega), decide_eq_false (by omega)]; rfl
    · rw [decide_eq_false h]; by_cases h1 : v < 1
      · rw [decide_eq_true h1]; rfl
      · rw [decide_eq_false h1, decide_eq_true (by omega)]; rfl
  · show decide (0 ≤ v ∧ v ≤ many) = !(true && (decide (v < 0) || decide (many < v)))
    by_cases h : 0 ≤ v ∧ v ≤ many
    · rw [decide_eq_true h, decide_eq_false (by omega), decide_eq_false (by omega)]; rfl
    · rw [decide_eq_false h]; by_cases h1 : v < 0
      · rw [decide_eq_true h1]; rfl
      · rw [decide_eq_false h1, decide_eq_true (by omega)]; rfl
theorem what_in {o i : Nat} (h : o < 12) : 0 ≤ (whatO o).getD i 0 ∧ (whatO o).getD i 0 ≤ 5 := by
  by_cases hi : i < 3
  · have : i = 0 ∨ i = 1 ∨ i = 2 := by omega
    rcases o12 h with rfl | rfl | rfl | rfl | rfl | rfl | rfl | rfl | rfl | rfl | rfl | rfl <;> rcases this with rfl | rfl | rfl <;> decide
  · rw [List.getD_eq_getElem?_getD, List.getElem?_eq_none (by rw [what_len h]; omega)]
    decide
attribute [local irreducible] thn Br ld1 ldN stV alc alcAt alcS alcSAt resv padd nilV extV part1 partN lenS lenT biI biT biB biP biS biF biE biA unV idxS idxA pickV appV copyV clearV slS slA slT mkS blkOf at1 atN atS convI convS minV maxV Cl OkF OkR EndX endV beginV defersOf setLoop closeMarks
variable {G : Bg} {h : AH} {L L' M : List HP} {Q : Value → AH → Prop}
theorem refMay_loop {x : Ins} {many : Int} {p : Nat} (ho : isO x.op = true) (hk : ∀ h', Hs G h' L → Q (I (if (x.pairs.all fun p => fitsV p.1 p.2 many) then 0 else 10)) h') :
    ∀ (f i : Nat) (h : AH), i + f = 3 → ((x.pairs.all fun p => fitsV p.1 p.2 many) = ((x.pairs.drop i).all fun p => fitsV p.1 p.2 many)) → Hs G h (seg p 0 x.enc :: L) → A26_2 Q (I many) (pt p 0 0) (I i) h := by
  have hop := of_decide_eq_true ho
  obtain ⟨_, _, hm⟩ := many_used ho
  intro f
  induction f with
  | zero =>
    intro i h hi he hs
    rw [List.drop_of_length_le (by rw [pairs_len ho]; omega)] at he
    have := hk h hs.tail
    rw [he] at this
    exact b26_2 (r_ltI (r_brF (by omega) this))
  | succ f ih =>
    intro i h hi he hs
    obtain ⟨q, hq, hd⟩ := at_lt (l := x.pairs) (i := i) (by rw [pairs_len ho]; omega)
    rw [pairs_at ho (by omega)] at hq
    simp only [Option.some.injEq] at hq
    rw [hd, List.all_cons] at he
    have q1 : (whatO x.op.toNat).getD i 0 = q.1 := by rw [← hq]
    have ev : x.enc[0 + (1 + i * 1)]? = some (I q.2) := by
      rw [← hq]
      have e0 : i = 0 ∨ i = 1 ∨ i = 2 := by omega
      rcases e0 with rfl | rfl | rfl <;> rfl
    have bad : fitsV q.1 q.2 many = false → Q (I 10) h := fun hb => by
      have := hk h hs.tail
      rw [he, hb] at this
      exact this
    have good : fitsV q.1 q.2 many = true → ∀ {h'}, Hs G h' (seg p 0 x.enc :: L) → A26_6 Q (I many) (pt p 0 0) (I i) h' := fun hg {h'} hs' =>
      b26_6 (r_addI (by omega) (ih (i + 1) h' (by omega) (by rw [he, hg]; rfl) hs'))
    refine b26_2 (r_ltI (r_brT (by omega) (b26_3 (r_padd (r_idxAn (by omega) ?_)))))
    rw [show (0 : Nat) + 1 + i * 1 = 0 + (1 + i * 1) by omega]
    refine r_ld hs (j := 0 + (1 + i * 1)) ev (r_padd (r_ld hs rfl ?_))
    rw [show I x.op = I (x.op.toNat : Nat) by rw [Int.toNat_of_nonneg (by omega)]]
    refine many_ok (by omega) (by omega) hs fun h hs => ?_
    have bad : fitsV q.1 q.2 many = false → Q (I 10) h := fun hb => by
      have := hk h hs.tail
      rw [he, hb] at this
      exact this
    refine r_geI (r_br (fun c => b26_4 ?_) (fun c => b26_5 ?_))
    · have q0 : q.1 = 0 := by rw [← q1]; exact (hm i (by omega)).2 (by omega)
      have ef : fitsV q.1 q.2 many = decide (q.2 = 0) := by rw [q0]; rfl
      refine r_neI (r_br (fun d => bad (by rw [ef]; exact decide_eq_false d)) (fun d => good (by rw [ef]; exact decide_eq_true (by omega)) hs))
    · have q0 : q.1 ≠ 0 := by rw [← q1]; exact fun e => by have := (hm i (by omega)).1 e; omega
      have w5 := what_in (o := x.op.toNat) (i := i) (by omega)
      rw [q1] at w5
      have ef := most_fits (v := q.2) (many := many) q0 w5
      refine r_padd (r_ld hs rfl ?_)
      rw [show I x.op = I (x.op.toNat : Nat) by rw [Int.toNat_of_nonneg (by omega)]]
      refine most_ok (by omega) (by omega) (by omega) hs fun h hs => ?_
      rw [q1]
      have bad : fitsV q.1 q.2 many = false → Q (I 10) h := fun hb => by
        have := hk h hs.tail
        rw [he, hb] at this
        exact this
      refine r_ext rfl (r_ext rfl (r_ext rfl (r_brb (fun c1 => ?_) (fun c1 => ?_))))
      · refine r_ltI (r_br (fun d => bad (by rw [ef, c1, decide_eq_true d]; rfl)) (fun d => r_gtI (r_br (fun d2 => bad (by rw [ef, c1, decide_eq_true d2]; simp)) (fun d2 => good (by rw [ef, c1, decide_eq_false d, decide_eq_false d2]; rfl) hs))))
      · refine r_addI (by omega) (ih (i + 1) h (by omega) (by rw [he, ef, c1]; simp) hs)
theorem refMay_ok {x : Ins} {many : Int} (hs : Hs G h L) (hk : ∀ h', Hs G h' L → Q (I (mayV x many)) h') : Cl Pr K 26 [.agg ⟨x.enc⟩, I many] h Q := by
  refine c26 (b26_0 (r_bx hs fun p h hs => r_padd (r_ld hs rfl (word_ok hs fun h hs => r_eqX (r_br (fun c => ?_) (fun c => b26_1 ?_))))))
  · have := hk h hs.tail
    unfold mayV at this
    rw [if_neg ?_] at this
    · exact this
    · intro ho
      unfold wordV at c
      rw [if_pos ho] at c
      have := of_decide_eq_true ho
      have : (wordO x.op.toNat).length = 0 := by rw [c]; rfl
      rcases o12 (k := x.op.toNat) (by omega) with e | e | e | e | e | e | e | e | e | e | e | e
      · omega
      all_goals (rw [e] at this; cases this)
  · have ho : isO x.op = true := by
      unfold wordV at c
      split at c
      · assumption
      · exact absurd rfl c
    unfold mayV at hk
    rw [if_pos ho] at hk
    exact refMay_loop ho hk 3 0 h rfl rfl hs
end Go.Proofs.YtngdhjebbhjokaaDoor
end
section
namespace Go.Proofs.YtngdhjebbhjokaaDoor
open Go Go.Ab Go.Is
attribute [local irreducible] thn Br ld1 ldN stV alc alcAt alcS alcSAt resv padd nilV extV part1 partN lenS lenT biI biT biB biP biS biF biE biA unV idxS idxA pickV appV copyV clearV slS slA slT mkS blkOf at1 atN atS convI convS minV maxV Cl OkF OkR EndX endV beginV defersOf setLoop closeMarks
variable {G : Bg} {h : AH} {L L' M : List HP} {Q : Value → AH → Prop}
theorem len_rd {t : Value} {p : List Ins} {e : TypeId} {h : AH} {L : List HP} (hs : Hs G h (rdS G 4 e t (p.map Ins.enc) :: L)) {k : Value → Prop} (hk : k (I p.length)) : thn (lenS t) k := by
  obtain ⟨ta, tc, ht⟩ := rd_slice hs
  rw [ht]; refine r_lenS ?_; rw [List.length_map]; exact hk
theorem refCheck_loop {t : Value} {p : List Ins} {e : TypeId} (hl : p.length ≤ 32) (hk : ∀ h', Hs G h' (rdS G 4 e t (p.map Ins.enc) :: L) → Q (.tuple ⟨[I (checkV p).1, I (checkV p).2]⟩) h') :
    ∀ (f i : Nat) (h : AH), i + f = p.length → checkV p = ckF p.length (p.drop i) i → Hs G h (rdS G 4 e t (p.map Ins.enc) :: L) → A17_2 Q t (I i) h := by
  intro f
  induction f with
  | zero =>
    intro i h hi he hs
    rw [List.drop_of_length_le (by omega)] at he
    rw [he] at hk
    exact b17_2 (len_rd hs (r_ltI (r_brF (by omega) (hk _ hs))))
  | succ f ih =>
    intro i h hi he hs
    obtain ⟨x, hx, hd⟩ := at_lt (l := p) (i := i) (by omega)
    rw [hd, ckF] at he
    refine b17_2 (len_rd hs (r_ltI (r_brT (by omega) (b17_3 (r_rd hs (by decide) (i := i) (x := x.enc) (by simp [hx]) (len_rd hs (refMay_ok hs fun h hs => r_neI (r_br (fun c => ?_) (fun c => ?_)))))))))
    · rw [if_pos c] at he
      rw [he] at hk
      exact r_addI (by omega) (hk _ hs)
    · rw [if_neg c] at he
      exact b17_4 (r_addI (by omega) (ih (i + 1) h (by omega) he hs))
theorem refCheck_ok {t : Value} {p : List Ins} {e : TypeId} (hs : Hs G h (rdS G 4 e t (p.map Ins.enc) :: L)) (hk : ∀ h', Hs G h' (rdS G 4 e t (p.map Ins.enc) :: L) → Q (.tuple ⟨[I (checkV p).1, I (checkV p).2]⟩) h') :
    Cl Pr K 17 [t] h Q := by
  refine c17 (b17_0 (len_rd hs (r_gtI (r_br (fun c => ?_) (fun c => ?_)))))
  · have := hk h hs
    unfold checkV at this
    rw [if_pos (by omega)] at this
    exact this
  · refine b17_1 (refCheck_loop (by omega) hk p.length 0 h (by omega) ?_ hs)
    unfold checkV
    rw [if_neg (by omega)]
    rfl
theorem line_loop {x : Ins} {p : Nat} (ho : isO x.op = true) (hr : x.inR) (hk : ∀ h', Hs G h' L → Q (tx (lineV x)) h') :
    ∀ (f i : Nat) (h : AH), i + f = manyO x.op.toNat → Hs G h (seg p 0 x.enc :: L) → A18_1 Q (pt p 0 0) (tx (wordO x.op.toNat ++ numT (x.vals.take i))) (I i) h := by
  have hop := of_decide_eq_true ho
  obtain ⟨hu, hm3, _⟩ := many_used ho
  intro f
  induction f with
  | zero =>
    intro i h hi hs
    refine b18_1 (r_padd (r_ld hs rfl ?_))
    rw [show I x.op = I (x.op.toNat : Nat) by rw [Int.toNat_of_nonneg (by omega)]]
    refine many_ok (by omega) (by omega) hs fun h hs => r_ltI (r_brF (by omega) ?_)
    have := hk h hs.tail
    rw [lineV, hu, ← hi, Nat.add_zero] at this
    exact this
  | succ f ih =>
    intro i h hi hs
    have e0 : i = 0 ∨ i = 1 ∨ i = 2 := by omega
    obtain ⟨v, hv, hvr, ev⟩ : ∃ v, x.vals[i]? = some v ∧ inR v ∧ x.enc[0 + 1 + i * 1]? = some (I v) := by
      obtain ⟨r1, r2, r3⟩ := hr
      rcases e0 with rfl | rfl | rfl
      · exact ⟨x.a, rfl, r1, rfl⟩
      · exact ⟨x.b, rfl, r2, rfl⟩
      · exact ⟨x.c, rfl, r3, rfl⟩
    have et : numT (x.vals.take (i + 1)) = numT (x.vals.take i) ++ ([32] ++ Lib.itoa v) := by
      rw [List.take_add_one, hv, numT_app]; simp [numT]
    have hw := word_len (k := x.op.toNat) (by omega)
    have hn : (numT (x.vals.take i)).length ≤ 63 := by
      have h1 := numT_len (x.vals.take i) fun w hw => by
        have := List.mem_of_mem_take hw
        simp only [Ins.vals, List.mem_cons, List.not_mem_nil, or_false] at this
        obtain ⟨r1, r2, r3⟩ := hr
        rcases this with rfl | rfl | rfl <;> assumption
      have h2 : (x.vals.take i).length ≤ 3 := by rw [List.length_take]; simp [Ins.vals]; omega
      omega
    have h20 := itoa_len hvr
    refine b18_1 (r_padd (r_ld hs rfl ?_))
    rw [show I x.op = I (x.op.toNat : Nat) by rw [Int.toNat_of_nonneg (by omega)]]
    refine many_ok (by omega) (by omega) hs fun h hs => r_ltI (r_brT (by omega) (b18_2 (r_catX (b := [32]) (by simp; omega) (r_padd (r_idxAn (by omega) (r_ld hs ev (dec_ok hvr hs fun h hs => r_catX (by simp; omega) (r_addI (by omega) ?_))))))))
    have := ih (i + 1) h (by omega) hs
    rw [et] at this
    rw [show wordO x.op.toNat ++ numT (x.vals.take i) ++ [32] ++ Lib.itoa v = wordO x.op.toNat ++ (numT (x.vals.take i) ++ ([32] ++ Lib.itoa v)) by simp]
    exact this
theorem line_ok {x : Ins} (ho : isO x.op = true) (hr : x.inR) (hs : Hs G h L) (hk : ∀ h', Hs G h' L → Q (tx (lineV x)) h') : Cl Pr K 18 [.agg ⟨x.enc⟩] h Q := by
  refine c18 (b18_0 (r_bx hs fun p h hs => r_padd (r_ld hs rfl (word_ok hs fun h hs => ?_))))
  have := line_loop ho hr hk (manyO x.op.toNat) 0 h (by omega) hs
  rw [wordV, if_pos ho]
  simpa [numT] using this
theorem refPrint_loop {t : Value} {p : List Ins} {e : TypeId} (hl : p.length ≤ 32) (hp : ∀ x ∈ p, isO x.op = true ∧ x.inR) (hk : ∀ h', Hs G h' (rdS G 4 e t (p.map Ins.enc) :: L) → Q (.tuple ⟨[tx (textV p), I 0]⟩) h') :
    ∀ (f i : Nat) (h : AH), i + f = p.length → Hs G h (rdS G 4 e t (p.map Ins.enc) :: L) → A9_2 Q t (tx (textV (p.take i))) (I i) h := by
  intro f
  induction f with
  | zero =>
    intro i h hi hs
    rw [List.take_of_length_le (by omega)]
    exact b9_2 (len_rd hs (r_ltI (r_brF (by omega) (hk _ hs))))
  | succ f ih =>
    intro i h hi hs
    obtain ⟨x, hx, hd⟩ := at_lt (l := p) (i := i) (by omega)
    obtain ⟨ho, hr⟩ := hp x (List.mem_of_getElem? hx)
    have hl2 := line_len ho hr
    have hlen : (textV (p.take i)).length ≤ 32 * 69 := by
      have := text_len (p := p.take i) fun y hy => hp y (List.mem_of_mem_take hy)
      have h2 : (p.take i).length ≤ 32 := by rw [List.length_take]; omega
      omega
    refine b9_2 (len_rd hs (r_ltI (r_brT (by omega) (b9_3 (r_rd hs (by decide) (i := i) (x := x.enc) (by simp [hx]) (line_ok ho hr hs fun h hs => r_catX (by omega) (r_catX (b := [10]) (by simp; omega) (r_addI (by omega) ?_))))))))
    have := ih (i + 1) h (by omega) hs
    rw [text_take hx, ← List.append_assoc] at this
    exact this
theorem refPrint_ok {t : Value} {p : List Ins} {e : TypeId} (hr : ∀ x ∈ p, x.inR) (hs : Hs G h (rdS G 4 e t (p.map Ins.enc) :: L)) (hk : ∀ h', Hs G h' (rdS G 4 e t (p.map Ins.enc) :: L) → Q (.tuple ⟨[tx (printV p).1, I (printV p).2]⟩) h') :
    Cl Pr K 9 [t] h Q := by
  refine c9 (b9_0 (refCheck_ok hs fun h hs => r_ext rfl (r_ext rfl (r_neI (r_br (fun c => ?_) (fun c => ?_))))))
  · have := hk h hs
    unfold printV at this
    rw [if_neg c] at this
    exact this
  · have hz : (checkV p).2 = 0 := by omega
    unfold printV at hk
    rw [if_pos hz] at hk
    obtain ⟨hl, hm⟩ := Is.check_ok hz
    exact b9_1 (refPrint_loop hl (fun x hx => ⟨may_is (hm x hx), hr x hx⟩) hk p.length 0 h (by omega) hs)
theorem plain_loop {t : Value} {p : List Ins} {e : TypeId} (hl : p.length ≤ 2 ^ 32) (hk : ∀ a c h', Hs G h' (slc 4 53 a c (p.length, (p.map Ins.enc).flatten) :: rdS G 4 e t (p.map Ins.enc) :: L) → Q (.slice a p.length c) h') :
    ∀ (f i : Nat) (a : Option Addr) (c : Nat) (h : AH), i + f = p.length → Hs G h (slc 4 53 a c (i, ((p.take i).map Ins.enc).flatten) :: rdS G 4 e t (p.map Ins.enc) :: L) → A10_1 Q t (.slice a i c) (I i) h := by
  intro f
  induction f with
  | zero =>
    intro i a c h hi hs
    obtain rfl : i = p.length := by omega
    rw [List.take_length] at hs
    exact b10_1 (len_rd hs.at2 (r_ltI (r_brF (by omega) (hk _ _ _ hs))))
  | succ f ih =>
    intro i a c h hi hs
    obtain ⟨x, hx, hd⟩ := at_lt (l := p) (i := i) (by omega)
    refine b10_1 (len_rd hs.at2 (r_ltI (r_brT (by omega) (b10_2 (r_resv hs fun r h hs => ?_)))))
    have hsr := hs.front (rdS G 4 e t (p.map Ins.enc))
    refine r_rd1 hsr (i := i) (j := 0) (x := x.enc) (u := I x.op) (by simp [hx]) rfl (r_rd1 hsr (i := i) (j := 1) (x := x.enc) (u := I x.a) (by simp [hx]) rfl (r_rd1 hsr (i := i) (j := 2) (x := x.enc) (u := I x.b) (by simp [hx]) rfl (r_rd1 hsr (i := i) (j := 3) (x := x.enc) (u := I x.c) (by simp [hx]) rfl ?_)))
    refine r_fill (c := [I x.a, I x.b, I x.c]) rfl (r_fill (c := x.enc) rfl (r_fill (c := x.enc) rfl (r_newSAt hs rfl rfl rfl rfl rfl fun a2 h hs => r_appS hs (by omega) fun a3 c3 h hs => ?_)))
    dsimp only
    refine r_addI (by omega) (ih (i + 1) a3 c3 h (by omega) ?_)
    have e1 : ((p.take (i + 1)).map Ins.enc).flatten = ((p.take i).map Ins.enc).flatten ++ x.enc := by
      rw [List.take_add_one, hx]; simp
    rw [e1]
    exact hs.to
theorem plain_ok {t : Value} {p : List Ins} {e : TypeId} (hl : p.length ≤ 2 ^ 32) (hs : Hs G h (rdS G 4 e t (p.map Ins.enc) :: L)) (hk : ∀ v h', Hs G h' (rdS G 4 53 v (p.map Ins.enc) :: rdS G 4 e t (p.map Ins.enc) :: L) → Q v h') : Cl Pr K 10 [t] h Q := by
  refine c10 (b10_0 (plain_loop hl (fun a c h hs => hk _ _ (rd_own (enc_lens (f := Ins.enc) (W := 4) (fun x => rfl) p) (by simp) rfl hs)) p.length 0 none 0 h (by omega) ?_))
  simpa using slc_nil (W := 4) (e := 53) hs
theorem prints_ok {t : Value} {p : List Ins} (hr : ∀ x ∈ p, x.inR) (hg : Ob G 0 opsE) (hs : Hs G h (rdS G 4 34 t (p.map Ins.enc) :: L)) (hk : ∀ h', Q (.bool true) h') : Cl Pr K 3 [t] h Q := by
  refine c3 (b3_0 (len_rd hs (r_gtI (r_br (fun _ => awake_ok (hk _)) (fun h1 => b3_1 (print_ok hr hg hs fun h hs => r_ext rfl (r_ext rfl (plain_ok (by omega) hs fun v h hs => refPrint_ok hr hs fun h hs => r_ext rfl (r_ext rfl (r_eqX (r_brT rfl (r_eqI (r_brT rfl (awake_ok (hk _)))))))))))))))
end Go.Proofs.YtngdhjebbhjokaaDoor
end
