/- A part of the proof of the statement that this folder claims, with no condition: definitions and lemmas on which the last text leans. -/
import Derived.Test.YtflmoocllahjnaaTgJ
namespace Go.Proofs.Ytflmoocllahjnaa
open Go Go.Ab Go.RowKit

theorem awake_known {h : AH} {Q : Value → AH → Prop} (k : Q (.bool true) h) : Ok Pr K (.call 5 []) h fun o h' => Q o.v h' := ok_known (v := .bool true) rfl k

/-- what a Put or a Drop of a number of set 'j' leaves -/
theorem LI.turn {h h' : AH} {n w no : Int} {c s T : Nat} {S : List Th} {B B' : List (Option Nat)} {vs vs' : List Value} {U : List Int} {W : Th → Prop} {ub : Option Nat} {t2 t9 : Value} {xs : List Int} (I : LI h n w no c s T S B vs U W ub t2 t9 xs)
    {j : Nat} {l' : Th} {W' : Th → Prop} (t : To (Fp c s B) h h') (R' : CR h' c s w (S.set j l') B' vs') (hB : ∀ z, Fp c s B' z → Fp c s B z ∨ h.next ≤ z) (hg : Good w n j l')
    (hw : ∃ l, (S.set j l')[(no % n).toNat]? = some l ∧ W' l) : LI h' n w no c s T (S.set j l') B' vs' U W' ub t2 t9 xs where
  R := R'
  n1 := by simpa using I.n1
  w1 := I.w1
  good := by
    intro i l hl
    rw [List.getElem?_set] at hl
    by_cases e : j = i
    · subst e
      rw [if_pos rfl] at hl
      split at hl
      · cases hl; exact hg
      · cases hl
    · rw [if_neg e] at hl; exact I.good i l hl
  no0 := I.no0
  watch := hw
  two := by rw [t.keep T I.tn I.tf]; exact I.two
  tn := Nat.lt_of_lt_of_le I.tn t.next
  tb := by rw [t.base]; exact I.tb
  tf := fun hf => by
    rcases hB T hf with h1 | h1
    · exact I.tf h1
    · have := I.tn; omega
  used := by
    refine I.used.to t (fun b hb hf => ?_) fun b hb hf => ?_
    · have hu := I.used; subst hb; exact hu.2.2.2.2.2 hf
    · rcases hB b hf with h1 | h1
      · exact h1
      · omega
  ulen := I.ulen
  arg := I.arg.to t I.R.wf fun i hi => (I.R.fpb hi).1

theorem main_loop {n w no : Int} {c s T : Nat} {t2 : Value} {xs : List Int} {Q : Value → AH → Prop} (hxs : xs.length ≤ 40) (hfin : ∀ h, Q (.bool true) h) :
    ∀ (m i : Nat) (h : AH) (S : List Th) (B : List (Option Nat)) (vs : List Value) (U : List Int) (ub : Option Nat) (t9 : Value), i + m = xs.length → U.length ≤ i → LI h n w no c s T S B vs U (fun l => Watch w no l U) ub t2 t9 xs →
      A3_5 Q (.int .i64 no) t2 (ptr0 T) (ptr0 c) t9 (.int .i64 i) h := by
  intro m
  induction m with
  | zero =>
    intro i h S B vs U ub t9 him hU I
    refine b3_5 ?_
    obtain ⟨a, cap, rfl, _⟩ := I.arg
    simp only [lenS_slice, thn_some, abin_int, aint_lss, Br_dec]
    exact ⟨fun hlt => by omega, fun _ => b3_7 (awake_known (hfin h))⟩
  | succ m ih =>
    intro i h S B vs U ub t9 him hU I
    refine b3_5 ?_
    have hlen : lenS t2 = some (.int .i64 xs.length) := by obtain ⟨a, cap, rfl, _⟩ := I.arg; rfl
    simp only [hlen, thn_some, abin_int, aint_lss, Br_dec]
    refine ⟨fun _ => b3_6 ?_, fun hlt => by omega⟩
    have hil : i < xs.length := by omega
    obtain ⟨x, hx⟩ : ∃ x, xs[i]? = some x := ⟨_, List.getElem?_eq_getElem hil⟩
    have e1 : IntKind.i64.wrap ((i : Int) + 1) = ((i + 1 : Nat) : Int) := by rw [IntWalk.i64_in _ (by omega)]; omega
    have hread : ∀ p : Value → Prop, p (.int .i64 x) → thn (idxS 1 t2 (.int .i64 i)) fun v0 => thn (ld1 h v0) p := by
      intro p hp
      obtain ⟨a, cap, rfl, hat⟩ := I.arg
      obtain ⟨b, o, cc, e, fz, ex, rfl, _, hb, hc⟩ := hat i x hx
      rw [idxS_of (by omega) (by omega), thn_some, ld1_of hb (o := o + (i : Int).toNat * 1) (v := .int .i64 x) (by rw [show o + (i : Int).toNat * 1 = o + i by omega]; exact hc), thn_some]
      exact hp
    refine hread _ ?_
    simp only [abin_int, aint_lss, aint_eql, thn_some, Br_dec, Br_beq, Br_true]
    -- passed over
    have skip : A3_8 Q (.int .i64 no) t2 (ptr0 T) (ptr0 c) t9 (.int .i64 i) (.int .i64 x) h := by
      refine b3_8 ?_
      simp only [abin_int, aint_add, thn_some, e1]
      exact ih (i + 1) h S B vs U ub t9 (by omega) (by omega) I
    refine ⟨fun _ => skip, fun hx0 => ⟨fun _ => skip, fun hne => b3_9 ?_⟩⟩
    have hx0 : 0 ≤ x := by omega
    -- the set of the number
    have hS0 : 0 < S.length := I.R.many.1
    generalize hj : (x % n).toNat = j
    have hjl : j < S.length := by rw [← hj, ← I.n1]; exact mod_lt hx0 hS0
    have hjm : j = (x % S.length).toNat := by rw [I.n1, hj]
    have hnn : (0 : Int) < n := by rw [← I.n1]; omega
    have hxj : x % n = j := by have := Int.emod_nonneg x (show n ≠ 0 by omega); omega
    obtain ⟨l, v, b, hl, hv, hB, hset, hll⟩ := I.R.slot hjl
    have g := I.good j l hl
    have hw := I.w1
    have hl4 := g.len
    refine Ok.mono (victim_ok (Q := fun v h' => v = vicL w l x ∧ To No h h') I.R hx0 hw.1 hjm hl fun h' t' => ⟨rfl, t'⟩) ?_
    intro o0 h1 ⟨ho, t1⟩
    have I1 := I.to t1
    rw [ho, victim_room]
    obtain ⟨g2, hroom⟩ := room_good (x := x) hw.1 g
    obtain ⟨hput0, gput, _⟩ := put_good (y := (i : Int)) g2 hx0 hxj hroom
    obtain ⟨lw, hlw, hwatch⟩ := I1.watch
    -- what is watched, behind the Put
    have hwW : ∀ l2, ∃ l', ((S.set j l2).set j (putL w (room w l x) x i).2)[(no % n).toNat]? = some l' ∧ Watch w no l' (if x % n = no % n then (if x ∈ U then U else U ++ [x]) else U) := by
      intro l2
      rw [List.set_set, List.getElem?_set]
      by_cases e : j = (no % n).toNat
      · rw [if_pos e, if_pos hjl]
        have : l = lw := by rw [e, hlw] at hl; exact (Option.some.inj hl).symm
        subst this
        have e2 : x % n = no % n := by have := Int.emod_nonneg no (show n ≠ 0 by omega); omega
        rw [if_pos e2]
        exact ⟨_, rfl, watch_step hw.1 g hx0 hxj hne hwatch⟩
      · rw [if_neg e, if_neg (by omega)]
        exact ⟨lw, hlw, hwatch⟩
    -- behind the Put
    have rest : ∀ (h4 : AH) (S4 : List Th) (B4 : List (Option Nat)) (vs4 : List Value), LI h4 n w no c s T S4 B4 vs4 U (fun l => Watch w no l (if x % n = no % n then (if x ∈ U then U else U ++ [x]) else U)) ub t2 t9 xs →
        A3_15 Q (.int .i64 no) t2 (ptr0 T) (ptr0 c) t9 (.int .i64 i) (.int .i64 x) h4 := by
      intro h4 S4 B4 vs4 I4
      refine b3_15 ?_
      refine resv_to I4.R.wf fun h5 t5 n5 g5 => ?_
      have I5 := I4.to t5
      have hi0 : idxA 2 1 (ptr0 T) (.int .i64 0) = some (.pointer (some ⟨T, 0, none⟩)) := rfl
      have hld : ld1 h5 (.pointer (some ⟨T, 0, none⟩)) = some (.int .i64 n) := ld1_of I5.two rfl
      have hn0 : n ≠ 0 := by omega
      simp only [hi0, hld, thn_some, abin_int, aint_rem hn0, Int.tmod_eq_emod_of_nonneg hx0, Int.tmod_eq_emod_of_nonneg I.no0, aint_eql, Br_beq]
      -- the next round
      have next : ∀ (h6 : AH) (U6 : List Int) (ub6 : Option Nat) (t9' : Value), U6.length ≤ i + 1 → LI h6 n w no c s T S4 B4 vs4 U6 (fun l => Watch w no l U6) ub6 t2 t9' xs → ∀ h', To No h6 h' → A3_20 Q (.int .i64 no) t2 (ptr0 T) (ptr0 c) t9' (.int .i64 i) h' := by
        intro h6 U6 ub6 t9' hU6 I6 h' t'
        refine b3_20 ?_
        simp only [abin_int, aint_add, thn_some, e1]
        exact ih (i + 1) h' S4 B4 vs4 U6 ub6 t9' (by omega) hU6 (I6.to t')
      constructor
      · intro hsame
        simp only [if_pos hsame] at I5
        refine b3_16 (seen_loop U.length 0 h5 false (by omega) I5 (by simp) fun h6 t6 => b3_22 ?_)
        have I6 := I5.to t6
        simp only [unV_not, thn_some, Br_notb, Br_dec]
        constructor
        · intro hin
          simp only [if_pos hin] at I6
          exact b3_24 (chk I6 (next h6 U ub t9 (by omega) I6))
        · intro hnin
          simp only [if_neg hnin] at I6
          refine b3_23 ?_
          have hfill : afill (fun i => some (i * 1, 1)) [(.int .i64 0)] [(0, .int .i64 x)] = some [.int .i64 x] := by kernel_rfl
          simp only [hfill, thn_some]
          refine alc_to I6.R.wf fun h7 t7 n7 g7 => ?_
          have I7 := I6.to t7
          refine app_used I7 (by omega) g7 fun h8 v8 ub8 I8 t8 => ?_
          exact chk I8 (next h8 (U ++ [x]) ub8 v8 (by simp; omega) I8)
      · intro hdiff
        simp only [if_neg hdiff] at I5
        exact b3_17 (chk I5 (next h5 U ub t9 (by omega) I5))
    -- the Put
    have put : ∀ (h3 : AH) (l2 : Th) (B3 : List (Option Nat)) (vs3 : List Value) (W3 : Th → Prop), l2 = room w l x → LI h3 n w no c s T (S.set j l2) B3 vs3 U W3 ub t2 t9 xs →
        Ok Pr K (.call 7 [ptr0 c, .int .i64 x, .int .i64 i]) h3 fun o1 h1 => thn (abin Pr .neq 27 (.tmp 88) (.const (.int .i64 0)) o1.v (.int .i64 0)) fun v2 =>
          Br v2 (A3_14 Q h1) (A3_15 Q (.int .i64 no) t2 (ptr0 T) (ptr0 c) t9 (.int .i64 i) (.int .i64 x) h1) := by
      intro h3 l2 B3 vs3 W3 he I3
      subst he
      refine put_ok (Q := fun v h1 => thn (abin Pr .neq 27 (.tmp 88) (.const (.int .i64 0)) v (.int .i64 0)) fun v2 =>
          Br v2 (A3_14 Q h1) (A3_15 Q (.int .i64 no) t2 (ptr0 T) (ptr0 c) t9 (.int .i64 i) (.int .i64 x) h1)) I3.R hx0 (j := j) (by simp [hjm]) (l := room w l x) (by rw [List.getElem?_set, if_pos rfl, if_pos hjl]) (by have := g2.len; omega) fun h4 B4 vs4 t4 R4 hB4 => ?_
      rw [hput0, abin_int, aint_neq, thn_some, Br_bne]
      refine ⟨fun h => absurd rfl h, fun _ => ?_⟩
      exact rest h4 _ B4 vs4 (I3.turn t4 R4 hB4 gput (hwW _))
    by_cases hc : x ∈ l.map (·.1) ∨ (l.length : Int) < w
    · rw [if_pos hc]
      simp only [extV_tuple, List.getElem?_cons_zero, List.getElem?_cons_succ, thn_some, abin_int, aint_neq, Br_bne]
      refine ⟨fun h => absurd rfl h, fun _ => b3_11 ?_⟩
      rw [Br_false]
      refine b3_13 (put h1 l B vs (fun l => Watch w no l U) (by unfold room; rw [if_pos hc]) ?_)
      rw [set_self' hl]; exact I1
    · rw [if_neg hc]
      simp only [extV_tuple, List.getElem?_cons_zero, List.getElem?_cons_succ, thn_some, abin_int, aint_neq, Br_bne]
      refine ⟨fun h => absurd rfl h, fun _ => b3_11 ?_⟩
      rw [Br_true]
      refine b3_12 ?_
      have h0 : 0 < l.length := by rcases Nat.eq_zero_or_pos l.length with e | e; exact absurd (.inr (by omega)) hc; exact e
      have hp : l.getD 0 (0, 0) ∈ l := by rw [List.getD_eq_getElem?_getD, List.getElem?_eq_getElem h0]; exact List.getElem_mem h0
      obtain ⟨hv0, hvj⟩ := g.of _ hp
      have hr : room w l x = delL l (l.getD 0 (0, 0)).1 := by unfold room; rw [if_neg hc]
      refine Ok.mono (drop_ok (Q := fun _ h3 => Ok Pr K (.call 7 [ptr0 c, .int .i64 x, .int .i64 i]) h3 fun o1 h1 => thn (abin Pr .neq 27 (.tmp 88) (.const (.int .i64 0)) o1.v (.int .i64 0)) fun v2 =>
          Br v2 (A3_14 Q h1) (A3_15 Q (.int .i64 no) t2 (ptr0 T) (ptr0 c) t9 (.int .i64 i) (.int .i64 x) h1)) I1.R hv0 (j := j) (by rw [I.n1, hvj]; omega) hl fun h3 B3 vs3 v3 t3 R3 hB3 => ?_) fun _ _ h => h
      rw [← hr] at R3
      -- what is watched, behind the Drop
      obtain ⟨lw', hlw'⟩ : ∃ lw', (S.set j (room w l x))[(no % n).toNat]? = some lw' := ⟨_, List.getElem?_eq_getElem (by rw [List.length_set]; exact (List.getElem?_eq_some_iff.1 hlw).1)⟩
      exact put h3 _ B3 vs3 (fun _ => True) rfl (I1.turn t3 R3 hB3 g2 ⟨lw', hlw', trivial⟩)

end Go.Proofs.Ytflmoocllahjnaa
