/- A part of the proof of the statement that this folder claims, with no condition: definitions and lemmas on which the last text leans. -/
import Derived.Test.YtflmoocllahjnaaTgF
namespace Go.Proofs.Ytflmoocllahjnaa
open Go Go.Ab Go.RowKit

theorem may_ok {h : AH} {a b : Int} {Q : Value → AH → Prop} (k : Q (.bool (decide (1 ≤ a ∧ a ≤ 8 ∧ 1 ≤ b ∧ b ≤ 4))) h) : Ok Pr K (.call 4 [.int .i64 a, .int .i64 b]) h fun o h' => Q o.v h' := by
  refine c4 (b4_0 ?_)
  simp only [abin_int, aint_geq, aint_leq, thn_some, Br_dec, Br_false]
  refine ⟨fun h1 => ⟨fun h2 => ⟨fun h3 => ?_, fun h3 => ?_⟩, fun h2 => ?_⟩, fun h1 => ?_⟩
  · rw [show decide (b ≤ 4) = decide (1 ≤ a ∧ a ≤ 8 ∧ 1 ≤ b ∧ b ≤ 4) from decide_eq_decide.2 ⟨fun h => ⟨h1, h2, h3, h⟩, fun h => h.2.2.2⟩]; exact k
  all_goals
    first
      | (rw [show false = decide (1 ≤ a ∧ a ≤ 8 ∧ 1 ≤ b ∧ b ≤ 4) from (decide_eq_false (by omega)).symm]; exact k)
      | skip

theorem build38 {x : Int} {n r : Nat} : abuild Pr 38 [(0, .int .i64 x), (1, slPtr n n r)] = some (.agg ⟨[.int .i64 x, slPtr n n r]⟩) := by kernel_rfl
theorem zerosA_one {v : Value} {n : Nat} : zerosA [v] n = List.replicate n v := by
  induction n with
  | zero => rfl
  | succ n ih => simp only [zerosA, List.replicate_succ, List.flatten_cons] at ih ⊢; rw [ih]; rfl

theorem new_ok {h : AH} {a b : Int} (w : h.base ≤ h.next) (h1 : 1 ≤ a) (h2 : a ≤ 8) (h3 : 1 ≤ b) (h4 : b ≤ 4) {Q : Value → AH → Prop}
    (k : ∀ h' c s, To No h h' → h.next ≤ c → h.next ≤ s → CR h' c s b (List.replicate a.toNat []) (List.replicate a.toNat none) (List.replicate a.toNat (.slice none 0 0)) → Q (.tuple #[ptr0 c, .int .i64 0]) h') :
    Ok Pr K (.call 6 [.int .i64 a, .int .i64 b]) h fun o h' => Q o.v h' := by
  refine c6 (b6_0 ?_)
  simp only [abin_int, aint_lss, aint_gtr, thn_some, Br_dec, Br_true]
  have fin : A6_2 Q (.int .i64 a) (.int .i64 b) h := by
    refine b6_2 ?_
    have hmk : mkS 24 (.int .i64 a) (.int .i64 a) = some (a.toNat, a.toNat) := by
      simp only [mkS]
      rw [if_pos ⟨by omega, by omega, by omega, by omega⟩]
    simp only [hmk, thn_some, zerosA_one]
    refine alc_to w fun h5 t5 n5 g5 => ?_
    simp only [build38, thn_some, blkOf_agg]
    refine alc_to t5.wf fun h6 t6 n6 g6 => ?_
    have t06 : To No h h6 := t5.trans t6 fun _ _ h => h
    have hlen : (List.replicate a.toNat ([] : Th)).length = a.toNat := by simp
    refine k h6 _ h.next t06 (by omega) (by omega) {
      cache := by rw [g6]; simp [slPtr]
      sets := by rw [t6.get (by omega)]; exact g5
      wf := t06.wf
      cb := by rw [t06.base]; omega
      sb := by rw [t06.base]; exact w
      cn := by omega
      sn := by omega
      ne := by omega
      lv := by simp
      lB := by simp
      set := ?_
      dist := fun i j b h1 _ => by simp [List.getElem?_replicate] at h1
      nec := fun i b h1 => by simp [List.getElem?_replicate] at h1
      many := by simp; omega
      len := ?_ }
    · intro i l v b h1 h2 h3
      simp only [List.getElem?_replicate] at h1 h2 h3
      split at h1
      · cases h1
        rename_i hi
        rw [if_pos hi] at h2 h3
        cases h2; cases h3
        exact ⟨rfl, rfl⟩
      · cases h1
    · intro i l h1
      simp only [List.getElem?_replicate] at h1
      split at h1
      · cases h1; simp
      · cases h1
  refine ⟨fun h => by omega, fun _ => ⟨fun h => by omega, fun _ => ⟨fun h => by omega, fun _ => ⟨fun h => by omega, fun _ => fin⟩⟩⟩⟩

end Go.Proofs.Ytflmoocllahjnaa
