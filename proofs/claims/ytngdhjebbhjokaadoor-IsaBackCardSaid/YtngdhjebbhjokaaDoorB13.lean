/- IsaBack: for every input the law answers true, and each argument reads afterwards as it read before. No condition but the listed variables' text. -/
import Derived.Test.YtngdhjebbhjokaaDoorB8
import Derived.Lib.AtoiAll
import Derived.Lib.Bytealg
import Derived.Test.YtngdhjebbhjokaaDoorB14
import Derived.Test.YtngdhjebbhjokaaDoorB10
import Derived.Lay
import Derived.LaidOnce
import Derived.ChangeMaps5
section
namespace Go.Is
open Go Go.Ab
/-! numerals -/
theorem pu_app : ∀ (l : List UInt8) (acc : Nat) (m : List UInt8), Lib.parseUint10 acc (l ++ m) = match Lib.parseUint10 acc l with | .ok a => Lib.parseUint10 a m | Lib.NumEnd.syntax => Lib.NumEnd.syntax | .range => .range
  | [], acc, m => rfl
  | c :: l, acc, m => by
    simp only [List.cons_append, Lib.parseUint10]
    split
    · split
      · rfl
      · split
        · rfl
        · exact pu_app l _ m
    · rfl
theorem dig_nat {u : Nat} (h : u ≤ 9) : (UInt8.ofNat (48 + u)).toNat = 48 + u := by
  rw [UInt8.toNat_ofNat']; omega
theorem pu_dec : ∀ (u : Nat), u ≤ 9223372036854775808 → Lib.parseUint10 0 (Lib.decDigits u) = .ok u := by
  intro u
  induction u using Nat.strongRecOn with
  | _ u ih =>
    intro hu
    rw [Lib.decDigits]
    split
    · rename_i h
      simp only [Lib.parseUint10]
      have := dig_nat (u := u) (by omega)
      rw [this, if_pos (by omega), if_neg (by omega), if_neg (by omega)]
      congr 1; omega
    · rename_i h
      rw [pu_app, ih (u / 10) (by omega) (by omega)]
      simp only [Lib.parseUint10]
      have := dig_nat (u := u % 10) (by omega)
      rw [this, if_pos (by omega), if_neg (by omega), if_neg (by omega)]
      congr 1; omega
theorem dec_digits : ∀ (u : Nat), (∀ b ∈ Lib.decDigits u, 48 ≤ b.toNat ∧ b.toNat ≤ 57) ∧ Lib.decDigits u ≠ [] := by
  intro u
  induction u using Nat.strongRecOn with
  | _ u ih =>
    rw [Lib.decDigits]
    split
    · rename_i h
      refine ⟨fun b hb => ?_, by simp⟩
      rw [List.mem_singleton.1 hb, dig_nat (by omega)]
      omega
    · rename_i h
      refine ⟨fun b hb => ?_, by simp⟩
      rcases List.mem_append.1 hb with hb | hb
      · exact (ih (u / 10) (by omega)).1 b hb
      · rw [List.mem_singleton.1 hb, dig_nat (by omega)]
        omega
theorem itoa_bytes {v : Int} : ∀ b ∈ Lib.itoa v, b.toNat = 45 ∨ (48 ≤ b.toNat ∧ b.toNat ≤ 57) := by
  intro b hb
  unfold Lib.itoa at hb
  split at hb
  · rcases List.mem_cons.1 hb with rfl | hb
    · exact .inl rfl
    · exact .inr ((dec_digits _).1 b hb)
  · exact .inr ((dec_digits _).1 b hb)
theorem atoi_itoa {v : Int} (h : inR v) : Lib.atoiAll (Lib.itoa v) = .ok v := by
  unfold inR at h
  unfold Lib.itoa
  split
  · rename_i hv
    obtain ⟨h1, h2⟩ := dec_digits v.natAbs
    simp only [Lib.atoiAll]
    rw [if_pos (.inr rfl)]
    have : Lib.parseMag (Lib.decDigits v.natAbs) = .ok v.natAbs := by
      unfold Lib.parseMag
      rw [if_neg h2]
      exact pu_dec _ (by omega)
    rw [this]
    simp only
    rw [if_neg (fun hh => hh.1 rfl), if_neg (by omega), if_pos (show UInt8.toNat 45 = 45 from rfl)]
    congr 1; omega
  · rename_i hv
    obtain ⟨h1, h2⟩ := dec_digits v.toNat
    have hp : Lib.parseMag (Lib.decDigits v.toNat) = .ok v.toNat := by
      unfold Lib.parseMag
      rw [if_neg h2]
      exact pu_dec _ (by omega)
    cases hd : Lib.decDigits v.toNat with
    | nil => exact absurd hd h2
    | cons c r =>
      have hc := h1 c (by rw [hd]; exact List.mem_cons_self)
      simp only [Lib.atoiAll]
      rw [if_neg (by omega), ← hd, hp]
      simp only
      rw [if_neg (by omega), if_neg (by omega), if_neg (by omega)]
      congr 1; omega
theorem atoi_in {l : List UInt8} {v : Int} (h : Lib.atoiAll l = .ok v) : inR v := by
  unfold Lib.atoiAll at h
  split at h
  · cases h
  · simp only at h
    split at h
    · cases h
    · cases h
    · split at h
      · cases h
      · split at h
        · cases h
        · injection h with h
          unfold inR
          subst h
          split <;> omega
/-- the number that a text is, if it is written as Itoa writes it -/
def readN (l : List UInt8) : Option Int := match Lib.atoiAll l with
  | .ok v => if Lib.itoa v = l then some v else none
  | _ => none
theorem readN_itoa {v : Int} (h : inR v) : readN (Lib.itoa v) = some v := by
  unfold readN
  rw [atoi_itoa h]
  simp
theorem readN_some {l : List UInt8} {v : Int} (h : readN l = some v) : Lib.itoa v = l ∧ inR v := by
  unfold readN at h
  split at h
  · rename_i w hw
    split at h
    · rename_i he
      cases h
      exact ⟨he, atoi_in hw⟩
    · cases h
  · cases h
/-! cutting -/
def cutB (c : UInt8) : List UInt8 → Option (List UInt8 × List UInt8)
  | [] => none
  | b :: l => if b = c then some ([], l) else (cutB c l).map fun x => (b :: x.1, x.2)
theorem cut_none {c : UInt8} : ∀ {l : List UInt8}, cutB c l = none ↔ c ∉ l
  | [] => by simp [cutB]
  | b :: l => by
    rw [cutB]
    by_cases h : b = c
    · simp [h]
    · rw [if_neg h, Option.map_eq_none_iff, cut_none]
      simp [Ne.symm h]
theorem cut_some {c : UInt8} : ∀ {l a b : List UInt8}, cutB c l = some (a, b) → l = a ++ c :: b ∧ c ∉ a
  | [], a, b, h => by simp [cutB] at h
  | x :: l, a, b, h => by
    rw [cutB] at h
    split at h
    · rename_i hx
      cases h
      simp [hx]
    · rename_i hx
      obtain ⟨y, hy, he⟩ := Option.map_eq_some_iff.1 h
      obtain ⟨a', b'⟩ := y
      cases he
      obtain ⟨h1, h2⟩ := cut_some hy
      exact ⟨by simp [h1], by simp [h2, Ne.symm hx]⟩
theorem cut_at {c : UInt8} : ∀ {a : List UInt8} (b : List UInt8), c ∉ a → cutB c (a ++ c :: b) = some (a, b)
  | [], b, _ => by simp [cutB]
  | x :: a, b, h => by
    have hx : x ≠ c := fun e => h (by simp [e])
    have ha : c ∉ a := fun e => h (List.mem_cons_of_mem _ e)
    rw [List.cons_append, cutB, if_neg hx, cut_at b ha]
    rfl
theorem idx_none {c : UInt8} : ∀ {l : List UInt8}, cutB c l = none → Lib.indexByte l c = -1
  | [], _ => rfl
  | b :: l, h => by
    rw [cutB] at h
    split at h
    · cases h
    · rename_i hb
      have := idx_none (Option.map_eq_none_iff.1 h)
      simp only [Lib.indexByte]
      rw [if_neg (by simpa using hb), this]
      rfl
theorem idx_some {c : UInt8} : ∀ {l a b : List UInt8}, cutB c l = some (a, b) → Lib.indexByte l c = a.length
  | [], a, b, h => by simp [cutB] at h
  | x :: l, a, b, h => by
    rw [cutB] at h
    split at h
    · rename_i hx
      cases h
      simp only [Lib.indexByte]
      rw [if_pos (by simpa using hx)]
      rfl
    · rename_i hx
      obtain ⟨y, hy, he⟩ := Option.map_eq_some_iff.1 h
      obtain ⟨a', b'⟩ := y
      cases he
      have := idx_some hy
      simp only [Lib.indexByte]
      rw [if_neg (by simpa using hx), this]
      have hn : ¬ ((a'.length : Int) == -1) = true := by simp
      rw [if_neg hn]
      simp
/-! splitting -/
def splitB (c : UInt8) : List UInt8 → List (List UInt8)
  | [] => [[]]
  | b :: l => if b = c then [] :: splitB c l else match splitB c l with
    | [] => [[b]]
    | w :: ws => (b :: w) :: ws
theorem split_none {c : UInt8} : ∀ {l : List UInt8}, cutB c l = none → splitB c l = [l]
  | [], _ => rfl
  | b :: l, h => by
    rw [cutB] at h
    split at h
    · cases h
    · rename_i hb
      rw [splitB, if_neg hb, split_none (Option.map_eq_none_iff.1 h)]
theorem split_some {c : UInt8} : ∀ {l a b : List UInt8}, cutB c l = some (a, b) → splitB c l = a :: splitB c b
  | [], a, b, h => by simp [cutB] at h
  | x :: l, a, b, h => by
    rw [cutB] at h
    split at h
    · rename_i hx
      cases h
      rw [splitB, if_pos hx]
    · rename_i hx
      obtain ⟨y, hy, he⟩ := Option.map_eq_some_iff.1 h
      obtain ⟨a', b'⟩ := y
      cases he
      rw [splitB, if_neg hx, split_some hy]
theorem split_ne {c : UInt8} (l : List UInt8) : splitB c l ≠ [] := by
  cases h : cutB c l with
  | none => rw [split_none h]; simp
  | some x => rw [split_some (a := x.1) (b := x.2) h]; simp
theorem split_len {c : UInt8} : ∀ (l : List UInt8), (splitB c l).length = l.count c + 1
  | [] => rfl
  | b :: l => by
    have ih := split_len (c := c) l
    rw [splitB]
    split
    · rename_i hb; rw [List.length_cons, ih, hb, List.count_cons_self]
    · rename_i hb
      rw [List.count_cons_of_ne hb, ← ih]
      cases hs : splitB c l with
      | nil => exact absurd hs (split_ne l)
      | cons w ws => rfl
def joinB (c : UInt8) : List (List UInt8) → List UInt8
  | [] => []
  | w :: ws => w ++ ws.flatMap fun v => c :: v
theorem join_split {c : UInt8} : ∀ (l : List UInt8), joinB c (splitB c l) = l
  | [] => rfl
  | b :: l => by
    have ih := join_split (c := c) l
    rw [splitB]
    cases hs : splitB c l with
    | nil => exact absurd hs (split_ne l)
    | cons w ws =>
      rw [hs] at ih
      split
      · rename_i hb
        simp only [joinB, List.nil_append, List.flatMap_cons] at ih ⊢
        rw [List.cons_append, ih, hb]
      · simp only [joinB, List.cons_append] at ih ⊢
        rw [ih]
theorem split_join {c : UInt8} : ∀ (ws : List (List UInt8)) (w : List UInt8), c ∉ w → (∀ v ∈ ws, c ∉ v) → splitB c (joinB c (w :: ws)) = w :: ws
  | [], w, h, _ => by
    simp only [joinB, List.flatMap_nil, List.append_nil]
    exact split_none (cut_none.2 h)
  | v :: ws, w, h, hs => by
    have : joinB c (w :: v :: ws) = w ++ c :: joinB c (v :: ws) := by simp [joinB]
    rw [this, split_some (cut_at _ h), split_join ws v (hs v List.mem_cons_self) fun u hu => hs u (List.mem_cons_of_mem _ hu)]
end Go.Is
end
section
namespace Go.Is
open Go Go.Ab
def opF (w : List UInt8) : Nat → Nat → Nat
  | 0, _ => 0
  | f + 1, i => if isO i = true ∧ wordO i = w then i else opF w f (i + 1)
def opOf (w : List UInt8) : Nat := opF w 12 0
theorem opF_some {w : List UInt8} : ∀ (f i : Nat), i + f ≤ 12 → opF w f i ≠ 0 → 1 ≤ opF w f i ∧ opF w f i < 12 ∧ wordO (opF w f i) = w
  | 0, _, _, h => absurd rfl h
  | f + 1, i, hi, h => by
    rw [opF] at h ⊢
    split
    · rename_i hc
      exact ⟨by have := of_decide_eq_true hc.1; omega, by omega, hc.2⟩
    · rename_i hc
      rw [if_neg hc] at h
      exact opF_some f (i + 1) (by omega) h
theorem opOf_word {o : Nat} (h1 : 1 ≤ o) (h2 : o < 12) : opOf (wordO o) = o := by
  rcases o12 h2 with rfl | rfl | rfl | rfl | rfl | rfl | rfl | rfl | rfl | rfl | rfl | rfl
  · omega
  all_goals decide
/-- the numbers behind a word -/
def argsV : List Int → List (List UInt8) → Option (List Int)
  | [], ps => if ps = [] then some [] else none
  | w :: ws, ps => if w = 0 then (if ps = [] then some [] else none) else match ps with
    | [] => none
    | q :: qs => match readN q with
      | none => none
      | some v => (argsV ws qs).map (v :: ·)
theorem argsV_cons (w : Int) (ws : List Int) (ps : List (List UInt8)) : argsV (w :: ws) ps = if w = 0 then (if ps = [] then some [] else none) else match ps with
    | [] => none
    | q :: qs => match readN q with
      | none => none
      | some v => (argsV ws qs).map (v :: ·) := by
  cases ps <;> rfl
def mkI (o : Nat) (vs : List Int) : Ins := ⟨o, vs.getD 0 0, vs.getD 1 0, vs.getD 2 0⟩
def instrV (l : List UInt8) : Option Ins := match splitB 32 l with
  | [] => none
  | w :: ps => if opOf w = 0 then none else (argsV (whatO (opOf w)) ps).map (mkI (opOf w))
def parseF (many : Int) : Nat → List UInt8 → List Ins → Nat → List Ins × Int × Int
  | 0, _, _, _ => ([], 0, 0)
  | f + 1, s, acc, no => if s = [] then (acc, 0, 0) else match cutB 10 s with
    | none => ([], no, 14)
    | some (line, rest) => match instrV line with
      | none => ([], no, 14)
      | some x => if mayV x many ≠ 0 then ([], no, mayV x many) else parseF many f rest (acc ++ [x]) (no + 1)
def parseV (s : List UInt8) : List Ins × Int × Int := if 32 < s.count 10 then ([], 0, 11) else parseF (s.count 10 : Nat) (s.length + 1) s [] 1
/-! a line and its instruction -/
def unused0 (x : Ins) : Prop := ∀ p ∈ x.pairs, p.1 = 0 → p.2 = 0
theorem may_unused {x : Ins} {many : Int} (h : mayV x many = 0) : unused0 x := by
  have ho := may_is h
  unfold mayV at h
  rw [if_pos ho] at h
  split at h
  · rename_i hf
    intro p hp h0
    have := List.all_eq_true.1 hf p hp
    rw [h0] at this
    exact of_decide_eq_true (p := p.2 = 0) this
  · cases h
theorem args_itoa : ∀ (ps : List (Int × Int)), (∀ p ∈ ps, inR p.2) → argsV (ps.map (·.1)) ((used ps).map Lib.itoa) = some (used ps)
  | [], _ => rfl
  | p :: ps, h => by
    rw [List.map_cons, argsV_cons, used]
    split
    · rfl
    · rw [List.map_cons]
      simp only
      rw [readN_itoa (h p List.mem_cons_self)]
      simp only
      rw [args_itoa ps fun q hq => h q (List.mem_cons_of_mem _ hq)]
      rfl
theorem pairs_fst {x : Ins} (ho : isO x.op = true) : x.pairs.map (·.1) = whatO x.op.toNat := by
  have := of_decide_eq_true ho
  have h3 := what_len (k := x.op.toNat) (by omega)
  unfold Ins.pairs
  exact List.map_fst_zip (by rw [h3]; simp [Ins.vals])
theorem num_no {c : UInt8} (h : c.toNat ≠ 45 ∧ (c.toNat < 48 ∨ 57 < c.toNat)) (v : Int) : c ∉ Lib.itoa v := fun hc => by
  have := itoa_bytes c hc
  omega
theorem word_no {k : Nat} (h : k < 12) : (32 : UInt8) ∉ wordO k ∧ (10 : UInt8) ∉ wordO k := by
  rcases o12 h with rfl | rfl | rfl | rfl | rfl | rfl | rfl | rfl | rfl | rfl | rfl | rfl <;> decide
theorem line_join {x : Ins} : lineV x = joinB 32 (wordO x.op.toNat :: (used x.pairs).map Lib.itoa) := by
  show _ = wordO x.op.toNat ++ ((used x.pairs).map Lib.itoa).flatMap fun v => 32 :: v
  rw [List.flatMap_map]
  rfl
theorem mk_used {x : Ins} (ho : isO x.op = true) (hu : unused0 x) : mkI x.op.toNat (used x.pairs) = x := by
  have := of_decide_eq_true ho
  obtain ⟨op, a, b, c⟩ := x
  simp only at this
  have key : ∀ i, i < 3 → ((whatO op.toNat).getD i 0 = 0 → ([a, b, c] : List Int).getD i 0 = 0) := fun i hi h0 => by
    have hm := List.mem_of_getElem? (pairs_at (x := ⟨op, a, b, c⟩) ho hi)
    exact hu _ hm h0
  have h2 : op = 1 ∨ op = 2 ∨ op = 3 ∨ op = 4 ∨ op = 5 ∨ op = 6 ∨ op = 7 ∨ op = 8 ∨ op = 9 ∨ op = 10 ∨ op = 11 := by omega
  have k0 := key 0 (by decide)
  have k1 := key 1 (by decide)
  have k2 := key 2 (by decide)
  rcases h2 with rfl | rfl | rfl | rfl | rfl | rfl | rfl | rfl | rfl | rfl | rfl
  · have e := k2 rfl; simp at e; subst e; rfl
  · rfl
  · have e := k2 rfl; simp at e; subst e; rfl
  · have e := k2 rfl; simp at e; subst e; rfl
  · have e := k2 rfl; simp at e; subst e; rfl
  · have e := k2 rfl; have e1 := k1 rfl; have e0 := k0 rfl; simp at e e1 e0; subst e e1 e0; rfl
  · have e := k2 rfl; have e1 := k1 rfl; simp at e e1; subst e e1; rfl
  · rfl
  · have e := k2 rfl; have e1 := k1 rfl; simp at e e1; subst e e1; rfl
  · have e := k2 rfl; simp at e; subst e; rfl
  · have e := k2 rfl; have e1 := k1 rfl; have e0 := k0 rfl; simp at e e1 e0; subst e e1 e0; rfl
theorem instr_line {x : Ins} (ho : isO x.op = true) (hr : x.inR) (hu : unused0 x) : instrV (lineV x) = some x := by
  have := of_decide_eq_true ho
  unfold instrV
  rw [line_join, split_join _ _ (word_no (k := x.op.toNat) (by omega)).1 fun v hv => by
    obtain ⟨w, _, rfl⟩ := List.mem_map.1 hv
    exact num_no (by decide) w]
  simp only
  rw [opOf_word (by omega) (by omega), if_neg (by omega), ← pairs_fst ho, args_itoa _ fun p hp => pair_inR hr hp]
  simp only [Option.map_some]
  rw [mk_used ho hu]
theorem line_nl {x : Ins} (ho : isO x.op = true) : (10 : UInt8) ∉ lineV x := by
  have := of_decide_eq_true ho
  unfold lineV numT
  intro h
  rcases List.mem_append.1 h with h | h
  · exact (word_no (k := x.op.toNat) (by omega)).2 h
  · obtain ⟨v, _, hv⟩ := List.mem_flatMap.1 h
    rcases List.mem_cons.1 hv with h | h
    · revert h; decide
    · exact num_no (by decide) v h
/-- what is read of a line is its text -/
theorem args_back : ∀ (ws : List Int) (ps : List (List UInt8)) (vs : List Int), argsV ws ps = some vs → ps = vs.map Lib.itoa ∧ (∀ v ∈ vs, inR v) ∧ vs.length ≤ ws.length ∧ used (ws.zip (vs ++ List.replicate (ws.length - vs.length) 0)) = vs ∧ ∀ i, vs.length ≤ i → i < ws.length → True
  | [], ps, vs, h => by
    rw [argsV] at h
    split at h
    · rename_i hp
      cases h
      exact ⟨by simp [hp], by simp, by simp, rfl, fun _ _ _ => trivial⟩
    · cases h
  | w :: ws, ps, vs, h => by
    rw [argsV_cons] at h
    split at h
    · rename_i hw
      split at h
      · rename_i hp
        cases h
        exact ⟨by simp [hp], by simp, by simp, by simp [List.replicate_succ, used, hw], fun _ _ _ => trivial⟩
      · cases h
    · rename_i hw
      split at h
      · cases h
      · rename_i q qs
        split at h
        · cases h
        · rename_i v hv
          obtain ⟨us, hus, rfl⟩ := Option.map_eq_some_iff.1 h
          obtain ⟨h1, h2, h3, h4, _⟩ := args_back ws qs us hus
          obtain ⟨k1, k2⟩ := readN_some hv
          refine ⟨by rw [h1, List.map_cons, k1], fun u hu => ?_, by simp; omega, ?_, fun _ _ _ => trivial⟩
          · rcases List.mem_cons.1 hu with rfl | hu
            · exact k2
            · exact h2 u hu
          · simp only [List.length_cons, List.cons_append, List.zip_cons_cons, Nat.add_sub_add_right]
            rw [used, if_neg hw, h4]
theorem getD_app {vs : List Int} {n i : Nat} (h : i < n) (hn : vs.length ≤ n) : (vs ++ List.replicate (n - vs.length) 0)[i]? = some (vs.getD i 0) := by
  rw [List.getD_eq_getElem?_getD]
  by_cases hv : i < vs.length
  · rw [List.getElem?_append_left hv, List.getElem?_eq_getElem hv]; rfl
  · rw [List.getElem?_append_right (by omega), List.getElem?_replicate, if_pos (by omega), List.getElem?_eq_none (by omega)]; rfl
theorem instr_back {l : List UInt8} {x : Ins} (h : instrV l = some x) : isO x.op = true ∧ x.inR ∧ lineV x = l := by
  unfold instrV at h
  split at h
  · cases h
  · rename_i w ps hsp
    split at h
    · cases h
    · rename_i h0
      obtain ⟨vs, hvs, rfl⟩ := Option.map_eq_some_iff.1 h
      obtain ⟨o1, o2, o3⟩ := opF_some 12 0 (by omega) h0
      have e0 : opF w 12 0 = opOf w := rfl
      rw [e0] at o1 o2 o3
      obtain ⟨a1, a2, a3, a4, _⟩ := args_back _ _ _ hvs
      have hwl := what_len o2
      have ho : isO (mkI (opOf w) vs).op = true := by
        unfold mkI isO
        simp only
        exact decide_eq_true (by omega)
      have ev : (mkI (opOf w) vs).vals = vs ++ List.replicate ((whatO (opOf w)).length - vs.length) 0 := by
        rw [hwl] at a3 ⊢
        apply List.ext_getElem?
        intro i
        by_cases hi : i < 3
        · rw [getD_app hi a3]
          have : i = 0 ∨ i = 1 ∨ i = 2 := by omega
          rcases this with rfl | rfl | rfl <;> rfl
        · rw [List.getElem?_eq_none (by simp [mkI, Ins.vals]; omega), List.getElem?_eq_none (by simp; omega)]
      have eo : (mkI (opOf w) vs).op.toNat = opOf w := by simp [mkI]
      have eu : used (mkI (opOf w) vs).pairs = vs := by
        unfold Ins.pairs
        rw [ev, eo, a4]
      have hin : ∀ i, inR (vs.getD i 0) := fun i => by
        rw [List.getD_eq_getElem?_getD]
        cases hi : vs[i]? with
        | none => simp [inR]
        | some v => exact a2 v (List.mem_of_getElem? hi)
      refine ⟨ho, ⟨hin 0, hin 1, hin 2⟩, ?_⟩
      rw [line_join, eu, eo, o3, ← a1, ← hsp, join_split]
/-! programs and texts -/
theorem count_text : ∀ (p : List Ins), (∀ x ∈ p, isO x.op = true) → (textV p).count 10 = p.length
  | [], _ => rfl
  | x :: p, h => by
    have : textV (x :: p) = (lineV x ++ [10]) ++ textV p := rfl
    rw [this, List.count_append, List.count_append, count_text p fun y hy => h y (List.mem_cons_of_mem _ hy), List.count_eq_zero.2 (line_nl (h x List.mem_cons_self))]
    simp
    omega
theorem parseF_text {many : Int} : ∀ (p : List Ins) (f : Nat) (acc : List Ins) (no : Nat), p.length < f → (∀ x ∈ p, mayV x many = 0 ∧ x.inR) → parseF many f (textV p) acc no = (acc ++ p, 0, 0)
  | [], f + 1, acc, no, _, _ => by rw [parseF, if_pos (show textV [] = [] from rfl), List.append_nil]
  | x :: p, f + 1, acc, no, hf, h => by
    obtain ⟨hm, hr⟩ := h x List.mem_cons_self
    have ho := may_is hm
    have e : textV (x :: p) = lineV x ++ 10 :: textV p := by simp [textV]
    rw [e, parseF, if_neg (by simp), cut_at _ (line_nl ho)]
    simp only
    rw [instr_line ho hr (may_unused hm)]
    simp only
    rw [if_neg (by omega), parseF_text p f _ _ (by simp at hf; omega) fun y hy => h y (List.mem_cons_of_mem _ hy)]
    simp
theorem text_ge : ∀ (p : List Ins), p.length ≤ (textV p).length
  | [] => Nat.le_refl _
  | x :: p => by
    have := text_ge p
    have e : textV (x :: p) = (lineV x ++ [10]) ++ textV p := rfl
    rw [e]
    simp
    omega
/-- Parse of Print is the program -/
theorem parse_print {p : List Ins} (hr : ∀ x ∈ p, x.inR) (h : (printV p).2 = 0) : parseV (printV p).1 = (p, 0, 0) := by
  have hc : (checkV p).2 = 0 := by
    unfold printV at h
    split at h
    · assumption
    · rename_i hn; exact absurd h hn
  obtain ⟨hl, hm⟩ := check_ok hc
  unfold printV
  rw [if_pos hc]
  show parseV (textV p) = _
  unfold parseV
  rw [count_text p fun x hx => may_is (hm x hx), if_neg (by omega), parseF_text p _ _ _ (by have := text_ge p; omega) fun x hx => ⟨hm x hx, hr x hx⟩]
  rfl
theorem parseF_back {many : Int} : ∀ (f : Nat) (s : List UInt8) (acc : List Ins) (no : Nat), s.length < f → 1 ≤ no →
    ((parseF many f s acc no).2.2 = 0 → (parseF many f s acc no).2.1 = 0 ∧ ∃ q, (parseF many f s acc no).1 = acc ++ q ∧ textV q = s ∧ ∀ x ∈ q, mayV x many = 0 ∧ x.inR) ∧
    ((parseF many f s acc no).2.2 ≠ 0 → (parseF many f s acc no).1 = [] ∧ 0 < (parseF many f s acc no).2.1)
  | 0, s, acc, no, h, _ => by omega
  | f + 1, s, acc, no, h, h1 => by
    rw [parseF]
    split
    · rename_i hs
      exact ⟨fun _ => ⟨rfl, [], by simp, by rw [hs]; rfl, by simp⟩, fun hh => absurd rfl hh⟩
    · split
      · exact ⟨fun hh => (by cases hh), fun _ => ⟨rfl, by simp; omega⟩⟩
      · rename_i line rest hcut
        obtain ⟨hsp, _⟩ := cut_some hcut
        split
        · exact ⟨fun hh => (by cases hh), fun _ => ⟨rfl, by simp; omega⟩⟩
        · rename_i x hx
          split
          · rename_i hm
            exact ⟨fun hh => absurd hh hm, fun _ => ⟨rfl, by simp; omega⟩⟩
          · rename_i hm
            obtain ⟨k1, k2⟩ := parseF_back (many := many) f rest (acc ++ [x]) (no + 1) (by rw [hsp] at h; simp at h; omega) (by omega)
            refine ⟨fun hh => ?_, k2⟩
            obtain ⟨g1, q, g2, g3, g4⟩ := k1 hh
            obtain ⟨i1, i2, i3⟩ := instr_back hx
            refine ⟨g1, x :: q, by rw [g2]; simp, ?_, fun y hy => ?_⟩
            · have e : textV (x :: q) = lineV x ++ 10 :: textV q := by simp [textV]
              rw [e, i3, g3, hsp]
            · rcases List.mem_cons.1 hy with rfl | hy
              · exact ⟨by omega, i2⟩
              · exact g4 y hy
/-- Print of Parse is the text -/
theorem print_parse {s : List UInt8} : ((parseV s).2.2 = 0 → (parseV s).2.1 = 0 ∧ (∀ x ∈ (parseV s).1, x.inR) ∧ printV (parseV s).1 = (s, 0)) ∧ ((parseV s).2.2 ≠ 0 → (parseV s).1 = [] ∧ (0 < (parseV s).2.1 ∨ (parseV s).2.2 = 11)) := by
  unfold parseV
  split
  · exact ⟨fun h => (by cases h), fun _ => ⟨rfl, .inr rfl⟩⟩
  · rename_i hc
    obtain ⟨k1, k2⟩ := parseF_back (many := (s.count 10 : Nat)) (s.length + 1) s [] 1 (by omega) (by omega)
    refine ⟨fun h => ?_, fun h => ⟨(k2 h).1, .inl (k2 h).2⟩⟩
    obtain ⟨g1, q, g2, g3, g4⟩ := k1 h
    rw [List.nil_append] at g2
    rw [g2]
    have hn : s.count 10 = q.length := by rw [← g3]; exact count_text q fun x hx => may_is (g4 x hx).1
    refine ⟨g1, fun x hx => (g4 x hx).2, ?_⟩
    have hck : (checkV q).2 = 0 := by
      unfold checkV
      rw [if_neg (by omega)]
      have : ∀ (l : List Ins) (i : Nat), (∀ x ∈ l, mayV x q.length = 0) → (ckF q.length l i).2 = 0 := by
        intro l
        induction l with
        | nil => intro i _; rfl
        | cons y l ih =>
          intro i hh
          rw [ckF, if_neg (by rw [hh y List.mem_cons_self]; simp)]
          exact ih (i + 1) fun z hz => hh z (List.mem_cons_of_mem _ hz)
      exact this q 0 fun x hx => by rw [← hn]; exact (g4 x hx).1
    unfold printV
    rw [if_pos hck, g3]
end Go.Is
end
section
namespace Go.Proofs.YtngdhjebbhjokaaDoor
open Go Go.Ab Go.Is
theorem known_of {f : FuncId} {args : List Value} {a : Ans} (hf : (f = 7 ∧ args.isEmpty = true) ↔ False) (h : K0 f args = some a) : K f args = some a := by
  show addK K0 7 (.bool true) f args = _
  unfold addK
  rw [if_neg (fun hh => hf.1 hh), h]
theorem r_errN {k : Value → Prop} (hk : k (.bool false)) : thn (biE true .neq .nilIface .nilIface) k := ⟨_, rfl, hk⟩
theorem r_errY {t : TypeId} {v : Value} {k : Value → Prop} (hk : k (.bool true)) : thn (biE true .neq (.iface t v) .nilIface) k := ⟨_, rfl, hk⟩
theorem tx_data (l : List UInt8) : (⟨l.toArray⟩ : ByteArray).data.toList = l := rfl
theorem tx_size (l : List UInt8) : (⟨l.toArray⟩ : ByteArray).size = l.length := rfl
theorem atoi_k1 {l : List UInt8} {v : Int} (hl : l.length ≤ 281474976710656) (h : Lib.atoiAll l = .ok v) : K 36 [tx l] = some (.val (.tuple ⟨[I v, .nilIface]⟩)) := by
  refine known_of (by simp) ?_
  show (if _ then _ else _) = _
  rw [if_pos (by rw [tx_size]; exact hl), tx_data, h]
theorem atoi_k2 {l : List UInt8} (hl : l.length ≤ 281474976710656) (h : Lib.atoiAll l = Lib.NumEnd.syntax) : K 36 [tx l] = some (.val (.tuple ⟨[I 0, .iface 91 top]⟩)) := by
  refine known_of (by simp) ?_
  show (if _ then _ else _) = _
  rw [if_pos (by rw [tx_size]; exact hl), tx_data, h]
theorem atoi_k3 {l : List UInt8} (hl : l.length ≤ 281474976710656) (h : Lib.atoiAll l = .range) : K 36 [tx l] = some (.val (.tuple ⟨[I (Lib.atoiSat l), .iface 91 top]⟩)) := by
  refine known_of (by simp) ?_
  show (if _ then _ else _) = _
  rw [if_pos (by rw [tx_size]; exact hl), tx_data, h]
theorem r_minV {a b : Int} {k : Value → Prop} (h : a ≤ b) (hk : k (I a)) : thn (minV (I a) (I b)) k := ⟨_, rfl, by rw [if_neg (by omega)]; exact hk⟩
attribute [local irreducible] thn Br ld1 ldN stV alc alcAt alcS alcSAt resv padd nilV extV part1 partN lenS lenT biI biT biB biP biS biF biE biA unV idxS idxA pickV appV copyV clearV slS slA slT mkS blkOf at1 atN atS convI convS minV maxV Cl OkF OkR EndX endV beginV defersOf setLoop closeMarks
variable {G : Bg} {h : AH} {L L' M : List HP} {Q : Value → AH → Prop}
theorem count_ok {l : List UInt8} {c : UInt8} (hk : Q (I (l.count c : Nat)) h) : Cl Pr K 19 [tx l, tx [c]] h Q := by
  unfold Cl
  exact ok_known (v := I (l.count c : Nat)) (known_of (by simp) rfl) hk
theorem index_ok {l : List UInt8} {c : UInt8} (hk : Q (I (Lib.indexByte l c)) h) : Cl Pr K 32 [tx l, tx [c]] h Q := by
  unfold Cl
  exact ok_known (v := I (Lib.indexByte l c)) (known_of (by simp) rfl) hk
theorem indexL_ok {l : List UInt8} {c : UInt8} (hk : Q (I (Lib.indexByte l c)) h) : Cl Pr K 39 [tx l, tx [c]] h Q := by
  unfold Cl
  exact ok_known (v := I (Lib.indexByte l c)) (known_of (by simp) rfl) hk
theorem atoi_ok {l : List UInt8} (hl : l.length ≤ 281474976710656) (h1 : ∀ v, Lib.atoiAll l = .ok v → Q (.tuple ⟨[I v, .nilIface]⟩) h) (h2 : ∀ n, (∀ v, Lib.atoiAll l ≠ .ok v) → Q (.tuple ⟨[I n, .iface 91 top]⟩) h) : Cl Pr K 36 [tx l] h Q := by
  unfold Cl
  cases e : Lib.atoiAll l with
  | ok v => exact ok_known (atoi_k1 hl e) (h1 v e)
  | range => exact ok_known (atoi_k3 hl e) (h2 _ fun v hv => by rw [e] at hv; cases hv)
  | _ => exact ok_known (atoi_k2 hl e) (h2 0 fun v hv => by rw [e] at hv; cases hv)
theorem cut_ok {l : List UInt8} {c : UInt8} (hl : l.length ≤ 2 ^ 40) (hs : Hs G h L) (h1 : ∀ a b h', cutB c l = some (a, b) → Hs G h' L → Q (.tuple ⟨[tx a, tx b, .bool true]⟩) h') (h2 : cutB c l = none → ∀ h', Hs G h' L → Q (.tuple ⟨[tx l, tx [], .bool false]⟩) h') :
    Cl Pr K 20 [tx l, tx [c]] h Q := by
  refine c20 (b20_0 (c33 (b33_0 (indexL_ok ?_))))
  cases e : cutB c l with
  | none =>
    rw [idx_none e]
    exact r_geI (r_brF (by omega) (r_ext rfl (r_ext rfl (r_ext rfl (h2 e h hs)))))
  | some x =>
    obtain ⟨a, b⟩ := x
    obtain ⟨hsp, _⟩ := cut_some e
    rw [idx_some e]
    have hal : a.length + 1 + b.length = l.length := by rw [hsp]; simp; omega
    refine r_geI (r_brT (by omega) (r_resv hs fun r h hs => r_slTto (by omega) (r_lenX (l := [c]) (r_addI (by simp; omega) ?_))))
    rw [show ((a.length : Int) + ([c].length : Nat)) = ((a.length + 1 : Nat) : Int) by simp]
    refine r_slTfrom (by omega) (r_ext rfl (r_ext rfl (r_ext rfl ?_)))
    rw [show l.take a.length = a by rw [hsp]; simp, show l.drop (a.length + 1) = b by rw [hsp]; simp]
    exact h1 a b h e hs.tail
/-! a text's parts -/
theorem set_rep {ws : List Value} {k : Nat} {v z : Value} : (ws ++ List.replicate (k + 1) z).set ws.length v = (ws ++ [v]) ++ List.replicate k z := by
  rw [List.set_append_right _ _ (Nat.le_refl _), Nat.sub_self, List.replicate_succ, List.set_cons_zero]
  simp
theorem split_loop {l : List UInt8} {c : UInt8} {n cap : Nat} {a : Option Addr} (hn : n < 2 ^ 40) (hk : ∀ h', Hs G h' (slc 1 9 a cap (n, (splitB c l).map tx) :: L) → Q (.slice a n cap) h') :
    ∀ (f : Nat) (s : List UInt8) (ws : List (List UInt8)) (h : AH), s.count c = f → s.length < 2 ^ 40 → ws.length + f + 1 = n → splitB c l = ws ++ splitB c s → Hs G h (slc 1 9 a cap (n, ws.map tx ++ List.replicate (f + 1) (tx [])) :: L) →
      A40_5 Q (tx s) (tx [c]) (I 0) (I ((n : Int) - 1)) (.slice a n cap) (I ws.length) h := by
  intro f
  induction f with
  | zero =>
    intro s ws h hf hsl hw he hs
    refine b40_5 (r_ltI (r_brF (by omega) (b40_7 ?_)))
    refine r_slcSet (e := 9) hs rfl (by omega) fun h hs => r_addI (by omega) ?_
    rw [show (ws.length : Int) + 1 = ((n : Nat) : Int) by omega]
    refine r_slAll (e := 9) hs (by omega) (hk h ?_)
    have e1 : (ws.map tx ++ List.replicate (0 + 1) (tx [])).set ws.length (tx s) = (splitB c l).map tx := by
      rw [he, split_none (cut_none.2 (List.count_eq_zero.1 hf))]
      have := set_rep (ws := ws.map tx) (k := 0) (v := tx s) (z := tx [])
      rw [List.length_map] at this
      rw [this]
      simp
    rw [e1] at hs
    exact hs
  | succ f ih =>
    intro s ws h hf hsl hw he hs
    refine b40_5 (r_ltI (r_brT (by omega) (b40_6 (index_ok ?_))))
    cases e : cutB c s with
    | none => rw [cut_none, ← List.count_eq_zero] at e; omega
    | some x =>
      obtain ⟨p, q⟩ := x
      obtain ⟨hsp, hcp⟩ := cut_some e
      have hl : p.length + 1 + q.length = s.length := by rw [hsp]; simp; omega
      rw [idx_some e]
      refine r_ltI (r_brF (by omega) (b40_8 (r_addI (by omega) ?_)))
      rw [show ((p.length : Int) + 0) = ((p.length : Nat) : Int) by omega]
      refine r_slTto (by omega) (r_slcSet (e := 9) hs rfl (by omega) fun h hs => r_lenX (l := [c]) (r_addI (by simp; omega) ?_))
      rw [show ((p.length : Int) + ([c].length : Nat)) = ((p.length + 1 : Nat) : Int) by simp]
      refine r_slTfrom (by omega) (r_addI (by omega) ?_)
      rw [show s.take p.length = p by rw [hsp]; simp] at hs
      rw [show s.drop (p.length + 1) = q by rw [hsp]; simp]
      have hcq : q.count c = f := by
        rw [hsp, List.count_append, List.count_eq_zero.2 hcp, List.count_cons_self] at hf
        omega
      have := ih q (ws ++ [p]) h hcq (by omega) (by simp; omega) (by rw [he, split_some e]; simp) (by
        have e2 := set_rep (ws := ws.map tx) (k := f + 1) (v := tx p) (z := tx [])
        rw [List.length_map] at e2
        rw [e2] at hs
        rw [List.map_append]
        exact hs)
      rw [List.length_append] at this
      exact this
theorem split_ok {l : List UInt8} {c : UInt8} (hl : l.length < 2 ^ 32) (hs : Hs G h L) (hk : ∀ a cap n h', n = (splitB c l).length → Hs G h' (slc 1 9 a cap (n, (splitB c l).map tx) :: L) → Q (.slice a n cap) h') :
    Cl Pr K 34 [tx l, tx [c]] h Q := by
  have hc : l.count c ≤ l.length := List.count_le_length
  refine c34 (b34_0 (c40 (b40_0 (r_eqI (r_brF (by decide) (b40_1 (r_eqX (a := [c]) (b := []) (r_brF (by simp) (b40_2 (r_ltI (r_brT (by decide) (b40_3 (count_ok (r_addI (by omega) (r_lenX (r_addI (by omega) ?_))))))))))))))))
  refine r_minV (by omega) ?_
  rw [show ((l.count c : Nat) : Int) + 1 = ((l.count c + 1 : Nat) : Int) by omega]
  refine r_mkS (by omega) (by omega) (r_newS hs ?_ rfl ?_ fun a h hs => r_subI (by omega) ?_)
  · simp [zerosA]
  · unfold zerosA
    rw [List.all_eq_true]
    intro x hx
    obtain ⟨y, hy, hx⟩ := List.mem_flatten.1 hx
    rw [List.eq_of_mem_replicate hy] at hx
    rw [List.mem_singleton.1 hx]
    rfl
  · have hz : zerosA [Value.string ⟨#[]⟩] (l.count c + 1) = List.replicate (l.count c + 1) (tx []) := by
      unfold zerosA
      rw [List.flatten_replicate_singleton]
    dsimp only at hs ⊢
    rw [hz] at hs
    have := split_loop (L := L) (l := l) (c := c) (n := l.count c + 1) (cap := l.count c + 1) (a := some a) (Q := Q) (by omega) (fun h' hs' => hk _ _ _ h' (split_len l).symm hs') (l.count c) l [] h rfl (by omega) (by simp) rfl (by simpa using hs)
    exact this
end Go.Proofs.YtngdhjebbhjokaaDoor
end
section
namespace Go.Proofs.YtngdhjebbhjokaaDoor
open Go Go.Ab Go.Is
attribute [local irreducible] thn Br ld1 ldN stV alc alcAt alcS alcSAt resv padd nilV extV part1 partN lenS lenT biI biT biB biP biS biF biE biA unV idxS idxA pickV appV copyV clearV slS slA slT mkS blkOf at1 atN atS convI convS minV maxV Cl OkF OkR EndX endV beginV defersOf setLoop closeMarks
variable {G : Bg} {h : AH} {L L' M : List HP} {Q : Value → AH → Prop}
theorem opOf_ok {w : List UInt8} (hg : Ob G 0 opsE) (hs : Hs G h L) (hk : Q (I (opOf w : Nat)) h) : Cl Pr K 35 [tx w] h Q := by
  refine c35 (b35_0 ?_)
  have loop : ∀ (f i : Nat), i + f = 12 → opOf w = opF w f i → A35_1 Q (tx w) (I i) h := by
    intro f
    induction f with
    | zero =>
      intro i hi he
      rw [he] at hk
      exact b35_1 (r_ltI (r_brF (by omega) hk))
    | succ f ih =>
      intro i hi he
      rw [opF] at he
      refine b35_1 (r_ltI (r_brT (by omega) (b35_2 (is_ok (r_brb (fun c => r_idxG (i := i) rfl (by omega) (r_padd (r_ldo hs hg (ops_word (by omega)) (r_eqX (r_br (fun d => ?_) (fun d => ?_)))))) (fun c => ?_))))))
      · rw [if_pos ⟨c, d⟩] at he
        rw [he] at hk
        exact hk
      · rw [if_neg (fun hh => d hh.2)] at he
        exact b35_3 (r_addI (by omega) (ih (i + 1) (by omega) he))
      · rw [if_neg (fun hh => by rw [c] at hh; exact absurd hh.1 (by decide))] at he
        exact r_addI (by omega) (ih (i + 1) (by omega) he)
  exact loop 12 0 rfl rfl
theorem mk_set {o : Nat} {vs : List Int} {v : Int} (h : vs.length < 3) : setL (mkI o vs).enc (1 + vs.length) [I v] = (mkI o (vs ++ [v])).enc := by
  match vs, h with
  | [], _ => rfl
  | [a], _ => rfl
  | [a, b], _ => rfl
  | _ :: _ :: _ :: _, h => simp at h; omega
theorem instr_loop {o p1 p8 : Nat} {l : List UInt8} (ho1 : 1 ≤ o) (ho : o < 12) (hg : Ob G 0 opsE) (hk : ∀ y h', (∀ x, instrV l = some x → y = x) → Hs G h' L → Q (.tuple ⟨[.agg ⟨Ins.enc y⟩, .bool (instrV l).isSome]⟩) h') :
    ∀ (f i : Nat) (vs : List Int) (ps : List (List UInt8)) (a : Option Addr) (n c : Nat) (h : AH), i + f = 3 → i = vs.length → n = ps.length → (∀ p ∈ ps, p.length ≤ 2 ^ 40) → instrV l = (argsV ((whatO o).drop i) ps).map (fun us => mkI o (vs ++ us)) →
      Hs G h (seg p1 0 [I 0, I 0, I 0, I 0] :: seg p8 0 (mkI o vs).enc :: slc 1 9 a c (n, ps.map tx) :: L) → A21_2 Q (pt p1 0 0) (.slice a n c) (pt p8 0 0) (.agg ⟨[pt p8 0 1, pt p8 0 2, pt p8 0 3]⟩) (I i) h := by
  have fin : ∀ (vs : List Int) (ps : List (List UInt8)) (a : Option Addr) (n c : Nat) (h : AH), n = ps.length → instrV l = (if ps = [] then some (mkI o vs) else none) →
      Hs G h (seg p1 0 [I 0, I 0, I 0, I 0] :: seg p8 0 (mkI o vs).enc :: slc 1 9 a c (n, ps.map tx) :: L) →
      thn (ldN h 4 (pt p8 0 0)) fun v1 => thn (lenS (.slice a n c)) fun v2 => thn (biI .eql v2 (I 0)) fun v3 => thn (stV h 4 (pt p1 0 0) v1) fun h4 => thn (ldN h4 4 (pt p1 0 0)) fun v5 => Q (.tuple ⟨[v5, v3]⟩) h4 := fun vs ps a n c h hn he hs => by
    refine r_ldN (b := p8) (o := 0) hs (by decide) (l := (mkI o vs).enc) rfl rfl (r_lenS (r_eqI (r_stW (b := p1) (o := 0) hs rfl rfl rfl rfl fun h hs => r_ldN (b := p1) (o := 0) hs (by decide) (l := (mkI o vs).enc) rfl rfl ?_)))
    have := hk (mkI o vs) h (fun x hx => by
      rw [he] at hx
      split at hx
      · cases hx; rfl
      · cases hx) hs.to
    rw [he] at this
    by_cases hp : ps = []
    · rw [if_pos hp] at this
      rw [decide_eq_true (by rw [hn, hp]; rfl)]
      exact this
    · rw [if_neg hp] at this
      rw [decide_eq_false (by rw [hn]; have := List.length_pos_iff.2 hp; omega)]
      exact this
  have bad : ∀ (h : AH) (M : List HP), instrV l = none → Hs G h (seg p1 0 [I 0, I 0, I 0, I 0] :: M) → (∀ h', Hs G h' (seg p1 0 [I 0, I 0, I 0, I 0] :: M) → Hs G h' L) →
      thn (fillL [I 0, I 0, I 0, I 0] []) fun c2 => thn (stV h 4 (pt p1 0 0) (.agg ⟨c2⟩)) fun h3 => thn (ldN h3 4 (pt p1 0 0)) fun v4 => Q (.tuple ⟨[v4, .bool false]⟩) h3 := fun h M he hs hM => by
    refine r_fill (c := [I 0, I 0, I 0, I 0]) rfl (r_stW hs rfl rfl rfl rfl fun h hs => r_ldN hs (by decide) (l := [I 0, I 0, I 0, I 0]) rfl rfl ?_)
    have := hk ⟨0, 0, 0, 0⟩ h (fun x hx => by rw [he] at hx; cases hx) (hM h hs)
    rw [he] at this
    exact this
  intro f
  induction f with
  | zero =>
    intro i vs ps a n c h hi hv hn hpl he hs
    rw [List.drop_of_length_le (by rw [what_len ho]; omega)] at he
    refine b21_2 (r_ltI (r_brF (by omega) (fin vs ps a n c h hn ?_ hs)))
    rw [he, argsV]
    split <;> simp
  | succ f ih =>
    intro i vs ps a n c h hi hv' hn hpl he hs
    have hd : (whatO o).drop i = (whatO o).getD i 0 :: (whatO o).drop (i + 1) := by
      have hlt : i < (whatO o).length := by rw [what_len ho]; omega
      rw [List.drop_eq_getElem_cons hlt, List.getD_eq_getElem?_getD, List.getElem?_eq_getElem hlt]
      rfl
    rw [hd, argsV_cons] at he
    have e0 : i = 0 ∨ i = 1 ∨ i = 2 := by omega
    refine b21_2 (r_ltI (r_brT (by omega) (b21_3 (r_at1 (v := pt p8 0 (1 + i)) (by omega) (by rcases e0 with rfl | rfl | rfl <;> rfl) (r_padd (r_ld (b := p8) (o := 0) hs rfl (r_idxG (i := o) (x := (mkI o vs).op) rfl (by omega) (r_padd (r_idxAn (by omega) ?_)))))))))
    refine r_ldo hs hg (ops_what ho (by omega)) (r_eqI (r_br (fun w0 => ?_) (fun w0 => b21_4 (r_lenS (r_eqI (r_br (fun n0 => ?_) (fun n0 => b21_5 ?_)))))))
    · rw [if_pos w0] at he
      refine fin vs ps a n c h hn ?_ hs
      rw [he]
      split <;> simp
    · rw [if_neg w0] at he
      have hp0 : ps = [] := List.eq_nil_of_length_eq_zero (by omega)
      subst hp0
      exact bad h _ (by rw [he]; rfl) hs fun h' hs' => hs'.to
    · rw [if_neg w0] at he
      match ps, hn, hpl, he, hs with
      | [], hn, _, _, _ => simp at hn; omega
      | q :: qs, hn, hpl, he, hs =>
        simp only at he
        have hq := hpl q List.mem_cons_self
        refine r_slc1 (e := 9) (u := tx q) hs rfl (atoi_ok (by omega) (fun v hv => ?_) (fun m hm => ?_))
        · refine r_ext rfl (r_ext rfl (r_resv hs fun r h hs => r_errN (r_brf (itoa_ok (atoi_in hv) ?_))))
          obtain ⟨b2, o2, rfl, H2, hs2, _⟩ := (hs.front (slc 1 9 a c (n, (q :: qs).map tx))).slcOpen (by omega)
          refine r_idxN (i := 0) (by omega) (r_ldI hs2 (v := tx q) rfl (r_neX (r_fl veq_S (r_fl (r_idxN (i := 0) (by omega) veq_P) (r_fl (r_ldI hs2 (v := tx q) rfl veq_X) (r_br (fun d => ?_) (fun d => b21_6 ?_)))))))
          · have hrn : readN q = none := by
              unfold readN
              rw [hv]
              simp only
              rw [if_neg d]
            rw [hrn] at he
            exact bad h _ (by rw [he]; rfl) (hs.front (seg p1 0 [I 0, I 0, I 0, I 0])) fun h' hs' => hs'.to
          · have hvq : Lib.itoa v = q := by simpa using d
            have hrn : readN q = some v := by
              unfold readN
              rw [hv]
              simp only
              rw [if_pos hvq]
            rw [hrn] at he
            simp only at he
            refine r_nilP (r_sto (b := p8) (o := 0) (j := 1 + i) hs rfl (by show Nat.ble (1 + i + 1) 4 = true; rw [Nat.ble_eq]; omega) rfl rfl fun h hs => ?_)
            rw [hv', mk_set (by omega)] at hs
            obtain rfl : n = qs.length + 1 := by simpa using hn
            refine r_slTail (e := 9) (W := 1) hs fun a' c' hs => r_addI (by omega) (ih (i + 1) (vs ++ [v]) qs a' qs.length c' h (by omega) (by simp; omega) rfl (fun p hp => hpl p (List.mem_cons_of_mem _ hp)) ?_ ?_)
            · rw [he, Option.map_map]
              congr 1
              funext us
              simp
            · simp only [List.map_cons, List.drop_succ_cons, List.drop_zero] at hs
              exact hs.to
        · refine r_ext rfl (r_ext rfl (r_resv hs fun r h hs => r_errY (r_brt ?_)))
          have hrn : readN q = none := by
            unfold readN
            split
            · rename_i v hv; exact absurd hv (hm v)
            · rfl
          rw [hrn] at he
          exact bad h _ (by rw [he]; rfl) (hs.front (seg p1 0 [I 0, I 0, I 0, I 0])) fun h' hs' => hs'.to
theorem split_lens {c : UInt8} : ∀ (l : List UInt8), ∀ p ∈ splitB c l, p.length ≤ l.length
  | [], p, h => by
    rw [List.mem_singleton.1 (show p ∈ [([] : List UInt8)] from h)]
    exact Nat.le_refl _
  | b :: l, p, h => by
    have ih := split_lens (c := c) l
    rw [splitB] at h
    split at h
    · rcases List.mem_cons.1 h with rfl | h
      · simp
      · have := ih p h; simp; omega
    · cases hs : splitB c l with
      | nil => exact absurd hs (split_ne l)
      | cons w ws =>
        rw [hs] at h ih
        rcases List.mem_cons.1 h with rfl | h
        · have := ih w List.mem_cons_self; simp; omega
        · have := ih p (List.mem_cons_of_mem _ h); simp; omega
theorem instr_ok {l : List UInt8} (hl : l.length < 2 ^ 32) (hg : Ob G 0 opsE) (hs : Hs G h L) (hk : ∀ y h', (∀ x, instrV l = some x → y = x) → Hs G h' L → Q (.tuple ⟨[.agg ⟨Ins.enc y⟩, .bool (instrV l).isSome]⟩) h') : Cl Pr K 21 [tx l] h Q := by
  refine c21 (b21_0 (r_new hs fun p1 h hs => split_ok (c := 32) hl hs fun a cap n h hn hs => ?_))
  have hlens := split_lens (c := 32) l
  match hsp : splitB 32 l with
  | [] => exact absurd hsp (split_ne l)
  | w :: ps =>
    rw [hsp] at hn hs hlens
    refine r_slc1 (e := 9) (i := 0) (u := tx w) hs rfl (opOf_ok hg hs (r_fill (c := [I (opOf w : Nat), I 0, I 0, I 0]) rfl (r_new hs fun p8 h hs => r_stW hs rfl rfl rfl rfl fun h hs => r_padd (r_ld (b := p8) (o := 0) hs rfl (is_ok (r_not (r_brn (r_brb (fun c => ?_) (fun c => ?_)))))))))
    · have ho := of_decide_eq_true c
      obtain rfl : n = ps.length + 1 := by simpa using hn
      refine b21_1 (r_slTail (e := 9) (W := 1) hs fun a' c' hs => r_padd (r_padd (r_padd (r_fill (c := [pt p8 0 1, pt p8 0 2, pt p8 0 3]) rfl ?_))))
      simp only [List.map_cons, List.drop_succ_cons, List.drop_zero] at hs
      refine instr_loop (L := L) (o := opOf w) (l := l) (by omega) (by omega) hg hk 3 0 [] ps a' ps.length c' h rfl rfl rfl (fun p hp => by have := hlens p (List.mem_cons_of_mem _ hp); omega) ?_ ?_
      · unfold instrV
        rw [hsp]
        simp only
        rw [if_neg (by omega)]
        rfl
      · have hs := hs.sg (b := p8) (o := 0) (c := (mkI (opOf w) []).enc) rfl
        exact hs.to
    · have h0 : opOf w = 0 := by
        have h1 := of_decide_eq_false c
        by_cases hz : opOf w = 0
        · exact hz
        · have := opF_some (w := w) 12 0 (by omega) hz
          have e : opF w 12 0 = opOf w := rfl
          omega
      have hi : instrV l = none := by
        unfold instrV
        rw [hsp]
        simp only
        rw [if_pos h0]
      refine r_fill (c := [I 0, I 0, I 0, I 0]) rfl (r_stW (b := p1) (o := 0) hs rfl rfl rfl rfl fun h hs => r_ldN (b := p1) (o := 0) hs (by decide) (l := [I 0, I 0, I 0, I 0]) rfl rfl ?_)
      have := hk ⟨0, 0, 0, 0⟩ h (fun x hx => by rw [hi] at hx; cases hx) hs.to
      rw [hi] at this
      exact this
/-! a program -/
theorem parse_loop {many : Int} {res : List Ins × Int × Int} (hg : Ob G 0 opsE) (hk : ∀ v h', Hs G h' (rdS G 4 34 v (res.1.map Ins.enc) :: L) → Q (.tuple ⟨[v, I res.2.1, I res.2.2]⟩) h') :
    ∀ (f : Nat) (s : List UInt8) (acc : List Ins) (no : Nat) (a : Option Addr) (n c : Nat) (h : AH), s.length < f → f ≤ 2 ^ 31 → acc.length + f ≤ 2 ^ 32 → no + f ≤ 2 ^ 33 → n = acc.length → res = parseF many f s acc no → Hs G h (slc 4 34 a c (n, (acc.map Ins.enc).flatten) :: L) →
      A11_2 Q (tx s) (I many) (.slice a n c) (I no) h := by
  have bad : ∀ (h : AH) (M : List HP) (no e : Int), res = ([], no, e) → Hs G h L → Q (.tuple ⟨[.slice none 0 0, I no, I e]⟩) h := fun h M no e he hs => by
    have := hk (.slice none 0 0) h (by
      rw [he]
      exact rd_own (by simp) (by simp) rfl (slc_nil (W := 4) (e := 34) hs))
    rw [he] at this
    exact this
  intro f
  induction f with
  | zero => intro s acc no a n c h hf; omega
  | succ f ih =>
    intro s acc no a n c h hf hf2 ha hno hn he hs
    rw [parseF] at he
    refine b11_2 (r_neX (b := []) (r_br (fun d => ?_) (fun d => ?_)))
    rotate_left
    · have d : s = [] := by simpa using d
      rw [if_pos d] at he
      have := hk (.slice a n c) h (by
        rw [he]
        exact rd_own (enc_lens (f := Ins.enc) (W := 4) (fun x => rfl) acc) (by simp [hn]) rfl hs)
      rw [he] at this
      exact this
    rw [if_neg d] at he
    have line : ∀ (ln rest : List UInt8) (ended : Bool) (h : AH), ln.length ≤ s.length → Hs G h (slc 4 34 a c (n, (acc.map Ins.enc).flatten) :: L) → (ended = true → rest.length < s.length) →
        (res = match instrV ln with | none => ([], (no : Int), 14) | some x => if ended = false then ([], (no : Int), 14) else if mayV x many ≠ 0 then ([], (no : Int), mayV x many) else parseF many f rest (acc ++ [x]) (no + 1)) →
        Cl Pr K 21 [tx ln] h fun v4 h4 => thn (extV 0 v4) fun v5 => thn (extV 1 v4) fun v6 => alc h4 (.cells [I 0, I 0, I 0, I 0] 34 (0, 0) true) fun p8 h7 => thn (stV h7 4 (pt p8 0 0) v5) fun h9 => thn (unV .not v6) fun v10 => Br v10 (Q (.tuple ⟨[.slice none 0 0, I no, I 14]⟩) h9) (
          thn (unV .not (.bool ended)) fun v11 => Br v11 (Q (.tuple ⟨[.slice none 0 0, I no, I 14]⟩) h9) (A11_4 Q (I many) (.slice a n c) (I no) (tx rest) (pt p8 0 0) h9)) := fun ln rest ended h hln hs hrest hres => by
      refine instr_ok (by omega) hg hs fun y h hy hs => r_ext rfl (r_ext rfl (r_new hs fun p8 h hs => r_stW hs rfl rfl rfl rfl fun h hs => ?_))
      cases hi : instrV ln with
      | none =>
        rw [hi] at hres
        exact r_not (r_brt (bad h L no 14 hres hs.to))
      | some x =>
        obtain rfl := hy x hi
        rw [hi] at hres
        simp only at hres
        refine r_not (r_brf (r_not ?_))
        cases ended with
        | false =>
          rw [if_pos rfl] at hres
          exact r_brt (bad h L no 14 hres hs.to)
        | true =>
          rw [if_neg (by decide)] at hres
          refine r_brf (b11_4 (r_ldN (b := p8) (o := 0) hs (by decide) (l := y.enc) rfl rfl (may_ok hg hs fun h hs => r_neI (r_br (fun m => ?_) (fun m => b11_5 ?_)))))
          · rw [if_pos m] at hres
            exact bad h L no _ hres hs.to
          · rw [if_neg m] at hres
            refine r_ldN (b := p8) (o := 0) hs (by decide) (l := y.enc) rfl rfl (r_fill (c := y.enc) rfl (r_newS hs rfl rfl rfl fun a2 h hs => r_appS hs (by omega) fun a3 c3 h hs => ?_))
            dsimp only
            have hr := hrest rfl
            refine r_addI (by omega) (ih rest (acc ++ [y]) (no + 1) a3 (n + 1) c3 h (by omega) (by omega) (by simp; omega) (by omega) (by simp [hn]) hres ?_)
            rw [List.map_append, List.flatten_append]
            simp only [List.map_cons, List.map_nil, List.flatten_cons, List.flatten_nil, List.append_nil]
            exact hs.to
    refine b11_3 (cut_ok (c := 10) (by omega) hs (fun p q h hc hs => ?_) (fun hc h hs => ?_))
    · obtain ⟨hsp, _⟩ := cut_some hc
      have hlen : p.length + 1 + q.length = s.length := by rw [hsp]; simp; omega
      rw [hc] at he
      refine r_ext rfl (r_ext rfl (r_ext rfl (line p q true h (by omega) hs (fun _ => by omega) ?_)))
      rw [he]
      cases hi : instrV p with
      | none => simp [hi]
      | some x => simp [hi]
    · rw [hc] at he
      refine r_ext rfl (r_ext rfl (r_ext rfl (line s [] false h (by omega) hs (fun hh => by cases hh) ?_)))
      rw [he]
      cases hi : instrV s with
      | none => simp
      | some x => simp
theorem parse_ok {s : List UInt8} (hl : s.length < 2 ^ 30) (hg : Ob G 0 opsE) (hs : Hs G h L) (hk : ∀ v h', Hs G h' (rdS G 4 34 v ((parseV s).1.map Ins.enc) :: L) → Q (.tuple ⟨[v, I (parseV s).2.1, I (parseV s).2.2]⟩) h') :
    Cl Pr K 11 [tx s] h Q := by
  have hc : s.count 10 ≤ s.length := List.count_le_length
  refine c11 (b11_0 (count_ok (r_gtI (r_br (fun d => ?_) (fun d => b11_1 ?_)))))
  · have e : parseV s = ([], 0, 11) := by unfold parseV; rw [if_pos (by omega)]
    have := hk (.slice none 0 0) h (by
      rw [e]
      exact rd_own (by simp) (by simp) rfl (slc_nil (W := 4) (e := 34) hs))
    rw [e] at this
    exact this
  · have e : parseV s = parseF (s.count 10 : Nat) (s.length + 1) s [] 1 := by unfold parseV; rw [if_neg (by omega)]
    exact parse_loop (L := L) (res := parseV s) hg hk (s.length + 1) s [] 1 none 0 0 h (by omega) (by omega) (by simp; omega) (by omega) rfl e (slc_nil (W := 4) (e := 34) hs)
end Go.Proofs.YtngdhjebbhjokaaDoor
end
section
namespace Go.Proofs.YtngdhjebbhjokaaDoor
open Go Go.Ab Go.Is
theorem r_neIns {x : Ins} {k : Value → Prop} (hk : k (.bool false)) : thn (biA [0, 0, 0, 0] .neq (.agg ⟨x.enc⟩) (.agg ⟨x.enc⟩)) k := by
  refine ⟨_, ?_, hk⟩
  show some (Value.bool (!(x.op == x.op && (x.a == x.a && (x.b == x.b && (x.c == x.c && true)))))) = _
  simp
attribute [local irreducible] thn Br ld1 ldN stV alc alcAt alcS alcSAt resv padd nilV extV part1 partN lenS lenT biI biT biB biP biS biF biE biA unV idxS idxA pickV appV copyV clearV slS slA slT mkS blkOf at1 atN atS convI convS minV maxV Cl OkF OkR EndX endV beginV defersOf setLoop closeMarks
variable {G : Bg} {h : AH} {L L' M : List HP} {Q : Value → AH → Prop}
theorem back2 {s : List UInt8} (hl : s.length ≤ 1500) (hg : Ob G 0 opsE) (hs : Hs G h L) (hk : ∀ h', Q (.bool true) h') : A4_3 Q (tx s) h := by
  obtain ⟨k1, k2⟩ := print_parse (s := s)
  refine b4_3 (parse_ok (by omega) hg hs fun v h hs => r_ext rfl (r_ext rfl (r_ext rfl (r_neI (r_br (fun c => ?_) (fun c => ?_))))))
  · obtain ⟨e1, e2⟩ := k2 c
    refine len_rd hs ?_
    rw [e1]
    refine r_eqI (r_brT rfl (r_gtI (r_br (fun _ => awake_ok (hk _)) (fun d => r_eqI (r_brT (by omega) (awake_ok (hk _)))))))
  · obtain ⟨e1, e2, e3⟩ := k1 (by omega)
    refine b4_5 (print_ok e2 hg hs fun h hs => ?_)
    rw [e3, e1]
    exact r_ext rfl (r_ext rfl (r_eqI (r_brT rfl (r_eqI (r_brT rfl (r_eqX (r_brT rfl (awake_ok (hk _)))))))))
theorem back_ok {t : Value} {p : List Ins} {s : List UInt8} (hr : ∀ x ∈ p, x.inR) (hg : Ob G 0 opsE) (hs : Hs G h (rdS G 4 34 t (p.map Ins.enc) :: L)) (hk : ∀ h', Q (.bool true) h') : Cl Pr K 4 [t, tx s] h Q := by
  refine c4 (b4_0 (len_rd hs (r_gtI (r_br (fun _ => awake_ok (hk _)) (fun h1 => r_lenX (r_gtI (r_br (fun _ => awake_ok (hk _)) (fun h2 => b4_1 ?_))))))))
  refine print_ok hr hg hs fun h hs => r_ext rfl (r_ext rfl (r_eqI (r_br (fun c => b4_2 ?_) (fun c => back2 (by omega) hg hs hk))))
  have lim : (printV p).1.length < 2 ^ 30 := by
    have hc : (checkV p).2 = 0 := by
      unfold printV at c
      split at c
      · assumption
      · rename_i hn; exact absurd c hn
    obtain ⟨hl, hm⟩ := Is.check_ok hc
    unfold printV
    rw [if_pos hc]
    have := text_len (p := p) fun x hx => ⟨may_is (hm x hx), hr x hx⟩
    show (textV p).length < _
    omega
  have hpp := parse_print hr c
  refine parse_ok lim hg hs fun v h hs => ?_
  rw [hpp] at hs ⊢
  simp only at hs ⊢
  refine r_ext rfl (r_ext rfl (r_ext rfl (r_neI (r_brF (by omega) (r_neI (r_brF (by omega) (len_rd hs.at2 (len_rd hs (r_neI (r_brF (by omega) (b4_4 ?_)))))))))))
  have loop : ∀ (f i : Nat) (h : AH), i + f = p.length → Hs G h (rdS G 4 34 v (p.map Ins.enc) :: rdS G 4 34 t (p.map Ins.enc) :: L) → A4_6 Q t (tx s) v (I i) h := by
    intro f
    induction f with
    | zero =>
      intro i h hi hs
      exact b4_6 (len_rd hs.at2 (r_ltI (r_brF (by omega) (back2 (by omega) hg hs hk))))
    | succ f ih =>
      intro i h hi hs
      obtain ⟨x, hx, _⟩ := at_lt (l := p) (i := i) (by omega)
      refine b4_6 (len_rd hs.at2 (r_ltI (r_brT (by omega) (b4_7 (r_resv hs fun r h hs => ?_)))))
      refine r_rd (hs.front (rdS G 4 34 t (p.map Ins.enc))) (by decide) (i := i) (x := x.enc) (by simp [hx]) (r_rd (hs.front (rdS G 4 34 v (p.map Ins.enc))) (by decide) (i := i) (x := x.enc) (by simp [hx]) (r_neIns (r_brf (b4_8 (r_addI (by omega) (ih (i + 1) h (by omega) hs.tail))))))
  exact loop p.length 0 h (by omega) hs
theorem back_okB {t : Value} {p : List Ins} {s : ByteArray} (hr : ∀ x ∈ p, x.inR) (hg : Ob G 0 opsE) (hs : Hs G h (rdS G 4 34 t (p.map Ins.enc) :: L)) (hk : ∀ h', Q (.bool true) h') : Cl Pr K 4 [t, .string s] h Q :=
  back_ok (s := s.data.toList) hr hg hs hk
end Go.Proofs.YtngdhjebbhjokaaDoor
end
section
namespace Go.Proofs.YtngdhjebbhjokaaDoor
open Go Go.Ab Go.Is Go.RowKit
set_option maxRecDepth 100000 in
theorem isaBack_lifted (os : Os) (started : os.Started) (H : Type) (enc : TypeId × Value → H) :
    ReturnsInHanded {} Tryd.checked os 4 .any (fun w args => (Rows.isaBackSpec.pre enc Tryd.prog Tryd.f4 [] false w args ∧ laidMetH Tryd.prog Rows.isaBackRow.laid w) ∧ sizedMet enc Tryd.prog Tryd.f4 (OpenSpec.ofChange Rows.isaBackSpec) false w args)
      (Rows.isaBackSpec.post enc Tryd.prog Tryd.f4 false true false false) := by
  refine law_lifted (C := Tryd.checked) started own (by kernel_rfl) Tryd.func4 laidOut (by kernel_rfl) rfl Tryd.underlying4 rfl (fun ds hd => by
      match ds, hd with
      | [d1, d2], _ => rfl)
    (ChangeSpec.witness_shaped (enc := enc) (C := Tryd.checked) (os := os) (X := fun w _ => laidMetH Tryd.prog Rows.isaBackRow.laid w) false (World.laidAll Tryd.prog os Rows.isaBackRow.laid) #[.slice none 0 0, .string ⟨#[]⟩] 8 (World.laidAll_os _ _ _)
      (World.shaped_of_ZipB (by kernel_rfl) (by kernel_rfl)) (by kernel_rfl) (by kernel_rfl) (by kernel_rfl)
      (by rw [MakeChecks.laidMetH_plain _ _ _ (by kernel_rfl)]; exact laidMet_laidAll _ (by kernel_rfl) (by kernel_rfl))) ?_
  intro W base args ds ps hA hval hL
  rw [show (Tryd.f4.params.toList) = [22, 9] from by rw [Tryd.params4]] at hA
  rw [Tryd.params4] at hval
  obtain ⟨v0, vs0, d0, ds0, p0, q0, rfl, rfl, rfl, h0, r0⟩ := ChangeShapes.trodAll_cons hA
  obtain ⟨v1, vs1, d1, ds1, p1, q1, rfl, rfl, rfl, h1, r1⟩ := ChangeShapes.trodAll_cons r0
  obtain ⟨rfl, rfl, rfl⟩ := ChangeShapes.trodAll_nil r1
  obtain ⟨a0, len0, cap0, rfl, hrow⟩ := open_rowF Tryd.underlying22 insFlat insCells (by decide) (hval 0 _ v0 rfl rfl) h0
  obtain ⟨x1, rfl, rfl, rfl, w1⟩ := ChangeMaps.open_string Tryd.underlying9 (hval 1 _ v1 rfl rfl) h1
  exact calls_law2 (gl_of (by kernel_rfl) hL (by simp [Rows.isaBackRow]) (by simp [Rows.isaBackRow]) (by simp [Rows.isaBackRow]) (by simp [Rows.isaBackRow]) (by simp [Rows.isaBackRow])) hrow (pre := []) (post := [.string x1]) rfl rfl fun G h t p hpl hpr ho hv hg hs => back_okB (s := x1) (fun x hx => (hpr x hx).2) hg hs fun _ => rfl
theorem isaBack_over : Rows.isaBackRow.holds Tryd.pinned (OpenSpec.ofChange Rows.isaBackSpec) :=
  OpenClaim.holds_of_wide 4 Tryd.f4 rfl rfl rfl rfl rfl rfl rfl ⟨rfl, rfl, rfl, rfl, rfl⟩ rfl rfl rfl rfl rfl (by kernel_rfl) Tryd.func4 (by kernel_rfl)
    (of_decide_eq_true (by kernel_rfl)) (by unfold Func.isWrapper; first | (rw [if_pos (by decide +kernel)]; kernel_rfl) | (rw [if_neg (by decide +kernel)]; exact ⟨rfl, rfl⟩))
    (fun os started H enc _ => isaBack_lifted os started H enc)
/-- ████ THE STATEMENT ████ -/
theorem isaBack_proved : Rows.IsaBackCardSaid :=
  Claim7.holds_tied_plain_at .later [] Rows.isaBackCard.laidKinds true Rows.isaBackCard.stood.harness true
    isaBack_over (fun _ h => by cases h) (by kernel_rfl) (fun _ h => by cases h) isaBack_row_tie rfl ⟨rfl, rfl⟩ (by kernel_rfl) rfl
    (fun f fn hf hfn => by
      obtain rfl : f = 4 := Option.some.inj ((show Tryd.prog.funcNamed "donjon/donjonlaw10.IsaBack" = some 4 by kernel_rfl).symm.trans hf) |>.symm
      obtain rfl : fn = Tryd.f4 := (Option.some.inj (Tryd.func4.symm.trans hfn)).symm
      exact ⟨by kernel_rfl, fun j t ht => by
        rw [Tryd.params4] at ht
        have hm : t ∈ [22, 9] := by simpa using Array.mem_of_getElem? ht
        have hall : ([22, 9].all fun u => !Tryd.prog.wantsStandIn u) = true := by kernel_rfl
        exact (show Tryd.prog.wantsStandIn t = false by simpa using List.all_eq_true.1 hall t hm)⟩)
    (by kernel_rfl)
end Go.Proofs.YtngdhjebbhjokaaDoor
end
