/- NotePrints: for every input the law answers true, and each argument reads afterwards as it read before. No condition but the listed variables' text. -/
import Derived.Test.YtjchglfcndckhaaDoorB6
import Derived.Test.YtjchglfcndckhaaDoorB7
import Derived.Test.YtjchglfcndckhaaDoorB8
import Derived.Test.YtjchglfcndckhaaDoorB9
import Derived.Test.YtjchglfcndckhaaDoorTie
import Derived.Test.YtjchglfcndckhaaDoorCards
import Derived.LaidMore
import Derived.SevenTiedAt
section
namespace Go.Proofs.YtjchglfcndckhaaDoor
open Go Go.Ab Go.Hm Go.Nt
/-- the text of some fields -/
def txtF (n : Note) (fs : List Int) : List UInt8 := fs.flatMap fun f => 32 :: Lib.itoa (getN n f)
def txtN (n : Note) : List UInt8 := wordK n.kind.toNat ++ txtF n (flds n.kind.toNat)
theorem nDigits_le : ∀ (k u : Nat), u < 10 ^ (k + 1) → Lib.nDigits u ≤ k + 1
  | 0, u, h => by rw [Lib.nDigits_small (by simpa using h)]; exact Nat.le_refl _
  | k + 1, u, h => by
    by_cases h1 : u < 10
    · rw [Lib.nDigits_small h1]; omega
    · rw [Lib.nDigits_big h1]
      have := nDigits_le k (u / 10) (by rw [Nat.pow_succ] at h; omega)
      omega
theorem itoa_len {n : Int} (h : -9223372036854775808 ≤ n ∧ n ≤ 9223372036854775807) : (Lib.itoa n).length ≤ 20 := by
  unfold Lib.itoa
  split
  · rw [List.length_cons, Lib.decDigits_length]
    have := nDigits_le 18 n.natAbs (by omega)
    omega
  · rw [Lib.decDigits_length]
    have := nDigits_le 18 n.toNat (by omega)
    omega
theorem txtF_len {n : Note} : ∀ (fs : List Int), (∀ f ∈ fs, -9223372036854775808 ≤ getN n f ∧ getN n f ≤ 9223372036854775807) → (txtF n fs).length ≤ fs.length * 21
  | [], _ => by simp [txtF]
  | f :: fs, h => by
    have h1 := itoa_len (h f List.mem_cons_self)
    have h2 := txtF_len fs fun g hg => h g (List.mem_cons_of_mem _ hg)
    have : txtF n (f :: fs) = 32 :: Lib.itoa (getN n f) ++ txtF n fs := rfl
    rw [this, List.length_append, List.length_cons, List.length_cons]
    omega
theorem str_append {a b : List UInt8} : (⟨a.toArray⟩ : ByteArray) ++ ⟨b.toArray⟩ = ⟨(a ++ b).toArray⟩ := by
  apply ByteArray.ext
  rw [ByteArray.data_append]
  simp
theorem r_catT {a b : List UInt8} {k : Value → Prop} (h : a.length + b.length ≤ 2 ^ 62) (hk : k (.string ⟨(a ++ b).toArray⟩)) : thn (biT .add (.string ⟨a.toArray⟩) (.string ⟨b.toArray⟩)) k := by
  refine ⟨_, ?_, hk⟩
  show astr .add _ _ = _
  have : (⟨a.toArray⟩ : ByteArray).size + (⟨b.toArray⟩ : ByteArray).size = a.length + b.length := rfl
  simp only [astr]
  rw [if_pos (by rw [this]; exact h), str_append]
theorem r_eqTs {s : ByteArray} {k : Value → Prop} (hk : k (.bool true)) : thn (biT .eql (.string s) (.string s)) k := ⟨_, by show astr .eql _ _ = _; simp [astr], hk⟩
theorem veq_T {s : ByteArray} : veq (.string s) (.string s) = true := by simp only [veq]; unfold BEq.beq ByteArray.instBEq ByteArray.beq; simp
theorem get_range {n : Note} {f : Int} (hf : 1 ≤ f ∧ f ≤ 13) (h : ∀ x ∈ [n.core, n.line, n.world, n.state, n.d0, n.d1, n.no], -9223372036854775808 ≤ x ∧ x ≤ 9223372036854775807) : -9223372036854775808 ≤ getN n f ∧ getN n f ≤ 9223372036854775807 := by
  rcases f13 hf with rfl | rfl | rfl | rfl | rfl | rfl | rfl | rfl | rfl | rfl | rfl | rfl | rfl
  · exact h n.core (by simp)
  · exact h n.line (by simp)
  · exact h n.world (by simp)
  · exact h n.world (by simp)
  · exact h n.state (by simp)
  · exact h n.state (by simp)
  · exact h n.state (by simp)
  · exact h n.d0 (by simp)
  · exact h n.d1 (by simp)
  · show -9223372036854775808 ≤ (if n.dirty = true then (1 : Int) else 0) ∧ (if n.dirty = true then (1 : Int) else 0) ≤ 9223372036854775807
    split <;> omega
  · exact h n.no (by simp)
  · exact h n.no (by simp)
  · exact h n.no (by simp)
theorem flds_len {k : Nat} (h : k < 14) : (flds k).length ≤ 7 := by
  rcases k14 h with rfl | rfl | rfl | rfl | rfl | rfl | rfl | rfl | rfl | rfl | rfl | rfl | rfl | rfl <;> decide
theorem word_len {k : Nat} (h : k < 14) : (wordK k).length ≤ 7 := by
  rcases k14 h with rfl | rfl | rfl | rfl | rfl | rfl | rfl | rfl | rfl | rfl | rfl | rfl | rfl | rfl <;> decide
theorem itoa_known {n : Int} (h : -9223372036854775808 ≤ n ∧ n ≤ 9223372036854775807) : K 18 [I n] = some (.val (.string ⟨(Lib.itoa n).toArray⟩)) := by
  show K0 18 [I n] = _
  show (if _ then _ else _) = _
  rw [if_pos h]
attribute [local irreducible] thn Br ld1 ldN stV alc alcAt alcS alcSAt resv padd nilV extV part1 partN lenS lenT biI biT biB biP biS biF biE biA unV idxS idxA pickV appV copyV clearV slS slA slT mkS blkOf at1 atN atS convI convS minV maxV Cl OkF OkR EndX endV beginV defersOf setLoop closeMarks
variable {G : Bg} {h : AH} {L L' : List HP}
theorem itoa_ok {n : Int} {Q : Value → AH → Prop} (h1 : -9223372036854775808 ≤ n ∧ n ≤ 9223372036854775807) (hk : Q (.string ⟨(Lib.itoa n).toArray⟩) h) : Cl Pr K 18 [I n] h Q := by
  unfold Cl
  exact ok_known (itoa_known h1) hk
def pnI (n : Note) (p3 p7 l d : Nat) (e : Nat → Value) (rest : List (List Value)) : HP := exH fun x : List Int × List Int =>
  sp [puH (rest = x.2.map fun f => [I f]), puH (x.1 ++ x.2 = flds n.kind.toNat), lpT Pr 7 (dcd 122) 32 e d l (.ready, none), seg p3 0 n.enc, seg p7 0 [.string ⟨(wordK n.kind.toNat ++ txtF n x.1).toArray⟩]]
theorem pnIn {n : Note} {p3 p7 l d : Nat} {e : Nat → Value} {rest : List (List Value)} (done fs : List Int) (h1 : rest = fs.map fun f => [I f]) (h2 : done ++ fs = flds n.kind.toNat)
    (hs : Hs G h (sp [lpT Pr 7 (dcd 122) 32 e d l (.ready, none), seg p3 0 n.enc, seg p7 0 [.string ⟨(wordK n.kind.toNat ++ txtF n done).toArray⟩]] :: L)) : Hs G h (pnI n p3 p7 l d e rest :: L) :=
  Hs.exI (A := fun x : List Int × List Int => sp [puH (rest = x.2.map fun f => [I f]), puH (x.1 ++ x.2 = flds n.kind.toNat), lpT Pr 7 (dcd 122) 32 e d l (.ready, none), seg p3 0 n.enc, seg p7 0 [.string ⟨(wordK n.kind.toNat ++ txtF n x.1).toArray⟩]]) (done, fs) (sp_pu h1 (sp_pu h2 hs))
theorem pnOut {n : Note} {p3 p7 l d : Nat} {e : Nat → Value} {rest : List (List Value)} (hs : Hs G h (pnI n p3 p7 l d e rest :: L)) : ∃ done fs, (rest = fs.map fun f => [I f]) ∧ done ++ fs = flds n.kind.toNat ∧
    Hs G h (lpT Pr 7 (dcd 122) 32 e d l (.ready, none) :: seg p3 0 n.enc :: seg p7 0 [.string ⟨(wordK n.kind.toNat ++ txtF n done).toArray⟩] :: L) := by
  obtain ⟨⟨done, fs⟩, hs⟩ := Hs.exE hs
  obtain ⟨h1, hs⟩ := sp_puE hs
  obtain ⟨h2, hs⟩ := sp_puE hs
  exact ⟨done, fs, h1, h2, hs.unpack⟩
theorem print_ok {C : Cfg} {n : Note} {Q : Value → AH → Prop} (hr : ∀ x ∈ [n.core, n.line, n.world, n.state, n.d0, n.d1, n.no], -9223372036854775808 ≤ x ∧ x ≤ 9223372036854775807) (hkd : Ob G 0 kindsE) (hl : Ob G 1 limE) (hs : Hs G h L)
    (hk : ∀ h', Hs G h' L → Q (.tuple ⟨[.string ⟨(if chk C n = 0 then txtN n else []).toArray⟩, I (chk C n)]⟩) h') : Cl Pr K 7 [.agg ⟨C.enc⟩, .agg ⟨n.enc⟩] h Q := by
  refine c7 (b7_0 (r_bx hs ?_))
  intro p2 h hs
  refine r_bx hs ?_
  intro p3 h hs
  refine r_ldN (b := p2) (o := 0) hs (by decide) (l := C.enc) rfl rfl (r_ldN (b := p3) (o := 0) hs (by decide) (l := n.enc) rfl rfl (chk_ok hkd hl hs fun h hs => r_neI (r_br (fun h0 => r_cm0 ?_) (fun h0 => ?_))))
  · have := hk h hs.to
    rwa [if_neg h0] at this
  have h0 : chk C n = 0 := by simpa using h0
  rw [if_pos h0, h0] at hk
  obtain ⟨h1, _⟩ := chk0 h0
  obtain ⟨m, hm, hm1, hm2⟩ := k_of h1
  have hmt : n.kind.toNat = m := by omega
  refine b7_1 (r_padd (r_ld hs rfl ?_))
  rw [hm]
  refine r_idxAg hm2 (r_padd (r_ldo hs hkd (o := m * 9) (j := 0) (kinds_word hm2) (r_new hs ?_)))
  intro p7 h hs
  refine r_stW hs rfl rfl rfl rfl ?_
  intro h hs
  refine r_padd (r_ld (b := p3) (o := 0) hs rfl ?_)
  rw [hm]
  refine fields_ok hs fun p h hs => r_marks hs fun d h hs => ?_
  intro e he
  refine r_loop hs fun l h hs => ?_
  refine r_okR (by kernel_rfl) ?_
  have hin := flds_in (k := m) hm2
  have hst : Hs G h (seg p 0 [I m] :: pnI n p3 p7 l d e ((flds m).map fun f => [I f]) :: mk d () :: L) := by
    refine Hs.at2 (pnIn [] (flds m) rfl (by rw [hmt]; rfl) ?_)
    rw [hmt]
    simp only [txtF, List.flatMap_nil, List.append_nil]
    exact hs.to
  clear hs
  refine fields_y hkd hm2 _ (puH False) _ _ h _ hst ?_ ?_ ?_
  · intro x rest h M hs
    obtain ⟨done, fs, h1, h2, hq⟩ := pnOut hs
    clear hs
    cases fs with
    | nil => cases h1
    | cons f fs =>
      simp only [List.map_cons, List.cons.injEq] at h1
      obtain ⟨rfl, rfl⟩ := h1
      have hfin : f ∈ flds m := by rw [← hmt, ← h2]; simp
      have hf := hin f hfin
      have hg := get_range hf hr
      have hlen : (wordK n.kind.toNat ++ txtF n done).length ≤ 200 := by
        have a1 := word_len hm2
        have a2 := flds_len hm2
        have a3 := txtF_len (n := n) done fun g hg => get_range (hin g (by rw [← hmt, ← h2]; simp [hg])) hr
        have a4 : done.length ≤ (flds m).length := by rw [← hmt, ← h2]; simp
        rw [List.length_append, hmt]; omega
      have hil := itoa_len hg
      refine r7_0 (r_atv hq) he (b7_2 ?_)
      refine r_beginv hq fun h hs => r_resv hs ?_
      intro rv h hs
      refine r_ld hs rfl (r_ldN (b := p3) (o := 0) hs (by decide) (l := n.enc) rfl rfl (get_ok hf hs fun h' hs' => itoa_ok hg ?_))
      refine r_catT (a := [32]) (by simp; omega) (r_catT (by have e : ([32] ++ Lib.itoa (getN n f)).length = (Lib.itoa (getN n f)).length + 1 := (by simp [Nat.add_comm]); omega) ?_)
      have hs2 := hs'
      refine r_stW hs' rfl rfl rfl rfl ?_
      intro h'' hs
      refine r_fl (r_ld hs2 rfl veq_T) (r_fl (r_ld hs2 rfl veq_T) (r_setv hs fun h hs => .inl ⟨rfl, ?_⟩))
      refine pnIn (done ++ [f]) fs rfl (by rw [← h2]; simp) ?_
      have e1 : wordK n.kind.toNat ++ txtF n (done ++ [f]) = wordK n.kind.toNat ++ txtF n done ++ ([32] ++ Lib.itoa (getN n f)) := by
        simp [txtF]
      rw [e1]
      exact hs.to
  · intro v h' hs
    obtain ⟨done, fs, h1, h2, hs⟩ := pnOut hs.at2
    cases fs with
    | cons f fs => cases h1
    | nil =>
      rw [List.append_nil] at h2
      subst h2
      refine r_endv hs fun h' hs => r_endN ?_
      refine r_ld hs rfl (r_cm1 hs fun h' hs => r_cm0 (hk h' hs.to))
  · intro v h' hs
    exact (Hs.puE (hs.at2)).1.elim
end Go.Proofs.YtjchglfcndckhaaDoor
end
section
namespace Go.Proofs.YtjchglfcndckhaaDoor
open Go Go.Ab Go.Hm Go.Nt
abbrev tx (l : List UInt8) : Value := .string ⟨l.toArray⟩
theorem r_lenT {l : List UInt8} {k : Value → Prop} (hk : k (I l.length)) : thn (lenT (tx l)) k := ⟨_, rfl, by simpa [ByteArray.size] using hk⟩
theorem r_atT {l : List UInt8} {i : Nat} {k : Value → Prop} (hi : i < l.length) (hk : k (.int .u8 (l[i]).toNat)) : thn (atS (tx l) (I i)) k := by
  refine ⟨_, ?_, hk⟩
  show (if (0 : Int) ≤ (i : Int) then ((⟨l.toArray⟩ : ByteArray)[((i : Int)).toNat]?).map _ else none) = _
  rw [if_pos (by omega), Int.toNat_natCast]
  have : (⟨l.toArray⟩ : ByteArray)[i]? = some l[i] := by
    rw [getElem?_pos (⟨l.toArray⟩ : ByteArray) i hi]; rfl
  rw [this]; rfl
theorem r_eqU {a b : Int} {k : Value → Prop} (hk : k (.bool (decide (a = b)))) : thn (biI .eql (.int .u8 a) (.int .u8 b)) k := ⟨_, by show some (Value.bool (a == b)) = _; rfl, hk⟩
/-- the fields of a kind, a letter each -/
def fldSL : List (List UInt8) := [[], [99, 108, 119], [99, 108, 119], [99, 108, 116, 100, 120], [99, 108], [99, 108, 115, 100, 120, 98], [99, 112], [99, 110], [99, 108, 116, 103, 100], [99, 108, 98], [99, 108], [99, 108, 111], [99, 100, 112], [99, 110]]
def fldS (k : Nat) : List UInt8 := fldSL.getD k []
def hasL (f s : List UInt8) : Bool := f.any fun c => s.contains c
def rightP (C : Cfg) (n : Note) (c : Nat) : Prop :=
  if c = 99 then 0 ≤ n.core ∧ n.core ≤ C.cores - 1 else if c = 108 then 0 ≤ n.line ∧ n.line ≤ 2 * C.granules - 1 else if c = 119 then 0 ≤ n.world ∧ n.world ≤ 3 else if c = 116 then 0 ≤ n.world ∧ n.world ≤ 4
  else if c = 115 then 0 ≤ n.state ∧ n.state ≤ 4 else if c = 103 then n.state = 1 ∨ n.state = 2 ∨ n.state = 4 else if c = 111 then n.state = 0 ∨ n.state = 1 else if c = 112 then 0 ≤ n.no ∧ n.no ≤ 19
  else if c = 110 then 0 ≤ n.no ∧ n.no ≤ C.granules - 1 else if c = 98 then n.no = 0 ∨ n.no = 1 else True
instance (C : Cfg) (n : Note) (c : Nat) : Decidable (rightP C n c) := by unfold rightP; infer_instance
def refP (C : Cfg) (n : Note) : Prop :=
  (∀ c ∈ fldS n.kind.toNat, rightP C n c.toNat) ∧ (hasL (fldS n.kind.toNat) [108] = true ∨ n.line = 0) ∧ (hasL (fldS n.kind.toNat) [119, 116] = true ∨ n.world = 0) ∧ (hasL (fldS n.kind.toNat) [115, 103, 111] = true ∨ n.state = 0) ∧
    (hasL (fldS n.kind.toNat) [100] = true ∨ (n.d0 = 0 ∧ n.d1 = 0)) ∧ (hasL (fldS n.kind.toNat) [120] = true ∨ n.dirty = false) ∧ (hasL (fldS n.kind.toNat) [112, 110, 98] = true ∨ n.no = 0)
theorem fldS_in {k : Nat} (h : k < 14) : ∀ c ∈ fldS k, c ∈ [99, 108, 119, 116, 115, 103, 111, 112, 110, 98, 100, 120] := by
  rcases k14 h with rfl | rfl | rfl | rfl | rfl | rfl | rfl | rfl | rfl | rfl | rfl | rfl | rfl | rfl <;> decide
theorem fldS_ne {k : Nat} (h1 : 1 ≤ k) (h : k < 14) : fldS k ≠ [] := by
  rcases k14 h with rfl | rfl | rfl | rfl | rfl | rfl | rfl | rfl | rfl | rfl | rfl | rfl | rfl | rfl
  · omega
  all_goals decide
theorem walk_iff {C : Cfg} {n : Note} : ∀ (fs : List Int) (a : Note), ((walkN C n fs a).1 = true ∧ (walkN C n fs a).2 = n) ↔ ((∀ f ∈ fs, mayP C f (getN n f)) ∧ fs.foldl (fun a f => setN a f (getN n f)) a = n)
  | [], a => by simp [walkN]
  | f :: fs, a => by
    rw [walkN]
    by_cases h : mayP C f (getN n f)
    · rw [if_pos h, walk_iff fs]
      simp [h]
    · rw [if_neg h]
      simp [h]
theorem ref_chk {C : Cfg} {n : Note} (hk : isK n.kind) (hC : C.Ok) : chk C n = 0 ↔ refP C n := by
  have hl := (Cfg.lines_eq hC).1
  obtain ⟨k, hkk, h1, h2⟩ := k_of hk
  have hkt : n.kind.toNat = k := by omega
  have e0 : chk C n = 0 ↔ ((walkN C n (flds n.kind.toNat) (kindN n.kind)).1 = true ∧ (walkN C n (flds n.kind.toNat) (kindN n.kind)).2 = n) := by
    unfold chk
    rw [if_pos hk, if_pos hC]
    split <;> simp_all
  rw [e0, walk_iff]
  unfold refP
  rw [hkt, hkk]
  obtain ⟨kind, core, line, world, state, d0, d1, dirty, no⟩ := n
  dsimp only at hkk
  subst hkk
  rcases k14 h2 with rfl | rfl | rfl | rfl | rfl | rfl | rfl | rfl | rfl | rfl | rfl | rfl | rfl | rfl
  · omega
  · rw [show flds 1 = [1, 2, 3] from rfl, show fldS 1 = [99, 108, 119] from rfl]
    rw [show hasL [99, 108, 119] [108] = true from rfl, show hasL [99, 108, 119] [119, 116] = true from rfl, show hasL [99, 108, 119] [115, 103, 111] = false from rfl, show hasL [99, 108, 119] [100] = false from rfl, show hasL [99, 108, 119] [120] = false from rfl, show hasL [99, 108, 119] [112, 110, 98] = false from rfl]
    simp only [List.foldl, List.forall_mem_cons, List.not_mem_nil, getN, setN, mayP, rightP, kindN, Note.zero, Note.mk.injEq, Int.reduceEq, if_true, if_false, or_self, or_true, true_or, or_false, false_or, UInt8.reduceToNat, Nat.reduceEqDiff, Bool.false_eq_true, reduceCtorEq, true_and, and_true, decide_eq_true_eq]
    cases dirty <;> simp <;> omega
  · rw [show flds 2 = [1, 2, 3] from rfl, show fldS 2 = [99, 108, 119] from rfl]
    rw [show hasL [99, 108, 119] [108] = true from rfl, show hasL [99, 108, 119] [119, 116] = true from rfl, show hasL [99, 108, 119] [115, 103, 111] = false from rfl, show hasL [99, 108, 119] [100] = false from rfl, show hasL [99, 108, 119] [120] = false from rfl, show hasL [99, 108, 119] [112, 110, 98] = false from rfl]
    simp only [List.foldl, List.forall_mem_cons, List.not_mem_nil, getN, setN, mayP, rightP, kindN, Note.zero, Note.mk.injEq, Int.reduceEq, if_true, if_false, or_self, or_true, true_or, or_false, false_or, UInt8.reduceToNat, Nat.reduceEqDiff, Bool.false_eq_true, reduceCtorEq, true_and, and_true, decide_eq_true_eq]
    cases dirty <;> simp <;> omega
  · rw [show flds 3 = [1, 2, 4, 8, 9, 10] from rfl, show fldS 3 = [99, 108, 116, 100, 120] from rfl]
    rw [show hasL [99, 108, 116, 100, 120] [108] = true from rfl, show hasL [99, 108, 116, 100, 120] [119, 116] = true from rfl, show hasL [99, 108, 116, 100, 120] [115, 103, 111] = false from rfl, show hasL [99, 108, 116, 100, 120] [100] = true from rfl, show hasL [99, 108, 116, 100, 120] [120] = true from rfl, show hasL [99, 108, 116, 100, 120] [112, 110, 98] = false from rfl]
    simp only [List.foldl, List.forall_mem_cons, List.not_mem_nil, getN, setN, mayP, rightP, kindN, Note.zero, Note.mk.injEq, Int.reduceEq, if_true, if_false, or_self, or_true, true_or, or_false, false_or, UInt8.reduceToNat, Nat.reduceEqDiff, Bool.false_eq_true, reduceCtorEq, true_and, and_true, decide_eq_true_eq]
    cases dirty <;> simp <;> omega
  · rw [show flds 4 = [1, 2] from rfl, show fldS 4 = [99, 108] from rfl]
    rw [show hasL [99, 108] [108] = true from rfl, show hasL [99, 108] [119, 116] = false from rfl, show hasL [99, 108] [115, 103, 111] = false from rfl, show hasL [99, 108] [100] = false from rfl, show hasL [99, 108] [120] = false from rfl, show hasL [99, 108] [112, 110, 98] = false from rfl]
    simp only [List.foldl, List.forall_mem_cons, List.not_mem_nil, getN, setN, mayP, rightP, kindN, Note.zero, Note.mk.injEq, Int.reduceEq, if_true, if_false, or_self, or_true, true_or, or_false, false_or, UInt8.reduceToNat, Nat.reduceEqDiff, Bool.false_eq_true, reduceCtorEq, true_and, and_true, decide_eq_true_eq]
    cases dirty <;> simp <;> omega
  · rw [show flds 5 = [1, 2, 5, 8, 9, 10, 11] from rfl, show fldS 5 = [99, 108, 115, 100, 120, 98] from rfl]
    rw [show hasL [99, 108, 115, 100, 120, 98] [108] = true from rfl, show hasL [99, 108, 115, 100, 120, 98] [119, 116] = false from rfl, show hasL [99, 108, 115, 100, 120, 98] [115, 103, 111] = true from rfl, show hasL [99, 108, 115, 100, 120, 98] [100] = true from rfl, show hasL [99, 108, 115, 100, 120, 98] [120] = true from rfl, show hasL [99, 108, 115, 100, 120, 98] [112, 110, 98] = true from rfl]
    simp only [List.foldl, List.forall_mem_cons, List.not_mem_nil, getN, setN, mayP, rightP, kindN, Note.zero, Note.mk.injEq, Int.reduceEq, if_true, if_false, or_self, or_true, true_or, or_false, false_or, UInt8.reduceToNat, Nat.reduceEqDiff, Bool.false_eq_true, reduceCtorEq, true_and, and_true, decide_eq_true_eq]
    cases dirty <;> simp <;> omega
  · rw [show flds 6 = [1, 12] from rfl, show fldS 6 = [99, 112] from rfl]
    rw [show hasL [99, 112] [108] = false from rfl, show hasL [99, 112] [119, 116] = false from rfl, show hasL [99, 112] [115, 103, 111] = false from rfl, show hasL [99, 112] [100] = false from rfl, show hasL [99, 112] [120] = false from rfl, show hasL [99, 112] [112, 110, 98] = true from rfl]
    simp only [List.foldl, List.forall_mem_cons, List.not_mem_nil, getN, setN, mayP, rightP, kindN, Note.zero, Note.mk.injEq, Int.reduceEq, if_true, if_false, or_self, or_true, true_or, or_false, false_or, UInt8.reduceToNat, Nat.reduceEqDiff, Bool.false_eq_true, reduceCtorEq, true_and, and_true, decide_eq_true_eq]
    cases dirty <;> simp <;> omega
  · rw [show flds 7 = [1, 13] from rfl, show fldS 7 = [99, 110] from rfl]
    rw [show hasL [99, 110] [108] = false from rfl, show hasL [99, 110] [119, 116] = false from rfl, show hasL [99, 110] [115, 103, 111] = false from rfl, show hasL [99, 110] [100] = false from rfl, show hasL [99, 110] [120] = false from rfl, show hasL [99, 110] [112, 110, 98] = true from rfl]
    simp only [List.foldl, List.forall_mem_cons, List.not_mem_nil, getN, setN, mayP, rightP, kindN, Note.zero, Note.mk.injEq, Int.reduceEq, if_true, if_false, or_self, or_true, true_or, or_false, false_or, UInt8.reduceToNat, Nat.reduceEqDiff, Bool.false_eq_true, reduceCtorEq, true_and, and_true, decide_eq_true_eq]
    cases dirty <;> simp <;> omega
  · rw [show flds 8 = [1, 2, 4, 6, 8, 9] from rfl, show fldS 8 = [99, 108, 116, 103, 100] from rfl]
    rw [show hasL [99, 108, 116, 103, 100] [108] = true from rfl, show hasL [99, 108, 116, 103, 100] [119, 116] = true from rfl, show hasL [99, 108, 116, 103, 100] [115, 103, 111] = true from rfl, show hasL [99, 108, 116, 103, 100] [100] = true from rfl, show hasL [99, 108, 116, 103, 100] [120] = false from rfl, show hasL [99, 108, 116, 103, 100] [112, 110, 98] = false from rfl]
    simp only [List.foldl, List.forall_mem_cons, List.not_mem_nil, getN, setN, mayP, rightP, kindN, Note.zero, Note.mk.injEq, Int.reduceEq, if_true, if_false, or_self, or_true, true_or, or_false, false_or, UInt8.reduceToNat, Nat.reduceEqDiff, Bool.false_eq_true, reduceCtorEq, true_and, and_true, decide_eq_true_eq]
    cases dirty <;> simp <;> omega
  · rw [show flds 9 = [1, 2, 11] from rfl, show fldS 9 = [99, 108, 98] from rfl]
    rw [show hasL [99, 108, 98] [108] = true from rfl, show hasL [99, 108, 98] [119, 116] = false from rfl, show hasL [99, 108, 98] [115, 103, 111] = false from rfl, show hasL [99, 108, 98] [100] = false from rfl, show hasL [99, 108, 98] [120] = false from rfl, show hasL [99, 108, 98] [112, 110, 98] = true from rfl]
    simp only [List.foldl, List.forall_mem_cons, List.not_mem_nil, getN, setN, mayP, rightP, kindN, Note.zero, Note.mk.injEq, Int.reduceEq, if_true, if_false, or_self, or_true, true_or, or_false, false_or, UInt8.reduceToNat, Nat.reduceEqDiff, Bool.false_eq_true, reduceCtorEq, true_and, and_true, decide_eq_true_eq]
    cases dirty <;> simp <;> omega
  · rw [show flds 10 = [1, 2] from rfl, show fldS 10 = [99, 108] from rfl]
    rw [show hasL [99, 108] [108] = true from rfl, show hasL [99, 108] [119, 116] = false from rfl, show hasL [99, 108] [115, 103, 111] = false from rfl, show hasL [99, 108] [100] = false from rfl, show hasL [99, 108] [120] = false from rfl, show hasL [99, 108] [112, 110, 98] = false from rfl]
    simp only [List.foldl, List.forall_mem_cons, List.not_mem_nil, getN, setN, mayP, rightP, kindN, Note.zero, Note.mk.injEq, Int.reduceEq, if_true, if_false, or_self, or_true, true_or, or_false, false_or, UInt8.reduceToNat, Nat.reduceEqDiff, Bool.false_eq_true, reduceCtorEq, true_and, and_true, decide_eq_true_eq]
    cases dirty <;> simp <;> omega
  · rw [show flds 11 = [1, 2, 7] from rfl, show fldS 11 = [99, 108, 111] from rfl]
    rw [show hasL [99, 108, 111] [108] = true from rfl, show hasL [99, 108, 111] [119, 116] = false from rfl, show hasL [99, 108, 111] [115, 103, 111] = true from rfl, show hasL [99, 108, 111] [100] = false from rfl, show hasL [99, 108, 111] [120] = false from rfl, show hasL [99, 108, 111] [112, 110, 98] = false from rfl]
    simp only [List.foldl, List.forall_mem_cons, List.not_mem_nil, getN, setN, mayP, rightP, kindN, Note.zero, Note.mk.injEq, Int.reduceEq, if_true, if_false, or_self, or_true, true_or, or_false, false_or, UInt8.reduceToNat, Nat.reduceEqDiff, Bool.false_eq_true, reduceCtorEq, true_and, and_true, decide_eq_true_eq]
    cases dirty <;> simp <;> omega
  · rw [show flds 12 = [1, 8, 9, 12] from rfl, show fldS 12 = [99, 100, 112] from rfl]
    rw [show hasL [99, 100, 112] [108] = false from rfl, show hasL [99, 100, 112] [119, 116] = false from rfl, show hasL [99, 100, 112] [115, 103, 111] = false from rfl, show hasL [99, 100, 112] [100] = true from rfl, show hasL [99, 100, 112] [120] = false from rfl, show hasL [99, 100, 112] [112, 110, 98] = true from rfl]
    simp only [List.foldl, List.forall_mem_cons, List.not_mem_nil, getN, setN, mayP, rightP, kindN, Note.zero, Note.mk.injEq, Int.reduceEq, if_true, if_false, or_self, or_true, true_or, or_false, false_or, UInt8.reduceToNat, Nat.reduceEqDiff, Bool.false_eq_true, reduceCtorEq, true_and, and_true, decide_eq_true_eq]
    cases dirty <;> simp <;> omega
  · rw [show flds 13 = [1, 13] from rfl, show fldS 13 = [99, 110] from rfl]
    rw [show hasL [99, 110] [108] = false from rfl, show hasL [99, 110] [119, 116] = false from rfl, show hasL [99, 110] [115, 103, 111] = false from rfl, show hasL [99, 110] [100] = false from rfl, show hasL [99, 110] [120] = false from rfl, show hasL [99, 110] [112, 110, 98] = true from rfl]
    simp only [List.foldl, List.forall_mem_cons, List.not_mem_nil, getN, setN, mayP, rightP, kindN, Note.zero, Note.mk.injEq, Int.reduceEq, if_true, if_false, or_self, or_true, true_or, or_false, false_or, UInt8.reduceToNat, Nat.reduceEqDiff, Bool.false_eq_true, reduceCtorEq, true_and, and_true, decide_eq_true_eq]
    cases dirty <;> simp <;> omega
end Go.Proofs.YtjchglfcndckhaaDoor
end
section
namespace Go.Proofs.YtjchglfcndckhaaDoor
open Go Go.Ab Go.Hm Go.Nt
def lane3 : List Int := [0, 0, 0, 1, 1, 0, 1, 2, 2, 2, 3, 2, 3]
theorem lane_eq {k : Nat} (h1 : 1 ≤ k) (h : k < 14) : lane3[k - 1]? = some (laneK k) := by
  rcases k14 h with rfl | rfl | rfl | rfl | rfl | rfl | rfl | rfl | rfl | rfl | rfl | rfl | rfl | rfl
  · omega
  all_goals rfl
theorem fldS_eq {k : Nat} (h1 : 1 ≤ k) (h : k < 14) : (fldSL.tail.map tx)[k - 1]? = some (tx (fldS k)) := by
  rcases k14 h with rfl | rfl | rfl | rfl | rfl | rfl | rfl | rfl | rfl | rfl | rfl | rfl | rfl | rfl
  · omega
  all_goals rfl
theorem u12 {c : UInt8} (h : c ∈ ([99, 108, 119, 116, 115, 103, 111, 112, 110, 98, 100, 120] : List UInt8)) : c = 99 ∨ c = 108 ∨ c = 119 ∨ c = 116 ∨ c = 115 ∨ c = 103 ∨ c = 111 ∨ c = 112 ∨ c = 110 ∨ c = 98 ∨ c = 100 ∨ c = 120 := by simpa using h
def C2 (C : Cfg) : List Value := [I C.cores, I C.granules]
attribute [local irreducible] thn Br ld1 ldN stV alc alcAt alcS alcSAt resv padd nilV extV part1 partN lenS lenT biI biT biB biP biS biF biE biA unV idxS idxA pickV appV copyV clearV slS slA slT mkS blkOf at1 atN atS convI convS minV maxV Cl OkF OkR EndX endV beginV defersOf setLoop closeMarks
variable {G : Bg} {h : AH} {L L' : List HP}
theorem within_ok {x a b : Int} {Q : Value → AH → Prop} (hk : Q (.bool (decide (a ≤ x ∧ x ≤ b))) h) : Cl Pr K 34 [I x, I a, I b] h Q := by
  refine c34 (b34_0 (r_geI (r_br (fun h1 => r_leI (mayB (by omega) hk)) (fun h1 => mayF (by omega) hk))))
theorem right_ok {C : Cfg} (hC : C.Ok) {n : Note} {c : UInt8} (hc : c ∈ ([99, 108, 119, 116, 115, 103, 111, 112, 110, 98, 100, 120] : List UInt8)) {Q : Value → AH → Prop} (hs : Hs G h L) (hk : ∀ h', Hs G h' L → Q (.bool (decide (rightP C n c.toNat))) h') :
    Cl Pr K 29 [.agg ⟨C2 C⟩, .agg ⟨n.enc⟩, .int .u8 c.toNat] h Q := by
  have h1 := hC.1
  have h2 := hC.2.1
  refine c29 (b29_0 (r_bx hs ?_))
  intro p h hs
  refine r_bx hs ?_
  intro p5 h hs
  have hk := hk h hs.tail.tail
  unfold rightP at hk
  rcases u12 hc with rfl | rfl | rfl | rfl | rfl | rfl | rfl | rfl | rfl | rfl | rfl | rfl
  all_goals
    repeat' first
      | refine r_eqU ?_
      | refine r_brT (by decide) ?_
      | refine r_brF (by decide) ?_
      | refine b29_1 ?_
      | refine b29_2 ?_
      | refine b29_3 ?_
      | refine b29_4 ?_
      | refine b29_5 ?_
      | refine b29_6 ?_
      | refine b29_7 ?_
      | refine b29_8 ?_
      | refine b29_9 ?_
  all_goals simp only [UInt8.reduceToNat, Nat.reduceEqDiff, if_true, if_false, reduceCtorEq] at hk
  · exact r_padd (r_ld hs rfl (r_padd (r_ld (b := p) (o := 0) hs rfl (r_subI (by omega) (within_ok hk)))))
  · exact r_padd (r_ld hs rfl (r_padd (r_ld (b := p) (o := 0) hs rfl (r_mulI (by omega) (r_subI (by omega) (within_ok hk))))))
  · exact r_padd (r_ld hs rfl (within_ok hk))
  · exact r_padd (r_ld hs rfl (within_ok hk))
  · exact r_padd (r_ld hs rfl (within_ok hk))
  · exact r_padd (r_ld hs rfl (r_eqI (r_br (fun h1 => mayT (by omega) hk) (fun h1 => r_padd (r_ld hs rfl (r_eqI (r_br (fun h2 => mayT (by omega) hk) (fun h2 => r_padd (r_ld hs rfl (r_eqI (mayB (by omega) hk)))))))))))
  · exact r_padd (r_ld hs rfl (r_eqI (r_br (fun h1 => mayT (by omega) hk) (fun h1 => r_padd (r_ld hs rfl (r_eqI (mayB (by omega) hk)))))))
  · exact r_padd (r_ld hs rfl (within_ok hk))
  · exact r_padd (r_ld hs rfl (r_padd (r_ld (b := p) (o := 0) hs rfl (r_subI (by omega) (within_ok hk)))))
  · exact r_padd (r_ld hs rfl (r_eqI (r_br (fun h1 => mayT (by omega) hk) (fun h1 => r_padd (r_ld hs rfl (r_eqI (mayB (by omega) hk)))))))
  · exact hk
  · exact hk
theorem lane3_ok {k : Int} {Q : Value → AH → Prop} (hs : Hs G h L) (hk : ∀ h', Hs G h' L → Q (I (if isK k then laneK k.toNat else -1)) h') : Cl Pr K 13 [I k] h Q := by
  refine c13 (b13_0 (r_ltI (r_br (fun h1 => ?_) (fun h1 => r_gtI (r_br (fun h2 => ?_) (fun h2 => b13_1 ?_))))))
  · have := hk h hs; rwa [if_neg (by unfold isK; omega)] at this
  · have := hk h hs; rwa [if_neg (by unfold isK; omega)] at this
  · have hkk : isK k := by unfold isK; omega
    rw [if_pos hkk] at hk
    obtain ⟨m, rfl, hm1, hm2⟩ := k_of hkk
    refine r_fill (c := lane3.map I) rfl (r_newS hs rfl rfl rfl ?_)
    intro a h hs
    obtain ⟨b, o, hbo, H, hs2, _⟩ := hs.slcOpen (by omega)
    cases hbo
    refine r_subI (by omega) ?_
    rw [show (m : Int) - 1 = ((m - 1 : Nat) : Int) by omega]
    refine r_idxN (by omega) (r_ldI hs2 (by rw [Nat.mul_one, Nat.add_zero, List.getElem?_map, lane_eq hm1 hm2]; rfl) ?_)
    have := hk h hs.tail
    rwa [Int.toNat_natCast] at this
theorem fields3_ok {k : Int} {Q : Value → AH → Prop} (hs : Hs G h L) (hk : ∀ h', Hs G h' L → Q (tx (if isK k then fldS k.toNat else [])) h') : Cl Pr K 28 [I k] h Q := by
  refine c28 (b28_0 (r_ltI (r_br (fun h1 => ?_) (fun h1 => r_gtI (r_br (fun h2 => ?_) (fun h2 => b28_1 ?_))))))
  · have := hk h hs; rwa [if_neg (by unfold isK; omega)] at this
  · have := hk h hs; rwa [if_neg (by unfold isK; omega)] at this
  · have hkk : isK k := by unfold isK; omega
    rw [if_pos hkk] at hk
    obtain ⟨m, rfl, hm1, hm2⟩ := k_of hkk
    refine r_fill (c := fldSL.tail.map tx) rfl (r_newS hs rfl rfl rfl ?_)
    intro a h hs
    obtain ⟨b, o, hbo, H, hs2, _⟩ := hs.slcOpen (by omega)
    cases hbo
    refine r_subI (by omega) ?_
    rw [show (m : Int) - 1 = ((m - 1 : Nat) : Int) by omega]
    refine r_idxN (by omega) (r_ldI hs2 (by rw [Nat.mul_one, Nat.add_zero]; exact fldS_eq hm1 hm2) ?_)
    have := hk h hs.tail
    rwa [Int.toNat_natCast] at this
theorem has_in {f s : List UInt8} {i : Nat} (hi : i < f.length) (hs' : s.length ≤ 1000) {Q : Value → AH → Prop} (hy : ∀ h', Hs G h' L → f[i] ∈ s → Q (.bool true) h') (hn : ∀ h' g, Hs G h' (g :: L) → f[i] ∉ s → A30_5 Q (tx s) (tx f) (I i) h') :
    ∀ (m j : Nat) (h : AH) (g : HP), j + m = s.length → f[i] ∉ s.take j → Hs G h (g :: L) → A30_3 Q (tx s) (tx f) (I i) (I j) h := by
  intro m
  induction m with
  | zero =>
    intro j h g hj hnot hs
    refine b30_3 (r_lenT (r_ltI (r_brF (by omega) (hn h g hs ?_))))
    rwa [List.take_of_length_le (by omega)] at hnot
  | succ m ih =>
    intro j h g hj hnot hs
    have hjl : j < s.length := by omega
    refine b30_3 (r_lenT (r_ltI (r_brT (by omega) (b30_4 (r_resv hs ?_)))))
    intro rv h hs
    refine r_atT hi (r_atT hjl (r_eqU (r_br (fun h1 => hy h hs.tail.tail ?_) (fun h1 => b30_6 (r_addI (by omega) (ih (j + 1) h (sp [frK rv (7, []), g]) (by omega) ?_ hs.to))))))
    · have : f[i] = s[j] := UInt8.toNat_inj.1 (by omega)
      rw [this]; exact List.getElem_mem hjl
    · rw [List.take_succ_eq_append_getElem hjl]
      intro hm
      rcases List.mem_append.1 hm with hm | hm
      · exact hnot hm
      · rw [List.mem_singleton.1 hm] at h1; exact h1 rfl
theorem has_ok {k : Int} {s : List UInt8} (hk1 : isK k) (hs' : s.length ≤ 1000) {Q : Value → AH → Prop} (hs : Hs G h L) (hk : ∀ h', Hs G h' L → Q (.bool (hasL (fldS k.toNat) s)) h') : Cl Pr K 30 [I k, tx s] h Q := by
  have key : ∀ (f : List UInt8), f.length ≤ 1000 → (∀ h', Hs G h' L → Q (.bool (hasL f s)) h') → ∀ (m i : Nat) (h : AH) (g : HP), i + m = f.length → (∀ c ∈ f.take i, c ∉ s) → Hs G h (g :: L) → A30_1 Q (tx s) (tx f) (I i) h := by
    intro f hf hk m
    induction m with
    | zero =>
      intro i h g hi hnot hs
      refine b30_1 (r_lenT (r_ltI (r_brF (by omega) ?_)))
      have := hk h hs.tail
      rw [List.take_of_length_le (by omega)] at hnot
      rwa [show hasL f s = false by unfold hasL; rw [List.any_eq_false]; intro c hc; simpa using hnot c hc] at this
    | succ m ih =>
      intro i h g hi hnot hs
      have hil : i < f.length := by omega
      refine b30_1 (r_lenT (r_ltI (r_brT (by omega) (b30_2 ?_))))
      refine has_in (s := s) hil hs' (fun h' hs hm => ?_) (fun h' g hs hm => b30_5 (r_addI (by omega) (ih (i + 1) h' g (by omega) ?_ hs))) s.length 0 h g (by omega) (by simp) hs
      · have := hk h' hs
        rwa [show hasL f s = true by unfold hasL; rw [List.any_eq_true]; exact ⟨f[i], List.getElem_mem hil, by simpa using hm⟩] at this
      · rw [List.take_succ_eq_append_getElem hil]
        intro c hc
        rcases List.mem_append.1 hc with hc | hc
        · exact hnot c hc
        · rw [List.mem_singleton.1 hc]; exact hm
  refine c30 (b30_0 (fields3_ok hs fun h hs => ?_))
  rw [if_pos hk1]
  have hfl : (fldS k.toNat).length ≤ 1000 := by
    obtain ⟨m, rfl, hm1, hm2⟩ := k_of hk1
    rw [Int.toNat_natCast]
    rcases k14 hm2 with rfl | rfl | rfl | rfl | rfl | rfl | rfl | rfl | rfl | rfl | rfl | rfl | rfl | rfl <;> decide
  exact key _ hfl hk (fldS k.toNat).length 0 h (sp []) (by omega) (by simp) hs.to
theorem size_ok {C : Cfg} {Q : Value → AH → Prop} (hs : Hs G h L) (hk : ∀ h', Hs G h' L → Q (.agg ⟨C2 C⟩) h') : Cl Pr K 16 [.agg ⟨C.enc⟩] h Q := by
  refine c16 (b16_0 (r_bx hs ?_))
  intro p h hs
  refine r_new hs ?_
  intro p4 h hs
  refine r_padd (r_ld (b := p) (o := 0) hs rfl (r_padd (r_ld (b := p) (o := 0) hs rfl (r_fill (c := C2 C) rfl (r_stW hs rfl rfl rfl rfl ?_)))))
  intro h hs
  exact r_ldN (b := p4) (o := 0) hs (by decide) (l := C2 C) rfl rfl (hk h hs.tail.tail)
end Go.Proofs.YtjchglfcndckhaaDoor
end
section
namespace Go.Proofs.YtjchglfcndckhaaDoor
open Go Go.Ab Go.Hm Go.Nt
instance (C : Cfg) (n : Note) : Decidable (refP C n) := by unfold refP; infer_instance
/-- the rest of it: fields that a kind does not have -/
def zeroP (n : Note) : Prop :=
  (hasL (fldS n.kind.toNat) [108] = true ∨ n.line = 0) ∧ (hasL (fldS n.kind.toNat) [119, 116] = true ∨ n.world = 0) ∧ (hasL (fldS n.kind.toNat) [115, 103, 111] = true ∨ n.state = 0) ∧
    (hasL (fldS n.kind.toNat) [100] = true ∨ (n.d0 = 0 ∧ n.d1 = 0)) ∧ (hasL (fldS n.kind.toNat) [120] = true ∨ n.dirty = false) ∧ (hasL (fldS n.kind.toNat) [112, 110, 98] = true ∨ n.no = 0)
theorem r_eqT0 {l : List UInt8} {k : Value → Prop} (hl : l ≠ []) (hk : k (.bool false)) : thn (biT .eql (tx l) (.string ⟨#[]⟩)) k := by
  refine ⟨_, ?_, hk⟩
  show astr .eql _ _ = _
  simp only [astr, ByteArray.toList_eq]
  cases l with
  | nil => exact absurd rfl hl
  | cons c l => rfl
attribute [local irreducible] thn Br ld1 ldN stV alc alcAt alcS alcSAt resv padd nilV extV part1 partN lenS lenT biI biT biB biP biS biF biE biA unV idxS idxA pickV appV copyV clearV slS slA slT mkS blkOf at1 atN atS convI convS minV maxV Cl OkF OkR EndX endV beginV defersOf setLoop closeMarks
variable {G : Bg} {h : AH} {L L' : List HP}
def Z6 (Q : Value → AH → Prop) (t3 : Value) (h : AH) : Prop :=
  thn (padd 0 t3) fun v0 => thn (ld1 h v0) fun v1 => Cl Pr K 30 [v1, (.string ⟨#[112, 110, 98]⟩)] h fun v2 h2 => thn (unV .not v2) fun v3 => Br v3 (thn (padd 8 t3) fun v4 => thn (ld1 h2 v4) fun v5 => thn (biI .neq v5 (I 0)) fun v6 => Br v6 (Q (I 10) h2) (Q (I 0) h2)) (Q (I 0) h2)
def Z5 (Q : Value → AH → Prop) (t3 : Value) (h : AH) : Prop :=
  thn (padd 0 t3) fun v0 => thn (ld1 h v0) fun v1 => Cl Pr K 30 [v1, (.string ⟨#[120]⟩)] h fun v2 h2 => thn (unV .not v2) fun v3 => Br v3 (thn (padd 7 t3) fun v4 => thn (ld1 h2 v4) fun v5 => Br v5 (Q (I 10) h2) (Z6 Q t3 h2)) (Z6 Q t3 h2)
def Z4 (Q : Value → AH → Prop) (t3 : Value) (h : AH) : Prop :=
  thn (padd 0 t3) fun v0 => thn (ld1 h v0) fun v1 => Cl Pr K 30 [v1, (.string ⟨#[100]⟩)] h fun v2 h2 => thn (unV .not v2) fun v3 => Br v3 (thn (padd 5 t3) fun v4 => thn (idxA 2 1 v4 (I 0)) fun v5 => thn (ld1 h2 v5) fun v6 => thn (biI .neq v6 (I 0)) fun v7 => Br v7 (Q (I 10) h2) (thn (padd 5 t3) fun v8 => thn (idxA 2 1 v8 (I 1)) fun v9 => thn (ld1 h2 v9) fun v10 => thn (biI .neq v10 (I 0)) fun v11 => Br v11 (Q (I 10) h2) (Z5 Q t3 h2))) (Z5 Q t3 h2)
def Z3 (Q : Value → AH → Prop) (t3 : Value) (h : AH) : Prop :=
  thn (padd 0 t3) fun v0 => thn (ld1 h v0) fun v1 => Cl Pr K 30 [v1, (.string ⟨#[115, 103, 111]⟩)] h fun v2 h2 => thn (unV .not v2) fun v3 => Br v3 (thn (padd 4 t3) fun v4 => thn (ld1 h2 v4) fun v5 => thn (biI .neq v5 (I 0)) fun v6 => Br v6 (Q (I 10) h2) (A15_6 Q t3 h2)) (Z4 Q t3 h2)
def Z2 (Q : Value → AH → Prop) (t3 : Value) (h : AH) : Prop :=
  thn (padd 0 t3) fun v0 => thn (ld1 h v0) fun v1 => Cl Pr K 30 [v1, (.string ⟨#[119, 116]⟩)] h fun v2 h2 => thn (unV .not v2) fun v3 => Br v3 (thn (padd 3 t3) fun v4 => thn (ld1 h2 v4) fun v5 => thn (biI .neq v5 (I 0)) fun v6 => Br v6 (Q (I 10) h2) (Z3 Q t3 h2)) (Z3 Q t3 h2)
def Z1 (Q : Value → AH → Prop) (t3 : Value) (h : AH) : Prop :=
  thn (padd 0 t3) fun v0 => thn (ld1 h v0) fun v1 => Cl Pr K 30 [v1, (.string ⟨#[108]⟩)] h fun v2 h2 => thn (unV .not v2) fun v3 => Br v3 (thn (padd 2 t3) fun v4 => thn (ld1 h2 v4) fun v5 => thn (biI .neq v5 (I 0)) fun v6 => Br v6 (Q (I 10) h2) (Z2 Q t3 h2)) (Z2 Q t3 h2)
theorem z6 {p4 : Nat} {n : Note} {Q : Value → AH → Prop} (hk1 : isK n.kind) (h0 : ∀ h', Hs G h' (seg p4 0 n.enc :: L) → zeroP n → Q (I 0) h') (h1 : ∀ h', Hs G h' (seg p4 0 n.enc :: L) → ¬ zeroP n → Q (I 10) h') (e1 : (hasL (fldS n.kind.toNat) [108] = true ∨ n.line = 0)) (e2 : (hasL (fldS n.kind.toNat) [119, 116] = true ∨ n.world = 0)) (e3 : (hasL (fldS n.kind.toNat) [115, 103, 111] = true ∨ n.state = 0)) (e4 : (hasL (fldS n.kind.toNat) [100] = true ∨ (n.d0 = 0 ∧ n.d1 = 0))) (e5 : (hasL (fldS n.kind.toNat) [120] = true ∨ n.dirty = false)) (hs : Hs G h (seg p4 0 n.enc :: L)) : Z6 Q (pt p4 0 0) h := by
  unfold Z6
  refine r_padd (r_ld hs rfl (has_ok (s := [112, 110, 98]) hk1 (by decide) hs fun h hs => r_not (r_brn (r_brb (fun hx => h0 _ hs ⟨e1, e2, e3, e4, e5, .inl hx⟩) (fun hx => ?_)))))
  exact r_padd (r_ld hs rfl (r_neI (r_br (fun hy => h1 _ hs (fun e => hy ((e.2.2.2.2.2).resolve_left fun t => by rw [hx] at t; cases t))) (fun hy => h0 _ hs ⟨e1, e2, e3, e4, e5, .inr (by simpa using hy)⟩))))
theorem z5 {p4 : Nat} {n : Note} {Q : Value → AH → Prop} (hk1 : isK n.kind) (h0 : ∀ h', Hs G h' (seg p4 0 n.enc :: L) → zeroP n → Q (I 0) h') (h1 : ∀ h', Hs G h' (seg p4 0 n.enc :: L) → ¬ zeroP n → Q (I 10) h') (e1 : (hasL (fldS n.kind.toNat) [108] = true ∨ n.line = 0)) (e2 : (hasL (fldS n.kind.toNat) [119, 116] = true ∨ n.world = 0)) (e3 : (hasL (fldS n.kind.toNat) [115, 103, 111] = true ∨ n.state = 0)) (e4 : (hasL (fldS n.kind.toNat) [100] = true ∨ (n.d0 = 0 ∧ n.d1 = 0))) (hs : Hs G h (seg p4 0 n.enc :: L)) : Z5 Q (pt p4 0 0) h := by
  unfold Z5
  refine r_padd (r_ld hs rfl (has_ok (s := [120]) hk1 (by decide) hs fun h hs => r_not (r_brn (r_brb (fun hx => z6 hk1 h0 h1 e1 e2 e3 e4 (.inl hx) hs) (fun hx => ?_)))))
  exact r_padd (r_ld hs rfl (r_brb (fun hy => h1 _ hs (fun e => by have := (e.2.2.2.2.1).resolve_left (fun t => by rw [hx] at t; cases t); rw [hy] at this; cases this)) (fun hy => z6 hk1 h0 h1 e1 e2 e3 e4 (.inr hy) hs)))
theorem z4 {p4 : Nat} {n : Note} {Q : Value → AH → Prop} (hk1 : isK n.kind) (h0 : ∀ h', Hs G h' (seg p4 0 n.enc :: L) → zeroP n → Q (I 0) h') (h1 : ∀ h', Hs G h' (seg p4 0 n.enc :: L) → ¬ zeroP n → Q (I 10) h') (e1 : (hasL (fldS n.kind.toNat) [108] = true ∨ n.line = 0)) (e2 : (hasL (fldS n.kind.toNat) [119, 116] = true ∨ n.world = 0)) (e3 : (hasL (fldS n.kind.toNat) [115, 103, 111] = true ∨ n.state = 0)) (hs : Hs G h (seg p4 0 n.enc :: L)) : Z4 Q (pt p4 0 0) h := by
  unfold Z4
  refine r_padd (r_ld hs rfl (has_ok (s := [100]) hk1 (by decide) hs fun h hs => r_not (r_brn (r_brb (fun hx => z5 hk1 h0 h1 e1 e2 e3 (.inl hx) hs) (fun hx => ?_)))))
  refine r_padd (r_idxA (by omega) (by omega) (r_ld hs rfl (r_neI (r_br (fun hy => h1 _ hs (fun e => hy ((e.2.2.2.1).resolve_left fun t => by rw [hx] at t; cases t).1)) (fun hy => ?_)))))
  exact r_padd (r_idxA (by omega) (by omega) (r_ld hs rfl (r_neI (r_br (fun hz => h1 _ hs (fun e => hz ((e.2.2.2.1).resolve_left fun t => by rw [hx] at t; cases t).2)) (fun hz => z5 hk1 h0 h1 e1 e2 e3 (.inr ⟨by simpa using hy, by simpa using hz⟩) hs)))))
theorem z3 {p4 : Nat} {n : Note} {Q : Value → AH → Prop} (hk1 : isK n.kind) (h0 : ∀ h', Hs G h' (seg p4 0 n.enc :: L) → zeroP n → Q (I 0) h') (h1 : ∀ h', Hs G h' (seg p4 0 n.enc :: L) → ¬ zeroP n → Q (I 10) h') (e1 : (hasL (fldS n.kind.toNat) [108] = true ∨ n.line = 0)) (e2 : (hasL (fldS n.kind.toNat) [119, 116] = true ∨ n.world = 0)) (hs : Hs G h (seg p4 0 n.enc :: L)) : Z3 Q (pt p4 0 0) h := by
  unfold Z3
  refine r_padd (r_ld hs rfl (has_ok (s := [115, 103, 111]) hk1 (by decide) hs fun h hs => r_not (r_brn (r_brb (fun hx => z4 hk1 h0 h1 e1 e2 (.inl hx) hs) (fun hx => ?_)))))
  exact r_padd (r_ld hs rfl (r_neI (r_br (fun hy => h1 _ hs (fun e => hy ((e.2.2.1).resolve_left fun t => by rw [hx] at t; cases t))) (fun hy => b15_6 (z4 hk1 h0 h1 e1 e2 (.inr (by simpa using hy)) hs)))))
theorem z2 {p4 : Nat} {n : Note} {Q : Value → AH → Prop} (hk1 : isK n.kind) (h0 : ∀ h', Hs G h' (seg p4 0 n.enc :: L) → zeroP n → Q (I 0) h') (h1 : ∀ h', Hs G h' (seg p4 0 n.enc :: L) → ¬ zeroP n → Q (I 10) h') (e1 : (hasL (fldS n.kind.toNat) [108] = true ∨ n.line = 0)) (hs : Hs G h (seg p4 0 n.enc :: L)) : Z2 Q (pt p4 0 0) h := by
  unfold Z2
  refine r_padd (r_ld hs rfl (has_ok (s := [119, 116]) hk1 (by decide) hs fun h hs => r_not (r_brn (r_brb (fun hx => z3 hk1 h0 h1 e1 (.inl hx) hs) (fun hx => ?_)))))
  exact r_padd (r_ld hs rfl (r_neI (r_br (fun hy => h1 _ hs (fun e => hy ((e.2.1).resolve_left fun t => by rw [hx] at t; cases t))) (fun hy => z3 hk1 h0 h1 e1 (.inr (by simpa using hy)) hs))))
theorem z1 {p4 : Nat} {n : Note} {Q : Value → AH → Prop} (hk1 : isK n.kind) (h0 : ∀ h', Hs G h' (seg p4 0 n.enc :: L) → zeroP n → Q (I 0) h') (h1 : ∀ h', Hs G h' (seg p4 0 n.enc :: L) → ¬ zeroP n → Q (I 10) h')  (hs : Hs G h (seg p4 0 n.enc :: L)) : Z1 Q (pt p4 0 0) h := by
  unfold Z1
  refine r_padd (r_ld hs rfl (has_ok (s := [108]) hk1 (by decide) hs fun h hs => r_not (r_brn (r_brb (fun hx => z2 hk1 h0 h1  (.inl hx) hs) (fun hx => ?_)))))
  exact r_padd (r_ld hs rfl (r_neI (r_br (fun hy => h1 _ hs (fun e => hy ((e.1).resolve_left fun t => by rw [hx] at t; cases t))) (fun hy => z2 hk1 h0 h1  (.inr (by simpa using hy)) hs))))
theorem zero_4 {p4 : Nat} {n : Note} {Q : Value → AH → Prop} (hk1 : isK n.kind) (h0 : ∀ h', Hs G h' (seg p4 0 n.enc :: L) → zeroP n → Q (I 0) h') (h1 : ∀ h', Hs G h' (seg p4 0 n.enc :: L) → ¬ zeroP n → Q (I 10) h') (hs : Hs G h (seg p4 0 n.enc :: L)) : A15_4 Q (pt p4 0 0) h := b15_4 (z1 hk1 h0 h1 hs)
theorem ref_ok {C : Cfg} (hC : C.Ok) {n : Note} {Q : Value → AH → Prop} (hs : Hs G h L) (hk : ∀ h', Hs G h' L → Q (I (if isK n.kind then (if refP C n then 0 else 10) else 15)) h') : Cl Pr K 15 [.agg ⟨C2 C⟩, .agg ⟨n.enc⟩] h Q := by
  refine c15 (b15_0 (r_bx hs ?_))
  intro p3 h hs
  refine r_bx hs ?_
  intro p4 h hs
  refine r_padd (r_ld hs rfl (fields3_ok hs fun h hs => ?_))
  by_cases hk1 : isK n.kind
  · rw [if_pos hk1]
    rw [if_pos hk1] at hk
    have hkk := hk1
    obtain ⟨m, hm, hm1, hm2⟩ := k_of hkk
    have hmt : n.kind.toNat = m := by omega
    have hne : fldS n.kind.toNat ≠ [] := by rw [hmt]; exact fldS_ne hm1 hm2
    have hin : ∀ c ∈ fldS n.kind.toNat, c ∈ ([99, 108, 119, 116, 115, 103, 111, 112, 110, 98, 100, 120] : List UInt8) := by rw [hmt]; exact fldS_in hm2
    have hfl : (fldS n.kind.toNat).length ≤ 1000 := by
      rw [hmt]
      rcases k14 hm2 with rfl | rfl | rfl | rfl | rfl | rfl | rfl | rfl | rfl | rfl | rfl | rfl | rfl | rfl <;> decide
    refine r_eqT0 hne (r_brf (b15_1 ?_))
    have hz : refP C n ↔ ((∀ c ∈ fldS n.kind.toNat, rightP C n c.toNat) ∧ zeroP n) := Iff.rfl
    have loop : ∀ (m i : Nat) (h : AH) (g : HP), i + m = (fldS n.kind.toNat).length → (∀ c ∈ (fldS n.kind.toNat).take i, rightP C n c.toNat) → Hs G h (seg p3 0 (C2 C) :: seg p4 0 n.enc :: g :: L) → A15_2 Q (pt p3 0 0) (pt p4 0 0) (tx (fldS n.kind.toNat)) (I i) h := by
      intro m
      induction m with
      | zero =>
        intro i h g hi hr hs
        rw [List.take_of_length_le (by omega)] at hr
        refine b15_2 (r_lenT (r_ltI (r_brF (by omega) (zero_4 (L := seg p3 0 (C2 C) :: g :: L) hk1 (fun h hs hzz => ?_) (fun h hs hzz => ?_) hs.to))))
        · have := hk h hs.to
          rwa [if_pos (hz.2 ⟨hr, hzz⟩)] at this
        · have := hk h hs.to
          rwa [if_neg (fun e => hzz (hz.1 e).2)] at this
      | succ m ih =>
        intro i h g hi hr hs
        have hil : i < (fldS n.kind.toNat).length := by omega
        refine b15_2 (r_lenT (r_ltI (r_brT (by omega) (b15_3 (r_resv hs ?_)))))
        intro rv h hs
        refine r_ldN (b := p3) (o := 0) hs (by decide) (l := C2 C) rfl rfl (r_ldN (b := p4) (o := 0) hs (by decide) (l := n.enc) rfl rfl (r_atT hil (right_ok hC (hin _ (List.getElem_mem hil)) hs fun h hs => r_not (r_brn (r_br (fun hy => ?_) (fun hy => ?_))))))
        · refine b15_5 (r_addI (by omega) (ih (i + 1) h (sp [frK rv (7, []), g]) (by omega) ?_ hs.to))
          rw [List.take_succ_eq_append_getElem hil]
          intro c hc
          rcases List.mem_append.1 hc with hc | hc
          · exact hr c hc
          · rw [List.mem_singleton.1 hc]; exact hy
        · have := hk h hs.to
          rwa [if_neg (fun e => hy ((hz.1 e).1 _ (List.getElem_mem hil)))] at this
    exact loop (fldS n.kind.toNat).length 0 h (sp []) (by omega) (by simp) hs.to
  · rw [if_neg hk1]
    rw [if_neg hk1] at hk
    exact r_eqTs (r_brt (hk h hs.tail.tail))
end Go.Proofs.YtjchglfcndckhaaDoor
end
section
namespace Go.Proofs.YtjchglfcndckhaaDoor
open Go Go.Ab Go.Hm Go.Nt
def valS (n : Note) (c : Nat) : List Int :=
  if c = 99 then [n.core] else if c = 108 then [n.line] else if c = 119 ∨ c = 116 then [n.world] else if c = 115 ∨ c = 103 ∨ c = 111 then [n.state] else if c = 100 then [n.d0, n.d1] else if c = 120 then [if n.dirty = true then 1 else 0] else [n.no]
def numsN (n : Note) : List Int := (fldS n.kind.toNat).flatMap fun c => valS n c.toNat
theorem nums_eq {n : Note} (hk : isK n.kind) : numsN n = (flds n.kind.toNat).map (getN n) := by
  obtain ⟨m, hm, hm1, hm2⟩ := k_of hk
  have hmt : n.kind.toNat = m := by omega
  unfold numsN
  rw [hmt]
  rcases k14 hm2 with rfl | rfl | rfl | rfl | rfl | rfl | rfl | rfl | rfl | rfl | rfl | rfl | rfl | rfl
  · omega
  all_goals rfl
theorem word_eq {k : Nat} (h1 : 1 ≤ k) (h : k < 14) : (kindsL.tail.map fun r => tx r.1)[k - 1]? = some (tx (wordK k)) := by
  rcases k14 h with rfl | rfl | rfl | rfl | rfl | rfl | rfl | rfl | rfl | rfl | rfl | rfl | rfl | rfl
  · omega
  all_goals rfl
theorem r_convU {v : Int} {k : Value → Prop} (h : 0 ≤ v ∧ v < 256) (hk : k (.int .u8 v)) : thn (convI .u8 (I v)) k := ⟨_, by
  show some (Value.int .u8 (IntKind.wrap .u8 v)) = _
  rw [show IntKind.wrap .u8 v = v by simp [IntKind.wrap, IntKind.signed, IntKind.bits]; omega], hk⟩
theorem r_quoN {u : Nat} {k : Value → Prop} (h : u ≤ 9223372036854775808) (hk : k (I (-((u / 10 : Nat) : Int)))) : thn (biI .quo (I (-(u : Int))) (I 10)) k := by
  refine ⟨_, ?_, hk⟩
  show aint .quo .i64 (-(u : Int)) 10 = _
  simp only [aint]
  rw [if_neg (by decide), Int.neg_tdiv, show (u : Int).tdiv 10 = ((u / 10 : Nat) : Int) from rfl]
  show some (I (wr _)) = _
  rw [wr_in (by omega)]
theorem r_remN {u : Nat} {k : Value → Prop} (hk : k (I (-((u % 10 : Nat) : Int)))) : thn (biI .rem (I (-(u : Int))) (I 10)) k := by
  refine ⟨_, ?_, hk⟩
  show aint .rem .i64 (-(u : Int)) 10 = _
  simp only [aint]
  rw [if_neg (by decide), Int.neg_tmod, show (u : Int).tmod 10 = ((u % 10 : Nat) : Int) from rfl]
theorem dec_len {u : Nat} (h : u ≤ 9223372036854775808) : (Lib.decDigits u).length ≤ 19 := by
  rw [Lib.decDigits_length]; exact nDigits_le 18 u (by omega)
variable {G : Bg} {h : AH} {L L' : List HP}
theorem r_strOf1 {e : TypeId} {a : Addr} {c : Nat} {v : Nat} {k : Value → Prop} (hv : v < 256) (hs : Hs G h (slc 1 e (some a) c (1, [.int .u8 v]) :: L)) (hk : k (tx [UInt8.ofNat v])) : thn (strOf h (.slice (some a) 1 c)) k := by
  have h1 := slc_src hs
  simp only [srcCells] at h1
  rw [if_neg (by decide), if_pos (by decide)] at h1
  refine ⟨_, ?_, hk⟩
  simp only [strOf]
  rw [if_neg (by decide)]
  have h1 : loadCellsAt h a 1 = some [.int .u8 v] := h1
  rw [h1]
  rfl
attribute [local irreducible] thn Br ld1 ldN stV alc alcAt alcS alcSAt resv padd nilV extV part1 partN lenS lenT biI biT biB biP biS biF biE biA unV idxS idxA pickV appV copyV clearV slS slA slT mkS blkOf at1 atN atS convI convS minV maxV Cl OkF OkR EndX endV beginV defersOf setLoop closeMarks
theorem decP_ok : ∀ (u : Nat), u ≤ 9223372036854775807 → ∀ (h : AH) (L : List HP) (Q : Value → AH → Prop), Hs G h L → (∀ h', Hs G h' L → Q (tx (Lib.decDigits u)) h') → Cl Pr K 26 [I u] h Q := by
  intro u
  induction u using Nat.strongRecOn with
  | _ u ih =>
    intro hu h L Q hs hk
    refine c26 (b26_0 (r_ltI (r_brF (by omega) (b26_2 (r_rem (by omega) (by decide) (r_addI (by omega) (r_convU (by omega) ?_)))))))
    rw [show (48 : Int) + (u : Int) % 10 = ((48 + u % 10 : Nat) : Int) by omega]
    refine r_fill (c := [.int .u8 ((48 + u % 10 : Nat) : Int)]) rfl (r_newS hs rfl rfl rfl ?_)
    intro a h hs
    refine r_strOf1 (v := 48 + u % 10) (by omega) hs (r_gtI (r_br (fun h9 => b26_3 (r_quo (by omega) (by decide) (by omega) ?_)) (fun h9 => ?_)))
    · rw [show (u : Int) / 10 = ((u / 10 : Nat) : Int) by omega]
      refine ih (u / 10) (by omega) (by omega) h L _ hs.tail fun h hs => ?_
      have h1 := dec_len (u := u / 10) (by omega)
      refine r_catT (by simp; omega) ?_
      have := hk h hs
      rw [Lib.decDigits, dif_neg (by omega)] at this
      exact this
    · have := hk h hs.tail
      rw [Lib.decDigits, dif_pos (by omega)] at this
      rw [show u % 10 = u by omega]
      exact this
theorem decN_ok : ∀ (u : Nat), 1 ≤ u → u ≤ 9223372036854775808 → ∀ (h : AH) (L : List HP) (Q : Value → AH → Prop), Hs G h L → (∀ h', Hs G h' L → Q (tx (45 :: Lib.decDigits u)) h') → Cl Pr K 26 [I (-(u : Int))] h Q := by
  intro u
  induction u using Nat.strongRecOn with
  | _ u ih =>
    intro h1 hu h L Q hs hk
    refine c26 (b26_0 (r_ltI (r_brT (by omega) (b26_1 (r_gtI (r_br (fun h9 => ?_) (fun h9 => ?_)))))))
    · refine r_negI (by omega) ?_
      rw [show (0 : Int) - -(u : Int) = (u : Int) by omega]
      refine decP_ok u (by omega) h L _ hs fun h hs => ?_
      have h1 := dec_len (u := u) (by omega)
      exact r_catT (a := [45]) (by simp; omega) (hk h hs)
    · refine r_quoN (by omega) ?_
      refine ih (u / 10) (by omega) (by omega) (by omega) h L _ hs fun h hs => ?_
      refine r_remN (r_negI (by omega) ?_)
      rw [show (0 : Int) - -((u % 10 : Nat) : Int) = ((u % 10 : Nat) : Int) by omega]
      refine decP_ok (u % 10) (by omega) h L _ hs fun h hs => ?_
      have h1 := dec_len (u := u / 10) (by omega)
      have h2 := dec_len (u := u % 10) (by omega)
      refine r_catT (by simp; omega) ?_
      have := hk h hs
      rw [Lib.decDigits, dif_neg (by omega)] at this
      rw [show Lib.decDigits (u % 10) = [UInt8.ofNat (48 + u % 10)] by rw [Lib.decDigits, dif_pos (by omega)]]
      exact this
theorem dec_ok {x : Int} (hx : -9223372036854775808 ≤ x ∧ x ≤ 9223372036854775807) {Q : Value → AH → Prop} (hs : Hs G h L) (hk : ∀ h', Hs G h' L → Q (tx (Lib.itoa x)) h') : Cl Pr K 26 [I x] h Q := by
  unfold Lib.itoa at hk
  by_cases h0 : x < 0
  · rw [if_pos h0] at hk
    have := decN_ok x.natAbs (by omega) (by omega) h L Q hs hk
    rwa [show -((x.natAbs : Nat) : Int) = x by omega] at this
  · rw [if_neg h0] at hk
    have := decP_ok x.toNat (by omega) h L Q hs hk
    rwa [show ((x.toNat : Nat) : Int) = x by omega] at this
theorem word3_ok {k : Int} (hkk : isK k) {Q : Value → AH → Prop} (hs : Hs G h L) (hk : ∀ h', Hs G h' L → Q (tx (wordK k.toNat)) h') : Cl Pr K 24 [I k] h Q := by
  have h1 : 1 ≤ k ∧ k < 14 := hkk
  refine c24 (b24_0 (r_ltI (r_brF (by omega) (r_gtI (r_brF (by omega) (b24_1 ?_))))))
  obtain ⟨m, rfl, hm1, hm2⟩ := k_of hkk
  refine r_fill (c := kindsL.tail.map fun r => tx r.1) rfl (r_newS hs rfl rfl rfl ?_)
  intro a h hs
  obtain ⟨b, o, hbo, H, hs2, _⟩ := hs.slcOpen (by omega)
  cases hbo
  refine r_subI (by omega) ?_
  rw [show (m : Int) - 1 = ((m - 1 : Nat) : Int) by omega]
  refine r_idxN (by omega) (r_ldI hs2 (by rw [Nat.mul_one, Nat.add_zero]; exact word_eq hm1 hm2) ?_)
  have := hk h hs.tail
  rwa [Int.toNat_natCast] at this
theorem nums_step {p2 : Nat} {n : Note} {f : List UInt8} {done : List Int} {a : Option Addr} {c i : Nat} {x : Value} {g : HP} {Q : Value → AH → Prop} (hi : i < f.length) (hi9 : i ≤ 100) (hin : f[i] ∈ ([99, 108, 119, 116, 115, 103, 111, 112, 110, 98, 100, 120] : List UInt8)) (hd : done.length ≤ 1000)
    (hs : Hs G h (slc 1 3 a c (done.length, done.map I) :: seg p2 0 n.enc :: g :: L))
    (hk : ∀ h' a' c' g' x, Hs G h' (slc 1 3 a' c' ((done ++ valS n f[i].toNat).length, (done ++ valS n f[i].toNat).map I) :: seg p2 0 n.enc :: g' :: L) → A25_1 Q (pt p2 0 0) (tx f) (.slice a' (done ++ valS n f[i].toNat).length c') (I ((i + 1 : Nat) : Int)) x h') :
    A25_2 Q (pt p2 0 0) (tx f) (.slice a done.length c) (I i) x h := by
  refine b25_2 (r_atT hi ?_)
  have fin1 : ∀ (y : Int) (x : Value) (l : List Value) (h : AH), valS n f[i].toNat = [y] → l = [I y] → Hs G h (slc 1 3 a c (done.length, done.map I) :: seg p2 0 n.enc :: g :: L) →
      alcS h 1 3 l 1 1 fun s4 h2 => thn (appV 1 8 3 h2 (.slice a done.length c) s4) fun r5 => (fun v6 h7 => thn (biI .add (I i) (I 1)) fun v8 => A25_1 Q (pt p2 0 0) (tx f) v6 v8 x h7) r5.1 r5.2 := by
    intro y x l h hv hl hs
    subst hl
    refine r_newS hs rfl rfl rfl ?_
    intro a2 h hs
    refine r_appS (hs.front2 (slc 1 3 a c (done.length, done.map I)) (slc 1 3 (some a2) 1 (1, [I y]))) (by omega) ?_
    intro a3 c3 h hs
    dsimp only
    refine r_addI (by omega) ?_
    rw [hv] at hk
    have := hk h a3 c3 (sp [slc 1 3 (some a2) 1 (1, [I y]), g]) x (by
      rw [List.length_append, List.map_append]
      simp only [List.length_cons, List.length_nil, Nat.zero_add, List.map_cons, List.map_nil]
      exact hs.to)
    rw [List.length_append] at this
    exact this
  generalize hc : f[i] = ch at hin fin1 hk ⊢
  rcases u12 hin with rfl | rfl | rfl | rfl | rfl | rfl | rfl | rfl | rfl | rfl | rfl | rfl
  all_goals
    repeat' first
      | refine r_eqU ?_
      | refine r_brT (by decide) ?_
      | refine r_brF (by decide) ?_
      | refine b25_3 ?_
      | refine b25_4 ?_
      | refine b25_5 ?_
      | refine b25_6 ?_
      | refine b25_7 ?_
      | refine b25_8 ?_
      | refine b25_9 ?_
      | refine b25_10 ?_
      | refine b25_11 ?_
      | refine b25_12 ?_
      | refine b25_13 ?_
      | refine b25_14 ?_
      | refine b25_15 ?_
      | refine b25_16 ?_
      | refine b25_17 ?_
      | refine b25_18 ?_
      | refine b25_19 ?_
  · exact r_padd (r_ld (b := p2) (o := 0) hs rfl (r_fill (c := [I n.core]) rfl (fin1 n.core _ _ h rfl rfl hs)))
  · exact r_padd (r_ld (b := p2) (o := 0) hs rfl (r_fill (c := [I n.line]) rfl (fin1 n.line _ _ h rfl rfl hs)))
  · exact r_padd (r_ld (b := p2) (o := 0) hs rfl (r_fill (c := [I n.world]) rfl (fin1 n.world _ _ h rfl rfl hs)))
  · exact r_padd (r_ld (b := p2) (o := 0) hs rfl (r_fill (c := [I n.world]) rfl (fin1 n.world _ _ h rfl rfl hs)))
  · exact r_padd (r_ld (b := p2) (o := 0) hs rfl (r_fill (c := [I n.state]) rfl (fin1 n.state _ _ h rfl rfl hs)))
  · exact r_padd (r_ld (b := p2) (o := 0) hs rfl (r_fill (c := [I n.state]) rfl (fin1 n.state _ _ h rfl rfl hs)))
  · exact r_padd (r_ld (b := p2) (o := 0) hs rfl (r_fill (c := [I n.state]) rfl (fin1 n.state _ _ h rfl rfl hs)))
  · exact r_padd (r_ld (b := p2) (o := 0) hs rfl (r_fill (c := [I n.no]) rfl (fin1 n.no _ _ h rfl rfl hs)))
  · exact r_padd (r_ld (b := p2) (o := 0) hs rfl (r_fill (c := [I n.no]) rfl (fin1 n.no _ _ h rfl rfl hs)))
  · exact r_padd (r_ld (b := p2) (o := 0) hs rfl (r_fill (c := [I n.no]) rfl (fin1 n.no _ _ h rfl rfl hs)))
  · refine r_padd (r_idxA (by omega) (by omega) (r_ld (b := p2) (o := 0) hs rfl (r_padd (r_idxA (by omega) (by omega) (r_ld (b := p2) (o := 0) hs rfl (r_fill (c := [I n.d0, I n.d1]) rfl (r_newS hs rfl rfl rfl ?_)))))))
    intro a2 h hs
    refine r_appS (hs.front2 (slc 1 3 a c (done.length, done.map I)) (slc 1 3 (some a2) 2 (2, [I n.d0, I n.d1]))) (by omega) ?_
    intro a3 c3 h hs
    dsimp only
    refine r_addI (by omega) ?_
    have hv : valS n (UInt8.toNat 100) = [n.d0, n.d1] := rfl
    rw [hv] at hk
    have := fun x => hk h a3 c3 (sp [slc 1 3 (some a2) 2 (2, [I n.d0, I n.d1]), g]) x (by
      rw [List.length_append, List.map_append]
      simp only [List.length_cons, List.length_nil, Nat.zero_add, List.map_cons, List.map_nil]
      exact hs.to)
    rw [List.length_append] at this
    exact this _
  · refine r_padd (r_ld (b := p2) (o := 0) hs rfl (r_brb (fun hb => b25_20 (r_fill (c := [I 1]) rfl (fin1 1 _ _ h ?_ rfl hs))) (fun hb => b25_21 (r_fill (c := [I 0]) rfl (fin1 0 _ _ h ?_ rfl hs)))))
    · show [if n.dirty = true then (1 : Int) else 0] = [1]; rw [if_pos hb]
    · show [if n.dirty = true then (1 : Int) else 0] = [0]; rw [if_neg (by rw [hb]; decide)]
theorem vals_len {n : Note} {c : Nat} : (valS n c).length ≤ 2 := by
  unfold valS
  repeat' split
  all_goals simp
theorem numbers_ok {n : Note} (hkk : isK n.kind) {Q : Value → AH → Prop} (hs : Hs G h L) (hk : ∀ h' a c, Hs G h' (slc 1 3 a c ((numsN n).length, (numsN n).map I) :: L) → Q (.slice a (numsN n).length c) h') : Cl Pr K 25 [.agg ⟨n.enc⟩] h Q := by
  refine c25 (b25_0 (r_bx hs ?_))
  intro p2 h hs
  refine r_padd (r_ld hs rfl (fields3_ok hs fun h hs => ?_))
  rw [if_pos hkk]
  obtain ⟨m, hm, hm1, hm2⟩ := k_of hkk
  have hmt : n.kind.toNat = m := by omega
  have hin : ∀ c ∈ fldS n.kind.toNat, c ∈ ([99, 108, 119, 116, 115, 103, 111, 112, 110, 98, 100, 120] : List UInt8) := by rw [hmt]; exact fldS_in hm2
  have hfl : (fldS n.kind.toNat).length ≤ 6 := by
    rw [hmt]
    rcases k14 hm2 with rfl | rfl | rfl | rfl | rfl | rfl | rfl | rfl | rfl | rfl | rfl | rfl | rfl | rfl <;> decide
  have loop : ∀ (f i : Nat) (h : AH) (a : Option Addr) (c : Nat) (done : List Int) (g : HP) (x : Value), i + f = (fldS n.kind.toNat).length → done = ((fldS n.kind.toNat).take i).flatMap (fun c => valS n c.toNat) → done.length ≤ 2 * i →
      Hs G h (slc 1 3 a c (done.length, done.map I) :: seg p2 0 n.enc :: g :: L) → A25_1 Q (pt p2 0 0) (tx (fldS n.kind.toNat)) (.slice a done.length c) (I i) x h := by
    intro f
    induction f with
    | zero =>
      intro i h a c done g x hi hd hdl hs
      rw [List.take_of_length_le (by omega)] at hd
      have hd : done = numsN n := hd
      subst hd
      exact b25_1 (r_lenT (r_ltI (r_brF (by omega) (hk h a c hs.to))))
    | succ f ih =>
      intro i h a c done g x hi hd hdl hs
      have hil : i < (fldS n.kind.toNat).length := by omega
      refine b25_1 (r_lenT (r_ltI (r_brT (by omega) (nums_step hil (by omega) (hin _ (List.getElem_mem hil)) (by omega) hs fun h' a' c' g' x hs => ?_))))
      refine ih (i + 1) h' a' c' _ g' x (by omega) ?_ ?_ hs
      · rw [List.take_succ_eq_append_getElem hil, List.flatMap_append, ← hd]
        simp
      · rw [List.length_append]
        have := vals_len (n := n) (c := ((fldS n.kind.toNat)[i]).toNat)
        omega
  exact loop (fldS n.kind.toNat).length 0 h none 0 [] (sp []) _ (by omega) (by simp) (by simp) (by simp only [List.length_nil, List.map_nil]; exact (slc_nil (W := 1) (e := 3) hs).to)
theorem print3_ok {n : Note} (hkk : isK n.kind) (hr : ∀ x ∈ [n.core, n.line, n.world, n.state, n.d0, n.d1, n.no], -9223372036854775808 ≤ x ∧ x ≤ 9223372036854775807) {Q : Value → AH → Prop} (hs : Hs G h L) (hk : ∀ h', Hs G h' L → Q (tx (txtN n)) h') : Cl Pr K 10 [.agg ⟨n.enc⟩] h Q := by
  refine c10 (b10_0 (r_bx hs ?_))
  intro p2 h hs
  refine r_padd (r_ld hs rfl (word3_ok hkk hs fun h hs => r_ldN (b := p2) (o := 0) hs (by decide) (l := n.enc) rfl rfl (numbers_ok hkk hs fun h a c hs => ?_)))
  obtain ⟨m, hm, hm1, hm2⟩ := k_of hkk
  have hmt : n.kind.toNat = m := by omega
  have hnm := nums_eq hkk
  have hwl := word_len hm2
  have hfl := flds_len hm2
  rw [← hmt] at hwl hfl
  have hrg : ∀ x ∈ numsN n, -9223372036854775808 ≤ x ∧ x ≤ 9223372036854775807 := by
    rw [hnm]
    intro x hx
    obtain ⟨f, hf, rfl⟩ := List.mem_map.1 hx
    exact get_range (by rw [hmt] at hf; exact flds_in hm2 f hf) hr
  have hnl : (numsN n).length ≤ 7 := by rw [hnm, List.length_map]; exact hfl
  have htx : wordK n.kind.toNat ++ (numsN n).flatMap (fun x => 32 :: Lib.itoa x) = txtN n := by
    rw [hnm]; unfold txtN txtF; rw [List.flatMap_map]
  have loop : ∀ (f i : Nat) (h : AH) (acc : List UInt8), i + f = (numsN n).length → acc = wordK n.kind.toNat ++ ((numsN n).take i).flatMap (fun x => 32 :: Lib.itoa x) → acc.length ≤ 7 + 21 * i →
      Hs G h (slc 1 3 a c ((numsN n).length, (numsN n).map I) :: seg p2 0 n.enc :: L) → A10_1 Q (tx acc) (.slice a (numsN n).length c) (I i) h := by
    intro f
    induction f with
    | zero =>
      intro i h acc hi hacc hal hs
      rw [List.take_of_length_le (by omega), htx] at hacc
      subst hacc
      exact b10_1 (r_lenS (r_ltI (r_brF (by omega) (hk h hs.tail.tail))))
    | succ f ih =>
      intro i h acc hi hacc hal hs
      have hil : i < (numsN n).length := by omega
      have hx := hrg _ (List.getElem_mem hil)
      have hxl := itoa_len hx
      refine b10_1 (r_lenS (r_ltI (r_brT (by omega) (b10_2 (r_catT (b := [32]) (by simp; omega) ?_)))))
      obtain ⟨b, o, ha, H, hs2, _⟩ := hs.slcOpen (by omega)
      rw [ha]
      refine r_idxN hil (r_ldI hs2 (v := I (numsN n)[i]) (by rw [Nat.mul_one, Nat.add_zero, List.getElem?_map, List.getElem?_eq_getElem hil]; rfl) ?_)
      rw [← ha]
      refine dec_ok hx hs fun h hs => r_catT (by simp; omega) (r_addI (by omega) (ih (i + 1) h _ (by omega) ?_ ?_ hs))
      · rw [List.take_succ_eq_append_getElem hil, List.flatMap_append, hacc]
        simp
      · simp; omega
  exact loop (numsN n).length 0 h (wordK n.kind.toNat) (by omega) (by simp) (by omega) hs
theorem prints_ok {C : Cfg} {n : Note} {Q : Value → AH → Prop} (hr : ∀ x ∈ [n.core, n.line, n.world, n.state, n.d0, n.d1, n.no], -9223372036854775808 ≤ x ∧ x ≤ 9223372036854775807) (hkd : Ob G 0 kindsE) (hl : Ob G 1 limE) (hs : Hs G h L) (hk : ∀ h', Q (.bool true) h') :
    Cl Pr K 3 [.agg ⟨C.enc⟩, .agg ⟨n.enc⟩] h Q := by
  refine c3 (b3_0 (r_bx hs ?_))
  intro p3 h hs
  refine r_bx hs ?_
  intro p4 h hs
  refine r_ldN (b := p3) (o := 0) hs (by decide) (l := C.enc) rfl rfl (r_ldN (b := p4) (o := 0) hs (by decide) (l := n.enc) rfl rfl (print_ok hr hkd hl hs fun h hs => r_ext rfl (r_ext rfl ?_)))
  refine r_ldN (b := p3) (o := 0) hs (by decide) (l := C.enc) rfl rfl (r_ldN (b := p4) (o := 0) hs (by decide) (l := n.enc) rfl rfl (chk_ok hkd hl hs fun h hs => r_neI (r_br (fun h0 => ?_) (fun h0 => ?_))))
  · rw [if_neg h0]
    exact r_eqTs (r_brt (r_eqI (r_brT rfl (awake_ok (hk _)))))
  · have h0 : chk C n = 0 := by simpa using h0
    rw [if_pos h0, h0]
    refine r_ldN (b := p4) (o := 0) hs (by decide) (l := n.enc) rfl rfl (print3_ok (chk0 h0).1 hr hs fun h hs => r_eqTs (r_brt (r_eqI (r_brT rfl (awake_ok (hk _))))))
end Go.Proofs.YtjchglfcndckhaaDoor
end
section
namespace Go.Proofs.YtjchglfcndckhaaDoor
open Go Go.Ab Go.Hm Go.Nt Go.RowKit
def powE : List Value := Lib.pow10Tab.map fun z => Value.int .u64 z
def Gl (w : World) : Prop := (∃ e z, w.heap[0]? = some (.cells ⟨kindsE⟩ e z)) ∧ (∃ e z, w.heap[1]? = some (.cells ⟨limE⟩ e z)) ∧ ∃ e z, w.heap[2]? = some (.cells ⟨powE⟩ e z)
theorem gl_ok {w : World} {e0 e1 : TypeId} {z0 z1 : Nat × Nat} (h0 : w.heap[0]? = some (.cells ⟨kindsE⟩ e0 z0)) (h1 : w.heap[1]? = some (.cells ⟨limE⟩ e1 z1)) : GlOk Pr 5 (glN e0 z0 e1 z1) w := by
  intro i o hi ho
  unfold glN at ho
  split at ho
  · rename_i e; subst e
    cases ho
    refine ⟨_, h0, fun ρ => ⟨⟨kindsE⟩, rfl, ?_, by simp, fun _ => rfl⟩⟩
    rw [List.drop_zero, List.take_of_length_le (by simp)]
    exact plainL_rel _ (by rfl)
  · split at ho
    · rename_i e; subst e
      cases ho
      refine ⟨_, h1, fun ρ => ⟨⟨limE⟩, rfl, ?_, by simp, fun _ => rfl⟩⟩
      rw [List.drop_zero, List.take_of_length_le (by simp)]
      exact plainL_rel _ (by rfl)
    · cases ho
theorem gl_keep {B : Nat} (hB : 3 ≤ B) {w w' : World} (h : Below B w w') : Gl w → Gl w' := fun ⟨⟨e, z, h0⟩, ⟨e', z', h1⟩, e2, z2, h2⟩ =>
  ⟨⟨e, z, (h.block 0 (by omega)).trans h0⟩, ⟨e', z', (h.block 1 (by omega)).trans h1⟩, e2, z2, (h.block 2 (by omega)).trans h2⟩
theorem gPow : Tryd.prog.globalNamed "internal/strconv.uint64pow10" = some 2 := by kernel_rfl
theorem below_grow {w : World} {n : Nat} {os : Array Obj} : Below w.heap.size w (Go.Sort.grow (w.drewN n) os) := ⟨rfl, rfl, rfl, by
  show w.heap.size ≤ (w.heap ++ os).size
  simp, fun k hk => by
  show (w.heap ++ os)[k]? = w.heap[k]?
  rw [Array.getElem?_append_left hk]⟩
noncomputable def ctx0 (B : Nat) (hB : 3 ≤ B) : Ctx Pr B K0 where
  G := Gl
  keep := fun w w' h => gl_keep hB h
  call := fun f args v w hk hg => by
    unfold K0 at hk
    split at hk
    · rename_i n
      split at hk
      · rename_i hn
        cases hk
        refine ⟨rfl, rfl, ?_⟩
        obtain ⟨_, _, e2, z2, h2⟩ := hg
        refine (Tryd.strconv_Itoa n hn.1 hn.2 w ?_).mono fun e w' ⟨he, k, os, hw⟩ => ⟨he, by rw [hw]; exact below_grow⟩
        simp only [Lib.TabIs, World.var?, gPow, Option.bind_some, h2]
        rfl
      · cases hk
    · cases hk
  fwd := fun f args g bs hk => by
    unfold K0 at hk
    split at hk
    · split at hk <;> cases hk
    · cases hk
theorem globals5 : Pr.globals.size = 5 := by kernel_rfl
theorem size_of {w : World} (h : Gl w) (h5 : 5 ≤ w.heap.size) : 3 ≤ w.heap.size := by omega
def GlS (w : World) : Prop := Gl w ∧ 5 ≤ w.heap.size
theorem awake_calls {w : World} (h5 : 5 ≤ w.heap.size) (hg : Gl w) : Calls Pr 9 #[] w fun e w' => e = .returned (.bool true) ∧ Below w.heap.size w w' := by
  have hg' := hg
  obtain ⟨⟨e0, z0, h0⟩, ⟨e1, z1, h1⟩, _⟩ := hg
  exact closed_call rfl (awake_run e0 z0 e1 z1) (ctx0 w.heap.size (by omega)) hg' (reads_of (gl := glN e0 z0 e1 z1) (rs := []) (g := 5) (by rw [globals5]; exact Nat.le_refl _) h5 (gl_ok h0 h1) (fun r hr => by cases hr))
noncomputable def ctx0S (B : Nat) (hB : 5 ≤ B) : Ctx Pr B K0 where
  G := fun w => Gl w ∧ 5 ≤ w.heap.size
  keep := fun w w' h hg => ⟨gl_keep (by omega) h hg.1, Nat.le_trans hg.2 h.size⟩
  call := fun f args v w hk hg => (ctx0 B (by omega)).call f args v w hk hg.1
  fwd := fun f args g bs hk ρ args' w ha hg => (ctx0 B (by omega)).fwd f args g bs hk ρ args' w ha hg.1
noncomputable def ctx (B : Nat) (hB : 5 ≤ B) : Ctx Pr B K := (ctx0S B hB).add 9 (.bool true) rfl fun w hg => awake_calls hg.2 hg.1
theorem own : ownKnob Tryd.prog.godebug = none := by kernel_rfl
theorem laidOut : laidOutB Tryd.prog = true := by kernel_rfl
theorem gKinds : Tryd.prog.globalNamed "donjon/note.kinds" = some 0 := by kernel_rfl
theorem gLim : Tryd.prog.globalNamed "donjon/place.limits" = some 1 := by kernel_rfl
theorem gBru : Tryd.prog.globalNamed "math/bits.deBruijn64tab" = some 4 := by kernel_rfl
theorem tKinds : (Tryd.prog.globals[0]?).map (·.type) = some 49 := by kernel_rfl
theorem tLim : (Tryd.prog.globals[1]?).map (·.type) = some 46 := by kernel_rfl
theorem tPow : (Tryd.prog.globals[2]?).map (·.type) = some 76 := by kernel_rfl
theorem tBru : (Tryd.prog.globals[4]?).map (·.type) = some 83 := by kernel_rfl
theorem gl_of {W : World} {l : List (String × DataW Unit)} (hp : (l.all fun x => x.2.handleName?.isNone) = true) (h : laidMetH Tryd.prog l W) (m0 : ("donjon/note.kinds", Rows.laid_donjon_note_kinds) ∈ l) (m1 : ("donjon/place.limits", Rows.laid_donjon_place_limits) ∈ l)
    (m2 : ("internal/strconv.uint64pow10", Rows.laid_internal_strconv_uint64pow10) ∈ l) (m4 : ("math/bits.deBruijn64tab", Rows.laid_math_bits_deBruijn64tab) ∈ l) : Gl W ∧ 5 ≤ W.heap.size := by
  obtain ⟨e0, z0, h0⟩ := laid_block (l := kindsE) 8 hp h m0 gKinds tKinds (by kernel_rfl)
  obtain ⟨e1, z1, h1⟩ := laid_block (l := limE) 8 hp h m1 gLim tLim (by kernel_rfl)
  obtain ⟨e2, z2, h2⟩ := laid_block (l := powE) 8 hp h m2 gPow tPow (by kernel_rfl)
  obtain ⟨e4, z4, h4⟩ := laid_block (l := ((cellsD Tryd.prog 8 83 (Rows.laid_math_bits_deBruijn64tab (H := Unit))).getD [])) 8 hp h m4 gBru tBru (by kernel_rfl)
  exact ⟨⟨⟨e0, z0, h0⟩, ⟨e1, z1, h1⟩, e2, z2, h2⟩, (Array.getElem?_eq_some_iff.1 h4).1⟩
theorem calls_law {W : World} (hL : Gl W ∧ 5 ≤ W.heap.size) {f : FuncId} {args : List Value} (hp : plainL args = true) (hok : ∀ (G : Bg) (h : AH), Ob G 0 kindsE → Ob G 1 limE → Hs G h [] → Cl Pr K f args h fun v _ => v = .bool true) :
    Calls Pr f ⟨args⟩ W fun e W' => e = .returned (.bool true) ∧ Below W.heap.size W W' := by
  have hL' := hL
  obtain ⟨⟨⟨e0, z0, h0⟩, ⟨e1, z1, h1⟩, _⟩, h5⟩ := hL
  have reads : Reads Pr (5 + ([] : List OB).length) (oldOf 5 (glN e0 z0 e1 z1) []) (rhoOf 5 []) W := reads_of (by rw [globals5]; exact Nat.le_refl _) h5 (gl_ok h0 h1) (fun r hr => by cases hr)
  have ok := hok ⟨5, oldOf 5 (glN e0 z0 e1 z1) []⟩ (Go.Ab.start 5 (oldOf 5 (glN e0 z0 e1 z1) [])) ⟨by show 0 < 5; omega, e0, z0, true, (oldOf_gl (g := 5) (i := 0) (gl := glN e0 z0 e1 z1) (rs := []) (by omega)).trans rfl⟩ ⟨by show 1 < 5; omega, e1, z1, true, (oldOf_gl (g := 5) (i := 1) (gl := glN e0 z0 e1 z1) (rs := []) (by omega)).trans rfl⟩ hs_start
  have := calls_of (ctx W.heap.size h5) hL' reads (args := args) (args' := args) (plainL_rel _ hp) ok
  intro cs
  obtain ⟨e, w', fr, ⟨ρ', o, h', v', he, hv', hq, _, hb⟩, hx⟩ := this cs
  rw [hq] at hv'
  simp only [VRel] at hv'
  exact ⟨e, w', fr, ⟨by rw [he, hv'], hb⟩, hx⟩
theorem cfgFlat : flatT Tryd.prog 8 23 = some [some .i64, some .i64, some .i64, some .i64, some .i64, some .i64, some .i64] := by kernel_rfl
theorem cfg_of {l : List Value} (h0 : Flat [some .i64, some .i64, some .i64, some .i64, some .i64, some .i64, some .i64] l) : ∃ C : Cfg, l = C.enc := by
  obtain ⟨a, l1, e1, h1⟩ := flat_int h0
  obtain ⟨b, l2, e2, h2⟩ := flat_int h1
  obtain ⟨c, l3, e3, h3⟩ := flat_int h2
  obtain ⟨d, l4, e4, h4⟩ := flat_int h3
  obtain ⟨e, l5, e5, h5⟩ := flat_int h4
  obtain ⟨f, l6, e6, h6⟩ := flat_int h5
  obtain ⟨g, l7, e7, h7⟩ := flat_int h6
  have e8 := flat_nil h7
  subst e8 e7 e6 e5 e4 e3 e2 e1
  exact ⟨⟨a, b, c, d, e, f, g⟩, rfl⟩
def noteKs : List (Option IntKind) := [some .i64, some .i64, some .i64, some .i64, some .i64, some .i64, some .i64, none, some .i64]
theorem noteFlat : flatT Tryd.prog 8 27 = some noteKs := by kernel_rfl
theorem note_of {l : List Value} (h0 : Flat noteKs l) : ∃ n : Note, l = n.enc := by
  obtain ⟨a, l1, e1, h1⟩ := flat_int h0
  obtain ⟨b, l2, e2, h2⟩ := flat_int h1
  obtain ⟨c, l3, e3, h3⟩ := flat_int h2
  obtain ⟨d, l4, e4, h4⟩ := flat_int h3
  obtain ⟨e, l5, e5, h5⟩ := flat_int h4
  obtain ⟨f, l6, e6, h6⟩ := flat_int h5
  obtain ⟨g, l7, e7, h7⟩ := flat_int h6
  obtain ⟨i, l8, e8, h8⟩ := flat_bool h7
  obtain ⟨j, l9, e9, h9⟩ := flat_int h8
  have e10 := flat_nil h9
  subst e10 e9 e8 e7 e6 e5 e4 e3 e2 e1
  exact ⟨⟨a, b, c, d, e, f, g, i, j⟩, rfl⟩
theorem note_ofW {l : List Value} (h0 : Flat noteKs l) : ∃ n : Note, l = n.enc ∧ ∀ x ∈ [n.core, n.line, n.world, n.state, n.d0, n.d1, n.no], -9223372036854775808 ≤ x ∧ x ≤ 9223372036854775807 := by
  obtain ⟨a, l1, e1, h1⟩ := flat_int h0
  obtain ⟨b, l2, e2, w2, h2⟩ := flat_intW h1
  obtain ⟨c, l3, e3, w3, h3⟩ := flat_intW h2
  obtain ⟨d, l4, e4, w4, h4⟩ := flat_intW h3
  obtain ⟨e, l5, e5, w5, h5⟩ := flat_intW h4
  obtain ⟨f, l6, e6, w6, h6⟩ := flat_intW h5
  obtain ⟨g, l7, e7, w7, h7⟩ := flat_intW h6
  obtain ⟨i, l8, e8, h8⟩ := flat_bool h7
  obtain ⟨j, l9, e9, w9, h9⟩ := flat_intW h8
  have e10 := flat_nil h9
  subst e10 e9 e8 e7 e6 e5 e4 e3 e2 e1
  refine ⟨⟨a, b, c, d, e, f, g, i, j⟩, rfl, fun x hx => ?_⟩
  simp only [List.mem_cons, List.not_mem_nil, or_false] at hx
  rcases hx with rfl | rfl | rfl | rfl | rfl | rfl | rfl
  · exact wf_i64 w2
  · exact wf_i64 w3
  · exact wf_i64 w4
  · exact wf_i64 w5
  · exact wf_i64 w6
  · exact wf_i64 w7
  · exact wf_i64 w9
theorem pairFlat : flatT Tryd.prog 8 24 = some [some .i64, some .i64] := by kernel_rfl
theorem pair_of {l : List Value} (h0 : Flat [some .i64, some .i64] l) : ∃ a b : Int, l = [I a, I b] := by
  obtain ⟨a, l1, e1, h1⟩ := flat_int h0
  obtain ⟨b, l2, e2, h2⟩ := flat_int h1
  have e3 := flat_nil h2
  subst e3 e2 e1
  exact ⟨a, b, rfl⟩
end Go.Proofs.YtjchglfcndckhaaDoor
end
section
namespace Go.Proofs.YtjchglfcndckhaaDoor
open Go Go.Ab Go.Hm Go.Nt Go.RowKit
theorem notePrints_door (os : Os) (args : Array Value) : laidMetH Tryd.prog Rows.notePrintsRow.laid ((World.doorLaid Tryd.prog 4000 os).forCall (fun _ _ => 0) ⟨#[], args, []⟩).memory :=
  laidMetH_of_parts3 (fuel := 8) (laidMet_of_run' 8 (by kernel_rfl) (by kernel_rfl)) (by kernel_rfl) (by kernel_rfl)
set_option maxRecDepth 100000 in
theorem notePrints_lifted (os : Os) (started : os.Started) (H : Type) (enc : TypeId × Value → H) :
    ReturnsInHanded {} Tryd.checked os 3 .any (fun w args => (Rows.notePrintsSpec.pre enc Tryd.prog Tryd.f3 [] false w args ∧ laidMetH Tryd.prog Rows.notePrintsRow.laid w) ∧ sizedMet enc Tryd.prog Tryd.f3 (OpenSpec.ofChange Rows.notePrintsSpec) false w args)
      (Rows.notePrintsSpec.post enc Tryd.prog Tryd.f3 false true false false) := by
  refine law_lifted (C := Tryd.checked) started own (by kernel_rfl) Tryd.func3 laidOut (by kernel_rfl) rfl Tryd.underlying4 rfl (fun ds hd => by
      match ds, hd with
      | [d1, d2], _ => rfl)
    (ChangeSpec.witness_shaped (enc := enc) (C := Tryd.checked) (os := os) (X := fun w _ => laidMetH Tryd.prog Rows.notePrintsRow.laid w) false (World.doorLaid Tryd.prog 4000 os) #[.agg #[.int .i64 0, .int .i64 0, .int .i64 0, .int .i64 0, .int .i64 0, .int .i64 0, .int .i64 0], .agg #[.int .i64 0, .int .i64 0, .int .i64 0, .int .i64 0, .int .i64 0, .int .i64 0, .int .i64 0, .bool false, .int .i64 0]] 8 rfl (World.shaped_of_RefB (by kernel_rfl) (by kernel_rfl)) (by kernel_rfl) (by kernel_rfl) (by kernel_rfl) (notePrints_door os _)) ?_
  intro W base args ds ps hA hval hL
  rw [show (Tryd.f3.params.toList) = [23, 27] from by rw [Tryd.params3]] at hA
  rw [Tryd.params3] at hval
  obtain ⟨v0, vs0, d0, ds0, p0, q0, rfl, rfl, rfl, h0, r0⟩ := ChangeShapes.trodAll_cons hA
  obtain ⟨v1, vs1, d1, ds1, p1, q1, rfl, rfl, rfl, h1, r1⟩ := ChangeShapes.trodAll_cons r0
  obtain ⟨rfl, rfl, rfl⟩ := ChangeShapes.trodAll_nil r1
  obtain ⟨l0, rfl, hl0⟩ := open_structF Tryd.underlying23 cfgFlat (hval 0 _ v0 rfl rfl) h0
  obtain ⟨x0, rfl⟩ := cfg_of hl0
  obtain ⟨l1, rfl, hl1⟩ := open_structF Tryd.underlying27 noteFlat (hval 1 _ v1 rfl rfl) h1
  obtain ⟨x1, rfl, hr1⟩ := note_ofW hl1
  exact calls_law (gl_of (by kernel_rfl) hL (by simp [Rows.notePrintsRow]) (by simp [Rows.notePrintsRow]) (by simp [Rows.notePrintsRow]) (by simp [Rows.notePrintsRow])) (args := [.agg ⟨x0.enc⟩, .agg ⟨x1.enc⟩]) rfl fun G h hkd hlim hs => prints_ok hr1 hkd hlim hs (fun _ => rfl)
theorem notePrints_over : Rows.notePrintsRow.holds Tryd.pinned (OpenSpec.ofChange Rows.notePrintsSpec) :=
  OpenClaim.holds_of_wide 3 Tryd.f3 rfl rfl rfl rfl rfl rfl rfl ⟨rfl, rfl, rfl, rfl, rfl⟩ rfl rfl rfl rfl rfl (by kernel_rfl) Tryd.func3 (by kernel_rfl)
    (of_decide_eq_true (by kernel_rfl)) (by unfold Func.isWrapper; first | (rw [if_pos (by decide +kernel)]; kernel_rfl) | (rw [if_neg (by decide +kernel)]; exact ⟨rfl, rfl⟩))
    (fun os started H enc _ => notePrints_lifted os started H enc)
/-- ████ THE STATEMENT ████ -/
theorem notePrints_proved : Rows.NotePrintsCardSaid :=
  Claim7.holds_tied_plain_at .later [] Rows.notePrintsCard.laidKinds true Rows.notePrintsCard.stood.harness false
    notePrints_over (fun _ h => by cases h) (by kernel_rfl) (fun _ h => by cases h) notePrints_row_tie rfl ⟨rfl, rfl⟩ (by kernel_rfl) rfl
    (fun f fn hf hfn => by
      obtain rfl : f = 3 := Option.some.inj ((show Tryd.prog.funcNamed "donjon/donjonlaw03.NotePrints" = some 3 by kernel_rfl).symm.trans hf) |>.symm
      obtain rfl : fn = Tryd.f3 := (Option.some.inj (Tryd.func3.symm.trans hfn)).symm
      exact ⟨by kernel_rfl, fun j t ht => by
        rw [Tryd.params3] at ht
        have hm : t ∈ [23, 27] := by simpa using Array.mem_of_getElem? ht
        have hall : ([23, 27].all fun u => !Tryd.prog.wantsStandIn u) = true := by kernel_rfl
        exact (show Tryd.prog.wantsStandIn t = false by simpa using List.all_eq_true.1 hall t hm)⟩)
    (by kernel_rfl)
end Go.Proofs.YtjchglfcndckhaaDoor
end
