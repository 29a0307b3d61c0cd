/- NoteMore: for every input the law answers true, and each argument reads afterwards as it read before. No condition but the listed variables' text. -/
import Derived.Test.YtjchglfcndckhaaDoorB6
import Derived.Test.YtjchglfcndckhaaDoorB7
import Derived.Test.YtjchglfcndckhaaDoorB8
import Derived.Test.YtjchglfcndckhaaDoorB9
import Derived.Test.YtjchglfcndckhaaDoorTie
import Derived.Test.YtjchglfcndckhaaDoorCards
import Derived.LaidMore
import Derived.SevenTiedAt
section
namespace Go.Proofs.YtjchglfcndckhaaDoor
open Go Go.Ab Go.Hm Go.Nt
/-- the text of some fields -/
def txtF (n : Note) (fs : List Int) : List UInt8 := fs.flatMap fun f => 32 :: Lib.itoa (getN n f)
def txtN (n : Note) : List UInt8 := wordK n.kind.toNat ++ txtF n (flds n.kind.toNat)
theorem nDigits_le : ∀ (k u : Nat), u < 10 ^ (k + 1) → Lib.nDigits u ≤ k + 1
  | 0, u, h => by rw [Lib.nDigits_small (by simpa using h)]; exact Nat.le_refl _
  | k + 1, u, h => by
    by_cases h1 : u < 10
    · rw [Lib.nDigits_small h1]; omega
    · rw [Lib.nDigits_big h1]
      have := nDigits_le k (u / 10) (by rw [Nat.pow_succ] at h; omega)
      omega
theorem itoa_len {n : Int} (h : -9223372036854775808 ≤ n ∧ n ≤ 9223372036854775807) : (Lib.itoa n).length ≤ 20 := by
  unfold Lib.itoa
  split
  · rw [List.length_cons, Lib.decDigits_length]
    have := nDigits_le 18 n.natAbs (by omega)
    omega
  · rw [Lib.decDigits_length]
    have := nDigits_le 18 n.toNat (by omega)
    omega
theorem txtF_len {n : Note} : ∀ (fs : List Int), (∀ f ∈ fs, -9223372036854775808 ≤ getN n f ∧ getN n f ≤ 9223372036854775807) → (txtF n fs).length ≤ fs.length * 21
  | [], _ => by simp [txtF]
  | f :: fs, h => by
    have h1 := itoa_len (h f List.mem_cons_self)
    have h2 := txtF_len fs fun g hg => h g (List.mem_cons_of_mem _ hg)
    have : txtF n (f :: fs) = 32 :: Lib.itoa (getN n f) ++ txtF n fs := rfl
    rw [this, List.length_append, List.length_cons, List.length_cons]
    omega
theorem str_append {a b : List UInt8} : (⟨a.toArray⟩ : ByteArray) ++ ⟨b.toArray⟩ = ⟨(a ++ b).toArray⟩ := by
  apply ByteArray.ext
  rw [ByteArray.data_append]
  simp
theorem r_catT {a b : List UInt8} {k : Value → Prop} (h : a.length + b.length ≤ 2 ^ 62) (hk : k (.string ⟨(a ++ b).toArray⟩)) : thn (biT .add (.string ⟨a.toArray⟩) (.string ⟨b.toArray⟩)) k := by
  refine ⟨_, ?_, hk⟩
  show astr .add _ _ = _
  have : (⟨a.toArray⟩ : ByteArray).size + (⟨b.toArray⟩ : ByteArray).size = a.length + b.length := rfl
  simp only [astr]
  rw [if_pos (by rw [this]; exact h), str_append]
theorem r_eqTs {s : ByteArray} {k : Value → Prop} (hk : k (.bool true)) : thn (biT .eql (.string s) (.string s)) k := ⟨_, by show astr .eql _ _ = _; simp [astr], hk⟩
theorem veq_T {s : ByteArray} : veq (.string s) (.string s) = true := by simp only [veq]; unfold BEq.beq ByteArray.instBEq ByteArray.beq; simp
theorem get_range {n : Note} {f : Int} (hf : 1 ≤ f ∧ f ≤ 13) (h : ∀ x ∈ [n.core, n.line, n.world, n.state, n.d0, n.d1, n.no], -9223372036854775808 ≤ x ∧ x ≤ 9223372036854775807) : -9223372036854775808 ≤ getN n f ∧ getN n f ≤ 9223372036854775807 := by
  rcases f13 hf with rfl | rfl | rfl | rfl | rfl | rfl | rfl | rfl | rfl | rfl | rfl | rfl | rfl
  · exact h n.core (by simp)
  · exact h n.line (by simp)
  · exact h n.world (by simp)
  · exact h n.world (by simp)
  · exact h n.state (by simp)
  · exact h n.state (by simp)
  · exact h n.state (by simp)
  · exact h n.d0 (by simp)
  · exact h n.d1 (by simp)
  · show -9223372036854775808 ≤ (if n.dirty = true then (1 : Int) else 0) ∧ (if n.dirty = true then (1 : Int) else 0) ≤ 9223372036854775807
    split <;> omega
  · exact h n.no (by simp)
  · exact h n.no (by simp)
  · exact h n.no (by simp)
theorem flds_len {k : Nat} (h : k < 14) : (flds k).length ≤ 7 := by
  rcases k14 h with rfl | rfl | rfl | rfl | rfl | rfl | rfl | rfl | rfl | rfl | rfl | rfl | rfl | rfl <;> decide
theorem word_len {k : Nat} (h : k < 14) : (wordK k).length ≤ 7 := by
  rcases k14 h with rfl | rfl | rfl | rfl | rfl | rfl | rfl | rfl | rfl | rfl | rfl | rfl | rfl | rfl <;> decide
theorem itoa_known {n : Int} (h : -9223372036854775808 ≤ n ∧ n ≤ 9223372036854775807) : K 18 [I n] = some (.val (.string ⟨(Lib.itoa n).toArray⟩)) := by
  show K0 18 [I n] = _
  show (if _ then _ else _) = _
  rw [if_pos h]
attribute [local irreducible] thn Br ld1 ldN stV alc alcAt alcS alcSAt resv padd nilV extV part1 partN lenS lenT biI biT biB biP biS biF biE biA unV idxS idxA pickV appV copyV clearV slS slA slT mkS blkOf at1 atN atS convI convS minV maxV Cl OkF OkR EndX endV beginV defersOf setLoop closeMarks
variable {G : Bg} {h : AH} {L L' : List HP}
theorem itoa_ok {n : Int} {Q : Value → AH → Prop} (h1 : -9223372036854775808 ≤ n ∧ n ≤ 9223372036854775807) (hk : Q (.string ⟨(Lib.itoa n).toArray⟩) h) : Cl Pr K 18 [I n] h Q := by
  unfold Cl
  exact ok_known (itoa_known h1) hk
def pnI (n : Note) (p3 p7 l d : Nat) (e : Nat → Value) (rest : List (List Value)) : HP := exH fun x : List Int × List Int =>
  sp [puH (rest = x.2.map fun f => [I f]), puH (x.1 ++ x.2 = flds n.kind.toNat), lpT Pr 7 (dcd 122) 32 e d l (.ready, none), seg p3 0 n.enc, seg p7 0 [.string ⟨(wordK n.kind.toNat ++ txtF n x.1).toArray⟩]]
theorem pnIn {n : Note} {p3 p7 l d : Nat} {e : Nat → Value} {rest : List (List Value)} (done fs : List Int) (h1 : rest = fs.map fun f => [I f]) (h2 : done ++ fs = flds n.kind.toNat)
    (hs : Hs G h (sp [lpT Pr 7 (dcd 122) 32 e d l (.ready, none), seg p3 0 n.enc, seg p7 0 [.string ⟨(wordK n.kind.toNat ++ txtF n done).toArray⟩]] :: L)) : Hs G h (pnI n p3 p7 l d e rest :: L) :=
  Hs.exI (A := fun x : List Int × List Int => sp [puH (rest = x.2.map fun f => [I f]), puH (x.1 ++ x.2 = flds n.kind.toNat), lpT Pr 7 (dcd 122) 32 e d l (.ready, none), seg p3 0 n.enc, seg p7 0 [.string ⟨(wordK n.kind.toNat ++ txtF n x.1).toArray⟩]]) (done, fs) (sp_pu h1 (sp_pu h2 hs))
theorem pnOut {n : Note} {p3 p7 l d : Nat} {e : Nat → Value} {rest : List (List Value)} (hs : Hs G h (pnI n p3 p7 l d e rest :: L)) : ∃ done fs, (rest = fs.map fun f => [I f]) ∧ done ++ fs = flds n.kind.toNat ∧
    Hs G h (lpT Pr 7 (dcd 122) 32 e d l (.ready, none) :: seg p3 0 n.enc :: seg p7 0 [.string ⟨(wordK n.kind.toNat ++ txtF n done).toArray⟩] :: L) := by
  obtain ⟨⟨done, fs⟩, hs⟩ := Hs.exE hs
  obtain ⟨h1, hs⟩ := sp_puE hs
  obtain ⟨h2, hs⟩ := sp_puE hs
  exact ⟨done, fs, h1, h2, hs.unpack⟩
theorem print_ok {C : Cfg} {n : Note} {Q : Value → AH → Prop} (hr : ∀ x ∈ [n.core, n.line, n.world, n.state, n.d0, n.d1, n.no], -9223372036854775808 ≤ x ∧ x ≤ 9223372036854775807) (hkd : Ob G 0 kindsE) (hl : Ob G 1 limE) (hs : Hs G h L)
    (hk : ∀ h', Hs G h' L → Q (.tuple ⟨[.string ⟨(if chk C n = 0 then txtN n else []).toArray⟩, I (chk C n)]⟩) h') : Cl Pr K 7 [.agg ⟨C.enc⟩, .agg ⟨n.enc⟩] h Q := by
  refine c7 (b7_0 (r_bx hs ?_))
  intro p2 h hs
  refine r_bx hs ?_
  intro p3 h hs
  refine r_ldN (b := p2) (o := 0) hs (by decide) (l := C.enc) rfl rfl (r_ldN (b := p3) (o := 0) hs (by decide) (l := n.enc) rfl rfl (chk_ok hkd hl hs fun h hs => r_neI (r_br (fun h0 => r_cm0 ?_) (fun h0 => ?_))))
  · have := hk h hs.to
    rwa [if_neg h0] at this
  have h0 : chk C n = 0 := by simpa using h0
  rw [if_pos h0, h0] at hk
  obtain ⟨h1, _⟩ := chk0 h0
  obtain ⟨m, hm, hm1, hm2⟩ := k_of h1
  have hmt : n.kind.toNat = m := by omega
  refine b7_1 (r_padd (r_ld hs rfl ?_))
  rw [hm]
  refine r_idxAg hm2 (r_padd (r_ldo hs hkd (o := m * 9) (j := 0) (kinds_word hm2) (r_new hs ?_)))
  intro p7 h hs
  refine r_stW hs rfl rfl rfl rfl ?_
  intro h hs
  refine r_padd (r_ld (b := p3) (o := 0) hs rfl ?_)
  rw [hm]
  refine fields_ok hs fun p h hs => r_marks hs fun d h hs => ?_
  intro e he
  refine r_loop hs fun l h hs => ?_
  refine r_okR (by kernel_rfl) ?_
  have hin := flds_in (k := m) hm2
  have hst : Hs G h (seg p 0 [I m] :: pnI n p3 p7 l d e ((flds m).map fun f => [I f]) :: mk d () :: L) := by
    refine Hs.at2 (pnIn [] (flds m) rfl (by rw [hmt]; rfl) ?_)
    rw [hmt]
    simp only [txtF, List.flatMap_nil, List.append_nil]
    exact hs.to
  clear hs
  refine fields_y hkd hm2 _ (puH False) _ _ h _ hst ?_ ?_ ?_
  · intro x rest h M hs
    obtain ⟨done, fs, h1, h2, hq⟩ := pnOut hs
    clear hs
    cases fs with
    | nil => cases h1
    | cons f fs =>
      simp only [List.map_cons, List.cons.injEq] at h1
      obtain ⟨rfl, rfl⟩ := h1
      have hfin : f ∈ flds m := by rw [← hmt, ← h2]; simp
      have hf := hin f hfin
      have hg := get_range hf hr
      have hlen : (wordK n.kind.toNat ++ txtF n done).length ≤ 200 := by
        have a1 := word_len hm2
        have a2 := flds_len hm2
        have a3 := txtF_len (n := n) done fun g hg => get_range (hin g (by rw [← hmt, ← h2]; simp [hg])) hr
        have a4 : done.length ≤ (flds m).length := by rw [← hmt, ← h2]; simp
        rw [List.length_append, hmt]; omega
      have hil := itoa_len hg
      refine r7_0 (r_atv hq) he (b7_2 ?_)
      refine r_beginv hq fun h hs => r_resv hs ?_
      intro rv h hs
      refine r_ld hs rfl (r_ldN (b := p3) (o := 0) hs (by decide) (l := n.enc) rfl rfl (get_ok hf hs fun h' hs' => itoa_ok hg ?_))
      refine r_catT (a := [32]) (by simp; omega) (r_catT (by have e : ([32] ++ Lib.itoa (getN n f)).length = (Lib.itoa (getN n f)).length + 1 := (by simp [Nat.add_comm]); omega) ?_)
      have hs2 := hs'
      refine r_stW hs' rfl rfl rfl rfl ?_
      intro h'' hs
      refine r_fl (r_ld hs2 rfl veq_T) (r_fl (r_ld hs2 rfl veq_T) (r_setv hs fun h hs => .inl ⟨rfl, ?_⟩))
      refine pnIn (done ++ [f]) fs rfl (by rw [← h2]; simp) ?_
      have e1 : wordK n.kind.toNat ++ txtF n (done ++ [f]) = wordK n.kind.toNat ++ txtF n done ++ ([32] ++ Lib.itoa (getN n f)) := by
        simp [txtF]
      rw [e1]
      exact hs.to
  · intro v h' hs
    obtain ⟨done, fs, h1, h2, hs⟩ := pnOut hs.at2
    cases fs with
    | cons f fs => cases h1
    | nil =>
      rw [List.append_nil] at h2
      subst h2
      refine r_endv hs fun h' hs => r_endN ?_
      refine r_ld hs rfl (r_cm1 hs fun h' hs => r_cm0 (hk h' hs.to))
  · intro v h' hs
    exact (Hs.puE (hs.at2)).1.elim
end Go.Proofs.YtjchglfcndckhaaDoor
end
section
namespace Go.Proofs.YtjchglfcndckhaaDoor
open Go Go.Ab Go.Hm Go.Nt
theorem may_mono {C D : Cfg} (hC : C.Ok) (hD : D.Ok) (h1 : C.cores ≤ D.cores) (h2 : C.granules ≤ D.granules) {f v : Int} (h : mayP C f v) : mayP D f v := by
  have e1 := (Cfg.lines_eq hC).1
  have e2 := (Cfg.lines_eq hD).1
  unfold mayP at h ⊢
  repeat' split
  all_goals simp_all
  all_goals omega
theorem walk_mono {C D : Cfg} (hC : C.Ok) (hD : D.Ok) (h1 : C.cores ≤ D.cores) (h2 : C.granules ≤ D.granules) {n : Note} : ∀ (fs : List Int) (a : Note), (walkN C n fs a).1 = true → walkN D n fs a = walkN C n fs a
  | [], _, _ => rfl
  | f :: fs, a, h => by
    unfold walkN at h ⊢
    by_cases hm : mayP C f (getN n f)
    · rw [if_pos hm] at h ⊢
      rw [if_pos (may_mono hC hD h1 h2 hm)]
      exact walk_mono hC hD h1 h2 fs _ h
    · rw [if_neg hm] at h; cases h
theorem chk_mono {C D : Cfg} (hC : C.Ok) (hD : D.Ok) (h1 : C.cores ≤ D.cores) (h2 : C.granules ≤ D.granules) {n : Note} : (chk C n = 0 → chk D n = 0) ∧ (chk C n ≠ 0 → chk D n = 0 ∨ chk D n = chk C n) := by
  constructor
  · intro h
    obtain ⟨k, _⟩ := chk0 h
    unfold chk at h ⊢
    rw [if_pos k, if_pos hC] at h
    rw [if_pos k, if_pos hD]
    split at h
    · rename_i h3
      rw [walk_mono hC hD h1 h2 _ _ h3.1, if_pos h3]
    · omega
  · intro h
    by_cases k : isK n.kind
    · have e := chk10 k hC h
      by_cases h' : chk D n = 0
      · exact .inl h'
      · exact .inr ((chk10 k hD h').trans e.symm)
    · right
      unfold chk
      rw [if_neg k, if_neg k]
def clip (m x : Int) : Int := if (if x < m then x else m) > 0 then (if x < m then x else m) else 0
theorem clip_ge {m x : Int} (h : 0 ≤ m) : 0 ≤ clip m x ∧ clip m x ≤ m := by unfold clip; split <;> split <;> omega
theorem r_clip {m x : Int} {k : Value → Prop} (hk : k (I (clip m x))) : thn (minV (I m) (I x)) fun v => thn (maxV (I 0) v) k := ⟨_, rfl, ⟨_, rfl, hk⟩⟩
attribute [local irreducible] thn Br ld1 ldN stV alc alcAt alcS alcSAt resv padd nilV extV part1 partN lenS lenT biI biT biB biP biS biF biE biA unV idxS idxA pickV appV copyV clearV slS slA slT mkS blkOf at1 atN atS convI convS minV maxV Cl OkF OkR EndX endV beginV defersOf setLoop closeMarks
variable {G : Bg} {h : AH} {L L' : List HP}
theorem more_ok {C : Cfg} {n : Note} {x y : Int} {Q : Value → AH → Prop} (hr : ∀ x ∈ [n.core, n.line, n.world, n.state, n.d0, n.d1, n.no], -9223372036854775808 ≤ x ∧ x ≤ 9223372036854775807) (hkd : Ob G 0 kindsE) (hl : Ob G 1 limE) (hs : Hs G h L) (hk : ∀ h', Q (.bool true) h') :
    Cl Pr K 4 [.agg ⟨C.enc⟩, .agg ⟨n.enc⟩, .agg ⟨[I x, I y]⟩] h Q := by
  refine c4 (b4_0 (r_bx hs ?_))
  intro p3 h hs
  refine r_bx hs ?_
  intro p4 h hs
  refine r_bx hs ?_
  intro p8 h hs
  refine r_ldN (b := p3) (o := 0) hs (by decide) (l := C.enc) rfl rfl (r_new hs ?_)
  intro p7 h hs
  refine r_stW hs rfl rfl rfl rfl ?_
  intro h hs
  refine r_padd (r_ld (b := p3) (o := 0) hs rfl (r_idxA (by omega) (by omega) (r_ld (b := p8) (o := 0) hs rfl (r_clip (r_addW (r_padd (r_sto hs rfl rfl rfl rfl ?_)))))))
  intro h hs
  refine r_padd (r_ld (b := p3) (o := 0) hs rfl (r_idxA (by omega) (by omega) (r_ld (b := p8) (o := 0) hs rfl (r_clip (r_addW (r_padd (r_sto hs rfl rfl rfl rfl ?_)))))))
  intro h hs
  refine r_ldN (b := p3) (o := 0) hs (by decide) (l := C.enc) rfl rfl (mayC_ok hs fun h hs => r_not (r_brn (r_br (fun hC => ?_) (fun hC => awake_ok (hk _)))))
  refine r_ldN (b := p7) (o := 0) hs (by decide) (l := ({ C with cores := wr (C.cores + clip 3 x), granules := wr (C.granules + clip 15 y) } : Cfg).enc) rfl rfl (mayC_ok hs fun h hs => r_not (r_brn (r_br (fun hD => ?_) (fun hD => awake_ok (hk _)))))
  have c1 := clip_ge (m := 3) (x := x) (by omega)
  have c2 := clip_ge (m := 15) (x := y) (by omega)
  have w1 : wr (C.cores + clip 3 x) = C.cores + clip 3 x := wr_in (by have := hC.1; omega)
  have w2 : wr (C.granules + clip 15 y) = C.granules + clip 15 y := wr_in (by have := hC.2.1; omega)
  rw [w1, w2] at hD
  rw [w1, w2] at hs
  have hm := chk_mono (C := C) (D := { C with cores := C.cores + clip 3 x, granules := C.granules + clip 15 y }) (n := n) hC hD (by show C.cores ≤ C.cores + clip 3 x; omega) (by show C.granules ≤ C.granules + clip 15 y; omega)
  refine b4_1 (r_ldN (b := p3) (o := 0) hs (by decide) (l := C.enc) rfl rfl (r_ldN (b := p4) (o := 0) hs (by decide) (l := n.enc) rfl rfl (print_ok hr hkd hl hs fun h hs => r_ext rfl (r_ext rfl ?_))))
  refine r_ldN (b := p7) (o := 0) hs (by decide) (l := ({ C with cores := C.cores + clip 3 x, granules := C.granules + clip 15 y } : Cfg).enc) rfl rfl (r_ldN (b := p4) (o := 0) hs (by decide) (l := n.enc) rfl rfl (print_ok hr hkd hl hs fun h hs => r_ext rfl (r_ext rfl ?_)))
  refine r_neI (r_br (fun h0 => ?_) (fun h0 => ?_))
  · rw [if_neg h0]
    refine r_eqTs (r_brt (r_eqI (r_br (fun h2 => awake_ok (hk _)) (fun h2 => r_eqI (r_brT ?_ (awake_ok (hk _)))))))
    exact (hm.2 h0).resolve_left h2
  · have h0 : chk C n = 0 := by simpa using h0
    rw [if_pos h0, hm.1 h0, if_pos rfl]
    exact r_eqI (r_brT rfl (r_eqTs (r_brt (awake_ok (hk _)))))
end Go.Proofs.YtjchglfcndckhaaDoor
end
section
namespace Go.Proofs.YtjchglfcndckhaaDoor
open Go Go.Ab Go.Hm Go.Nt Go.RowKit
def powE : List Value := Lib.pow10Tab.map fun z => Value.int .u64 z
def Gl (w : World) : Prop := (∃ e z, w.heap[0]? = some (.cells ⟨kindsE⟩ e z)) ∧ (∃ e z, w.heap[1]? = some (.cells ⟨limE⟩ e z)) ∧ ∃ e z, w.heap[2]? = some (.cells ⟨powE⟩ e z)
theorem gl_ok {w : World} {e0 e1 : TypeId} {z0 z1 : Nat × Nat} (h0 : w.heap[0]? = some (.cells ⟨kindsE⟩ e0 z0)) (h1 : w.heap[1]? = some (.cells ⟨limE⟩ e1 z1)) : GlOk Pr 5 (glN e0 z0 e1 z1) w := by
  intro i o hi ho
  unfold glN at ho
  split at ho
  · rename_i e; subst e
    cases ho
    refine ⟨_, h0, fun ρ => ⟨⟨kindsE⟩, rfl, ?_, by simp, fun _ => rfl⟩⟩
    rw [List.drop_zero, List.take_of_length_le (by simp)]
    exact plainL_rel _ (by rfl)
  · split at ho
    · rename_i e; subst e
      cases ho
      refine ⟨_, h1, fun ρ => ⟨⟨limE⟩, rfl, ?_, by simp, fun _ => rfl⟩⟩
      rw [List.drop_zero, List.take_of_length_le (by simp)]
      exact plainL_rel _ (by rfl)
    · cases ho
theorem gl_keep {B : Nat} (hB : 3 ≤ B) {w w' : World} (h : Below B w w') : Gl w → Gl w' := fun ⟨⟨e, z, h0⟩, ⟨e', z', h1⟩, e2, z2, h2⟩ =>
  ⟨⟨e, z, (h.block 0 (by omega)).trans h0⟩, ⟨e', z', (h.block 1 (by omega)).trans h1⟩, e2, z2, (h.block 2 (by omega)).trans h2⟩
theorem gPow : Tryd.prog.globalNamed "internal/strconv.uint64pow10" = some 2 := by kernel_rfl
theorem below_grow {w : World} {n : Nat} {os : Array Obj} : Below w.heap.size w (Go.Sort.grow (w.drewN n) os) := ⟨rfl, rfl, rfl, by
  show w.heap.size ≤ (w.heap ++ os).size
  simp, fun k hk => by
  show (w.heap ++ os)[k]? = w.heap[k]?
  rw [Array.getElem?_append_left hk]⟩
noncomputable def ctx0 (B : Nat) (hB : 3 ≤ B) : Ctx Pr B K0 where
  G := Gl
  keep := fun w w' h => gl_keep hB h
  call := fun f args v w hk hg => by
    unfold K0 at hk
    split at hk
    · rename_i n
      split at hk
      · rename_i hn
        cases hk
        refine ⟨rfl, rfl, ?_⟩
        obtain ⟨_, _, e2, z2, h2⟩ := hg
        refine (Tryd.strconv_Itoa n hn.1 hn.2 w ?_).mono fun e w' ⟨he, k, os, hw⟩ => ⟨he, by rw [hw]; exact below_grow⟩
        simp only [Lib.TabIs, World.var?, gPow, Option.bind_some, h2]
        rfl
      · cases hk
    · cases hk
  fwd := fun f args g bs hk => by
    unfold K0 at hk
    split at hk
    · split at hk <;> cases hk
    · cases hk
theorem globals5 : Pr.globals.size = 5 := by kernel_rfl
theorem size_of {w : World} (h : Gl w) (h5 : 5 ≤ w.heap.size) : 3 ≤ w.heap.size := by omega
def GlS (w : World) : Prop := Gl w ∧ 5 ≤ w.heap.size
theorem awake_calls {w : World} (h5 : 5 ≤ w.heap.size) (hg : Gl w) : Calls Pr 9 #[] w fun e w' => e = .returned (.bool true) ∧ Below w.heap.size w w' := by
  have hg' := hg
  obtain ⟨⟨e0, z0, h0⟩, ⟨e1, z1, h1⟩, _⟩ := hg
  exact closed_call rfl (awake_run e0 z0 e1 z1) (ctx0 w.heap.size (by omega)) hg' (reads_of (gl := glN e0 z0 e1 z1) (rs := []) (g := 5) (by rw [globals5]; exact Nat.le_refl _) h5 (gl_ok h0 h1) (fun r hr => by cases hr))
noncomputable def ctx0S (B : Nat) (hB : 5 ≤ B) : Ctx Pr B K0 where
  G := fun w => Gl w ∧ 5 ≤ w.heap.size
  keep := fun w w' h hg => ⟨gl_keep (by omega) h hg.1, Nat.le_trans hg.2 h.size⟩
  call := fun f args v w hk hg => (ctx0 B (by omega)).call f args v w hk hg.1
  fwd := fun f args g bs hk ρ args' w ha hg => (ctx0 B (by omega)).fwd f args g bs hk ρ args' w ha hg.1
noncomputable def ctx (B : Nat) (hB : 5 ≤ B) : Ctx Pr B K := (ctx0S B hB).add 9 (.bool true) rfl fun w hg => awake_calls hg.2 hg.1
theorem own : ownKnob Tryd.prog.godebug = none := by kernel_rfl
theorem laidOut : laidOutB Tryd.prog = true := by kernel_rfl
theorem gKinds : Tryd.prog.globalNamed "donjon/note.kinds" = some 0 := by kernel_rfl
theorem gLim : Tryd.prog.globalNamed "donjon/place.limits" = some 1 := by kernel_rfl
theorem gBru : Tryd.prog.globalNamed "math/bits.deBruijn64tab" = some 4 := by kernel_rfl
theorem tKinds : (Tryd.prog.globals[0]?).map (·.type) = some 49 := by kernel_rfl
theorem tLim : (Tryd.prog.globals[1]?).map (·.type) = some 46 := by kernel_rfl
theorem tPow : (Tryd.prog.globals[2]?).map (·.type) = some 76 := by kernel_rfl
theorem tBru : (Tryd.prog.globals[4]?).map (·.type) = some 83 := by kernel_rfl
theorem gl_of {W : World} {l : List (String × DataW Unit)} (hp : (l.all fun x => x.2.handleName?.isNone) = true) (h : laidMetH Tryd.prog l W) (m0 : ("donjon/note.kinds", Rows.laid_donjon_note_kinds) ∈ l) (m1 : ("donjon/place.limits", Rows.laid_donjon_place_limits) ∈ l)
    (m2 : ("internal/strconv.uint64pow10", Rows.laid_internal_strconv_uint64pow10) ∈ l) (m4 : ("math/bits.deBruijn64tab", Rows.laid_math_bits_deBruijn64tab) ∈ l) : Gl W ∧ 5 ≤ W.heap.size := by
  obtain ⟨e0, z0, h0⟩ := laid_block (l := kindsE) 8 hp h m0 gKinds tKinds (by kernel_rfl)
  obtain ⟨e1, z1, h1⟩ := laid_block (l := limE) 8 hp h m1 gLim tLim (by kernel_rfl)
  obtain ⟨e2, z2, h2⟩ := laid_block (l := powE) 8 hp h m2 gPow tPow (by kernel_rfl)
  obtain ⟨e4, z4, h4⟩ := laid_block (l := ((cellsD Tryd.prog 8 83 (Rows.laid_math_bits_deBruijn64tab (H := Unit))).getD [])) 8 hp h m4 gBru tBru (by kernel_rfl)
  exact ⟨⟨⟨e0, z0, h0⟩, ⟨e1, z1, h1⟩, e2, z2, h2⟩, (Array.getElem?_eq_some_iff.1 h4).1⟩
theorem calls_law {W : World} (hL : Gl W ∧ 5 ≤ W.heap.size) {f : FuncId} {args : List Value} (hp : plainL args = true) (hok : ∀ (G : Bg) (h : AH), Ob G 0 kindsE → Ob G 1 limE → Hs G h [] → Cl Pr K f args h fun v _ => v = .bool true) :
    Calls Pr f ⟨args⟩ W fun e W' => e = .returned (.bool true) ∧ Below W.heap.size W W' := by
  have hL' := hL
  obtain ⟨⟨⟨e0, z0, h0⟩, ⟨e1, z1, h1⟩, _⟩, h5⟩ := hL
  have reads : Reads Pr (5 + ([] : List OB).length) (oldOf 5 (glN e0 z0 e1 z1) []) (rhoOf 5 []) W := reads_of (by rw [globals5]; exact Nat.le_refl _) h5 (gl_ok h0 h1) (fun r hr => by cases hr)
  have ok := hok ⟨5, oldOf 5 (glN e0 z0 e1 z1) []⟩ (Go.Ab.start 5 (oldOf 5 (glN e0 z0 e1 z1) [])) ⟨by show 0 < 5; omega, e0, z0, true, (oldOf_gl (g := 5) (i := 0) (gl := glN e0 z0 e1 z1) (rs := []) (by omega)).trans rfl⟩ ⟨by show 1 < 5; omega, e1, z1, true, (oldOf_gl (g := 5) (i := 1) (gl := glN e0 z0 e1 z1) (rs := []) (by omega)).trans rfl⟩ hs_start
  have := calls_of (ctx W.heap.size h5) hL' reads (args := args) (args' := args) (plainL_rel _ hp) ok
  intro cs
  obtain ⟨e, w', fr, ⟨ρ', o, h', v', he, hv', hq, _, hb⟩, hx⟩ := this cs
  rw [hq] at hv'
  simp only [VRel] at hv'
  exact ⟨e, w', fr, ⟨by rw [he, hv'], hb⟩, hx⟩
theorem cfgFlat : flatT Tryd.prog 8 23 = some [some .i64, some .i64, some .i64, some .i64, some .i64, some .i64, some .i64] := by kernel_rfl
theorem cfg_of {l : List Value} (h0 : Flat [some .i64, some .i64, some .i64, some .i64, some .i64, some .i64, some .i64] l) : ∃ C : Cfg, l = C.enc := by
  obtain ⟨a, l1, e1, h1⟩ := flat_int h0
  obtain ⟨b, l2, e2, h2⟩ := flat_int h1
  obtain ⟨c, l3, e3, h3⟩ := flat_int h2
  obtain ⟨d, l4, e4, h4⟩ := flat_int h3
  obtain ⟨e, l5, e5, h5⟩ := flat_int h4
  obtain ⟨f, l6, e6, h6⟩ := flat_int h5
  obtain ⟨g, l7, e7, h7⟩ := flat_int h6
  have e8 := flat_nil h7
  subst e8 e7 e6 e5 e4 e3 e2 e1
  exact ⟨⟨a, b, c, d, e, f, g⟩, rfl⟩
def noteKs : List (Option IntKind) := [some .i64, some .i64, some .i64, some .i64, some .i64, some .i64, some .i64, none, some .i64]
theorem noteFlat : flatT Tryd.prog 8 27 = some noteKs := by kernel_rfl
theorem note_of {l : List Value} (h0 : Flat noteKs l) : ∃ n : Note, l = n.enc := by
  obtain ⟨a, l1, e1, h1⟩ := flat_int h0
  obtain ⟨b, l2, e2, h2⟩ := flat_int h1
  obtain ⟨c, l3, e3, h3⟩ := flat_int h2
  obtain ⟨d, l4, e4, h4⟩ := flat_int h3
  obtain ⟨e, l5, e5, h5⟩ := flat_int h4
  obtain ⟨f, l6, e6, h6⟩ := flat_int h5
  obtain ⟨g, l7, e7, h7⟩ := flat_int h6
  obtain ⟨i, l8, e8, h8⟩ := flat_bool h7
  obtain ⟨j, l9, e9, h9⟩ := flat_int h8
  have e10 := flat_nil h9
  subst e10 e9 e8 e7 e6 e5 e4 e3 e2 e1
  exact ⟨⟨a, b, c, d, e, f, g, i, j⟩, rfl⟩
theorem note_ofW {l : List Value} (h0 : Flat noteKs l) : ∃ n : Note, l = n.enc ∧ ∀ x ∈ [n.core, n.line, n.world, n.state, n.d0, n.d1, n.no], -9223372036854775808 ≤ x ∧ x ≤ 9223372036854775807 := by
  obtain ⟨a, l1, e1, h1⟩ := flat_int h0
  obtain ⟨b, l2, e2, w2, h2⟩ := flat_intW h1
  obtain ⟨c, l3, e3, w3, h3⟩ := flat_intW h2
  obtain ⟨d, l4, e4, w4, h4⟩ := flat_intW h3
  obtain ⟨e, l5, e5, w5, h5⟩ := flat_intW h4
  obtain ⟨f, l6, e6, w6, h6⟩ := flat_intW h5
  obtain ⟨g, l7, e7, w7, h7⟩ := flat_intW h6
  obtain ⟨i, l8, e8, h8⟩ := flat_bool h7
  obtain ⟨j, l9, e9, w9, h9⟩ := flat_intW h8
  have e10 := flat_nil h9
  subst e10 e9 e8 e7 e6 e5 e4 e3 e2 e1
  refine ⟨⟨a, b, c, d, e, f, g, i, j⟩, rfl, fun x hx => ?_⟩
  simp only [List.mem_cons, List.not_mem_nil, or_false] at hx
  rcases hx with rfl | rfl | rfl | rfl | rfl | rfl | rfl
  · exact wf_i64 w2
  · exact wf_i64 w3
  · exact wf_i64 w4
  · exact wf_i64 w5
  · exact wf_i64 w6
  · exact wf_i64 w7
  · exact wf_i64 w9
theorem pairFlat : flatT Tryd.prog 8 24 = some [some .i64, some .i64] := by kernel_rfl
theorem pair_of {l : List Value} (h0 : Flat [some .i64, some .i64] l) : ∃ a b : Int, l = [I a, I b] := by
  obtain ⟨a, l1, e1, h1⟩ := flat_int h0
  obtain ⟨b, l2, e2, h2⟩ := flat_int h1
  have e3 := flat_nil h2
  subst e3 e2 e1
  exact ⟨a, b, rfl⟩
end Go.Proofs.YtjchglfcndckhaaDoor
end
section
namespace Go.Proofs.YtjchglfcndckhaaDoor
open Go Go.Ab Go.Hm Go.Nt Go.RowKit
theorem noteMore_door (os : Os) (args : Array Value) : laidMetH Tryd.prog Rows.noteMoreRow.laid ((World.doorLaid Tryd.prog 4000 os).forCall (fun _ _ => 0) ⟨#[], args, []⟩).memory :=
  laidMetH_of_parts3 (fuel := 8) (laidMet_of_run' 8 (by kernel_rfl) (by kernel_rfl)) (by kernel_rfl) (by kernel_rfl)
set_option maxRecDepth 100000 in
theorem noteMore_lifted (os : Os) (started : os.Started) (H : Type) (enc : TypeId × Value → H) :
    ReturnsInHanded {} Tryd.checked os 4 .any (fun w args => (Rows.noteMoreSpec.pre enc Tryd.prog Tryd.f4 [] false w args ∧ laidMetH Tryd.prog Rows.noteMoreRow.laid w) ∧ sizedMet enc Tryd.prog Tryd.f4 (OpenSpec.ofChange Rows.noteMoreSpec) false w args)
      (Rows.noteMoreSpec.post enc Tryd.prog Tryd.f4 false true false false) := by
  refine law_lifted (C := Tryd.checked) started own (by kernel_rfl) Tryd.func4 laidOut (by kernel_rfl) rfl Tryd.underlying4 rfl (fun ds hd => by
      match ds, hd with
      | [d1, d2, d3], _ => rfl)
    (ChangeSpec.witness_shaped (enc := enc) (C := Tryd.checked) (os := os) (X := fun w _ => laidMetH Tryd.prog Rows.noteMoreRow.laid w) false (World.doorLaid Tryd.prog 4000 os) #[.agg #[.int .i64 0, .int .i64 0, .int .i64 0, .int .i64 0, .int .i64 0, .int .i64 0, .int .i64 0], .agg #[.int .i64 0, .int .i64 0, .int .i64 0, .int .i64 0, .int .i64 0, .int .i64 0, .int .i64 0, .bool false, .int .i64 0], .agg #[.int .i64 0, .int .i64 0]] 8 rfl (World.shaped_of_RefB (by kernel_rfl) (by kernel_rfl)) (by kernel_rfl) (by kernel_rfl) (by kernel_rfl) (noteMore_door os _)) ?_
  intro W base args ds ps hA hval hL
  rw [show (Tryd.f4.params.toList) = [23, 27, 24] from by rw [Tryd.params4]] at hA
  rw [Tryd.params4] at hval
  obtain ⟨v0, vs0, d0, ds0, p0, q0, rfl, rfl, rfl, h0, r0⟩ := ChangeShapes.trodAll_cons hA
  obtain ⟨v1, vs1, d1, ds1, p1, q1, rfl, rfl, rfl, h1, r1⟩ := ChangeShapes.trodAll_cons r0
  obtain ⟨v2, vs2, d2, ds2, p2, q2, rfl, rfl, rfl, h2, r2⟩ := ChangeShapes.trodAll_cons r1
  obtain ⟨rfl, rfl, rfl⟩ := ChangeShapes.trodAll_nil r2
  obtain ⟨l0, rfl, hl0⟩ := open_structF Tryd.underlying23 cfgFlat (hval 0 _ v0 rfl rfl) h0
  obtain ⟨x0, rfl⟩ := cfg_of hl0
  obtain ⟨l1, rfl, hl1⟩ := open_structF Tryd.underlying27 noteFlat (hval 1 _ v1 rfl rfl) h1
  obtain ⟨x1, rfl, hr1⟩ := note_ofW hl1
  obtain ⟨l2, rfl, hl2⟩ := open_arrayF Tryd.underlying24 pairFlat (hval 2 _ v2 rfl rfl) h2
  obtain ⟨x2, y2, rfl⟩ := pair_of hl2
  exact calls_law (gl_of (by kernel_rfl) hL (by simp [Rows.noteMoreRow]) (by simp [Rows.noteMoreRow]) (by simp [Rows.noteMoreRow]) (by simp [Rows.noteMoreRow])) (args := [.agg ⟨x0.enc⟩, .agg ⟨x1.enc⟩, .agg ⟨[I x2, I y2]⟩]) rfl fun G h hkd hlim hs => more_ok hr1 hkd hlim hs (fun _ => rfl)
theorem noteMore_over : Rows.noteMoreRow.holds Tryd.pinned (OpenSpec.ofChange Rows.noteMoreSpec) :=
  OpenClaim.holds_of_wide 4 Tryd.f4 rfl rfl rfl rfl rfl rfl rfl ⟨rfl, rfl, rfl, rfl, rfl⟩ rfl rfl rfl rfl rfl (by kernel_rfl) Tryd.func4 (by kernel_rfl)
    (of_decide_eq_true (by kernel_rfl)) (by unfold Func.isWrapper; first | (rw [if_pos (by decide +kernel)]; kernel_rfl) | (rw [if_neg (by decide +kernel)]; exact ⟨rfl, rfl⟩))
    (fun os started H enc _ => noteMore_lifted os started H enc)
/-- ████ THE STATEMENT ████ -/
theorem noteMore_proved : Rows.NoteMoreCardSaid :=
  Claim7.holds_tied_plain_at .later [] Rows.noteMoreCard.laidKinds true Rows.noteMoreCard.stood.harness false
    noteMore_over (fun _ h => by cases h) (by kernel_rfl) (fun _ h => by cases h) noteMore_row_tie rfl ⟨rfl, rfl⟩ (by kernel_rfl) rfl
    (fun f fn hf hfn => by
      obtain rfl : f = 4 := Option.some.inj ((show Tryd.prog.funcNamed "donjon/donjonlaw03.NoteMore" = some 4 by kernel_rfl).symm.trans hf) |>.symm
      obtain rfl : fn = Tryd.f4 := (Option.some.inj (Tryd.func4.symm.trans hfn)).symm
      exact ⟨by kernel_rfl, fun j t ht => by
        rw [Tryd.params4] at ht
        have hm : t ∈ [23, 27, 24] := by simpa using Array.mem_of_getElem? ht
        have hall : ([23, 27, 24].all fun u => !Tryd.prog.wantsStandIn u) = true := by kernel_rfl
        exact (show Tryd.prog.wantsStandIn t = false by simpa using List.all_eq_true.1 hall t hm)⟩)
    (by kernel_rfl)
end Go.Proofs.YtjchglfcndckhaaDoor
end
