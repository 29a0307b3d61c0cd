/- Shots: the law of their order. -/
import Derived.Test.YtemlagiabnkceaaDoorB5
import Derived.Test.YtemlagiabnkceaaDoorB6
import Derived.Test.YtemlagiabnkceaaDoorB7
section
namespace Go.Proofs.YtemlagiabnkceaaDoor
open Go Go.Ab Go.Hm
set_option maxRecDepth 100000
def rowE (s : Array UInt8) (a b c d : Bool) (x y z : Int) : List Value := [.string ⟨s⟩, .bool a, .bool b, .bool c, .bool d, I x, I y, I z]
def rowsE : List Value := rowE #[73] false false false false 0 0 0 ++ rowE #[83] true false false false 0 1 0 ++ rowE #[69] true true false true 4 1 0 ++ rowE #[79] true false true true 0 3 0 ++ rowE #[77] true true true true 4 3 0
def glC (e0 : TypeId) (z0 : Nat × Nat) (e1 : TypeId) (z1 : Nat × Nat) : Nat → Option Blk := fun i => if i = 0 then some (.cells limE e0 z0 true) else if i = 1 then some (.cells rowsE e1 z1 true) else none
theorem awake_run (e0 : TypeId) (z0 : Nat × Nat) (e1 : TypeId) (z1 : Nat × Nat) : ((run Pr K0 5000 (.call 5 []) (Go.Ab.start 2 (oldOf 2 (glC e0 z0 e1 z1) []))).any fun r => veq r.1.v (.bool true)) = true := by kernel_rfl
end Go.Proofs.YtemlagiabnkceaaDoor
end
section
namespace Go.Proofs.YtemlagiabnkceaaDoor
open Go Go.Ab Go.Hm Go.Ct Go.Sf
theorem r_idxAg {g n sz : Nat} {i : Int} {k : Value → Prop} (h0 : 0 ≤ i) (hi : i < n) (hk : k (pt g (i.toNat * sz) 0)) : thn (idxA n sz (.pointer (some ⟨g, 0, none⟩)) (I i)) k :=
  r_idxA (b := g) (o := 0) (j := 0) h0 hi (by simpa [pt] using hk)
theorem row_cells {s : Int} (h : 0 ≤ s ∧ s < 5) : rowsE[s.toNat * 8 + 1]? = some (.bool (loadS s)) ∧ rowsE[s.toNat * 8 + 2]? = some (.bool (storeS s)) ∧ rowsE[s.toNat * 8 + 3]? = some (.bool (dirtyS s)) ∧ rowsE[s.toNat * 8 + 4]? = some (.bool (ownerS s))
    ∧ rowsE[s.toNat * 8 + 5]? = some (I (if storeS s then 4 else 0)) ∧ rowsE[s.toNat * 8 + 6]? = some (I (sharedS s)) ∧ rowsE[s.toNat * 8 + 7]? = some (I 0) := by
  have : s = 0 ∨ s = 1 ∨ s = 2 ∨ s = 3 ∨ s = 4 := by omega
  rcases this with rfl | rfl | rfl | rfl | rfl <;> exact ⟨rfl, rfl, rfl, rfl, rfl, rfl, rfl⟩
attribute [local irreducible] thn Br ld1 ldN stV alc alcAt alcS alcSAt resv padd nilV extV part1 partN lenS lenT biI biT biB biP biS biF biE biA unV idxS idxA pickV appV copyV clearV slS slA slT mkS blkOf at1 atN atS convI convS minV maxV Cl OkF OkR EndX endV beginV defersOf setLoop closeMarks
variable {G : Bg} {h : AH} {L L' : List HP}
theorem check_loop {C : Cfg} {p : Nat} {Q : Value → AH → Prop} (hs : Hs G h (seg p 0 C.enc :: L)) : ∀ (f i : Nat), i + f = 7 → Q (I (C.ckF f i)) h → A10_1 Q (pt p 0 0) (I 0) (.agg ⟨limE⟩) (I i) h := by
  intro f
  induction f with
  | zero =>
    intro i hi hq
    exact b10_1 (r_ltI (r_brF (by omega) hq))
  | succ f ih =>
    intro i hi hq
    have h7 : i < 7 := by omega
    refine b10_1 (r_ltI (r_brT (by omega) (b10_2 ?_)))
    have hc : C.enc[0 + i * 1]? = some (I (C.list.getD i 0)) := by
      have : i = 0 ∨ i = 1 ∨ i = 2 ∨ i = 3 ∨ i = 4 ∨ i = 5 ∨ i = 6 := by omega
      rcases this with rfl | rfl | rfl | rfl | rfl | rfl | rfl <;> rfl
    have hl : limE[i]? = some (I (limL.getD i 0)) := by
      have : i = 0 ∨ i = 1 ∨ i = 2 ∨ i = 3 ∨ i = 4 ∨ i = 5 ∨ i = 6 := by omega
      rcases this with rfl | rfl | rfl | rfl | rfl | rfl | rfl <;> rfl
    rw [Cfg.ckF] at hq
    refine r_at1 h7 hl (r_idxAn h7 (r_ld hs hc (r_ltI (r_br (fun h1 => ?_) (fun h1 => r_idxAn h7 (r_ld hs hc (r_gtI (r_br (fun h2 => b10_3 ?_) (fun h2 => b10_4 (r_addI (by omega) (ih (i + 1) (by omega) ?_)))))))))))
    · rw [if_pos (.inl h1)] at hq; exact hq
    · rw [if_pos (.inr h2)] at hq; exact hq
    · rw [if_neg (by omega)] at hq; exact hq
theorem check_ok {C : Cfg} {Q : Value → AH → Prop} (hl : Ob G 0 limE) (hs : Hs G h L) (hk : ∀ h', Hs G h' L → Q (I (if C.Ok then 0 else 10)) h') : Cl Pr K 10 [.agg ⟨C.enc⟩] h Q := by
  refine c10 (b10_0 ?_)
  refine r_bx hs ?_
  intro p h hs
  iterate 7 refine r_padd (r_ld hs rfl ?_)
  refine r_fill (c := C.enc) rfl (r_new hs ?_)
  intro p h hs
  refine r_stW hs rfl rfl rfl rfl ?_
  intro h hs
  refine r_ldNg hs hl rfl ?_
  refine check_loop (C := C) hs 7 0 rfl ?_
  rw [Cfg.ck_eq]
  exact hk _ hs.tail.tail
theorem lines_ok {C : Cfg} (hC : C.Ok) {Q : Value → AH → Prop} (hl : Ob G 0 limE) (hs : Hs G h L) (hk : ∀ h', Hs G h' L → Q (I C.lines) h') : Cl Pr K 11 [.agg ⟨C.enc⟩] h Q := by
  refine c11 (b11_0 ?_)
  refine r_bx hs ?_
  intro p h hs
  refine r_ldN hs (by decide) (l := C.enc) rfl rfl (check_ok hl hs fun h hs => ?_)
  rw [if_pos hC]
  have hb := Cfg.lines_eq hC
  refine r_neI (r_brF (by omega) ?_)
  refine r_padd (r_ld hs rfl (r_mulI (by unfold Cfg.Ok at hC; omega) ?_))
  rw [show C.granules * 2 = (C.lines : Int) from hb.1.symm]
  exact hk _ hs.tail
theorem gran_ok {C : Cfg} (hC : C.Ok) {l : Int} {Q : Value → AH → Prop} (hl : Ob G 0 limE) (h0 : 0 ≤ l ∧ l < C.lines) (hs : Hs G h L) (hk : ∀ h', Hs G h' L → Q (.tuple ⟨[I (l / 2), I 0]⟩) h') : Cl Pr K 32 [.agg ⟨C.enc⟩, I l] h Q := by
  have hb := Cfg.lines_eq hC
  refine c32 (b32_0 ?_)
  refine r_bx hs ?_
  intro p h hs
  refine r_ltI (r_brF (by omega) (r_ldN hs (by decide) (l := C.enc) rfl rfl (lines_ok hC hl hs fun h hs => ?_)))
  exact r_geI (r_brF (by omega) (r_quo (by omega) (by omega) (by omega) (hk _ hs.tail)))
theorem below_ok {n m : Int} {Q : Value → AH → Prop} (hk : Q (.bool (inB n m)) h) : Cl Pr K 12 [I n, I m] h Q := by
  refine c12 (b12_0 (r_geI (r_br (fun h1 => r_ltI ?_) (fun h1 => ?_))))
  · rw [show decide (n < m) = inB n m from decide_eq_decide.2 (by omega)]; exact hk
  · rw [show false = inB n m from (decide_eq_false (by omega)).symm]; exact hk
theorem is_ok {x : Int} {Q : Value → AH → Prop} (hk : Q (.bool (isS x)) h) : Cl Pr K 27 [I x] h Q := by
  refine c27 (b27_0 ?_)
  refine r_geI (r_br (fun h1 => r_ltI ?_) (fun h1 => ?_))
  · rw [show decide (x < 5) = isS x from decide_eq_decide.2 (by omega)]; exact hk
  · rw [show false = isS x from (decide_eq_false (by omega)).symm]; exact hk
theorem isS_of {x : Int} (h : isS x = true) : 0 ≤ x ∧ x < 5 := of_decide_eq_true h
theorem isS_no {x : Int} (h : isS x = false) : loadS x = false ∧ storeS x = false ∧ dirtyS x = false ∧ ownerS x = false := by
  have := of_decide_eq_false h
  refine ⟨decide_eq_false ?_, decide_eq_false ?_, decide_eq_false ?_, decide_eq_false ?_⟩ <;> omega
theorem validS_ok {x : Int} {Q : Value → AH → Prop} (hk : Q (.bool (loadS x)) h) : Cl Pr K 28 [I x] h Q := by
  refine c28 (b28_0 (is_ok (r_brb (fun h1 => r_neI ?_) (fun h1 => ?_))))
  · have := isS_of h1
    rw [show decide (x ≠ 0) = loadS x from decide_eq_decide.2 (by omega)]; exact hk
  · rw [(isS_no h1).1] at hk; exact hk
theorem store_ok {x : Int} {Q : Value → AH → Prop} (ho : Ob G 1 rowsE) (hs : Hs G h L) (hk : Q (.bool (storeS x)) h) : Cl Pr K 30 [I x] h Q := by
  refine c30 (b30_0 (is_ok (r_brb (fun h1 => ?_) (fun h1 => ?_))))
  · have h2 := isS_of h1
    exact r_idxAg h2.1 h2.2 (r_padd (r_ldo hs ho (o := x.toNat * 8) (j := 2) (row_cells h2).2.1 hk))
  · rw [(isS_no h1).2.1] at hk; exact hk
theorem owner_ok {x : Int} {Q : Value → AH → Prop} (ho : Ob G 1 rowsE) (hs : Hs G h L) (hk : Q (.bool (ownerS x)) h) : Cl Pr K 29 [I x] h Q := by
  refine c29 (b29_0 (is_ok (r_brb (fun h1 => ?_) (fun h1 => ?_))))
  · have h2 := isS_of h1
    exact r_idxAg h2.1 h2.2 (r_padd (r_ldo hs ho (o := x.toNat * 8) (j := 4) (row_cells h2).2.2.2.1 hk))
  · rw [(isS_no h1).2.2.2] at hk; exact hk
end Go.Proofs.YtemlagiabnkceaaDoor
end
section
namespace Go.Proofs.YtemlagiabnkceaaDoor
open Go Go.Ab Go.Hm Go.Ct Go.Sf
attribute [local irreducible] thn Br ld1 ldN stV alc alcAt alcS alcSAt resv padd nilV extV part1 partN lenS lenT biI biT biB biP biS biF biE biA unV idxS idxA pickV appV copyV clearV slS slA slT mkS blkOf at1 atN atS convI convS minV maxV Cl OkF OkR EndX endV beginV defersOf setLoop closeMarks
variable {G : Bg} {h : AH} {L L' M : List HP} {S : Shot} {v0 v1 v2 v3 v4 : Value}
structure ShX where
  S : Shot
  v0 : Value
  v1 : Value
  v2 : Value
  v3 : Value
  v4 : Value
/-- no list is too long -/
def LimS (S : Shot) : Prop := S.copies.length ≤ 2 ^ 40 ∧ S.known.length ≤ 2 ^ 40 ∧ S.table.length ≤ 2 ^ 40 ∧ S.notes.length ≤ 2 ^ 40 ∧ S.memory.length ≤ 2 ^ 40
def shotH (G : Bg) (x : ShX) : HP := sp [rdS G 6 34 x.v0 (x.S.copies.map SCopy.enc), rdS G 3 36 x.v1 (x.S.known.map SKn.enc), rdS G 2 67 x.v2 (x.S.table.map SEn.enc),
  rdS G 9 38 x.v3 (x.S.notes.map Note.enc), rdS G 2 32 x.v4 (x.S.memory.map Sf.lnE)]
theorem sh_open (hs : Hs G h L) [k : Has (shotH G) L ⟨S, v0, v1, v2, v3, v4⟩ L'] : Hs G h (rdS G 6 34 v0 (S.copies.map SCopy.enc) :: rdS G 3 36 v1 (S.known.map SKn.enc) :: rdS G 2 67 v2 (S.table.map SEn.enc) ::
  rdS G 9 38 v3 (S.notes.map Note.enc) :: rdS G 2 32 v4 (S.memory.map Sf.lnE) :: L') := Hs.unpack (k.of hs)
theorem r_len_of {v : Value} {n m : Nat} {k : Value → Prop} (h : ∃ a c, v = .slice a n c) (hn : n = m) (hk : k (I m)) : thn (lenS v) k := by
  obtain ⟨a, c, rfl⟩ := h
  subst hn
  exact r_lenS hk
section
variable {k : Value → Prop}
theorem r_len0 (hs : Hs G h L) [m : Has (shotH G) L ⟨S, v0, v1, v2, v3, v4⟩ L'] (hk : k (I S.copies.length)) : thn (lenS v0) k := r_len_of (rd_slice (sh_open (S := S) hs)) (by simp) hk
theorem r_len1 (hs : Hs G h L) [m : Has (shotH G) L ⟨S, v0, v1, v2, v3, v4⟩ L'] (hk : k (I S.known.length)) : thn (lenS v1) k := r_len_of (rd_slice (sh_open (S := S) hs).tail) (by simp) hk
theorem r_len2 (hs : Hs G h L) [m : Has (shotH G) L ⟨S, v0, v1, v2, v3, v4⟩ L'] (hk : k (I S.table.length)) : thn (lenS v2) k := r_len_of (rd_slice (sh_open (S := S) hs).tail.tail) (by simp) hk
theorem r_len3 (hs : Hs G h L) [m : Has (shotH G) L ⟨S, v0, v1, v2, v3, v4⟩ L'] (hk : k (I S.notes.length)) : thn (lenS v3) k := r_len_of (rd_slice (sh_open (S := S) hs).tail.tail.tail) (by simp) hk
theorem r_len4 (hs : Hs G h L) [m : Has (shotH G) L ⟨S, v0, v1, v2, v3, v4⟩ L'] (hk : k (I S.memory.length)) : thn (lenS v4) k := r_len_of (rd_slice (sh_open (S := S) hs).tail.tail.tail.tail) (by simp) hk
theorem r_cp {i : Nat} {x : SCopy} (hs : Hs G h L) [m : Has (shotH G) L ⟨S, v0, v1, v2, v3, v4⟩ L'] (hx : S.copies[i]? = some x) (hk : k (.agg ⟨x.enc⟩)) : thn (idxS 6 v0 (I i)) fun p => thn (ldN h 6 p) k := r_rd (sh_open (S := S) hs) (by decide) (by simp [hx]) hk
theorem r_kn {i : Nat} {x : SKn} (hs : Hs G h L) [m : Has (shotH G) L ⟨S, v0, v1, v2, v3, v4⟩ L'] (hx : S.known[i]? = some x) (hk : k (.agg ⟨x.enc⟩)) : thn (idxS 3 v1 (I i)) fun p => thn (ldN h 3 p) k := r_rd (sh_open (S := S) hs).tail (by decide) (by simp [hx]) hk
theorem r_en {i : Nat} {x : SEn} (hs : Hs G h L) [m : Has (shotH G) L ⟨S, v0, v1, v2, v3, v4⟩ L'] (hx : S.table[i]? = some x) (hk : k (.agg ⟨x.enc⟩)) : thn (idxS 2 v2 (I i)) fun p => thn (ldN h 2 p) k := r_rd (sh_open (S := S) hs).tail.tail (by decide) (by simp [hx]) hk
theorem r_no {i : Nat} {x : Note} (hs : Hs G h L) [m : Has (shotH G) L ⟨S, v0, v1, v2, v3, v4⟩ L'] (hx : S.notes[i]? = some x) (hk : k (.agg ⟨x.enc⟩)) : thn (idxS 9 v3 (I i)) fun p => thn (ldN h 9 p) k := r_rd (sh_open (S := S) hs).tail.tail.tail (by decide) (by simp [hx]) hk
end
theorem at_lt {α : Type} {l : List α} {i : Nat} (h : i < l.length) : ∃ x, l[i]? = some x ∧ l.drop i = x :: l.drop (i + 1) := ⟨l[i], by simp, List.drop_eq_getElem_cons h⟩
variable {C : Cfg} {p q : Nat} {Q : Value → AH → Prop}
theorem may_cp {v5 : Value} (hn : (S.copies.all fun o => inB o.core C.cores && inB o.line C.lines) = true → ∀ h', Hs G h' (seg p 0 C.enc :: seg q 0 [v0, v1, v2, v3, v4] :: shotH G ⟨S, v0, v1, v2, v3, v4⟩ :: L) → A8_5 Q (pt p 0 0) (pt q 0 0) (I C.lines) h')
    (hb : (S.copies.all fun o => inB o.core C.cores && inB o.line C.lines) = false → ∀ h', Hs G h' (seg p 0 C.enc :: seg q 0 [v0, v1, v2, v3, v4] :: shotH G ⟨S, v0, v1, v2, v3, v4⟩ :: L) → Q (I 1) h') (h5 : v5 = I S.copies.length) (hl : LimS S) :
    ∀ (f i : Nat) (h : AH), i + f = S.copies.length → (S.copies.all fun o => inB o.core C.cores && inB o.line C.lines) = ((S.copies.drop i).all fun o => inB o.core C.cores && inB o.line C.lines) →
      Hs G h (seg p 0 C.enc :: seg q 0 [v0, v1, v2, v3, v4] :: shotH G ⟨S, v0, v1, v2, v3, v4⟩ :: L) → A8_3 Q (pt p 0 0) (pt q 0 0) (I C.lines) v0 v5 (I i) h := by
  subst h5
  intro f
  induction f with
  | zero =>
    intro i h hi he hs
    refine b8_3 (r_ltI (r_brF (by omega) (hn ?_ _ hs)))
    rw [he, List.drop_of_length_le (by omega)]; rfl
  | succ f ih =>
    intro i h hi he hs
    obtain ⟨x, hx, hd⟩ := at_lt (l := S.copies) (i := i) (by omega)
    rw [hd, List.all_cons] at he
    refine b8_3 (r_ltI (r_brT (by omega) (b8_4 (r_cp hs hx (r_new hs ?_)))))
    intro p3 h hs
    refine r_stW hs rfl rfl rfl rfl ?_
    intro h hs
    refine r_padd (r_ld hs rfl (r_padd (r_ld hs rfl (below_ok (r_not (r_brn (r_brb (fun h1 => ?_) (fun h1 => ?_))))))))
    · refine r_padd (r_ld hs rfl (below_ok (r_not (r_brn (r_brb (fun h2 => ?_) (fun h2 => ?_))))))
      · refine b8_6 (r_addI (by unfold LimS at hl; omega) (ih (i + 1) h (by omega) ?_ hs.tail))
        rw [he, h1, h2]; rfl
      · refine hb ?_ _ hs.tail
        rw [he, h1, h2]; rfl
    · refine hb ?_ _ hs.tail
      rw [he, h1]; rfl
theorem may_kn {v5 : Value} (hn : (S.known.all fun k => inB k.core C.cores && inB k.granule C.granules) = true → ∀ h', Hs G h' (seg p 0 C.enc :: seg q 0 [v0, v1, v2, v3, v4] :: shotH G ⟨S, v0, v1, v2, v3, v4⟩ :: L) → A8_9 Q (pt p 0 0) (pt q 0 0) (I C.lines) h')
    (hb : (S.known.all fun k => inB k.core C.cores && inB k.granule C.granules) = false → ∀ h', Hs G h' (seg p 0 C.enc :: seg q 0 [v0, v1, v2, v3, v4] :: shotH G ⟨S, v0, v1, v2, v3, v4⟩ :: L) → Q (I 1) h') (h5 : v5 = I S.known.length) (hl : LimS S) :
    ∀ (f i : Nat) (h : AH), i + f = S.known.length → (S.known.all fun k => inB k.core C.cores && inB k.granule C.granules) = ((S.known.drop i).all fun k => inB k.core C.cores && inB k.granule C.granules) →
      Hs G h (seg p 0 C.enc :: seg q 0 [v0, v1, v2, v3, v4] :: shotH G ⟨S, v0, v1, v2, v3, v4⟩ :: L) → A8_7 Q (pt p 0 0) (pt q 0 0) (I C.lines) v1 v5 (I i) h := by
  subst h5
  intro f
  induction f with
  | zero =>
    intro i h hi he hs
    refine b8_7 (r_ltI (r_brF (by omega) (hn ?_ _ hs)))
    rw [he, List.drop_of_length_le (by omega)]; rfl
  | succ f ih =>
    intro i h hi he hs
    obtain ⟨x, hx, hd⟩ := at_lt (l := S.known) (i := i) (by omega)
    rw [hd, List.all_cons] at he
    refine b8_7 (r_ltI (r_brT (by omega) (b8_8 (r_kn hs hx (r_new hs ?_)))))
    intro p3 h hs
    refine r_stW hs rfl rfl rfl rfl ?_
    intro h hs
    refine r_padd (r_ld hs rfl (r_padd (r_ld hs rfl (below_ok (r_not (r_brn (r_brb (fun h1 => ?_) (fun h1 => ?_))))))))
    · refine r_padd (r_ld hs rfl (r_padd (r_ld hs rfl (below_ok (r_not (r_brn (r_brb (fun h2 => ?_) (fun h2 => ?_))))))))
      · refine b8_10 (r_addI (by unfold LimS at hl; omega) (ih (i + 1) h (by omega) ?_ hs.tail))
        rw [he, h1, h2]; rfl
      · refine hb ?_ _ hs.tail
        rw [he, h1, h2]; rfl
    · refine hb ?_ _ hs.tail
      rw [he, h1]; rfl
theorem may_no {v5 : Value} (hn : (S.notes.all fun n => inB n.core C.cores && inB n.line C.lines) = true → ∀ h', Hs G h' (seg p 0 C.enc :: seg q 0 [v0, v1, v2, v3, v4] :: shotH G ⟨S, v0, v1, v2, v3, v4⟩ :: L) → Q (I 0) h')
    (hb : (S.notes.all fun n => inB n.core C.cores && inB n.line C.lines) = false → ∀ h', Hs G h' (seg p 0 C.enc :: seg q 0 [v0, v1, v2, v3, v4] :: shotH G ⟨S, v0, v1, v2, v3, v4⟩ :: L) → Q (I 1) h') (h5 : v5 = I S.notes.length) (hl : LimS S) :
    ∀ (f i : Nat) (h : AH), i + f = S.notes.length → (S.notes.all fun n => inB n.core C.cores && inB n.line C.lines) = ((S.notes.drop i).all fun n => inB n.core C.cores && inB n.line C.lines) →
      Hs G h (seg p 0 C.enc :: seg q 0 [v0, v1, v2, v3, v4] :: shotH G ⟨S, v0, v1, v2, v3, v4⟩ :: L) → A8_11 Q (pt p 0 0) (I C.lines) v3 v5 (I i) h := by
  subst h5
  intro f
  induction f with
  | zero =>
    intro i h hi he hs
    refine b8_11 (r_ltI (r_brF (by omega) (hn ?_ _ hs)))
    rw [he, List.drop_of_length_le (by omega)]; rfl
  | succ f ih =>
    intro i h hi he hs
    obtain ⟨x, hx, hd⟩ := at_lt (l := S.notes) (i := i) (by omega)
    rw [hd, List.all_cons] at he
    refine b8_11 (r_ltI (r_brT (by omega) (b8_12 (r_no hs hx (r_new hs ?_)))))
    intro p3 h hs
    refine r_stW hs rfl rfl rfl rfl ?_
    intro h hs
    refine r_padd (r_ld hs rfl (r_padd (r_ld hs rfl (below_ok (r_not (r_brn (r_brb (fun h1 => ?_) (fun h1 => ?_))))))))
    · refine r_padd (r_ld hs rfl (below_ok (r_not (r_brn (r_brb (fun h2 => ?_) (fun h2 => ?_))))))
      · refine b8_13 (r_addI (by unfold LimS at hl; omega) (ih (i + 1) h (by omega) ?_ hs.tail))
        rw [he, h1, h2]; rfl
      · refine hb ?_ _ hs.tail
        rw [he, h1, h2]; rfl
    · refine hb ?_ _ hs.tail
      rw [he, h1]; rfl
theorem may_ok (hC : C.Ok) (hl : LimS S) (hg : Ob G 0 limE) (hs : Hs G h (shotH G ⟨S, v0, v1, v2, v3, v4⟩ :: L)) (hk : ∀ h', Hs G h' (shotH G ⟨S, v0, v1, v2, v3, v4⟩ :: L) → Q (I (S.may C)) h') : Cl Pr K 8 [.agg ⟨C.enc⟩, .agg ⟨[v0, v1, v2, v3, v4]⟩] h Q := by
  have hb := Cfg.lines_eq hC
  refine c8 (b8_0 (r_bx hs fun p h hs => r_bx hs fun q h hs => ?_))
  refine r_ldN hs (by decide) (l := C.enc) rfl rfl (check_ok hg hs fun h hs => ?_)
  rw [if_pos hC]
  refine r_neI (r_brF (by omega) (b8_1 ?_))
  refine r_ldN hs (by decide) (l := C.enc) rfl rfl (lines_ok hC hg hs fun h hs => ?_)
  unfold Shot.may at hk
  refine r_padd (r_ld hs rfl (r_len2 hs (r_padd (r_ld hs rfl (r_neI (r_br (fun h1 => ?_) (fun h1 => ?_)))))))
  · rw [if_pos h1] at hk
    exact hk _ hs.to
  rw [if_neg h1] at hk
  refine r_padd (r_ld hs rfl (r_len4 hs (r_neI (r_br (fun h2 => ?_) (fun h2 => ?_)))))
  · rw [if_pos h2] at hk
    exact hk _ hs.to
  rw [if_neg h2] at hk
  have bad : S.okB C = false → ∀ h', Hs G h' (seg p 0 C.enc :: seg q 0 [v0, v1, v2, v3, v4] :: shotH G ⟨S, v0, v1, v2, v3, v4⟩ :: L) → Q (I 1) h' := fun hb h' hs => by
    have := hk h' hs.to
    rw [hb] at this; exact this
  refine b8_2 (r_padd (r_ld hs rfl (r_len0 hs ?_)))
  refine may_cp (fun hc h hs => ?_) (fun hc h hs => bad (by unfold Shot.okB; rw [hc]; rfl) h hs) rfl hl S.copies.length 0 h (by omega) rfl hs.to
  refine b8_5 (r_padd (r_ld hs rfl (r_len1 hs ?_)))
  refine may_kn (fun hn h hs => ?_) (fun hn h hs => bad (by unfold Shot.okB; rw [hc, hn]; rfl) h hs) rfl hl S.known.length 0 h (by omega) rfl hs.to
  refine b8_9 (r_padd (r_ld hs rfl (r_len3 hs ?_)))
  refine may_no (fun hm h hs => ?_) (fun hm h hs => bad (by unfold Shot.okB; rw [hc, hn, hm]; rfl) h hs) rfl hl S.notes.length 0 h (by omega) rfl hs.to
  have := hk h hs.to
  rw [show S.okB C = true by unfold Shot.okB; rw [hc, hn, hm]; rfl] at this
  exact this
end Go.Proofs.YtemlagiabnkceaaDoor
end
section
namespace Go.Proofs.YtemlagiabnkceaaDoor
open Go Go.Ab Go.Hm Go.Ct Go.Sf
attribute [local irreducible] thn Br ld1 ldN stV alc alcAt alcS alcSAt resv padd nilV extV part1 partN lenS lenT biI biT biB biP biS biF biE biA unV idxS idxA pickV appV copyV clearV slS slA slT mkS blkOf at1 atN atS convI convS minV maxV Cl OkF OkR EndX endV beginV defersOf setLoop closeMarks
variable {G : Bg} {h : AH} {L L' M : List HP} {S : Shot} {v0 v1 v2 v3 v4 : Value} {C : Cfg} {p q : Nat} {Q : Value → AH → Prop}
abbrev itA (G : Bg) (S : Shot) (v0 v1 v2 v3 v4 : Value) (p q : Nat) (line : Int) : HP := sp [seg p 0 [v0, v1, v2, v3, v4], seg q 0 [I line], shotH G ⟨S, v0, v1, v2, v3, v4⟩]
theorem copies_ok {line : Int} (hs : Hs G h L) (hk : ∀ p q h', Hs G h' (seg p 0 [v0, v1, v2, v3, v4] :: seg q 0 [I line] :: L) → Q (.func (.func 26) #[] #[pt p 0 0, pt q 0 0]) h') : Cl Pr K 20 [.agg ⟨[v0, v1, v2, v3, v4]⟩, I line] h Q := by
  refine c20 (b20_0 (r_bx hs fun p h hs => r_bx hs fun q h hs => hk _ _ _ hs.at2))
theorem grants_ok {line : Int} (hs : Hs G h L) (hk : ∀ p q h', Hs G h' (seg p 0 [v0, v1, v2, v3, v4] :: seg q 0 [I line] :: L) → Q (.func (.func 33) #[] #[pt p 0 0, pt q 0 0]) h') : Cl Pr K 25 [.agg ⟨[v0, v1, v2, v3, v4]⟩, I line] h Q := by
  refine c25 (b25_0 (r_bx hs fun p h hs => r_bx hs fun q h hs => hk _ _ _ hs.at2))
theorem copies_loop {line : Int} (hl : LimS S) {I' : List (List Value) → HP} {J : HP} {y v5 : Value} (h5 : v5 = I S.copies.length)
    (hy : ∀ z rest h M, Hs G h (I' (z :: rest) :: M) → OkF Pr K y z h fun v h' => (v = .bool true ∧ Hs G h' (I' rest :: M)) ∨ (v = .bool false ∧ Hs G h' (J :: M)))
    (h1 : ∀ v h', Hs G h' (itA G S v0 v1 v2 v3 v4 p q line :: I' [] :: L) → Q v h') (h2 : ∀ v h', Hs G h' (itA G S v0 v1 v2 v3 v4 p q line :: J :: L) → Q v h') :
    ∀ (f i : Nat) (h : AH), i + f = S.copies.length → Hs G h (itA G S v0 v1 v2 v3 v4 p q line :: I' (((S.copies.drop i).filter fun o => decide (o.line = line)).map fun o => [.agg ⟨o.enc⟩]) :: L) →
      A26_1 Q y (pt q 0 0) v0 v5 (I i) h := by
  subst h5
  intro f
  induction f with
  | zero =>
    intro i h hi hs
    refine b26_1 (r_ltI (r_brF (by omega) (h1 _ _ ?_)))
    rw [List.drop_of_length_le (by omega)] at hs
    exact hs
  | succ f ih =>
    intro i h hi hs
    obtain ⟨x, hx, hd⟩ := at_lt (l := S.copies) (i := i) (by omega)
    rw [hd] at hs
    have hs := hs.unpack
    refine b26_1 (r_ltI (r_brT (by omega) (b26_2 (r_cp hs hx (r_new hs ?_)))))
    intro p3 h hs
    refine r_stW hs rfl rfl rfl rfl ?_
    intro h hs
    refine r_padd (r_ld hs rfl (r_ld hs rfl (r_eqI (r_br (fun hc => ?_) (fun hc => ?_)))))
    · rw [List.filter_cons_of_pos (by simpa using hc)] at hs
      refine r_ldN hs (by decide) (l := x.enc) rfl rfl ?_
      have hs := Hs.at2 (Hs.pack (A := [seg p 0 [v0, v1, v2, v3, v4], seg q 0 [I line], shotH G ⟨S, v0, v1, v2, v3, v4⟩]) hs.tail)
      refine (hy _ _ h _ hs).mono fun v h' hv => ?_
      rcases hv with ⟨rfl, hs'⟩ | ⟨rfl, hs'⟩
      · exact r_not (r_brf (b26_3 (r_addI (by unfold LimS at hl; omega) (ih (i + 1) h' (by omega) hs'.at2))))
      · exact r_not (r_brt (h2 _ _ hs'.at2))
    · rw [List.filter_cons_of_neg (by simpa using hc)] at hs
      exact r_addI (by unfold LimS at hl; omega) (ih (i + 1) h (by omega) (Hs.pack (A := [seg p 0 [v0, v1, v2, v3, v4], seg q 0 [I line], shotH G ⟨S, v0, v1, v2, v3, v4⟩]) hs.tail))
theorem copies_y {line : Int} (hl : LimS S) : Yds Pr K G 26 [] [pt p 0 0, pt q 0 0] (itA G S v0 v1 v2 v3 v4 p q line) ((S.on line).map fun o => [.agg ⟨o.enc⟩]) := by
  intro I' J y L h Q hs hy h1 h2
  refine c26 (b26_0 ?_)
  have hs2 := hs.unpack
  exact r_padd (r_ld hs2 rfl (r_len0 hs2 (copies_loop hl rfl hy h1 h2 S.copies.length 0 h (by omega) hs)))
theorem grants_loop {line : Int} (hl : LimS S) {I' : List (List Value) → HP} {J : HP} {y v5 : Value} (h5 : v5 = I S.notes.length)
    (hy : ∀ z rest h M, Hs G h (I' (z :: rest) :: M) → OkF Pr K y z h fun v h' => (v = .bool true ∧ Hs G h' (I' rest :: M)) ∨ (v = .bool false ∧ Hs G h' (J :: M)))
    (h1 : ∀ v h', Hs G h' (itA G S v0 v1 v2 v3 v4 p q line :: I' [] :: L) → Q v h') (h2 : ∀ v h', Hs G h' (itA G S v0 v1 v2 v3 v4 p q line :: J :: L) → Q v h') :
    ∀ (f i : Nat) (h : AH), i + f = S.notes.length → Hs G h (itA G S v0 v1 v2 v3 v4 p q line :: I' (((S.notes.drop i).filter fun n => decide (n.kind = 8) && decide (n.line = line)).map fun o => [.agg ⟨o.enc⟩]) :: L) →
      A33_1 Q y (pt q 0 0) v3 v5 (I i) h := by
  subst h5
  intro f
  induction f with
  | zero =>
    intro i h hi hs
    refine b33_1 (r_ltI (r_brF (by omega) (h1 _ _ ?_)))
    rw [List.drop_of_length_le (by omega)] at hs
    exact hs
  | succ f ih =>
    intro i h hi hs
    obtain ⟨x, hx, hd⟩ := at_lt (l := S.notes) (i := i) (by omega)
    rw [hd] at hs
    have hs := hs.unpack
    refine b33_1 (r_ltI (r_brT (by omega) (b33_2 (r_no hs hx (r_new hs ?_)))))
    intro p3 h hs
    refine r_stW hs rfl rfl rfl rfl ?_
    intro h hs
    refine r_padd (r_ld hs rfl (r_eqI (r_br (fun hc => ?_) (fun hc => ?_))))
    · refine r_padd (r_ld hs rfl (r_ld hs rfl (r_eqI (r_br (fun hc2 => ?_) (fun hc2 => ?_)))))
      · rw [List.filter_cons_of_pos (by rw [decide_eq_true hc, decide_eq_true hc2]; rfl)] at hs
        refine r_ldN hs (by decide) (l := x.enc) rfl rfl ?_
        have hs := Hs.at2 (Hs.pack (A := [seg p 0 [v0, v1, v2, v3, v4], seg q 0 [I line], shotH G ⟨S, v0, v1, v2, v3, v4⟩]) hs.tail)
        refine (hy _ _ h _ hs).mono fun v h' hv => ?_
        rcases hv with ⟨rfl, hs'⟩ | ⟨rfl, hs'⟩
        · exact r_not (r_brf (b33_3 (r_addI (by unfold LimS at hl; omega) (ih (i + 1) h' (by omega) hs'.at2))))
        · exact r_not (r_brt (h2 _ _ hs'.at2))
      · rw [List.filter_cons_of_neg (by rw [decide_eq_false hc2]; simp)] at hs
        exact r_addI (by unfold LimS at hl; omega) (ih (i + 1) h (by omega) (Hs.pack (A := [seg p 0 [v0, v1, v2, v3, v4], seg q 0 [I line], shotH G ⟨S, v0, v1, v2, v3, v4⟩]) hs.tail))
    · rw [List.filter_cons_of_neg (by rw [decide_eq_false hc]; simp)] at hs
      exact r_addI (by unfold LimS at hl; omega) (ih (i + 1) h (by omega) (Hs.pack (A := [seg p 0 [v0, v1, v2, v3, v4], seg q 0 [I line], shotH G ⟨S, v0, v1, v2, v3, v4⟩]) hs.tail))
theorem grants_y {line : Int} (hl : LimS S) : Yds Pr K G 33 [] [pt p 0 0, pt q 0 0] (itA G S v0 v1 v2 v3 v4 p q line) ((S.gr line).map fun o => [.agg ⟨o.enc⟩]) := by
  intro I' J y L h Q hs hy h1 h2
  refine c33 (b33_0 ?_)
  have hs2 := hs.unpack
  exact r_padd (r_ld hs2 rfl (r_len3 hs2 (grants_loop hl rfl hy h1 h2 S.notes.length 0 h (by omega) hs)))
end Go.Proofs.YtemlagiabnkceaaDoor
end
section
namespace Go.Proofs.YtemlagiabnkceaaDoor
open Go Go.Ab Go.Hm Go.Ct Go.Sf
theorem r_ne2 {a b c d : Int} {k : Value → Prop} (hk : k (.bool (decide ((a, b) ≠ (c, d))))) : thn (biA [0, 0] .neq (.agg ⟨[I a, I b]⟩) (.agg ⟨[I c, I d]⟩)) k := by
  refine ⟨_, ?_, hk⟩
  show some (Value.bool (!(a == c && (b == d && true)))) = _
  congr 2
  by_cases h1 : a = c <;> by_cases h2 : b = d <;> simp [h1, h2]
attribute [local irreducible] thn Br ld1 ldN stV alc alcAt alcS alcSAt resv padd nilV extV part1 partN lenS lenT biI biT biB biP biS biF biE biA unV idxS idxA pickV appV copyV clearV slS slA slT mkS blkOf at1 atN atS convI convS minV maxV Cl OkF OkR EndX endV beginV defersOf setLoop closeMarks
variable {G : Bg} {h : AH} {L L' M : List HP} {S : Shot} {v0 v1 v2 v3 v4 : Value} {C : Cfg} {p q : Nat} {Q : Value → AH → Prop}
theorem fit_loop {l : List Int} {e : TypeId} {a : Option Addr} {c : Nat} {v5 : Value} {V W' O N : Nat} (h5 : v5 = I l.length) (ho : Ob G 1 rowsE) (hl : l.length ≤ 2 ^ 41) (hs : Hs G h (slc 1 e a c (l.length, l.map I) :: L))
    (hq : Q (.bool (decide (N = 0) && decide (O ≤ 1) && (decide (W' = 0) || decide (V = 1)))) h) : ∀ (f i v s w n : Nat), i + f = l.length → v + (l.drop i).countP loadS = V → s + (l.drop i).countP ownerS = O → w + (l.drop i).countP storeS = W' → n + (l.drop i).countP (fun x => !isS x) = N →
    V ≤ 2 ^ 41 → O ≤ 2 ^ 41 → W' ≤ 2 ^ 41 → N ≤ 2 ^ 41 → A21_1 Q (I v) (I s) (I w) (I n) (.slice a l.length c) v5 (I i) h := by
  subst h5
  intro f
  induction f with
  | zero =>
    intro i v s w n hi h1 h2 h3 h4 _ _ _ _
    rw [List.drop_of_length_le (by omega)] at h1 h2 h3 h4
    simp only [List.countP_nil, Nat.add_zero] at h1 h2 h3 h4
    subst h1 h2 h3 h4
    refine b21_1 (r_ltI (r_brF (by omega) (r_eqI (r_br (fun e1 => r_leI (r_br (fun e2 => r_eqI (r_br (fun e3 => ?_) (fun e3 => r_eqI ?_))) (fun e2 => ?_))) (fun e1 => ?_)))))
    · rw [decide_eq_true (show n = 0 by omega), decide_eq_true (show s ≤ 1 by omega), decide_eq_true (show w = 0 by omega)] at hq
      exact hq
    · rw [decide_eq_true (show n = 0 by omega), decide_eq_true (show s ≤ 1 by omega), decide_eq_false (show ¬ w = 0 by omega)] at hq
      rw [show decide ((v : Int) = 1) = decide (v = 1) from decide_eq_decide.2 (by omega)]
      exact hq
    · rw [decide_eq_false (show ¬ s ≤ 1 by omega)] at hq
      simpa using hq
    · rw [decide_eq_false (show ¬ n = 0 by omega)] at hq
      simpa using hq
  | succ f ih =>
    intro i v s w n hi h1 h2 h3 h4 b1 b2 b3 b4
    obtain ⟨x, hx, hd⟩ := at_lt (l := l) (i := i) (by omega)
    rw [hd, List.countP_cons] at h1 h2 h3 h4
    refine b21_1 (r_ltI (r_brT (by omega) (b21_2 ?_)))
    obtain ⟨b, o, rfl, H, hs2, _⟩ := hs.slcOpen (by omega)
    refine r_idxN (by omega) (r_ldI hs2 (v := I x) (by simp [hx]) (is_ok (r_not (r_brn (r_brb (fun c1 => b21_4 (validS_ok ?_)) (fun c1 => b21_3 ?_))))))
    · have h4' : n + (l.drop (i + 1)).countP (fun x => !isS x) = N := by rw [c1] at h4; simpa using h4
      have fin9 : ∀ v' s' : Nat, v' + (l.drop (i + 1)).countP loadS = V → s' + (l.drop (i + 1)).countP ownerS = O → storeS x = true → A21_9 Q (I v') (I s') (I w) (I n) (.slice (some ⟨b, o, none⟩) l.length c) (I l.length) (I i) h := fun v' s' k1 k2 k3 => by
        rw [k3, if_pos rfl] at h3
        exact b21_9 (r_addI (by omega) (r_addI (by omega) (ih (i + 1) v' s' (w + 1) n (by omega) k1 k2 (by omega) h4' b1 b2 b3 b4)))
      have fin10 : ∀ v' s' : Nat, v' + (l.drop (i + 1)).countP loadS = V → s' + (l.drop (i + 1)).countP ownerS = O → storeS x = false → A21_10 Q (I v') (I s') (I w) (I n) (.slice (some ⟨b, o, none⟩) l.length c) (I l.length) (I i) h := fun v' s' k1 k2 k3 => by
        rw [k3, if_neg (by decide)] at h3
        exact b21_10 (r_addI (by omega) (ih (i + 1) v' s' w n (by omega) k1 k2 (by omega) h4' b1 b2 b3 b4))
      have own7 : ∀ v' : Nat, v' + (l.drop (i + 1)).countP loadS = V → ownerS x = true → A21_7 Q (I v') (I s) (I w) (I n) (I x) (.slice (some ⟨b, o, none⟩) l.length c) (I l.length) (I i) h := fun v' k1 k2 => by
        rw [k2, if_pos rfl] at h2
        exact b21_7 (r_addI (by omega) (store_ok ho hs (r_brb (fin9 v' (s + 1) k1 (by omega)) (fin10 v' (s + 1) k1 (by omega)))))
      have own8 : ∀ v' : Nat, v' + (l.drop (i + 1)).countP loadS = V → ownerS x = false → A21_8 Q (I v') (I s) (I w) (I n) (I x) (.slice (some ⟨b, o, none⟩) l.length c) (I l.length) (I i) h := fun v' k1 k2 => by
        rw [k2, if_neg (by decide)] at h2
        exact b21_8 (store_ok ho hs (r_brb (fin9 v' s k1 (by omega)) (fin10 v' s k1 (by omega))))
      refine r_brb (fun k => b21_5 ?_) (fun k => b21_6 ?_)
      · rw [k, if_pos rfl] at h1
        exact r_addI (by omega) (owner_ok ho hs (r_brb (own7 (v + 1) (by omega)) (own8 (v + 1) (by omega))))
      · rw [k, if_neg (by decide)] at h1
        exact owner_ok ho hs (r_brb (own7 v (by omega)) (own8 v (by omega)))
    · obtain ⟨z1, z2, _, z4⟩ := isS_no c1
      rw [z1, if_neg (by decide)] at h1
      rw [z4, if_neg (by decide)] at h2
      rw [z2, if_neg (by decide)] at h3
      rw [c1] at h4
      exact r_addI (by omega) (r_addI (by omega) (ih (i + 1) v s w (n + 1) (by omega) (by omega) (by omega) (by omega) (by simp at h4; omega) b1 b2 b3 b4))
theorem fit_ok {l : List Int} {e : TypeId} {a : Option Addr} {c : Nat} (ho : Ob G 1 rowsE) (hl : l.length ≤ 2 ^ 41) (hs : Hs G h L) [m : Has (slc 1 e a c) L (l.length, l.map I) L'] (hk : Q (.bool (fitS l)) h) : Cl Pr K 21 [.slice a l.length c] h Q := by
  refine c21 (b21_0 (r_lenS ?_))
  have e1 : fitS l = (decide (l.countP (fun x => !isS x) = 0) && decide (l.countP ownerS ≤ 1) && (decide (l.countP storeS = 0) || decide (l.countP loadS = 1))) := by
    unfold fitS
    congr 2
    rw [Bool.eq_iff_iff, List.all_eq_true, decide_eq_true_eq, List.countP_eq_zero]
    simp
  rw [e1] at hk
  have b : ∀ p : Int → Bool, l.countP p ≤ 2 ^ 41 := fun p => Nat.le_trans List.countP_le_length hl
  exact fit_loop rfl ho hl (m.of hs) hk l.length 0 0 0 0 0 (by omega) (by simp) (by simp) (by simp) (by simp) (b _) (b _) (b _) (b _)
end Go.Proofs.YtemlagiabnkceaaDoor
end
section
namespace Go.Proofs.YtemlagiabnkceaaDoor
open Go Go.Ab Go.Hm Go.Ct Go.Sf
attribute [local irreducible] thn Br ld1 ldN stV alc alcAt alcS alcSAt resv padd nilV extV part1 partN lenS lenT biI biT biB biP biS biF biE biA unV idxS idxA pickV appV copyV clearV slS slA slT mkS blkOf at1 atN atS convI convS minV maxV Cl OkF OkR EndX endV beginV defersOf setLoop closeMarks
variable {G : Bg} {h : AH} {L L' M : List HP} {S : Shot} {v0 v1 v2 v3 v4 : Value} {C : Cfg} {p q : Nat} {Q : Value → AH → Prop}
theorem on_len (hl : LimS S) (line : Int) : (S.on line).length ≤ 2 ^ 40 := Nat.le_trans (List.length_filter_le _ _) hl.1
theorem pre_len {α : Type} {done xs : List α} {x : α} (h : done ++ [x] <+: xs) : done.length < xs.length := by
  have := h.length_le
  simp at this
  omega
/-- a list as it grows -/
def gr (W : Nat) (t : TypeId) (p4 : Nat) (l : List (List Value)) : HP := exH fun x : Option Addr × Nat => sp [seg p4 0 [.slice x.1 l.length x.2], slc W t x.1 x.2 (l.length, l.flatten)]
theorem gr0 {W : Nat} {t : TypeId} {p4 : Nat} (hs : Hs G h (seg p4 0 [.slice none 0 0] :: L)) : Hs G h (gr W t p4 [] :: L) :=
  Hs.exI (none, 0) (Hs.pack (A := [_, _]) (slc_nil hs).at2)
theorem grE {W : Nat} {t : TypeId} {p4 : Nat} {l : List (List Value)} (hs : Hs G h L) [m : Has (gr W t p4) L l L'] : ∃ a c, Hs G h (seg p4 0 [.slice a l.length c] :: slc W t a c (l.length, l.flatten) :: L') := by
  obtain ⟨⟨a, c⟩, hs⟩ := (m.of hs).exE
  exact ⟨a, c, hs.unpack⟩
theorem grI {W : Nat} {t : TypeId} {p4 n : Nat} {l : List (List Value)} {cs : List Value} {a : Option Addr} {c : Nat} (hs : Hs G h L) [m : Has (seg p4 0) L [.slice a n c] L'] [m2 : Has (slc W t a c) L' (n, cs) M] (hn : n = l.length) (hc : cs = l.flatten) : Hs G h (gr W t p4 l :: M) := by
  subst hn; subst hc
  exact Hs.exI (a, c) (Hs.pack (A := [_, _]) (hs.perm (m.perm.trans (m2.perm.cons _))))
abbrev stX (p4 : Nat) (e : Nat → Value) (d l : Nat) (done : List SCopy) : HP := sp [lpT Pr 15 (dcd 58) 19 e d l (.ready, none), gr 1 3 p4 (done.map fun o => [I o.state])]
theorem states_ok {line : Int} (hl : LimS S) (ho : Ob G 1 rowsE) (hs : Hs G h (shotH G ⟨S, v0, v1, v2, v3, v4⟩ :: L)) (hk : ∀ h', Hs G h' (shotH G ⟨S, v0, v1, v2, v3, v4⟩ :: L) → Q (.bool (!fitS ((S.on line).map (·.state)))) h') :
    Cl Pr K 15 [.agg ⟨[v0, v1, v2, v3, v4]⟩, I line] h Q := by
  have h40 := on_len hl line
  refine c15 (b15_0 (r_bx hs fun p2 h hs => r_new hs fun p4 h hs => ?_))
  refine r_ldN hs (by decide) (l := [v0, v1, v2, v3, v4]) rfl rfl (copies_ok hs fun p q h hs => r_marks hs fun d h hs => ?_)
  intro e he
  refine r_loop hs fun l h hs => r_okR rfl ?_
  have hs : Hs G h (itA G S v0 v1 v2 v3 v4 p q line :: sp [lpT Pr 15 (dcd 58) 19 e d l (.ready, none), gr 1 3 p4 []] :: mk d () :: L) :=
    (gr0 (W := 1) (t := 3) (hs.front (seg p4 0 [.slice none 0 0]))).to
  refine (copies_y (p := p) (q := q) (line := line) hl).fold (X := stX p4 e d l) (Z := fun _ _ => puH False) hs ?_ ?_ ?_
  · intro done x h M hp hs
    have hlen := pre_len hp
    obtain ⟨a, c, hs⟩ := grE (W := 1) (t := 3) (p4 := p4) (show Hs G h (_ :: _ :: M) from hs.unpack)
    refine r15_0 (r_atv hs) he (b15_1 ?_)
    refine r_new hs fun p1 h hs => ?_
    refine r_stW hs rfl rfl rfl rfl fun h hs => ?_
    refine r_beginv hs fun h hs => r_ld hs rfl (r_padd (r_ld hs rfl (r_fill (c := [I x.state]) rfl (r_newS hs rfl rfl rfl fun a2 h hs => ?_))))
    refine r_appS hs (by simp; omega) fun a3 c3 h hs => ?_
    dsimp only
    refine r_stW hs rfl rfl rfl rfl fun h hs => ?_
    refine r_setv hs fun h hs => .inl ⟨rfl, ?_⟩
    exact (grI (W := 1) (t := 3) (p4 := p4) (l := (done ++ [x]).map fun o => [I o.state]) hs (by simp) (by simp)).to
  · intro v h hs
    have hs := (show Hs G h (_ :: _ :: _ :: stX p4 e d l (S.on line) :: mk d () :: L) from hs.unpack)
    obtain ⟨a, c, hs⟩ := grE (W := 1) (t := 3) (p4 := p4) (show Hs G h (_ :: _ :: _ :: _) from (hs.front (stX p4 e d l (S.on line))).unpack)
    refine r_endv hs fun h hs => r_endN (r_ld hs rfl ?_)
    have e1 : ((S.on line).map fun o => [I o.state]).flatten = ((S.on line).map (·.state)).map I := by simp [List.flatten_eq_flatMap, List.flatMap_map, ← List.map_eq_flatMap]
    rw [e1] at hs
    have eL : (S.on line).length = ((S.on line).map (·.state)).length := by simp
    rw [List.length_map, eL] at hs
    rw [List.length_map, eL]
    refine fit_ok (e := 3) (a := a) (c := c) (l := (S.on line).map fun o : SCopy => o.state) ho (by simp; omega) hs ?_
    refine r_not (r_cm1 hs fun h hs => r_cm0 (hk _ hs.to))
  · intro done x v h hp hs
    exact (Hs.puE hs.at2).1.elim
def pr2 (o : SCopy) : Ln2 := (o.d0, o.d1)
abbrev daX (p4 : Nat) (e : Nat → Value) (d l : Nat) (done : List SCopy) : HP := sp [lpT Pr 16 (dcd 58) 24 e d l (.ready, none), gr 2 32 p4 ((done.map pr2).map Sf.lnE)]
/-- is there one that is not as the first one? -/
theorem index_loop {l : List Ln2} {y : Ln2} {e : TypeId} {a : Option Addr} {c p4 : Nat} {v5 : Value} (h5 : v5 = I l.length) (hl : l.length ≤ 2 ^ 41) (h0 : l[0]? = some y)
    (hk : ∀ (r : Int) h', (0 ≤ r ↔ (l.any fun x => decide (x ≠ y)) = true) → Hs G h' (rdS G 2 e (.slice a l.length c) (l.map Sf.lnE) :: seg p4 0 [.slice a l.length c] :: L) → Q (I r) h') :
    ∀ (f i : Nat) (h : AH), i + f = l.length → (l.any fun x => decide (x ≠ y)) = ((l.drop i).any fun x => decide (x ≠ y)) → Hs G h (rdS G 2 e (.slice a l.length c) (l.map Sf.lnE) :: seg p4 0 [.slice a l.length c] :: L) →
      A31_1 Q (.slice a l.length c) (.func (.func 23) #[] #[pt p4 0 0]) v5 (I i) h := by
  subst h5
  intro f
  induction f with
  | zero =>
    intro i h hi he hs
    rw [List.drop_of_length_le (by omega)] at he
    exact b31_1 (r_ltI (r_brF (by omega) (hk _ _ (by rw [he]; simp) hs)))
  | succ f ih =>
    intro i h hi he hs
    obtain ⟨x, hx, hd⟩ := at_lt (l := l) (i := i) (by omega)
    rw [hd, List.any_cons] at he
    refine b31_1 (r_ltI (r_brT (by omega) (b31_2 (r_rd hs (by decide) (i := i) (x := Sf.lnE x) (by simp [hx]) ?_))))
    refine r_okF rfl (c23 (b23_0 (r_bx hs fun p2 h hs => r_resv hs fun r h hs => r_ldN hs (by decide) (l := Sf.lnE x) rfl rfl (r_ld hs rfl ?_))))
    have hs1 := hs.front (rdS G 2 e (.slice a l.length c) (l.map Sf.lnE))
    refine r_rd (i := 0) (x := Sf.lnE y) hs1 (by decide) (by simp [h0]) (r_ne2 ?_)
    refine r_brb (fun h1 => hk _ _ ⟨fun _ => ?_, fun _ => by omega⟩ hs.to) (fun h1 => b31_3 (r_addI (by omega) (ih (i + 1) _ (by omega) ?_ hs.to)))
    · rw [he]
      rw [show decide (x ≠ y) = true from h1]; rfl
    · rw [he]
      rw [show decide (x ≠ y) = false from h1]; rfl
theorem datas_ok {line : Int} (hl : LimS S) (hs : Hs G h (shotH G ⟨S, v0, v1, v2, v3, v4⟩ :: L)) (hk : ∀ h', Hs G h' (shotH G ⟨S, v0, v1, v2, v3, v4⟩ :: L) → Q (.bool (diff ((S.on line).map pr2))) h') :
    Cl Pr K 16 [.agg ⟨[v0, v1, v2, v3, v4]⟩, I line] h Q := by
  have h40 := on_len hl line
  refine c16 (b16_0 (r_bx hs fun p2 h hs => r_new hs fun p4 h hs => ?_))
  refine r_ldN hs (by decide) (l := [v0, v1, v2, v3, v4]) rfl rfl (copies_ok hs fun p q h hs => r_marks hs fun d h hs => ?_)
  intro e he
  refine r_loop hs fun l h hs => r_okR rfl ?_
  have hs : Hs G h (itA G S v0 v1 v2 v3 v4 p q line :: sp [lpT Pr 16 (dcd 58) 24 e d l (.ready, none), gr 2 32 p4 []] :: mk d () :: L) :=
    (gr0 (W := 2) (t := 32) (hs.front (seg p4 0 [.slice none 0 0]))).to
  refine (copies_y (p := p) (q := q) (line := line) hl).fold (X := daX p4 e d l) (Z := fun _ _ => puH False) hs ?_ ?_ ?_
  · intro done x h M hp hs
    have hlen := pre_len hp
    obtain ⟨a, c, hs⟩ := grE (W := 2) (t := 32) (p4 := p4) (show Hs G h (_ :: _ :: M) from hs.unpack)
    refine r16_0 (r_atv hs) he (b16_1 ?_)
    refine r_new hs fun p1 h hs => ?_
    refine r_stW hs rfl rfl rfl rfl fun h hs => ?_
    refine r_beginv hs fun h hs => r_ld hs rfl (r_padd (r_ldN hs (by decide) (l := Sf.lnE (pr2 x)) rfl rfl (r_fill (c := Sf.lnE (pr2 x)) rfl (r_newS hs rfl rfl rfl fun a2 h hs => ?_))))
    refine r_appS hs (by simp; omega) fun a3 c3 h hs => ?_
    dsimp only
    refine r_stW hs rfl rfl rfl rfl fun h hs => ?_
    refine r_setv hs fun h hs => .inl ⟨rfl, ?_⟩
    exact (grI (W := 2) (t := 32) (p4 := p4) (l := ((done ++ [x]).map pr2).map Sf.lnE) hs (by simp) (by simp)).to
  · intro v h hs
    have hs := (show Hs G h (_ :: _ :: _ :: daX p4 e d l (S.on line) :: mk d () :: L) from hs.unpack)
    obtain ⟨a, c, hs⟩ := grE (W := 2) (t := 32) (p4 := p4) (show Hs G h (_ :: _ :: _ :: _) from (hs.front (daX p4 e d l (S.on line))).unpack)
    simp only [List.length_map] at hs
    refine r_endv hs fun h hs => r_endN (r_ld hs rfl (r_lenS (r_gtI (r_br (fun h1 => ?_) (fun h1 => ?_)))))
    · refine r_ld hs rfl (c22 (b22_0 (c31 (b31_0 (r_lenS ?_)))))
      have hs := rd_own (l := (((S.on line).map pr2).map Sf.lnE)) (by intro x hx; simp only [List.mem_map] at hx; obtain ⟨y, _, rfl⟩ := hx; rfl) (by simp) rfl (hs.front (slc 2 32 a c ((S.on line).length, (((S.on line).map pr2).map Sf.lnE).flatten)))
      obtain ⟨y, hy⟩ : ∃ y, ((S.on line).map pr2)[0]? = some y := ⟨_, List.getElem?_eq_getElem (by simp; omega)⟩
      have eL : (S.on line).length = ((S.on line).map pr2).length := by simp
      rw [eL] at hs ⊢
      refine index_loop (e := 32) (L := shotH G ⟨S, v0, v1, v2, v3, v4⟩ :: mk d () :: L) (l := (S.on line).map pr2) (p4 := p4) rfl (by simp; omega) hy (fun r h hr hs => ?_) ((S.on line).map pr2).length 0 h (by omega) rfl hs.to
      refine r_geI (r_cm1 hs fun h hs => r_cm0 ?_)
      have := hk h hs.to
      have e2 : diff ((S.on line).map pr2) = decide (0 ≤ r) := by
        rw [Bool.eq_iff_iff, decide_eq_true_eq, hr]
        cases hm : (S.on line).map pr2 with
        | nil => rw [hm] at hy; cases hy
        | cons z zs =>
          rw [hm] at hy
          simp only [List.getElem?_cons_zero, Option.some.injEq] at hy
          subst hy
          simp [diff]
      rw [e2] at this
      exact this
    · refine r_cm1 hs fun h hs => r_cm0 ?_
      have := hk h hs.to
      rw [show S.on line = [] from List.eq_nil_of_length_eq_zero (by omega)] at this
      exact this
  · intro done x v h hp hs
    exact (Hs.puE hs.at2).1.elim
end Go.Proofs.YtemlagiabnkceaaDoor
end
section
namespace Go.Proofs.YtemlagiabnkceaaDoor
open Go Go.Ab Go.Hm Go.Ct Go.Sf
attribute [local irreducible] thn Br ld1 ldN stV alc alcAt alcS alcSAt resv padd nilV extV part1 partN lenS lenT biI biT biB biP biS biF biE biA unV idxS idxA pickV appV copyV clearV slS slA slT mkS blkOf at1 atN atS convI convS minV maxV Cl OkF OkR EndX endV beginV defersOf setLoop closeMarks
variable {G : Bg} {h : AH} {L L' M : List HP} {S : Shot} {v0 v1 v2 v3 v4 : Value} {C : Cfg} {p q : Nat} {Q : Value → AH → Prop}
theorem entry_at {g : Int} (h0 : 0 ≤ g) (h : g < S.table.length) : S.table[g.toNat]? = some (S.entry g) := by
  unfold Shot.entry
  rw [List.getD_eq_getElem?_getD]
  have : g.toNat < S.table.length := by omega
  simp [this]
theorem entry_ok {line : Int} (hC : C.Ok) (hT : (S.table.length : Int) = C.granules) (hg : Ob G 0 limE) (h0 : 0 ≤ line ∧ line < C.lines) (hs : Hs G h (shotH G ⟨S, v0, v1, v2, v3, v4⟩ :: L)) (hk : ∀ h', Hs G h' (shotH G ⟨S, v0, v1, v2, v3, v4⟩ :: L) → Q (.agg ⟨(S.entry (line / 2)).enc⟩) h') :
    Cl Pr K 24 [.agg ⟨C.enc⟩, .agg ⟨[v0, v1, v2, v3, v4]⟩, I line] h Q := by
  have hb := Cfg.lines_eq hC
  refine c24 (b24_0 (r_bx hs fun p h hs => r_bx hs fun q h hs => r_new hs fun p7 h hs => ?_))
  refine r_ldN hs (by decide) (l := C.enc) rfl rfl (gran_ok hC hg h0 hs fun h hs => r_ext rfl (r_ext rfl (r_padd (r_ld hs rfl ?_))))
  have := entry_at (S := S) (g := line / 2) (by omega) (by omega)
  have e2 : I (line / 2) = I ((line / 2).toNat : Nat) := by rw [Int.toNat_of_nonneg (by omega)]
  rw [e2]
  refine r_en hs this ?_
  refine r_stW hs rfl rfl rfl rfl fun h hs => ?_
  refine r_ldN hs (by decide) (l := (S.entry (line / 2)).enc) rfl rfl ?_
  exact hk _ hs.to
theorem all_snoc {α : Type} {l : List α} {x : α} {f : α → Bool} (h1 : l.any f = false) (h2 : f x = false) : (l ++ [x]).any f = false := by
  rw [List.any_append, h1]
  simp [h2]
theorem any_pre {α : Type} {l xs : List α} {x : α} {f : α → Bool} (h : l ++ [x] <+: xs) (hx : f x = true) : xs.any f = true := by
  obtain ⟨ys, rfl⟩ := h
  simp [hx]
abbrev taX (f : FuncId) (p7 p12 : Nat) (en : SEn) (e : Nat → Value) (d l : Nat) (b : Bool) (z : LoopState × Option Code) (c : Prop) : HP := sp [puH c, lpT Pr f (dcd 58) 27 e d l z, seg p7 0 [.bool b], seg p12 0 en.enc]
theorem tags_ok {line : Int} (hl : LimS S) (hC : C.Ok) (hT : (S.table.length : Int) = C.granules) (hg : Ob G 0 limE) (h0 : 0 ≤ line ∧ line < C.lines) (hs : Hs G h (shotH G ⟨S, v0, v1, v2, v3, v4⟩ :: L)) (hk : ∀ h', Hs G h' (shotH G ⟨S, v0, v1, v2, v3, v4⟩ :: L) → Q (.bool ((S.on line).any fun o => tagW (S.entry (line / 2)) o.world)) h') :
    Cl Pr K 17 [.agg ⟨C.enc⟩, .agg ⟨[v0, v1, v2, v3, v4]⟩, I line] h Q := by
  refine c17 (b17_0 (r_bx hs fun p2 h hs => r_bx hs fun p5 h hs => r_new hs fun p7 h hs => ?_))
  refine r_ldN hs (by decide) (l := C.enc) rfl rfl (r_ldN hs (by decide) (l := [v0, v1, v2, v3, v4]) rfl rfl ?_)
  refine entry_ok (L := seg p7 0 [.bool false] :: seg p5 0 [v0, v1, v2, v3, v4] :: L) hC hT hg h0 hs.to fun h hs => r_new hs fun p12 h hs => ?_
  refine r_stW hs rfl rfl rfl rfl fun h hs => ?_
  refine r_ldN hs (by decide) (l := [v0, v1, v2, v3, v4]) rfl rfl (copies_ok hs fun p q h hs => r_marks hs fun d h hs => ?_)
  intro e he
  refine r_loop hs fun l h hs => r_okR rfl ?_
  have hs : Hs G h (itA G S v0 v1 v2 v3 v4 p q line :: taX 17 p7 p12 (S.entry (line / 2)) e d l false (.ready, none) (([] : List SCopy).any (fun o => tagW (S.entry (line / 2)) o.world) = false) :: mk d () :: L) := by
    refine Hs.at2 (sp_pu rfl (Hs.pk3 ?_))
    have hs := hs.front3 (lpT Pr 17 (dcd 58) 27 e d l (.ready, none)) (seg p7 0 [.bool false]) (seg p12 0 (S.entry (line / 2)).enc)
    exact hs.to
  refine (copies_y (p := p) (q := q) (line := line) hl).fold (X := fun done => taX 17 p7 p12 (S.entry (line / 2)) e d l false (.ready, none) (done.any (fun o => tagW (S.entry (line / 2)) o.world) = false))
    (Z := fun _ x => taX 17 p7 p12 (S.entry (line / 2)) e d l true (.done, some .ret) (tagW (S.entry (line / 2)) x.world = true)) hs ?_ ?_ ?_
  · intro done x h M hp hs
    obtain ⟨hd, hs1⟩ := sp_puE hs
    clear hs
    have hs := hs1.un3
    have back : ∀ h', tagW (S.entry (line / 2)) x.world = false → Hs G h' (lpT Pr 17 (dcd 58) 27 e d l (.ready, none) :: seg p7 0 [.bool false] :: seg p12 0 (S.entry (line / 2)).enc :: M) → Hs G h' (taX 17 p7 p12 (S.entry (line / 2)) e d l false (.ready, none) ((done ++ [x]).any (fun o => tagW (S.entry (line / 2)) o.world) = false) :: M) := fun h' hx hs =>
      sp_pu (all_snoc hd hx) (Hs.pk3 hs)
    refine r17_0 (r_atv hs) he (b17_1 ?_)
    refine r_new hs fun p1 h hs => ?_
    refine r_stW hs rfl rfl rfl rfl fun h hs => ?_
    refine r_beginv hs fun h hs => r_padd (r_ld hs rfl (r_not (r_brn (r_brb (fun c1 => ?_) (fun c1 => ?_)))))
    · refine r_setv hs fun h hs => .inl ⟨rfl, back _ ?_ hs.to⟩
      unfold tagW; rw [c1]; rfl
    · refine r_padd (r_ld hs rfl (r_padd (r_ld hs rfl (r_neI (r_br (fun c2 => ?_) (fun c2 => ?_))))))
      · refine r_stW hs rfl rfl rfl rfl fun h hs => r_setv hs fun h hs => .inr ⟨rfl, ?_⟩
        refine sp_pu (by unfold tagW; rw [c1, decide_eq_true c2]; rfl) (Hs.pk3 ?_)
        exact hs.to
      · refine r_setv hs fun h hs => .inl ⟨rfl, back _ ?_ hs.to⟩
        unfold tagW; rw [decide_eq_false c2]; simp
  · intro v h hs
    have hs := (hs.un3.front (taX 17 p7 p12 (S.entry (line / 2)) e d l false (.ready, none) ((S.on line).any (fun o => tagW (S.entry (line / 2)) o.world) = false)))
    obtain ⟨hd, hs1⟩ := sp_puE hs
    clear hs
    rw [hd] at hk
    have hs := hs1.un3
    refine r_endv hs fun h hs => r_endN ?_
    refine r_stW hs rfl rfl rfl rfl fun h hs => r_cm1 hs fun h hs => r_cm0 (r_ld hs rfl (hk _ hs.to))
  · intro done x v h hp hs
    have hs := (hs.un3.front (taX 17 p7 p12 (S.entry (line / 2)) e d l true (.done, some .ret) (tagW (S.entry (line / 2)) x.world = true)))
    obtain ⟨hd, hs1⟩ := sp_puE hs
    clear hs
    rw [any_pre hp hd] at hk
    have hs := hs1.un3
    refine r_endd hs fun h hs => r_endR ?_
    refine r_cm1 hs fun h hs => r_cm0 (r_ld hs rfl (hk _ hs.to))
theorem granted_ok {line : Int} (hl : LimS S) (hC : C.Ok) (hT : (S.table.length : Int) = C.granules) (hg : Ob G 0 limE) (h0 : 0 ≤ line ∧ line < C.lines) (hs : Hs G h (shotH G ⟨S, v0, v1, v2, v3, v4⟩ :: L)) (hk : ∀ h', Hs G h' (shotH G ⟨S, v0, v1, v2, v3, v4⟩ :: L) → Q (.bool ((S.gr line).any fun o => tagW (S.entry (line / 2)) o.world)) h') :
    Cl Pr K 19 [.agg ⟨C.enc⟩, .agg ⟨[v0, v1, v2, v3, v4]⟩, I line] h Q := by
  refine c19 (b19_0 (r_bx hs fun p2 h hs => r_bx hs fun p5 h hs => r_new hs fun p7 h hs => ?_))
  refine r_ldN hs (by decide) (l := C.enc) rfl rfl (r_ldN hs (by decide) (l := [v0, v1, v2, v3, v4]) rfl rfl ?_)
  refine entry_ok (L := seg p7 0 [.bool false] :: seg p5 0 [v0, v1, v2, v3, v4] :: L) hC hT hg h0 hs.to fun h hs => r_new hs fun p12 h hs => ?_
  refine r_stW hs rfl rfl rfl rfl fun h hs => ?_
  refine r_ldN hs (by decide) (l := [v0, v1, v2, v3, v4]) rfl rfl (grants_ok hs fun p q h hs => r_marks hs fun d h hs => ?_)
  intro e he
  refine r_loop hs fun l h hs => r_okR rfl ?_
  have hs : Hs G h (itA G S v0 v1 v2 v3 v4 p q line :: taX 19 p7 p12 (S.entry (line / 2)) e d l false (.ready, none) (([] : List Note).any (fun o => tagW (S.entry (line / 2)) o.world) = false) :: mk d () :: L) := by
    refine Hs.at2 (sp_pu rfl (Hs.pk3 ?_))
    have hs := hs.front3 (lpT Pr 19 (dcd 58) 27 e d l (.ready, none)) (seg p7 0 [.bool false]) (seg p12 0 (S.entry (line / 2)).enc)
    exact hs.to
  refine (grants_y (p := p) (q := q) (line := line) hl).fold (X := fun done => taX 19 p7 p12 (S.entry (line / 2)) e d l false (.ready, none) (done.any (fun o => tagW (S.entry (line / 2)) o.world) = false))
    (Z := fun _ x => taX 19 p7 p12 (S.entry (line / 2)) e d l true (.done, some .ret) (tagW (S.entry (line / 2)) x.world = true)) hs ?_ ?_ ?_
  · intro done x h M hp hs
    obtain ⟨hd, hs1⟩ := sp_puE hs
    clear hs
    have hs := hs1.un3
    have back : ∀ h', tagW (S.entry (line / 2)) x.world = false → Hs G h' (lpT Pr 19 (dcd 58) 27 e d l (.ready, none) :: seg p7 0 [.bool false] :: seg p12 0 (S.entry (line / 2)).enc :: M) → Hs G h' (taX 19 p7 p12 (S.entry (line / 2)) e d l false (.ready, none) ((done ++ [x]).any (fun o => tagW (S.entry (line / 2)) o.world) = false) :: M) := fun h' hx hs =>
      sp_pu (all_snoc hd hx) (Hs.pk3 hs)
    refine r19_0 (r_atv hs) he (b19_1 ?_)
    refine r_new hs fun p1 h hs => ?_
    refine r_stW hs rfl rfl rfl rfl fun h hs => ?_
    refine r_beginv hs fun h hs => r_padd (r_ld hs rfl (r_not (r_brn (r_brb (fun c1 => ?_) (fun c1 => ?_)))))
    · refine r_setv hs fun h hs => .inl ⟨rfl, back _ ?_ hs.to⟩
      unfold tagW; rw [c1]; rfl
    · refine r_padd (r_ld hs rfl (r_padd (r_ld hs rfl (r_neI (r_br (fun c2 => ?_) (fun c2 => ?_))))))
      · refine r_stW hs rfl rfl rfl rfl fun h hs => r_setv hs fun h hs => .inr ⟨rfl, ?_⟩
        refine sp_pu (by unfold tagW; rw [c1, decide_eq_true c2]; rfl) (Hs.pk3 ?_)
        exact hs.to
      · refine r_setv hs fun h hs => .inl ⟨rfl, back _ ?_ hs.to⟩
        unfold tagW; rw [decide_eq_false c2]; simp
  · intro v h hs
    have hs := (hs.un3.front (taX 19 p7 p12 (S.entry (line / 2)) e d l false (.ready, none) ((S.gr line).any (fun o => tagW (S.entry (line / 2)) o.world) = false)))
    obtain ⟨hd, hs1⟩ := sp_puE hs
    clear hs
    rw [hd] at hk
    have hs := hs1.un3
    refine r_endv hs fun h hs => r_endN ?_
    refine r_stW hs rfl rfl rfl rfl fun h hs => r_cm1 hs fun h hs => r_cm0 (r_ld hs rfl (hk _ hs.to))
  · intro done x v h hp hs
    have hs := (hs.un3.front (taX 19 p7 p12 (S.entry (line / 2)) e d l true (.done, some .ret) (tagW (S.entry (line / 2)) x.world = true)))
    obtain ⟨hd, hs1⟩ := sp_puE hs
    clear hs
    rw [any_pre hp hd] at hk
    have hs := hs1.un3
    refine r_endd hs fun h hs => r_endR ?_
    refine r_cm1 hs fun h hs => r_cm0 (r_ld hs rfl (hk _ hs.to))
end Go.Proofs.YtemlagiabnkceaaDoor
end
section
namespace Go.Proofs.YtemlagiabnkceaaDoor
open Go Go.Ab Go.Hm Go.Ct Go.Sf
attribute [local irreducible] thn Br ld1 ldN stV alc alcAt alcS alcSAt resv padd nilV extV part1 partN lenS lenT biI biT biB biP biS biF biE biA unV idxS idxA pickV appV copyV clearV slS slA slT mkS blkOf at1 atN atS convI convS minV maxV Cl OkF OkR EndX endV beginV defersOf setLoop closeMarks
variable {G : Bg} {h : AH} {L L' M : List HP} {S : Shot} {v0 v1 v2 v3 v4 : Value} {C : Cfg} {p q : Nat} {Q : Value → AH → Prop}
theorem knows_loop {g : Int} {p8 : Nat} {v5 : Value} (hl : LimS S) (h5 : v5 = I S.known.length)
    (hk : ∀ h', Hs G h' (seg p8 0 (S.entry g).enc :: shotH G ⟨S, v0, v1, v2, v3, v4⟩ :: L) → Q (.bool (S.known.any fun k => !(S.entry g).locked && (decide (k.granule = g) && decide (k.owner ≠ (S.entry g).owner)))) h') :
    ∀ (f i : Nat) (h : AH), i + f = S.known.length → (S.known.any fun k => !(S.entry g).locked && (decide (k.granule = g) && decide (k.owner ≠ (S.entry g).owner))) = ((S.known.drop i).any fun k => !(S.entry g).locked && (decide (k.granule = g) && decide (k.owner ≠ (S.entry g).owner))) →
      Hs G h (seg p8 0 (S.entry g).enc :: shotH G ⟨S, v0, v1, v2, v3, v4⟩ :: L) → A18_1 Q (I g) (pt p8 0 0) v1 v5 (I i) h := by
  subst h5
  intro f
  induction f with
  | zero =>
    intro i h hi he hs
    refine b18_1 (r_ltI (r_brF (by omega) ?_))
    have := hk _ hs
    rw [he, List.drop_of_length_le (by omega)] at this
    exact this
  | succ f ih =>
    intro i h hi he hs
    obtain ⟨x, hx, hd⟩ := at_lt (l := S.known) (i := i) (by omega)
    rw [hd, List.any_cons] at he
    have next : (!(S.entry g).locked && (decide (x.granule = g) && decide (x.owner ≠ (S.entry g).owner))) = false → (S.known.any fun k => !(S.entry g).locked && (decide (k.granule = g) && decide (k.owner ≠ (S.entry g).owner))) = ((S.known.drop (i + 1)).any fun k => !(S.entry g).locked && (decide (k.granule = g) && decide (k.owner ≠ (S.entry g).owner))) := fun hh => by
      rw [he, hh]; rfl
    refine b18_1 (r_ltI (r_brT (by omega) (b18_2 (r_kn hs hx (r_new hs fun p3 h hs => ?_)))))
    refine r_stW hs rfl rfl rfl rfl fun h hs => ?_
    refine r_padd (r_ld hs rfl (r_not (r_brn (r_brb (fun c1 => ?_) (fun c1 => ?_)))))
    · exact r_addI (by unfold LimS at hl; omega) (ih (i + 1) _ (by omega) (next (by rw [c1]; rfl)) hs.tail)
    · refine r_padd (r_ld hs rfl (r_eqI (r_br (fun c2 => ?_) (fun c2 => ?_))))
      · refine r_padd (r_ld hs rfl (r_padd (r_ld hs rfl (r_neI (r_br (fun c3 => ?_) (fun c3 => ?_))))))
        · have := hk _ hs.tail
          rw [he, c1, decide_eq_true c2, decide_eq_true c3] at this
          exact this
        · exact b18_3 (r_addI (by unfold LimS at hl; omega) (ih (i + 1) _ (by omega) (next (by rw [decide_eq_false c3]; simp)) hs.tail))
      · exact r_addI (by unfold LimS at hl; omega) (ih (i + 1) _ (by omega) (next (by rw [decide_eq_false c2]; simp)) hs.tail)
theorem knows_ok {g : Int} (hl : LimS S) (h0 : 0 ≤ g ∧ g < S.table.length) (hs : Hs G h (shotH G ⟨S, v0, v1, v2, v3, v4⟩ :: L)) (hk : ∀ h', Hs G h' (shotH G ⟨S, v0, v1, v2, v3, v4⟩ :: L) → Q (.bool (S.known.any fun k => !(S.entry g).locked && (decide (k.granule = g) && decide (k.owner ≠ (S.entry g).owner)))) h') :
    Cl Pr K 18 [.agg ⟨[v0, v1, v2, v3, v4]⟩, I g] h Q := by
  refine c18 (b18_0 (r_bx hs fun p2 h hs => r_padd (r_ld hs rfl ?_)))
  have := entry_at (S := S) (g := g) h0.1 h0.2
  have step : ∀ z : Value, z = I g → thn (idxS 2 v2 z) fun v5 => thn (ldN h 2 v5) fun v6 => alc h (.cells [I 0, .bool false] 67 (0, 0) true) fun p8 h7 => thn (stV h7 2 (pt p8 0 0) v6) fun h9 => thn (padd 1 (pt p2 0 0)) fun v10 => thn (ld1 h9 v10) fun v11 => thn (lenS v11) fun v12 => A18_1 Q (I g) (pt p8 0 0) v11 v12 (I 0) h9 := by
    intro z hz
    rw [show z = I (g.toNat : Nat) by rw [hz, Int.toNat_of_nonneg h0.1]]
    refine r_en hs this (r_new hs fun p8 h hs => ?_)
    refine r_stW hs rfl rfl rfl rfl fun h hs => r_padd (r_ld hs rfl (r_len1 hs ?_))
    exact knows_loop hl rfl (L := L) (fun h hs => hk _ hs.tail) S.known.length 0 h (by omega) rfl hs.to
  exact step _ rfl
theorem wrong_ok {what at' : Int} (hl : LimS S) (hC : C.Ok) (hT : (S.table.length : Int) = C.granules) (hg : Ob G 0 limE) (ho : Ob G 1 rowsE) (hw : 1 ≤ what ∧ what ≤ 5) (h0 : 0 ≤ at' ∧ at' < places C what)
    (hs : Hs G h (shotH G ⟨S, v0, v1, v2, v3, v4⟩ :: L)) (hk : ∀ h', Hs G h' (shotH G ⟨S, v0, v1, v2, v3, v4⟩ :: L) → Q (.bool (S.wrong what at')) h') :
    Cl Pr K 14 [.agg ⟨C.enc⟩, .agg ⟨[v0, v1, v2, v3, v4]⟩, .agg ⟨[I what, I at']⟩] h Q := by
  have hb := Cfg.lines_eq hC
  refine c14 (b14_0 (r_bx hs fun p2 h hs => r_bx hs fun p5 h hs => r_bx hs fun p8 h hs => ?_))
  refine r_padd (r_ld hs rfl (r_eqI (r_br (fun c => ?_) (fun n1 => b14_1 (r_eqI (r_br (fun c => ?_) (fun n2 => b14_2 (r_eqI (r_br (fun c => ?_) (fun n3 => b14_3 (r_eqI (r_br (fun c => ?_) (fun n4 => b14_4 (r_eqI (r_brT (by omega) ?_)))))))))))))))
  · subst c
    exact r_ldN hs (by decide) (l := [v0, v1, v2, v3, v4]) rfl rfl (r_padd (r_ld hs rfl (states_ok hl ho (hs.front (shotH G ⟨S, v0, v1, v2, v3, v4⟩)) fun h hs => hk _ hs.to)))
  · subst c
    exact r_ldN hs (by decide) (l := [v0, v1, v2, v3, v4]) rfl rfl (r_padd (r_ld hs rfl (datas_ok hl (hs.front (shotH G ⟨S, v0, v1, v2, v3, v4⟩)) fun h hs => hk _ hs.to)))
  · subst c
    exact r_ldN hs (by decide) (l := C.enc) rfl rfl (r_ldN hs (by decide) (l := [v0, v1, v2, v3, v4]) rfl rfl (r_padd (r_ld hs rfl (tags_ok hl hC hT hg ⟨h0.1, h0.2⟩ (hs.front (shotH G ⟨S, v0, v1, v2, v3, v4⟩)) fun h hs => hk _ hs.to))))
  · subst c
    have : at' < S.table.length := by have := h0.2; simp only [places, if_pos] at this; omega
    exact r_ldN hs (by decide) (l := [v0, v1, v2, v3, v4]) rfl rfl (r_padd (r_ld hs rfl (knows_ok hl ⟨h0.1, this⟩ (hs.front (shotH G ⟨S, v0, v1, v2, v3, v4⟩)) fun h hs => hk _ hs.to)))
  · obtain rfl : what = 5 := by omega
    exact r_ldN hs (by decide) (l := C.enc) rfl rfl (r_ldN hs (by decide) (l := [v0, v1, v2, v3, v4]) rfl rfl (r_padd (r_ld hs rfl (granted_ok hl hC hT hg ⟨h0.1, h0.2⟩ (hs.front (shotH G ⟨S, v0, v1, v2, v3, v4⟩)) fun h hs => hk _ hs.to))))
/-! what is wrong, one behind the other -/
def wrE (x : Int × Int) : List Value := [.agg ⟨[I x.1, I x.2]⟩]
abbrev wrA (G : Bg) (C : Cfg) (S : Shot) (v0 v1 v2 v3 v4 : Value) (p q : Nat) : HP := sp [seg p 0 C.enc, seg q 0 [v0, v1, v2, v3, v4], shotH G ⟨S, v0, v1, v2, v3, v4⟩]
theorem wrongs_inner {what : Int} {rest : List (Int × Int)} (hl : LimS S) (hC : C.Ok) (hT : (S.table.length : Int) = C.granules) (hg : Ob G 0 limE) (ho : Ob G 1 rowsE) (hw : 1 ≤ what ∧ what ≤ 5)
    {I' : List (List Value) → HP} {J : HP} {y v5 : Value} (h5 : v5 = I (places C what))
    (hy : ∀ z rest h M, Hs G h (I' (z :: rest) :: M) → OkF Pr K y z h fun v h' => (v = .bool true ∧ Hs G h' (I' rest :: M)) ∨ (v = .bool false ∧ Hs G h' (J :: M)))
    (h1 : ∀ h', Hs G h' (wrA G C S v0 v1 v2 v3 v4 p q :: I' (rest.map wrE) :: L) → A13_7 Q y (pt p 0 0) (pt q 0 0) (I what) h') (h2 : ∀ v h', Hs G h' (wrA G C S v0 v1 v2 v3 v4 p q :: J :: L) → Q v h') :
    ∀ (f i : Nat) (h : AH), i + f = places C what → Hs G h (wrA G C S v0 v1 v2 v3 v4 p q :: I' ((S.wrongsA what f i ++ rest).map wrE) :: L) → A13_5 Q y (pt p 0 0) (pt q 0 0) (I what) v5 (I i) h := by
  subst h5
  have hb := Cfg.lines_eq hC
  have hpl : places C what ≤ 32 := by unfold places; unfold Cfg.Ok at hC; split <;> omega
  intro f
  induction f with
  | zero =>
    intro i h hi hs
    exact b13_5 (r_ltI (r_brF (by omega) (h1 _ hs)))
  | succ f ih =>
    intro i h hi hs
    refine b13_5 (r_ltI (r_brT (by omega) (b13_6 (r_fill (c := [I what, I i]) rfl ?_))))
    have hs := hs.un3
    refine r_new hs fun p2 h hs => ?_
    refine r_stW hs rfl rfl rfl rfl fun h hs => r_ldN hs (by decide) (l := C.enc) rfl rfl (r_ldN hs (by decide) (l := [v0, v1, v2, v3, v4]) rfl rfl (r_ldN hs (by decide) (l := [I what, I i]) rfl rfl ?_))
    refine wrong_ok hl hC hT hg ho hw ⟨by omega, by omega⟩ (hs.front (shotH G ⟨S, v0, v1, v2, v3, v4⟩)) fun h hs => ?_
    have hs2 : Hs G h (wrA G C S v0 v1 v2 v3 v4 p q :: seg p2 0 [I what, I i] :: I' ((S.wrongsA what (f + 1) i ++ rest).map wrE) :: L) := hs.to
    refine r_brb (fun hc => ?_) (fun hc => ?_)
    · rw [Shot.wrongsA, if_pos hc, List.cons_append, List.map_cons] at hs2
      refine r_ldN hs (by decide) (l := [I what, I i]) rfl rfl ?_
      have hs3 := hs2.front (I' (wrE (what, ↑i) :: List.map wrE (S.wrongsA what f (i + 1) ++ rest)))
      refine (hy _ _ h _ hs3).mono fun v h' hv => ?_
      rcases hv with ⟨rfl, hs'⟩ | ⟨rfl, hs'⟩
      · exact r_not (r_brf (b13_8 (r_addI (by omega) (ih (i + 1) h' (by omega) hs'.to))))
      · exact r_not (r_brt (h2 _ _ hs'.to))
    · rw [Shot.wrongsA, if_neg (by rw [hc]; decide)] at hs2
      exact r_addI (by omega) (ih (i + 1) h (by omega) hs2.to)
end Go.Proofs.YtemlagiabnkceaaDoor
end
section
namespace Go.Proofs.YtemlagiabnkceaaDoor
open Go Go.Ab Go.Hm Go.Ct Go.Sf
theorem awake_ok {h : AH} {Q : Value → AH → Prop} (hk : Q (.bool true) h) : Cl Pr K 5 [] h Q := by
  unfold Cl
  exact ok_known (v := .bool true) rfl hk
attribute [local irreducible] thn Br ld1 ldN stV alc alcAt alcS alcSAt resv padd nilV extV part1 partN lenS lenT biI biT biB biP biS biF biE biA unV idxS idxA pickV appV copyV clearV slS slA slT mkS blkOf at1 atN atS convI convS minV maxV Cl OkF OkR EndX endV beginV defersOf setLoop closeMarks
variable {G : Bg} {h : AH} {L L' M : List HP} {S : Shot} {v0 v1 v2 v3 v4 : Value} {C : Cfg} {p q : Nat} {Q : Value → AH → Prop}
theorem wrongs_y (hl : LimS S) (hC : C.Ok) (hT : (S.table.length : Int) = C.granules) (hg : Ob G 0 limE) (ho : Ob G 1 rowsE) :
    Yds Pr K G 13 [] [pt p 0 0, pt q 0 0] (wrA G C S v0 v1 v2 v3 v4 p q) ((S.wrongs C).map wrE) := by
  intro I' J y L h Q hs hy h1 h2
  refine c13 (b13_0 ?_)
  have loop : ∀ (f w : Nat) (h : AH), w + f = 6 → 1 ≤ w → Hs G h (wrA G C S v0 v1 v2 v3 v4 p q :: I' ((S.wrongsW C f w).map wrE) :: L) → A13_1 Q y (pt p 0 0) (pt q 0 0) (I w) h := by
    intro f
    induction f with
    | zero =>
      intro w h hw _ hs
      exact b13_1 (r_leI (r_brF (by omega) (h1 _ _ hs)))
    | succ f ih =>
      intro w h hw h1w hs
      refine b13_1 (r_leI (r_brT (by omega) (b13_2 ?_)))
      have hs := hs.un3
      have go : ∀ (z : Value) (h : AH), z = I (places C w) → Hs G h (seg p 0 C.enc :: seg q 0 [v0, v1, v2, v3, v4] :: shotH G ⟨S, v0, v1, v2, v3, v4⟩ :: I' ((S.wrongsW C (f + 1) w).map wrE) :: L) → A13_5 Q y (pt p 0 0) (pt q 0 0) (I w) z (I 0) h := fun z h hz hs => by
        refine wrongs_inner (what := (w : Int)) (rest := S.wrongsW C f (w + 1)) (L := L) hl hC hT hg ho ⟨by omega, by omega⟩ hz hy (fun h hs => ?_) h2 (places C w) 0 h (by omega) hs.pk3
        exact b13_7 (r_addI (by omega) (ih (w + 1) h (by omega) (by omega) hs))
      refine r_ldN hs (by decide) (l := C.enc) rfl rfl (lines_ok hC hg hs fun h hs => r_eqI (r_br (fun c => b13_3 ?_) (fun c => b13_4 (go _ _ ?_ hs))))
      · refine r_padd (r_ld hs rfl (go _ _ ?_ hs))
        unfold places
        rw [if_pos c, Int.toNat_of_nonneg (by unfold Cfg.Ok at hC; omega)]
      · unfold places
        rw [if_neg c]
  exact loop 5 1 h rfl (Nat.le_refl _) hs
theorem wrongsN_ok (hs : Hs G h L) (hk : ∀ p q h', Hs G h' (seg p 0 C.enc :: seg q 0 [v0, v1, v2, v3, v4] :: L) → Q (.func (.func 13) #[] #[pt p 0 0, pt q 0 0]) h') : Cl Pr K 9 [.agg ⟨C.enc⟩, .agg ⟨[v0, v1, v2, v3, v4]⟩] h Q := by
  refine c9 (b9_0 (r_bx hs fun p h hs => r_bx hs fun q h hs => hk _ _ _ hs.at2))
abbrev ckX (p1 : Nat) (e : Nat → Value) (d l : Nat) (x : Int × Int) (z : LoopState × Option Code) (c : Prop) : HP := sp [puH c, lpT Pr 6 (dcd 442) 22 e d l z, seg p1 0 [I x.1, I x.2]]
theorem Check_ok (hl : LimS S) (hC : C.Ok) (hg : Ob G 0 limE) (ho : Ob G 1 rowsE) (hs : Hs G h (shotH G ⟨S, v0, v1, v2, v3, v4⟩ :: L))
    (hk : ∀ h', Hs G h' (shotH G ⟨S, v0, v1, v2, v3, v4⟩ :: L) → Q (.tuple ⟨[.agg ⟨[I (S.check C).1.1, I (S.check C).1.2]⟩, I (S.check C).2]⟩) h') :
    Cl Pr K 6 [.agg ⟨C.enc⟩, .agg ⟨[v0, v1, v2, v3, v4]⟩] h Q := by
  refine c6 (b6_0 (r_bx hs fun p2 h hs => r_bx hs fun p5 h hs => r_new hs fun p7 h hs => ?_))
  refine r_ldN hs (by decide) (l := C.enc) rfl rfl (r_ldN hs (by decide) (l := [v0, v1, v2, v3, v4]) rfl rfl ?_)
  refine may_ok (L := seg p7 0 [I 0, I 0] :: seg p5 0 [v0, v1, v2, v3, v4] :: seg p2 0 C.enc :: L) hC hl hg hs.to fun h hs => r_neI (r_br (fun c1 => ?_) (fun c1 => ?_))
  · refine r_fill (c := [I 0, I 0]) rfl (r_stW hs rfl rfl rfl rfl fun h hs => r_cm0 (r_ldN hs (by decide) (l := [I 0, I 0]) rfl rfl ?_))
    have := hk _ (hs.to (M := shotH G ⟨S, v0, v1, v2, v3, v4⟩ :: L))
    rw [Shot.check, if_neg c1] at this
    exact this
  have hm : S.may C = 0 := by omega
  have hT : (S.table.length : Int) = C.granules := by
    unfold Shot.may at hm
    by_cases h1 : (S.table.length : Int) = C.granules
    · exact h1
    · rw [if_pos h1] at hm; cases hm
  rw [Shot.check, if_pos hm] at hk
  refine b6_1 (r_new hs fun p1 h hs => ?_)
  refine r_ldN hs (by decide) (l := C.enc) rfl rfl (r_ldN hs (by decide) (l := [v0, v1, v2, v3, v4]) rfl rfl ?_)
  refine wrongsN_ok hs fun p q h hs => r_marks hs fun d h hs => ?_
  intro e he
  refine r_loop hs fun l h hs => r_okR rfl ?_
  have hs : Hs G h (wrA G C S v0 v1 v2 v3 v4 p q :: ckX p1 e d l (0, 0) (.ready, none) (([] : List (Int × Int)) = []) :: mk d () :: seg p7 0 [I 0, I 0] :: L) := by
    refine Hs.at2 (sp_pu rfl (Hs.pk2 ?_))
    have hs := hs.front2 (lpT Pr 6 (dcd 442) 22 e d l (.ready, none)) (seg p1 0 [I 0, I 0])
    exact hs.to
  refine (wrongs_y (p := p) (q := q) hl hC hT hg ho).fold (X := fun done => ckX p1 e d l (0, 0) (.ready, none) (done = [])) (Z := fun done x => ckX p1 e d l x (.done, some (.exit 0)) (done = [])) hs ?_ ?_ ?_
  · intro done x h M hp hs
    obtain ⟨hd, hs1⟩ := sp_puE hs
    clear hs
    have hs := hs1.un2
    refine r6_0 (r_atv hs) he (b6_2 (r_new hs fun p3 h hs => ?_))
    refine r_stW hs rfl rfl rfl rfl fun h hs => r_beginv hs fun h hs => r_ldN hs (by decide) (l := [I x.1, I x.2]) rfl rfl ?_
    refine r_stW hs rfl rfl rfl rfl fun h hs => r_setv hs fun h hs => .inr ⟨rfl, sp_pu hd (Hs.pk2 ?_)⟩
    exact hs.to
  · intro v h hs
    have hs := (hs.un3.front (ckX p1 e d l (0, 0) (.ready, none) (S.wrongs C = [])))
    obtain ⟨hd, hs1⟩ := sp_puE hs
    clear hs
    have hs := hs1.un2
    rw [hd] at hk
    refine r_endv hs fun h hs => r_endN ?_
    refine r_ldN hs (by decide) (l := [I 0, I 0]) rfl rfl (r_stW hs rfl rfl rfl rfl fun h hs => r_cm1 hs fun h hs => r_cm0 (r_ldN hs (by decide) (l := [I 0, I 0]) rfl rfl (hk _ hs.to)))
  · intro done x v h hp hs
    have hs := (hs.un3.front (ckX p1 e d l x (.done, some (.exit 0)) (done = [])))
    obtain ⟨hd, hs1⟩ := sp_puE hs
    clear hs
    have hs := hs1.un2
    obtain ⟨ys, hys⟩ := hp
    rw [hd] at hys
    rw [← hys] at hk
    refine r_endd hs fun h hs => r_endE rfl ?_
    refine r_ldN hs (by decide) (l := [I x.1, I x.2]) rfl rfl (r_stW hs rfl rfl rfl rfl fun h hs => r_cm1 hs fun h hs => r_cm0 (r_ldN hs (by decide) (l := [I x.1, I x.2]) rfl rfl (hk _ hs.to)))
theorem small_ok' (hs : Hs G h L) (hk : ∀ h', Hs G h' L → Q (.agg ⟨smallC.enc⟩) h') : Cl Pr K 7 [] h Q := by
  refine c7 (b7_0 (r_new hs fun p h hs => r_fill (c := smallC.enc) rfl (r_stW hs rfl rfl rfl rfl fun h hs => r_ldN hs (by decide) (l := smallC.enc) rfl rfl (hk _ hs.tail))))
def fewB (S : Shot) : Bool := decide (S.copies.length ≤ 40) && (decide (S.known.length ≤ 40) && (decide (S.notes.length ≤ 40) && (decide (S.table.length ≤ 20) && decide (S.memory.length ≤ 40))))
theorem few_ok (hs : Hs G h (shotH G ⟨S, v0, v1, v2, v3, v4⟩ :: L)) (hk : ∀ h', Hs G h' (shotH G ⟨S, v0, v1, v2, v3, v4⟩ :: L) → Q (.bool (fewB S)) h') : Cl Pr K 4 [.agg ⟨[v0, v1, v2, v3, v4]⟩] h Q := by
  refine c4 (b4_0 (r_bx hs fun p h hs => ?_))
  have hk := hk h hs.to
  have cast : ∀ {m n : Nat}, decide ((m : Int) ≤ (n : Int)) = decide (m ≤ n) := decide_eq_decide.2 (by omega)
  unfold fewB at hk
  refine r_padd (r_ld hs rfl (r_len0 hs (r_leI (r_br (fun c => ?_) (fun c => ?_)))))
  · rw [decide_eq_true (show S.copies.length ≤ 40 by omega), Bool.true_and] at hk
    refine r_padd (r_ld hs rfl (r_len1 hs (r_leI (r_br (fun c => ?_) (fun c => ?_)))))
    · rw [decide_eq_true (show S.known.length ≤ 40 by omega), Bool.true_and] at hk
      refine r_padd (r_ld hs rfl (r_len3 hs (r_leI (r_br (fun c => ?_) (fun c => ?_)))))
      · rw [decide_eq_true (show S.notes.length ≤ 40 by omega), Bool.true_and] at hk
        refine r_padd (r_ld hs rfl (r_len2 hs (r_leI (r_br (fun c => ?_) (fun c => ?_)))))
        · rw [decide_eq_true (show S.table.length ≤ 20 by omega), Bool.true_and] at hk
          refine r_padd (r_ld hs rfl (r_len4 hs (r_leI ?_)))
          rw [show decide ((S.memory.length : Int) ≤ 40) = decide (S.memory.length ≤ 40) from cast (n := 40)]
          exact hk
        · rw [decide_eq_false (show ¬ S.table.length ≤ 20 by omega)] at hk; exact hk
      · rw [decide_eq_false (show ¬ S.notes.length ≤ 40 by omega)] at hk; exact hk
    · rw [decide_eq_false (show ¬ S.known.length ≤ 40 by omega)] at hk; exact hk
  · rw [decide_eq_false (show ¬ S.copies.length ≤ 40 by omega)] at hk; exact hk
end Go.Proofs.YtemlagiabnkceaaDoor
end
section
namespace Go.Proofs.YtemlagiabnkceaaDoor
open Go Go.Ab Go.Hm Go.Ct Go.Sf
theorem r_eq2 {a b c d : Int} {k : Value → Prop} (hk : k (.bool (decide ((a, b) = (c, d))))) : thn (biA [0, 0] .eql (.agg ⟨[I a, I b]⟩) (.agg ⟨[I c, I d]⟩)) k := by
  refine ⟨_, ?_, hk⟩
  show some (Value.bool (a == c && (b == d && true))) = _
  congr 2
  by_cases h1 : a = c <;> by_cases h2 : b = d <;> simp [h1, h2]
attribute [local irreducible] thn Br ld1 ldN stV alc alcAt alcS alcSAt resv padd nilV extV part1 partN lenS lenT biI biT biB biP biS biF biE biA unV idxS idxA pickV appV copyV clearV slS slA slT mkS blkOf at1 atN atS convI convS minV maxV Cl OkF OkR EndX endV beginV defersOf setLoop closeMarks
variable {G : Bg} {h : AH} {L L' M : List HP} {S : Shot} {v0 v1 v2 v3 v4 : Value} {C : Cfg} {p q : Nat} {Q : Value → AH → Prop}
def flC (l : List SCopy) : List Value := (l.map SCopy.enc).flatten
def flK (l : List SKn) : List Value := (l.map SKn.enc).flatten
def flN (l : List Note) : List Value := (l.map Note.enc).flatten
theorem rev_step {α : Type} {l : List α} {i : Nat} {x : α} (hx : l[i]? = some x) (hd : l.drop i = x :: l.drop (i + 1)) : (l.drop i).reverse = (l.drop (i + 1)).reverse ++ [x] := by rw [hd]; simp
theorem rev_cp (hl : S.copies.length ≤ 40) {w1 w2 w3 w4 : Value} (hk : ∀ a c h', Hs G h' (seg q 0 [.slice a S.copies.length c, w1, w2, w3, w4] :: slc 6 34 a c (S.copies.length, flC S.copies.reverse) :: seg p 0 [v0, v1, v2, v3, v4] :: shotH G ⟨S, v0, v1, v2, v3, v4⟩ :: L) → A3_4 Q (pt p 0 0) (pt q 0 0) h') :
    ∀ (f n : Nat) (a : Option Addr) (c : Nat) (h : AH), f ≤ S.copies.length → n = S.copies.length - f → Hs G h (seg q 0 [.slice a n c, w1, w2, w3, w4] :: slc 6 34 a c (n, flC (S.copies.drop f).reverse) :: seg p 0 [v0, v1, v2, v3, v4] :: shotH G ⟨S, v0, v1, v2, v3, v4⟩ :: L) →
      A3_2 Q (pt p 0 0) (pt q 0 0) (I ((f : Int) - 1)) h := by
  intro f
  induction f with
  | zero =>
    intro n a c h hf hn hs
    refine b3_2 (r_geI (r_brF (by omega) (hk a c h ?_)))
    rw [Nat.sub_zero] at hn
    subst hn
    exact hs
  | succ f ih =>
    intro n a c h hf hn hs
    obtain ⟨x, hx, hd⟩ := at_lt (l := S.copies) (i := f) (by omega)
    rw [show (((f + 1 : Nat) : Int) - 1) = (f : Int) by omega]
    refine b3_2 (r_geI (r_brT (by omega) (b3_3 (r_resv hs fun r h hs => r_padd (r_ld hs rfl (r_padd (r_ld hs rfl (r_cp hs hx (r_fill (c := x.enc) rfl ?_))))))))) 
    refine r_newSAt hs rfl rfl rfl rfl rfl fun a2 h hs => ?_
    refine r_appS hs (by omega) fun a3 c3 h hs => ?_
    dsimp only
    refine r_padd (r_sto hs rfl rfl rfl rfl fun h hs => r_subI (by omega) (ih (n + 1) a3 c3 h (by omega) (by omega) ?_))
    have e1 : flC (S.copies.drop f).reverse = flC (S.copies.drop (f + 1)).reverse ++ x.enc := by rw [rev_step hx hd]; simp [flC]
    rw [e1]
    exact (hs.sg (b := q) (o := 0) (c := [.slice a3 (n + 1) c3, w1, w2, w3, w4]) rfl).to
theorem rev_kn (hl : S.known.length ≤ 40) {w0 w2 w3 w4 : Value} (hk : ∀ a c h', Hs G h' (seg q 0 [w0, .slice a S.known.length c, w2, w3, w4] :: slc 3 36 a c (S.known.length, flK S.known.reverse) :: seg p 0 [v0, v1, v2, v3, v4] :: shotH G ⟨S, v0, v1, v2, v3, v4⟩ :: L) → A3_7 Q (pt p 0 0) (pt q 0 0) h') :
    ∀ (f n : Nat) (a : Option Addr) (c : Nat) (h : AH), f ≤ S.known.length → n = S.known.length - f → Hs G h (seg q 0 [w0, .slice a n c, w2, w3, w4] :: slc 3 36 a c (n, flK (S.known.drop f).reverse) :: seg p 0 [v0, v1, v2, v3, v4] :: shotH G ⟨S, v0, v1, v2, v3, v4⟩ :: L) →
      A3_5 Q (pt p 0 0) (pt q 0 0) (I ((f : Int) - 1)) h := by
  intro f
  induction f with
  | zero =>
    intro n a c h hf hn hs
    refine b3_5 (r_geI (r_brF (by omega) (hk a c h ?_)))
    rw [Nat.sub_zero] at hn
    subst hn
    exact hs
  | succ f ih =>
    intro n a c h hf hn hs
    obtain ⟨x, hx, hd⟩ := at_lt (l := S.known) (i := f) (by omega)
    rw [show (((f + 1 : Nat) : Int) - 1) = (f : Int) by omega]
    refine b3_5 (r_geI (r_brT (by omega) (b3_6 (r_resv hs fun r h hs => r_padd (r_ld hs rfl (r_padd (r_ld hs rfl (r_kn hs hx (r_fill (c := x.enc) rfl ?_))))))))) 
    refine r_newSAt hs rfl rfl rfl rfl rfl fun a2 h hs => ?_
    refine r_appS hs (by omega) fun a3 c3 h hs => ?_
    dsimp only
    refine r_padd (r_sto hs rfl rfl rfl rfl fun h hs => r_subI (by omega) (ih (n + 1) a3 c3 h (by omega) (by omega) ?_))
    have e1 : flK (S.known.drop f).reverse = flK (S.known.drop (f + 1)).reverse ++ x.enc := by rw [rev_step hx hd]; simp [flK]
    rw [e1]
    exact (hs.sg (b := q) (o := 0) (c := [w0, .slice a3 (n + 1) c3, w2, w3, w4]) rfl).to
theorem rev_no (hl : S.notes.length ≤ 40) {w0 w1 w2 w4 : Value} (hk : ∀ a c h', Hs G h' (seg q 0 [w0, w1, w2, .slice a S.notes.length c, w4] :: slc 9 38 a c (S.notes.length, flN S.notes.reverse) :: seg p 0 [v0, v1, v2, v3, v4] :: shotH G ⟨S, v0, v1, v2, v3, v4⟩ :: L) → A3_10 Q (pt p 0 0) (pt q 0 0) h') :
    ∀ (f n : Nat) (a : Option Addr) (c : Nat) (h : AH), f ≤ S.notes.length → n = S.notes.length - f → Hs G h (seg q 0 [w0, w1, w2, .slice a n c, w4] :: slc 9 38 a c (n, flN (S.notes.drop f).reverse) :: seg p 0 [v0, v1, v2, v3, v4] :: shotH G ⟨S, v0, v1, v2, v3, v4⟩ :: L) →
      A3_8 Q (pt p 0 0) (pt q 0 0) (I ((f : Int) - 1)) h := by
  intro f
  induction f with
  | zero =>
    intro n a c h hf hn hs
    refine b3_8 (r_geI (r_brF (by omega) (hk a c h ?_)))
    rw [Nat.sub_zero] at hn
    subst hn
    exact hs
  | succ f ih =>
    intro n a c h hf hn hs
    obtain ⟨x, hx, hd⟩ := at_lt (l := S.notes) (i := f) (by omega)
    rw [show (((f + 1 : Nat) : Int) - 1) = (f : Int) by omega]
    refine b3_8 (r_geI (r_brT (by omega) (b3_9 (r_resv hs fun r h hs => r_padd (r_ld hs rfl (r_padd (r_ld hs rfl (r_no hs hx (r_fill (c := x.enc) rfl ?_))))))))) 
    refine r_newSAt hs rfl rfl rfl rfl rfl fun a2 h hs => ?_
    refine r_appS hs (by omega) fun a3 c3 h hs => ?_
    dsimp only
    refine r_padd (r_sto hs rfl rfl rfl rfl fun h hs => r_subI (by omega) (ih (n + 1) a3 c3 h (by omega) (by omega) ?_))
    have e1 : flN (S.notes.drop f).reverse = flN (S.notes.drop (f + 1)).reverse ++ x.enc := by rw [rev_step hx hd]; simp [flN]
    rw [e1]
    exact (hs.sg (b := q) (o := 0) (c := [w0, w1, w2, .slice a3 (n + 1) c3, w4]) rfl).to
end Go.Proofs.YtemlagiabnkceaaDoor
end
section
namespace Go.Proofs.YtemlagiabnkceaaDoor
open Go Go.Ab Go.Hm Go.Ct Go.Sf
attribute [local irreducible] thn Br ld1 ldN stV alc alcAt alcS alcSAt resv padd nilV extV part1 partN lenS lenT biI biT biB biP biS biF biE biA unV idxS idxA pickV appV copyV clearV slS slA slT mkS blkOf at1 atN atS convI convS minV maxV Cl OkF OkR EndX endV beginV defersOf setLoop closeMarks
variable {G : Bg} {h : AH} {L L' M : List HP} {S : Shot} {v0 v1 v2 v3 v4 : Value} {C : Cfg} {p q : Nat} {Q : Value → AH → Prop}
theorem enc_lens {α : Type} {f : α → List Value} {W : Nat} (hf : ∀ x, (f x).length = W) (l : List α) : ∀ x ∈ l.map f, x.length = W := by
  intro x hx
  obtain ⟨y, _, rfl⟩ := List.mem_map.1 hx
  exact hf y
theorem rd_ld5 {v : Value} (hs : Hs G h L) [m : Has (seg p 0) L [v0, v1, v2, v3, v4] L'] {k : Value → Prop} (hk : k (.agg ⟨[v0, v1, v2, v3, v4]⟩)) : thn (ldN h 5 (pt p 0 0)) k := r_ldN hs (by decide) (l := [v0, v1, v2, v3, v4]) rfl rfl hk
theorem order_ok (hg : Ob G 0 limE) (ho : Ob G 1 rowsE) (hs : Hs G h (shotH G ⟨S, v0, v1, v2, v3, v4⟩ :: L)) (hk : ∀ h', Q (.bool true) h') : Cl Pr K 3 [.agg ⟨[v0, v1, v2, v3, v4]⟩] h Q := by
  obtain ⟨x2, y2, hv2⟩ := rd_slice (sh_open (S := S) hs).tail.tail
  obtain ⟨x4, y4, hv4⟩ := rd_slice (sh_open (S := S) hs).tail.tail.tail.tail
  obtain ⟨x0, y0, hv0⟩ := rd_slice (sh_open (S := S) hs)
  obtain ⟨x1, y1, hv1⟩ := rd_slice (sh_open (S := S) hs).tail
  obtain ⟨x3, y3, hv3⟩ := rd_slice (sh_open (S := S) hs).tail.tail.tail
  refine c3 (b3_0 (r_bx hs fun p h hs => ?_))
  refine r_ldN hs (by decide) (l := [v0, v1, v2, v3, v4]) rfl rfl (few_ok (hs.front (shotH G ⟨S, v0, v1, v2, v3, v4⟩)) fun h hs => r_not (r_brn (r_brb (fun hf => ?_) (fun _ => awake_ok (hk _)))))
  have hS : S.copies.length ≤ 40 ∧ S.known.length ≤ 40 ∧ S.notes.length ≤ 40 ∧ S.table.length ≤ 20 ∧ S.memory.length ≤ 40 := by
    unfold fewB at hf
    simpa only [Bool.and_eq_true, decide_eq_true_eq] using hf
  have hl : LimS S := by unfold LimS; omega
  refine b3_1 (r_padd (r_ld hs rfl (r_padd (r_ld hs rfl (r_fill (c := [.slice none 0 0, .slice none 0 0, v2, .slice none 0 0, v4]) (by rw [hv2, hv4]; rfl) (r_new hs fun q h hs => ?_))))))
  refine r_stW hs rfl rfl rfl (by rw [hv2, hv4]; rfl) fun h hs => r_padd (r_ld hs rfl (r_len0 hs (r_subI (by omega) ?_)))
  have hs : Hs G h (seg q 0 [.slice none 0 0, .slice none 0 0, v2, .slice none 0 0, v4] :: slc 6 34 none 0 (0, []) :: seg p 0 [v0, v1, v2, v3, v4] :: shotH G ⟨S, v0, v1, v2, v3, v4⟩ :: L) := (slc_nil (W := 6) (e := 34) (hs.sg (b := q) (o := 0) (c := [.slice none 0 0, .slice none 0 0, v2, .slice none 0 0, v4]) rfl)).to
  refine rev_cp (L := L) hS.1 (fun a c h hs => ?_) S.copies.length 0 none 0 h (Nat.le_refl _) (by omega) (by rw [List.drop_length]; exact hs)
  refine b3_4 (r_padd (r_ld hs rfl (r_len1 hs (r_subI (by omega) ?_))))
  have hs : Hs G h (seg q 0 [.slice a S.copies.length c, .slice none 0 0, v2, .slice none 0 0, v4] :: slc 3 36 none 0 (0, []) :: seg p 0 [v0, v1, v2, v3, v4] :: shotH G ⟨S, v0, v1, v2, v3, v4⟩ :: slc 6 34 a c (S.copies.length, flC S.copies.reverse) :: L) := (slc_nil (W := 3) (e := 36) hs).to
  refine rev_kn hS.2.1 (fun a2 c2 h hs => ?_) S.known.length 0 none 0 h (Nat.le_refl _) (by omega) (by rw [List.drop_length]; exact hs)
  refine b3_7 (r_padd (r_ld hs rfl (r_len3 hs (r_subI (by omega) ?_))))
  have hs : Hs G h (seg q 0 [.slice a S.copies.length c, .slice a2 S.known.length c2, v2, .slice none 0 0, v4] :: slc 9 38 none 0 (0, []) :: seg p 0 [v0, v1, v2, v3, v4] :: shotH G ⟨S, v0, v1, v2, v3, v4⟩ :: slc 3 36 a2 c2 (S.known.length, flK S.known.reverse) :: slc 6 34 a c (S.copies.length, flC S.copies.reverse) :: L) := (slc_nil (W := 9) (e := 38) hs).to
  refine rev_no hS.2.2.1 (fun a3 c3 h hs => ?_) S.notes.length 0 none 0 h (Nat.le_refl _) (by omega) (by rw [List.drop_length]; exact hs)
  refine b3_10 (r_resv hs fun r h0 hs0 => small_ok' hs0 fun h hs => ?_)
  have ve : ∀ {k : Prop}, veq (.agg ⟨[v0, v1, v2, v3, v4]⟩) (.agg ⟨[v0, v1, v2, v3, v4]⟩) = true := fun {_} => veq_agg fun v hv => by
    rw [hv0, hv1, hv2, hv3, hv4] at hv
    simp only [List.mem_cons, List.not_mem_nil, or_false] at hv
    rcases hv with rfl | rfl | rfl | rfl | rfl <;> exact veq_S
  refine r_ldN (b := p) (o := 0) (j := 0) hs (by decide) (l := [v0, v1, v2, v3, v4]) rfl rfl (Check_ok hl small_ok hg ho (hs.front (shotH G ⟨S, v0, v1, v2, v3, v4⟩)) fun h2 hs2 => r_ext rfl (r_ext rfl ?_))
  refine r_newAt hs2 rfl rfl fun p8 h3 hs3 => ?_
  refine r_stW hs3 rfl rfl rfl rfl fun h4 hs4 => r_fl ?_ (r_fl ?_ ?_)
  · exact r_ldN (b := p) (o := 0) (j := 0) hs0 (by decide) (l := [v0, v1, v2, v3, v4]) rfl rfl (ve (k := True))
  · exact r_ext rfl veq_I
  refine r_resv hs4 fun r2 h5 hs5 => small_ok' hs5 fun h6 hs6 => ?_
  refine r_ldN (b := q) (o := 0) (j := 0) hs6 (by decide) (l := [.slice a S.copies.length c, .slice a2 S.known.length c2, v2, .slice a3 S.notes.length c3, v4]) rfl rfl ?_
  have hsT : Hs G h6 (shotH G ⟨S.rev, .slice a S.copies.length c, .slice a2 S.known.length c2, v2, .slice a3 S.notes.length c3, v4⟩ :: seg q 0 [.slice a S.copies.length c, .slice a2 S.known.length c2, v2, .slice a3 S.notes.length c3, v4] :: frK r2 (9, []) :: seg p8 0 [I (S.check smallC).1.1, I (S.check smallC).1.2] :: L) := by
    have e := sh_open (S := S) hs6
    have e1 := rd_own (l := S.copies.reverse.map SCopy.enc) (enc_lens (f := SCopy.enc) (W := 6) (fun x => rfl) _) (by simp) rfl (e.front (slc 6 34 a c (S.copies.length, flC S.copies.reverse)))
    have e2 := rd_own (l := S.known.reverse.map SKn.enc) (enc_lens (f := SKn.enc) (W := 3) (fun x => rfl) _) (by simp) rfl (e1.front (slc 3 36 a2 c2 (S.known.length, flK S.known.reverse)))
    have e3 := rd_own (l := S.notes.reverse.map Note.enc) (enc_lens (f := Note.enc) (W := 9) (fun x => rfl) _) (by simp) rfl (e2.front (slc 9 38 a3 c3 (S.notes.length, flN S.notes.reverse)))
    refine Hs.pk5 (A := rdS G 6 34 (.slice a S.copies.length c) (S.copies.reverse.map SCopy.enc)) (B := rdS G 3 36 (.slice a2 S.known.length c2) (S.known.reverse.map SKn.enc)) (C := rdS G 2 67 v2 (S.table.map SEn.enc)) (D := rdS G 9 38 (.slice a3 S.notes.length c3) (S.notes.reverse.map Note.enc)) (E := rdS G 2 32 v4 (S.memory.map Sf.lnE)) ?_
    exact e3.to
  have hlT : LimS S.rev := by unfold LimS Shot.rev; simp only [List.length_reverse]; omega
  refine Check_ok hlT small_ok hg ho hsT fun h7 hs7 => r_ext rfl (r_ext rfl ?_)
  rw [rev_check]
  refine r_newAt hs7 rfl rfl fun p9 h8 hs8 => ?_
  refine r_stW hs8 rfl rfl rfl rfl fun h9 hs9 => r_fl ?_ (r_fl ?_ ?_)
  · refine r_ldN (b := q) (o := 0) (j := 0) hs5 (by decide) (l := [.slice a S.copies.length c, .slice a2 S.known.length c2, v2, .slice a3 S.notes.length c3, v4]) rfl rfl (veq_agg fun v hv => ?_)
    rw [hv2, hv4] at hv
    simp only [List.mem_cons, List.not_mem_nil, or_false] at hv
    rcases hv with rfl | rfl | rfl | rfl | rfl <;> exact veq_S
  · exact r_ext rfl veq_I
  refine r_ldN (b := p8) (o := 0) (j := 0) hs9 (by decide) (l := [I (S.check smallC).1.1, I (S.check smallC).1.2]) rfl rfl (r_ldN (b := p9) (o := 0) (j := 0) hs9 (by decide) (l := [I (S.check smallC).1.1, I (S.check smallC).1.2]) rfl rfl (r_eq2 (r_brT rfl (r_eqI (r_brT rfl (awake_ok (hk _)))))))
end Go.Proofs.YtemlagiabnkceaaDoor
end
