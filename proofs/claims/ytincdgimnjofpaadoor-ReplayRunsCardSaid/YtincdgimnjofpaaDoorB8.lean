/- A copy of the atomic machine. -/
import Derived.Test.YtincdgimnjofpaaDoorB7
import Derived.Test.YtincdgimnjofpaaDoorB5
section
namespace Go.Proofs.YtincdgimnjofpaaDoor
open Go Go.Ab Go.Hm Go.At Go.Is
attribute [local irreducible] thn Br ld1 ldN stV alc alcAt alcS alcSAt resv padd nilV extV part1 partN lenS lenT biI biT biB biP biS biF biE biA unV idxS idxA pickV appV copyV clearV slS slA slT mkS blkOf at1 atN atS convI convS minV maxV Cl OkF OkR EndX endV beginV defersOf setLoop closeMarks
variable {G : Bg} {h : AH} {L L' : List HP} {Q : Value → AH → Prop}
theorem within_loop {v : Value} {a b : Int} {l : List Int} {e : TypeId} (hl : l.length < 1000) (hk : ∀ h', Hs G h' (rdS G 1 e v (l.map fun x => [I x]) :: L) → Q (.bool (within a b l)) h') :
    ∀ (f i : Nat) (h : AH), i + f = l.length → within a b l = within a b (l.drop i) → Hs G h (rdS G 1 e v (l.map fun x => [I x]) :: L) → A24_1 Q (I a) (I b) v (I l.length) (I i) h := by
  intro f
  induction f with
  | zero =>
    intro i h hi he hs
    rw [List.drop_of_length_le (by omega)] at he
    refine b24_1 (r_ltI (r_brF (by omega) ?_))
    have := hk _ hs
    rw [he] at this
    exact this
  | succ f ih =>
    intro i h hi he hs
    obtain ⟨x, hx, hd⟩ := at_lt (l := l) (i := i) (by omega)
    rw [hd] at he
    have e1 : within a b (x :: l.drop (i + 1)) = (decide (a ≤ x ∧ x ≤ b) && within a b (l.drop (i + 1))) := rfl
    rw [e1] at he
    refine b24_1 (r_ltI (r_brT (by omega) (b24_2 (r_rdc hs (x := [I x]) (by simp [hx]) rfl (r_ltI (r_br (fun c => ?_) (fun c => r_gtI (r_br (fun d => ?_) (fun d => ?_)))))))))
    · have := hk _ hs
      rw [he, decide_eq_false (by omega)] at this
      exact this
    · have := hk _ hs
      rw [he, decide_eq_false (by omega)] at this
      exact this
    · rw [decide_eq_true (by omega), Bool.true_and] at he
      exact b24_3 (r_addI (by omega) (ih (i + 1) h (by omega) he hs))
theorem within_ok {v : Value} {a b : Int} {l : List Int} {e : TypeId} (hl : l.length < 1000) (hs : Hs G h (rdS G 1 e v (l.map fun x => [I x]) :: L)) (hk : ∀ h', Hs G h' (rdS G 1 e v (l.map fun x => [I x]) :: L) → Q (.bool (within a b l)) h') : Cl Pr K 24 [I a, I b, v] h Q := by
  obtain ⟨ta, tc, ht⟩ := rd_slice hs
  refine c24 (b24_0 ?_)
  have h0 := within_loop (L := L) (a := a) (b := b) hl hk l.length 0 h (by omega) rfl hs
  rw [ht] at h0 ⊢
  simp only [List.length_map] at h0 ⊢
  exact r_lenS h0
theorem within1_ok {ad : Addr} {a b x : Int} {e : TypeId} (hs : Hs G h (slc 1 e (some ad) 1 (1, [I x]) :: L)) (hk : ∀ h', Hs G h' L → Q (.bool (decide (a ≤ x ∧ x ≤ b))) h') : Cl Pr K 24 [I a, I b, .slice (some ad) 1 1] h Q := by
  have hs := rd_own (l := [x].map fun x => [I x]) (by simp) rfl rfl hs
  refine within_ok (l := [x]) (by simp) hs fun h' hs => ?_
  have := hk _ hs.tail
  rw [show within a b [x] = decide (a ≤ x ∧ x ≤ b) by simp [within]]
  exact this
end Go.Proofs.YtincdgimnjofpaaDoor
end
section
namespace Go.Proofs.YtincdgimnjofpaaDoor
open Go Go.Ab Go.Hm Go.At Go.Is
attribute [local irreducible] thn Br ld1 ldN stV alc alcAt alcS alcSAt resv padd nilV extV part1 partN lenS lenT biI biT biB biP biS biF biE biA unV idxS idxA pickV appV copyV clearV slS slA slT mkS blkOf at1 atN atS convI convS minV maxV Cl OkF OkR EndX endV beginV defersOf setLoop closeMarks
variable {G : Bg} {h : AH} {L L' : List HP} {Q : Value → AH → Prop}
theorem judge_ok {c w o t : Int} (hs : Hs G h L) (hk : ∀ h', Hs G h' L → Q (.tuple ⟨[I (judgeV c w o t).1, .bool (judgeV c w o t).2.1, I (judgeV c w o t).2.2]⟩) h') : Cl Pr K 43 [I c, I w, I o, I t] h Q := by
  refine c43 (b43_0 (r_fill (c := [I w]) rfl (r_newS hs rfl rfl rfl fun a h hs => within1_ok hs fun h hs => r_not (r_brn (r_br (fun h1 => ?_) (fun h1 => ?_))))))
  rotate_left
  · have := hk _ hs
    unfold judgeV at this
    rw [if_pos (by omega)] at this
    exact this
  refine r_fill (c := [I o]) rfl (r_newS hs rfl rfl rfl fun a h hs => within1_ok hs fun h hs => r_not (r_brn (r_br (fun h2 => ?_) (fun h2 => ?_))))
  rotate_left
  · have := hk _ hs
    unfold judgeV at this
    rw [if_pos (by omega)] at this
    exact this
  unfold judgeV at hk
  rw [if_neg (by omega)] at hk
  refine b43_1 (r_eqI (r_br (fun c1 => ?_) (fun n1 => b43_3 (r_eqI (r_br (fun c1 => ?_) (fun n2 => b43_6 (r_eqI (r_br (fun c1 => ?_) (fun n3 => b43_10 (r_eqI (r_br (fun c1 => ?_) (fun n4 => ?_))))))))))))
  · rw [if_pos c1] at hk
    refine b43_2 (r_neI (r_br (fun g1 => ?_) (fun g1 => ?_)))
    · rw [if_pos g1] at hk; exact hk _ hs
    rw [if_neg g1] at hk
    refine b43_4 (r_neI (r_br (fun g2 => ?_) (fun g2 => ?_)))
    · rw [if_pos g2] at hk; exact hk _ hs
    rw [if_neg g2] at hk
    refine b43_7 (r_fill (c := [I t]) rfl (r_newS hs rfl rfl rfl fun a h hs => within1_ok hs fun h hs => r_not (r_brn (r_br (fun g3 => ?_) (fun g3 => ?_)))))
    · rw [if_neg (by omega)] at hk; exact hk _ hs
    · rw [if_pos (by omega)] at hk; exact hk _ hs
  · rw [if_neg n1, if_pos c1] at hk
    refine b43_5 (r_eqI (r_br (fun g1 => ?_) (fun g1 => ?_)))
    · rw [if_pos g1] at hk; exact hk _ hs
    rw [if_neg g1] at hk
    refine b43_8 (r_neI (r_br (fun g2 => r_neI (r_br (fun g3 => ?_) (fun g3 => ?_))) (fun g2 => ?_)))
    · rw [if_pos (by omega)] at hk; exact hk _ hs
    · rw [if_neg (by omega)] at hk; exact hk _ hs
    · rw [if_neg (by omega)] at hk; exact hk _ hs
  · rw [if_neg n1, if_neg n2, if_pos c1] at hk
    refine b43_9 (r_eqI (r_br (fun g1 => ?_) (fun g1 => r_neI (r_br (fun g2 => ?_) (fun g2 => ?_)))))
    · rw [if_pos (by omega)] at hk; exact hk _ hs
    · rw [if_pos (by omega)] at hk; exact hk _ hs
    rw [if_neg (by omega)] at hk
    refine b43_11 (r_fill (c := [I t]) rfl (r_newS hs rfl rfl rfl fun a h hs => within1_ok hs fun h hs => r_not (r_brn (r_br (fun g3 => r_eqI (r_br (fun g4 => ?_) (fun g4 => ?_))) (fun g3 => ?_)))))
    · rw [if_pos (by omega)] at hk; exact hk _ hs
    · rw [if_neg (by omega)] at hk; exact hk _ hs
    · rw [if_pos (by omega)] at hk; exact hk _ hs
  · rw [if_neg n1, if_neg n2, if_neg n3, if_pos c1] at hk
    refine b43_12 (r_eqI (r_br (fun g1 => ?_) (fun g1 => ?_)))
    · rw [if_pos g1] at hk; exact hk _ hs
    rw [if_neg g1] at hk
    refine b43_13 (r_neI (r_br (fun g2 => ?_) (fun g2 => ?_)))
    · rw [if_pos g2] at hk; exact hk _ hs
    · rw [if_neg g2] at hk; exact hk _ hs
  · rw [if_neg n1, if_neg n2, if_neg n3, if_neg n4] at hk; exact hk _ hs
/-! ### One seat -/
def encP (p : List Ins) : List Value := p.flatMap Ins.enc
theorem encP_len (p : List Ins) : (encP p).length = p.length * 4 := by
  unfold encP
  induction p with
  | nil => rfl
  | cons x p ih => rw [List.flatMap_cons, List.length_append, ih, List.length_cons, Nat.succ_mul]; simp [Ins.enc]; omega
theorem encP_at {p : List Ins} {i : Nat} (hi : i < p.length) : ((encP p).drop (i * 4)).take 4 = (p.getD i ⟨0, 0, 0, 0⟩).enc := by
  have h1 := (flatten_at (W := 4) (l := p.map Ins.enc) (i := i) (x := (p.getD i ⟨0, 0, 0, 0⟩).enc) (by simp [Ins.enc]) (by simp [List.getD_eq_getElem?_getD, List.getElem?_eq_getElem hi])).1
  rw [← h1]
  rfl
theorem encP_op {p : List Ins} {i : Nat} (hi : i < p.length) : (encP p)[i * 4 + 0]? = some (I (p.getD i ⟨0, 0, 0, 0⟩).op) := by
  have h1 := encP_at hi
  have h2 : (((encP p).drop (i * 4)).take 4)[0]? = some (I (p.getD i ⟨0, 0, 0, 0⟩).op) := by rw [h1]; rfl
  rw [List.getElem?_take_of_lt (by omega), List.getElem?_drop] at h2
  exact h2
theorem core_reg {s : Seat} {v : Value} {r : Int} (h0 : 0 ≤ r) (h4 : r < 4) : (s.core ++ [v])[0 + 0 + 0 + r.toNat * 1]? = some (I (s.regs r.toNat)) := by
  have : r = 0 ∨ r = 1 ∨ r = 2 ∨ r = 3 := by omega
  rcases this with rfl | rfl | rfl | rfl <;> rfl
theorem core_set {s : Seat} {v : Value} {r x : Int} (h0 : 0 ≤ r) (h4 : r < 4) : setL (s.core ++ [v]) (0 + 0 + 0 + r.toNat * 1) [I x] = (s.setR r x).core ++ [v] := by
  have : r = 0 ∨ r = 1 ∨ r = 2 ∨ r = 3 := by omega
  rcases this with rfl | rfl | rfl | rfl <;> rfl
theorem r_regS {s : Seat} {v : Value} {b q : Nat} {r x : Int} {k : AH → Prop} (hs : Hs G h L) [m : Has (seg b q) L (s.core ++ [v]) L'] (h0 : 0 ≤ r) (h4 : r < 4) (hk : ∀ h', Hs G h' (seg b q ((s.setR r x).core ++ [v]) :: L') → k h') : thn (stV h 1 (pt b q (0 + 0 + 0 + r.toNat * 1)) (I x)) k := by
  refine r_sto (b := b) (o := q) hs rfl ?_ rfl rfl fun h hs => hk h ?_
  · have : r = 0 ∨ r = 1 ∨ r = 2 ∨ r = 3 := by omega
    rcases this with rfl | rfl | rfl | rfl <;> rfl
  · rw [core_set h0 h4] at hs
    exact hs
theorem setS_at {m : AM} {i : Nat} {s : Seat} : (m.setS i s).seats i = s := updA_same
theorem turn_ok {s : Seat} {b q c : Nat} {a : Option Addr} {at' : Int} (h0 : 0 ≤ at') (hs : Hs G h (seg b q (s.core ++ [.slice a s.prog.length c]) :: slc 4 52 a c (s.prog.length, encP s.prog) :: L))
    (hk : ∀ h', Hs G h' (seg b q ((s.turn at').core ++ [.slice a s.prog.length c]) :: slc 4 52 a c (s.prog.length, encP s.prog) :: L) → Q (.tuple ⟨[]⟩) h') : Cl Pr K 29 [pt b q 0, I at'] h Q := by
  refine c29 (b29_0 (r_nilP (r_padd (r_padd (r_sto hs rfl rfl rfl rfl fun h hs => r_nilP (r_padd (r_ld (b := b) (o := q) hs rfl (r_lenS (r_geI (r_br (fun c1 => ?_) (fun c1 => ?_)))))))))))
  · refine r_nilP (r_padd (r_padd (r_sto (b := b) (o := q) hs rfl rfl rfl rfl fun h hs => ?_)))
    refine hk _ ?_
    have e : s.turn at' = { s with at' := at', over := true } := by unfold Seat.turn overB; rw [if_pos c1]
    rw [e]
    exact hs
  · obtain ⟨n, rfl⟩ : ∃ n : Nat, at' = n := ⟨at'.toNat, by omega⟩
    refine r_nilP (r_padd (r_ld (b := b) (o := q) hs rfl (r_slcJ (W := 4) (e := 52) (cs := encP s.prog) hs (by omega) (encP_op (by omega)) (r_eqI (r_nilP (r_padd (r_padd (r_sto (b := b) (o := q) hs rfl rfl rfl rfl fun h hs => ?_))))))))
    refine hk _ ?_
    have e : s.turn n = { s with at' := n, over := decide ((s.prog.getD n ⟨0, 0, 0, 0⟩).op = 11) } := by unfold Seat.turn overB; rw [if_neg c1]; rfl
    rw [e]
    exact hs
end Go.Proofs.YtincdgimnjofpaaDoor
end
section
namespace Go.Proofs.YtincdgimnjofpaaDoor
open Go Go.Ab Go.Hm Go.At Go.Is
attribute [local irreducible] thn Br ld1 ldN stV alc alcAt alcS alcSAt resv padd nilV extV part1 partN lenS lenT biI biT biB biP biS biF biE biA unV idxS idxA pickV appV copyV clearV slS slA slT mkS blkOf at1 atN atS convI convS minV maxV Cl OkF OkR EndX endV beginV defersOf setLoop closeMarks
variable {G : Bg} {h : AH} {L L' : List HP} {Q : Value → AH → Prop}
def memD (mem : Nat → Ln) (done : List Nat) : Nat → Ln := done.foldl (fun m l => updA m l (0, 0)) mem
abbrev scX (G : Bg) (C : Cfg) (mb p2 : Nat) (mem : Nat → Ln) (e : Nat → Value) (d l : Nat) (done : List Nat) : HP := sp [lpT Pr 44 (dcd 122) 34 e d l (.ready, none), seg p2 0 [pt mb 0 0], memN G C.lines mb C (memD mem done)]
theorem scrub_ok {C : Cfg} (hC : C.Ok) {mb g : Nat} {mem : Nat → Ln} (hl : Ob G 0 limE) (hs : Hs G h L) [m : Has (memN G C.lines mb C) L mem L'] (h0 : (g : Int) < C.granules)
    (hk : ∀ v h', Hs G h' (memN G C.lines mb C (scrub mem g) :: L') → Q v h') : Cl Pr K 44 [pt mb 0 0, I g] h Q := by
  have hb : C.granules ≤ 16 := hC.2.1.2
  have hln := Cfg.lines_eq hC
  have hs := m.of hs
  refine c44 (b44_0 (r_bx hs fun p2 h hs => r_new hs fun p4 h hs => r_ld (b := p2) (o := 0) hs rfl (r_ptEq (r_brf (b44_1 (r_ltI (r_brF (by omega) ?_)))))))
  obtain ⟨b, o, cap, hs⟩ := mem_open (hs.front (memN G C.lines mb C mem))
  refine r_ld (b := p2) (o := 0) hs rfl (r_nilP (r_padd (r_padd (r_ld (b := mb) (o := 0) hs rfl (r_geI (r_brF (by omega) (b44_2 ?_)))))))
  refine r_ld (b := p2) (o := 0) hs rfl (r_nilP (r_padd (r_ldN (b := mb) (o := 0) hs (by decide) (l := C.enc) rfl rfl (linesOf_ok hs fun p q h hs => r_marks hs fun d h hs => ?_))))
  have hs := mem_shut C.lines mb C mem b o cap hs
  intro e he
  refine r_loop hs fun l h hs => r_okR rfl ?_
  have hs : Hs G h (sp [seg p 0 C.enc, seg q 0 [I g]] :: scX G C mb p2 mem e d l [] :: sp [seg p4 0 [I 0], mk d ()] :: L') := by
    have hs := hs.front3 (lpT Pr 44 (dcd 122) 34 e d l (.ready, none)) (seg p2 0 [pt mb 0 0]) (memN G C.lines mb C mem)
    have hs : Hs G h (scX G C mb p2 mem e d l [] :: _) := hs.pk3
    have hs := (hs.front2 (seg p4 0 [I 0]) (mk d ())).pk2
    exact hs.front3 (sp [seg p 0 C.enc, seg q 0 [I g]]) (scX G C mb p2 mem e d l []) (sp [seg p4 0 [I 0], mk d ()])
  refine (linesOf_y (p := p) (q := q) hC h0 hl).fold (X := scX G C mb p2 mem e d l) (Z := fun _ _ => puH False) hs ?_ ?_ ?_
  · intro done y h M hp hs
    have hy : y < C.lines := by
      obtain ⟨ys, hys⟩ := hp
      have : y ∈ [g * 2, g * 2 + 1] := by rw [← hys]; simp
      simp at this
      omega
    have hs := hs.un3
    refine r44_0 (r_atv hs) he (b44_3 (r_beginv hs fun h hs => r_ld (b := p2) (o := 0) hs rfl (r_fill (c := lnE (0, 0)) rfl (write_ok hC hl hs hy fun h hs => r_neI (r_brF (by omega) ?_)))))
    refine r_setv hs fun h hs => .inl ⟨rfl, Hs.pk3 ?_⟩
    have e1 : memD mem (done ++ [y]) = updA (memD mem done) y (0, 0) := by unfold memD; rw [List.foldl_append]; rfl
    rw [e1]
    exact hs.to
  · intro v h hs
    have hs := (hs.front (scX G C mb p2 mem e d l [g * 2, g * 2 + 1])).un3
    refine r_endv hs fun h hs => r_endN ?_
    have hs := (hs.front (sp [seg p4 0 [I 0], mk d ()])).un2
    refine r_stW (b := p4) (o := 0) hs rfl rfl rfl rfl fun h hs => r_cm1 hs fun h hs => r_cm0 (r_ld (b := p4) (o := 0) hs rfl (hk _ _ ?_))
    have e2 : memD mem [g * 2, g * 2 + 1] = scrub mem g := rfl
    rw [e2] at hs
    exact hs.to
  · intro done y v h hp hs
    exact (hs.front (puH False)).puE.1.elim
/-- what is asked of a whole machine, but for its seats -/
abbrev hdA (pm : Nat) (C : Cfg) (v : Value) (a : Option Addr) (n c mb : Nat) : HP := seg pm 0 (C.enc ++ [v, .slice a n c, pt mb 0 0])
theorem own_at {o : List Int} {g : Nat} (h : g < o.length) : (o.map I)[g]? = some (I (o.getD g 0)) := by
  simp [List.getD_eq_getElem?_getD, List.getElem?_eq_getElem h]
theorem mayM_ok {m : AM} (hC : m.cfg.Ok) (ho : (m.owners.length : Int) = m.cfg.granules) {pm mb c : Nat} {a : Option Addr} {v : Value} {w x : Int} (hl : Ob G 0 limE)
    (hs : Hs G h (hdA pm m.cfg v a m.owners.length c mb :: slc 1 3 a c (m.owners.length, m.owners.map I) :: L))
    (hk : ∀ h', Hs G h' (hdA pm m.cfg v a m.owners.length c mb :: slc 1 3 a c (m.owners.length, m.owners.map I) :: L) → Q (.bool (m.may w x)) h') : Cl Pr K 42 [pt pm 0 0, I w, I x] h Q := by
  have hln := Cfg.lines_eq hC
  unfold AM.may at hk
  refine c42 (b42_0 (r_nilP (r_padd (r_ldN (b := pm) (o := 0) hs (by decide) (l := m.cfg.enc) rfl rfl (lineOf_ok hC hl hs fun h hs => ?_)))))
  by_cases c1 : 0 ≤ x ∧ x < m.cfg.lines * 2
  · rw [if_pos c1] at hk ⊢
    refine r_ext rfl (r_ext rfl (r_ext rfl (r_neI (r_brF (by omega) (b42_1 (r_nilP (r_padd (r_ldN (b := pm) (o := 0) hs (by decide) (l := m.cfg.enc) rfl rfl (granule_ok hC (by omega) hl hs fun h hs => ?_)))))))))
    refine r_ext rfl (r_ext rfl (r_eqI (r_brT (by omega) (r_nilP (r_padd (r_ld (b := pm) (o := 0) hs rfl (r_slc1 (e := 3) (cs := m.owners.map I) hs (own_at (by omega)) (mayT_ok ?_))))))))
    have := hk _ hs
    rw [show x.toNat / 4 = x.toNat / 2 / 2 by omega] at this
    exact this
  · rw [if_neg c1] at hk ⊢
    exact r_ext rfl (r_ext rfl (r_ext rfl (r_neI (r_brT (by omega) (hk _ hs)))))
end Go.Proofs.YtincdgimnjofpaaDoor
end
section
namespace Go.Proofs.YtincdgimnjofpaaDoor
open Go Go.Ab Go.Hm Go.At Go.Is
attribute [local irreducible] thn Br ld1 ldN stV alc alcAt alcS alcSAt resv padd nilV extV part1 partN lenS lenT biI biT biB biP biS biF biE biA unV idxS idxA pickV appV copyV clearV slS slA slT mkS blkOf at1 atN atS convI convS minV maxV Cl OkF OkR EndX endV beginV defersOf setLoop closeMarks
variable {G : Bg} {h : AH} {L L' : List HP} {Q : Value → AH → Prop}
theorem may_range {m : AM} {w x : Int} (h : m.may w x = true) : 0 ≤ x ∧ x < m.cfg.lines * 2 := by
  unfold AM.may at h
  split at h
  · assumption
  · cases h
theorem access_ok {m : AM} (hC : m.cfg.Ok) (ho : (m.owners.length : Int) = m.cfg.granules) {pm mb c b q i : Nat} {a : Option Addr} {v pv : Value} {x : Ins} (hx : x.op = 3 ∨ x.op = 4 ∨ x.op = 5) (ha : 0 ≤ x.a ∧ x.a < 4) (hb : 0 ≤ x.b ∧ x.b < 4) (hl : Ob G 0 limE)
    (hs : Hs G h (hdA pm m.cfg v a m.owners.length c mb :: slc 1 3 a c (m.owners.length, m.owners.map I) :: memN G m.cfg.lines mb m.cfg m.mem :: seg b q ((m.seats i).core ++ [pv]) :: L))
    (hk : ∀ h', Hs G h' (hdA pm m.cfg v a m.owners.length c mb :: slc 1 3 a c (m.owners.length, m.owners.map I) :: memN G m.cfg.lines mb m.cfg (m.access i x).1.mem :: seg b q (((m.access i x).1.seats i).core ++ [pv]) :: L) → Q (.tuple ⟨[I (m.access i x).2.1, I (m.access i x).2.2]⟩) h') : Cl Pr K 32 [pt pm 0 0, pt b q 0, .agg ⟨x.enc⟩] h Q := by
  refine c32 (b32_0 (r_bx hs fun p2 h hs => r_resv hs fun rv h hs => ?_))
  refine r_padd (r_ld (b := p2) (o := 0) hs rfl (r_nilP (r_padd (r_padd (r_idxA hb.1 hb.2 (r_ld (b := b) (o := q) hs (core_reg hb.1 hb.2) (r_padd (r_ld (b := p2) (o := 0) hs rfl (r_eqI ?_)))))))))
  have go : A32_3 Q (pt pm 0 0) (pt b q 0) (pt p2 0 0) (I ((m.seats i).regs x.b.toNat)) h := by
    unfold AM.access at hk
    refine b32_3 (r_nilP (r_padd (r_padd (r_ld (b := b) (o := q) hs rfl ?_))))
    refine mayM_ok (a := a) (c := c) (mb := mb) (v := v) hC ho hl (hs.front2 (hdA pm m.cfg v a m.owners.length c mb) (slc 1 3 a c (m.owners.length, m.owners.map I))) fun h hs => r_not (r_brn (r_brb (fun h1 => ?_) (fun h1 => ?_)))
    rotate_left
    · rw [if_neg (by simp [h1])] at hk
      exact hk _ hs.to
    rw [if_pos h1] at hk
    have hw := may_range h1
    generalize hW : (m.seats i).regs x.b.toNat = W at *
    obtain ⟨w, rfl⟩ : ∃ w : Nat, W = w := ⟨W.toNat, by omega⟩
    simp only [Int.toNat_natCast] at hk
    refine b32_5 (r_nilP (r_padd (r_ld (b := pm) (o := 0) hs rfl ?_)))
    refine memGet_ok hC hl hs (by omega) fun h hs => r_ext rfl (r_ext rfl (r_neI (r_brF (by omega) (b32_6 (r_padd (r_ld (b := p2) (o := 0) hs rfl (r_neI (r_br (fun c1 => ?_) (fun c1 => ?_)))))))))
    · rw [if_neg c1] at hk
      refine b32_7 (r_resv hs fun rv h hs => r_nilP (r_padd (r_ld (b := pm) (o := 0) hs rfl (r_padd (r_ld (b := p2) (o := 0) hs rfl (r_nilP (r_padd (r_padd (r_idxA ha.1 ha.2 (r_ld (b := b) (o := q) hs (core_reg ha.1 ha.2) ?_))))))))))
      refine memSet_ok hC hl hs (by omega) fun h hs => r_padd (r_ld (b := p2) (o := 0) hs rfl (r_eqI (r_br (fun c2 => ?_) (fun c2 => ?_))))
      · rw [if_pos c2] at hk
        refine b32_9 (r_resv hs fun rv h hs => r_padd (r_ld (b := p2) (o := 0) hs rfl (r_nilP (r_padd (r_padd (r_idxA ha.1 ha.2 (r_ld (b := b) (o := q) hs (core_reg ha.1 ha.2) (hk _ ?_))))))))
        simp only [AM.setM]
        exact hs.to
      · rw [if_neg c2] at hk
        refine b32_10 (r_resv hs fun rv h hs => r_padd (r_ld (b := p2) (o := 0) hs rfl (r_nilP (r_padd (r_padd (r_idxA ha.1 ha.2 (r_regS hs ha.1 ha.2 fun h hs => ?_)))))))
        refine hk _ ?_
        simp only [AM.setM, AM.setS, updA_same]
        exact hs.to
    · rw [if_pos (by omega)] at hk
      refine b32_8 (r_padd (r_ld (b := p2) (o := 0) hs rfl (r_eqI (r_brF (by omega) ?_))))
      refine b32_10 (r_resv hs fun rv h hs => r_padd (r_ld (b := p2) (o := 0) hs rfl (r_nilP (r_padd (r_padd (r_idxA ha.1 ha.2 (r_regS hs ha.1 ha.2 fun h hs => ?_)))))))
      refine hk _ ?_
      simp only [AM.setM, AM.setS, updA_same]
      exact hs.to
  rcases hx with e | e | e
  · refine r_brT (by omega) (b32_1 ?_)
    rw [decide_eq_true (by omega)]
    exact r_brt go
  · refine r_brF (by omega) (b32_2 (r_eqI (r_brT (by omega) (b32_1 ?_))))
    rw [decide_eq_true (by omega)]
    exact r_brt go
  · exact r_brF (by omega) (b32_2 (r_eqI (r_brF (by omega) (b32_4 (r_eqI (r_brT (by omega) go))))))
theorem call_ok {m : AM} (hC : m.cfg.Ok) (ho : (m.owners.length : Int) = m.cfg.granules) {pm mb c : Nat} {a : Option Addr} {v : Value} {cl w g t : Int} {busy : Bool} (hl : Ob G 0 limE)
    (hs : Hs G h (hdA pm m.cfg v a m.owners.length c mb :: slc 1 3 a c (m.owners.length, m.owners.map I) :: memN G m.cfg.lines mb m.cfg m.mem :: L))
    (hk : ∀ h', Hs G h' (hdA pm m.cfg v a m.owners.length c mb :: slc 1 3 a c (m.owners.length, (m.call cl w g t busy).1.owners.map I) :: memN G m.cfg.lines mb m.cfg (m.call cl w g t busy).1.mem :: L) → Q (I (m.call cl w g t busy).2) h') : Cl Pr K 33 [pt pm 0 0, I cl, I w, I g, I t, .bool busy] h Q := by
  have hb : m.cfg.granules ≤ 16 := hC.2.1.2
  unfold AM.call at hk
  refine c33 (b33_0 (r_nilP (r_padd (r_ld (b := pm) (o := 0) hs rfl (r_lenS (r_subI (by omega) (r_fill (c := [I g]) rfl (r_newS hs rfl rfl rfl fun ad h hs => ?_))))))))
  refine within1_ok hs fun h hs2 => r_not (r_brn (r_br (fun h1 => ?_) (fun h1 => ?_)))
  rotate_left
  · rw [if_pos (by omega)] at hk
    exact hk _ hs2
  rw [if_neg (by omega)] at hk
  clear hs
  have hs := hs2
  clear hs2
  obtain ⟨n, rfl⟩ : ∃ n : Nat, g = n := ⟨g.toNat, by omega⟩
  simp only [Int.toNat_natCast] at hk
  refine b33_1 (r_brb (fun h2 => ?_) (fun h2 => ?_))
  · rw [if_pos h2] at hk; exact hk _ hs
  rw [if_neg (by simp [h2])] at hk
  refine b33_2 (r_nilP (r_padd (r_ld (b := pm) (o := 0) hs rfl (r_slc1 (e := 3) (cs := m.owners.map I) hs (own_at (by omega)) (judge_ok hs fun h hs => r_ext rfl (r_ext rfl (r_ext rfl (r_neI (r_br (fun h3 => ?_) (fun h3 => ?_))))))))))
  · rw [if_pos h3] at hk; exact hk _ hs
  rw [if_neg h3] at hk
  refine b33_3 (r_nilP (r_padd (r_ld (b := pm) (o := 0) hs rfl (r_slcSet (e := 3) (cs := m.owners.map I) hs rfl (by omega) fun h hs => r_brb (fun h4 => ?_) (fun h4 => ?_)))))
  · rw [if_pos h4] at hk
    refine b33_4 (r_nilP (r_padd (r_ld (b := pm) (o := 0) hs rfl ?_)))
    refine scrub_ok hC hl hs (by omega) fun _ h hs => hk _ ?_
    rw [← List.map_set] at hs
    simp only [AM.setM, AM.setO]
    exact hs.to
  · rw [if_neg (by rw [h4]; decide)] at hk
    refine hk _ ?_
    rw [← List.map_set] at hs
    simp only [AM.setM, AM.setO]
    exact hs.to
end Go.Proofs.YtincdgimnjofpaaDoor
end
section
namespace Go.Proofs.YtincdgimnjofpaaDoor
open Go Go.Ab Go.Hm Go.At Go.Is
attribute [local irreducible] thn Br ld1 ldN stV alc alcAt alcS alcSAt resv padd nilV extV part1 partN lenS lenT biI biT biB biP biS biF biE biA unV idxS idxA pickV appV copyV clearV slS slA slT mkS blkOf at1 atN atS convI convS minV maxV Cl OkF OkR EndX endV beginV defersOf setLoop closeMarks
variable {G : Bg} {h : AH} {L L' : List HP} {Q : Value → AH → Prop}
/-- a seat of a machine -/
def seatR (b o : Nat) (s : Seat) : HP := exH fun x : Option Addr × Nat => sp [seg b o (s.core ++ [.slice x.1 s.prog.length x.2]), slc 4 52 x.1 x.2 (s.prog.length, encP s.prog)]
theorem seat_open {b o : Nat} {s : Seat} (hs : Hs G h (seatR b o s :: L)) : ∃ a c, Hs G h (seg b o (s.core ++ [.slice a s.prog.length c]) :: slc 4 52 a c (s.prog.length, encP s.prog) :: L) := by
  obtain ⟨⟨a, c⟩, hs⟩ := hs.exE
  exact ⟨a, c, hs.unpack⟩
theorem seat_close {b o c : Nat} {a : Option Addr} {s : Seat} (hs : Hs G h (seg b o (s.core ++ [.slice a s.prog.length c]) :: slc 4 52 a c (s.prog.length, encP s.prog) :: L)) : Hs G h (seatR b o s :: L) :=
  Hs.exI (A := fun x : Option Addr × Nat => sp [seg b o (s.core ++ [.slice x.1 s.prog.length x.2]), slc 4 52 x.1 x.2 (s.prog.length, encP s.prog)]) (a, c) (Hs.pack (A := [_, _]) hs)
structure AtA where
  b : Nat
  o : Nat
  cap : Nat
  a : Option Addr
  c : Nat
  mb : Nat
def atL (G : Bg) (pm : Nat) (m : AM) (x : AtA) : List HP := [hdA pm m.cfg (.slice (some ⟨x.b, x.o, none⟩) m.cfg.cores.toNat x.cap) x.a m.owners.length x.c x.mb, slc 1 3 x.a x.c (m.owners.length, m.owners.map I), memN G m.cfg.lines x.mb m.cfg m.mem,
  hole G 8 79 (some ⟨x.b, x.o, none⟩) x.cap m.cfg.cores.toNat x.b x.o, big m.cfg.cores.toNat fun i => seatR x.b (x.o + i * 8) (m.seats i)]
/-- a machine -/
def atmR (G : Bg) (pm : Nat) (m : AM) : HP := exH fun x : AtA => sp (atL G pm m x)
theorem atm_open {pm : Nat} {m : AM} (hs : Hs G h (atmR G pm m :: L)) : ∃ b o cap a c mb, Hs G h (hdA pm m.cfg (.slice (some ⟨b, o, none⟩) m.cfg.cores.toNat cap) a m.owners.length c mb :: slc 1 3 a c (m.owners.length, m.owners.map I) :: memN G m.cfg.lines mb m.cfg m.mem ::
    hole G 8 79 (some ⟨b, o, none⟩) cap m.cfg.cores.toNat b o :: big m.cfg.cores.toNat (fun i => seatR b (o + i * 8) (m.seats i)) :: L) := by
  obtain ⟨⟨b, o, cap, a, c, mb⟩, hs⟩ := hs.exE
  exact ⟨b, o, cap, a, c, mb, hs.unpack⟩
theorem atm_close {pm : Nat} {m : AM} {b o cap c mb : Nat} {a : Option Addr} (hs : Hs G h (hdA pm m.cfg (.slice (some ⟨b, o, none⟩) m.cfg.cores.toNat cap) a m.owners.length c mb :: slc 1 3 a c (m.owners.length, m.owners.map I) :: memN G m.cfg.lines mb m.cfg m.mem ::
    hole G 8 79 (some ⟨b, o, none⟩) cap m.cfg.cores.toNat b o :: big m.cfg.cores.toNat (fun i => seatR b (o + i * 8) (m.seats i)) :: L)) : Hs G h (atmR G pm m :: L) :=
  Hs.exI (A := fun x : AtA => sp (atL G pm m x)) ⟨b, o, cap, a, c, mb⟩ (Hs.pack (A := atL G pm m ⟨b, o, cap, a, c, mb⟩) hs)
/-- behind what an instruction does: the turn -/
theorem step_fin {m r : AM} {i b o cap c mb pm p28 p6 pc : Nat} {a pa : Option Addr} {ev : Ev} {nx : Int} (k1 : r.cfg = m.cfg) (k2 : r.owners.length = m.owners.length) (k3 : ∀ j, j ≠ i → r.seats j = m.seats j) (k4 : (r.seats i).prog = (m.seats i).prog) (h0 : 0 ≤ nx) (hi : i < m.cfg.cores.toNat)
    (hs : Hs G h (hdA pm m.cfg (.slice (some ⟨b, o, none⟩) m.cfg.cores.toNat cap) a m.owners.length c mb :: slc 1 3 a c (m.owners.length, r.owners.map I) :: memN G m.cfg.lines mb m.cfg r.mem ::
      hole G 8 79 (some ⟨b, o, none⟩) cap m.cfg.cores.toNat b o :: sp (((List.range m.cfg.cores.toNat).erase i).map fun i => seatR b (o + i * 8) (m.seats i)) :: seg b (o + i * 8) ((r.seats i).core ++ [.slice pa (m.seats i).prog.length pc]) ::
      slc 4 52 pa pc ((m.seats i).prog.length, encP (m.seats i).prog) :: seg p28 0 ev.enc :: seg p6 0 [I 0, I 0, I 0, I 0, I 0, I 0, I 0] :: L))
    (hk : ∀ h', Hs G h' (atmR G pm (r.turn i nx) :: L) → Q (.tuple ⟨[.agg ⟨ev.enc⟩, I 0]⟩) h') :
    Cl Pr K 29 [pt b (o + i * 8) 0, I nx] h fun v h' => thn (ldN h' 7 (pt p28 0 0)) fun v16 => thn (stV h' 7 (pt p6 0 0) v16) fun h17 => thn (ldN h17 7 (pt p6 0 0)) fun v18 => Q (.tuple ⟨[v18, (I 0)]⟩) h17 := by
  rw [← k4] at hs
  refine turn_ok (s := r.seats i) (a := pa) (c := pc) h0 (hs.front2 (seg b (o + i * 8) ((r.seats i).core ++ [.slice pa (r.seats i).prog.length pc])) (slc 4 52 pa pc ((r.seats i).prog.length, encP (r.seats i).prog))) fun h hs => ?_
  refine r_ldN (b := p28) (o := 0) hs (by decide) (l := ev.enc) rfl rfl (r_stW (b := p6) (o := 0) hs rfl rfl rfl rfl fun h hs => r_ldN (b := p6) (o := 0) hs (by decide) (l := ev.enc) rfl rfl (hk _ ?_))
  have hs := seat_close (s := (r.seats i).turn nx) (hs.front2 (seg b (o + i * 8) (((r.seats i).turn nx).core ++ [.slice pa (r.seats i).prog.length pc])) (slc 4 52 pa pc ((r.seats i).prog.length, encP (r.seats i).prog)))
  have e1 : seatR b (o + i * 8) ((r.seats i).turn nx) = (fun j => seatR b (o + j * 8) ((r.turn i nx).seats j)) i := by simp only [AM.turn, AM.setS, updA_same]
  rw [e1] at hs
  have hs := hs.bigPut (n := m.cfg.cores.toNat) (i := i) (fun j => seatR b (o + j * 8) (m.seats j)) (fun j => seatR b (o + j * 8) ((r.turn i nx).seats j)) hi (fun j _ hne => by
    have : (r.turn i nx).seats j = m.seats j := by rw [← k3 j hne]; exact updA_ne hne
    simp only [this])
  have e2 : (r.turn i nx).cfg = m.cfg := k1
  refine atm_close (b := b) (o := o) (cap := cap) (a := a) (c := c) (mb := mb) ?_
  rw [e2, show (r.turn i nx).owners = r.owners from rfl, k2, show (r.turn i nx).mem = r.mem from rfl]
  exact hs.to
end Go.Proofs.YtincdgimnjofpaaDoor
end
section
namespace Go.Proofs.YtincdgimnjofpaaDoor
open Go Go.Ab Go.Hm Go.At Go.Is
attribute [local irreducible] thn Br ld1 ldN stV alc alcAt alcS alcSAt resv padd nilV extV part1 partN lenS lenT biI biT biB biP biS biF biE biA unV idxS idxA pickV appV copyV clearV slS slA slT mkS blkOf at1 atN atS convI convS minV maxV Cl OkF OkR EndX endV beginV defersOf setLoop closeMarks
variable {G : Bg} {h : AH} {L L' : List HP} {Q : Value → AH → Prop}
theorem step_ok {m : AM} (hm : m.Ok) {pm : Nat} {cr : Int} {busy : Bool} (hl : Ob G 0 limE) (hs : Hs G h L) [mm : Has (atmR G pm) L m L']
    (hk : ∀ h', Hs G h' (atmR G pm (m.step cr busy).1 :: L') → Q (.tuple ⟨[.agg ⟨(m.step cr busy).2.1.enc⟩, I (m.step cr busy).2.2]⟩) h') : Cl Pr K 10 [pt pm 0 0, I cr, .bool busy] h Q := by
  have hco : m.cfg.cores ≤ 4 ∧ 1 ≤ m.cfg.cores := ⟨hm.cfg.1.2, hm.cfg.1.1⟩
  obtain ⟨b, o, cap, a, c, mb, hs⟩ := atm_open (mm.of hs)
  refine c10 (b10_0 (r_new hs fun p6 h hs => r_ptEq (r_brf (b10_1 ?_))))
  refine r_nilP (r_padd (r_ld (b := pm) (o := 0) hs rfl (r_lenS (r_subI (by omega) (r_fill (c := [I cr]) rfl (r_newS hs rfl rfl rfl fun ad h hs => ?_))))))
  refine within1_ok hs fun h hs2 => r_not (r_brn (r_br (fun h1 => ?_) (fun h1 => ?_)))
  rotate_left
  · refine r_fill (c := [I 0, I 0, I 0, I 0, I 0, I 0, I 0]) rfl (r_stW (b := p6) (o := 0) hs2 rfl rfl rfl rfl fun h hs => r_ldN (b := p6) (o := 0) hs (by decide) (l := [I 0, I 0, I 0, I 0, I 0, I 0, I 0]) rfl rfl ?_)
    unfold AM.step at hk
    rw [if_pos (by omega)] at hk
    refine hk _ (atm_close (b := b) (o := o) (cap := cap) (a := a) (c := c) (mb := mb) hs.to)
  clear hs
  have hs := hs2
  clear hs2
  obtain ⟨i, rfl⟩ : ∃ i : Nat, cr = i := ⟨cr.toNat, by omega⟩
  have hi : i < m.cfg.cores.toNat := by omega
  unfold AM.step at hk
  rw [if_neg (by omega)] at hk
  simp only [Int.toNat_natCast] at hk
  have hs := (hs.front (big m.cfg.cores.toNat fun i => seatR b (o + i * 8) (m.seats i))).bigOut i hi
  obtain ⟨pa, pc, hs⟩ := seat_open hs
  refine b10_2 (r_nilP (r_padd (r_ld (b := pm) (o := 0) hs rfl (r_idxN hi (r_nilP (r_padd (r_padd (r_ld (b := b) (o := o + i * 8) hs rfl ?_))))))))
  refine r_brb (fun h2 => ?_) (fun h2 => ?_)
  · rw [if_pos h2] at hk
    refine r_fill (c := [I 0, I 0, I 0, I 0, I 0, I 0, I 0]) rfl (r_stW (b := p6) (o := 0) hs rfl rfl rfl rfl fun h hs => r_ldN (b := p6) (o := 0) hs (by decide) (l := [I 0, I 0, I 0, I 0, I 0, I 0, I 0]) rfl rfl ?_)
    refine hk _ ?_
    have hs := seat_close (hs.front2 (seg b (o + i * 8) ((m.seats i).core ++ [.slice pa (m.seats i).prog.length pc])) (slc 4 52 pa pc ((m.seats i).prog.length, encP (m.seats i).prog)))
    have hs := hs.bigPut (n := m.cfg.cores.toNat) (i := i) (fun j => seatR b (o + j * 8) (m.seats j)) (fun j => seatR b (o + j * 8) (m.seats j)) hi (fun _ _ _ => rfl)
    exact atm_close (b := b) (o := o) (cap := cap) (a := a) (c := c) (mb := mb) hs.to
  rw [if_neg (by rw [h2]; decide)] at hk
  have hso := hm.seats i (by omega)
  have hlt := over_lt (p := (m.seats i).prog) (a := (m.seats i).at') (by rw [← hso.2.2.1]; exact h2)
  have hf := may_Fits (hso.2.2.2.2 _ (opAt_mem hso.1 hlt))
  have hnx := does_next (m := m) (i := i) (b := busy) hf hso.1 hlt
  obtain ⟨k1, k2, k3, k4⟩ := does_keeps (m := m) (i := i) (x := opAt (m.seats i).prog (m.seats i).at') (b := busy)
  have hat : ∃ n : Nat, (m.seats i).at' = n := ⟨(m.seats i).at'.toNat, by have := hso.1; omega⟩
  obtain ⟨n, hn⟩ := hat
  have hxe : opAt (m.seats i).prog (m.seats i).at' = (m.seats i).prog.getD n ⟨0, 0, 0, 0⟩ := by rw [hn]; rfl
  generalize hx : opAt (m.seats i).prog (m.seats i).at' = x at *
  have hlen := hso.2.2.2.1
  refine b10_3 (r_resv hs fun rv h hs => ?_)
  refine r_nilP (r_padd (r_ld (b := b) (o := o + i * 8) hs rfl (r_nilP (r_padd (r_padd (r_ld (b := b) (o := o + i * 8) hs rfl ?_))))))
  rw [hn]
  refine r_slcN (W := 4) (e := 52) (cs := encP (m.seats i).prog) (x := x.enc) hs (by decide) (by omega) (by rw [hxe]; exact encP_at (by omega)) rfl ?_
  refine r_newAt hs rfl rfl fun p12 h hs => r_stW (b := p12) (o := 0) hs rfl rfl rfl rfl fun h hs => r_resv hs fun rv2 h hs => ?_
  refine r_nilP (r_padd (r_padd (r_ld (b := b) (o := o + i * 8) hs rfl (r_padd (r_ld (b := p12) (o := 0) hs rfl (r_nilP (r_padd (r_padd (r_ld (b := b) (o := o + i * 8) hs rfl ?_)))))))))
  refine r_fill (c := [I i, I (m.seats i).at', I x.op, I (m.seats i).world, I 0, I 0, I 0]) rfl ?_
  refine r_newAt hs rfl rfl fun p28 h hs => r_stW (b := p28) (o := 0) hs rfl rfl rfl rfl fun h hs => ?_
  refine r_nilP (r_padd (r_padd (r_ld (b := b) (o := o + i * 8) hs rfl (r_addI (by omega) (r_padd (r_ld (b := p12) (o := 0) hs rfl (r_eqI ?_)))))))
  have fin : ∀ (r : AM) (w v c0 nx : Int) (h : AH), m.does i x busy = (r, w, v, c0, nx) →
      Hs G h (hdA pm m.cfg (.slice (some ⟨b, o, none⟩) m.cfg.cores.toNat cap) a m.owners.length c mb :: slc 1 3 a c (m.owners.length, r.owners.map I) :: memN G m.cfg.lines mb m.cfg r.mem ::
      hole G 8 79 (some ⟨b, o, none⟩) cap m.cfg.cores.toNat b o :: sp (((List.range m.cfg.cores.toNat).erase i).map fun i => seatR b (o + i * 8) (m.seats i)) :: seg b (o + i * 8) ((r.seats i).core ++ [.slice pa (m.seats i).prog.length pc]) ::
      slc 4 52 pa pc ((m.seats i).prog.length, encP (m.seats i).prog) :: seg p28 0 [I i, I (m.seats i).at', I x.op, I (m.seats i).world, I w, I v, I c0] :: seg p6 0 [I 0, I 0, I 0, I 0, I 0, I 0, I 0] :: L') →
      Cl Pr K 29 [pt b (o + i * 8) 0, I nx] h fun v h' => thn (ldN h' 7 (pt p28 0 0)) fun v16 => thn (stV h' 7 (pt p6 0 0) v16) fun h17 => thn (ldN h17 7 (pt p6 0 0)) fun v18 => Q (.tuple ⟨[v18, (I 0)]⟩) h17 := by
    intro r w v c0 nx h hd hs
    rw [hd] at hk k1 k2 k3 k4 hnx
    exact step_fin (ev := ⟨i, (m.seats i).at', x.op, (m.seats i).world, w, v, c0⟩) k1 k2 k3 k4 hnx.1 hi hs hk
  refine r_br (fun c1 => ?_) (fun n1 => b10_5 (r_eqI (r_br (fun c1 => ?_) (fun n2 => b10_7 (r_eqI ?_)))))
  · have ha := hf.r1 (.inl c1)
    refine b10_4 (r_padd (r_ld (b := p12) (o := 0) hs rfl (r_padd (r_sto (b := p28) (o := 0) hs rfl rfl rfl rfl fun h hs => r_resv hs fun rv h hs => r_padd (r_ld (b := p12) (o := 0) hs rfl (r_padd (r_ld (b := p12) (o := 0) hs rfl (r_nilP (r_padd (r_padd (r_idxA ha.1 ha.2 (r_regS hs ha.1 ha.2 fun h hs => ?_))))))))))))
    refine fin (m.setS i ((m.seats i).setR x.a x.b)) 0 x.b 0 _ h ?_ ?_
    · unfold AM.does; rw [if_pos c1]
    · have hs := hs.sg (b := p28) (o := 0) (c := [I i, I (m.seats i).at', I x.op, I (m.seats i).world, I 0, I x.b, I 0]) rfl
      simp only [AM.setS, updA_same]; exact hs.to
  · have ha := hf.r1 (.inr (.inl c1))
    have hb := hf.r2 (.inl c1)
    have hc := hf.r3 (.inl c1)
    refine b10_6 (r_resv hs fun rv h hs => r_padd (r_ld (b := p12) (o := 0) hs rfl (r_nilP (r_padd (r_padd (r_idxA hb.1 hb.2 (r_ld (b := b) (o := o + i * 8) hs (core_reg hb.1 hb.2) (r_padd (r_ld (b := p12) (o := 0) hs rfl (r_nilP (r_padd (r_padd (r_idxA hc.1 hc.2 (r_ld (b := b) (o := o + i * 8) hs (core_reg hc.1 hc.2) (r_addW (r_padd (r_sto (b := p28) (o := 0) hs rfl rfl rfl rfl fun h hs => ?_)))))))))))))))))
    refine r_resv hs fun rv h hs => r_padd (r_ld (b := p12) (o := 0) hs rfl (r_padd (r_ld (b := p28) (o := 0) hs rfl (r_nilP (r_padd (r_padd (r_idxA ha.1 ha.2 (r_regS hs ha.1 ha.2 fun h hs => ?_))))))))
    refine fin (m.setS i ((m.seats i).setR x.a (wr ((m.seats i).regs x.b.toNat + (m.seats i).regs x.c.toNat)))) 0 (wr ((m.seats i).regs x.b.toNat + (m.seats i).regs x.c.toNat)) 0 _ h ?_ ?_
    · unfold AM.does; rw [if_neg n1, if_pos c1]
    · have hs := hs.sg (b := p28) (o := 0) (c := [I i, I (m.seats i).at', I x.op, I (m.seats i).world, I 0, I (wr ((m.seats i).regs x.b.toNat + (m.seats i).regs x.c.toNat)), I 0]) rfl
      simp only [AM.setS, updA_same]; exact hs.to
  have acc : x.op = 3 ∨ x.op = 4 ∨ x.op = 5 → A10_10 Q (pt pm 0 0) (pt p6 0 0) (pt b (o + i * 8) 0) (pt p12 0 0) (pt p28 0 0) (I ((m.seats i).at' + 1)) h := by
    intro ho
    have ha := hf.r1 (by omega)
    have hb := hf.r2 (by omega)
    refine b10_10 (r_resv hs fun rv h hs => r_padd (r_ld (b := p12) (o := 0) hs rfl (r_nilP (r_padd (r_padd (r_idxA hb.1 hb.2 (r_ld (b := b) (o := o + i * 8) hs (core_reg hb.1 hb.2) (r_padd (r_sto (b := p28) (o := 0) hs rfl rfl rfl rfl fun h hs => r_ldN (b := p12) (o := 0) hs (by decide) (l := x.enc) rfl rfl ?_)))))))))
    obtain ⟨e1, e2, e3, e4, e5⟩ := access_keeps (m := m) (i := i) (x := x)
    refine access_ok (m := m) (i := i) (pv := .slice pa (m.seats i).prog.length pc) hm.cfg hm.owners ho ha hb hl (hs.front4 (hdA pm m.cfg (.slice (some ⟨b, o, none⟩) m.cfg.cores.toNat cap) a m.owners.length c mb) (slc 1 3 a c (m.owners.length, m.owners.map I)) (memN G m.cfg.lines mb m.cfg m.mem) (seg b (o + i * 8) ((m.seats i).core ++ [.slice pa (m.seats i).prog.length pc]))) fun h hs => ?_
    refine r_ext rfl (r_ext rfl (r_padd (r_sto (b := p28) (o := 0) hs rfl rfl rfl rfl fun h hs => r_padd (r_sto (b := p28) (o := 0) hs rfl rfl rfl rfl fun h hs => ?_))))
    refine fin (m.access i x).1 ((m.seats i).regs x.b.toNat) (m.access i x).2.1 (m.access i x).2.2 _ h ?_ ?_
    · unfold AM.does; rw [if_neg n1, if_neg n2, if_pos ho]
    · have hs := hs.sg (b := p28) (o := 0) (c := [I i, I (m.seats i).at', I x.op, I (m.seats i).world, I ((m.seats i).regs x.b.toNat), I (m.access i x).2.1, I (m.access i x).2.2]) rfl
      rw [e2]; exact hs.to
  have rest : ¬ (x.op = 3 ∨ x.op = 4 ∨ x.op = 5) → ∀ t114, A10_11 Q (pt pm 0 0) (.bool busy) (pt p6 0 0) (pt b (o + i * 8) 0) (pt p12 0 0) (pt p28 0 0) (I ((m.seats i).at' + 1)) (I x.op) t114 h := by
    intro n3 t114
    refine b10_11 (r_eqI (r_br (fun c1 => ?_) (fun n4 => b10_14 (r_eqI (r_br (fun c1 => ?_) (fun n5 => b10_18 (r_eqI (r_br (fun c1 => ?_) (fun n6 => b10_20 (r_eqI (r_br (fun c1 => ?_) (fun n7 => ?_))))))))))))
    · refine b10_13 (r_padd (r_ld (b := p12) (o := 0) hs rfl (r_padd (r_sto (b := p28) (o := 0) hs rfl rfl rfl rfl fun h hs => r_nilP (r_padd (r_padd (r_ld (b := b) (o := o + i * 8) hs rfl (r_eqI (r_br (fun c2 => ?_) (fun c2 => ?_))))))))))
      · refine b10_15 (r_padd (r_ld (b := p12) (o := 0) hs rfl (r_nilP (r_padd (r_padd (r_sto (b := b) (o := o + i * 8) hs rfl rfl rfl rfl fun h hs => ?_))))))
        refine fin (m.setS i ((m.seats i).setW x.a)) 0 x.a 0 _ h ?_ ?_
        · unfold AM.does; rw [if_neg n1, if_neg n2, if_neg n3, if_pos c1, if_pos c2]
        · have hs := hs.sg (b := b) (o := o + i * 8) (c := ((m.seats i).setW x.a).core ++ [.slice pa (m.seats i).prog.length pc]) rfl
          have hs := hs.sg (b := p28) (o := 0) (c := [I i, I (m.seats i).at', I x.op, I (m.seats i).world, I 0, I x.a, I 0]) rfl
          simp only [AM.setS, updA_same]; exact hs.to
      · refine b10_16 (r_padd (r_sto (b := p28) (o := 0) hs rfl rfl rfl rfl fun h hs => ?_))
        refine fin m 0 x.a 18 _ h ?_ ?_
        · unfold AM.does; rw [if_neg n1, if_neg n2, if_neg n3, if_pos c1, if_neg c2]
        · have hs := hs.sg (b := p28) (o := 0) (c := [I i, I (m.seats i).at', I x.op, I (m.seats i).world, I 0, I x.a, I 18]) rfl
          exact hs.to
    · have hb := hf.r2 (by omega)
      have hc := hf.r3 (by omega)
      refine b10_17 (r_resv hs fun rv h hs => r_padd (r_ld (b := p12) (o := 0) hs rfl (r_nilP (r_padd (r_padd (r_idxA hb.1 hb.2 (r_ld (b := b) (o := o + i * 8) hs (core_reg hb.1 hb.2) (r_padd (r_ld (b := p12) (o := 0) hs rfl (r_nilP (r_padd (r_padd (r_idxA hc.1 hc.2 (r_ld (b := b) (o := o + i * 8) hs (core_reg hc.1 hc.2) ?_))))))))))))))
      refine r_padd (r_sto (b := p28) (o := 0) hs rfl rfl rfl rfl fun h2 hs2 => r_padd (r_sto (b := p28) (o := 0) hs2 rfl rfl rfl rfl fun h hs => ?_))
      refine r_fl veq_P (r_fl (r_padd veq_P) (r_fl (r_ld (b := p12) (o := 0) hs2 rfl veq_I) (r_fl (r_nilP veq_P) (r_fl (r_padd veq_P) (r_fl (r_padd veq_P) (r_fl (r_idxA hc.1 hc.2 veq_P) (r_fl (r_ld (b := b) (o := o + i * 8) hs2 (core_reg hc.1 hc.2) veq_I) ?_)))))))
      clear hs2
      refine r_resv hs fun rv h hs => r_padd (r_ld (b := p12) (o := 0) hs rfl (r_nilP (r_padd (r_padd (r_ld (b := b) (o := o + i * 8) hs rfl (r_padd (r_ld (b := p28) (o := 0) hs rfl (r_padd (r_ld (b := p28) (o := 0) hs rfl ?_)))))))))
      obtain ⟨e1, e2, e3⟩ := call_keeps (m := m) (c := x.a) (w := (m.seats i).world) (g := (m.seats i).regs x.b.toNat) (t := (m.seats i).regs x.c.toNat) (b := busy)
      refine call_ok (m := m) hm.cfg hm.owners hl (hs.front3 (hdA pm m.cfg (.slice (some ⟨b, o, none⟩) m.cfg.cores.toNat cap) a m.owners.length c mb) (slc 1 3 a c (m.owners.length, m.owners.map I)) (memN G m.cfg.lines mb m.cfg m.mem)) fun h hs => ?_
      refine r_padd (r_sto (b := p28) (o := 0) hs rfl rfl rfl rfl fun h hs => r_resv hs fun rv h hs => r_padd (r_ld (b := p12) (o := 0) hs rfl (r_padd (r_ld (b := p28) (o := 0) hs rfl (r_nilP (r_padd (r_padd (r_idxA hb.1 hb.2 (r_regS hs hb.1 hb.2 fun h hs => ?_)))))))))
      refine fin ((m.call x.a (m.seats i).world ((m.seats i).regs x.b.toNat) ((m.seats i).regs x.c.toNat) busy).1.setS i ((m.seats i).setR x.b (m.call x.a (m.seats i).world ((m.seats i).regs x.b.toNat) ((m.seats i).regs x.c.toNat) busy).2)) ((m.seats i).regs x.b.toNat) ((m.seats i).regs x.c.toNat) (m.call x.a (m.seats i).world ((m.seats i).regs x.b.toNat) ((m.seats i).regs x.c.toNat) busy).2 _ h ?_ ?_
      · unfold AM.does; rw [if_neg n1, if_neg n2, if_neg n3, if_neg n4, if_pos c1]
      · have hs := hs.sg (b := p28) (o := 0) (c := [I i, I (m.seats i).at', I x.op, I (m.seats i).world, I ((m.seats i).regs x.b.toNat), I ((m.seats i).regs x.c.toNat), I (m.call x.a (m.seats i).world ((m.seats i).regs x.b.toNat) ((m.seats i).regs x.c.toNat) busy).2]) rfl
        simp only [AM.setS, updA_same]; exact hs.to
    · refine b10_19 (r_padd (r_ld (b := p12) (o := 0) hs rfl (r_padd (r_sto (b := p28) (o := 0) hs rfl rfl rfl rfl fun h hs => r_padd (r_ld (b := p12) (o := 0) hs rfl ?_)))))
      refine fin m 0 x.a 0 _ h ?_ ?_
      · unfold AM.does; rw [if_neg n1, if_neg n2, if_neg n3, if_neg n4, if_neg n5, if_pos c1]
      · have hs := hs.sg (b := p28) (o := 0) (c := [I i, I (m.seats i).at', I x.op, I (m.seats i).world, I 0, I x.a, I 0]) rfl
        exact hs.to
    · have ha := hf.r1 (by omega)
      refine b10_21 (r_resv hs fun rv h hs => r_padd (r_ld (b := p12) (o := 0) hs rfl (r_nilP (r_padd (r_padd (r_idxA ha.1 ha.2 (r_ld (b := b) (o := o + i * 8) hs (core_reg ha.1 ha.2) (r_padd (r_sto (b := p28) (o := 0) hs rfl rfl rfl rfl fun h hs => r_padd (r_ld (b := p28) (o := 0) hs rfl (r_eqI (r_br (fun c2 => ?_) (fun c2 => ?_)))))))))))))
      · refine b10_23 (r_padd (r_ld (b := p12) (o := 0) hs rfl ?_))
        refine fin m 0 ((m.seats i).regs x.a.toNat) 0 _ h ?_ ?_
        · unfold AM.does; rw [if_neg n1, if_neg n2, if_neg n3, if_neg n4, if_neg n5, if_neg n6, if_pos c1, if_pos c2]
        · have hs := hs.sg (b := p28) (o := 0) (c := [I i, I (m.seats i).at', I x.op, I (m.seats i).world, I 0, I ((m.seats i).regs x.a.toNat), I 0]) rfl
          exact hs.to
      · refine b10_22 ?_
        refine fin m 0 ((m.seats i).regs x.a.toNat) 0 _ h ?_ ?_
        · unfold AM.does; rw [if_neg n1, if_neg n2, if_neg n3, if_neg n4, if_neg n5, if_neg n6, if_pos c1, if_neg c2]
        · have hs := hs.sg (b := p28) (o := 0) (c := [I i, I (m.seats i).at', I x.op, I (m.seats i).world, I 0, I ((m.seats i).regs x.a.toNat), I 0]) rfl
          exact hs.to
    · refine b10_22 ?_
      refine fin m 0 0 0 _ h ?_ ?_
      · unfold AM.does; rw [if_neg n1, if_neg n2, if_neg n3, if_neg n4, if_neg n5, if_neg n6, if_neg n7]
      · exact hs.to
  refine r_br (fun c1 => b10_8 ?_) (fun n3 => b10_9 (r_eqI (r_br (fun c1 => b10_8 ?_) (fun n4 => b10_12 (r_eqI (r_br (fun c1 => acc (by omega)) (fun n5 => rest (by omega) _)))))))
  · rw [decide_eq_true c1]; exact r_brt (acc (by omega))
  · rw [decide_eq_true c1]; exact r_brt (acc (by omega))
end Go.Proofs.YtincdgimnjofpaaDoor
end
section
namespace Go.Proofs.YtincdgimnjofpaaDoor
open Go Go.Ab Go.Hm Go.At Go.Is
attribute [local irreducible] thn Br ld1 ldN stV alc alcAt alcS alcSAt resv padd nilV extV part1 partN lenS lenT biI biT biB biP biS biF biE biA unV idxS idxA pickV appV copyV clearV slS slA slT mkS blkOf at1 atN atS convI convS minV maxV Cl OkF OkR EndX endV beginV defersOf setLoop closeMarks
variable {G : Bg} {h : AH} {L L' : List HP} {Q : Value → AH → Prop}
theorem cloneL {n c : Nat} {a : Option Addr} {cs : List Value} (hn : n ≤ 100) (hs : Hs G h L) [m : Has (slc 2 101 a c) L (n, cs) L'] (hk : ∀ a' c' h', Hs G h' (slc 2 101 a' c' (n, cs) :: slc 2 101 a c (n, cs) :: L') → Q (.slice a' n c') h') : Cl Pr K 41 [.slice a n c] h Q :=
  c41 (b41_0 (r_clone (bytes := 16) hs (by omega) hk))
theorem cloneB {n c : Nat} {a : Option Addr} {cs : List Value} (hn : n ≤ 100) (hs : Hs G h L) [m : Has (slc 3 99 a c) L (n, cs) L'] (hk : ∀ a' c' h', Hs G h' (slc 3 99 a' c' (n, cs) :: slc 3 99 a c (n, cs) :: L') → Q (.slice a' n c') h') : Cl Pr K 40 [.slice a n c] h Q :=
  c40 (b40_0 (r_clone (bytes := 40) hs (by omega) hk))
theorem cloneS {n c : Nat} {a : Option Addr} {cs : List Value} (hn : n ≤ 100) (hs : Hs G h L) [m : Has (slc 8 79 a c) L (n, cs) L'] (hk : ∀ a' c' h', Hs G h' (slc 8 79 a' c' (n, cs) :: slc 8 79 a c (n, cs) :: L') → Q (.slice a' n c') h') : Cl Pr K 30 [.slice a n c] h Q :=
  c30 (b30_0 (r_clone (bytes := 80) hs (by omega) hk))
theorem cloneI {n c : Nat} {a : Option Addr} {cs : List Value} (hn : n ≤ 100) (hs : Hs G h L) [m : Has (slc 1 3 a c) L (n, cs) L'] (hk : ∀ a' c' h', Hs G h' (slc 1 3 a' c' (n, cs) :: slc 1 3 a c (n, cs) :: L') → Q (.slice a' n c') h') : Cl Pr K 27 [.slice a n c] h Q :=
  c27 (b27_0 (r_clone (bytes := 8) hs (by omega) hk))
theorem cloneP {n c : Nat} {a : Option Addr} {cs : List Value} (hn : n ≤ 100) (hs : Hs G h L) [m : Has (slc 4 52 a c) L (n, cs) L'] (hk : ∀ a' c' h', Hs G h' (slc 4 52 a' c' (n, cs) :: slc 4 52 a c (n, cs) :: L') → Q (.slice a' n c') h') : Cl Pr K 28 [.slice a n c] h Q :=
  c28 (b28_0 (r_clone (bytes := 32) hs (by omega) hk))
theorem cloneIR {v : Value} {l : List (List Value)} {e : TypeId} (hn : l.length ≤ 100) (hc : l.flatten.all cellB = true) (hs : Hs G h (rdS G 1 e v l :: L)) (hk : ∀ a' c' h', Hs G h' (slc 1 3 a' c' (l.length, l.flatten) :: rdS G 1 e v l :: L) → Q (.slice a' l.length c') h') : Cl Pr K 27 [v] h Q :=
  c27 (b27_0 (r_cloneR (bytes := 8) hs (by decide) rfl hc (by omega) hk))
theorem clonePR {v : Value} {l : List (List Value)} {e : TypeId} (hn : l.length ≤ 100) (hc : l.flatten.all cellB = true) (hs : Hs G h (rdS G 4 e v l :: L)) (hk : ∀ a' c' h', Hs G h' (slc 4 52 a' c' (l.length, l.flatten) :: rdS G 4 e v l :: L) → Q (.slice a' l.length c') h') : Cl Pr K 28 [v] h Q :=
  c28 (b28_0 (r_cloneR (bytes := 32) hs (by decide) rfl hc (by omega) hk))
def bkC' (n B : Nat) (i : Nat) (x : BkA) : List Value := [I x.r, I x.w, .slice x.a (cntB n B i) x.cap]
def bkD (n B : Nat) (mem : Nat → Ln) (i : Nat) (x : BkA) : HP := slc 2 101 x.a x.cap (cntB n B i, (List.range (cntB n B i)).flatMap (bkC B i mem))
theorem copyM_loop {n B p b o cap : Nat} {C : Cfg} {mem : Nat → Ln} {f : Nat → BkA} (hB : B ≤ 4) (hn : n ≤ 32) (hk : ∀ h', Hs G h' (seg p 0 (C.enc ++ [.slice (some ⟨b, o, none⟩) B cap]) :: big B (fun i => bankR n B b (o + i * 3) i mem) :: big B (fun i => bkD n B mem i (f i)) :: L) → Q (pt p 0 0) h') :
    ∀ (r i : Nat) (h : AH) (M : List HP), i + r = B → Hs G h (seg p 0 (C.enc ++ [.slice (some ⟨b, o, none⟩) B cap]) :: big B (fun j => if j < i then bankR n B b (o + j * 3) j mem else seg b (o + j * 3) (bkC' n B j (f j))) :: big B (fun i => bkD n B mem i (f i)) :: L) →
    A31_2 Q (pt p 0 0) (I B) (I i) h := by
  intro r
  induction r with
  | zero =>
    intro i h M hi hs
    obtain rfl : i = B := by omega
    refine b31_2 (r_ltI (r_brF (by omega) (hk _ ?_)))
    have hs := hs.front (big i fun j => if j < i then bankR n i b (o + j * 3) j mem else seg b (o + j * 3) (bkC' n i j (f j)))
    have hs := big_congr (g := fun j => bankR n i b (o + j * 3) j mem) (fun j hj => by rw [if_pos hj]) hs
    exact hs.front3 (seg p 0 (C.enc ++ [.slice (some ⟨b, o, none⟩) i cap])) (big i fun j => bankR n i b (o + j * 3) j mem) (big i fun j => bkD n i mem j (f j))
  | succ r ih =>
    intro i h M hi hs
    have hib : i < B := by omega
    have hcl := cntB_le (n := n) (B := B) (i := i) (by omega)
    refine b31_2 (r_ltI (r_brT (by omega) (b31_3 (r_resv hs fun rv h hs => ?_))))
    have hs := (hs.front (big B fun j => if j < i then bankR n B b (o + j * 3) j mem else seg b (o + j * 3) (bkC' n B j (f j)))).bigOut i hib
    simp only [Nat.lt_irrefl, if_false] at hs
    have hs := (hs.front (big B fun j => bkD n B mem j (f j))).bigOut i hib
    refine r_nilP (r_padd (r_ld (b := p) (o := 0) hs rfl (r_nilP (r_padd (r_ld (b := p) (o := 0) hs rfl (r_idxN hib (r_padd (r_ld (b := b) (o := o + i * 3) hs rfl ?_))))))))
    have hs : Hs G h (slc 2 101 (f i).a (f i).cap (cntB n B i, (List.range (cntB n B i)).flatMap (bkC B i mem)) :: _) := hs
    refine cloneL (by omega) hs fun a' c' h hs => ?_
    refine r_idxN hib (r_padd (r_sto (b := b) (o := o + i * 3) hs rfl rfl rfl rfl fun h2 hs2 => ?_))
    refine r_fl veq_P (r_fl (r_nilP veq_P) (r_fl (r_padd veq_P) (r_fl (r_ld (b := p) (o := 0) hs rfl veq_S) (r_fl veq_I (r_addI (by omega) ?_)))))
    refine ih (i + 1) h2 [] (by omega) ?_
    have hs2 := hs2.sg (b := b) (o := o + i * 3) (c := [I (f i).r, I (f i).w, .slice a' (cntB n B i) c']) rfl
    have hs3 := bank_close (b := b) (o := o + i * 3) (hs2.front2 (seg b (o + i * 3) [I (f i).r, I (f i).w, .slice a' (cntB n B i) c']) (slc 2 101 a' c' (cntB n B i, (List.range (cntB n B i)).flatMap (bkC B i mem))))
    have e0 : bankR n B b (o + i * 3) i mem = (fun j => if j < i + 1 then bankR n B b (o + j * 3) j mem else seg b (o + j * 3) (bkC' n B j (f j))) i := by simp only [Nat.lt_succ_self, if_true]
    rw [e0] at hs3
    have hs3 := hs3.bigPut (n := B) (i := i) (fun j => if j < i then bankR n B b (o + j * 3) j mem else seg b (o + j * 3) (bkC' n B j (f j))) (fun j => if j < i + 1 then bankR n B b (o + j * 3) j mem else seg b (o + j * 3) (bkC' n B j (f j))) hib (fun j _ hne => by
      have : (j < i + 1) = (j < i) := propext ⟨fun h => by omega, fun h => by omega⟩
      simp only [this])
    have e1 : (slc 2 101 (f i).a (f i).cap (cntB n B i, (List.range (cntB n B i)).flatMap (bkC B i mem))) = (fun j => bkD n B mem j (f j)) i := rfl
    rw [e1] at hs3
    have hs3 := hs3.bigPut (n := B) (i := i) (fun j => bkD n B mem j (f j)) (fun j => bkD n B mem j (f j)) hib (fun _ _ _ => rfl)
    exact hs3.to
theorem memCopy_ok {C : Cfg} (hC : C.Ok) {mb : Nat} {mem : Nat → Ln} (hs : Hs G h L) [m : Has (memN G C.lines mb C) L mem L'] (hk : ∀ mb2 h', Hs G h' (memN G C.lines mb2 C mem :: memN G C.lines mb C mem :: L') → Q (pt mb2 0 0) h') : Cl Pr K 31 [pt mb 0 0] h Q := by
  have hb := Cfg.bk hC
  have hln := Cfg.lines_eq hC
  obtain ⟨b, o, cap, hs⟩ := mem_open (m.of hs)
  refine c31 (b31_0 (r_ptEq (r_brf (b31_1 (r_resv hs fun rv h hs => ?_)))))
  have hs0 : Hs G h (big C.banks.toNat (fun i => exH fun x => sp [seg b (o + i * 3) (bkC' C.lines C.banks.toNat i x), bkD C.lines C.banks.toNat mem i x]) :: hole G 3 99 (some ⟨b, o, none⟩) cap C.banks.toNat b o :: _) := hs.front2 (big C.banks.toNat fun i => bankR C.lines C.banks.toNat b (o + i * 3) i mem) (hole G 3 99 (some ⟨b, o, none⟩) cap C.banks.toNat b o)
  obtain ⟨f, hs⟩ := Hs.bigShut (W := 3) (c := bkC' C.lines C.banks.toNat) (d := bkD C.lines C.banks.toNat mem) (⟨0, 0, none, 0⟩ : BkA) (fun _ _ => rfl) (fun _ _ => rfl) (by decide) hb.2.1 hs0
  clear hs0
  refine r_nilP (r_padd (r_ldN (b := mb) (o := 0) hs (by decide) (l := C.enc) rfl rfl (r_nilP (r_padd (r_ld (b := mb) (o := 0) hs rfl ?_)))))
  refine cloneB (by omega) hs fun a' c' h hs => ?_
  obtain ⟨b2, o2, rfl, hs⟩ := Hs.bigNew (W := 3) (c := fun i => bkC' C.lines C.banks.toNat i (f i)) (fun _ => rfl) hb.2.1 hs
  refine r_fill (c := C.enc ++ [.slice (some ⟨b2, o2, none⟩) C.banks.toNat c']) rfl (r_bxAt hs rfl rfl fun p h hs => ?_)
  refine r_fl veq_P (r_fl (r_nilP veq_P) (r_fl (r_padd veq_P) (r_fl (r_ldN (b := mb) (o := 0) hs (by decide) (l := C.enc) rfl rfl (veq_agg (by simp [Cfg.enc, veq_I]))) ?_)))
  refine r_nilP (r_padd (r_ld (b := p) (o := 0) hs rfl (r_lenS ?_)))
  have hs := hs.front3 (seg p 0 (C.enc ++ [.slice (some ⟨b2, o2, none⟩) C.banks.toNat c'])) (big C.banks.toNat fun i => seg b2 (o2 + i * 3) (bkC' C.lines C.banks.toNat i (f i))) (big C.banks.toNat fun i => bkD C.lines C.banks.toNat mem i (f i))
  have hs := (hs.at2).front3 (seg p 0 (C.enc ++ [.slice (some ⟨b2, o2, none⟩) C.banks.toNat c'])) (big C.banks.toNat fun i => seg b2 (o2 + i * 3) (bkC' C.lines C.banks.toNat i (f i))) (big C.banks.toNat fun i => bkD C.lines C.banks.toNat mem i (f i))
  refine copyM_loop (n := C.lines) (B := C.banks.toNat) (b := b2) (o := o2) (cap := c') (C := C) (mem := mem) (f := f) hb.2.2 hln.2.2 ?_ C.banks.toNat 0 h [] (by omega) (by simpa using hs)
  intro h hs
  refine hk p _ ?_
  have hs := mem_close (b := b2) (o := o2) (cap := c') (hs.front3 (seg p 0 (C.enc ++ [.slice (some ⟨b2, o2, none⟩) C.banks.toNat c'])) (hole G 3 99 (some ⟨b2, o2, none⟩) c' C.banks.toNat b2 o2) (big C.banks.toNat fun i => bankR C.lines C.banks.toNat b2 (o2 + i * 3) i mem))
  have hs := hs.front2 (slc 3 99 (some ⟨b, o, none⟩) cap (C.banks.toNat, (List.range C.banks.toNat).flatMap fun i => bkC' C.lines C.banks.toNat i (f i))) (big C.banks.toNat fun i => bkD C.lines C.banks.toNat mem i (f i))
  have hs : Hs G h (big C.banks.toNat (fun i => bankR C.lines C.banks.toNat b (o + i * 3) i mem) :: hole G 3 99 (some ⟨b, o, none⟩) cap C.banks.toNat b o :: _) := Hs.bigOpn (W := 3) (c := bkC' C.lines C.banks.toNat) (d := bkD C.lines C.banks.toNat mem) f (fun _ _ => rfl) hb.2.1 hs
  have hs := mem_close (b := b) (o := o) (cap := cap) (hs.front3 (seg mb 0 (C.enc ++ [.slice (some ⟨b, o, none⟩) C.banks.toNat cap])) (hole G 3 99 (some ⟨b, o, none⟩) cap C.banks.toNat b o) (big C.banks.toNat fun i => bankR C.lines C.banks.toNat b (o + i * 3) i mem))
  exact hs.to
end Go.Proofs.YtincdgimnjofpaaDoor
end
section
namespace Go.Proofs.YtincdgimnjofpaaDoor
open Go Go.Ab Go.Hm Go.At Go.Is
attribute [local irreducible] thn Br ld1 ldN stV alc alcAt alcS alcSAt resv padd nilV extV part1 partN lenS lenT biI biT biB biP biS biF biE biA unV idxS idxA pickV appV copyV clearV slS slA slT mkS blkOf at1 atN atS convI convS minV maxV Cl OkF OkR EndX endV beginV defersOf setLoop closeMarks
variable {G : Bg} {h : AH} {L L' : List HP} {Q : Value → AH → Prop}
def seC (m : AM) (i : Nat) (x : Option Addr × Nat) : List Value := (m.seats i).core ++ [.slice x.1 (m.seats i).prog.length x.2]
def seD (m : AM) (i : Nat) (x : Option Addr × Nat) : HP := slc 4 52 x.1 x.2 ((m.seats i).prog.length, encP (m.seats i).prog)
theorem copyA_loop {B p b o cap nn c mb : Nat} {a : Option Addr} {m : AM} {f : Nat → Option Addr × Nat} (hB : B ≤ 4) (hp : ∀ i, i < B → (m.seats i).prog.length ≤ 32)
    (hk : ∀ h', Hs G h' (hdA p m.cfg (.slice (some ⟨b, o, none⟩) B cap) a nn c mb :: big B (fun i => seatR b (o + i * 8) (m.seats i)) :: big B (fun i => seD m i (f i)) :: L) → Q (pt p 0 0) h') :
    ∀ (r i : Nat) (h : AH), i + r = B → Hs G h (hdA p m.cfg (.slice (some ⟨b, o, none⟩) B cap) a nn c mb :: big B (fun j => if j < i then seatR b (o + j * 8) (m.seats j) else seg b (o + j * 8) (seC m j (f j))) :: big B (fun i => seD m i (f i)) :: L) →
    A9_2 Q (pt p 0 0) (I B) (I i) h := by
  intro r
  induction r with
  | zero =>
    intro i h hi hs
    obtain rfl : i = B := by omega
    refine b9_2 (r_ltI (r_brF (by omega) (hk _ ?_)))
    have hs := hs.front (big i fun j => if j < i then seatR b (o + j * 8) (m.seats j) else seg b (o + j * 8) (seC m j (f j)))
    have hs := big_congr (g := fun j => seatR b (o + j * 8) (m.seats j)) (fun j hj => by rw [if_pos hj]) hs
    exact hs.front3 (hdA p m.cfg (.slice (some ⟨b, o, none⟩) i cap) a nn c mb) (big i fun j => seatR b (o + j * 8) (m.seats j)) (big i fun j => seD m j (f j))
  | succ r ih =>
    intro i h hi hs
    have hib : i < B := by omega
    have hpi := hp i hib
    refine b9_2 (r_ltI (r_brT (by omega) (b9_3 (r_resv hs fun rv h hs => ?_))))
    have hs := (hs.front (big B fun j => if j < i then seatR b (o + j * 8) (m.seats j) else seg b (o + j * 8) (seC m j (f j)))).bigOut i hib
    simp only [Nat.lt_irrefl, if_false] at hs
    have hs := (hs.front (big B fun j => seD m j (f j))).bigOut i hib
    refine r_nilP (r_padd (r_ld (b := p) (o := 0) hs rfl (r_nilP (r_padd (r_ld (b := p) (o := 0) hs rfl (r_idxN hib (r_padd (r_ld (b := b) (o := o + i * 8) hs rfl ?_))))))))
    have hs : Hs G h (slc 4 52 (f i).1 (f i).2 ((m.seats i).prog.length, encP (m.seats i).prog) :: _) := hs
    refine cloneP (by omega) hs fun a' c' h hs => ?_
    refine r_idxN hib (r_padd (r_sto (b := b) (o := o + i * 8) hs rfl rfl rfl rfl fun h2 hs2 => ?_))
    refine r_fl veq_P (r_fl (r_nilP veq_P) (r_fl (r_padd veq_P) (r_fl (r_ld (b := p) (o := 0) hs rfl veq_S) (r_fl veq_I (r_addI (by omega) ?_)))))
    refine ih (i + 1) h2 (by omega) ?_
    have hs2 := hs2.sg (b := b) (o := o + i * 8) (c := (m.seats i).core ++ [.slice a' (m.seats i).prog.length c']) rfl
    have hs3 := seat_close (b := b) (o := o + i * 8) (hs2.front2 (seg b (o + i * 8) ((m.seats i).core ++ [.slice a' (m.seats i).prog.length c'])) (slc 4 52 a' c' ((m.seats i).prog.length, encP (m.seats i).prog)))
    have e0 : seatR b (o + i * 8) (m.seats i) = (fun j => if j < i + 1 then seatR b (o + j * 8) (m.seats j) else seg b (o + j * 8) (seC m j (f j))) i := by simp only [Nat.lt_succ_self, if_true]
    rw [e0] at hs3
    have hs3 := hs3.bigPut (n := B) (i := i) (fun j => if j < i then seatR b (o + j * 8) (m.seats j) else seg b (o + j * 8) (seC m j (f j))) (fun j => if j < i + 1 then seatR b (o + j * 8) (m.seats j) else seg b (o + j * 8) (seC m j (f j))) hib (fun j _ hne => by
      have : (j < i + 1) = (j < i) := propext ⟨fun h => by omega, fun h => by omega⟩
      simp only [this])
    have e1 : (slc 4 52 (f i).1 (f i).2 ((m.seats i).prog.length, encP (m.seats i).prog)) = (fun j => seD m j (f j)) i := rfl
    rw [e1] at hs3
    have hs3 := hs3.bigPut (n := B) (i := i) (fun j => seD m j (f j)) (fun j => seD m j (f j)) hib (fun _ _ _ => rfl)
    exact hs3.to
theorem atmCopy_ok {m : AM} (hm : m.Ok) {pm : Nat} (hs : Hs G h L) [mm : Has (atmR G pm) L m L'] (hk : ∀ p2 h', Hs G h' (atmR G p2 m :: atmR G pm m :: L') → Q (pt p2 0 0) h') : Cl Pr K 9 [pt pm 0 0] h Q := by
  have hco : m.cfg.cores ≤ 4 ∧ 1 ≤ m.cfg.cores := ⟨hm.cfg.1.2, hm.cfg.1.1⟩
  have hgr : m.cfg.granules ≤ 16 := hm.cfg.2.1.2
  have hol := hm.owners
  have h0 : 0 < m.cfg.cores.toNat := by omega
  obtain ⟨b, o, cap, a, c, mb, hs⟩ := atm_open (mm.of hs)
  refine c9 (b9_0 (r_ptEq (r_brf (b9_1 (r_resv hs fun rv h hs => ?_)))))
  have hs0 : Hs G h (big m.cfg.cores.toNat (fun i => exH fun x => sp [seg b (o + i * 8) (seC m i x), seD m i x]) :: hole G 8 79 (some ⟨b, o, none⟩) cap m.cfg.cores.toNat b o :: _) := hs.front2 (big m.cfg.cores.toNat fun i => seatR b (o + i * 8) (m.seats i)) (hole G 8 79 (some ⟨b, o, none⟩) cap m.cfg.cores.toNat b o)
  obtain ⟨f, hs⟩ := Hs.bigShut (W := 8) (c := seC m) (d := seD m) (none, 0) (fun _ _ => rfl) (fun _ _ => rfl) (by decide) h0 hs0
  clear hs0
  refine r_nilP (r_padd (r_ldN (b := pm) (o := 0) hs (by decide) (l := m.cfg.enc) rfl rfl (r_nilP (r_padd (r_ld (b := pm) (o := 0) hs rfl ?_)))))
  refine cloneS (by omega) hs fun a' c' h8 hs8 => ?_
  refine r_nilP (r_padd (r_ld (b := pm) (o := 0) hs8 rfl (cloneI (by omega) hs8 fun a2 c2 h12 hs12 => ?_)))
  refine r_nilP (r_padd (r_ld (b := pm) (o := 0) hs12 rfl (memCopy_ok hm.cfg hs12 fun mb2 h16 hs16 => ?_)))
  obtain ⟨b2, o2, rfl, hs16⟩ := Hs.bigNew (W := 8) (c := fun i => seC m i (f i)) (fun _ => rfl) h0 (hs16.front (slc 8 79 a' c' (m.cfg.cores.toNat, (List.range m.cfg.cores.toNat).flatMap fun i => seC m i (f i))))
  refine r_fill (c := m.cfg.enc ++ [.slice (some ⟨b2, o2, none⟩) m.cfg.cores.toNat c', .slice a2 m.owners.length c2, pt mb2 0 0]) rfl (r_bxAt hs16 rfl rfl fun p h18 hs18 => ?_)
  have hve : veq (.agg ⟨m.cfg.enc⟩) (.agg ⟨m.cfg.enc⟩) = true := veq_agg (by simp [Cfg.enc, veq_I])
  refine r_fl veq_P (r_fl veq_P (r_fl veq_P (r_fl (r_nilP veq_P) (r_fl (r_nilP veq_P) (r_fl (r_nilP veq_P) (r_fl (r_padd veq_P) (r_fl (r_padd veq_P) (r_fl (r_padd veq_P) ?_))))))))
  refine r_fl (r_ldN (b := pm) (o := 0) hs8 (by decide) (l := m.cfg.enc) rfl rfl hve) (r_fl (r_ldN (b := pm) (o := 0) hs12 (by decide) (l := m.cfg.enc) rfl rfl hve) (r_fl (r_ldN (b := pm) (o := 0) hs18 (by decide) (l := m.cfg.enc) rfl rfl hve) ?_))
  refine r_fl veq_P (r_fl (r_nilP veq_P) (r_fl (r_padd veq_P) (r_fl (r_ld (b := pm) (o := 0) hs rfl veq_S) (r_fl veq_P (r_fl veq_P (r_fl (r_nilP veq_P) (r_fl (r_nilP veq_P) (r_fl (r_padd veq_P) (r_fl (r_padd veq_P) (r_fl (r_ld (b := pm) (o := 0) hs rfl veq_P) (r_fl (r_ld (b := pm) (o := 0) hs8 rfl veq_P) ?_)))))))))))
  clear hs hs8 hs12 hs16
  refine r_nilP (r_padd (r_ld (b := p) (o := 0) hs18 rfl (r_lenS ?_)))
  have hs := (hs18.front2 (big m.cfg.cores.toNat fun i => seg b2 (o2 + i * 8) (seC m i (f i))) (big m.cfg.cores.toNat fun i => seD m i (f i)))
  have hs := hs.front3 (hdA p m.cfg (.slice (some ⟨b2, o2, none⟩) m.cfg.cores.toNat c') a2 m.owners.length c2 mb2) (big m.cfg.cores.toNat fun i => seg b2 (o2 + i * 8) (seC m i (f i))) (big m.cfg.cores.toNat fun i => seD m i (f i))
  refine copyA_loop (B := m.cfg.cores.toNat) (b := b2) (o := o2) (cap := c') (a := a2) (nn := m.owners.length) (c := c2) (mb := mb2) (m := m) (f := f) (by omega) (fun i hi => (hm.seats i (by omega)).2.2.2.1) ?_ m.cfg.cores.toNat 0 h18 (by omega) (by simpa using hs)
  intro h hs
  refine hk p _ ?_
  have hs := atm_close (b := b2) (o := o2) (cap := c') (a := a2) (c := c2) (mb := mb2) (m := m) ((hs.front4 (hdA p m.cfg (.slice (some ⟨b2, o2, none⟩) m.cfg.cores.toNat c') a2 m.owners.length c2 mb2) (slc 1 3 a2 c2 (m.owners.length, m.owners.map I)) (memN G m.cfg.lines mb2 m.cfg m.mem) (hole G 8 79 (some ⟨b2, o2, none⟩) c' m.cfg.cores.toNat b2 o2)).bring5 (big m.cfg.cores.toNat fun i => seatR b2 (o2 + i * 8) (m.seats i)))
  have hs := hs.front2 (slc 8 79 (some ⟨b, o, none⟩) cap (m.cfg.cores.toNat, (List.range m.cfg.cores.toNat).flatMap fun i => seC m i (f i))) (big m.cfg.cores.toNat fun i => seD m i (f i))
  have hs : Hs G h (big m.cfg.cores.toNat (fun i => seatR b (o + i * 8) (m.seats i)) :: hole G 8 79 (some ⟨b, o, none⟩) cap m.cfg.cores.toNat b o :: _) := Hs.bigOpn (W := 8) (c := seC m) (d := seD m) f (fun _ _ => rfl) h0 hs
  have hs := atm_close (b := b) (o := o) (cap := cap) (a := a) (c := c) (mb := mb) (m := m) ((hs.front4 (hdA pm m.cfg (.slice (some ⟨b, o, none⟩) m.cfg.cores.toNat cap) a m.owners.length c mb) (slc 1 3 a c (m.owners.length, m.owners.map I)) (memN G m.cfg.lines mb m.cfg m.mem) (hole G 8 79 (some ⟨b, o, none⟩) cap m.cfg.cores.toNat b o)).bring5 (big m.cfg.cores.toNat fun i => seatR b (o + i * 8) (m.seats i)))
  exact hs.to
end Go.Proofs.YtincdgimnjofpaaDoor
end
