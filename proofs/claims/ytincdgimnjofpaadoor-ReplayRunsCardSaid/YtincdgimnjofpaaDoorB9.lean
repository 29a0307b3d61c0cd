/- ReplayRuns: the walk. -/
import Derived.Test.YtincdgimnjofpaaDoorB8
section
namespace Go.Proofs.YtincdgimnjofpaaDoor
open Go Go.Ab Go.Hm Go.At Go.Is
attribute [local irreducible] thn Br ld1 ldN stV alc alcAt alcS alcSAt resv padd nilV extV part1 partN lenS lenT biI biT biB biP biS biF biE biA unV idxS idxA pickV appV copyV clearV slS slA slT mkS blkOf at1 atN atS convI convS minV maxV Cl OkF OkR EndX endV beginV defersOf setLoop closeMarks
variable {G : Bg} {h : AH} {L L' : List HP} {Q : Value → AH → Prop}
def ones (l : List Int) : List (List Value) := l.map fun x => [I x]
theorem ones_len (l : List Int) : (ones l).length = l.length := by simp [ones]
theorem ones_flat (l : List Int) : (ones l).flatten = l.map I := by
  unfold ones
  induction l with
  | nil => rfl
  | cons x l ih => rw [List.map_cons, List.flatten_cons, ih]; rfl
theorem ones_cells (l : List Int) : (l.map I).all cellB = true := by
  induction l with
  | nil => rfl
  | cons x l ih => rw [List.map_cons, List.all_cons, ih]; rfl
def insL (p : List Ins) : List (List Value) := p.map Ins.enc
theorem insL_len (p : List Ins) : (insL p).length = p.length := by simp [insL]
theorem insL_flat (p : List Ins) : (insL p).flatten = encP p := by
  unfold insL encP
  rw [List.flatMap_def]
theorem encP_cells (p : List Ins) : (encP p).all cellB = true := by
  unfold encP
  induction p with
  | nil => rfl
  | cons x l ih => rw [List.flatMap_cons, List.all_append, ih]; rfl
/-- a list of numbers among the arguments -/
def OldI (G : Bg) (v : Value) (l : List Int) : Prop := OldS G 1 v (ones l).length (fun i => (ones l).getD i [])
def OldP (G : Bg) (v : Value) (p : List Ins) : Prop := OldS G 4 v (insL p).length (fun i => (insL p).getD i [])
structure OldM (G : Bg) (pv wv ov vv : Value) (ps : List (List Ins)) (ws os vs : List Int) : Prop where
  ps : ∃ vi : List Value, vi.length = ps.length ∧ OldS G 1 pv (vi.map fun x => [x]).length (fun i => (vi.map fun x => [x]).getD i []) ∧ ∀ (i : Nat) (v : Value) (p : List Ins), vi[i]? = some v → ps[i]? = some p → OldP G v p
  ws : OldI G wv ws
  os : OldI G ov os
  vs : OldI G vv vs
theorem oldI_rd {v : Value} {l : List Int} (ho : OldI G v l) (hs : Hs G h L) : Hs G h (rdS G 1 3 v (ones l) :: L) := rd_old (by simp [ones]) ho hs
theorem oldP_rd {v : Value} {p : List Ins} (ho : OldP G v p) (hs : Hs G h L) : Hs G h (rdS G 4 52 v (insL p) :: L) := rd_old (by simp [insL, Ins.enc]) ho hs
theorem old_len {W n : Nat} {v : Value} {at' : Nat → List Value} {k : Value → Prop} (ho : OldS G W v n at') (hk : k (I n)) : thn (lenS v) k := by
  obtain ⟨a, c, rfl, _⟩ := ho
  exact r_lenS hk
theorem progs_loop {C : Cfg} {pv : Value} {t2 t3 t4 t5 : Value} {vi : List Value} {ps : List (List Ins)} (hv : vi.length = ps.length) (ho : OldS G 1 pv (vi.map fun x => [x]).length (fun i => (vi.map fun x => [x]).getD i []))
    (hi : ∀ (i : Nat) (v : Value) (p : List Ins), vi[i]? = some v → ps[i]? = some p → OldP G v p) (hg : Ob G 1 opsE) (hn : ps.length ≤ 1000)
    (k1 : progs ps ≠ 0 → ∀ h', Hs G h' L → Q (.tuple ⟨[.pointer none, I (progs ps)]⟩) h') (k2 : progs ps = 0 → ∀ h', Hs G h' L → A8_5 Q pv t2 t3 t4 t5 h') :
    ∀ (f i : Nat) (h : AH), i + f = ps.length → progs ps = progs (ps.drop i) → Hs G h L → A8_3 Q pv t2 t3 t4 t5 pv (I ps.length) (I i) h := by
  intro f
  induction f with
  | zero =>
    intro i h hl he hs
    rw [List.drop_of_length_le (by omega)] at he
    exact b8_3 (r_ltI (r_brF (by omega) (k2 he _ hs)))
  | succ f ih =>
    intro i h hl he hs
    obtain ⟨p, hp, hd⟩ := at_lt (l := ps) (i := i) (by omega)
    obtain ⟨v, hvi, _⟩ := at_lt (l := vi) (i := i) (by omega)
    rw [hd, progs] at he
    have hs := rd_old (e := 3) (by simp) ho hs
    refine b8_3 (r_ltI (r_brT (by omega) (b8_4 (r_rdc hs (x := [v]) (by simp [hvi]) rfl (isa_check_ok (p := p) hg (oldP_rd (hi i v p hvi hp) hs.tail) fun h hs => r_ext rfl (r_ext rfl (r_neI (r_br (fun c => ?_) (fun c => ?_)))))))))
    · rw [if_pos c] at he
      rw [← he]
      exact k1 (by rw [he]; exact c) _ hs.tail
    · rw [if_neg c] at he
      exact b8_6 (r_addI (by omega) (ih (i + 1) h (by omega) he hs.tail))
theorem words_loop {C : Cfg} (hC : C.Ok) {t1 t2 t3 t5 vv : Value} {mb : Nat} {vs : List Int} (ho : OldI G vv vs) (hl : Ob G 0 limE) (hn : vs.length = C.lines * 2)
    (k : ∀ h', Hs G h' (memN G C.lines mb C (words mem0 vs 0) :: L) → A8_11 Q t1 t2 t3 t5 (pt mb 0 0) h') :
    ∀ (f i : Nat) (mem : Nat → Ln) (h : AH), i + f = vs.length → words mem0 vs 0 = words mem (vs.drop i) i → Hs G h (memN G C.lines mb C mem :: L) → A8_9 Q t1 t2 t3 t5 (pt mb 0 0) vv (I vs.length) (I i) h := by
  have hln := Cfg.lines_eq hC
  intro f
  induction f with
  | zero =>
    intro i mem h hi he hs
    rw [List.drop_of_length_le (by omega), words] at he
    rw [he] at k
    exact b8_9 (r_ltI (r_brF (by omega) (k _ hs)))
  | succ f ih =>
    intro i mem h hi he hs
    obtain ⟨x, hx, hd⟩ := at_lt (l := vs) (i := i) (by omega)
    rw [hd, words] at he
    have hs := oldI_rd ho hs
    refine b8_9 (r_ltI (r_brT (by omega) (b8_10 (r_rdc hs (x := [I x]) (by simp [ones, hx]) rfl (memSet_ok hC hl hs.tail (by omega) fun h hs => r_neI (r_brF (by omega) (b8_12 (r_addI (by omega) (ih (i + 1) _ h (by omega) he hs)))))))))
end Go.Proofs.YtincdgimnjofpaaDoor
end
section
namespace Go.Proofs.YtincdgimnjofpaaDoor
open Go Go.Ab Go.Hm Go.At Go.Is
attribute [local irreducible] thn Br ld1 ldN stV alc alcAt alcS alcSAt resv padd nilV extV part1 partN lenS lenT biI biT biB biP biS biF biE biA unV idxS idxA pickV appV copyV clearV slS slA slT mkS blkOf at1 atN atS convI convS minV maxV Cl OkF OkR EndX endV beginV defersOf setLoop closeMarks
variable {G : Bg} {h : AH} {L L' : List HP} {Q : Value → AH → Prop}
abbrev zS : List Value := [I 0, I 0, I 0, I 0, I 0, I 0, .bool false, .slice none 0 0]
theorem seats_loop {B p b o cap nn c mb : Nat} {a : Option Addr} {C : Cfg} {pv wv : Value} {vi : List Value} {ps : List (List Ins)} {ws : List Int} (hB : B ≤ 4) (hps : ps.length = B) (hws : ws.length = B) (hp : ∀ p ∈ ps, p.length ≤ 32)
    (hv : vi.length = ps.length) (ho : OldS G 1 pv (vi.map fun x => [x]).length (fun i => (vi.map fun x => [x]).getD i [])) (hi : ∀ (i : Nat) (v : Value) (p : List Ins), vi[i]? = some v → ps[i]? = some p → OldP G v p) (hw : OldI G wv ws)
    (hk : ∀ h', Hs G h' (hdA p C (.slice (some ⟨b, o, none⟩) B cap) a nn c mb :: big B (fun i => seatR b (o + i * 8) (seat0 (ps.getD i []) (ws.getD i 0))) :: L) → Q (.tuple ⟨[pt p 0 0, I 0]⟩) h') :
    ∀ (r i : Nat) (h : AH), i + r = B → Hs G h (hdA p C (.slice (some ⟨b, o, none⟩) B cap) a nn c mb :: big B (fun j => if j < i then seatR b (o + j * 8) (seat0 (ps.getD j []) (ws.getD j 0)) else seg b (o + j * 8) zS) :: L) →
    A8_13 Q pv wv (pt p 0 0) (I B) (I i) h := by
  intro r
  induction r with
  | zero =>
    intro i h hib hs
    obtain rfl : i = B := by omega
    refine b8_13 (r_ltI (r_brF (by omega) (hk _ ?_)))
    exact (big_congr (g := fun j => seatR b (o + j * 8) (seat0 (ps.getD j []) (ws.getD j 0))) (fun j hj => by rw [if_pos hj]) hs.at2).at2
  | succ r ih =>
    intro i h hir hs
    have hib : i < B := by omega
    obtain ⟨pp, hpp, _⟩ := at_lt (l := ps) (i := i) (by omega)
    obtain ⟨v, hvi, _⟩ := at_lt (l := vi) (i := i) (by omega)
    obtain ⟨w, hwi, _⟩ := at_lt (l := ws) (i := i) (by omega)
    have hpl : pp.length ≤ 32 := hp pp (List.mem_of_getElem? hpp)
    have hs := (hs.front (big B fun j => if j < i then seatR b (o + j * 8) (seat0 (ps.getD j []) (ws.getD j 0)) else seg b (o + j * 8) zS)).bigOut i hib
    simp only [Nat.lt_irrefl, if_false] at hs
    refine b8_13 (r_ltI (r_brT (by omega) (b8_14 (r_nilP (r_padd (r_ld (b := p) (o := 0) hs rfl (r_idxN hib ?_)))))))
    refine r_rdc (rd_old (e := 3) (by simp) ho hs) (x := [v]) (by simp [hvi]) rfl ?_
    refine clonePR (by rw [insL_len]; omega) (by rw [insL_flat]; exact encP_cells _) (oldP_rd (hi i v pp hvi hpp) hs) fun a' c' h hs => ?_
    rw [insL_len, insL_flat] at hs
    rw [insL_len]
    refine r_nilP (r_padd (r_sto (b := b) (o := o + i * 8) hs rfl rfl rfl rfl fun h hs => ?_))
    refine r_rdc (oldI_rd hw hs) (x := [I w]) (by simp [ones, hwi]) rfl ?_
    refine r_nilP (r_padd (r_padd (r_sto (b := b) (o := o + i * 8) hs rfl rfl rfl rfl fun h hs => ?_)))
    have hs := hs.sg (b := b) (o := o + i * 8) (c := (⟨fun _ => 0, 0, w, false, pp⟩ : Seat).core ++ [.slice a' pp.length c']) rfl
    refine turn_ok (s := ⟨fun _ => 0, 0, w, false, pp⟩) (a := a') (c := c') (by omega) (hs.front2 (seg b (o + i * 8) ((⟨fun _ => 0, 0, w, false, pp⟩ : Seat).core ++ [.slice a' pp.length c'])) (slc 4 52 a' c' (pp.length, encP pp))) fun h hs => r_addI (by omega) ?_
    refine ih (i + 1) h (by omega) ?_
    have hs := seat_close (b := b) (o := o + i * 8) (s := (⟨fun _ => 0, 0, w, false, pp⟩ : Seat).turn 0) hs
    have e : (⟨fun _ => 0, 0, w, false, pp⟩ : Seat).turn 0 = seat0 (ps.getD i []) (ws.getD i 0) := by
      rw [List.getD_eq_getElem?_getD, List.getD_eq_getElem?_getD, hpp, hwi]; rfl
    rw [e] at hs
    have e0 : seatR b (o + i * 8) (seat0 (ps.getD i []) (ws.getD i 0)) = (fun j => if j < i + 1 then seatR b (o + j * 8) (seat0 (ps.getD j []) (ws.getD j 0)) else seg b (o + j * 8) zS) i := by simp only [Nat.lt_succ_self, if_true]
    rw [e0] at hs
    have hs := hs.bigPut (n := B) (i := i) (fun j => if j < i then seatR b (o + j * 8) (seat0 (ps.getD j []) (ws.getD j 0)) else seg b (o + j * 8) zS) (fun j => if j < i + 1 then seatR b (o + j * 8) (seat0 (ps.getD j []) (ws.getD j 0)) else seg b (o + j * 8) zS) hib (fun j _ hne => by
      have : (j < i + 1) = (j < i) := propext ⟨fun h => by omega, fun h => by omega⟩
      simp only [this])
    exact hs.to
theorem progs_ok : ∀ {ps : List (List Ins)}, progs ps = 0 → ∀ p ∈ ps, (checkV p).2 = 0
  | [], _, p, hp => by simp at hp
  | q :: l, h, p, hp => by
    rw [progs] at h
    split at h
    · rename_i hn; exact absurd h hn
    · rename_i hn
      rcases List.mem_cons.1 hp with rfl | hp
      · omega
      · exact progs_ok h p hp
theorem check_len {p : List Ins} (h : (checkV p).2 = 0) : p.length ≤ 32 := by
  unfold checkV at h
  split at h
  · cases h
  · omega
theorem new_ok {C : Cfg} {pv wv ov vv : Value} {ps : List (List Ins)} {ws os vs : List Int} (hn : ps.length ≤ 1000 ∧ ws.length < 1000 ∧ os.length < 1000) (hl : Ob G 0 limE) (hg : Ob G 1 opsE) (ho : OldM G pv wv ov vv ps ws os vs) (hs : Hs G h L)
    (k1 : newE C ps ws os vs ≠ 0 → ∀ h', Hs G h' L → Q (.tuple ⟨[.pointer none, I (newE C ps ws os vs)]⟩) h')
    (k2 : newE C ps ws os vs = 0 → ∀ p h', Hs G h' (atmR G p (newM C ps ws os vs) :: L) → Q (.tuple ⟨[pt p 0 0, I 0]⟩) h') : Cl Pr K 8 [.agg ⟨C.enc⟩, pv, wv, ov, vv] h Q := by
  obtain ⟨⟨vi, hv, hpo, hpi⟩, hwo, hoo, hvo⟩ := ho
  have lp : ∀ {k : Value → Prop}, k (I ps.length) → thn (lenS pv) k := fun hk => old_len hpo (by simpa [hv] using hk)
  have lw : ∀ {k : Value → Prop}, k (I ws.length) → thn (lenS wv) k := fun hk => old_len hwo (by simpa [ones_len] using hk)
  have lo : ∀ {k : Value → Prop}, k (I os.length) → thn (lenS ov) k := fun hk => old_len hoo (by simpa [ones_len] using hk)
  have lv : ∀ {k : Value → Prop}, k (I vs.length) → thn (lenS vv) k := fun hk => old_len hvo (by simpa [ones_len] using hk)
  unfold newE at k1 k2
  refine c8 (b8_0 (r_bx hs fun p5 h hs => r_ldN hs (by decide) (l := C.enc) rfl rfl (check_ok hl hs fun h hs => ?_)))
  by_cases hC : C.Ok
  rotate_left
  · rw [if_pos hC] at k1
    rw [if_neg hC]
    exact r_neI (r_brT (by omega) (k1 (by omega) _ hs.tail))
  rw [if_neg (by simpa using hC)] at k1 k2
  rw [if_pos hC]
  have hln := Cfg.lines_eq hC
  have hb := Cfg.bk hC
  have hco : C.cores ≤ 4 ∧ 1 ≤ C.cores := ⟨hC.1.2, hC.1.1⟩
  have hgr : C.granules ≤ 16 := hC.2.1.2
  have bad : ((ps.length : Int) ≠ C.cores ∨ (ws.length : Int) ≠ C.cores ∨ (os.length : Int) ≠ C.granules ∨ vs.length ≠ C.lines * 2) → ∀ h', Hs G h' (seg p5 0 C.enc :: L) → Q (.tuple ⟨[.pointer none, I 1]⟩) h' := fun hb h' hs => by
    rw [if_pos hb] at k1
    exact k1 (by omega) _ hs.tail
  refine r_neI (r_brF (by omega) (b8_1 (lp (r_padd (r_ld (b := p5) (o := 0) hs rfl (r_neI (r_br (fun g => bad (.inl g) _ hs) (fun g1 => lw (r_padd (r_ld (b := p5) (o := 0) hs rfl (r_neI (r_br (fun g => bad (.inr (.inl g)) _ hs) (fun g2 => lo (r_padd (r_ld (b := p5) (o := 0) hs rfl (r_neI (r_br (fun g => bad (.inr (.inr (.inl g))) _ hs) (fun g3 => lv (r_ldN (b := p5) (o := 0) hs (by decide) (l := C.enc) rfl rfl (words_ok hC hl hs fun h hs => r_neI (r_br (fun g => bad (.inr (.inr (.inr (by omega)))) _ hs) (fun g4 => ?_)))))))))))))))))))) ))
  clear bad
  rw [if_neg (by omega)] at k1 k2
  refine b8_2 (lp (progs_loop (C := C) hv hpo hpi hg hn.1 (fun e h hs => ?_) (fun e h hs => ?_) ps.length 0 h (by omega) rfl hs))
  · rw [if_pos e] at k1
    exact k1 e _ hs.tail
  rw [if_neg (by simpa using e)] at k1 k2
  have hbad : ¬ (within 0 3 ws = true ∧ within 0 4 os = true) → ∀ h', Hs G h' (seg p5 0 C.enc :: L) → Q (.tuple ⟨[.pointer none, I 10]⟩) h' := fun hb h' hs => by
    rw [if_pos hb] at k1
    exact k1 (by omega) _ hs.tail
  refine b8_5 (within_ok (l := ws) hn.2.1 (oldI_rd hwo hs) fun h hs => r_not (r_brn (r_brb (fun g1 => ?_) (fun g1 => hbad (by simp [g1]) _ hs.tail))))
  refine within_ok (l := os) hn.2.2 (oldI_rd hoo hs.tail) fun h hs => r_not (r_brn (r_brb (fun g2 => ?_) (fun g2 => hbad (by simp [g2]) _ hs.tail)))
  clear hbad
  rw [if_neg (by simp [g1, g2])] at k1 k2
  have hs := hs.tail
  refine b8_7 (r_ldN (b := p5) (o := 0) hs (by decide) (l := C.enc) rfl rfl (memNew_ok hC hl hs fun mb h hs => r_ext rfl (r_ext rfl (r_neI (r_brF (by omega) (b8_8 (lv ?_)))))))
  refine words_loop (L := seg p5 0 C.enc :: L) hC hvo hl (by omega) (fun h hs => ?_) vs.length 0 mem0 h (by omega) rfl hs
  refine b8_11 (r_resv hs fun rv h hs => r_ldN (b := p5) (o := 0) hs (by decide) (l := C.enc) rfl rfl (r_padd (r_ld (b := p5) (o := 0) hs rfl (r_mkSI (by omega) (by omega) (by omega) ?_))))
  dsimp only
  refine r_newSAt hs rfl rfl ?_ rfl ?_ ?_
  · rw [zerosA_flat, flat_len (W := 8) (fun _ => rfl)]
  · rw [zerosA_flat]; exact flat_cells (fun _ => rfl) _
  intro a h hs
  obtain ⟨b, o, ha, hs⟩ := Hs.newBig (W := 8) rfl (by omega) hs
  cases ha
  refine cloneIR (by rw [ones_len]; omega) (by rw [ones_flat]; exact ones_cells _) (oldI_rd hoo hs) fun a2 c2 h hs => ?_
  rw [ones_len, ones_flat] at hs
  rw [ones_len]
  refine r_fill (c := C.enc ++ [.slice (some ⟨b, o, none⟩) C.cores.toNat C.cores.toNat, .slice a2 os.length c2, pt mb 0 0]) rfl (r_bxAt hs rfl rfl fun p h hs => ?_)
  refine r_fl (r_ldN (b := p5) (o := 0) hs (by decide) (l := C.enc) rfl rfl (veq_agg (by simp [Cfg.enc, veq_I]))) (r_fl (r_padd veq_P) (r_fl (r_ld (b := p5) (o := 0) hs rfl veq_I) (r_fl veq_P (r_nilP (r_padd (r_ld (b := p) (o := 0) hs rfl (r_lenS ?_)))))))
  have hs := hs.front2 (hdA p C (.slice (some ⟨b, o, none⟩) C.cores.toNat C.cores.toNat) a2 os.length c2 mb) (big C.cores.toNat fun i => seg b (o + i * 8) zS)
  refine seats_loop (B := C.cores.toNat) (b := b) (o := o) (C := C) (ps := ps) (ws := ws) (by omega) (by omega) (by omega) (fun p hp => check_len (progs_ok e p hp)) hv hpo hpi hwo ?_ C.cores.toNat 0 h (by omega) (by simpa using hs)
  intro h hs
  refine k2 rfl p _ ?_
  have hs := atm_close (b := b) (o := o) (cap := C.cores.toNat) (a := a2) (c := c2) (mb := mb) (m := newM C ps ws os vs) ((hs.front4 (hdA p C (.slice (some ⟨b, o, none⟩) C.cores.toNat C.cores.toNat) a2 os.length c2 mb) (slc 1 3 a2 c2 (os.length, os.map I)) (memN G C.lines mb C (words mem0 vs 0)) (hole G 8 79 (some ⟨b, o, none⟩) C.cores.toNat C.cores.toNat b o)).bring5 (big C.cores.toNat fun i => seatR b (o + i * 8) (seat0 (ps.getD i []) (ws.getD i 0))))
  exact hs.to
end Go.Proofs.YtincdgimnjofpaaDoor
end
section
namespace Go.Proofs.YtincdgimnjofpaaDoor
open Go Go.Ab Go.Hm Go.At Go.Is
attribute [local irreducible] thn Br ld1 ldN stV alc alcAt alcS alcSAt resv padd nilV extV part1 partN lenS lenT biI biT biB biP biS biF biE biA unV idxS idxA pickV appV copyV clearV slS slA slT mkS blkOf at1 atN atS convI convS minV maxV Cl OkF OkR EndX endV beginV defersOf setLoop closeMarks
variable {G : Bg} {h : AH} {L L' : List HP} {Q : Value → AH → Prop}
theorem newM_Ok {C : Cfg} {ps : List (List Ins)} {ws os vs : List Int} (h : newE C ps ws os vs = 0) : (newM C ps ws os vs).Ok := by
  unfold newE at h
  split at h
  · cases h
  rename_i hC
  split at h
  · cases h
  rename_i hn
  split at h
  · rename_i hp; exact absurd h hp
  rename_i hp
  refine ⟨show C.Ok by simpa using hC, fun i hi => ?_, ?_⟩
  · have hip : i < ps.length := by have : (i : Int) < C.cores := hi; omega
    have hm : ps.getD i [] ∈ ps := by rw [List.getD_eq_getElem?_getD, List.getElem?_eq_getElem hip]; exact List.getElem_mem _
    have hc := progs_ok (by simpa using hp) _ hm
    have hl := check_len hc
    refine ⟨show (0 : Int) ≤ 0 by decide, show (0 : Int) ≤ 32 by decide, rfl, hl, fun x hx => ?_⟩
    unfold checkV at hc
    rw [if_neg (by omega)] at hc
    exact ckF_ok _ _ hc x hx
  · show (os.length : Int) = C.granules
    omega
theorem core_ok {m : AM} (hm : m.Ok) {pm i : Nat} (hi : (i : Int) < m.cfg.cores) (hs : Hs G h L) [mm : Has (atmR G pm) L m L']
    (hk : ∀ h', Hs G h' (atmR G pm m :: L') → Q (.tuple ⟨[.agg ⟨(m.seats i).core⟩, I 0]⟩) h') : Cl Pr K 17 [pt pm 0 0, I i] h Q := by
  have hco : m.cfg.cores ≤ 4 ∧ 1 ≤ m.cfg.cores := ⟨hm.cfg.1.2, hm.cfg.1.1⟩
  have hin : i < m.cfg.cores.toNat := by omega
  obtain ⟨b, o, cap, a, c, mb, hs⟩ := atm_open (mm.of hs)
  refine c17 (b17_0 (r_new hs fun p1 h hs => r_ptEq (r_brf (b17_1 ?_))))
  refine r_nilP (r_padd (r_ld (b := pm) (o := 0) hs rfl (r_lenS (r_subI (by omega) (r_fill (c := [I i]) rfl (r_newS hs rfl rfl rfl fun ad h hs => within1_ok hs fun h hs => r_not (r_brn (r_brT (by omega) ?_))))))))
  refine r_nilP (r_padd (r_ld (b := pm) (o := 0) hs rfl ?_))
  have hs := (hs.front (big m.cfg.cores.toNat fun i => seatR b (o + i * 8) (m.seats i))).bigOut i hin
  obtain ⟨pa, pc, hs⟩ := seat_open hs
  refine r_idxN hin (r_padd (r_ldN (b := b) (o := o + i * 8) hs (by decide) (l := (m.seats i).core) rfl rfl (r_stW (b := p1) (o := 0) hs rfl rfl rfl rfl fun h hs => r_ldN (b := p1) (o := 0) hs (by decide) (l := (m.seats i).core) rfl rfl (hk _ ?_))))
  have hs := seat_close (hs.front2 (seg b (o + i * 8) ((m.seats i).core ++ [.slice pa (m.seats i).prog.length pc])) (slc 4 52 pa pc ((m.seats i).prog.length, encP (m.seats i).prog)))
  have hs := hs.bigPut (n := m.cfg.cores.toNat) (i := i) (fun j => seatR b (o + j * 8) (m.seats j)) (fun j => seatR b (o + j * 8) (m.seats j)) hin (fun _ _ _ => rfl)
  exact atm_close (b := b) (o := o) (cap := cap) (a := a) (c := c) (mb := mb) hs.to
theorem owner_ok {m : AM} (hm : m.Ok) {pm i : Nat} (hi : (i : Int) < m.cfg.granules) (hs : Hs G h L) [mm : Has (atmR G pm) L m L']
    (hk : ∀ h', Hs G h' (atmR G pm m :: L') → Q (.tuple ⟨[I (m.owners.getD i 0), I 0]⟩) h') : Cl Pr K 19 [pt pm 0 0, I i] h Q := by
  have hgr : m.cfg.granules ≤ 16 := hm.cfg.2.1.2
  have hol := hm.owners
  obtain ⟨b, o, cap, a, c, mb, hs⟩ := atm_open (mm.of hs)
  refine c19 (b19_0 (r_ptEq (r_brf (b19_1 ?_))))
  refine r_nilP (r_padd (r_ld (b := pm) (o := 0) hs rfl (r_lenS (r_subI (by omega) (r_fill (c := [I i]) rfl (r_newS hs rfl rfl rfl fun ad h hs => within1_ok hs fun h hs => r_not (r_brn (r_brT (by omega) ?_))))))))
  refine r_nilP (r_padd (r_ld (b := pm) (o := 0) hs rfl (r_slc1 (e := 3) (cs := m.owners.map I) hs (own_at (by omega)) (hk _ ?_))))
  exact atm_close (b := b) (o := o) (cap := cap) (a := a) (c := c) (mb := mb) hs
theorem get_ok {m : AM} (hm : m.Ok) {pm i : Nat} (hi : i < m.cfg.lines * 2) (hl : Ob G 0 limE) (hs : Hs G h L) [mm : Has (atmR G pm) L m L']
    (hk : ∀ h', Hs G h' (atmR G pm m :: L') → Q (.tuple ⟨[I (wordG m.mem i), I 0]⟩) h') : Cl Pr K 20 [pt pm 0 0, I i] h Q := by
  obtain ⟨b, o, cap, a, c, mb, hs⟩ := atm_open (mm.of hs)
  refine c20 (b20_0 (r_ptEq (r_brf (r_nilP (r_padd (r_ld (b := pm) (o := 0) hs rfl ?_))))))
  refine memGet_ok hm.cfg hl hs hi fun h hs => r_ext rfl (r_ext rfl (hk _ ?_))
  exact atm_close (b := b) (o := o) (cap := cap) (a := a) (c := c) (mb := mb) hs.to
end Go.Proofs.YtincdgimnjofpaaDoor
end
section
namespace Go.Proofs.YtincdgimnjofpaaDoor
open Go Go.Ab Go.Hm Go.At Go.Is
theorem r_neEv {a n : Ev} {k : Value → Prop} (hk : k (.bool (decide (a ≠ n)))) : thn (biA [0, 0, 0, 0, 0, 0, 0] .neq (.agg ⟨a.enc⟩) (.agg ⟨n.enc⟩)) k := by
  refine ⟨_, ?_, hk⟩
  cases a; cases n
  simp [biA, cmpK, cmp1, eqn, Ev.enc]
  rw [Bool.eq_iff_iff]
  simp
theorem veq_F {f : FuncId} {b o j : Nat} : veq (.func (.func f) #[pt b o j] #[]) (.func (.func f) #[pt b o j] #[]) = true := by simp [veq, veqA, veqL, pt]
attribute [local irreducible] thn Br ld1 ldN stV alc alcAt alcS alcSAt resv padd nilV extV part1 partN lenS lenT biI biT biB biP biS biF biE biA unV idxS idxA pickV appV copyV clearV slS slA slT mkS blkOf at1 atN atS convI convS minV maxV Cl OkF OkR EndX endV beginV defersOf setLoop closeMarks
variable {G : Bg} {h : AH} {L L' : List HP} {Q : Value → AH → Prop}
def evL (l : List Ev) : List (List Value) := l.map Ev.enc
theorem evL_len (l : List Ev) : (evL l).length = l.length := by simp [evL]
def OldE (G : Bg) (v : Value) (l : List Ev) : Prop := OldS G 7 v (evL l).length (fun i => (evL l).getD i [])
theorem oldE_rd {v : Value} {l : List Ev} (ho : OldE G v l) (hs : Hs G h L) : Hs G h (rdS G 7 44 v (evL l) :: L) := rd_old (by simp [evL, Ev.enc]) ho hs
theorem again_loop {lv : Value} {l : List Ev} (ho : OldE G lv l) (hl : Ob G 0 limE) (hn : l.length ≤ 1000) :
    ∀ (f i : Nat) (m : AM) (pm n : Nat) (h : AH), i + f = l.length → n ≤ i → m.Ok → Hs G h (atmR G pm m :: L) →
    (∀ p h', Hs G h' (atmR G p (againV m (l.drop i) n).1 :: L) → Q (.tuple ⟨[pt p 0 0, I (againV m (l.drop i) n).2.1, I (againV m (l.drop i) n).2.2]⟩) h') →
    A14_1 Q (pt pm 0 0) (I n) (I 0) lv (I l.length) (I i) h := by
  intro f
  induction f with
  | zero =>
    intro i m pm n h hi hni hm hs hk
    rw [List.drop_of_length_le (by omega), againV] at hk
    exact b14_1 (r_ltI (r_brF (by omega) (hk pm _ hs)))
  | succ f ih =>
    intro i m pm n h hi hni hm hs hk
    obtain ⟨x, hx, hd⟩ := at_lt (l := l) (i := i) (by omega)
    rw [hd, againV] at hk
    refine b14_1 (r_ltI (r_brT (by omega) (b14_2 (r_rd (oldE_rd ho hs) (by decide) (i := i) (x := x.enc) (by simp [evL, hx]) (r_new hs fun p3 h hs => r_stW (b := p3) (o := 0) hs rfl rfl rfl rfl fun h hs => ?_)))))
    refine atmCopy_ok hm hs fun p2 h hs => r_padd (r_ld (b := p3) (o := 0) hs rfl (r_padd (r_ld (b := p3) (o := 0) hs rfl (r_eqI ?_))))
    refine step_ok hm hl hs fun h hs => r_ext rfl (r_ext rfl (r_new hs fun p15 h hs => r_stW (b := p15) (o := 0) hs rfl rfl rfl rfl fun h hs => ?_))
    have ee : decide (x.code = 17) = busyE x := rfl
    rw [ee] at hs ⊢
    refine r_eqI (r_br (fun c => ?_) (fun c => ?_))
    · refine b14_3 ?_
      have e : fitE m x = 20 := by unfold fitE; rw [if_pos c]
      rw [if_pos (by omega), e] at hk
      exact hk pm _ hs.to
    refine b14_4 (r_neI (r_br (fun d => ?_) (fun d => ?_)))
    · have e : fitE m x = 16 := by unfold fitE; rw [if_neg c, if_pos (.inl d)]
      rw [if_pos (by omega), e] at hk
      exact hk pm _ hs.to
    refine r_ldN (b := p15) (o := 0) hs (by decide) (l := (m.step x.core (busyE x)).2.1.enc) rfl rfl (r_ldN (b := p3) (o := 0) hs (by decide) (l := x.enc) rfl rfl (r_neEv (r_br (fun g => ?_) (fun g => ?_))))
    · refine b14_5 ?_
      have e : fitE m x = 16 := by unfold fitE; rw [if_neg c, if_pos (.inr g)]
      rw [if_pos (by omega), e] at hk
      exact hk pm _ hs.to
    · have e : fitE m x = 0 := by
        unfold fitE; rw [if_neg c, if_neg]
        rintro (h | h)
        · exact d h
        · exact g h
      rw [if_neg (by omega)] at hk
      refine b14_6 (r_addI (by omega) (r_addI (by omega) ?_))
      exact ih (i + 1) _ p2 (n + 1) h (by omega) (by omega) (step_Ok hm _ _) hs.to hk
theorem again_ok {lv : Value} {l : List Ev} {m : AM} {pm : Nat} (hm : m.Ok) (ho : OldE G lv l) (hl : Ob G 0 limE) (hn : l.length ≤ 1000) (hs : Hs G h (atmR G pm m :: L))
    (hk : ∀ p h', Hs G h' (atmR G p (againV m l 0).1 :: L) → Q (.tuple ⟨[pt p 0 0, I (againV m l 0).2.1, I (againV m l 0).2.2]⟩) h') : Cl Pr K 14 [pt pm 0 0, lv] h Q := by
  refine c14 (b14_0 (old_len ho ?_))
  rw [evL_len]
  exact again_loop ho hl hn l.length 0 m pm 0 h (by omega) (by omega) hm hs hk
theorem again_Ok : ∀ (l : List Ev) (m : AM) (n : Nat), m.Ok → (againV m l n).1.Ok ∧ (againV m l n).1.cfg = m.cfg
  | [], m, n, hm => ⟨hm, rfl⟩
  | x :: l, m, n, hm => by
    rw [againV]
    split
    · exact ⟨hm, rfl⟩
    · have := again_Ok l (m.step x.core (busyE x)).1 (n + 1) (step_Ok hm _ _)
      exact ⟨this.1, this.2.trans step_cfg⟩
/-! ### What is told, one behind the other -/
theorem collectI_ok {A : HP} {fv : Value} {F : Nat → Int} {n : Nat} (hn : n ≤ 1000) (hf : ∀ i, i < n → ∀ (h : AH) (L : List HP) (Q : Value → AH → Prop), Hs G h (A :: L) → (∀ h', Hs G h' (A :: L) → Q (.tuple ⟨[I (F i), I 0]⟩) h') → OkF Pr K fv [I i] h Q)
    (hs : Hs G h (A :: L)) (hk : ∀ a c h', Hs G h' (slc 1 3 a c (n, (List.range n).map fun i => I (F i)) :: A :: L) → Q (.slice a n c) h') : Cl Pr K 18 [I n, fv] h Q := by
  have loop : ∀ (f i : Nat) (a : Option Addr) (c : Nat) (h : AH), i + f = n → Hs G h (slc 1 3 a c (i, (List.range i).map fun i => I (F i)) :: A :: L) → A18_1 Q fv (.slice a i c) (I n) (I i) h := by
    intro f
    induction f with
    | zero =>
      intro i a c h hi hs
      obtain rfl : i = n := by omega
      exact b18_1 (r_ltI (r_brF (by omega) (hk _ _ _ hs)))
    | succ f ih =>
      intro i a c h hi hs
      refine b18_1 (r_ltI (r_brT (by omega) (b18_2 (hf i (by omega) h _ _ hs.at2 fun h hs => r_ext rfl (r_ext rfl (r_neI (r_brF (by omega) (b18_3 ?_))))))))
      refine r_fill (c := [I (F i)]) rfl (r_newS hs rfl rfl rfl fun a3 h hs => ?_)
      refine r_appS (a := a) (c := c) (n := i) (a2 := some a3) (c2 := 1) (m := 1) hs (by omega) fun a' c' h hs => ?_
      dsimp only
      refine r_addI (by omega) (ih (i + 1) a' c' h (by omega) ?_)
      have e : (List.range i).map (fun i => I (F i)) ++ [I (F i)] = (List.range (i + 1)).map fun i => I (F i) := by rw [List.range_succ, List.map_append]; rfl
      rw [e] at hs
      exact hs.to
  exact c18 (b18_0 (loop n 0 none 0 h (by omega) (slc_nil hs)))
theorem collectC_ok {A : HP} {fv : Value} {F : Nat → Seat} {n : Nat} (hn : n ≤ 1000) (hf : ∀ i, i < n → ∀ (h : AH) (L : List HP) (Q : Value → AH → Prop), Hs G h (A :: L) → (∀ h', Hs G h' (A :: L) → Q (.tuple ⟨[.agg ⟨(F i).core⟩, I 0]⟩) h') → OkF Pr K fv [I i] h Q)
    (hs : Hs G h (A :: L)) (hk : ∀ a c h', Hs G h' (slc 7 55 a c (n, (List.range n).flatMap fun i => (F i).core) :: A :: L) → Q (.slice a n c) h') : Cl Pr K 16 [I n, fv] h Q := by
  have loop : ∀ (f i : Nat) (a : Option Addr) (c : Nat) (h : AH), i + f = n → Hs G h (slc 7 55 a c (i, (List.range i).flatMap fun i => (F i).core) :: A :: L) → A16_1 Q fv (.slice a i c) (I n) (I i) h := by
    intro f
    induction f with
    | zero =>
      intro i a c h hi hs
      obtain rfl : i = n := by omega
      exact b16_1 (r_ltI (r_brF (by omega) (hk _ _ _ hs)))
    | succ f ih =>
      intro i a c h hi hs
      refine b16_1 (r_ltI (r_brT (by omega) (b16_2 (hf i (by omega) h _ _ hs.at2 fun h hs => r_ext rfl (r_ext rfl (r_new hs fun p4 h hs => r_stW (b := p4) (o := 0) hs rfl rfl rfl rfl fun h hs => r_neI (r_brF (by omega) (b16_3 ?_))))))))
      refine r_ldN (b := p4) (o := 0) hs (by decide) (l := (F i).core) rfl rfl (r_fill (c := (F i).core) rfl (r_newS hs rfl rfl rfl fun a3 h hs => ?_))
      refine r_appS (a := a) (c := c) (n := i) (a2 := some a3) (c2 := 1) (m := 1) hs (by omega) fun a' c' h hs => ?_
      dsimp only
      refine r_addI (by omega) (ih (i + 1) a' c' h (by omega) ?_)
      have e : (List.range i).flatMap (fun i => (F i).core) ++ (F i).core = (List.range (i + 1)).flatMap fun i => (F i).core := by rw [List.range_succ, List.flatMap_append]; simp
      rw [e] at hs
      exact hs.to
  exact c16 (b16_0 (loop n 0 none 0 h (by omega) (slc_nil hs)))
end Go.Proofs.YtincdgimnjofpaaDoor
end
section
namespace Go.Proofs.YtincdgimnjofpaaDoor
open Go Go.Ab Go.Hm Go.At Go.Is
attribute [local irreducible] thn Br ld1 ldN stV alc alcAt alcS alcSAt resv padd nilV extV part1 partN lenS lenT biI biT biB biP biS biF biE biA unV idxS idxA pickV appV copyV clearV slS slA slT mkS blkOf at1 atN atS convI convS minV maxV Cl OkF OkR EndX endV beginV defersOf setLoop closeMarks
variable {G : Bg} {h : AH} {L L' : List HP} {Q : Value → AH → Prop}
abbrev cfE (C : Cfg) (pv wv ov vv : Value) : List Value := C.enc ++ [pv, wv, ov, vv]
theorem begin_ok {C : Cfg} {pv wv ov vv : Value} {ps : List (List Ins)} {ws os vs : List Int} (hn : ps.length ≤ 1000 ∧ ws.length < 1000 ∧ os.length < 1000) (hl : Ob G 0 limE) (hg : Ob G 1 opsE) (ho : OldM G pv wv ov vv ps ws os vs) (hs : Hs G h L)
    (k1 : newE C ps ws os vs ≠ 0 → ∀ h', Hs G h' L → Q (.tuple ⟨[.pointer none, I (newE C ps ws os vs)]⟩) h')
    (k2 : newE C ps ws os vs = 0 → ∀ p h', Hs G h' (atmR G p (newM C ps ws os vs) :: L) → Q (.tuple ⟨[pt p 0 0, I 0]⟩) h') : Cl Pr K 13 [.agg ⟨cfE C pv wv ov vv⟩] h Q := by
  refine c13 (b13_0 (r_bx hs fun p h hs => r_padd (r_ldN hs (by decide) (l := C.enc) rfl rfl (r_padd (r_ld (b := p) (o := 0) hs rfl (r_padd (r_ld (b := p) (o := 0) hs rfl (r_padd (r_ld (b := p) (o := 0) hs rfl (r_padd (r_ld (b := p) (o := 0) hs rfl ?_)))))))))))
  refine new_ok hn hl hg ho hs (fun e h hs => r_ext rfl (r_ext rfl (k1 e _ hs.tail))) (fun e p' h hs => r_ext rfl (r_ext rfl (k2 e p' _ hs.to)))
abbrev coreV (m : AM) : List Value := (List.range m.cfg.cores.toNat).flatMap fun i => (m.seats i).core
abbrev ownV (m : AM) : List Value := (List.range m.cfg.granules.toNat).map fun i => I (m.owners.getD i 0)
abbrev wordV (m : AM) : List Value := (List.range (m.cfg.lines * 2)).map fun i => I (wordG m.mem i)
/-- what is told, of a machine -/
def ToldK (G : Bg) (m : AM) (L : List HP) (Q : Value → Value → Value → AH → Prop) : Prop := ∀ a1 c1 a2 c2 a3 c3 h', Hs G h' (slc 7 55 a1 c1 (m.cfg.cores.toNat, coreV m) :: slc 1 3 a2 c2 (m.cfg.granules.toNat, ownV m) :: slc 1 3 a3 c3 (m.cfg.lines * 2, wordV m) :: L) →
  Q (.slice a1 m.cfg.cores.toNat c1) (.slice a2 m.cfg.granules.toNat c2) (.slice a3 (m.cfg.lines * 2) c3) h'
theorem told_ok {C : Cfg} {pv wv ov vv : Value} {vs : List Int} {m : AM} {p2 p10 pm n : Nat} (hm : m.Ok) (hc : m.cfg = C) (hl : Ob G 0 limE) (ho : OldI G vv vs) (hv : vs.length = C.lines * 2)
    (hs : Hs G h (atmR G pm m :: seg p2 0 (cfE C pv wv ov vv) :: seg p10 0 [pt pm 0 0] :: L)) (hk : ToldK G m L fun x y z h' => Q (.agg ⟨[I n, x, y, z]⟩) h') : Cl Pr K 15 [I n, pt p2 0 0, pt p10 0 0] h Q := by
  subst hc
  have hln := Cfg.lines_eq hm.cfg
  have hco : m.cfg.cores ≤ 4 ∧ 1 ≤ m.cfg.cores := ⟨hm.cfg.1.2, hm.cfg.1.1⟩
  have hgr : m.cfg.granules ≤ 16 ∧ 1 ≤ m.cfg.granules := ⟨hm.cfg.2.1.2, hm.cfg.2.1.1⟩
  have hC : ((m.cfg.cores.toNat : Nat) : Int) = m.cfg.cores := by omega
  have hGr : ((m.cfg.granules.toNat : Nat) : Int) = m.cfg.granules := by omega
  refine c15 (b15_0 (r_new hs fun p1 h hs => r_resv hs fun rv h2 hs2 => ?_))
  refine r_padd (r_padd (r_ld (b := p2) (o := 0) hs2 (v := I m.cfg.cores) rfl (r_ld (b := p10) (o := 0) hs2 rfl ?_)))
  rw [← hC]
  refine collectC_ok (A := atmR G pm m) (F := m.seats) (by omega) (fun i hi h L Q hs hk => r_okF rfl (core_ok hm (by omega) hs hk)) (hs2.front (atmR G pm m)) fun a1 c1 h8 hs8 => ?_
  refine r_padd (r_padd (r_ld (b := p2) (o := 0) hs8 (v := I m.cfg.granules) rfl (r_ld (b := p10) (o := 0) hs8 rfl ?_)))
  rw [← hGr]
  refine collectI_ok (A := atmR G pm m) (F := fun i => m.owners.getD i 0) (by omega) (fun i hi h L Q hs hk => r_okF rfl (owner_ok hm (by omega) hs hk)) (hs8.front (atmR G pm m)) fun a2 c2 h13 hs13 => ?_
  refine r_padd (r_ld (b := p2) (o := 0) hs13 (v := vv) rfl (old_len ho ?_))
  rw [ones_len, hv]
  refine r_ld (b := p10) (o := 0) hs13 rfl ?_
  refine collectI_ok (A := atmR G pm m) (F := fun i => wordG m.mem i) (by omega) (fun i hi h L Q hs hk => r_okF rfl (get_ok hm (by omega) hl hs hk)) (hs13.front (atmR G pm m)) fun a3 c3 h18 hs18 => ?_
  refine r_fill (c := [I n, .slice a1 m.cfg.cores.toNat c1, .slice a2 m.cfg.granules.toNat c2, .slice a3 (m.cfg.lines * 2) c3]) rfl (r_stW (b := p1) (o := 0) hs18 rfl rfl rfl rfl fun h20 hs20 => ?_)
  have lv : ∀ (c : Nat), thn (lenS vv) fun v => veq v (I (m.cfg.lines * 2 : Nat)) = true := fun _ => old_len ho (by rw [ones_len, hv]; exact veq_I)
  have vvv : veq vv vv = true := by obtain ⟨a, c, rfl, _⟩ := ho; exact veq_S
  refine r_fl veq_I (r_fl veq_I (r_fl veq_I (r_fl (r_padd veq_P) (r_fl (r_padd veq_P) (r_fl (r_ld (b := p2) (o := 0) hs2 (v := I m.cfg.granules) rfl (by rw [hGr]; exact veq_I)) (r_fl (r_ld (b := p10) (o := 0) hs2 rfl veq_P) (r_fl veq_F ?_)))))))
  refine r_fl (r_padd veq_P) (r_fl (r_padd veq_P) (r_fl (r_ld (b := p2) (o := 0) hs2 (v := vv) rfl vvv) (r_fl (r_ld (b := p2) (o := 0) hs8 (v := vv) rfl vvv) (r_fl (lv 0) (r_fl (lv 0) (r_fl (r_ld (b := p10) (o := 0) hs2 rfl veq_P) (r_fl (r_ld (b := p10) (o := 0) hs8 rfl veq_P) (r_fl veq_F (r_fl veq_F ?_)))))))))
  refine r_ldN (b := p1) (o := 0) hs20 (by decide) (l := [I n, .slice a1 m.cfg.cores.toNat c1, .slice a2 m.cfg.granules.toNat c2, .slice a3 (m.cfg.lines * 2) c3]) rfl rfl ?_
  have hs := hs20.front3 (slc 7 55 a1 c1 (m.cfg.cores.toNat, coreV m)) (slc 1 3 a2 c2 (m.cfg.granules.toNat, ownV m)) (slc 1 3 a3 c3 (m.cfg.lines * 2, wordV m))
  exact hk a1 c1 a2 c2 a3 c3 _ hs.to
/-- what is known of a row's arguments -/
structure RA (G : Bg) (C : Cfg) (pv wv ov vv lv : Value) (ps : List (List Ins)) (ws os vs : List Int) (l : List Ev) : Prop where
  n : ps.length ≤ 1000 ∧ ws.length < 1000 ∧ os.length < 1000
  lim : Ob G 0 limE
  ops : Ob G 1 opsE
  m : OldM G pv wv ov vv ps ws os vs
  e : OldE G lv l
  en : l.length ≤ 1000
theorem newE_words {C : Cfg} {ps : List (List Ins)} {ws os vs : List Int} (h : newE C ps ws os vs = 0) : vs.length = C.lines * 2 := by
  unfold newE at h
  split at h
  · cases h
  split at h
  · cases h
  · omega
theorem run_ok {C : Cfg} {pv wv ov vv lv : Value} {ps : List (List Ins)} {ws os vs : List Int} {l : List Ev} (ra : RA G C pv wv ov vv lv ps ws os vs l) (hs : Hs G h L)
    (k1 : newE C ps ws os vs ≠ 0 → ∀ h', Hs G h' L → Q (.tuple ⟨[.agg ⟨[I 0, .slice none 0 0, .slice none 0 0, .slice none 0 0]⟩, I (newE C ps ws os vs)]⟩) h')
    (k2 : newE C ps ws os vs = 0 → ToldK G (againV (newM C ps ws os vs) l 0).1 L fun x y z h' => Q (.tuple ⟨[.agg ⟨[I (againV (newM C ps ws os vs) l 0).2.1, x, y, z]⟩, I (againV (newM C ps ws os vs) l 0).2.2]⟩) h') : Cl Pr K 6 [.agg ⟨cfE C pv wv ov vv⟩, lv] h Q := by
  refine c6 (b6_0 (r_bx hs fun p2 h hs => r_new hs fun p4 h hs => r_ldN (b := p2) (o := 0) hs (by decide) (l := cfE C pv wv ov vv) rfl rfl ?_))
  refine begin_ok ra.n ra.lim ra.ops ra.m hs (fun e h hs => ?_) (fun e pm h hs => ?_)
  · refine r_ext rfl (r_ext rfl (r_new hs fun p10 h hs => r_stW (b := p10) (o := 0) hs rfl rfl rfl rfl fun h hs => r_neI (r_brT e (r_fill (c := [I 0, .slice none 0 0, .slice none 0 0, .slice none 0 0]) rfl (r_stW (b := p4) (o := 0) hs rfl rfl rfl rfl fun h hs => r_ldN (b := p4) (o := 0) hs (by decide) (l := [I 0, .slice none 0 0, .slice none 0 0, .slice none 0 0]) rfl rfl (k1 e _ hs.to))))))
  · refine r_ext rfl (r_ext rfl (r_new hs fun p10 h hs => r_stW (b := p10) (o := 0) hs rfl rfl rfl rfl fun h hs => r_neI (r_brF (by omega) (b6_1 (r_ld (b := p10) (o := 0) hs rfl ?_)))))
    refine again_ok (newM_Ok e) ra.e ra.lim ra.en (hs.front (atmR G pm (newM C ps ws os vs))) fun pm2 h hs => r_ext rfl (r_ext rfl (r_ext rfl (r_stW (b := p10) (o := 0) hs rfl rfl rfl rfl fun h hs => ?_)))
    obtain ⟨hok, hcf⟩ := again_Ok l (newM C ps ws os vs) 0 (newM_Ok e)
    have hs := hs.front3 (atmR G pm2 (againV (newM C ps ws os vs) l 0).1) (seg p2 0 (cfE C pv wv ov vv)) (seg p10 0 [pt pm2 0 0])
    refine r_okF rfl (told_ok (C := C) hok hcf ra.lim ra.m.vs (newE_words e) hs fun a1 c1 a2 c2 a3 c3 h hs => ?_)
    refine r_stW (b := p4) (o := 0) hs rfl rfl rfl rfl fun h hs => r_ldN (b := p4) (o := 0) hs (by decide) (l := [I (againV (newM C ps ws os vs) l 0).2.1, .slice a1 (againV (newM C ps ws os vs) l 0).1.cfg.cores.toNat c1, .slice a2 (againV (newM C ps ws os vs) l 0).1.cfg.granules.toNat c2, .slice a3 ((againV (newM C ps ws os vs) l 0).1.cfg.lines * 2) c3]) rfl rfl (k2 e a1 c1 a2 c2 a3 c3 _ hs.to)
theorem first_ok {C : Cfg} {pv wv ov vv lv : Value} {ps : List (List Ins)} {ws os vs : List Int} {l : List Ev} (ra : RA G C pv wv ov vv lv ps ws os vs l) (hs : Hs G h L)
    (k1 : newE C ps ws os vs ≠ 0 ∨ (againV (newM C ps ws os vs) l 0).2.2 = 0 → ∀ h', Hs G h' L → Q (.tuple ⟨[I 0, .bool false]⟩) h')
    (k2 : newE C ps ws os vs = 0 → (againV (newM C ps ws os vs) l 0).2.2 ≠ 0 → ∀ h', Hs G h' L → Q (.tuple ⟨[I (againV (newM C ps ws os vs) l 0).2.1, .bool true]⟩) h') : Cl Pr K 7 [.agg ⟨cfE C pv wv ov vv⟩, lv] h Q := by
  refine c7 (b7_0 (r_bx hs fun p2 h hs => r_ldN (b := p2) (o := 0) hs (by decide) (l := cfE C pv wv ov vv) rfl rfl ?_))
  refine begin_ok ra.n ra.lim ra.ops ra.m hs (fun e h hs => ?_) (fun e pm h hs => ?_)
  · exact r_ext rfl (r_ext rfl (r_neI (r_brT e (k1 (.inl e) _ hs.to))))
  · refine r_ext rfl (r_ext rfl (r_neI (r_brF (by omega) (b7_1 ?_))))
    refine again_ok (newM_Ok e) ra.e ra.lim ra.en (hs.front (atmR G pm (newM C ps ws os vs))) fun pm2 h hs => r_ext rfl (r_ext rfl (r_ext rfl (r_eqI (r_br (fun c => ?_) (fun c => ?_)))))
    · exact k1 (.inr c) _ hs.to
    · exact k2 e c _ hs.to
end Go.Proofs.YtincdgimnjofpaaDoor
end
section
namespace Go.Proofs.YtincdgimnjofpaaDoor
open Go Go.Ab Go.Hm Go.At Go.Is
theorem r_neB2 {a b : Bool} {k : Value → Prop} (hk : k (.bool (a != b))) : thn (biB .neq (.bool a) (.bool b)) k := ⟨_, rfl, hk⟩
theorem r_eqEv {a n : Ev} {k : Value → Prop} (hk : k (.bool (decide (a = n)))) : thn (biA [0, 0, 0, 0, 0, 0, 0] .eql (.agg ⟨a.enc⟩) (.agg ⟨n.enc⟩)) k := by
  refine ⟨_, ?_, hk⟩
  cases a; cases n
  simp [biA, cmpK, cmp1, eqn, Ev.enc]
  rw [Bool.eq_iff_iff]
  simp
theorem r_neCore {s : Seat} {k : Value → Prop} (hk : k (.bool false)) : thn (biA [0, 0, 0, 0, 0, 0, 1] .neq (.agg ⟨s.core⟩) (.agg ⟨s.core⟩)) k := ⟨_, by simp [biA, cmpK, cmp1, eqn, Seat.core], hk⟩
attribute [local irreducible] thn Br ld1 ldN stV alc alcAt alcS alcSAt resv padd nilV extV part1 partN lenS lenT biI biT biB biP biS biF biE biA unV idxS idxA pickV appV copyV clearV slS slA slT mkS blkOf at1 atN atS convI convS minV maxV Cl OkF OkR EndX endV beginV defersOf setLoop closeMarks
variable {G : Bg} {h : AH} {L L' : List HP} {Q : Value → AH → Prop}
theorem awake18_ok (hk : Q (.bool true) h) : Cl Pr K 5 [] h Q := by
  unfold Cl
  exact ok_known (v := .bool true) rfl hk
theorem error_ok {e : Int} {b : Bool} (hk : Q (I (if e = 20 then 20 else if e ≠ 0 ∨ b = false then 16 else 0)) h) : Cl Pr K 11 [I e, .bool b] h Q := by
  refine c11 (b11_0 (r_eqI (r_br (fun c => ?_) (fun c => b11_1 (r_neI (r_br (fun d => ?_) (fun d => r_not (r_brn (r_brb (fun g => ?_) (fun g => ?_)))))))))) 
  · rw [if_pos c] at hk; exact hk
  · rw [if_neg c, if_pos (.inl d)] at hk; exact hk
  · rw [if_neg c, if_neg (by rintro (h | h); exact d h; rw [g] at h; cases h)] at hk; exact hk
  · rw [if_neg c, if_pos (.inr g)] at hk; exact hk
theorem ints_ok {n c1 c2 : Nat} {a1 a2 : Option Addr} {F : Nat → Int} (hn : n ≤ 1000) (hs : Hs G h (slc 1 3 a1 c1 (n, (List.range n).map fun i => I (F i)) :: slc 1 3 a2 c2 (n, (List.range n).map fun i => I (F i)) :: L))
    (hk : ∀ h', Hs G h' (slc 1 3 a1 c1 (n, (List.range n).map fun i => I (F i)) :: slc 1 3 a2 c2 (n, (List.range n).map fun i => I (F i)) :: L) → Q (.bool true) h') : Cl Pr K 35 [.slice a1 n c1, .slice a2 n c2] h Q := by
  have loop : ∀ (f i : Nat) (h : AH), i + f = n → Hs G h (slc 1 3 a1 c1 (n, (List.range n).map fun i => I (F i)) :: slc 1 3 a2 c2 (n, (List.range n).map fun i => I (F i)) :: L) → A35_2 Q (.slice a1 n c1) (.slice a2 n c2) (I i) h := by
    intro f
    induction f with
    | zero => intro i h hi hs; exact b35_2 (r_lenS (r_ltI (r_brF (by omega) (hk _ hs))))
    | succ f ih =>
      intro i h hi hs
      have hc : ((List.range n).map fun i => I (F i))[i]? = some (I (F i)) := by rw [List.getElem?_map, List.getElem?_range (by omega)]; rfl
      refine b35_2 (r_lenS (r_ltI (r_brT (by omega) (b35_3 (r_resv hs fun rv h hs => r_slc1 (a := a1) (c := c1) (e := 3) hs hc (r_slc1 (a := a2) (c := c2) (e := 3) hs hc (r_neI (r_brF (by simp) (b35_4 (r_addI (by omega) (ih (i + 1) h (by omega) hs.to)))))))))))
  exact c35 (b35_0 (r_lenS (r_lenS (r_neI (r_brF (by simp) (b35_1 (loop n 0 h (by omega) hs)))))))
theorem cores_ok {n c1 c2 : Nat} {a1 a2 : Option Addr} {F : Nat → Seat} (hn : n ≤ 1000) (hs : Hs G h (slc 7 55 a1 c1 (n, (List.range n).flatMap fun i => (F i).core) :: slc 7 55 a2 c2 (n, (List.range n).flatMap fun i => (F i).core) :: L))
    (hk : ∀ h', Hs G h' (slc 7 55 a1 c1 (n, (List.range n).flatMap fun i => (F i).core) :: slc 7 55 a2 c2 (n, (List.range n).flatMap fun i => (F i).core) :: L) → Q (.bool true) h') : Cl Pr K 34 [.slice a1 n c1, .slice a2 n c2] h Q := by
  have loop : ∀ (f i : Nat) (h : AH), i + f = n → Hs G h (slc 7 55 a1 c1 (n, (List.range n).flatMap fun i => (F i).core) :: slc 7 55 a2 c2 (n, (List.range n).flatMap fun i => (F i).core) :: L) → A34_2 Q (.slice a1 n c1) (.slice a2 n c2) (I i) h := by
    intro f
    induction f with
    | zero => intro i h hi hs; exact b34_2 (r_lenS (r_ltI (r_brF (by omega) (hk _ hs))))
    | succ f ih =>
      intro i h hi hs
      have hc : (((List.range n).flatMap fun i => (F i).core).drop (i * 7)).take 7 = (F i).core := by
        have hi' : i < n := by omega
        obtain ⟨pre, post, h1, h2, _⟩ := flat_at (W := 7) (c := fun i => (F i).core) (fun _ => rfl) n hi'
        rw [h1, ← h2, List.drop_left]
        exact List.take_left' rfl
      refine b34_2 (r_lenS (r_ltI (r_brT (by omega) (b34_3 (r_resv hs fun rv h hs => r_slcN (W := 7) (a := a1) (c := c1) (e := 55) hs (by decide) (by omega) hc rfl (r_slcN (W := 7) (a := a2) (c := c2) (e := 55) hs (by decide) (by omega) hc rfl (r_neCore (r_brf (b34_4 (r_addI (by omega) (ih (i + 1) h (by omega) hs.to)))))))))))
  exact c34 (b34_0 (r_lenS (r_lenS (r_neI (r_brF (by simp) (b34_1 (loop n 0 h (by omega) hs)))))))
theorem same_ok {C : Cfg} {pv wv ov vv : Value} {m : AM} {pm n c1 c2 c3 : Nat} {a1 a2 a3 : Option Addr} (hm : m.Ok) (hc : m.cfg = C) (hl : Ob G 0 limE)
    (hs : Hs G h (atmR G pm m :: slc 7 55 a1 c1 (m.cfg.cores.toNat, coreV m) :: slc 1 3 a2 c2 (m.cfg.granules.toNat, ownV m) :: slc 1 3 a3 c3 (m.cfg.lines * 2, wordV m) :: L))
    (hk : ∀ h', Hs G h' L → Q (.bool true) h') : Cl Pr K 12 [.agg ⟨[I n, .slice a1 m.cfg.cores.toNat c1, .slice a2 m.cfg.granules.toNat c2, .slice a3 (m.cfg.lines * 2) c3]⟩, pt pm 0 0, .agg ⟨cfE C pv wv ov vv⟩] h Q := by
  subst hc
  have hln := Cfg.lines_eq hm.cfg
  have hco : m.cfg.cores ≤ 4 ∧ 1 ≤ m.cfg.cores := ⟨hm.cfg.1.2, hm.cfg.1.1⟩
  have hgr : m.cfg.granules ≤ 16 ∧ 1 ≤ m.cfg.granules := ⟨hm.cfg.2.1.2, hm.cfg.2.1.1⟩
  refine c12 (b12_0 (r_bx hs fun p2 h hs => r_bx hs fun p5 h hs => ?_))
  have hs : Hs G h (slc 7 55 none 0 (0, (List.range 0).flatMap fun i => (m.seats i).core) :: sp [atmR G pm m, seg p5 0 (cfE m.cfg pv wv ov vv)] :: sp [seg p2 0 [I n, .slice a1 m.cfg.cores.toNat c1, .slice a2 m.cfg.granules.toNat c2, .slice a3 (m.cfg.lines * 2) c3], slc 7 55 a1 c1 (m.cfg.cores.toNat, coreV m), slc 1 3 a2 c2 (m.cfg.granules.toNat, ownV m), slc 1 3 a3 c3 (m.cfg.lines * 2, wordV m)] :: L) := slc_nil hs.to
  -- the words
  have lw : ∀ (f i : Nat) (a4 a5 a6 : Option Addr) (c4 c5 c6 : Nat) (h : AH), i + f = m.cfg.lines * 2 → Hs G h (slc 1 3 a6 c6 (i, (List.range i).map fun i => I (wordG m.mem i)) :: slc 1 3 a5 c5 (m.cfg.granules.toNat, ownV m) :: slc 7 55 a4 c4 (m.cfg.cores.toNat, coreV m) ::
      atmR G pm m :: seg p5 0 (cfE m.cfg pv wv ov vv) :: seg p2 0 [I n, .slice a1 m.cfg.cores.toNat c1, .slice a2 m.cfg.granules.toNat c2, .slice a3 (m.cfg.lines * 2) c3] :: slc 7 55 a1 c1 (m.cfg.cores.toNat, coreV m) :: slc 1 3 a2 c2 (m.cfg.granules.toNat, ownV m) :: slc 1 3 a3 c3 (m.cfg.lines * 2, wordV m) :: L) →
      A12_7 Q (pt pm 0 0) (pt p2 0 0) (pt p5 0 0) (.slice a4 m.cfg.cores.toNat c4) (.slice a5 m.cfg.granules.toNat c5) (.slice a6 i c6) (I i) h := by
    intro f
    induction f with
    | zero =>
      intro i a4 a5 a6 c4 c5 c6 h hi hs
      obtain rfl : i = m.cfg.lines * 2 := by omega
      refine b12_7 (r_padd (r_ldN (b := p5) (o := 0) hs (by decide) (l := m.cfg.enc) rfl rfl (words_ok hm.cfg hl hs fun h hs => r_ltI (r_brF (by omega) (r_padd (r_ld (b := p2) (o := 0) hs rfl ?_))))))
      refine cores_ok (by omega) (hs.front2 (slc 7 55 a1 c1 (m.cfg.cores.toNat, coreV m)) (slc 7 55 a4 c4 (m.cfg.cores.toNat, coreV m))) fun h hs => r_brt (r_padd (r_ld (b := p2) (o := 0) hs rfl ?_))
      refine ints_ok (by omega) (hs.front2 (slc 1 3 a2 c2 (m.cfg.granules.toNat, ownV m)) (slc 1 3 a5 c5 (m.cfg.granules.toNat, ownV m))) fun h hs => r_brt (r_padd (r_ld (b := p2) (o := 0) hs rfl ?_))
      refine ints_ok (by omega) (hs.front2 (slc 1 3 a3 c3 (m.cfg.lines * 2, wordV m)) (slc 1 3 a6 c6 (m.cfg.lines * 2, wordV m))) fun h hs => hk _ hs.to
    | succ f ih =>
      intro i a4 a5 a6 c4 c5 c6 h hi hs
      refine b12_7 (r_padd (r_ldN (b := p5) (o := 0) hs (by decide) (l := m.cfg.enc) rfl rfl (words_ok hm.cfg hl hs fun h hs => r_ltI (r_brT (by omega) (b12_8 (get_ok hm (by omega) hl hs fun h hs => r_ext rfl (r_ext rfl (r_fill (c := [I (wordG m.mem i)]) rfl (r_newS hs rfl rfl rfl fun a7 h hs => ?_)))))))))
      refine r_appS (a := a6) (c := c6) (n := i) (a2 := some a7) (c2 := 1) (m := 1) hs (by omega) fun a' c' h hs => ?_
      dsimp only
      refine r_addI (by omega) (ih (i + 1) a4 a5 a' c4 c5 c' h (by omega) ?_)
      have e : (List.range i).map (fun i => I (wordG m.mem i)) ++ [I (wordG m.mem i)] = (List.range (i + 1)).map fun i => I (wordG m.mem i) := by rw [List.range_succ, List.map_append]; rfl
      rw [e] at hs
      exact hs.to
  have lo : ∀ (f i : Nat) (a4 a5 : Option Addr) (c4 c5 : Nat) (h : AH), i + f = m.cfg.granules.toNat → Hs G h (slc 1 3 a5 c5 (i, (List.range i).map fun i => I (m.owners.getD i 0)) :: slc 7 55 a4 c4 (m.cfg.cores.toNat, coreV m) ::
      atmR G pm m :: seg p5 0 (cfE m.cfg pv wv ov vv) :: seg p2 0 [I n, .slice a1 m.cfg.cores.toNat c1, .slice a2 m.cfg.granules.toNat c2, .slice a3 (m.cfg.lines * 2) c3] :: slc 7 55 a1 c1 (m.cfg.cores.toNat, coreV m) :: slc 1 3 a2 c2 (m.cfg.granules.toNat, ownV m) :: slc 1 3 a3 c3 (m.cfg.lines * 2, wordV m) :: L) →
      A12_4 Q (pt pm 0 0) (pt p2 0 0) (pt p5 0 0) (.slice a4 m.cfg.cores.toNat c4) (.slice a5 i c5) (I i) h := by
    intro f
    induction f with
    | zero =>
      intro i a4 a5 c4 c5 h hi hs
      obtain rfl : i = m.cfg.granules.toNat := by omega
      refine b12_4 (r_padd (r_padd (r_ld (b := p5) (o := 0) hs (v := I m.cfg.granules) rfl (r_ltI (r_brF (by omega) (b12_6 ?_))))))
      exact lw (m.cfg.lines * 2) 0 a4 a5 none c4 c5 0 h (by omega) (slc_nil hs)
    | succ f ih =>
      intro i a4 a5 c4 c5 h hi hs
      refine b12_4 (r_padd (r_padd (r_ld (b := p5) (o := 0) hs (v := I m.cfg.granules) rfl (r_ltI (r_brT (by omega) (b12_5 (owner_ok hm (by omega) hs fun h hs => r_ext rfl (r_ext rfl (r_fill (c := [I (m.owners.getD i 0)]) rfl (r_newS hs rfl rfl rfl fun a7 h hs => ?_))))))))))
      refine r_appS (a := a5) (c := c5) (n := i) (a2 := some a7) (c2 := 1) (m := 1) hs (by omega) fun a' c' h hs => ?_
      dsimp only
      refine r_addI (by omega) (ih (i + 1) a4 a' c4 c' h (by omega) ?_)
      have e : (List.range i).map (fun i => I (m.owners.getD i 0)) ++ [I (m.owners.getD i 0)] = (List.range (i + 1)).map fun i => I (m.owners.getD i 0) := by rw [List.range_succ, List.map_append]; rfl
      rw [e] at hs
      exact hs.to
  have lc : ∀ (f i : Nat) (a4 : Option Addr) (c4 : Nat) (h : AH), i + f = m.cfg.cores.toNat → Hs G h (slc 7 55 a4 c4 (i, (List.range i).flatMap fun i => (m.seats i).core) ::
      atmR G pm m :: seg p5 0 (cfE m.cfg pv wv ov vv) :: seg p2 0 [I n, .slice a1 m.cfg.cores.toNat c1, .slice a2 m.cfg.granules.toNat c2, .slice a3 (m.cfg.lines * 2) c3] :: slc 7 55 a1 c1 (m.cfg.cores.toNat, coreV m) :: slc 1 3 a2 c2 (m.cfg.granules.toNat, ownV m) :: slc 1 3 a3 c3 (m.cfg.lines * 2, wordV m) :: L) →
      A12_1 Q (pt pm 0 0) (pt p2 0 0) (pt p5 0 0) (.slice a4 i c4) (I i) h := by
    intro f
    induction f with
    | zero =>
      intro i a4 c4 h hi hs
      obtain rfl : i = m.cfg.cores.toNat := by omega
      refine b12_1 (r_padd (r_padd (r_ld (b := p5) (o := 0) hs (v := I m.cfg.cores) rfl (r_ltI (r_brF (by omega) (b12_3 ?_))))))
      exact lo m.cfg.granules.toNat 0 a4 none c4 0 h (by omega) (slc_nil hs)
    | succ f ih =>
      intro i a4 c4 h hi hs
      refine b12_1 (r_padd (r_padd (r_ld (b := p5) (o := 0) hs (v := I m.cfg.cores) rfl (r_ltI (r_brT (by omega) (b12_2 (core_ok hm (by omega) hs fun h hs => r_ext rfl (r_ext rfl (r_new hs fun p4 h hs => r_stW (b := p4) (o := 0) hs rfl rfl rfl rfl fun h hs => ?_)))))))))
      refine r_ldN (b := p4) (o := 0) hs (by decide) (l := (m.seats i).core) rfl rfl (r_fill (c := (m.seats i).core) rfl (r_newS hs rfl rfl rfl fun a7 h hs => ?_))
      refine r_appS (a := a4) (c := c4) (n := i) (a2 := some a7) (c2 := 1) (m := 1) hs (by omega) fun a' c' h hs => ?_
      dsimp only
      refine r_addI (by omega) (ih (i + 1) a' c' h (by omega) ?_)
      have e : (List.range i).flatMap (fun i => (m.seats i).core) ++ (m.seats i).core = (List.range (i + 1)).flatMap fun i => (m.seats i).core := by rw [List.range_succ, List.flatMap_append]; simp
      rw [e] at hs
      exact hs.to
  have hs1 := (hs.front (sp [atmR G pm m, seg p5 0 (cfE m.cfg pv wv ov vv)])).un2
  have hs2 := (hs1.front (sp [seg p2 0 [I n, .slice a1 m.cfg.cores.toNat c1, .slice a2 m.cfg.granules.toNat c2, .slice a3 (m.cfg.lines * 2) c3], slc 7 55 a1 c1 (m.cfg.cores.toNat, coreV m), slc 1 3 a2 c2 (m.cfg.granules.toNat, ownV m), slc 1 3 a3 c3 (m.cfg.lines * 2, wordV m)])).un4
  exact lc m.cfg.cores.toNat 0 none 0 h (by omega) hs2.to
end Go.Proofs.YtincdgimnjofpaaDoor
end
section
namespace Go.Proofs.YtincdgimnjofpaaDoor
open Go Go.Ab Go.Hm Go.At Go.Is
attribute [local irreducible] thn Br ld1 ldN stV alc alcAt alcS alcSAt resv padd nilV extV part1 partN lenS lenT biI biT biB biP biS biF biE biA unV idxS idxA pickV appV copyV clearV slS slA slT mkS blkOf at1 atN atS convI convS minV maxV Cl OkF OkR EndX endV beginV defersOf setLoop closeMarks
variable {G : Bg} {h : AH} {L L' : List HP} {Q : Value → AH → Prop}
theorem few_ok {C : Cfg} {pv wv ov vv : Value} {ps : List (List Ins)} {ws os vs : List Int} (hn : ps.length ≤ 9223372036854775807) (ho : OldM G pv wv ov vv ps ws os vs) (hs : Hs G h L)
    (k1 : ps.length ≤ 6 ∧ ws.length ≤ 6 ∧ os.length ≤ 20 ∧ vs.length ≤ 80 → ∀ h', Hs G h' L → Q (.bool true) h') (k2 : ∀ h', Hs G h' L → Q (.bool false) h') : Cl Pr K 4 [.agg ⟨cfE C pv wv ov vv⟩] h Q := by
  obtain ⟨⟨vi, hv, hpo, hpi⟩, hwo, hoo, hvo⟩ := ho
  have lp : ∀ {k : Value → Prop}, k (I ps.length) → thn (lenS pv) k := fun hk => old_len hpo (by simpa [hv] using hk)
  have lw : ∀ {k : Value → Prop}, k (I ws.length) → thn (lenS wv) k := fun hk => old_len hwo (by simpa [ones_len] using hk)
  have lo : ∀ {k : Value → Prop}, k (I os.length) → thn (lenS ov) k := fun hk => old_len hoo (by simpa [ones_len] using hk)
  have lv : ∀ {k : Value → Prop}, k (I vs.length) → thn (lenS vv) k := fun hk => old_len hvo (by simpa [ones_len] using hk)
  refine c4 (b4_0 (r_bx hs fun p2 h hs => ?_))
  have loop : ∀ (f i : Nat) (h : AH), i + f = ps.length → Hs G h (seg p2 0 (cfE C pv wv ov vv) :: L) → A4_1 Q (pt p2 0 0) (I i) h := by
    intro f
    induction f with
    | zero =>
      intro i h hi hs
      refine b4_1 (r_padd (r_ld (b := p2) (o := 0) hs (v := pv) rfl (lp (r_ltI (r_brF (by omega) (r_padd (r_ld (b := p2) (o := 0) hs (v := pv) rfl (lp (r_leI (r_br (fun g1 => ?_) (fun g1 => k2 _ hs.tail)))))))))))
      refine r_padd (r_ld (b := p2) (o := 0) hs (v := wv) rfl (lw (r_leI (r_br (fun g2 => ?_) (fun g2 => k2 _ hs.tail)))))
      refine r_padd (r_ld (b := p2) (o := 0) hs (v := ov) rfl (lo (r_leI (r_br (fun g3 => ?_) (fun g3 => k2 _ hs.tail)))))
      refine r_padd (r_ld (b := p2) (o := 0) hs (v := vv) rfl (lv (r_leI ?_)))
      by_cases g4 : (vs.length : Int) ≤ 80
      · rw [decide_eq_true g4]; exact k1 ⟨by omega, by omega, by omega, by omega⟩ _ hs.tail
      · rw [decide_eq_false g4]; exact k2 _ hs.tail
    | succ f ih =>
      intro i h hi hs
      obtain ⟨p, hp, hd⟩ := at_lt (l := ps) (i := i) (by omega)
      obtain ⟨v, hvi, _⟩ := at_lt (l := vi) (i := i) (by omega)
      refine b4_1 (r_padd (r_ld (b := p2) (o := 0) hs (v := pv) rfl (lp (r_ltI (r_brT (by omega) (b4_2 (r_padd (r_ld (b := p2) (o := 0) hs (v := pv) rfl ?_))))))))
      refine r_rdc (rd_old (e := 3) (by simp) hpo hs) (x := [v]) (by simp [hvi]) rfl (old_len (hpi i v p hvi hp) (r_gtI (r_br (fun _ => k2 _ hs.tail) (fun _ => b4_3 (r_addI (by omega) (ih (i + 1) h (by omega) hs))))))
  exact loop ps.length 0 h (by omega) hs
theorem replayRuns_ok {C : Cfg} {pv wv ov vv lv : Value} {ps : List (List Ins)} {ws os vs : List Int} {l : List Ev} (hn : ps.length ≤ 9223372036854775807) (hlim : Ob G 0 limE) (hops : Ob G 1 opsE) (hom : OldM G pv wv ov vv ps ws os vs) (hoe : OldE G lv l) (hs : Hs G h L)
    (hk : ∀ h', Q (.bool true) h') : Cl Pr K 3 [.agg ⟨cfE C pv wv ov vv⟩, lv] h Q := by
  have ll : ∀ {k : Value → Prop}, k (I l.length) → thn (lenS lv) k := fun hk => old_len hoe (by simpa [evL_len] using hk)
  refine c3 (b3_0 (r_bx hs fun p2 h hs => r_ldN (b := p2) (o := 0) hs (by decide) (l := cfE C pv wv ov vv) rfl rfl (few_ok hn hom hs (fun hb h hs => ?_) (fun h hs => r_not (r_brt (awake18_ok (hk _)))))))
  refine r_not (r_brf (ll (r_gtI (r_br (fun _ => awake18_ok (hk _)) (fun hen => b3_1 ?_)))))
  have ra : RA G C pv wv ov vv lv ps ws os vs l := ⟨by omega, hlim, hops, hom, hoe, by omega⟩
  refine r_ldN (b := p2) (o := 0) hs (by decide) (l := cfE C pv wv ov vv) rfl rfl ?_
  by_cases hE : newE C ps ws os vs = 0
  rotate_left
  · refine run_ok ra hs (fun _ h hs => ?_) (fun e => absurd e hE)
    refine r_ext rfl (r_ext rfl (r_new hs fun p5 h hs => r_stW (b := p5) (o := 0) hs rfl rfl rfl rfl fun h hs => r_ldN (b := p2) (o := 0) hs (by decide) (l := cfE C pv wv ov vv) rfl rfl ?_))
    refine first_ok ra hs (fun _ h hs => ?_) (fun e => absurd e hE)
    refine r_ext rfl (r_ext rfl (r_padd (r_ldN (b := p2) (o := 0) hs (by decide) (l := C.enc) rfl rfl (r_padd (r_ld (b := p2) (o := 0) hs (v := pv) rfl (r_padd (r_ld (b := p2) (o := 0) hs (v := wv) rfl (r_padd (r_ld (b := p2) (o := 0) hs (v := ov) rfl (r_padd (r_ld (b := p2) (o := 0) hs (v := vv) rfl ?_)))))))))))
    refine new_ok ra.n hlim hops hom hs (fun _ h hs => ?_) (fun e => absurd e hE)
    refine r_ext rfl (r_ext rfl (r_neI (r_brT hE (r_eqI (r_brT rfl ?_)))))
    refine r_padd (r_ld (b := p5) (o := 0) hs rfl (r_eqI (r_brT rfl (r_padd (r_ld (b := p5) (o := 0) hs rfl (r_lenS (r_padd (r_ld (b := p5) (o := 0) hs rfl (r_lenS (r_addI (by omega) (r_padd (r_ld (b := p5) (o := 0) hs rfl (r_lenS (r_addI (by omega) (r_eqI (r_brT rfl (r_eqI (r_brT rfl (r_not (r_brt (awake18_ok (hk _))))))))))))))))))))))
  refine run_ok ra hs (fun e => absurd hE e) (fun _ => ?_)
  intro a1 c1 a2 c2 a3 c3 h hs
  obtain ⟨hrok, hrc⟩ := again_Ok l (newM C ps ws os vs) 0 (newM_Ok hE)
  generalize hR : againV (newM C ps ws os vs) l 0 = R at *
  obtain ⟨mR, n, w⟩ := R
  dsimp only at hrok hrc hs ⊢
  refine r_ext rfl (r_ext rfl (r_new hs fun p5 h hs => r_stW (b := p5) (o := 0) hs rfl rfl rfl rfl fun h hs => r_ldN (b := p2) (o := 0) hs (by decide) (l := cfE C pv wv ov vv) rfl rfl ?_))
  have key : ∀ (at' : Int) (is : Bool), (w = 0 → is = false ∧ at' = 0) → (w ≠ 0 → is = true ∧ at' = n) → ∀ (pm : Nat) (h : AH), Hs G h (atmR G pm (newM C ps ws os vs) :: seg p5 0 [I n, .slice a1 mR.cfg.cores.toNat c1, .slice a2 mR.cfg.granules.toNat c2, .slice a3 (mR.cfg.lines * 2) c3] :: slc 7 55 a1 c1 (mR.cfg.cores.toNat, coreV mR) :: slc 1 3 a2 c2 (mR.cfg.granules.toNat, ownV mR) :: slc 1 3 a3 c3 (mR.cfg.lines * 2, wordV mR) :: seg p2 0 (cfE C pv wv ov vv) :: L) →
      A3_2 Q lv (pt p2 0 0) (pt p5 0 0) (I w) (I at') (.bool is) (pt pm 0 0) (I 0) h := by
    intro at' is k0 k1 pm h hs
    refine b3_2 ?_
    have fin : ∀ (pm : Nat) (h : AH), Hs G h (atmR G pm mR :: seg p5 0 [I n, .slice a1 mR.cfg.cores.toNat c1, .slice a2 mR.cfg.granules.toNat c2, .slice a3 (mR.cfg.lines * 2) c3] :: slc 7 55 a1 c1 (mR.cfg.cores.toNat, coreV mR) :: slc 1 3 a2 c2 (mR.cfg.granules.toNat, ownV mR) :: slc 1 3 a3 c3 (mR.cfg.lines * 2, wordV mR) :: seg p2 0 (cfE C pv wv ov vv) :: L) →
        Cl Pr K 12 [.agg ⟨[I n, .slice a1 mR.cfg.cores.toNat c1, .slice a2 mR.cfg.granules.toNat c2, .slice a3 (mR.cfg.lines * 2) c3]⟩, pt pm 0 0, .agg ⟨cfE C pv wv ov vv⟩] h fun v13 h13 => Br v13 (Cl Pr K 5 [] h13 fun v14 h14 => Q v14 h14) (Q (.bool false) h13) := by
      intro pm h hs
      exact same_ok hrok (hrc.trans rfl) hlim (hs.front4 (atmR G pm mR) (slc 7 55 a1 c1 (mR.cfg.cores.toNat, coreV mR)) (slc 1 3 a2 c2 (mR.cfg.granules.toNat, ownV mR)) (slc 1 3 a3 c3 (mR.cfg.lines * 2, wordV mR))) fun h hs => r_brt (awake18_ok (hk _))
    have loop : ∀ (f i : Nat) (m : AM) (pm nn : Nat) (w' : Int) (h : AH), i + f = l.length → nn ≤ i → m.Ok → (if w' = 0 then againV m (l.drop i) nn = (mR, n, w) else (m, nn, w') = (mR, n, w)) →
        Hs G h (atmR G pm m :: seg p5 0 [I n, .slice a1 mR.cfg.cores.toNat c1, .slice a2 mR.cfg.granules.toNat c2, .slice a3 (mR.cfg.lines * 2) c3] :: slc 7 55 a1 c1 (mR.cfg.cores.toNat, coreV mR) :: slc 1 3 a2 c2 (mR.cfg.granules.toNat, ownV mR) :: slc 1 3 a3 c3 (mR.cfg.lines * 2, wordV mR) :: seg p2 0 (cfE C pv wv ov vv) :: L) →
        A3_3 Q lv (pt p2 0 0) (pt p5 0 0) (I w) (I at') (.bool is) (pt pm 0 0) (I w') (I nn) (I i) h := by
      intro f
      induction f with
      | zero =>
        intro i m pm nn w' h hi hnn hm hw' hs
        refine b3_3 (ll (r_ltI (r_brF (by omega) ?_)))
        have hw2 : mR = m ∧ n = nn ∧ w = w' := by
          split at hw'
          · rename_i e
            rw [List.drop_of_length_le (by omega), againV] at hw'
            simp only [Prod.mk.injEq] at hw'
            exact ⟨hw'.1.symm, hw'.2.1.symm, by rw [e]; exact hw'.2.2.symm⟩
          · simp only [Prod.mk.injEq] at hw'
            exact ⟨hw'.1.symm, hw'.2.1.symm, hw'.2.2.symm⟩
        obtain ⟨rfl, rfl, rfl⟩ := hw2
        have fin := fin pm
        refine r_neI (r_neB2 ?_)
        by_cases hw : w = 0
        · have hx := k0 hw
          rw [hx.1, hx.2, decide_eq_false (by omega)]
          refine r_brf (r_brf (r_not (r_brt (r_neI (r_brF (by omega) (r_eqI (r_brT rfl (r_padd (r_ld (b := p5) (o := 0) hs rfl (r_eqI (r_brT rfl (r_ldN (b := p5) (o := 0) hs (by decide) (l := [I n, .slice a1 mR.cfg.cores.toNat c1, .slice a2 mR.cfg.granules.toNat c2, .slice a3 (mR.cfg.lines * 2) c3]) rfl rfl (r_ldN (b := p2) (o := 0) hs (by decide) (l := cfE C pv wv ov vv) rfl rfl ?_)))))))))))))
          exact fin h hs
        · have hx := k1 hw
          rw [hx.1, hx.2, decide_eq_true (by omega)]
          refine r_brf (r_brt (r_neI (r_brF (by omega) (r_not (r_brf (r_eqI (r_brT rfl (r_padd (r_ld (b := p5) (o := 0) hs rfl (r_eqI (r_brT rfl (r_ldN (b := p5) (o := 0) hs (by decide) (l := [I n, .slice a1 mR.cfg.cores.toNat c1, .slice a2 mR.cfg.granules.toNat c2, .slice a3 (mR.cfg.lines * 2) c3]) rfl rfl (r_ldN (b := p2) (o := 0) hs (by decide) (l := cfE C pv wv ov vv) rfl rfl ?_)))))))))))))
          exact fin h hs
      | succ f ih =>
        intro i m pm nn w' h hi hnn hm hw' hs
        refine b3_3 (ll (r_ltI (r_brT (by omega) (r_eqI (r_br (fun e => b3_4 ?_) (fun e => b3_5 ?_))))))
        rotate_left
        · rw [if_neg e] at hw'
          simp only [Prod.mk.injEq] at hw'
          obtain ⟨rfl, rfl, rfl⟩ : mR = m ∧ n = nn ∧ w = w' := ⟨hw'.1.symm, hw'.2.1.symm, hw'.2.2.symm⟩
          have fin := fin pm
          refine r_neI (r_neB2 ?_)
          by_cases hw : w = 0
          · have hx := k0 hw
            rw [hx.1, hx.2, decide_eq_false (by omega)]
            refine r_brf (r_brf (r_not (r_brt (r_neI (r_brF (by omega) (r_eqI (r_brT rfl (r_padd (r_ld (b := p5) (o := 0) hs rfl (r_eqI (r_brT rfl (r_ldN (b := p5) (o := 0) hs (by decide) (l := [I n, .slice a1 mR.cfg.cores.toNat c1, .slice a2 mR.cfg.granules.toNat c2, .slice a3 (mR.cfg.lines * 2) c3]) rfl rfl (r_ldN (b := p2) (o := 0) hs (by decide) (l := cfE C pv wv ov vv) rfl rfl ?_)))))))))))))
            exact fin h hs
          · have hx := k1 hw
            rw [hx.1, hx.2, decide_eq_true (by omega)]
            refine r_brf (r_brt (r_neI (r_brF (by omega) (r_not (r_brf (r_eqI (r_brT rfl (r_padd (r_ld (b := p5) (o := 0) hs rfl (r_eqI (r_brT rfl (r_ldN (b := p5) (o := 0) hs (by decide) (l := [I n, .slice a1 mR.cfg.cores.toNat c1, .slice a2 mR.cfg.granules.toNat c2, .slice a3 (mR.cfg.lines * 2) c3]) rfl rfl (r_ldN (b := p2) (o := 0) hs (by decide) (l := cfE C pv wv ov vv) rfl rfl ?_)))))))))))))
            exact fin h hs
        rw [if_pos e] at hw'
        obtain ⟨x', hx', hd⟩ := at_lt (l := l) (i := i) (by omega)
        rw [hd, againV] at hw'
        have hxe : (evL l)[i]? = some x'.enc := by simp [evL, hx']
        refine atmCopy_ok hm hs fun pm2 h hs => r_resv hs fun rv h hs => ?_
        refine r_rd1 (oldE_rd hoe hs) hxe rfl (r_rd1 (oldE_rd hoe hs) hxe rfl (r_eqI ?_))
        refine step_ok hm hlim hs fun h hs => r_ext rfl (r_ext rfl (r_newAt hs rfl rfl fun p14 h hs => r_stW (b := p14) (o := 0) hs rfl rfl rfl rfl fun h hs => r_fl (r_ext rfl veq_I) (r_resv hs fun rv2 h hs => ?_)))
        have ee : decide (x'.code = 17) = busyE x' := rfl
        rw [ee] at hs ⊢
        refine r_ldN (b := p14) (o := 0) hs (by decide) (l := (m.step x'.core (busyE x')).2.1.enc) rfl rfl (r_rd (oldE_rd hoe hs) (by decide) hxe (r_eqEv (error_ok ?_)))
        have ef : (if (m.step x'.core (busyE x')).2.2 = 20 then (20 : Int) else if (m.step x'.core (busyE x')).2.2 ≠ 0 ∨ decide ((m.step x'.core (busyE x')).2.1 = x') = false then 16 else 0) = fitE m x' := by
          unfold fitE
          simp only [decide_eq_false_iff_not, ne_eq]
        rw [ef]
        refine r_eqI (r_br (fun g => b3_6 (r_addI (by omega) (r_addI (by omega) ?_))) (fun g => b3_7 (r_addI (by omega) ?_)))
        · rw [if_neg (by omega)] at hw'
          refine ih (i + 1) (m.step x'.core (busyE x')).1 pm2 (nn + 1) (fitE m x') h (by omega) (by omega) (step_Ok hm _ _) ?_ hs.to
          rw [if_pos g]; exact hw'
        · rw [if_pos g] at hw'
          refine ih (i + 1) m pm nn (fitE m x') h (by omega) (by omega) hm ?_ hs.to
          rw [if_neg g]; exact hw'
    refine loop l.length 0 _ pm 0 0 h (by omega) (by omega) (newM_Ok hE) ?_ hs.to
    rw [if_pos rfl]
    exact hR
  refine first_ok ra hs (fun e h hs => r_ext rfl (r_ext rfl ?_)) (fun _ e h hs => r_ext rfl (r_ext rfl ?_))
  · have hw0 : w = 0 := by
      rcases e with e | e
      · exact absurd hE e
      · rw [hR] at e; exact e
    refine r_padd (r_ldN (b := p2) (o := 0) hs (by decide) (l := C.enc) rfl rfl (r_padd (r_ld (b := p2) (o := 0) hs (v := pv) rfl (r_padd (r_ld (b := p2) (o := 0) hs (v := wv) rfl (r_padd (r_ld (b := p2) (o := 0) hs (v := ov) rfl (r_padd (r_ld (b := p2) (o := 0) hs (v := vv) rfl ?_)))))))))
    exact new_ok ra.n hlim hops hom hs (fun e => absurd hE e) (fun _ pm h hs => r_ext rfl (r_ext rfl (r_neI (r_brF (by omega) (key 0 false (fun _ => ⟨rfl, rfl⟩) (fun hh => absurd hw0 hh) pm h hs.to)))))
  · rw [hR] at e ⊢
    refine r_padd (r_ldN (b := p2) (o := 0) hs (by decide) (l := C.enc) rfl rfl (r_padd (r_ld (b := p2) (o := 0) hs (v := pv) rfl (r_padd (r_ld (b := p2) (o := 0) hs (v := wv) rfl (r_padd (r_ld (b := p2) (o := 0) hs (v := ov) rfl (r_padd (r_ld (b := p2) (o := 0) hs (v := vv) rfl ?_)))))))))
    exact new_ok ra.n hlim hops hom hs (fun e => absurd hE e) (fun _ pm h hs => r_ext rfl (r_ext rfl (r_neI (r_brF (by omega) (key n true (fun hh => absurd hh e) (fun _ => ⟨rfl, rfl⟩) pm h hs.to)))))
end Go.Proofs.YtincdgimnjofpaaDoor
end
