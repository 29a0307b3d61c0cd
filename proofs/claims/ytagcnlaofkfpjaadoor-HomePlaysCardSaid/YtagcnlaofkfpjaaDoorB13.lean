/- Both homes are the same: the law's walk. -/
import Derived.Test.YtagcnlaofkfpjaaDoorB12
import Derived.Test.YtagcnlaofkfpjaaDoorB6
section
namespace Go.Proofs.YtagcnlaofkfpjaaDoor
open Go Go.Ab Go.Hm
def rTake (R : Nat → RLn) (n : Note) : (Nat → RLn) × List Note × Int :=
  if ¬ takes n.kind then (R, [], 15)
  else if (0 ≤ n.core ∧ n.core < 3) ∧ (0 ≤ n.line ∧ n.line < 4) then (updA R n.line.toNat ((R n.line.toNat).take n).1, ((R n.line.toNat).take n).2)
  else (R, [], 10)
def swpN (l : Int) : Note := { Note.zero with core := -1, line := l }
def rSweep (R : Nat → RLn) (l : Int) : (Nat → RLn) × Int := if 0 ≤ l ∧ l < 4 then (updA R l.toNat ((R l.toNat).wait (swpN l)), 0) else (R, 10)
def rBegin (R : Nat → RLn) (l : Int) (may : Bool) (ow : Int) : (Nat → RLn) × List Note × Int :=
  if 0 ≤ l ∧ l < 4 then (updA R l.toNat ((R l.toNat).begin may ow).1, ((R l.toNat).begin may ow).2) else (R, [], 10)
def rhE (b o cap : Nat) : List Value := [I 3, .slice (some ⟨b, o, none⟩) 4 cap]
structure RhA where
  b : Nat
  o : Nat
  cap : Nat
def rhP (G : Bg) (hb : Nat) (R : Nat → RLn) (x : RhA) : List HP := [seg hb 0 (rhE x.b x.o x.cap), hole G 21 99 (some ⟨x.b, x.o, none⟩) x.cap 4 x.b x.o, big 4 fun i => rlR x.b (x.o + i * 21) (R i)]
/-- the document's home -/
def rhR (G : Bg) (hb : Nat) (R : Nat → RLn) : HP := exH fun x : RhA => sp (rhP G hb R x)
def rhX (b o : Nat) (R : Nat → RLn) (l : Nat) : HP := sp (((List.range 4).erase l).map fun i => rlR b (o + i * 21) (R i))
attribute [local irreducible] thn Br ld1 ldN stV alc alcAt alcS alcSAt resv padd nilV extV part1 partN lenS lenT biI biT biB biP biS biF biE biA unV idxS idxA pickV appV copyV clearV slS slA slT mkS blkOf at1 atN atS convI convS minV maxV Cl OkF OkR EndX endV beginV defersOf setLoop closeMarks
variable {G : Bg} {h : AH} {L L' : List HP}
theorem rh_open {hb : Nat} {R : Nat → RLn} (hs : Hs G h (rhR G hb R :: L)) : ∃ b o cap, Hs G h (seg hb 0 (rhE b o cap) :: hole G 21 99 (some ⟨b, o, none⟩) cap 4 b o :: big 4 (fun i => rlR b (o + i * 21) (R i)) :: L) := by
  obtain ⟨⟨b, o, cap⟩, hs⟩ := hs.exE
  exact ⟨b, o, cap, hs.unpack⟩
theorem rh_close {hb : Nat} {R : Nat → RLn} {b o cap : Nat} (hs : Hs G h (seg hb 0 (rhE b o cap) :: hole G 21 99 (some ⟨b, o, none⟩) cap 4 b o :: big 4 (fun i => rlR b (o + i * 21) (R i)) :: L)) : Hs G h (rhR G hb R :: L) :=
  Hs.exI (A := fun x => sp (rhP G hb R x)) ⟨b, o, cap⟩ (Hs.pack (A := rhP G hb R ⟨b, o, cap⟩) hs)
theorem rh_out {hb l : Nat} {R : Nat → RLn} (hl : l < 4) (hs : Hs G h (rhR G hb R :: L)) : ∃ b o cap, Hs G h (rlR b (o + l * 21) (R l) :: seg hb 0 (rhE b o cap) :: hole G 21 99 (some ⟨b, o, none⟩) cap 4 b o :: rhX b o R l :: L) := by
  obtain ⟨b, o, cap, hs⟩ := rh_open hs
  have hs := (hs.front (big 4 fun i => rlR b (o + i * 21) (R i))).bigOut l hl
  exact ⟨b, o, cap, (show Hs G h (rlR b (o + l * 21) (R l) :: rhX b o R l :: _) from hs).to⟩
theorem rh_in (hb : Nat) (R : Nat → RLn) (l : Nat) (y : RLn) (b o cap : Nat) {L1 L2 L3 L4 : List HP} (hl : l < 4) (hs : Hs G h L) [k1 : HasX (rlR b (o + l * 21) y) L L1] [k2 : HasX (seg hb 0 (rhE b o cap)) L1 L2] [k4 : HasX (hole G 21 99 (some ⟨b, o, none⟩) cap 4 b o) L2 L3] [k5 : HasX (rhX b o R l) L3 L4] : Hs G h (rhR G hb (updA R l y) :: L4) := by
  have hs : Hs G h (rlR b (o + l * 21) y :: rhX b o R l :: seg hb 0 (rhE b o cap) :: hole G 21 99 (some ⟨b, o, none⟩) cap 4 b o :: L4) :=
    (hs.perm (k1.perm.trans ((k2.perm.trans ((k4.perm.trans (k5.perm.cons _)).cons _)).cons _))).to
  have e0 : (fun i => rlR b (o + i * 21) (updA R l y i)) l = rlR b (o + l * 21) y := by simp only [updA_same]
  rw [← e0] at hs
  unfold rhX at hs
  have hs := hs.bigPut (n := 4) (i := l) (fun i => rlR b (o + i * 21) (R i)) (fun i => rlR b (o + i * 21) (updA R l y i)) hl (fun j _ hne => by simp only [updA_ne hne])
  exact rh_close (b := b) (o := o) (cap := cap) hs.to
theorem rh_same (hb : Nat) (R : Nat → RLn) (l : Nat) (b o cap : Nat) {L1 L2 L3 L4 : List HP} (hl : l < 4) (hs : Hs G h L) [k1 : HasX (rlR b (o + l * 21) (R l)) L L1] [k2 : HasX (seg hb 0 (rhE b o cap)) L1 L2] [k4 : HasX (hole G 21 99 (some ⟨b, o, none⟩) cap 4 b o) L2 L3] [k5 : HasX (rhX b o R l) L3 L4] : Hs G h (rhR G hb R :: L4) := by
  have := rh_in hb R l (R l) b o cap hl hs
  rw [updA_self] at this
  exact this
def RBd (R : Nat → RLn) : Prop := ∀ l, l < 4 → (R l).sh.length < 2 ^ 29 ∧ (R l).row.length < 2 ^ 29 ∧ (R l).aw.length < 2 ^ 29
section
variable {hb p : Nat} {R : Nat → RLn} {n : Note} {Q : Value → AH → Prop}
theorem take_r2 (hB : RBd R) (hc : (0 ≤ n.core ∧ n.core < 3) ∧ (0 ≤ n.line ∧ n.line < 4)) (hkd : takes n.kind) (hs : Hs G h (seg p 0 n.enc :: rhR G hb R :: L)) (hk : ∀ v h', Hs G h' (notesR v (rTake R n).2.1 :: rhR G hb (rTake R n).1 :: L) → Q (.tuple ⟨[v, I (rTake R n).2.2]⟩) h') :
    A39_2 Q (pt hb 0 0) (pt p 0 0) h := by
  unfold rTake at hk
  rw [if_neg (by simpa using hkd), if_pos hc] at hk
  obtain ⟨l, hnl⟩ := Int.eq_ofNat_of_zero_le hc.2.1
  have hl : l < 4 := by omega
  have e : n.line.toNat = l := by omega
  rw [e] at hk
  obtain ⟨b, o, cap, hs⟩ := rh_out hl hs.at2
  refine b39_2 (r_resv hs ?_)
  intro rv h hs
  obtain ⟨b1, b2, b3⟩ := hB l hl
  have hs1 : Hs G h (seg p 0 n.enc :: rlR b (o + l * 21) (R l) :: seg hb 0 (rhE b o cap) :: hole G 21 99 (some ⟨b, o, none⟩) cap 4 b o :: rhX b o R l :: L) := hs.to
  have := take_rl (Q := Q) b1 b3 b2 hs1 (fun v h hs => hk v h (rh_in hb R l ((R l).take n).1 b o cap hl hs).to)
  refine r_nilP (r_padd (r_ld hs rfl (r_padd (r_ld hs (v := I l) (by rw [← hnl]; rfl) (r_idxN hl (r_padd (r_ld hs rfl (r_eqI (r_br this.1 this.2)))))))))
theorem take_rok (hB : RBd R) (hs : Hs G h (rhR G hb R :: L)) (hk : ∀ v h', Hs G h' (notesR v (rTake R n).2.1 :: rhR G hb (rTake R n).1 :: L) → Q (.tuple ⟨[v, I (rTake R n).2.2]⟩) h') : Cl Pr K 39 [pt hb 0 0, .agg ⟨n.enc⟩] h Q := by
  refine c39 (b39_0 (r_bx hs ?_))
  intro p h hs
  have no15 : ¬ takes n.kind → Q (.tuple ⟨[.slice none 0 0, I 15]⟩) h := fun hn => by
    unfold rTake at hk
    rw [if_pos hn] at hk
    exact hk _ _ (notes0 hs).to
  have no10 : ∀ h, Hs G h (seg p 0 n.enc :: rhR G hb R :: L) → takes n.kind → ¬ ((0 ≤ n.core ∧ n.core < 3) ∧ (0 ≤ n.line ∧ n.line < 4)) → Q (.tuple ⟨[.slice none 0 0, I 10]⟩) h := fun h hs hn hc => by
    unfold rTake at hk
    rw [if_neg (by simpa using hn), if_neg hc] at hk
    exact hk _ _ (notes0 hs).to
  refine r_padd (r_ld hs rfl (r_neI (r_br (fun h1 => r_padd (r_ld hs rfl (r_neI (r_br (fun h2 => r_padd (r_ld hs rfl (r_neI (r_br (fun h3 => r_padd (r_ld hs rfl (r_neI (r_br (fun h4 => r_padd (r_ld hs rfl (r_neI (r_br (fun h5 => no15 (by unfold takes; omega)) (fun h5 => b39_1 ?_))))) (fun h4 => ?_))))) (fun h3 => ?_))))) (fun h2 => ?_))))) (fun h1 => ?_))))
  all_goals
    have ht : takes n.kind := by unfold takes; omega
    refine r_resv hs ?_
    intro rv h hs
    obtain ⟨b, o, cap, hs1⟩ := rh_open (hs.front (rhR G hb R))
    have hs0 : Hs G h (seg p 0 n.enc :: rhR G hb R :: L) := hs.to
    have no := no10 h hs0 ht
    refine r_padd (r_ld hs1 rfl (r_ltI (r_br (fun g1 => no (by omega)) (fun g1 => ?_))))
    refine r_padd (r_ld hs1 rfl (r_nilP (r_padd (r_ld hs1 rfl (r_geI (r_br (fun g2 => no (by omega)) (fun g2 => ?_)))))))
    refine r_padd (r_ld hs1 rfl (r_ltI (r_br (fun g3 => no (by omega)) (fun g3 => ?_))))
    refine r_padd (r_ld hs1 rfl (r_nilP (r_padd (r_ld hs1 rfl (r_lenS (r_geI (r_br (fun g4 => no (by omega)) (fun g4 => ?_))))))))
    exact take_r2 hB (by omega) ht hs0 hk
theorem sweep_rok {l : Int} (hB : RBd R) (hs : Hs G h (rhR G hb R :: L)) (hk : ∀ h', Hs G h' (rhR G hb (rSweep R l).1 :: L) → Q (I (rSweep R l).2) h') : Cl Pr K 40 [pt hb 0 0, I l] h Q := by
  unfold rSweep at hk
  have hs0 := hs
  refine c40 (b40_0 (r_ltI (r_br (fun h1 => ?_) (fun h1 => ?_))))
  · rw [if_neg (by omega)] at hk
    exact hk _ hs
  obtain ⟨b, o, cap, hs⟩ := rh_open hs
  refine r_nilP (r_padd (r_ld hs rfl (r_lenS (r_geI (r_br (fun h2 => ?_) (fun h2 => ?_))))))
  · rw [if_neg (by omega)] at hk
    exact hk _ hs0
  rw [if_pos (by omega)] at hk
  obtain ⟨k, rfl⟩ := Int.eq_ofNat_of_zero_le (show 0 ≤ l by omega)
  have hl : k < 4 := by omega
  rw [Int.toNat_natCast] at hk
  obtain ⟨b1, b2, b3⟩ := hB k hl
  clear hs
  obtain ⟨b, o, cap, hs⟩ := rh_out hl hs0
  obtain ⟨s, r, w, hs⟩ := rl_open hs
  refine b40_1 (r_resv hs ?_)
  intro rv h hs
  refine r_nilP (r_padd (r_ld hs rfl (r_nilP (r_padd (r_ld hs rfl (r_idxN hl (r_padd (r_ld hs rfl (r_fill (c := (swpN k).enc) rfl (r_fill (c := (swpN k).enc) rfl ?_))))))))))
  refine r_newSAt hs rfl rfl rfl rfl rfl ?_
  intro a3 h hs
  refine r_appS (hs.front2 (slc 9 38 r.1 r.2 ((R k).row.length, encNs (R k).row)) (slc 9 38 (some a3) 1 (1, (swpN k).enc))) (by omega) ?_
  intro a4 c4 h hs
  dsimp only
  have hs9 := hs
  refine r_idxN hl (r_padd (r_sto hs rfl rfl rfl rfl ?_))
  intro h hs
  refine r_fl veq_P (r_fl (r_nilP veq_P) (r_fl (r_padd veq_P) (r_fl (r_ld hs9 rfl veq_S) (r_fl veq_I ?_))))
  have hs1 := rl_shut b (o + k * 21) ((R k).wait (swpN k)) s (a4, c4) w hs (by simp [RLn.enc, setL, RLn.wait]) ⟨rfl, rfl⟩ ⟨by simp [RLn.wait], by simp [RLn.wait, encNs_append]⟩ ⟨rfl, rfl⟩
  exact hk _ (rh_in hb R k ((R k).wait (swpN k)) b o cap hl hs1).to
theorem sharers_rok {k : Nat} (hl : k < 4) (hB : RBd R) (hs : Hs G h (rhR G hb R :: L)) (hk : ∀ v h', Hs G h' (intsR 3 v (R k).sharers :: rhR G hb R :: L) → Q v h') : Cl Pr K 44 [pt hb 0 0, I k] h Q := by
  obtain ⟨b1, b2, b3⟩ := hB k hl
  obtain ⟨b, o, cap, hs⟩ := rh_out hl hs
  obtain ⟨s, r, w, hs⟩ := rl_open hs
  have loop : ∀ (f i : Nat) (done : List Int) (a2 : Option Addr) (c2 : Nat) (g : HP) (h : AH), i + f = 4 → done.length ≤ i → done ++ (R k).sharersF f i = (R k).sharers → Hs G h (slc 1 3 a2 c2 (done.length, done.map I) :: g :: seg b (o + k * 21) (RLn.enc (R k) s r w) :: slc 1 3 s.1 s.2 ((R k).sh.length, (R k).sh.map I) :: slc 9 38 r.1 r.2 ((R k).row.length, encNs (R k).row) :: slc 1 3 w.1 w.2 ((R k).aw.length, (R k).aw.map I) :: seg hb 0 (rhE b o cap) :: hole G 21 99 (some ⟨b, o, none⟩) cap 4 b o :: rhX b o R k :: L) →
      A44_1 Q (pt hb 0 0) (I k) (.slice a2 done.length c2) (I i) h := by
    intro f
    induction f with
    | zero =>
      intro i done a2 c2 g h hi hd he hs
      refine b44_1 (r_ltI (r_brF (by omega) ?_))
      simp only [RLn.sharersF, List.append_nil] at he
      rw [← he] at hk
      have hs := intsI (e := 3) rfl rfl hs
      have hs := rl_shut b (o + k * 21) (R k) s r w hs rfl ⟨rfl, rfl⟩ ⟨rfl, rfl⟩ ⟨rfl, rfl⟩
      have hs := rh_same hb R k b o cap hl hs
      exact hk _ _ hs.to
    | succ f ih =>
      intro i done a2 c2 g h hi hd he hs
      rw [RLn.sharersF] at he
      have hs1 := hs.tail.tail
      refine b44_1 (r_ltI (r_brT (by omega) (b44_2 (r_nilP (r_padd (r_ld hs1 rfl (r_idxN hl (r_padd (r_ld hs1 rfl (in_ok (e := 3) (l := (R k).sh) hs1 rfl rfl (by omega) (r_br (fun h1 => b44_3 ?_) (fun h1 => b44_4 ?_))))))))))))
      · rw [if_pos h1] at he
        refine r_fill (c := [I i]) rfl (r_newS hs rfl rfl rfl ?_)
        intro a3 h hs
        refine r_appS (hs.front2 (slc 1 3 a2 c2 (done.length, done.map I)) (slc 1 3 (some a3) 1 (1, [I i]))) (by omega) ?_
        intro a4 c4 h hs
        dsimp only
        refine r_addI (by omega) ?_
        have := ih (i + 1) (done ++ [(i : Int)]) a4 c4 (sp [slc 1 3 (some a3) 1 (1, [I i]), g]) h (by omega) (by simp; omega) (by rw [← he]; simp) (by
          simp only [List.map_append, List.length_append, List.map_cons, List.map_nil, List.length_cons, List.length_nil, Nat.zero_add] at hs ⊢
          exact hs.to)
        simpa using this
      · rw [if_neg h1] at he
        exact r_addI (by omega) (ih (i + 1) done a2 c2 g h (by omega) (by omega) he hs)
  refine c44 (b44_0 (loop 4 0 [] none 0 (sp []) h (by omega) (by simp) (by rfl) ?_))
  exact slc_nil (Hs.pack (A := []) hs)
theorem sweeps_rok {k : Nat} (hl : k < 4) (hB : RBd R) (hs : Hs G h (rhR G hb R :: L)) (hk : Q (I ((R k).sw : Nat)) h) : Cl Pr K 45 [pt hb 0 0, I k] h Q := by
  obtain ⟨b1, b2, b3⟩ := hB k hl
  obtain ⟨b, o, cap, hs⟩ := rh_out hl hs
  obtain ⟨s, r, w, hs⟩ := rl_open hs
  have loop : ∀ (f i many : Nat), i + f = (R k).row.length → many + ((R k).row.drop i).countP isSw = (R k).row.countP isSw → A45_1 Q (I many) (pt b (o + k * 21) 0) (I i) h := by
    intro f
    induction f with
    | zero =>
      intro i many hi hm
      rw [List.drop_of_length_le (by omega)] at hm
      simp only [List.countP_nil, Nat.add_zero] at hm
      have hcl := List.countP_le_length (p := isSw) (l := (R k).row)
      unfold RLn.sw at hk
      refine b45_1 (r_nilP (r_padd (r_ld hs rfl (r_lenS (r_ltI (r_brF (by omega) (b45_3 ?_)))))))
      refine r_nilP (r_padd (r_ld hs rfl (r_brb (fun h1 => ?_) (fun h1 => ?_))))
      · refine r_nilP (r_padd (r_padd (r_ld hs rfl (r_eqI (r_br (fun h2 => ?_) (fun h2 => ?_))))))
        · rw [if_pos ⟨h1, h2⟩, ← hm] at hk
          exact b45_6 (r_addI (by omega) hk)
        · rw [if_neg (fun e => h2 e.2), ← hm] at hk
          exact hk
      · rw [if_neg (fun e => by rw [h1] at e; cases e.1), ← hm] at hk
        exact hk
    | succ f ih =>
      intro i many hi hm
      have hlt : i < (R k).row.length := by omega
      have hcl := List.countP_le_length (p := isSw) (l := (R k).row)
      have hat := encNs_at (R k).row i (R k).row[i] (List.getElem?_eq_getElem hlt)
      rw [List.drop_eq_getElem_cons hlt, List.countP_cons] at hm
      refine b45_1 (r_nilP (r_padd (r_ld hs rfl (r_lenS (r_ltI (r_brT (by omega) (b45_2 ?_)))))))
      refine r_nilP (r_padd (r_ld hs rfl ?_))
      have hsr : Hs G h (slc 9 38 r.1 r.2 ((R k).row.length, encNs (R k).row) :: L) := hs.to
      obtain ⟨r1, r2⟩ := r
      obtain ⟨bb, oo, hr1, hs2⟩ := hsr.holeOpen (by omega)
      simp only at hr1
      subst hr1
      refine r_idxN hlt (r_padd ?_)
      have hcell : (encNs (R k).row)[i * 9]? = some (I (R k).row[i].kind) := by
        have := congrArg (fun l => l[0]?) hat
        simp only [List.getElem?_take_of_lt (show 0 < 9 by omega), List.getElem?_drop, Nat.add_zero] at this
        exact this
      refine (show ∀ kk : Value → Prop, kk (I (R k).row[i].kind) → thn (ld1 h (pt bb (oo + i * 9) (0 + 0))) kk from fun kk hkk => by
        have e : pt bb (oo + i * 9) (0 + 0) = pt bb oo (i * 9) := by simp [pt]
        rw [e]
        exact r_ld hs2 hcell hkk) _ ?_
      refine r_eqI (r_br (fun h1 => ?_) (fun h1 => ?_))
      · have h1 : (R k).row[i].kind = 0 := h1
        rw [show isSw (R k).row[i] = true by unfold isSw; rw [decide_eq_true h1], if_pos rfl] at hm
        exact b45_4 (r_addI (by omega) (r_addI (by omega) (ih (i + 1) (many + 1) (by omega) (by omega))))
      · have h1 : ¬ (R k).row[i].kind = 0 := h1
        rw [show isSw (R k).row[i] = false by unfold isSw; rw [decide_eq_false h1], if_neg (by simp)] at hm
        exact b45_5 (r_addI (by omega) (ih (i + 1) many (by omega) (by omega)))
  refine c45 (b45_0 (r_nilP (r_padd (r_ld hs rfl (r_idxN hl ?_)))))
  exact loop (R k).row.length 0 0 (by omega) (by simp)
end
end Go.Proofs.YtagcnlaofkfpjaaDoor
end
section
namespace Go.Proofs.YtagcnlaofkfpjaaDoor
open Go Go.Ab Go.Hm
attribute [local irreducible] thn Br ld1 ldN stV alc alcAt alcS alcSAt resv padd nilV extV part1 partN lenS lenT biI biT biB biP biS biF biE biA unV idxS idxA pickV appV copyV clearV slS slA slT mkS blkOf at1 atN atS convI convS minV maxV Cl OkF OkR EndX endV beginV defersOf setLoop closeMarks
variable {G : Bg} {h : AH} {L L' : List HP}
section
variable {b o p : Nat} {y : RLn} {n : Note} {Q : Value → AH → Prop}
def RLn.wos (y : RLn) (c : Int) : RLn := { y with sh := wo y.sh c }
theorem begin_r7 (hl : y.sh.length < 2 ^ 29) (hs : Hs G h (seg p 0 n.enc :: rlR b o y :: L)) (hk : ∀ v h', Hs G h' (notesR v [y.noteR 10] :: rlR b o (RLn.wos y n.core) :: L) → Q (.tuple ⟨[v, I 0]⟩) h') : A42_7 Q (pt b o 0) (pt p 0 0) h := by
  obtain ⟨s, r, w, hs⟩ := rl_open hs.at2
  refine b42_7 (r_resv hs ?_)
  intro rv h hs
  refine r_nilP (r_padd (r_ld hs rfl (r_padd (r_ld hs (v := I n.core) rfl (without_ok (l := y.sh) (x := n.core) hs rfl rfl (by omega) ?_)))))
  intro a1 c1 h hs
  refine r_nilP (r_padd (r_sto hs rfl rfl rfl rfl ?_))
  intro h hs
  have hs := rl_shut b o (RLn.wos y n.core) (a1, c1) r w hs rfl ⟨rfl, rfl⟩ ⟨rfl, rfl⟩ ⟨rfl, rfl⟩
  obtain ⟨s2, r2, w2, hs⟩ := rl_open hs
  refine r_fl veq_P (note_rok (y := RLn.wos y n.core) (s := s2) (r := r2) (w := w2) hs rfl fun h hs => r_fill (c := (y.noteR 10).enc) rfl (r_newS hs rfl rfl rfl ?_))
  intro a h hs
  have hs := notes1 (n := y.noteR 10) rfl hs
  have hs := rl_shut b o (RLn.wos y n.core) s2 r2 w2 hs rfl ⟨rfl, rfl⟩ ⟨rfl, rfl⟩ ⟨rfl, rfl⟩
  exact hk _ _ hs.to
theorem begin_r4 (hl : y.sh.length < 2 ^ 29) (hs : Hs G h (seg p 0 n.enc :: rlR b o y :: L)) (hk : ∀ v h', Hs G h' (notesR v [y.noteR 10] :: rlR b o (y.put n) :: L) → Q (.tuple ⟨[v, I 0]⟩) h') : A42_4 Q (pt b o 0) (pt p 0 0) h := by
  have hs00 := hs
  obtain ⟨s, r, w, hs⟩ := rl_open hs.at2
  refine b42_4 (r_resv hs ?_)
  intro rv h hs
  refine r_nilP (r_padd (r_ld hs rfl (r_padd (r_ld hs (v := I n.core) rfl (r_eqI (r_br (fun h1 => ?_) (fun h1 => ?_)))))))
  · refine b42_6 (r_nilP (r_padd (r_sto hs rfl rfl rfl rfl ?_)))
    intro h hs
    refine r_padd (r_ld hs rfl (r_brb (fun hd => ?_) (fun hd => ?_)))
    · refine b42_11 (r_padd (r_ldN hs (by decide) (l := [I n.d0, I n.d1]) rfl rfl (r_nilP (r_padd (r_sto hs rfl rfl rfl rfl ?_)))))
      intro h hs
      refine r_resv hs ?_
      intro rv h hs
      refine r_nilP (r_padd (r_ld hs rfl (r_padd (r_ld hs (v := I n.core) rfl (without_ok (l := y.sh) (x := n.core) hs rfl rfl (by omega) ?_)))))
      intro a1 c1 h hs
      refine r_nilP (r_padd (r_sto hs rfl rfl rfl rfl ?_))
      intro h hs
      have e : y.put n = { y with owner := -1, mem := (n.d0, n.d1), sh := wo y.sh n.core } := by unfold RLn.put; rw [if_pos h1, if_pos ⟨h1, hd⟩]
      have hs := rl_shut b o (y.put n) (a1, c1) r w hs (by rw [e]; rfl) ⟨rfl, rfl⟩ ⟨rfl, rfl⟩ ⟨rfl, rfl⟩
      obtain ⟨s2, r2, w2, hs⟩ := rl_open hs
      refine r_fl veq_P (note_rok (y := y.put n) (s := s2) (r := r2) (w := w2) hs rfl fun h hs => r_fill (c := (y.noteR 10).enc) rfl (r_newS hs rfl rfl rfl ?_))
      intro a h hs
      have hs := notes1 (n := y.noteR 10) rfl hs
      have hs := rl_shut b o (y.put n) s2 r2 w2 hs rfl ⟨rfl, rfl⟩ ⟨rfl, rfl⟩ ⟨rfl, rfl⟩
      exact hk _ _ hs.to
    · have hs1 := rl_shut b o ({ y with owner := -1 } : RLn) s r w hs rfl ⟨rfl, rfl⟩ ⟨rfl, rfl⟩ ⟨rfl, rfl⟩
      have e : y.put n = RLn.wos { y with owner := -1 } n.core := by unfold RLn.put RLn.wos; rw [if_pos h1, if_neg (by rw [hd]; simp)]
      rw [e] at hk
      exact begin_r7 (y := { y with owner := -1 }) (L := L) hl hs1.to hk
  · have e : y.put n = RLn.wos y n.core := by unfold RLn.put RLn.wos; rw [if_neg (show ¬ y.owner = n.core from h1), if_neg (fun e => h1 e.1)]
    rw [e] at hk
    have hs1 := rl_shut b o y s r w hs rfl ⟨rfl, rfl⟩ ⟨rfl, rfl⟩ ⟨rfl, rfl⟩
    exact begin_r7 (L := L) hl hs1.to hk
theorem begin_r13 (hl : y.sh.length < 2 ^ 29) (hs : Hs G h (rlR b o y :: L)) (hk : ∀ v h', Hs G h' (notesR v y.getS.2 :: rlR b o y.getS.1 :: L) → Q (.tuple ⟨[v, I 0]⟩) h') : A42_13 Q (pt b o 0) h := by
  unfold RLn.getS at hk
  have hs0 := hs
  obtain ⟨s, r, w, hs⟩ := rl_open hs
  refine b42_13 (r_nilP (r_padd (r_ld hs rfl (r_geI (r_br (fun h1 => ?_) (fun h1 => ?_))))))
  · rw [if_pos h1] at hk
    refine r_nilP (r_padd (r_ld hs rfl (r_fill (c := [I y.owner]) rfl (r_newS hs rfl rfl rfl ?_))))
    intro a h hs
    refine probes_rok (G := G) (y := y) (s := s) (r := r) (w := w) (l := [y.owner]) (L := slc 1 3 s.1 s.2 (y.sh.length, y.sh.map I) :: slc 9 38 r.1 r.2 (y.row.length, encNs y.row) :: L) (by simp) ?_ fun v h hs => ?_
    · exact (show Hs G h (slc 1 3 (some a) 1 ([y.owner].length, [y.owner].map I) :: _) from hs).to
    · have hs := rl_shut b o (y.ask [y.owner]) s r (some a, 1) hs rfl ⟨rfl, rfl⟩ ⟨rfl, rfl⟩ ⟨rfl, rfl⟩
      exact hk _ _ hs.to
  · rw [if_neg h1] at hk
    exact grant_rok (by omega) hs0 hk
theorem begin_r9 (hl : y.sh.length < 2 ^ 29) (hs : Hs G h (seg p 0 n.enc :: rlR b o y :: L)) (hk : ∀ v h', Hs G h' (notesR v (y.unown n.core).getS.2 :: rlR b o (y.unown n.core).getS.1 :: L) → Q (.tuple ⟨[v, I 0]⟩) h') : A42_9 Q (pt b o 0) (pt p 0 0) h := by
  obtain ⟨s, r, w, hs⟩ := rl_open hs.at2
  refine b42_9 (r_resv hs ?_)
  intro rv h hs
  unfold RLn.unown at hk
  refine r_nilP (r_padd (r_ld hs rfl (r_padd (r_ld hs (v := I n.core) rfl (r_eqI (r_br (fun h1 => b42_12 (r_nilP (r_padd (r_sto hs rfl rfl rfl rfl ?_)))) (fun h1 => ?_)))))))
  · rw [if_pos h1] at hk
    intro h hs
    unfold RLn.getS at hk
    rw [if_neg (show ¬ (0 : Int) ≤ -1 by omega)] at hk
    have hs1 := rl_shut b o ({ y with owner := -1 } : RLn) s r w hs rfl ⟨rfl, rfl⟩ ⟨rfl, rfl⟩ ⟨rfl, rfl⟩
    exact r_nilP (r_padd (r_ld hs rfl (r_geI (r_brF (by omega) (grant_rok (y := { y with owner := -1 }) (L := L) (show y.sh.length < 2 ^ 30 by omega) hs1.to hk)))))
  · rw [if_neg (show ¬ y.owner = n.core from h1)] at hk
    have hs1 := rl_shut b o y s r w hs rfl ⟨rfl, rfl⟩ ⟨rfl, rfl⟩ ⟨rfl, rfl⟩
    exact begin_r13 (L := L) hl hs1.to hk
theorem begin_r10 (hl : y.sh.length < 2 ^ 29) (hs : Hs G h (seg p 0 n.enc :: rlR b o y :: L)) (hk : ∀ v h', Hs G h' (notesR v (y.getM n).2 :: rlR b o (y.getM n).1 :: L) → Q (.tuple ⟨[v, I 0]⟩) h') : A42_10 Q (pt b o 0) (pt p 0 0) h := by
  unfold RLn.getM at hk
  obtain ⟨s, r, w, hs⟩ := rl_open hs.at2
  refine b42_10 (r_padd (r_ld hs (v := I n.core) rfl (holders_rok (x := n.core) (y := y) (s := s) (r := r) (w := w) hs rfl ⟨rfl, rfl⟩ (by omega) ?_)))
  intro a1 c1 h hs
  have hhl : (y.holders n.core).length ≤ 4 := by
    have : ∀ (f i : Nat), (y.holdersF n.core f i).length ≤ f := by
      intro f
      induction f with
      | zero => intro i; simp [RLn.holdersF]
      | succ f ih => intro i; have := ih (i + 1); unfold RLn.holdersF; split <;> simp <;> omega
    exact this 4 0
  refine r_lenS (r_gtI (r_br (fun h1 => ?_) (fun h1 => ?_)))
  · rw [if_pos (show y.holders n.core ≠ [] from fun e => by rw [e] at h1; simp at h1)] at hk
    refine probes_rok (y := y) (s := s) (r := r) (w := w) (l := y.holders n.core) (L := slc 1 3 s.1 s.2 (y.sh.length, y.sh.map I) :: slc 9 38 r.1 r.2 (y.row.length, encNs y.row) :: L) (by omega) hs.to fun v h hs => ?_
    have hs := rl_shut b o (y.ask (y.holders n.core)) s r (a1, c1) hs rfl ⟨rfl, rfl⟩ ⟨rfl, rfl⟩ ⟨rfl, rfl⟩
    exact hk _ _ hs.to
  · rw [if_neg (show ¬ y.holders n.core ≠ [] from fun e => e (List.eq_nil_of_length_eq_zero (by omega)))] at hk
    have hs1 := rl_shut b o y s r w hs rfl ⟨rfl, rfl⟩ ⟨rfl, rfl⟩ ⟨rfl, rfl⟩
    refine b42_14 (r_padd (r_ld hs rfl (r_eqI (r_br (fun h2 => ?_) (fun h2 => ?_)))))
    · rw [if_pos (show n.kind = 0 from h2)] at hk
      exact hk _ _ (notes0 hs1).to
    · rw [if_neg (show ¬ n.kind = 0 from h2)] at hk
      exact grant_rok (L := L) (by omega) hs1.to hk
theorem begin_r5 {may : Bool} (hl : y.sh.length < 2 ^ 29) (h3 : n.kind ≠ 3) (hs : Hs G h (seg p 0 n.enc :: rlR b o y :: L)) (hk : ∀ v h', Hs G h' (notesR v (y.begun n may).2 :: rlR b o (y.begun n may).1 :: L) → Q (.tuple ⟨[v, I 0]⟩) h') : A42_5 Q (.bool may) (pt b o 0) (pt p 0 0) h := by
  unfold RLn.begun at hk
  rw [if_neg h3] at hk
  have two : ¬ (n.kind ≠ 0 ∧ may = false) → (n.kind = 1 → A42_9 Q (pt b o 0) (pt p 0 0) h) ∧ (n.kind ≠ 1 → A42_10 Q (pt b o 0) (pt p 0 0) h) := fun hn => by
    rw [if_neg hn] at hk
    refine ⟨fun h1 => ?_, fun h1 => ?_⟩
    · rw [if_pos h1] at hk
      exact begin_r9 hl hs hk
    · rw [if_neg h1] at hk
      exact begin_r10 hl hs hk
  refine b42_5 (r_padd (r_ld hs rfl (r_neI (r_br (fun h0 => r_not (r_brn (r_brb (fun hm => b42_8 ?_) (fun hm => ?_)))) (fun h0 => ?_)))))
  · have := two (by rw [hm]; simp)
    exact r_padd (r_ld hs rfl (r_eqI (r_br this.1 this.2)))
  · rw [if_pos ⟨h0, hm⟩] at hk
    obtain ⟨s2, r2, w2, hs⟩ := rl_open hs.at2
    refine note_rok (y := y) (s := s2) (r := r2) (w := w2) hs rfl fun h hs => r_fill (c := (y.noteR 9).enc) rfl (r_newS hs rfl rfl rfl ?_)
    intro a h hs
    have hs := notes1 (n := y.noteR 9) rfl hs
    have hs := rl_shut b o y s2 r2 w2 hs rfl ⟨rfl, rfl⟩ ⟨rfl, rfl⟩ ⟨rfl, rfl⟩
    exact hk _ _ hs.to
  · have := two (fun e => h0 e.1)
    exact r_padd (r_ld hs rfl (r_eqI (r_br this.1 this.2)))
theorem begin_r2 {may : Bool} {ow : Int} (hb : y.busy = false) (hl : y.sh.length < 2 ^ 29) (hrl : y.row.length < 2 ^ 29) (hs : Hs G h (rlR b o y :: L)) (hk : ∀ v h', Hs G h' (notesR v (y.begin may ow).2.1 :: rlR b o (y.begin may ow).1 :: L) → Q (.tuple ⟨[v, I (y.begin may ow).2.2]⟩) h') : A42_2 Q (.bool may) (I ow) (pt b o 0) h := by
  unfold RLn.begin at hk
  rw [if_neg (by rw [hb]; simp)] at hk
  have hs0 := hs
  obtain ⟨s, r, w, hs⟩ := rl_open hs
  cases hw : y.row with
  | nil =>
    rw [hw] at hk
    refine b42_2 (r_nilP (r_padd (r_ld hs rfl (r_lenS (r_eqI (r_brT (by rw [hw]; rfl) ?_))))))
    exact hk _ _ (notes0 hs0)
  | cons n ns =>
    rw [hw] at hk
    dsimp only at hk
    have hlen : y.row.length = ns.length + 1 := by rw [hw]; rfl
    refine b42_2 (r_nilP (r_padd (r_ld hs rfl (r_lenS (r_eqI (r_brF (by omega) (b42_3 ?_)))))))
    obtain ⟨r1, r2⟩ := r
    have hsr : Hs G h (slc 9 38 r1 r2 (y.row.length, encNs y.row) :: L) := hs.to
    obtain ⟨bb, oo, hr1, hs2⟩ := hsr.holeOpen (by omega)
    subst hr1
    refine r_nilP (r_padd (r_ld hs rfl (r_idxN (i := 0) (by omega) ?_)))
    have e0 : pt bb (oo + 0 * 9) 0 = pt bb oo 0 := by simp [pt]
    rw [e0]
    refine r_ldN hs2 (by decide) (l := n.enc) (by rw [hw]; simp [encNs, Note.enc]) rfl ?_
    clear hsr hs2
    refine r_nilP (r_padd (r_sto hs rfl rfl rfl rfl ?_))
    intro h hs
    refine r_nilP (r_padd (r_ld hs rfl ?_))
    have hsl : Hs G h (slc 9 38 (some ⟨bb, oo, none⟩) r2 (ns.length + 1, encNs y.row) :: seg b o (setL (RLn.enc y s (some ⟨bb, oo, none⟩, r2) w) (0 + 3) n.enc) :: slc 1 3 s.1 s.2 (y.sh.length, y.sh.map I) :: slc 1 3 w.1 w.2 (y.aw.length, y.aw.map I) :: L) := by
      rw [← hlen]; exact hs.to
    rw [hlen]
    refine r_slTail (e := 38) (W := 9) (a := some ⟨bb, oo, none⟩) (c := r2) (cs := encNs y.row) hsl ?_
    intro a2 c2 hs
    have hdrop : (encNs y.row).drop 9 = encNs ns := by rw [hw]; simp [encNs, Note.enc]
    rw [hdrop] at hs
    have hs := slc_nil (W := 9) (e := 38) hs
    refine r_appS (hs.front2 (slc 9 38 none 0 (0, [])) (slc 9 38 a2 c2 (ns.length, encNs ns))) (by omega) ?_
    intro a4 c4 h hs
    dsimp only
    rw [Nat.zero_add, List.nil_append] at hs
    rw [Nat.zero_add]
    refine r_nilP (r_padd (r_sto hs rfl rfl rfl rfl ?_))
    intro h hs
    refine r_nilP (r_padd (r_sto hs rfl rfl rfl rfl ?_))
    intro h hs
    refine r_nilP (r_padd (r_ldN hs (by decide) (l := n.enc) rfl rfl (r_new hs ?_)))
    intro p h hs
    refine r_stW hs rfl rfl rfl rfl ?_
    intro h hs
    have hs1 := rl_shut b o (y.serve n ns ow) s (a4, c4) w hs rfl ⟨rfl, rfl⟩ ⟨rfl, rfl⟩ ⟨rfl, rfl⟩
    have hs1 : Hs G h (seg p 0 n.enc :: rlR b o (y.serve n ns ow) :: L) := hs1.to
    refine r_padd (r_ld hs1 rfl (r_eqI (r_br (fun h3 => ?_) (fun h3 => ?_))))
    · have h3 : n.kind = 3 := h3
      unfold RLn.begun at hk
      rw [if_pos h3] at hk
      exact begin_r4 (y := y.serve n ns ow) hl hs1 hk
    · exact begin_r5 (y := y.serve n ns ow) hl h3 hs1 hk
end
theorem begin_rok {hb : Nat} {R : Nat → RLn} {l ow : Int} {may : Bool} {Q : Value → AH → Prop} (hB : RBd R) (hs : Hs G h (rhR G hb R :: L)) (hk : ∀ v h', Hs G h' (notesR v (rBegin R l may ow).2.1 :: rhR G hb (rBegin R l may ow).1 :: L) → Q (.tuple ⟨[v, I (rBegin R l may ow).2.2]⟩) h') : Cl Pr K 42 [pt hb 0 0, I l, .bool may, I ow] h Q := by
  unfold rBegin at hk
  have hs0 := hs
  refine c42 (b42_0 (r_ltI (r_br (fun h1 => ?_) (fun h1 => ?_))))
  · rw [if_neg (by omega)] at hk
    exact hk _ _ (notes0 hs)
  obtain ⟨b, o, cap, hs⟩ := rh_open hs
  refine r_nilP (r_padd (r_ld hs rfl (r_lenS (r_geI (r_br (fun h2 => ?_) (fun h2 => ?_))))))
  · rw [if_neg (by omega)] at hk
    exact hk _ _ (notes0 hs0)
  rw [if_pos (by omega)] at hk
  obtain ⟨k, rfl⟩ := Int.eq_ofNat_of_zero_le (show 0 ≤ l by omega)
  have hl : k < 4 := by omega
  rw [Int.toNat_natCast] at hk
  obtain ⟨b1, b2, b3⟩ := hB k hl
  clear hs
  obtain ⟨b, o, cap, hs⟩ := rh_out hl hs0
  have hsl := hs
  obtain ⟨s, r, w, hs⟩ := rl_open hs
  refine b42_1 (r_nilP (r_padd (r_ld hs rfl (r_idxN hl (r_nilP (r_padd (r_ld hs rfl (r_brb (fun h3 => ?_) (fun h3 => ?_)))))))))
  · unfold RLn.begin at hk
    rw [if_pos h3] at hk
    simp only [updA_self] at hk
    exact hk _ _ (notes0 hs0)
  · exact begin_r2 h3 b1 b2 hsl (fun v h hs => hk v h (rh_in hb R k ((R k).begin may ow).1 b o cap hl hs).to)
def zE : List Value := RLn.enc RLn.zero (none, 0) (none, 0) (none, 0)
theorem zerosA_succ {z : List Value} {n : Nat} : zerosA z (n + 1) = zerosA z n ++ z := by
  unfold zerosA
  rw [List.replicate_succ', List.flatten_append]; simp
theorem refNew_ok {Q : Value → AH → Prop} (hs : Hs G h L) (hk : ∀ hb h', Hs G h' (rhR G hb (fun _ => RLn.zero) :: L) → Q (pt hb 0 0) h') : Cl Pr K 22 [I 3, I 4] h Q := by
  refine c22 (b22_0 (r_fill (c := [I 3, .slice none 0 0]) rfl (r_bx hs ?_)))
  intro hb h hs
  have loop : ∀ (f i : Nat) (a : Option Addr) (c : Nat) (g : HP) (h : AH), i + f = 4 → Hs G h (slc 21 99 a c (i, zerosA zE i) :: seg hb 0 [I 3, .slice a i c] :: g :: L) → A22_1 Q (I 4) (pt hb 0 0) (I i) h := by
    intro f
    induction f with
    | zero =>
      intro i a c g h hi hs
      have : i = 4 := by omega
      subst this
      refine b22_1 (r_ltI (r_brF (by omega) ?_))
      obtain ⟨b, o, rfl, hs⟩ := hs.newBig (z := zE) rfl (by decide)
      have hs : Hs G h (seg b (o + 0 * 21) zE :: seg b (o + 1 * 21) zE :: seg b (o + 2 * 21) zE :: seg b (o + 3 * 21) zE :: hole G 21 99 (some ⟨b, o, none⟩) c 4 b o :: seg hb 0 [I 3, .slice (some ⟨b, o, none⟩) 4 c] :: g :: L) := Hs.unpack (A := [seg b (o + 0 * 21) zE, seg b (o + 1 * 21) zE, seg b (o + 2 * 21) zE, seg b (o + 3 * 21) zE]) hs
      have one : ∀ {o : Nat} {M : List HP}, Hs G h (seg b o zE :: M) → Hs G h (rlR b o RLn.zero :: M) := fun {o M} hs => by
        have hs := slc_nil (W := 1) (e := 3) (slc_nil (W := 9) (e := 38) (slc_nil (W := 1) (e := 3) hs))
        exact Hs.exI (A := fun x : SA × SA × SA => sp (rlP b o RLn.zero x)) ((none, 0), (none, 0), (none, 0)) (Hs.pack (A := rlP b o RLn.zero ((none, 0), (none, 0), (none, 0))) (show Hs G h (seg b o zE :: slc 1 3 none 0 (0, []) :: slc 9 38 none 0 (0, []) :: slc 1 3 none 0 (0, []) :: M) from hs.to))
      have hs := one hs
      have hs := one (hs.front (seg b (o + 1 * 21) zE))
      have hs := one (hs.front (seg b (o + 2 * 21) zE))
      have hs := one (hs.front (seg b (o + 3 * 21) zE))
      have hs := hs.sg (b := hb) (o := 0) (c := rhE b o c) rfl
      have hs : Hs G h (rlR b (o + 0 * 21) RLn.zero :: rlR b (o + 1 * 21) RLn.zero :: rlR b (o + 2 * 21) RLn.zero :: rlR b (o + 3 * 21) RLn.zero :: seg hb 0 (rhE b o c) :: hole G 21 99 (some ⟨b, o, none⟩) c 4 b o :: L) := hs.to
      have hs : Hs G h (big 4 (fun i => rlR b (o + i * 21) ((fun _ => RLn.zero) i)) :: seg hb 0 (rhE b o c) :: hole G 21 99 (some ⟨b, o, none⟩) c 4 b o :: L) := Hs.pack (A := [rlR b (o + 0 * 21) RLn.zero, rlR b (o + 1 * 21) RLn.zero, rlR b (o + 2 * 21) RLn.zero, rlR b (o + 3 * 21) RLn.zero]) hs
      exact hk _ _ (rh_close (b := b) (o := o) (cap := c) hs.to)
    | succ f ih =>
      intro i a c g h hi hs
      refine b22_1 (r_ltI (r_brT (by omega) (b22_2 ?_)))
      refine r_nilP (r_padd (r_ld hs rfl (r_fill (c := zE) rfl (r_fill (c := zE) rfl (r_newS hs rfl rfl rfl ?_)))))
      intro a3 h hs
      refine r_appS (hs.front2 (slc 21 99 a c (i, zerosA zE i)) (slc 21 99 (some a3) 1 (1, zE))) (by omega) ?_
      intro a4 c4 h hs
      dsimp only
      refine r_nilP (r_padd (r_sto hs rfl rfl rfl rfl ?_))
      intro h hs
      refine r_addI (by omega) ?_
      rw [← zerosA_succ] at hs
      exact ih (i + 1) a4 c4 (sp [slc 21 99 (some a3) 1 (1, zE), g]) h (by omega) (hs.sg (b := hb) (o := 0) (c := [I 3, .slice a4 (i + 1) c4]) rfl).to
  refine loop 4 0 none 0 (sp []) h (by omega) ?_
  have hs := slc_nil (W := 21) (e := 99) hs
  exact (show Hs G h (slc 21 99 none 0 (0, zerosA zE 0) :: _) from hs).to
end Go.Proofs.YtagcnlaofkfpjaaDoor
end
section
namespace Go.Proofs.YtagcnlaofkfpjaaDoor
open Go Go.Ab Go.Hm
def opn (r : Row) : Bool := !r.busy && decide (0 < r.waits.length)
def openF (H : Hom) : Nat → Nat → List Nat
  | 0, _ => []
  | f + 1, i => if opn (H i).1 then i :: openF H f (i + 1) else openF H f (i + 1)
theorem openF_len {H : Hom} : ∀ (f i : Nat), (openF H f i).length ≤ f := by
  intro f
  induction f with
  | zero => intro i; simp [openF]
  | succ f ih => intro i; have := ih (i + 1); unfold openF; split <;> simp <;> omega
def opA (G : Bg) (hb p : Nat) (C : Cfg) (H : Hom) : HP := sp [seg p 0 [pt hb 0 0], homR G hb C H]
attribute [local irreducible] thn Br ld1 ldN stV alc alcAt alcS alcSAt resv padd nilV extV part1 partN lenS lenT biI biT biB biP biS biF biE biA unV idxS idxA pickV appV copyV clearV slS slA slT mkS blkOf at1 atN atS convI convS minV maxV Cl OkF OkR EndX endV beginV defersOf setLoop closeMarks
variable {G : Bg} {h : AH} {L L' : List HP}
theorem open_y {hb p : Nat} {C : Cfg} {H : Hom} (hC : C.lines < 2 ^ 40) : Yds Pr K G 61 [] [pt p 0 0] (opA G hb p C H) ((openF H C.lines 0).map fun (c : Nat) => [I c]) := by
  intro I' J y L h Q hs hy h1 h2
  refine c61 (b61_0 ?_)
  have hs0 := hs
  obtain ⟨mb, b, o, cap, hs⟩ := hom_open (hs.unpack.front (homR G hb C H))
  refine r_ld hs rfl (r_ptEq (r_brf (b61_1 (r_ld hs rfl (r_nilP (r_padd (r_ld hs rfl (r_lenS ?_))))))))
  have loop : ∀ (f i : Nat) (h : AH), i + f = C.lines → Hs G h (I' ((openF H f i).map fun (c : Nat) => [I c]) :: seg p 0 [pt hb 0 0] :: seg hb 0 (homE mb C b o cap) :: memN G C.lines mb C (fun i => (H i).2) :: hole G 25 73 (some ⟨b, o, none⟩) cap C.lines b o :: big C.lines (fun i => rowR b (o + i * 25) (H i).1) :: L) →
      A61_2 Q y (.slice (some ⟨b, o, none⟩) C.lines cap) (I C.lines) (I i) h := by
    intro f
    induction f with
    | zero =>
      intro i h hi hs
      refine b61_2 (r_ltI (r_brF (by omega) (h1 _ _ ?_)))
      have hs := hom_end C H hb mb b o cap hs
      have hs : Hs G h ([seg p 0 [pt hb 0 0], homR G hb C H] ++ (I' [] :: L)) := (show Hs G h (homR G hb C H :: I' [] :: seg p 0 [pt hb 0 0] :: L) from hs).to
      exact Hs.pack hs
    | succ f ih =>
      intro i h hi hs
      have hl : i < C.lines := by omega
      obtain ⟨wa, wc, hsr⟩ := rowR_open (row_out (H := H) (b := b) (o := o) hl hs)
      refine b61_2 (r_ltI (r_brT (by omega) (b61_3 (r_idxN hl (r_ldN hsr (by decide) (l := (H i).1.enc wa wc) rfl rfl (r_new hs ?_))))))
      intro p3 h hs
      refine r_stW hs rfl rfl rfl rfl ?_
      intro h hs
      rw [openF] at hs
      have hs1 := hs.tail
      have skip : opn (H i).1 = false → thn (biI .add (I i) (I 1)) fun v => A61_2 Q y (.slice (some ⟨b, o, none⟩) C.lines cap) (I C.lines) v h := fun hn => by
        rw [if_neg (by rw [hn]; simp)] at hs1
        exact r_addI (by omega) (ih (i + 1) h (by omega) hs1)
      refine r_padd (r_ld hs rfl (r_not (r_brn (r_brb (fun hb1 => skip (by unfold opn; rw [hb1]; rfl)) (fun hb1 => ?_)))))
      refine r_padd (r_ld hs rfl (r_lenS (r_gtI (r_br (fun hw => ?_) (fun hw => skip (by unfold opn; rw [decide_eq_false (by omega)]; simp))))))
      rw [if_pos (by unfold opn; rw [hb1, decide_eq_true (by omega)]; rfl)] at hs1
      refine (hy _ _ h _ hs1).mono fun v h' hv => ?_
      rcases hv with ⟨rfl, hs⟩ | ⟨rfl, hs⟩
      · exact r_not (r_brf (b61_4 (r_addI (by omega) (ih (i + 1) h' (by omega) hs))))
      · refine r_not (r_brt (h2 _ _ ?_))
        have hs := hom_end C H hb mb b o cap hs
        have hs : Hs G h' ([seg p 0 [pt hb 0 0], homR G hb C H] ++ (J :: L)) := (show Hs G h' (homR G hb C H :: J :: seg p 0 [pt hb 0 0] :: L) from hs).to
        exact Hs.pack hs
  exact loop C.lines 0 h (by omega) hs.to
def rdX (p1 l d : Nat) (e : Nat → Value) (done : List Nat) : HP := exH fun x : SA => sp [lpT Pr 43 (dcd 58) 14 e d l (.ready, none), seg p1 0 [.slice x.1 done.length x.2], slc 1 3 x.1 x.2 (done.length, (natsI done).map I)]
theorem ready_ok {hb : Nat} {C : Cfg} {H : Hom} {Q : Value → AH → Prop} (hC : C.lines < 2 ^ 40) (hs : Hs G h L) [m : Has (homR G hb C) L H L']
    (hk : ∀ p a c h', Hs G h' (valR 3 p a c (natsI (openF H C.lines 0)) :: homR G hb C H :: L') → Q (.func (.func 60) #[] #[pt p 0 0]) h') : Cl Pr K 43 [pt hb 0 0] h Q := by
  have hs := m.of hs
  have hol : (openF H C.lines 0).length ≤ C.lines := openF_len _ _
  refine c43 (b43_0 (r_new hs fun p1 h hs => ?_))
  refine c58 (b58_0 (r_bx hs fun p h hs => ?_))
  refine r_marks hs fun d h hs => ?_
  intro e he
  refine r_loop hs fun l h hs => ?_
  refine r_okR (by kernel_rfl) ?_
  have hs := slc_nil (W := 1) (e := 3) hs
  have hs : Hs G h ([lpT Pr 43 (dcd 58) 14 e d l (.ready, none), seg p1 0 [.slice none 0 0], slc 1 3 none 0 (0, [])] ++ (seg p 0 [pt hb 0 0] :: homR G hb C H :: mk d () :: L')) := hs.to
  have hs : Hs G h (rdX p1 l d e [] :: seg p 0 [pt hb 0 0] :: homR G hb C H :: mk d () :: L') := Hs.exI (A := fun x : SA => sp [lpT Pr 43 (dcd 58) 14 e d l (.ready, none), seg p1 0 [.slice x.1 ([] : List Nat).length x.2], slc 1 3 x.1 x.2 (([] : List Nat).length, (natsI []).map I)]) (none, 0) (Hs.pack hs)
  have hs : Hs G h (opA G hb p C H :: rdX p1 l d e [] :: mk d () :: L') := Hs.pack (A := [seg p 0 [pt hb 0 0], homR G hb C H]) (show Hs G h ([seg p 0 [pt hb 0 0], homR G hb C H] ++ (rdX p1 l d e [] :: mk d () :: L')) from hs.to)
  refine Yds.fold (open_y (G := G) (hb := hb) (p := p) (C := C) (H := H) hC) (X := rdX p1 l d e) (Z := fun _ _ => puH False) hs ?_ ?_ ?_
  · intro done x h M hp hs
    have hdl : done.length < C.lines := by
      have := hp.length_le
      simp at this; omega
    obtain ⟨⟨a, c⟩, hs⟩ := hs.exE
    have hs := hs.unpack
    refine r43_0 (r_atv hs) he (b43_1 ?_)
    refine r_beginv hs fun h hs => r_ld hs rfl (r_fill (c := [I x]) rfl (r_newS hs rfl rfl rfl ?_))
    intro a3 h hs
    refine r_appS (hs.front2 (slc 1 3 a c (done.length, (natsI done).map I)) (slc 1 3 (some a3) 1 (1, [I x]))) (by omega) ?_
    intro a4 c4 h hs
    dsimp only
    refine r_stW hs rfl rfl rfl rfl ?_
    intro h hs
    refine r_setv hs ?_
    intro h hs
    refine .inl ⟨rfl, ?_⟩
    have hl : (done ++ [x]).length = done.length + 1 := by simp
    have hn : (natsI (done ++ [x])).map I = (natsI done).map I ++ [I x] := by simp [natsI]
    refine Hs.exI (A := fun x' : SA => sp [lpT Pr 43 (dcd 58) 14 e d l (.ready, none), seg p1 0 [.slice x'.1 (done ++ [x]).length x'.2], slc 1 3 x'.1 x'.2 ((done ++ [x]).length, (natsI (done ++ [x])).map I)]) (a4, c4) ?_
    rw [hl, hn]
    exact hs.to
  · intro v h' hs
    obtain ⟨⟨a, c⟩, hs⟩ := hs.at2.exE
    have hs := hs.unpack
    refine r_endv hs fun h' hs => r_endN ?_
    refine r_ld hs rfl ?_
    refine values_ok (e := 3) (a := a) (c := c) (xs := natsI (openF H C.lines 0)) (by simp [natsI]) hs fun pv h hs => ?_
    refine r_cm1 hs fun h hs => r_cm0 ?_
    have hs := hs.front (opA G hb p C H)
    have hs := Hs.unpack (A := [seg p 0 [pt hb 0 0], homR G hb C H]) hs
    exact hk pv a c h hs.to
  · intro done x v h' hp hs
    exact (Hs.puE (hs.at2)).1.elim
end Go.Proofs.YtagcnlaofkfpjaaDoor
end
section
namespace Go.Proofs.YtagcnlaofkfpjaaDoor
open Go Go.Ab Go.Hm
theorem r_fnEq {f : Fn} {a b : Array Value} {k : Value → Prop} (hk : k (.bool false)) : thn (biF .eql (.func f a b) .nilFunc) k := ⟨_, by simp [biF, eqn], hk⟩
theorem r_neBs {b : Bool} {k : Value → Prop} (hk : k (.bool false)) : thn (biB .neq (.bool b) (.bool b)) k := ⟨_, by simp [biB, eqn], hk⟩
def askM (R : Nat → RLn) (l : Int) (j : Int → Int → Int × Bool) : Bool × Int :=
  if 0 ≤ l ∧ l < 4 then (match (R l.toNat).row with | [] => (true, 0) | n :: _ => ((j n.world l).2, (j n.world l).1)) else (true, 0)
def rAns (R : Nat → RLn) (o : Op) (j : Int → Int → Int × Bool) : (Nat → RLn) × List Note × Int :=
  if o.ask = 0 then rTake R o.n else if o.ask = 1 then ((rSweep R o.line).1, [], (rSweep R o.line).2) else rBegin R o.line (askM R o.line j).1 (askM R o.line j).2
structure PInv (H : Hom) (R : Nat → RLn) (i : Nat) : Prop where
  a : AInv H i
  r : ∀ k, k < 4 → RRel k (H k) (R k) ∧ (R k).sh.length ≤ 2 * i ∧ (R k).aw.length ≤ 4
theorem PInv.bd {H : Hom} {R : Nat → RLn} {i : Nat} (h : PInv H R i) (hi : i ≤ 1000) : RBd R := fun l hl => by
  obtain ⟨h1, h2, h3⟩ := h.r l hl
  have := (h.a l hl).2
  have e := congrArg List.length h1.row
  rw [List.length_map] at e
  omega
theorem wo_len {l : List Int} {c : Int} : (wo l c).length ≤ l.length := List.length_filter_le _ _
theorem grant_bd {y : RLn} : y.grant.sh.length ≤ y.sh.length + 1 ∧ y.grant.aw = y.aw := by
  unfold RLn.grant
  split
  · refine ⟨?_, rfl⟩
    show (wo y.sh y.now.core ++ [y.now.core]).length ≤ _
    have := wo_len (l := y.sh) (c := y.now.core)
    simp; omega
  · exact ⟨by show ([] : List Int).length ≤ _; simp, rfl⟩
theorem heard_bd {y : RLn} {n : Note} : (y.heard n).sh.length ≤ y.sh.length + 1 ∧ (y.heard n).aw.length ≤ y.aw.length := by
  have h1 := wo_len (l := y.sh) (c := n.core)
  have h2 := wo_len (l := y.aw) (c := n.core)
  unfold RLn.heard
  split
  · unfold RLn.heardD
    have : ((y.heard1 n).heardS n).sh.length ≤ y.sh.length + 1 ∧ ((y.heard1 n).heardS n).aw.length ≤ y.aw.length := by
      unfold RLn.heardS
      split
      · refine ⟨?_, h2⟩
        show (if n.state = 1 ∨ n.state = 2 ∨ n.state = 4 then wo y.sh n.core ++ [n.core] else wo y.sh n.core).length ≤ _
        split
        · simp; omega
        · omega
      · exact ⟨Nat.le_succ _, h2⟩
    split
    · exact this
    · exact this
  · unfold RLn.keep
    split
    · exact ⟨Nat.le_succ_of_le h1, h2⟩
    · exact ⟨Nat.le_succ_of_le h1, h2⟩
theorem take_bd {y : RLn} {n : Note} : (y.take n).1.sh.length ≤ y.sh.length + 2 ∧ (y.take n).1.aw.length ≤ y.aw.length := by
  unfold RLn.take
  split
  · split
    · exact ⟨Nat.le_add_right _ _, Nat.le_refl _⟩
    · exact ⟨Nat.le_add_right _ _, Nat.le_refl _⟩
  · split
    · split
      · obtain ⟨a, b⟩ := heard_bd (y := y) (n := n)
        unfold RLn.rest
        split
        · exact ⟨Nat.le_succ_of_le a, b⟩
        · split
          · exact ⟨Nat.le_succ_of_le a, b⟩
          · obtain ⟨c, d⟩ := grant_bd (y := y.heard n)
            exact ⟨by simp only; omega, by simp only [d]; exact b⟩
      · exact ⟨Nat.le_add_right _ _, Nat.le_refl _⟩
    · exact ⟨Nat.le_add_right _ _, Nat.le_refl _⟩
theorem holders_len4 {y : RLn} {x : Int} : (y.holders x).length ≤ 4 := by
  have : ∀ (f i : Nat), (y.holdersF x f i).length ≤ f := by
    intro f
    induction f with
    | zero => intro i; simp [RLn.holdersF]
    | succ f ih => intro i; have := ih (i + 1); unfold RLn.holdersF; split <;> simp <;> omega
  exact this 4 0
theorem begun_bd {y : RLn} {n : Note} {may : Bool} (h : y.aw.length ≤ 4) : (y.begun n may).1.sh.length ≤ y.sh.length + 1 ∧ (y.begun n may).1.aw.length ≤ 4 := by
  unfold RLn.begun
  split
  · exact ⟨Nat.le_succ_of_le wo_len, h⟩
  · split
    · exact ⟨Nat.le_succ _, h⟩
    · split
      · have hu : (y.unown n.core).sh = y.sh ∧ (y.unown n.core).aw = y.aw := by unfold RLn.unown; split <;> exact ⟨rfl, rfl⟩
        unfold RLn.getS
        split
        · exact ⟨by show (y.unown n.core).sh.length ≤ _; rw [hu.1]; omega, by show ([_] : List Int).length ≤ 4; simp⟩
        · obtain ⟨c, d⟩ := grant_bd (y := y.unown n.core)
          rw [hu.1] at c
          exact ⟨c, by rw [d, hu.2]; exact h⟩
      · unfold RLn.getM
        split
        · exact ⟨Nat.le_succ _, holders_len4⟩
        · split
          · exact ⟨Nat.le_succ _, h⟩
          · obtain ⟨c, d⟩ := grant_bd (y := y)
            exact ⟨c, by rw [d]; exact h⟩
theorem begin_bd {y : RLn} {may : Bool} {ow : Int} (h : y.aw.length ≤ 4) : (y.begin may ow).1.sh.length ≤ y.sh.length + 1 ∧ (y.begin may ow).1.aw.length ≤ 4 := by
  unfold RLn.begin
  split
  · exact ⟨Nat.le_succ _, h⟩
  · split
    · exact ⟨Nat.le_succ _, h⟩
    · exact begun_bd (y := y.serve _ _ ow) h
theorem upd_rel {H : Hom} {R : Nat → RLn} {i l : Nat} {x : Lin} {y : RLn} (h : PInv H R i) (h1 : RRel l x y) (h2 : y.sh.length ≤ 2 * (i + 1)) (h3 : y.aw.length ≤ 4) : ∀ k, k < 4 → RRel k (updA H l x k) (updA R l y k) ∧ (updA R l y k).sh.length ≤ 2 * (i + 1) ∧ (updA R l y k).aw.length ≤ 4 := by
  intro k hk
  by_cases e : k = l
  · subst e
    rw [updA_same, updA_same]; exact ⟨h1, h2, h3⟩
  · rw [updA_ne e, updA_ne e]
    obtain ⟨a, b, c⟩ := h.r k hk
    exact ⟨a, by omega, c⟩
theorem same_rel {H : Hom} {R : Nat → RLn} {i : Nat} (h : PInv H R i) : ∀ k, k < 4 → RRel k (H k) (R k) ∧ (R k).sh.length ≤ 2 * (i + 1) ∧ (R k).aw.length ≤ 4 := fun k hk => by
  obtain ⟨a, b, c⟩ := h.r k hk
  exact ⟨a, by omega, c⟩
theorem ans_rel {H : Hom} {R : Nat → RLn} {i : Nat} {o : Op} {j : Int → Int → Int × Bool} (h : PInv H R i) : PInv (homAns C0 H o j).1 (rAns R o j).1 (i + 1) ∧ (homAns C0 H o j).2 = (rAns R o j).2 := by
  suffices hh : (∀ k, k < 4 → RRel k ((homAns C0 H o j).1 k) ((rAns R o j).1 k) ∧ ((rAns R o j).1 k).sh.length ≤ 2 * (i + 1) ∧ ((rAns R o j).1 k).aw.length ≤ 4) ∧ (homAns C0 H o j).2 = (rAns R o j).2 from ⟨⟨ans_inv h.a, hh.1⟩, hh.2⟩
  unfold homAns rAns
  by_cases h0 : o.ask = 0
  · rw [if_pos h0, if_pos h0]
    unfold homTake rTake
    by_cases ht : takes o.n.kind
    · rw [if_neg (show ¬ ¬ takes o.n.kind from fun e => e ht), if_neg (show ¬ ¬ takes o.n.kind from fun e => e ht)]
      by_cases hc : (0 ≤ o.n.core ∧ o.n.core < 3) ∧ (0 ≤ o.n.line ∧ o.n.line < 4)
      · rw [if_pos (show (0 ≤ o.n.core ∧ o.n.core < C0.cores) ∧ C0.has o.n.line from hc), if_pos hc]
        obtain ⟨l, hl⟩ := Int.eq_ofNat_of_zero_le hc.2.1
        have e : o.n.line.toNat = l := by omega
        have hl4 : l < 4 := by omega
        rw [e, hl]
        obtain ⟨r1, r2, r3⟩ := h.r l hl4
        obtain ⟨t1, t2⟩ := take_rel (n := o.n) r1 (h.a l hl4).1 ⟨hc.1.1, by omega⟩ hl ht
        obtain ⟨b1, b2⟩ := take_bd (y := R l) (n := o.n)
        exact ⟨upd_rel h t1 (by omega) (by omega), t2⟩
      · rw [if_neg (show ¬ ((0 ≤ o.n.core ∧ o.n.core < C0.cores) ∧ C0.has o.n.line) from hc), if_neg hc]
        exact ⟨same_rel h, rfl⟩
    · rw [if_pos ht, if_pos ht]
      exact ⟨same_rel h, rfl⟩
  · rw [if_neg h0, if_neg h0]
    by_cases h1 : o.ask = 1
    · rw [if_pos h1, if_pos h1]
      unfold homSweep rSweep
      by_cases hc : 0 ≤ o.line ∧ o.line < 4
      · rw [if_pos (show C0.has o.line from hc), if_pos hc]
        obtain ⟨l, hl⟩ := Int.eq_ofNat_of_zero_le hc.1
        have e : o.line.toNat = l := by omega
        have hl4 : l < 4 := by omega
        rw [e, hl]
        obtain ⟨r1, r2, r3⟩ := h.r l hl4
        exact ⟨upd_rel h (sweep_rel r1) (show (R l).sh.length ≤ _ by omega) r3, rfl⟩
      · rw [if_neg (show ¬ C0.has o.line from hc), if_neg hc]
        exact ⟨same_rel h, rfl⟩
    · rw [if_neg h1, if_neg h1]
      unfold homBegin rBegin
      by_cases hc : 0 ≤ o.line ∧ o.line < 4
      · rw [if_pos (show C0.has o.line from hc), if_pos hc]
        obtain ⟨l, hl⟩ := Int.eq_ofNat_of_zero_le hc.1
        have e : o.line.toNat = l := by omega
        have hl4 : l < 4 := by omega
        obtain ⟨r1, r2, r3⟩ := h.r l hl4
        have hm : ∀ n w, (H l).1.waits = n :: w → n.kind = 1 ∨ n.kind = 2 → ((askM R o.line j).2, (askM R o.line j).1) = (fun w => j w o.line) n.world := fun n w hw _ => by
          have er := r1.row
          rw [hw, List.map_cons] at er
          unfold askM
          rw [if_pos hc, e, er]
          have : n.face.world = n.world := by unfold Note.face; split <;> rfl
          simp only [this]
        obtain ⟨t1, t2⟩ := begin_rel (j := fun w => j w o.line) (may := (askM R o.line j).1) (ow := (askM R o.line j).2) r1 (h.a l hl4).1 hm
        obtain ⟨b1, b2⟩ := begin_bd (y := R l) (may := (askM R o.line j).1) (ow := (askM R o.line j).2) r3
        rw [e]
        have e2 : ((l : Nat) : Int) = o.line := hl.symm
        rw [e2] at t1 t2
        exact ⟨upd_rel h t1 (by omega) b2, t2⟩
      · rw [if_neg (show ¬ C0.has o.line from hc), if_neg hc]
        exact ⟨same_rel h, rfl⟩
theorem PInv0 : PInv (homM C0.lines) (fun _ => RLn.zero) 0 := ⟨AInv0, fun k hk => by
  have : homM C0.lines k = (row0, (0, 0)) := by unfold homM; rw [if_pos (show k < C0.lines from hk)]
  rw [this]
  exact ⟨RRel0 k, by simp [RLn.zero], by simp [RLn.zero]⟩⟩
attribute [local irreducible] thn Br ld1 ldN stV alc alcAt alcS alcSAt resv padd nilV extV part1 partN lenS lenT biI biT biB biP biS biF biE biA unV idxS idxA pickV appV copyV clearV slS slA slT mkS blkOf at1 atN atS convI convS minV maxV Cl OkF OkR EndX endV beginV defersOf setLoop closeMarks
variable {G : Bg} {h : AH} {L L' : List HP}
section
variable {hb rb : Nat} {bits : Int} {H : Hom} {R : Nat → RLn} {Q : Value → AH → Prop} {i : Nat} {o : Op} {j : Int → Int → Int × Bool}
/-- the two lists of notes are one, the codes too -/
theorem does_end {v w : Value} {H' : Hom} {R' : Nat → RLn} {ns : List Note} {c : Int} (hlen : ns.length < 2 ^ 40) (hs : Hs G h (notesR v ns :: notesR w ns :: L)) (hk : ∀ h', Hs G h' L → Q (.bool true) h') :
    Cl Pr K 18 [v, w] h fun x h => Br x (thn (biI .eql (I c) (I c)) fun y => Q y h) (Q (.bool false) h) :=
  notes_same hlen hs fun h hs => r_brt (r_eqI (by rw [decide_eq_true rfl]; exact hk h hs.tail.tail))
theorem does_ok (hlim : Ob G 0 limE) (hj : Judges (.iface 24 (.agg ⟨[I bits]⟩)) (mayJ bits)) (hi : i ≤ 900) (hP : PInv H R i) (hs : Hs G h (homR G hb C0 H :: rhR G rb R :: L))
    (hk : ∀ h', Hs G h' (homR G hb C0 (homAns C0 H o (mayJ bits)).1 :: rhR G rb (rAns R o (mayJ bits)).1 :: L) → Q (.bool true) h') : Cl Pr K 23 [pt hb 0 0, pt rb 0 0, .agg ⟨o.enc⟩, .agg ⟨[I bits]⟩] h Q := by
  have hB := hP.bd (by omega)
  have hA := hP.a.h 1000 (by omega)
  have hR := (ans_rel (o := o) (j := mayJ bits) hP).2
  have hlen : (homAns C0 H o (mayJ bits)).2.1.length < 2 ^ 40 := by have := ans_len (A := H) (o := o) (j := mayJ bits); omega
  refine c23 (b23_0 (r_bx hs fun p2 h hs => r_bx hs fun p5 h hs => ?_))
  unfold homAns at hk hR hlen
  unfold rAns at hk hR
  refine r_padd (r_ld hs rfl (r_eqI (r_br (fun h1 => b23_1 ?_) (fun h1 => b23_2 (r_eqI (r_br (fun h2 => ?_) (fun h2 => b23_3 ?_)))))))
  · rw [if_pos h1] at hk hR hlen
    rw [if_pos h1] at hk hR
    refine r_padd (r_ldN hs (by decide) (l := o.n.enc) rfl rfl (take_ok C0_ok hlim (fun l hl => ⟨(hA l hl).1, by have := (hA l hl).2; omega⟩) hs fun v h hs => ?_))
    refine r_ext rfl (r_ext rfl (r_padd (r_ldN hs (by decide) (l := o.n.enc) rfl rfl (take_rok (R := R) (L := notesR v (homTake C0 H o.n).2.1 :: homR G hb C0 (homTake C0 H o.n).1 :: seg p5 0 [I bits] :: seg p2 0 o.enc :: L) hB hs.to fun w h hs => ?_))))
    refine r_ext rfl (r_ext rfl ?_)
    have e1 := congrArg Prod.fst hR
    have e2 := congrArg Prod.snd hR
    rw [← e1] at hs
    rw [← e2]
    exact does_end (H' := H) (R' := R) (L := homR G hb C0 (homTake C0 H o.n).1 :: rhR G rb (rTake R o.n).1 :: L) hlen hs.to hk
  · rw [if_neg h1, if_pos h2] at hk hR
    rw [if_neg h1, if_pos h2] at hk hR
    refine r_resv hs fun rv h hs => ?_
    have hs0 := hs
    refine r_padd (r_ld hs rfl (sweep_ok (C := C0) (fun l hl => ⟨(hA l hl).1, by have := (hA l hl).2; omega⟩) hs fun h hs => ?_))
    refine r_padd (r_ld hs rfl (sweep_rok (R := R) (L := homR G hb C0 (homSweep C0 H o.line).1 :: frK rv (10, []) :: seg p5 0 [I bits] :: seg p2 0 o.enc :: L) hB hs.to fun h hs => ?_))
    have e2 := congrArg Prod.snd hR
    dsimp only at e2
    rw [← e2]
    refine r_eqI (r_fl veq_P (r_fl (r_padd veq_P) (r_fl (r_ld hs0 rfl veq_I) ?_)))
    rw [decide_eq_true rfl]
    exact hk h hs.to
  · rw [if_neg h1, if_neg h2] at hk hR hlen
    rw [if_neg h1, if_neg h2] at hk hR
    refine r_resv hs fun rv h hs => ?_
    have e1 := congrArg Prod.fst hR
    have e2 := congrArg Prod.snd hR
    have hs0 : Hs G h (homR G hb C0 H :: rhR G rb R :: seg p5 0 [I bits] :: seg p2 0 o.enc :: L) := hs.to
    clear hs
    have hs := hs0
    obtain ⟨b, o', cap, hsr⟩ := rh_open (hs.front (rhR G rb R))
    refine r_padd (r_ld hs rfl (r_geI (r_br (fun g1 => r_padd (r_ld hs rfl (r_nilP (r_padd (r_ld hsr rfl (r_lenS (r_ltI (r_br (fun g2 => ?_) (fun g2 => ?_))))))))) (fun g1 => ?_))))
    · have hc : 0 ≤ o.line ∧ o.line < 4 := ⟨g1, g2⟩
      obtain ⟨l, hl⟩ := Int.eq_ofNat_of_zero_le hc.1
      have hl4 : l < 4 := by omega
      have el : o.line.toNat = l := by omega
      obtain ⟨B1, B2, B3⟩ := hB l hl4
      obtain ⟨b2, o2, cap2, hsl⟩ := rh_out hl4 (hs.front (rhR G rb R))
      obtain ⟨s, r, w, hsl⟩ := rl_open hsl
      have hld : ∀ k : Value → Prop, k (I l) → thn (ld1 h (pt p2 0 (0 + 10))) k := fun k hk => r_ld hs (v := I l) (by rw [← hl]; rfl) hk
      refine r_nilP (r_padd (r_ld hsl rfl (r_padd (hld _ (r_idxN hl4 (r_padd (r_ld hsl rfl (r_lenS (r_gtI (r_br (fun g3 => b23_4 ?_) (fun g3 => ?_)))))))))))
      · cases hw : (R l).row with
        | nil => rw [hw] at g3; simp at g3
        | cons n ns =>
          have hlen2 : (R l).row.length = ns.length + 1 := by rw [hw]; rfl
          refine r_resv hs fun rv2 h hs => ?_
          have hs1 : Hs G h (homR G hb C0 H :: rhR G rb R :: seg p5 0 [I bits] :: seg p2 0 o.enc :: L) := hs.to
          clear hs hsl hsr hld hs0
          have hs := hs1
          obtain ⟨b2, o2, cap2, hsl⟩ := rh_out hl4 (hs.front (rhR G rb R))
          obtain ⟨s, r, w, hsl⟩ := rl_open hsl
          obtain ⟨r1, r2⟩ := r
          obtain ⟨bb, oo, hr1, hsn⟩ := (hsl.front (slc 9 38 r1 r2 ((R l).row.length, encNs (R l).row))).holeOpen (by omega)
          subst hr1
          have hld : ∀ k : Value → Prop, k (I l) → thn (ld1 h (pt p2 0 (0 + 10))) k := fun k hk => r_ld hs (v := I l) (by rw [← hl]; rfl) hk
          have hcell : (encNs (R l).row)[3]? = some (I n.world) := by rw [hw]; simp [encNs, Note.enc]
          refine r_ldN hs (by decide) (l := [I bits]) rfl rfl (r_nilP (r_padd (r_ld hsl rfl (r_padd (hld _ (r_idxN hl4 (r_padd (r_ld hsl rfl (r_idxN (i := 0) (by omega) (r_padd ?_))))))))))
          have e0 : pt bb (oo + 0 * 9) (0 + 3) = pt bb oo 3 := by simp [pt]
          rw [e0]
          refine r_ld hsn hcell (r_padd (hld _ (may_ok hs fun h hs => r_ext rfl (r_ext rfl ?_))))
          have hm : ((mayJ bits n.world l).2, (mayJ bits n.world l).1) = askM R o.line (mayJ bits) := by
            unfold askM; rw [if_pos hc, el, hw, hl]
          clear hsl hsn hld
          have hp := True.intro
          refine r_padd (r_ld hs rfl (r_ldN hs (by decide) (l := [I bits]) rfl rfl (begin_ok C0_ok hlim hj (N := 1000) hA hs fun v h hs => ?_)))
          refine r_ext rfl (r_ext rfl (r_padd (r_ld hs rfl (begin_rok (R := R) (L := notesR v (homBegin C0 H o.line (fun w => mayJ bits w o.line)).2.1 :: homR G hb C0 (homBegin C0 H o.line (fun w => mayJ bits w o.line)).1 :: L) hB hs.to fun w h hs => ?_))))
          refine r_ext rfl (r_ext rfl ?_)
          rw [← hm] at e1 e2 hk
          rw [← e1] at hs
          rw [← e2]
          exact does_end (H' := H) (R' := R) (L := homR G hb C0 (homBegin C0 H o.line (fun w => mayJ bits w o.line)).1 :: rhR G rb (rBegin R o.line (mayJ bits n.world l).2 (mayJ bits n.world l).1).1 :: L) hlen hs.to hk
      · have hw : (R l).row = [] := List.eq_nil_of_length_eq_zero (by omega)
        have hm : (true, (0 : Int)) = askM R o.line (mayJ bits) := by unfold askM; rw [if_pos hc, el, hw]
        refine b23_5 ?_
        clear hsl hsr hld hs0
        refine r_padd (r_ld hs rfl (r_ldN hs (by decide) (l := [I bits]) rfl rfl (begin_ok C0_ok hlim hj (N := 1000) hA hs fun v h hs => ?_)))
        refine r_ext rfl (r_ext rfl (r_padd (r_ld hs rfl (begin_rok (R := R) (L := notesR v (homBegin C0 H o.line (fun w => mayJ bits w o.line)).2.1 :: homR G hb C0 (homBegin C0 H o.line (fun w => mayJ bits w o.line)).1 :: L) hB hs.to fun w h hs => ?_))))
        refine r_ext rfl (r_ext rfl ?_)
        rw [← hm] at e1 e2 hk
        rw [← e1] at hs
        rw [← e2]
        exact does_end (H' := H) (R' := R) (L := homR G hb C0 (homBegin C0 H o.line (fun w => mayJ bits w o.line)).1 :: rhR G rb (rBegin R o.line true 0).1 :: L) hlen hs.to hk
    all_goals
      have hm : (true, (0 : Int)) = askM R o.line (mayJ bits) := by unfold askM; rw [if_neg (by omega)]
      clear hsr hs0
      refine r_padd (r_ld hs rfl (r_ldN hs (by decide) (l := [I bits]) rfl rfl (begin_ok C0_ok hlim hj (N := 1000) hA hs fun v h hs => ?_)))
      refine r_ext rfl (r_ext rfl (r_padd (r_ld hs rfl (begin_rok (R := R) (L := notesR v (homBegin C0 H o.line (fun w => mayJ bits w o.line)).2.1 :: homR G hb C0 (homBegin C0 H o.line (fun w => mayJ bits w o.line)).1 :: L) hB hs.to fun w h hs => ?_))))
      refine r_ext rfl (r_ext rfl ?_)
      rw [← hm] at e1 e2 hk
      rw [← e1] at hs
      rw [← e2]
      exact does_end (H' := H) (R' := R) (L := homR G hb C0 (homBegin C0 H o.line (fun w => mayJ bits w o.line)).1 :: rhR G rb (rBegin R o.line true 0).1 :: L) hlen hs.to hk
end
end Go.Proofs.YtagcnlaofkfpjaaDoor
end
section
namespace Go.Proofs.YtagcnlaofkfpjaaDoor
open Go Go.Ab Go.Hm
attribute [local irreducible] thn Br ld1 ldN stV alc alcAt alcS alcSAt resv padd nilV extV part1 partN lenS lenT biI biT biB biP biS biF biE biA unV idxS idxA pickV appV copyV clearV slS slA slT mkS blkOf at1 atN atS convI convS minV maxV Cl OkF OkR EndX endV beginV defersOf setLoop closeMarks
variable {G : Bg} {h : AH} {L L' : List HP}
def rgX (p6 l d : Nat) (e : Nat → Value) (done : List Int) : HP := exH fun x : SA => sp [lpT Pr 24 (dcd 250) 167 e d l (.ready, none), seg p6 0 [.slice x.1 done.length x.2], slc 1 3 x.1 x.2 (done.length, done.map I)]
section
variable {hb rb t4 p6 d : Nat} {H : Hom} {R : Nat → RLn} {Q : Value → AH → Prop} {n : Nat} {ra : Option Addr} {rc : Nat}
def smL (G : Bg) (hb rb t4 p6 d : Nat) (H : Hom) (R : Nat → RLn) (ra : Option Addr) (rc : Nat) (al wl : List Nat) (a8 : Option Addr) (c8 : Nat) : List HP :=
  [homR G hb C0 H, rhR G rb R, seg t4 0 [.bool false], seg p6 0 [.slice ra al.length rc], slc 1 3 ra rc (al.length, (natsI al).map I), slc 1 3 a8 c8 (wl.length, (natsI wl).map I), mk d ()]
theorem smI {al wl : List Nat} {a8 : Option Addr} {c8 : Nat} (hs : Hs G h L') [k : Sub L' (homR G hb C0 H :: rhR G rb R :: seg t4 0 [.bool false] :: seg p6 0 [.slice ra al.length rc] :: slc 1 3 ra rc (al.length, (natsI al).map I) :: slc 1 3 a8 c8 (wl.length, (natsI wl).map I) :: mk d () :: L)] :
    Hs G h (smL G hb rb t4 p6 d H R ra rc al wl a8 c8 ++ (sp [] :: L)) := by
  have hs : Hs G h (homR G hb C0 H :: rhR G rb R :: seg t4 0 [.bool false] :: seg p6 0 [.slice ra al.length rc] :: slc 1 3 ra rc (al.length, (natsI al).map I) :: slc 1 3 a8 c8 (wl.length, (natsI wl).map I) :: mk d () :: L) := hs.to
  exact (show Hs G h (homR G hb C0 H :: rhR G rb R :: seg t4 0 [.bool false] :: seg p6 0 [.slice ra al.length rc] :: slc 1 3 ra rc (al.length, (natsI al).map I) :: slc 1 3 a8 c8 (wl.length, (natsI wl).map I) :: mk d () :: sp [] :: L) from hs.to)
theorem same_end {g : HP} {al : List Nat} {a8 : Option Addr} {c8 : Nat} (hal : al.length ≤ 4) (hlim : Ob G 0 limE) (hw : ∀ l, l < 4 → (H l).1.waits.length < 2 ^ 40) (hs : Hs G h (smL G hb rb t4 p6 d H R ra rc al al a8 c8 ++ (g :: L)))
    (hk : ∀ h', Hs G h' (homR G hb C0 H :: rhR G rb R :: L) → Q (.bool true) h') : A24_5 [d] Q (pt hb 0 0) (pt rb 0 0) (pt t4 0 0) (pt p6 0 0) (.slice a8 al.length c8) h := by
  have hs : Hs G h (homR G hb C0 H :: rhR G rb R :: seg t4 0 [.bool false] :: seg p6 0 [.slice ra al.length rc] :: slc 1 3 ra rc (al.length, (natsI al).map I) :: slc 1 3 a8 c8 (al.length, (natsI al).map I) :: mk d () :: g :: L) := hs
  have hno4 : ¬ C0.has 4 := fun e => by have := e.2; revert this; decide
  have hno4' : ¬ C0.has ((4 : Nat) : Int) := hno4
  have hno1 : ¬ C0.has (-1) := fun e => by have := e.1; omega
  obtain ⟨b, o, cap, hsr⟩ := rh_open (hs.front (rhR G rb R))
  refine b24_5 (r_nilP (r_padd (r_ld hsr rfl (r_lenS ?_))))
  refine who_ok (C := C0) (H := H) hs fun v h hs => ?_
  have e4 : homWho C0 H 4 = (0, [], 10) := by unfold homWho; rw [if_neg hno4]
  rw [show ((4 : Nat) : Int) = 4 from rfl] at hs ⊢
  rw [e4] at hs ⊢
  refine r_ext rfl (r_ext rfl (r_ext rfl (r_ld hs rfl ?_)))
  have hl : (natsI al).length = al.length := by simp [natsI]
  have hs : Hs G h (slc 1 3 ra rc (al.length, (natsI al).map I) :: slc 1 3 a8 c8 (al.length, (natsI al).map I) :: homR G hb C0 H :: rhR G rb R :: seg t4 0 [.bool false] :: mk d () :: L) := hs.to
  have hs := intsI (e := 3) (l := natsI al) hl.symm rfl (intsI (e := 3) (l := natsI al) hl.symm rfl hs).at2
  refine ints_same (by rw [hl]; omega) hs.at2 fun h hs => r_brt (r_eqI (r_brT rfl ?_))
  clear hsr
  refine busy_ok (C := C0) (H := H) hs fun hs => ?_
  rw [show homBusy C0 H (-1) = false by unfold homBusy; rw [decide_eq_false hno1]; rfl]
  obtain ⟨b, o, cap, hsr⟩ := rh_open (hs.front (rhR G rb R))
  refine r_not (r_brt (r_nilP (r_padd (r_ld hsr rfl (r_lenS ?_)))))
  refine waits_ok (C := C0) (H := H) hs fun hs => ?_
  rw [show homWaits C0 H ((4 : Nat) : Int) = 0 by unfold homWaits; rw [if_neg hno4']]
  refine r_eqI (r_brT rfl (sweeps_ok (C := C0) hw hs fun h hs => ?_))
  rw [show homSweeps C0 H (-1) = 0 by unfold homSweeps; rw [if_neg hno1]]
  refine r_eqI (r_stW hs rfl rfl rfl rfl fun h hs => ?_)
  refine r_cm1 hs fun h hs => r_cm0 (r_ld hs rfl ?_)
  exact hk h hs.to
theorem same_loop {i0 : Nat} (hi0 : i0 ≤ 900) (hP : PInv H R i0) (hlim : Ob G 0 limE) (hk : ∀ h', Hs G h' (homR G hb C0 H :: rhR G rb R :: L) → Q (.bool true) h') : ∀ (f i : Nat) (wl : List Nat) (a8 : Option Addr) (c8 : Nat) (g : HP) (h : AH), i + f = 4 → wl ++ openF H f i = openF H 4 0 →
      Hs G h (smL G hb rb t4 p6 d H R ra rc (openF H 4 0) wl a8 c8 ++ (g :: L)) → A24_3 [d] Q (pt hb 0 0) (pt rb 0 0) (pt t4 0 0) (pt p6 0 0) (.slice a8 wl.length c8) (I i) h := by
  have hw : ∀ l, l < 4 → (H l).1.waits.length < 2 ^ 40 := fun l hl => by have := (hP.a l hl).2; omega
  have hB := hP.bd (by omega)
  have hal := openF_len (H := H) 4 0
  intro f
  induction f with
  | zero =>
    intro i wl a8 c8 g h hi he hs
    have he : wl = openF H 4 0 := by simpa [openF] using he
    subst he
    have hs0 : Hs G h (homR G hb C0 H :: rhR G rb R :: seg t4 0 [.bool false] :: seg p6 0 [.slice ra (openF H 4 0).length rc] :: slc 1 3 ra rc ((openF H 4 0).length, (natsI (openF H 4 0)).map I) :: slc 1 3 a8 c8 ((openF H 4 0).length, (natsI (openF H 4 0)).map I) :: mk d () :: g :: L) := hs
    obtain ⟨b, o, cap, hsr⟩ := rh_open (hs0.front (rhR G rb R))
    exact b24_3 (r_nilP (r_padd (r_ld hsr rfl (r_lenS (r_ltI (r_brF (by omega) (same_end hal hlim hw hs hk)))))))
  | succ f ih =>
    intro i wl a8 c8 g h hi he hs
    have hl4 : i < 4 := by omega
    have hwl : wl.length ≤ 4 := by
      have := congrArg List.length he
      rw [List.length_append] at this; omega
    have hs : Hs G h (homR G hb C0 H :: rhR G rb R :: seg t4 0 [.bool false] :: seg p6 0 [.slice ra (openF H 4 0).length rc] :: slc 1 3 ra rc ((openF H 4 0).length, (natsI (openF H 4 0)).map I) :: slc 1 3 a8 c8 (wl.length, (natsI wl).map I) :: mk d () :: g :: L) := hs
    obtain ⟨rel, B1, B2⟩ := hP.r i hl4
    obtain ⟨b, o, cap, hsr⟩ := rh_out hl4 (hs.front (rhR G rb R))
    obtain ⟨s, r, w, hsr⟩ := rl_open hsr
    have hhas : C0.has (i : Int) := ⟨by omega, by show (i : Int) < 4; omega⟩
    have hwho : homWho C0 H i = ((H i).1.owner, (H i).1.sharers, 0) := by unfold homWho; rw [if_pos hhas]; rfl
    have hbz : homBusy C0 H i = (H i).1.busy := by unfold homBusy; rw [decide_eq_true hhas]; simp
    have hwt : homWaits C0 H i = ((H i).1.waits.length : Int) := by unfold homWaits; rw [if_pos hhas]; rfl
    have hsw : homSweeps C0 H i = (H i).1.sw := by unfold homSweeps; rw [if_pos hhas]; rfl
    have hrow : (R i).row.length = (H i).1.waits.length := by rw [rel.row, List.length_map]
    refine b24_3 (r_nilP (r_padd (r_ld hsr rfl (r_lenS (r_ltI (r_brT (by omega) (b24_4 (r_nilP (r_padd (r_ld hsr rfl (r_idxN hl4 (r_ldN hsr (by decide) (l := RLn.enc (R i) s r w) rfl rfl (r_new hs ?_)))))))))))))
    clear hsr
    intro px h hs
    refine r_stW hs rfl rfl rfl rfl ?_
    intro h hs
    rw [openF] at he
    refine r_padd (r_ld hs rfl (r_not (r_brn (r_brb (fun hb1 => ?_) (fun hb1 => r_padd (r_ld hs rfl (r_lenS (r_gtI (r_br (fun hb2 => b24_6 ?_) (fun hb2 => b24_7 ?_))))))))))
    rotate_left
    · have ho : opn (H i).1 = true := by unfold opn; rw [← rel.busy, hb1, decide_eq_true (by omega)]; rfl
      rw [if_pos ho] at he
      refine r_fill (c := [I i]) rfl (r_newS hs rfl rfl rfl ?_)
      intro a3 h hs
      refine r_appS (hs.front2 (slc 1 3 a8 c8 (wl.length, (natsI wl).map I)) (slc 1 3 (some a3) 1 (1, [I i]))) (by omega) ?_
      intro a4 c4 h hs
      dsimp only
      have he : (wl ++ [i]) ++ openF H f (i + 1) = openF H 4 0 := by rw [← he]; simp
      have e1 : wl.length + 1 = (wl ++ [i]).length := by simp
      have e2 : (natsI wl).map I ++ [I i] = (natsI (wl ++ [i])).map I := by simp [natsI]
      rw [e1, e2] at hs
      rw [e1]
      generalize wl ++ [i] = wl at he hs
      refine who_ok (C := C0) (H := H) hs fun v h hs => ?_
      rw [hwho] at hs ⊢
      dsimp only at hs ⊢
      refine r_ext rfl (r_ext rfl (r_ext rfl ?_))
      obtain ⟨sa, sc, hv, hq⟩ := intsE hs
      clear hs
      subst hv
      have hs := intsI (e := 3) (l := natsI (H i).1.sharers) rfl rfl hq
      clear hq
      have hsl : (natsI (H i).1.sharers).length < 2 ^ 40 := by
        have := sharersF_len (r := (H i).1) 4 0
        simp only [natsI, List.length_map]
        show (H i).1.sharers.length < _
        unfold Row.sharers; omega
      obtain ⟨mb, b2, o2, cap2, hs⟩ := hom_open (hs.front (homR G hb C0 H))
      refine r_nilP (r_padd (r_ld hs rfl (read_ok (C := C0) C0_ok hlim hs hl4 fun h hs => ?_)))
      have hs := hom_end C0 H hb mb b2 o2 cap2 hs
      refine r_ext rfl (r_ext rfl (r_new hs ?_))
      intro pm h hs
      refine r_stW hs rfl rfl rfl rfl ?_
      intro h hs
      refine r_resv hs ?_
      intro rv h hs
      refine r_neI (r_brF (by omega) (r_neI (r_brF (by omega) (r_padd (r_ld hs rfl (r_neI (r_brF (fun e => e rel.owner.symm) ?_)))))))
      refine sharers_rok hl4 hB (hs.front (rhR G rb R)) fun w h hs => ?_
      rw [show (R i).sharers = natsI (H i).1.sharers from sharers_rel rel] at hs
      have hs := hs.front2 (intsR 3 (.slice sa (natsI (H i).1.sharers).length sc) (natsI (H i).1.sharers)) (intsR 3 w (natsI (H i).1.sharers))
      refine ints_same hsl hs fun h hs => r_not (r_brf (r_ldN hs (by decide) (l := lnE (H i).2) rfl rfl (r_padd (r_ldN hs (by decide) (l := lnE (R i).mem) rfl rfl ?_))))
      rw [rel.mem]
      have hs9 := hs
      refine neA2 (r_brf (busy_ok (C := C0) (H := H) hs fun hs => ?_))
      rw [hbz]
      refine r_padd (r_ld hs rfl ?_)
      rw [rel.busy]
      refine r_neBs (r_brf (waits_ok (C := C0) (H := H) hs fun hs => ?_))
      rw [hwt]
      refine r_padd (r_ld hs rfl (r_lenS (r_neI (r_brF (by omega) ?_))))
      refine sweeps_ok (C := C0) (H := H) hw hs fun h hs => ?_
      rw [hsw]
      refine sweeps_rok hl4 hB (hs.front (rhR G rb R)) ?_
      rw [sw_rel rel]
      refine r_neI (r_fl veq_S (r_fl (r_padd veq_P) (r_fl (r_ld hs9 rfl (by rw [rel.busy]; exact veq_B)) (r_fl (r_padd veq_P) (r_fl (r_ld hs9 rfl veq_S) (r_fl (r_lenS veq_I) (r_fl veq_P (r_fl veq_I (r_brF (by omega) ?_)))))))))
      exact b24_8 (r_addI (by omega) (ih (i + 1) wl _ _ (sp []) h (by omega) he (smI hs)))
    all_goals
      have ho : opn (H i).1 = false := by
        unfold opn
        first
          | (rw [← rel.busy, hb1]; rfl)
          | (rw [decide_eq_false (by omega)]; simp)
      rw [if_neg (by rw [ho]; simp)] at he
      have a4 := a8
      refine who_ok (C := C0) (H := H) hs fun v h hs => ?_
      rw [hwho] at hs ⊢
      dsimp only at hs ⊢
      refine r_ext rfl (r_ext rfl (r_ext rfl ?_))
      obtain ⟨sa, sc, hv, hq⟩ := intsE hs
      clear hs
      subst hv
      have hs := intsI (e := 3) (l := natsI (H i).1.sharers) rfl rfl hq
      clear hq
      have hsl : (natsI (H i).1.sharers).length < 2 ^ 40 := by
        have := sharersF_len (r := (H i).1) 4 0
        simp only [natsI, List.length_map]
        show (H i).1.sharers.length < _
        unfold Row.sharers; omega
      obtain ⟨mb, b2, o2, cap2, hs⟩ := hom_open (hs.front (homR G hb C0 H))
      refine r_nilP (r_padd (r_ld hs rfl (read_ok (C := C0) C0_ok hlim hs hl4 fun h hs => ?_)))
      have hs := hom_end C0 H hb mb b2 o2 cap2 hs
      refine r_ext rfl (r_ext rfl (r_new hs ?_))
      intro pm h hs
      refine r_stW hs rfl rfl rfl rfl ?_
      intro h hs
      refine r_resv hs ?_
      intro rv h hs
      refine r_neI (r_brF (by omega) (r_neI (r_brF (by omega) (r_padd (r_ld hs rfl (r_neI (r_brF (fun e => e rel.owner.symm) ?_)))))))
      refine sharers_rok hl4 hB (hs.front (rhR G rb R)) fun w h hs => ?_
      rw [show (R i).sharers = natsI (H i).1.sharers from sharers_rel rel] at hs
      have hs := hs.front2 (intsR 3 (.slice sa (natsI (H i).1.sharers).length sc) (natsI (H i).1.sharers)) (intsR 3 w (natsI (H i).1.sharers))
      refine ints_same hsl hs fun h hs => r_not (r_brf (r_ldN hs (by decide) (l := lnE (H i).2) rfl rfl (r_padd (r_ldN hs (by decide) (l := lnE (R i).mem) rfl rfl ?_))))
      rw [rel.mem]
      have hs9 := hs
      refine neA2 (r_brf (busy_ok (C := C0) (H := H) hs fun hs => ?_))
      rw [hbz]
      refine r_padd (r_ld hs rfl ?_)
      rw [rel.busy]
      refine r_neBs (r_brf (waits_ok (C := C0) (H := H) hs fun hs => ?_))
      rw [hwt]
      refine r_padd (r_ld hs rfl (r_lenS (r_neI (r_brF (by omega) ?_))))
      refine sweeps_ok (C := C0) (H := H) hw hs fun h hs => ?_
      rw [hsw]
      refine sweeps_rok hl4 hB (hs.front (rhR G rb R)) ?_
      rw [sw_rel rel]
      refine r_neI (r_fl veq_S (r_fl (r_padd veq_P) (r_fl (r_ld hs9 rfl (by rw [rel.busy]; exact veq_B)) (r_fl (r_padd veq_P) (r_fl (r_ld hs9 rfl veq_S) (r_fl (r_lenS veq_I) (r_fl veq_P (r_fl veq_I (r_brF (by omega) ?_)))))))))
      exact b24_8 (r_addI (by omega) (ih (i + 1) wl _ _ (sp []) h (by omega) he (smI hs)))
theorem same_ok {i0 : Nat} (hi0 : i0 ≤ 900) (hP : PInv H R i0) (hlim : Ob G 0 limE) (hs : Hs G h (homR G hb C0 H :: rhR G rb R :: L)) (hk : ∀ h', Hs G h' (homR G hb C0 H :: rhR G rb R :: L) → Q (.bool true) h') : Cl Pr K 24 [pt hb 0 0, pt rb 0 0] h Q := by
  have hal := openF_len (H := H) 4 0
  have hnl : (natsI (openF H 4 0)).length = (openF H 4 0).length := by simp [natsI]
  refine c24 (b24_0 (r_new hs fun t4 h hs => ?_))
  refine ready_ok (C := C0) (H := H) (show (4 : Nat) < 2 ^ 40 by decide) hs fun p a c h hs => ?_
  have hs : Hs G h (valR 3 p a c (natsI (openF H 4 0)) :: homR G hb C0 H :: seg t4 0 [.bool false] :: rhR G rb R :: L) := hs
  refine r_fnEq (r_brf (b24_1 (r_new hs fun p6 h hs => r_marks hs fun d h hs => ?_)))
  intro e he
  refine r_loop hs fun l h hs => ?_
  refine r_okR (by kernel_rfl) ?_
  have hs := slc_nil (W := 1) (e := 3) hs
  have hs : Hs G h ([lpT Pr 24 (dcd 250) 167 e d l (.ready, none), seg p6 0 [.slice none 0 0], slc 1 3 none 0 (0, [])] ++ (valR 3 p a c (natsI (openF H 4 0)) :: homR G hb C0 H :: rhR G rb R :: seg t4 0 [.bool false] :: mk d () :: L)) := hs.to
  have hs : Hs G h (rgX p6 l d e [] :: valR 3 p a c (natsI (openF H 4 0)) :: homR G hb C0 H :: rhR G rb R :: seg t4 0 [.bool false] :: mk d () :: L) := Hs.exI (A := fun x : SA => sp [lpT Pr 24 (dcd 250) 167 e d l (.ready, none), seg p6 0 [.slice x.1 ([] : List Int).length x.2], slc 1 3 x.1 x.2 (([] : List Int).length, ([] : List Int).map I)]) (none, 0) (Hs.pack hs)
  refine Yds.fold (values_y (G := G) (e := 3) (p := p) (a := a) (c := c) (xs := natsI (openF H 4 0)) (by omega)) (X := rgX p6 l d e) (Z := fun _ _ => puH False) hs.at2 ?_ ?_ ?_
  · intro done x h M hp hs
    have hdl : done.length < 4 := by
      have := hp.length_le
      rw [List.length_append, List.length_singleton, hnl] at this; omega
    obtain ⟨⟨a, c⟩, hs⟩ := hs.exE
    have hs := hs.unpack
    refine r24_0 (r_atv hs) he (b24_2 ?_)
    refine r_beginv hs fun h hs => r_ld hs rfl (r_fill (c := [I x]) rfl (r_newS hs rfl rfl rfl ?_))
    intro a3 h hs
    refine r_appS (hs.front2 (slc 1 3 a c (done.length, done.map I)) (slc 1 3 (some a3) 1 (1, [I x]))) (by omega) ?_
    intro a4 c4 h hs
    dsimp only
    refine r_stW hs rfl rfl rfl rfl ?_
    intro h hs
    refine r_ld hs rfl (r_lenS (r_gtI (r_brF (by omega) (r_setv hs ?_))))
    intro h hs
    refine .inl ⟨rfl, ?_⟩
    have hl : (done ++ [x]).length = done.length + 1 := by simp
    have hn : (done ++ [x]).map I = done.map I ++ [I x] := by simp
    refine Hs.exI (A := fun x' : SA => sp [lpT Pr 24 (dcd 250) 167 e d l (.ready, none), seg p6 0 [.slice x'.1 (done ++ [x]).length x'.2], slc 1 3 x'.1 x'.2 ((done ++ [x]).length, (done ++ [x]).map I)]) (a4, c4) ?_
    rw [hl, hn]
    exact hs.to
  · intro v h' hs
    obtain ⟨⟨a2, c2⟩, hs⟩ := hs.at2.exE
    have hs := hs.unpack
    refine r_endv hs fun h' hs => r_endN ?_
    rw [hnl] at hs
    have hs : Hs G h' (seg p6 0 [.slice a2 (openF H 4 0).length c2] :: slc 1 3 a2 c2 ((openF H 4 0).length, (natsI (openF H 4 0)).map I) :: valR 3 p a c (natsI (openF H 4 0)) :: homR G hb C0 H :: rhR G rb R :: seg t4 0 [.bool false] :: mk d () :: L) := hs
    have hs := slc_nil (W := 1) (e := 3) hs
    have hs : Hs G h' (slc 1 3 none 0 (([] : List Nat).length, (natsI []).map I) :: seg p6 0 [.slice a2 (openF H 4 0).length c2] :: slc 1 3 a2 c2 ((openF H 4 0).length, (natsI (openF H 4 0)).map I) :: valR 3 p a c (natsI (openF H 4 0)) :: homR G hb C0 H :: rhR G rb R :: seg t4 0 [.bool false] :: mk d () :: L) := hs
    exact same_loop (L := L) (ra := a2) (rc := c2) hi0 hP hlim hk 4 0 [] none 0 (sp []) h' rfl rfl (smI hs)
  · intro done x v h' hp hs
    exact (Hs.puE (hs.at2)).1.elim
end
theorem plays_loop {t0 : Value} {hb rb p2 : Nat} {bits : Int} {N : Nat} {ops : Nat → Op} {Q : Value → AH → Prop} (hlim : Ob G 0 limE) (hj : Judges (.iface 24 (.agg ⟨[I bits]⟩)) (mayJ bits)) (hN : N ≤ 80) (hold : Old G 11 t0 N fun i => (ops i).enc)
    (hk : ∀ h', Q (.bool true) h') : ∀ (f i : Nat) (h : AH) (H : Hom) (R : Nat → RLn) (g : HP), i + f = N → PInv H R i → Hs G h (homR G hb C0 H :: rhR G rb R :: g :: seg p2 0 [I bits] :: L) →
      A6_2 Q t0 (pt p2 0 0) (pt hb 0 0) (pt rb 0 0) (I i) h := by
  intro f
  induction f with
  | zero =>
    intro i h H R g hi hP hs
    exact b6_2 (old_len hold (r_ltI (r_brF (by omega) (awake_ok (hk _)))))
  | succ f ih =>
    intro i h H R g hi hP hs
    refine b6_2 (old_len hold (r_ltI (r_brT (by omega) (b6_3 (r_resv hs ?_)))))
    intro rv h hs
    refine old_ld hold (by omega) rfl hs (r_ldN hs (by decide) (l := [I bits]) rfl rfl ?_)
    obtain ⟨hP', _⟩ := ans_rel (o := ops i) (j := mayJ bits) hP
    refine does_ok (o := ops i) (L := g :: seg p2 0 [I bits] :: L) hlim hj (show i ≤ 900 by omega) hP hs.to fun h hs => r_not (r_brf ?_)
    refine same_ok (L := g :: seg p2 0 [I bits] :: L) (show i + 1 ≤ 900 by omega) hP' hlim hs fun h hs => r_not (r_brf (b6_4 (r_addI (by omega) ?_)))
    exact ih (i + 1) h _ _ g (by omega) hP' hs
theorem plays_ok {t0 : Value} {bits : Int} {N : Nat} {ops : Nat → Op} {Q : Value → AH → Prop} (hlim : Ob G 0 limE) (hj : Judges (.iface 24 (.agg ⟨[I bits]⟩)) (mayJ bits)) (hold : Old G 11 t0 N fun i => (ops i).enc) (hs : Hs G h L)
    (hk : ∀ h', Q (.bool true) h') : Cl Pr K 6 [t0, .agg ⟨[I bits]⟩] h Q := by
  refine c6 (b6_0 (r_bx hs ?_))
  intro p2 h hs
  refine small_ok hs fun h hs => homeNew_ok C0_ok hlim hs fun hb h hs => ?_
  refine r_ext rfl (r_ext rfl (r_ptEq (r_brf (r_neI (r_brF (by omega) (old_len hold (r_gtI (r_br (fun h1 => ?_) (fun h1 => ?_)))))))))
  · exact r_ptNe (r_brt (r_eqI (r_brT rfl (awake_ok (hk _)))))
  · refine b6_1 (refNew_ok hs fun rb h hs => ?_)
    exact plays_loop (L := L) hlim hj (by omega) hold hk N 0 h (homM C0.lines) (fun _ => RLn.zero) (sp []) (by omega) PInv0 hs.to
end Go.Proofs.YtagcnlaofkfpjaaDoor
end
