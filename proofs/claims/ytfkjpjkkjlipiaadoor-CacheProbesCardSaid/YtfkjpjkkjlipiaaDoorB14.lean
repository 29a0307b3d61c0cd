/- CacheProbes: the law's walk. -/
import Derived.Test.YtfkjpjkkjlipiaaDoorB12
section
namespace Go.Proofs.YtfkjpjkkjlipiaaDoor
open Go Go.Ab Go.Hm Go.Ct
theorem get_cons {a : Int} {t : Th} {l : List Th} : get a (t :: l) = if t.1 = a then some t.2 else get a l := by
  unfold Go.Ct.get
  rw [List.find?_cons]
  by_cases h : t.1 = a <;> simp [h]
theorem get_rem_ne {a b : Int} {l : List Th} (h : a ≠ b) : get a (rem b l) = get a l := by
  induction l with
  | nil => rfl
  | cons t l ih =>
    simp only [rem]
    split
    · rename_i e; rw [get_cons, if_neg (fun e2 => h (by omega))]
    · rw [get_cons, get_cons, ih]
theorem get_app_ne {a b : Int} {x : Cpy} {l : List Th} (h : a ≠ b) : get a (l ++ [(b, x)]) = get a l := by
  induction l with
  | nil => simp only [List.nil_append]; rw [get_cons, if_neg (fun e => h e.symm)]
  | cons t l ih => rw [List.cons_append, get_cons, get_cons, ih]
variable {n ways : Nat} {S : Nat → List Th} {s : Cac} {C : Cfg} {core : Int}
theorem peek_upd_ne {a b : Int} {l : List Th} (hl : get a l = get a (S (setOf n b))) : peekV n (updA S (setOf n b) l) a = peekV n S a := by
  unfold peekV
  by_cases h0 : a < 0
  · rw [if_pos h0, if_pos h0]
  · rw [if_neg h0, if_neg h0]
    by_cases hk : setOf n a = setOf n b
    · rw [hk, updA_same, hl]
    · rw [updA_ne hk]
theorem peek_drop_ne {a b : Int} (h : a ≠ b) : peekV n (dropV n S b) a = peekV n S a := by
  unfold dropV
  split
  · rfl
  · exact peek_upd_ne (get_rem_ne h)
theorem peek_put_ne {a b : Int} {x : Cpy} (h : a ≠ b) : peekV n (putV n ways S b x).1 a = peekV n S a := by
  unfold putV
  split
  · exact peek_upd_ne (get_rem_ne h)
  · exact peek_upd_ne ((get_app_ne h).trans (get_rem_ne h))
theorem peek_drop_eq {a : Int} (hg : ∀ i, GoodL ways (S i)) : (peekV n (dropV n S a) a).2 ≠ 0 := by
  unfold peekV
  split
  · simp
  · rename_i h0
    unfold dropV
    rw [if_neg h0, updA_same, get_not (rem_not (hg _).nd)]
    simp
theorem put_room {a : Int} {x : Cpy} (hg : ∀ i, GoodL ways (S i)) (hp : (peekV n S a).2 = 0) : peekV n (putV n ways S a x).1 a = (x, 0) := by
  have h0 := peek_0 hp
  have hs : (get a (S (setOf n a))).isSome = true := by
    unfold peekV at hp
    rw [if_neg (by omega)] at hp
    cases hgt : get a (S (setOf n a)) with
    | none => rw [hgt] at hp; cases hp
    | some y => rfl
  have hlt : ¬ (rem a (S (setOf n a))).length ≥ ways := by
    rw [rem_len, hs]
    have := (hg (setOf n a)).len
    have : 0 < (S (setOf n a)).length := by
      cases hS : S (setOf n a) with
      | nil => rw [hS] at hs; cases hs
      | cons y l => simp
    simp only [if_true]
    omega
  unfold putV
  rw [if_neg hlt]
  unfold peekV
  rw [if_neg (by omega)]
  dsimp only
  rw [updA_same, get_last (rem_not (hg _).nd)]
/-- what goes back is not there, and is not what was asked for -/
structure Iv (C : Cfg) (s : Cac) : Prop where
  gone : s.gis = true → (peekV C.sets.toNat s.S s.gl).2 ≠ 0
  free : s.gis = true → s.ais = true → s.al ≠ s.gl
theorem iv_new : Iv C Cac.new := ⟨(fun h => by cases h), fun h => by cases h⟩
theorem iv_want (hg : GoodC C s) (h : Iv C s) {l w : Int} {wr : Bool} : Iv C (want C core s l w wr).1 := by
  unfold want
  split
  · exact h
  · split
    · exact h
    · split
      · exact h
      · rename_i h3
        split
        · exact h
        · unfold wantV
          cases hv : victimV C.sets.toNat C.ways.toNat s.S l with
          | none =>
            dsimp only
            exact ⟨h.gone, fun hi _ e => h3 ⟨hi, e.symm⟩⟩
          | some v =>
            dsimp only
            split
            · exact h
            · rename_i h5
              split
              · exact ⟨fun hi => absurd hi h5, fun hi => absurd hi h5⟩
              · refine ⟨fun _ => peek_drop_eq hg.sets, fun _ _ e => ?_⟩
                have e : l = v.1 := e
                unfold victimV at hv
                split at hv
                · cases hv
                · rename_i hgt
                  split at hv
                  · cases hv
                  · have hm := List.mem_of_getElem? hv
                    have := get_some hm
                    rw [← e, hgt] at this
                    cases this
theorem iv_keep {S' : Nat → List Th} {a : Int} (h : Iv C s) (ha : (peekV C.sets.toNat s.S a).2 = 0) (hk : ∀ l, l ≠ a → peekV C.sets.toNat S' l = peekV C.sets.toNat s.S l) : Iv C { s with S := S' } := by
  refine ⟨fun hi => ?_, h.free⟩
  have hne : s.gl ≠ a := fun e => h.gone hi (by rw [e]; exact ha)
  show (peekV C.sets.toNat S' s.gl).2 ≠ 0
  rw [hk _ hne]
  exact h.gone hi
theorem iv_take {nt : Note} (h : Iv C s) : Iv C (takeV C core s nt).1 := by
  unfold takeV
  split
  · split
    · exact h
    · unfold grantV
      split
      · exact h
      · rename_i h1
        split
        · exact h
        · rename_i h2
          have h1 : s.ais = true := by simpa using h1
          have h2 : s.al = nt.line := by simpa using h2
          have key : s.gis = true → (peekV C.sets.toNat (putV C.sets.toNat C.ways.toNat s.S nt.line (grantX C s nt)).1 s.gl).2 ≠ 0 := fun hi => by
            rw [peek_put_ne (fun e => h.free hi h1 (by rw [h2, e]))]
            exact h.gone hi
          split
          · exact ⟨key, h.free⟩
          · exact ⟨key, fun _ e => by cases e⟩
  · split
    · split
      · exact h
      · unfold nackV
        split
        · exact h
        · split
          · exact h
          · exact ⟨h.gone, fun _ e => by cases e⟩
    · split
      · split
        · exact h
        · unfold putAckV
          split
          · exact h
          · split
            · exact h
            · exact ⟨(fun e => by cases e), fun e => by cases e⟩
      · split
        · split
          · exact h
          · unfold probeV
            split
            · exact h
            · split
              · rename_i hp
                refine iv_keep h hp fun l hl => ?_
                split
                · exact peek_drop_ne hl
                · exact peek_put_ne hl
              · split
                · exact h
                · split
                  · exact h
                  · exact ⟨h.gone, h.free⟩
        · exact h
theorem iv_does {o : COp} (hg : GoodC C s) (h : Iv C s) : Iv C (doesV C s o) := by
  unfold doesV
  split
  · exact iv_want hg h
  · split
    · exact iv_take h
    · split
      · unfold readS
        split
        · rename_i hr
          obtain ⟨_, _, hp, _⟩ := reach0 hr
          refine iv_keep h hp fun l hl => ?_
          unfold getV
          rw [if_pos hp, peek_put_ne hl, peek_drop_ne hl]
        · exact h
      · split
        · unfold writeS
          split
          · rename_i hr
            obtain ⟨_, _, hp, _⟩ := reach0 hr
            exact iv_keep h hp fun l hl => peek_put_ne hl
          · exact h
        · exact h
def prN (l st : Int) : Note := ⟨11, 0, l, 0, st, 0, 0, false, 0⟩
theorem shared_twice (x : Int) : sharedS (sharedS x) = sharedS x := by unfold sharedS; repeat' split <;> omega
theorem next_twice (x st : Int) : nextS (nextS x st) st = nextS x st := by
  unfold nextS; split
  · exact shared_twice x
  · rfl
theorem reply_state {x : Cpy} {l st : Int} : (replyN 0 (prN l st) x).state = nextS x.st st := by unfold replyN; split <;> rfl
theorem reply_dirty {x : Cpy} {l st : Int} : (replyN 0 (prN l st) x).dirty = dirtyS x.st := by
  unfold replyN
  split
  · rfl
  · rename_i h
    show false = dirtyS x.st
    unfold ownerS at h
    unfold dirtyS
    have := of_decide_eq_false (by simpa using h : decide (2 ≤ x.st ∧ x.st ≤ 4) = false)
    exact (decide_eq_false (by omega)).symm
theorem dirty_next {x st : Int} (h : dirtyS (nextS x st) = true) : dirtyS x = true := by
  unfold dirtyS at h ⊢
  have := of_decide_eq_true h
  unfold nextS sharedS at this
  refine decide_eq_true ?_
  repeat' split at this
  all_goals omega
theorem take_probe {l st : Int} (hh : hasL C l = true) : takeV C 0 s (prN l st) = probeV C 0 s (prN l st) := by
  unfold takeV prN
  simp [hh]
theorem probe_at {x : Cpy} {l st : Int} (hst : st = 0 ∨ st = 1) (hx : peekV C.sets.toNat s.S l = (x, 0)) : probeV C 0 s (prN l st) = ({ s with S := if nextS x.st st = 0 then dropV C.sets.toNat s.S l else (putV C.sets.toNat C.ways.toNat s.S l { x with st := nextS x.st st }).1 }, [replyN 0 (prN l st) x], 0) := by
  have hns : ¬ ((prN l st).state ≠ 1 ∧ (prN l st).state ≠ 0) := by show ¬ (st ≠ 1 ∧ st ≠ 0); omega
  unfold probeV
  rw [if_neg hns]
  simp only [show peekV C.sets.toNat s.S (prN l st).line = (x, 0) from hx, if_true]
  rfl
/-- one probe, twice -/
structure Twice (C : Cfg) (s : Cac) (l st : Int) (s1 s2 : Cac) (r1 r2 : Note) : Prop where
  one : takeV C 0 s (prN l st) = (s1, [r1], 0)
  two : takeV C 0 s1 (prN l st) = (s2, [r2], 0)
  state : r1.state = r2.state
  dirty : r2.dirty = true → r1.dirty = true
  asked : s2.al = s.al ∧ s2.ais = s.ais
  other : ∀ a, a ≠ l → peekV C.sets.toNat s2.S a = peekV C.sets.toNat s.S a
  here : (peekV C.sets.toNat s.S l).2 = 0 → st = 1 → (peekV C.sets.toNat s2.S l).2 = 0 ∧ (peekV C.sets.toNat s2.S l).1 = { (peekV C.sets.toNat s.S l).1 with st := r1.state } ∧ storeS r1.state = false
  away : ¬ ((peekV C.sets.toNat s.S l).2 = 0 ∧ st = 1) → (peekV C.sets.toNat s2.S l).2 ≠ 0
theorem probe_twice (hg : GoodC C s) (hi : Iv C s) {l st : Int} (hh : hasL C l = true) (hst : st = 0 ∨ st = 1) : ∃ s1 s2 r1 r2, Twice C s l st s1 s2 r1 r2 := by
  have hns : ¬ ((prN l st).state ≠ 1 ∧ (prN l st).state ≠ 0) := by show ¬ (st ≠ 1 ∧ st ≠ 0); omega
  by_cases hp : (peekV C.sets.toNat s.S l).2 = 0
  · have hx := peek_st (n := C.sets.toNat) hg.sets hp
    have e1 : probeV C 0 s (prN l st) = ({ s with S := if nextS (peekV C.sets.toNat s.S l).1.st st = 0 then dropV C.sets.toNat s.S l else (putV C.sets.toNat C.ways.toNat s.S l { (peekV C.sets.toNat s.S l).1 with st := nextS (peekV C.sets.toNat s.S l).1.st st }).1 }, [replyN 0 (prN l st) (peekV C.sets.toNat s.S l).1], 0) := by
      unfold probeV; rw [if_neg hns]; exact if_pos hp
    rcases hst with rfl | rfl
    · have hn : nextS (peekV C.sets.toNat s.S l).1.st 0 = 0 := rfl
      rw [if_pos hn] at e1
      have hp1 : (peekV C.sets.toNat (dropV C.sets.toNat s.S l) l).2 ≠ 0 := peek_drop_eq hg.sets
      have e2 : probeV C 0 { s with S := dropV C.sets.toNat s.S l } (prN l 0) = ({ s with S := dropV C.sets.toNat s.S l }, [⟨5, 0, l, 0, 0, 0, 0, false, 0⟩], 0) := by
        unfold probeV
        rw [if_neg hns]
        refine (if_neg hp1).trans ?_
        by_cases hgi : s.gis = false
        · exact if_pos hgi
        · refine (if_neg hgi).trans (if_pos fun e => ?_)
          exact hi.gone (by simpa using hgi) (by rw [show s.gl = l from e]; exact hp)
      exact ⟨_, _, _, _, ⟨(take_probe hh).trans e1, (take_probe hh).trans e2, reply_state, (fun e => by cases e), ⟨rfl, rfl⟩, fun a ha => peek_drop_ne ha, fun _ e => absurd e (by decide), fun _ => hp1⟩⟩
    · obtain ⟨x, hxe⟩ : ∃ x, x = (peekV C.sets.toNat s.S l).1 := ⟨_, rfl⟩
      rw [← hxe] at e1 hx
      have hn : nextS x.st 1 ≠ 0 := by unfold nextS sharedS; repeat' split
                                       all_goals omega
      rw [if_neg hn] at e1
      have hq := put_room (n := C.sets.toNat) (x := { x with st := nextS x.st 1 }) hg.sets hp
      have hgood : ∀ i, GoodL C.ways.toNat ((putV C.sets.toNat C.ways.toNat s.S l { x with st := nextS x.st 1 }).1 i) := good_put (by have := nextS_bd (x := x.st) (to := 1) (by omega); dsimp only; omega) hg.sets
      generalize hS : (putV C.sets.toNat C.ways.toNat s.S l { x with st := nextS x.st 1 }).1 = S1 at e1 hq hgood
      have hp1 : (peekV C.sets.toNat S1 l).2 = 0 := by rw [hq]
      have e2 : probeV C 0 { s with S := S1 } (prN l 1) = ({ s with S := (putV C.sets.toNat C.ways.toNat S1 l { x with st := nextS x.st 1 }).1 }, [replyN 0 (prN l 1) { x with st := nextS x.st 1 }], 0) := by
        rw [probe_at (s := { s with S := S1 }) (x := { x with st := nextS x.st 1 }) (.inr rfl) hq]
        dsimp only
        rw [next_twice, if_neg hn]
      have hq2 := put_room (n := C.sets.toNat) (x := { x with st := nextS x.st 1 }) hgood hp1
      refine ⟨_, _, _, _, ⟨(take_probe hh).trans e1, (take_probe hh).trans e2, ?_, ?_, ⟨rfl, rfl⟩, ?_, ?_, ?_⟩⟩
      · rw [reply_state, reply_state]; exact (next_twice _ _).symm
      · rw [reply_dirty, reply_dirty]; exact fun h => dirty_next (st := 1) (show dirtyS (nextS x.st 1) = true from h)
      · intro a ha
        show peekV C.sets.toNat (putV C.sets.toNat C.ways.toNat S1 l { x with st := nextS x.st 1 }).1 a = _
        rw [peek_put_ne ha, ← hS, peek_put_ne ha]
      · intro _ _
        show (peekV C.sets.toNat (putV C.sets.toNat C.ways.toNat S1 l { x with st := nextS x.st 1 }).1 l).2 = 0 ∧ (peekV C.sets.toNat (putV C.sets.toNat C.ways.toNat S1 l { x with st := nextS x.st 1 }).1 l).1 = _ ∧ _
        rw [hq2, reply_state, ← hxe]
        refine ⟨rfl, rfl, ?_⟩
        unfold storeS nextS sharedS
        refine decide_eq_false ?_
        repeat' split
        all_goals omega
      · intro hno
        exact absurd ⟨hp, rfl⟩ hno
  · have hno : (peekV C.sets.toNat s.S l).2 = 0 → st = 1 → False := fun e => absurd e hp
    by_cases hgi : s.gis = true ∧ s.gl = l
    · have hbk := hg.back hgi.1
      have hgf : ¬ s.gis = false := by rw [hgi.1]; simp
      have e1 : probeV C 0 s (prN l st) = ({ s with gc := { s.gc with st := nextS s.gc.st st } }, [replyN 0 (prN l st) s.gc], 0) := by
        unfold probeV
        rw [if_neg hns]
        exact (if_neg hp).trans ((if_neg hgf).trans (if_neg fun e => e hgi.2))
      have e2 : probeV C 0 { s with gc := { s.gc with st := nextS s.gc.st st } } (prN l st) = ({ s with gc := { s.gc with st := nextS s.gc.st st } }, [replyN 0 (prN l st) { s.gc with st := nextS s.gc.st st }], 0) := by
        unfold probeV
        rw [if_neg hns]
        refine (if_neg hp).trans ((if_neg hgf).trans ((if_neg fun e => e hgi.2).trans ?_))
        dsimp only [prN]
        rw [next_twice]
      refine ⟨_, _, _, _, ⟨(take_probe hh).trans e1, (take_probe hh).trans e2, ?_, ?_, ⟨rfl, rfl⟩, fun _ _ => rfl, fun a b => (hno a b).elim, fun _ => hp⟩⟩
      · rw [reply_state, reply_state]; exact (next_twice _ _).symm
      · rw [reply_dirty, reply_dirty]; exact fun h => dirty_next (st := st) (show dirtyS (nextS s.gc.st st) = true from h)
    · have e1 : probeV C 0 s (prN l st) = (s, [⟨5, 0, l, 0, 0, 0, 0, false, 0⟩], 0) := by
        unfold probeV
        rw [if_neg hns]
        refine (if_neg hp).trans ?_
        by_cases hgf : s.gis = false
        · exact if_pos hgf
        · exact (if_neg hgf).trans (if_pos fun e => hgi ⟨by simpa using hgf, e⟩)
      exact ⟨_, _, _, _, ⟨(take_probe hh).trans e1, (take_probe hh).trans e1, rfl, fun e => e, ⟨rfl, rfl⟩, fun _ _ => rfl, fun a b => (hno a b).elim, fun _ => hp⟩⟩
end Go.Proofs.YtfkjpjkkjlipiaaDoor
end
section
namespace Go.Proofs.YtfkjpjkkjlipiaaDoor
open Go Go.Ab Go.Hm Go.Ct
theorem r_neC {x : Cpy} {k : Value → Prop} (hk : k (.bool false)) : thn (biA [0, 0, 0, 0] .neq (.agg ⟨x.enc⟩) (.agg ⟨x.enc⟩)) k := ⟨_, by simp [biA, cmpK, cmp1, eqn, Cpy.enc], hk⟩
theorem r_neD {d : Ln} {k : Value → Prop} (hk : k (.bool false)) : thn (biA [0, 0] .neq (.agg ⟨[I d.1, I d.2]⟩) (.agg ⟨[I d.1, I d.2]⟩)) k := ⟨_, by simp [biA, cmpK, cmp1, eqn], hk⟩
theorem r_neBB {a b : Bool} {k : Value → Prop} (hk : k (.bool (a != b))) : thn (biB .neq (.bool a) (.bool b)) k := ⟨_, rfl, hk⟩
attribute [local irreducible] thn Br ld1 ldN stV alc alcAt alcS alcSAt resv padd nilV extV part1 partN lenS lenT biI biT biB biP biS biF biE biA unV idxS idxA pickV appV copyV clearV slS slA slT mkS blkOf at1 atN atS convI convS minV maxV Cl OkF OkR EndX endV beginV defersOf setLoop closeMarks
variable {G : Bg} {h : AH} {L L' M : List HP} {c d : Nat} {a b : Int} {o : COp} {p2 p5 pn : Nat}
theorem probes_12 (s2 s : Cac) {Q : Value → AH → Prop} (h1 : s2.al = s.al) (h2 : s2.ais = s.ais) (hs : Hs G h (cacR G c (Cs a b) 0 s2 :: cacR G d (Cs a b) 0 s :: L)) (hk : ∀ h, Q (.bool true) h) : A3_12 Q (pt c 0 0) (pt d 0 0) h := by
  refine b3_12 (asked_ok (C := Cs a b) (core := 0) (c := c) (s := s2) hs fun h hs => r_ext rfl (r_ext rfl (r_ext rfl ?_)))
  refine asked_ok (C := Cs a b) (core := 0) (c := d) (s := s) hs fun h hs => r_ext rfl (r_ext rfl (r_ext rfl (r_eqI (r_brT h1 (r_eqBB ?_)))))
  rw [h2, beq_self_eq_true]
  exact r_brt (awake_ok (hk _))
theorem probes_10 (hC : (Cs a b).Ok) {st : Int} {s s1 s2 : Cac} {r1 r2 : Note} {Q : Value → AH → Prop} {a1 : Addr} {c1 : Nat} (hb : Bd s) (hb2 : Bd s2) (ho : Ob G 1 rowsE) (ht : Twice (Cs a b) s o.line st s1 s2 r1 r2) (hst : st = 0 ∨ st = 1) (hk : ∀ h, Q (.bool true) h) :
    ∀ (f i : Nat) (h : AH) (M : List HP), i + f = 4 → Hs G h (seg p5 0 o.enc :: seg pn 0 (prN o.line st).enc :: cacR G c (Cs a b) 0 s2 :: cacR G d (Cs a b) 0 s :: slc 9 26 (some a1) c1 (1, r1.enc) :: L) →
      A3_10 Q (pt p5 0 0) (pt c 0 0) (pt d 0 0) (pt pn 0 0) (.slice (some a1) 1 c1) (I i) h := by
  intro f
  induction f with
  | zero =>
    intro i h M hi hs
    exact b3_10 (r_ltI (r_brF (by omega) (probes_12 (a := a) (b := b) s2 s (L := L) ht.asked.1 ht.asked.2 hs.to hk)))
  | succ f ih =>
    intro i h M hi hs
    obtain ⟨t, hs⟩ := cac_open (hs.front (cacR G c (Cs a b) 0 s2))
    refine b3_10 (r_ltI (r_brT (by omega) (b3_11 (r_nilP (r_padd (r_ld (b := c) (o := 0) hs rfl ?_))))))
    refine peek_ok (t := t) (ways := (Cs a b).ways.toNat) (n := (Cs a b).sets.toNat) (S := s2.S) (setsP hC).1 hb2 hs fun h hs => r_ext rfl (r_ext rfl ?_)
    have hs := cac_close c t (Cs a b) 0 s2 hs rfl rfl
    refine r_new hs ?_
    intro px h hs
    refine r_stW hs rfl rfl rfl rfl ?_
    intro h hs
    obtain ⟨t2, hs⟩ := cac_open (hs.front (cacR G d (Cs a b) 0 s))
    refine r_nilP (r_padd (r_ld (b := d) (o := 0) hs rfl ?_))
    refine peek_ok (t := t2) (ways := (Cs a b).ways.toNat) (n := (Cs a b).sets.toNat) (S := s.S) (setsP hC).1 hb hs fun h hs => r_ext rfl (r_ext rfl ?_)
    have hs := cac_close d t2 (Cs a b) 0 s hs rfl rfl
    refine r_new hs ?_
    intro py h hs
    refine r_stW hs rfl rfl rfl rfl ?_
    intro h hs
    have next : ∀ {h : AH}, Hs G h (seg p5 0 o.enc :: seg pn 0 (prN o.line st).enc :: cacR G c (Cs a b) 0 s2 :: cacR G d (Cs a b) 0 s :: slc 9 26 (some a1) c1 (1, r1.enc) :: L) →
        A3_10 Q (pt p5 0 0) (pt c 0 0) (pt d 0 0) (pt pn 0 0) (.slice (some a1) 1 c1) (I ((i : Int) + 1)) h := fun hs => ih (i + 1) _ [] (by omega) hs
    have hs : Hs G h (seg p5 0 o.enc :: seg pn 0 (prN o.line st).enc :: seg px 0 (peekV (Cs a b).sets.toNat s2.S i).1.enc :: seg py 0 (peekV (Cs a b).sets.toNat s.S i).1.enc :: cacR G c (Cs a b) 0 s2 :: cacR G d (Cs a b) 0 s :: slc 9 26 (some a1) c1 (1, r1.enc) :: L) := hs.to
    refine r_padd (r_ld (b := p5) (o := 0) hs rfl (r_neI (r_br (fun hne => ?_) (fun heq => ?_))))
    · have he := ht.other i (by omega)
      rw [he] at hs ⊢
      refine r_ldN (b := px) (o := 0) hs (by decide) (l := (peekV (Cs a b).sets.toNat s.S i).1.enc) rfl rfl (r_ldN (b := py) (o := 0) hs (by decide) (l := (peekV (Cs a b).sets.toNat s.S i).1.enc) rfl rfl (r_neC (r_brf (r_neI (r_brF (by omega) (b3_13 ?_))))))
      refine r_padd (r_ld (b := p5) (o := 0) hs rfl (r_eqI (r_brF (by omega) (r_resv hs ?_))))
      intro rr h hs
      exact r_padd (r_ld (b := p5) (o := 0) hs rfl (r_eqI (r_brF (by omega) (r_addI (by omega) (next hs.to)))))
    · have heq : (i : Int) = o.line := by omega
      have l14 : (peekV (Cs a b).sets.toNat s2.S i).2 = 0 → (peekV (Cs a b).sets.toNat s2.S i).1 = { (peekV (Cs a b).sets.toNat s.S i).1 with st := r1.state } ∧ storeS r1.state = false := by
        intro h0
        rw [heq] at h0 ⊢
        by_cases hh : (peekV (Cs a b).sets.toNat s.S o.line).2 = 0 ∧ st = 1
        · exact (ht.here hh.1 hh.2).2
        · exact absurd h0 (ht.away hh)
      have go14 : A3_14 Q (pt p5 0 0) (pt c 0 0) (pt d 0 0) (pt pn 0 0) (.slice (some a1) 1 c1) (I i) (pt px 0 0) (I (peekV (Cs a b).sets.toNat s2.S i).2) (pt py 0 0) h := by
        refine b3_14 (r_resv hs ?_)
        intro rr h hs
        refine r_padd (r_ld (b := p5) (o := 0) hs rfl (r_eqI (r_brT heq (r_eqI (r_br (fun h0 => ?_) (fun _ => r_addI (by omega) (next hs.to)))))))
        obtain ⟨ex, hsto⟩ := l14 h0
        have hmay : mayV (Cs a b).sets.toNat s2.S i (peekV (Cs a b).sets.toNat s.S i).1.w true = false := by
          unfold mayV
          rw [ex]
          show (_ && storeS r1.state) = false
          rw [hsto, Bool.and_false]
        rw [ex] at hs
        refine r_padd (r_ldN (b := px) (o := 0) hs (by decide) (l := [I (peekV (Cs a b).sets.toNat s.S i).1.d.1, I (peekV (Cs a b).sets.toNat s.S i).1.d.2]) rfl rfl (r_padd (r_ldN (b := py) (o := 0) hs (by decide) (l := [I (peekV (Cs a b).sets.toNat s.S i).1.d.1, I (peekV (Cs a b).sets.toNat s.S i).1.d.2]) rfl rfl (r_neD (r_brf ?_)))))
        refine r_padd (r_ld (b := px) (o := 0) hs rfl (r_padd (r_ld (b := py) (o := 0) hs rfl (r_neI (r_brF (by simp) ?_)))))
        obtain ⟨bo, oo, ha, Hh, hs3, _⟩ := (hs.front (slc 9 26 (some a1) c1 (1, r1.enc))).slcOpen (by decide)
        cases ha
        refine r_padd (r_ld (b := px) (o := 0) hs rfl (r_idxN (i := 0) (by decide) (r_padd (r_ldI (b := bo) (o := oo) (i := 0 * 9) (j := 0 + 4) hs3 (v := I r1.state) rfl (r_neI (r_brF (by simp) ?_))))))
        refine r_padd (r_ld (b := px) (o := 0) hs rfl ?_)
        refine may_ok (C := Cs a b) (core := 0) (c := c) (s := s2) (l := i) (ow := (peekV (Cs a b).sets.toNat s.S i).1.w) (w := true) hC hb2 ho hs fun h hs => ?_
        rw [hmay]
        exact r_brf (b3_15 (r_addI (by omega) (next hs.to)))
      refine r_padd (r_ld (b := p5) (o := 0) hs rfl (r_eqI (r_brT heq (r_eqI (r_eqI (r_br (fun hi0 => ?_) (fun hi0 => ?_)))))))
      · refine r_padd (r_ld (b := pn) (o := 0) hs rfl (r_eqI (r_neBB ?_)))
        have e : decide ((peekV (Cs a b).sets.toNat s2.S i).2 = 0) = decide (st = 1) := by
          rw [heq] at hi0 ⊢
          by_cases h1 : st = 1
          · rw [decide_eq_true h1, decide_eq_true (ht.here hi0 h1).1]
          · rw [decide_eq_false h1, decide_eq_false (ht.away fun e => h1 e.2)]
        rw [e]
        have : (decide (st = 1) != decide (st = 1)) = false := by simp
        show Br (.bool (decide (st = 1) != decide (st = 1))) _ _
        rw [this]
        exact r_brf go14
      · refine r_neBB ?_
        have e : (peekV (Cs a b).sets.toNat s2.S i).2 ≠ 0 := by
          rw [heq] at hi0 ⊢
          exact ht.away fun e => hi0 e.1
        rw [decide_eq_false e]
        exact r_brf go14
end Go.Proofs.YtfkjpjkkjlipiaaDoor
end
section
namespace Go.Proofs.YtfkjpjkkjlipiaaDoor
open Go Go.Ab Go.Hm Go.Ct
attribute [local irreducible] thn Br ld1 ldN stV alc alcAt alcS alcSAt resv padd nilV extV part1 partN lenS lenT biI biT biB biP biS biF biE biA unV idxS idxA pickV appV copyV clearV slS slA slT mkS blkOf at1 atN atS convI convS minV maxV Cl OkF OkR EndX endV beginV defersOf setLoop closeMarks
variable {G : Bg} {h : AH} {L L' M : List HP} {c d : Nat} {a b : Int} {o : COp} {p2 p5 pn : Nat}
theorem probes_8 (hC : (Cs a b).Ok) {s : Cac} {st : Int} (hst : st = 0 ∨ st = 1) (hg : GoodC (Cs a b) s) (hi : Iv (Cs a b) s) (hh : hasL (Cs a b) o.line = true) {Q : Value → AH → Prop} (hl : Ob G 0 limE) (ho : Ob G 1 rowsE)
    (hs : Hs G h (seg p5 0 o.enc :: seg pn 0 (prN o.line st).enc :: cacR G c (Cs a b) 0 s :: cacR G d (Cs a b) 0 s :: L)) (hk : ∀ h, Q (.bool true) h) :
    thn (ldN h 9 (pt pn 0 0)) fun v0 =>
 Cl Pr K 15 [(pt c 0 0), v0] h fun v1 h1 =>
 thn (extV 0 v1) fun v2 =>
 thn (extV 1 v1) fun v3 =>
 thn (ldN h1 9 (pt pn 0 0)) fun v4 =>
 Cl Pr K 15 [(pt c 0 0), v4] h1 fun v5 h5 =>
 thn (extV 0 v5) fun v6 =>
 thn (extV 1 v5) fun v7 =>
 resv h5 40 fun r9 h8 =>
 thn (biI .neq v3 (I 0)) fun v10 =>
 Br v10 (
 Q (.bool false) h8) (
 thn (biI .neq v7 (I 0)) fun v11 =>
 Br v11 (
 Q (.bool false) h8) (
 thn (lenS v2) fun v12 =>
 thn (biI .neq v12 (I 1)) fun v13 =>
 Br v13 (
 Q (.bool false) h8) (
 thn (lenS v6) fun v14 =>
 thn (biI .neq v14 (I 1)) fun v15 =>
 Br v15 (
 Q (.bool false) h8) (
 thn (idxS 9 v2 (I 0)) fun v16 =>
 thn (padd 4 v16) fun v17 =>
 thn (ld1 h8 v17) fun v18 =>
 thn (idxS 9 v6 (I 0)) fun v19 =>
 thn (padd 4 v19) fun v20 =>
 thn (ld1 h8 v20) fun v21 =>
 thn (biI .neq v18 v21) fun v22 =>
 Br v22 (
 Q (.bool false) h8) (
 thn (idxS 9 v6 (I 0)) fun v23 =>
 thn (padd 7 v23) fun v24 =>
 thn (ld1 h8 v24) fun v25 =>
 Br v25 (
 thn (idxS 9 v2 (I 0)) fun v26 =>
 thn (padd 7 v26) fun v27 =>
 thn (ld1 h8 v27) fun v28 =>
 thn (unV .not v28) fun v29 =>
 Br v29 (
 Q (.bool false) h8) (
 A3_9 Q (pt p5 0 0) (pt c 0 0) (pt d 0 0) (pt pn 0 0) v2 h8)) (
 A3_10 Q (pt p5 0 0) (pt c 0 0) (pt d 0 0) (pt pn 0 0) v2 (I 0) h8)))))) := by
  obtain ⟨s1, s2, r1, r2, ht⟩ := probe_twice hg hi hh hst
  have hb : Bd s := hg.bd (setsP hC).2.2.2
  have hg1 : GoodC (Cs a b) s1 := by
    have := good_take (C := Cs a b) (core := 0) (nt := prN o.line st) (fun e => by cases e) hg
    rw [ht.one] at this; exact this
  have hg2 : GoodC (Cs a b) s2 := by
    have := good_take (C := Cs a b) (core := 0) (nt := prN o.line st) (fun e => by cases e) hg1
    rw [ht.two] at this; exact this
  have hb1 : Bd s1 := hg1.bd (setsP hC).2.2.2
  have hb2 : Bd s2 := hg2.bd (setsP hC).2.2.2
  have hs : Hs G h (cacR G c (Cs a b) 0 s :: seg p5 0 o.enc :: seg pn 0 (prN o.line st).enc :: cacR G d (Cs a b) 0 s :: L) := hs.to
  refine r_ldN (b := pn) (o := 0) hs (by decide) (l := (prN o.line st).enc) rfl rfl ?_
  refine take_ok (C := Cs a b) (core := 0) (c := c) (s := s) (n := prN o.line st) hC hb hg.sts hl ho hs fun a1 c1 h hs => ?_
  rw [ht.one] at hs ⊢
  dsimp only at hs ⊢
  have hs : Hs G h (cacR G c (Cs a b) 0 s1 :: slc 9 26 a1 c1 (1, r1.enc) :: seg p5 0 o.enc :: seg pn 0 (prN o.line st).enc :: cacR G d (Cs a b) 0 s :: L) := (show Hs G h (slc 9 26 a1 c1 (1, r1.enc) :: cacR G c (Cs a b) 0 s1 :: seg p5 0 o.enc :: seg pn 0 (prN o.line st).enc :: cacR G d (Cs a b) 0 s :: L) from by simpa [encNs] using hs).at2
  refine r_ext rfl (r_ext rfl (r_ldN (b := pn) (o := 0) hs (by decide) (l := (prN o.line st).enc) rfl rfl ?_))
  refine take_ok (C := Cs a b) (core := 0) (c := c) (s := s1) (n := prN o.line st) hC hb1 hg1.sts hl ho hs fun a2 c2 h hs => ?_
  rw [ht.two] at hs ⊢
  dsimp only at hs ⊢
  have hs : Hs G h (slc 9 26 a2 c2 (1, r2.enc) :: cacR G c (Cs a b) 0 s2 :: slc 9 26 a1 c1 (1, r1.enc) :: seg p5 0 o.enc :: seg pn 0 (prN o.line st).enc :: cacR G d (Cs a b) 0 s :: L) := by simpa [encNs] using hs
  refine r_ext rfl (r_ext rfl (r_resv hs ?_))
  intro rr h hs
  obtain ⟨bo2, oo2, ha2, H2, hs2, _⟩ := (hs.front (slc 9 26 a2 c2 (1, r2.enc))).slcOpen (by decide)
  obtain ⟨bo1, oo1, ha1, H1, hs1, _⟩ := (hs.front (slc 9 26 a1 c1 (1, r1.enc))).slcOpen (by decide)
  cases ha1
  cases ha2
  refine r_neI (r_brF (by omega) (r_neI (r_brF (by omega) (r_lenS (r_neI (r_brF (by simp) (r_lenS (r_neI (r_brF (by simp) ?_)))))))))
  refine r_idxN (i := 0) (by simp) (r_padd (r_ldI (b := bo1) (o := oo1) (i := 0 * 9) (j := 0 + 4) hs1 (v := I r1.state) rfl (r_idxN (i := 0) (by simp) (r_padd (r_ldI (b := bo2) (o := oo2) (i := 0 * 9) (j := 0 + 4) hs2 (v := I r2.state) rfl (r_neI (r_brF (fun e => e ht.state) ?_)))))))
  have fin : ∀ {X : Nat}, A3_10 Q (pt p5 0 0) (pt c 0 0) (pt d 0 0) (pt pn 0 0) (.slice (some ⟨bo1, oo1, none⟩) 1 c1) (I 0) h := fun {_} =>
    probes_10 (a := a) (b := b) (L := L) hC hb hb2 ho ht hst hk 4 0 h [] (by omega) hs.to
  refine r_idxN (i := 0) (by simp) (r_padd (r_ldI (b := bo2) (o := oo2) (i := 0 * 9) (j := 0 + 7) hs2 (v := .bool r2.dirty) rfl (r_brb (fun h1 => ?_) (fun _ => fin (X := 0)))))
  refine r_idxN (i := 0) (by simp) (r_padd (r_ldI (b := bo1) (o := oo1) (i := 0 * 9) (j := 0 + 7) hs1 (v := .bool r1.dirty) rfl (r_not ?_)))
  rw [ht.dirty h1]
  exact r_brf (b3_9 (fin (X := 0)))
theorem probes_5 (hC : (Cs a b).Ok) {s : Cac} (hg : GoodC (Cs a b) s) (hi : Iv (Cs a b) s) (hh : hasL (Cs a b) o.line = true) {Q : Value → AH → Prop} (hl : Ob G 0 limE) (ho : Ob G 1 rowsE)
    (hs : Hs G h (seg p5 0 o.enc :: cacR G c (Cs a b) 0 s :: L)) (hk : ∀ h, Q (.bool true) h) : A3_5 Q (pt p5 0 0) (pt c 0 0) h := by
  have hb : Bd s := hg.bd (setsP hC).2.2.2
  refine b3_5 (twin_ok (C := Cs a b) (core := 0) (c := c) (s := s) hC hb hs fun d h hs => r_ptEq (r_brf (b3_6 ?_)))
  refine r_padd (r_ld (b := p5) (o := 0) hs rfl (r_fill (c := (prN o.line 0).enc) rfl (r_new hs ?_)))
  intro pn h hs
  refine r_stW hs rfl rfl rfl rfl ?_
  intro h hs
  refine r_padd (r_ld (b := p5) (o := 0) hs rfl (r_brb (fun _ => b3_7 (r_padd (r_sto (b := pn) (o := 0) hs rfl rfl rfl rfl ?_))) (fun _ => b3_8 ?_)))
  · intro h hs
    have hs := hs.sg (b := pn) (o := 0) (c := (prN o.line 1).enc) rfl
    exact probes_8 (st := 1) (L := L) hC (.inr rfl) hg hi hh hl ho hs.to hk
  · exact probes_8 (st := 0) (L := L) hC (.inl rfl) hg hi hh hl ho hs.to hk
theorem probes_3 (hC : (Cs a b).Ok) (hh : hasL (Cs a b) o.line = true) {t : Value} {N : Nat} {ops : Nat → COp} {Q : Value → AH → Prop} (hN : N ≤ 80) (hr : ∀ i, i < N → rightO (ops i)) (hold : Old G 15 t N fun i => (ops i).enc) (hl : Ob G 0 limE) (ho : Ob G 1 rowsE) (hk : ∀ h, Q (.bool true) h) :
    ∀ (f i : Nat) (h : AH) (s : Cac), i + f = N → GoodC (Cs a b) s → Iv (Cs a b) s → Hs G h (seg p2 0 [I a, I b] :: seg p5 0 o.enc :: cacR G c (Cs a b) 0 s :: L) → A3_3 Q t (pt p2 0 0) (pt p5 0 0) (pt c 0 0) (I i) h := by
  obtain ⟨ad, cp, rfl, hall⟩ := hold
  intro f
  induction f with
  | zero =>
    intro i h s hi hg hv hs
    exact b3_3 (r_lenS (r_ltI (r_brF (by omega) (probes_5 (s := s) (L := L) hC hg hv hh hl ho hs.tail hk))))
  | succ f ih =>
    intro i h s hi hg hv hs
    have hiN : i < N := by omega
    obtain ⟨bb, oo, cells, rfl, hob, hc, hle⟩ := hall i hiN
    refine b3_3 (r_lenS (r_ltI (r_brT (by omega) (b3_4 (r_resv hs ?_)))))
    intro rr h0 hs0
    refine r_idx0 (r_ld (b := p2) (o := 0) hs0 rfl (r_idx1 (r_ld (b := p2) (o := 0) hs0 rfl (refNew_ok hs0 fun q h hs => ?_))))
    refine r_idxN hiN (r_ldNo hs hob (o := oo + i * 15) (j := 0) (l := (ops i).enc) hc rfl (by omega) ?_)
    refine does_ok (C := Cs a b) (c := c) (s := s) (q := q) (sets := a) (ways := b) (o := ops i) hC hg hl ho hs fun bl h hs => ?_
    refine r_fl veq_P (r_fl veq_S (r_fl veq_I (r_fl (r_idxN hiN veq_P) (r_fl (r_ldNo hs0 hob (o := oo + i * 15) (j := 0) (l := (ops i).enc) hc rfl (by omega) veq_op) (r_addI (by omega) ?_)))))
    exact ih (i + 1) h (doesV (Cs a b) s (ops i)) (by omega) (good_does (hr i hiN) hg) (iv_does hg hv) hs.to
theorem probes_ok {t : Value} {N : Nat} {ops : Nat → COp} {Q : Value → AH → Prop} (hN : N ≤ 9223372036854775807) (hold : Old G 15 t N fun i => (ops i).enc) (hl : Ob G 0 limE) (ho : Ob G 1 rowsE) (hs : Hs G h L) (hk : ∀ h, Q (.bool true) h) :
    Cl Pr K 3 [.agg ⟨[I a, I b]⟩, t, .agg ⟨o.enc⟩] h Q := by
  refine c3 (b3_0 (r_bx hs ?_))
  intro p2 h hs
  refine r_bx hs ?_
  intro p5 h hs
  refine right_ok hN hold hs fun bl hbl => r_not (r_brn (r_brb (fun h1 => ?_) (fun _ => awake_ok (hk _))))
  obtain ⟨hN80, hr⟩ := hbl h1
  have hs : Hs G h (seg p2 0 [I a, I b] :: seg p5 0 o.enc :: L) := hs.to
  refine r_idx0 (r_ld (b := p2) (o := 0) hs rfl (r_ltI (r_br (fun _ => awake_ok (hk _)) (fun ha1 => ?_))))
  refine r_idx0 (r_ld (b := p2) (o := 0) hs rfl (r_gtI (r_br (fun _ => awake_ok (hk _)) (fun ha2 => ?_))))
  refine r_idx1 (r_ld (b := p2) (o := 0) hs rfl (r_ltI (r_br (fun _ => awake_ok (hk _)) (fun hb1 => ?_))))
  refine r_idx1 (r_ld (b := p2) (o := 0) hs rfl (r_gtI (r_br (fun _ => awake_ok (hk _)) (fun hb2 => ?_))))
  refine r_padd (r_ld (b := p5) (o := 0) hs rfl (r_ltI (r_br (fun _ => awake_ok (hk _)) (fun hl1 => ?_))))
  refine r_padd (r_ld (b := p5) (o := 0) hs rfl (r_gtI (r_br (fun _ => awake_ok (hk _)) (fun hl2 => ?_))))
  have hC : (Cs a b).Ok := Cs_ok (by omega) (by omega)
  have hh : hasL (Cs a b) o.line = true := decide_eq_true (by show 0 ≤ o.line ∧ o.line < ((4 : Nat) : Int); omega)
  refine b3_1 (r_idx0 (r_ld (b := p2) (o := 0) hs rfl (r_idx1 (r_ld (b := p2) (o := 0) hs rfl (small_ok hs fun h hs => ?_)))))
  refine cacheNew2_ok (C := Cs a b) (core := 0) hC ⟨by omega, by show (0 : Int) < 3; omega⟩ hl hs fun c h hs => ?_
  refine r_ext rfl (r_ext rfl (r_ptEq (r_brf (r_neI (r_brF (by omega) (b3_2 ?_))))))
  exact probes_3 (L := L) (o := o) hC hh hN80 hr hold hl ho hk N 0 h Cac.new (by omega) good_new iv_new hs.to
end Go.Proofs.YtfkjpjkkjlipiaaDoor
end
