/- CacheGrants: the law's walk. -/
import Derived.Test.YtfkjpjkkjlipiaaDoorB6
import Derived.Test.YtfkjpjkkjlipiaaDoorB11
import Derived.Test.YtfkjpjkkjlipiaaDoorB7
section
namespace Go.Ct
open Go Go.Ab Go.Hm
/-! states -/
def loadS (s : Int) : Bool := decide (1 ≤ s ∧ s ≤ 4)
def storeS (s : Int) : Bool := decide (s = 2 ∨ s = 4)
def dirtyS (s : Int) : Bool := decide (s = 3 ∨ s = 4)
def ownerS (s : Int) : Bool := decide (2 ≤ s ∧ s ≤ 4)
def isS (s : Int) : Bool := decide (0 ≤ s ∧ s < 5)
def sharedS (s : Int) : Int := if s = 2 then 1 else if s = 4 then 3 else s
def allowsS (s : Int) (w : Bool) : Bool := if w then storeS s else loadS s
/-! what a cache has of a line -/
structure Cpy where
  st : Int
  w : Int
  d : Ln
  deriving DecidableEq
def Cpy.enc (x : Cpy) : List Value := [I x.st, I x.w, I x.d.1, I x.d.2]
def Cpy.zero : Cpy := ⟨0, 0, (0, 0)⟩
abbrev Th := Int × Cpy
def thE (t : Th) : List Value := I t.1 :: t.2.enc
def encTs (l : List Th) : List Value := l.flatMap thE
theorem encTs_len (l : List Th) : (encTs l).length = l.length * 5 := by
  induction l with
  | nil => rfl
  | cons a t ih => simp only [encTs, List.flatMap_cons, List.length_append] at ih ⊢; rw [ih]; simp [thE, Cpy.enc]; omega
theorem encTs_cell (l : List Th) : (encTs l).all cellB = true := by
  induction l with
  | nil => rfl
  | cons a t ih => simp only [encTs, List.flatMap_cons, List.all_append, Bool.and_eq_true] at ih ⊢; exact ⟨rfl, ih⟩
theorem encTs_app (l m : List Th) : encTs (l ++ m) = encTs l ++ encTs m := by simp [encTs]
theorem encTs_take (l : List Th) (i : Nat) : (encTs l).take (i * 5) = encTs (l.take i) := by
  induction l generalizing i with
  | nil => simp [encTs]
  | cons a t ih =>
    cases i with
    | zero => simp [encTs]
    | succ i =>
      have : (i + 1) * 5 = 5 + i * 5 := by omega
      simp only [encTs, List.flatMap_cons, List.take_succ_cons] at ih ⊢
      rw [this, List.take_append, List.take_of_length_le (by simp [thE, Cpy.enc])]
      have e5 : (thE a).length = 5 := rfl
      rw [e5, show 5 + i * 5 - 5 = i * 5 by omega, ih]
theorem encTs_drop (l : List Th) (i : Nat) : (encTs l).drop (i * 5) = encTs (l.drop i) := by
  induction l generalizing i with
  | nil => simp [encTs]
  | cons a t ih =>
    cases i with
    | zero => simp [encTs]
    | succ i =>
      have : (i + 1) * 5 = 5 + i * 5 := by omega
      simp only [encTs, List.flatMap_cons, List.drop_succ_cons] at ih ⊢
      have e5 : (thE a).length = 5 := rfl
      rw [this, List.drop_append, List.drop_of_length_le (by rw [e5]; omega), e5, show 5 + i * 5 - 5 = i * 5 by omega, ih, List.nil_append]
theorem encTs_at {l : List Th} {i : Nat} {t : Th} (h : l[i]? = some t) : ((encTs l).drop (i * 5)).take 5 = thE t := by
  rw [encTs_drop]
  have hi := (List.getElem?_eq_some_iff.1 h)
  rw [List.drop_eq_getElem_cons hi.1, hi.2]
  simp only [encTs, List.flatMap_cons]
  exact List.take_left' rfl
/-! where a number is -/
def ix (no : Int) : List Th → Option Nat
  | [] => none
  | t :: l => if t.1 = no then some 0 else (ix no l).map (· + 1)
def ixI (no : Int) (l : List Th) : Int := match ix no l with | some i => i | none => -1
def get (no : Int) (l : List Th) : Option Cpy := (l.find? fun t => decide (t.1 = no)).map (·.2)
def rem (no : Int) : List Th → List Th
  | [] => []
  | t :: l => if t.1 = no then l else t :: rem no l
theorem ix_some {no : Int} {l : List Th} {i : Nat} (h : ix no l = some i) : ∃ x, l[i]? = some (no, x) ∧ get no l = some x ∧ rem no l = l.take i ++ l.drop (i + 1) ∧ i < l.length := by
  induction l generalizing i with
  | nil => cases h
  | cons t l ih =>
    simp only [ix] at h
    by_cases hc : t.1 = no
    · rw [if_pos hc] at h
      cases h
      exact ⟨t.2, by simp [← hc], by simp [get, hc], by simp [rem, hc], by simp⟩
    · rw [if_neg hc] at h
      cases hx : ix no l with
      | none => rw [hx] at h; cases h
      | some j =>
        rw [hx] at h
        cases h
        obtain ⟨x, h1, h2, h3, h4⟩ := ih hx
        refine ⟨x, by simpa using h1, ?_, ?_, by simp; omega⟩
        · simp only [get, List.find?_cons, decide_eq_false hc] at h2 ⊢; exact h2
        · simp [rem, hc, h3]
theorem ix_none {no : Int} {l : List Th} (h : ix no l = none) : get no l = none ∧ rem no l = l := by
  induction l with
  | nil => exact ⟨rfl, rfl⟩
  | cons t l ih =>
    simp only [ix] at h
    by_cases hc : t.1 = no
    · rw [if_pos hc] at h; cases h
    · rw [if_neg hc] at h
      obtain ⟨h1, h2⟩ := ih (by simpa using h)
      refine ⟨?_, by simp [rem, hc, h2]⟩
      simp only [get, List.find?_cons, decide_eq_false hc] at h1 ⊢; exact h1
theorem rem_len {no : Int} {l : List Th} : (rem no l).length = if (get no l).isSome then l.length - 1 else l.length := by
  cases h : ix no l with
  | none => obtain ⟨h1, h2⟩ := ix_none h; rw [h1, h2]; rfl
  | some i =>
    obtain ⟨x, h1, h2, h3, h4⟩ := ix_some h
    rw [h2, h3]; simp; omega
/-! a cache -/
structure Cac where
  S : Nat → List Th
  al : Int
  aw : Bool
  ais : Bool
  gl : Int
  gc : Cpy
  gis : Bool
def Cac.new : Cac := ⟨fun _ => [], 0, false, false, 0, Cpy.zero, false⟩
def Cac.tail (c : Cac) : List Value := [I c.al, .bool c.aw, .bool c.ais, I c.gl] ++ c.gc.enc ++ [.bool c.gis]
variable (n : Nat) (ways : Nat) (lines : Int) (core : Int)
/-- a line's set -/
def setOf (l : Int) : Nat := (l % (n : Int)).toNat
def Cac.peek (c : Cac) (l : Int) : Option Cpy := if l < 0 then none else get l (c.S (setOf n l))
def Cac.may (c : Cac) (l ow : Int) (w : Bool) : Bool := match c.peek n l with
  | some x => decide (x.w = ow) && allowsS x.st w
  | none => false
def Cac.set (c : Cac) (l : Int) (s : List Th) : Cac := { c with S := updA c.S (setOf n l) s }
def Cac.drop (c : Cac) (l : Int) : Cac := c.set n l (rem l (c.S (setOf n l)))
/-- a copy is put; false: there is no room -/
def Cac.putE (c : Cac) (l : Int) (x : Cpy) : Int := if (rem l (c.S (setOf n l))).length ≥ ways then 11 else 0
def Cac.put (c : Cac) (l : Int) (x : Cpy) : Cac := c.set n l (if (rem l (c.S (setOf n l))).length ≥ ways then rem l (c.S (setOf n l)) else rem l (c.S (setOf n l)) ++ [(l, x)])
end Go.Ct
end
section
namespace Go.Proofs.YtfkjpjkkjlipiaaDoor
open Go Go.Ab Go.Hm Go.Ct
theorem r_idxAg {g n sz : Nat} {i : Int} {k : Value → Prop} (h0 : 0 ≤ i) (hi : i < n) (hk : k (pt g (i.toNat * sz) 0)) : thn (idxA n sz (.pointer (some ⟨g, 0, none⟩)) (I i)) k :=
  r_idxA (b := g) (o := 0) (j := 0) h0 hi (by simpa [pt] using hk)
theorem row_cells {s : Int} (h : 0 ≤ s ∧ s < 5) : rowsE[s.toNat * 8 + 1]? = some (.bool (loadS s)) ∧ rowsE[s.toNat * 8 + 2]? = some (.bool (storeS s)) ∧ rowsE[s.toNat * 8 + 3]? = some (.bool (dirtyS s)) ∧ rowsE[s.toNat * 8 + 4]? = some (.bool (ownerS s))
    ∧ rowsE[s.toNat * 8 + 5]? = some (I (if storeS s then 4 else 0)) ∧ rowsE[s.toNat * 8 + 6]? = some (I (sharedS s)) ∧ rowsE[s.toNat * 8 + 7]? = some (I 0) := by
  have : s = 0 ∨ s = 1 ∨ s = 2 ∨ s = 3 ∨ s = 4 := by omega
  rcases this with rfl | rfl | rfl | rfl | rfl <;> exact ⟨rfl, rfl, rfl, rfl, rfl, rfl, rfl⟩
attribute [local irreducible] thn Br ld1 ldN stV alc alcAt alcS alcSAt resv padd nilV extV part1 partN lenS lenT biI biT biB biP biS biF biE biA unV idxS idxA pickV appV copyV clearV slS slA slT mkS blkOf at1 atN atS convI convS minV maxV Cl OkF OkR EndX endV beginV defersOf setLoop closeMarks
variable {G : Bg} {h : AH} {L L' : List HP}
theorem is_ok {x : Int} {Q : Value → AH → Prop} (hk : Q (.bool (isS x)) h) : Cl Pr K 60 [I x] h Q := by
  refine c60 (b60_0 ?_)
  refine r_geI (r_br (fun h1 => r_ltI ?_) (fun h1 => ?_))
  · rw [show decide (x < 5) = isS x from decide_eq_decide.2 (by omega)]; exact hk
  · rw [show false = isS x from (decide_eq_false (by omega)).symm]; exact hk
theorem isS_of {x : Int} (h : isS x = true) : 0 ≤ x ∧ x < 5 := of_decide_eq_true h
theorem isS_no {x : Int} (h : isS x = false) : loadS x = false ∧ storeS x = false ∧ dirtyS x = false ∧ ownerS x = false := by
  have := of_decide_eq_false h
  refine ⟨decide_eq_false ?_, decide_eq_false ?_, decide_eq_false ?_, decide_eq_false ?_⟩ <;> omega
theorem validS_ok {x : Int} {Q : Value → AH → Prop} (hk : Q (.bool (loadS x)) h) : Cl Pr K 34 [I x] h Q := by
  refine c34 (b34_0 (is_ok (r_brb (fun h1 => r_neI ?_) (fun h1 => ?_))))
  · have := isS_of h1
    rw [show decide (x ≠ 0) = loadS x from decide_eq_decide.2 (by omega)]; exact hk
  · rw [(isS_no h1).1] at hk; exact hk
theorem load_ok {x : Int} {Q : Value → AH → Prop} (ho : Ob G 1 rowsE) (hs : Hs G h L) (hk : Q (.bool (loadS x)) h) : Cl Pr K 75 [I x] h Q := by
  refine c75 (b75_0 (is_ok (r_brb (fun h1 => ?_) (fun h1 => ?_))))
  · have h2 := isS_of h1
    exact r_idxAg h2.1 h2.2 (r_padd (r_ldo hs ho (o := x.toNat * 8) (j := 1) (row_cells h2).1 hk))
  · rw [(isS_no h1).1] at hk; exact hk
theorem store_ok {x : Int} {Q : Value → AH → Prop} (ho : Ob G 1 rowsE) (hs : Hs G h L) (hk : Q (.bool (storeS x)) h) : Cl Pr K 74 [I x] h Q := by
  refine c74 (b74_0 (is_ok (r_brb (fun h1 => ?_) (fun h1 => ?_))))
  · have h2 := isS_of h1
    exact r_idxAg h2.1 h2.2 (r_padd (r_ldo hs ho (o := x.toNat * 8) (j := 2) (row_cells h2).2.1 hk))
  · rw [(isS_no h1).2.1] at hk; exact hk
theorem dirty_ok {x : Int} {Q : Value → AH → Prop} (ho : Ob G 1 rowsE) (hs : Hs G h L) (hk : Q (.bool (dirtyS x)) h) : Cl Pr K 47 [I x] h Q := by
  refine c47 (b47_0 (is_ok (r_brb (fun h1 => ?_) (fun h1 => ?_))))
  · have h2 := isS_of h1
    exact r_idxAg h2.1 h2.2 (r_padd (r_ldo hs ho (o := x.toNat * 8) (j := 3) (row_cells h2).2.2.1 hk))
  · rw [(isS_no h1).2.2.1] at hk; exact hk
theorem owner_ok {x : Int} {Q : Value → AH → Prop} (ho : Ob G 1 rowsE) (hs : Hs G h L) (hk : Q (.bool (ownerS x)) h) : Cl Pr K 85 [I x] h Q := by
  refine c85 (b85_0 (is_ok (r_brb (fun h1 => ?_) (fun h1 => ?_))))
  · have h2 := isS_of h1
    exact r_idxAg h2.1 h2.2 (r_padd (r_ldo hs ho (o := x.toNat * 8) (j := 4) (row_cells h2).2.2.2.1 hk))
  · rw [(isS_no h1).2.2.2] at hk; exact hk
/-- the state behind a store, for one that may be stored to -/
theorem wrote_ok {x : Int} {Q : Value → AH → Prop} (ho : Ob G 1 rowsE) (hs : Hs G h L) (hx : storeS x = true) (hk : Q (.tuple ⟨[I 4, I 0]⟩) h) : Cl Pr K 50 [I x] h Q := by
  have h2 : 0 ≤ x ∧ x < 5 := by have := of_decide_eq_true hx; omega
  refine c50 (b50_0 (is_ok ?_))
  rw [show isS x = true from decide_eq_true h2]
  refine r_not (r_brf (b50_1 (store_ok ho hs ?_)))
  rw [hx]
  have := (row_cells h2).2.2.2.2.1
  rw [if_pos hx] at this
  exact r_not (r_brf (r_idxAg h2.1 h2.2 (r_padd (r_ldo hs ho (o := x.toNat * 8) (j := 5) this hk))))
/-- what a probe does with a state that there is -/
def nextS (x to : Int) : Int := if to = 1 then sharedS x else 0
theorem probeS_ok {x to : Int} {Q : Value → AH → Prop} (ho : Ob G 1 rowsE) (hs : Hs G h L) (h2 : 0 ≤ x ∧ x < 5) (ht : to = 0 ∨ to = 1) (hk : Q (.tuple ⟨[I (nextS x to), .bool (ownerS x), .bool (dirtyS x), I 0]⟩) h) : Cl Pr K 90 [I x, I to] h Q := by
  refine c90 (b90_0 (is_ok ?_))
  rw [show isS x = true from decide_eq_true h2]
  refine r_not (r_brf ?_)
  have c6 := (row_cells h2).2.2.2.2.2.1
  have c7 := (row_cells h2).2.2.2.2.2.2
  rcases ht with rfl | rfl
  · exact r_neI (r_brT (by omega) (r_neI (r_brF (by omega) (b90_1 (r_idxAg h2.1 h2.2 (r_padd (r_ldo hs ho (o := x.toNat * 8) (j := 7) c7 (r_eqI (r_brF (by omega) (owner_ok ho hs (dirty_ok ho hs hk)))))))))))
  · exact r_neI (r_brF (by omega) (r_idxAg h2.1 h2.2 (r_padd (r_ldo hs ho (o := x.toNat * 8) (j := 7) c7 (r_eqI (r_brT rfl (b90_2 (r_idxAg h2.1 h2.2 (r_padd (r_ldo hs ho (o := x.toNat * 8) (j := 6) c6 (owner_ok ho hs (dirty_ok ho hs hk)))))))))))) 
theorem allows_ok {x : Cpy} {w : Bool} {Q : Value → AH → Prop} (ho : Ob G 1 rowsE) (hs : Hs G h L) (hk : ∀ h', Hs G h' L → Q (.bool (allowsS x.st w)) h') : Cl Pr K 44 [.agg ⟨x.enc⟩, .bool w] h Q := by
  refine c44 (b44_0 (r_bx hs ?_))
  intro p h hs
  cases w
  · exact r_brf (r_padd (r_ld hs rfl (load_ok ho hs (hk _ hs.tail))))
  · exact r_brt (r_padd (r_ld hs rfl (store_ok ho hs (hk _ hs.tail))))
end Go.Proofs.YtfkjpjkkjlipiaaDoor
end
section
namespace Go.Proofs.YtfkjpjkkjlipiaaDoor
open Go Go.Ab Go.Hm Go.Ct
attribute [local irreducible] thn Br ld1 ldN stV alc alcAt alcS alcSAt resv padd nilV extV part1 partN lenS lenT biI biT biB biP biS biF biE biA unV idxS idxA pickV appV copyV clearV slS slA slT mkS blkOf at1 atN atS convI convS minV maxV Cl OkF OkR EndX endV beginV defersOf setLoop closeMarks
variable {G : Bg} {h : AH} {L L' M : List HP}
/-- a set: its slice, and what is in it -/
def setR (b o : Nat) (l : List Th) : HP := exH fun x : Option Addr × Nat => sp [seg b o [.slice x.1 l.length x.2], slc 5 113 x.1 x.2 (l.length, encTs l)]
theorem set_open {b o : Nat} {l : List Th} (hs : Hs G h (setR b o l :: L)) : ∃ a c, Hs G h (seg b o [.slice a l.length c] :: slc 5 113 a c (l.length, encTs l) :: L) := by
  obtain ⟨⟨a, c⟩, hs⟩ := hs.exE
  exact ⟨a, c, hs.unpack⟩
theorem set_close (b o : Nat) (l : List Th) {a : Option Addr} {c n : Nat} {cs : List Value} {L1 L2 : List HP} (hs : Hs G h L) [m : Has (seg b o) L [.slice a n c] L1] [m2 : Has (slc 5 113 a c) L1 (n, cs) L2] (hn : n = l.length) (hcs : cs = encTs l) : Hs G h (setR b o l :: L2) := by
  subst hn; subst hcs
  exact Hs.exI (A := fun x : Option Addr × Nat => sp [seg b o [.slice x.1 l.length x.2], slc 5 113 x.1 x.2 (l.length, encTs l)]) (a, c) (Hs.pack (A := [_, _]) (hs.perm (m.perm.trans (m2.perm.cons _))))
structure TgA where
  b : Nat
  o : Nat
  cap : Nat
def tagE (ways n b o cap : Nat) : List Value := [I ways, .slice (some ⟨b, o, none⟩) n cap]
/-- sets of things -/
def tagR (G : Bg) (t ways n : Nat) (S : Nat → List Th) : HP := exH fun x : TgA =>
  sp [seg t 0 (tagE ways n x.b x.o x.cap), hole G 1 114 (some ⟨x.b, x.o, none⟩) x.cap n x.b x.o, big n fun i => setR x.b (x.o + i * 1) (S i)]
theorem tag_open {t ways n : Nat} {S : Nat → List Th} (hs : Hs G h (tagR G t ways n S :: L)) : ∃ b o cap, Hs G h (seg t 0 (tagE ways n b o cap) :: hole G 1 114 (some ⟨b, o, none⟩) cap n b o :: big n (fun i => setR b (o + i * 1) (S i)) :: L) := by
  obtain ⟨⟨b, o, cap⟩, hs⟩ := hs.exE
  exact ⟨b, o, cap, hs.unpack⟩
theorem tag_close {t ways n : Nat} {S : Nat → List Th} {b o cap : Nat} (hs : Hs G h (seg t 0 (tagE ways n b o cap) :: hole G 1 114 (some ⟨b, o, none⟩) cap n b o :: big n (fun i => setR b (o + i * 1) (S i)) :: L)) : Hs G h (tagR G t ways n S :: L) :=
  Hs.exI (A := fun x : TgA => sp [seg t 0 (tagE ways n x.b x.o x.cap), hole G 1 114 (some ⟨x.b, x.o, none⟩) x.cap n x.b x.o, big n fun i => setR x.b (x.o + i * 1) (S i)]) ⟨b, o, cap⟩ (Hs.pack (A := [_, _, _]) hs)
/-- all but a set -/
def tagX (b o n : Nat) (S : Nat → List Th) (l : Nat) : HP := sp (((List.range n).erase l).map fun i => setR b (o + i * 1) (S i))
theorem tag_set {t ways n l : Nat} {S : Nat → List Th} (hl : l < n) (hs : Hs G h (tagR G t ways n S :: L)) : ∃ b o cap, Hs G h (setR b (o + l * 1) (S l) :: seg t 0 (tagE ways n b o cap) :: hole G 1 114 (some ⟨b, o, none⟩) cap n b o :: tagX b o n S l :: L) := by
  obtain ⟨b, o, cap, hs⟩ := tag_open hs
  have hs := (hs.front (big n fun i => setR b (o + i * 1) (S i))).bigOut l hl
  exact ⟨b, o, cap, (show Hs G h (setR b (o + l * 1) (S l) :: tagX b o n S l :: _) from hs).to⟩
theorem tag_shut {L1 L2 L3 L4 : List HP} (t ways n : Nat) (S : Nat → List Th) (l : Nat) (x : List Th) (b o cap : Nat) (hl : l < n) (hs : Hs G h L) [k1 : HasX (setR b (o + l * 1) x) L L1] [k2 : HasX (seg t 0 (tagE ways n b o cap)) L1 L2]
    [k4 : HasX (hole G 1 114 (some ⟨b, o, none⟩) cap n b o) L2 L3] [k5 : HasX (tagX b o n S l) L3 L4] : Hs G h (tagR G t ways n (updA S l x) :: L4) := by
  have hs : Hs G h (setR b (o + l * 1) x :: tagX b o n S l :: seg t 0 (tagE ways n b o cap) :: hole G 1 114 (some ⟨b, o, none⟩) cap n b o :: L4) :=
    (hs.perm (k1.perm.trans ((k2.perm.trans ((k4.perm.trans (k5.perm.cons _)).cons _)).cons _))).to
  have e0 : (fun i => setR b (o + i * 1) (updA S l x i)) l = setR b (o + l * 1) x := by simp only [updA_same]
  rw [← e0] at hs
  unfold tagX at hs
  have hs := hs.bigPut (n := n) (i := l) (fun i => setR b (o + i * 1) (S i)) (fun i => setR b (o + i * 1) (updA S l x i)) hl (fun j _ hne => by simp only [updA_ne hne])
  exact tag_close (b := b) (o := o) (cap := cap) hs.to
theorem updA_id {α : Type} {f : Nat → α} {i : Nat} : updA f i (f i) = f := by
  funext j; unfold updA; split
  · rename_i e; rw [e]
  · rfl
/-- where a thing is -/
theorem find_loop {no : Int} {b o a2 o2 cp p : Nat} {l : List Th} {Q : Value → AH → Prop} (hb : l.length ≤ 4) : ∀ (r i : Nat) (h : AH) (L : List HP), i + r = l.length → ix no (l.take i) = none → Hs G h (seg p 0 [I no] :: slc 5 113 (some ⟨a2, o2, none⟩) cp (l.length, encTs l) :: L) →
    (∀ h', Hs G h' (seg p 0 [I no] :: slc 5 113 (some ⟨a2, o2, none⟩) cp (l.length, encTs l) :: L) → Q (.tuple ⟨[pt b o 0, I (ixI no l), I 0]⟩) h') →
    A43_3 Q (pt b o 0) (I (-1)) (.func (.func 73) #[] #[pt p 0 0]) (.slice (some ⟨a2, o2, none⟩) l.length cp) (I l.length) (I i) h := by
  have key : ∀ (i : Nat) (l : List Th) (t : Th), ix no (l.take i) = none → l[i]? = some t → ix no (l.take (i + 1)) = if t.1 = no then some i else none := by
    intro i
    induction i with
    | zero =>
      intro l t _ ht
      cases l with
      | nil => cases ht
      | cons a l => cases ht; simp [ix]
    | succ i ih =>
      intro l t h1 ht
      cases l with
      | nil => cases ht
      | cons a l =>
        simp only [List.take_succ_cons, ix] at h1 ⊢
        by_cases hc : a.1 = no
        · rw [if_pos hc] at h1; cases h1
        · rw [if_neg hc] at h1 ⊢
          rw [ih l t (by simpa using h1) (by simpa using ht)]
          split <;> rfl
  have pref : ∀ (l : List Th) (i j : Nat), ix no (l.take i) = some j → ix no l = some j := by
    intro l
    induction l with
    | nil => intro i j h; simp [ix] at h
    | cons a l ih =>
      intro i j h
      cases i with
      | zero => simp [ix] at h
      | succ i =>
        simp only [List.take_succ_cons, ix] at h ⊢
        by_cases hc : a.1 = no
        · rw [if_pos hc] at h ⊢; exact h
        · rw [if_neg hc] at h ⊢
          cases hx : ix no (l.take i) with
          | none => rw [hx] at h; cases h
          | some k => rw [hx] at h; rw [ih i k hx]; exact h
  intro r
  induction r with
  | zero =>
    intro i h L hi hn hs hk
    rw [List.take_of_length_le (by omega)] at hn
    simp only [ixI, hn] at hk
    exact b43_3 (r_ltI (r_brF (by omega) (hk _ hs)))
  | succ r ih =>
    intro i h L hi hn hs hk
    have hil : i < l.length := by omega
    obtain ⟨t, ht⟩ : ∃ t, l[i]? = some t := ⟨_, List.getElem?_eq_getElem hil⟩
    refine b43_3 (r_ltI (r_brT (by omega) (b43_4 (r_idxN hil ?_))))
    obtain ⟨b1, o1, ha, hs1⟩ := (hs.front (slc 5 113 (some ⟨a2, o2, none⟩) cp (l.length, encTs l))).holeOpen (by omega)
    cases ha
    refine r_ldNI hs1 (by decide) (l := thE t) (by rw [Nat.add_zero]; exact encTs_at ht) rfl ?_
    have hs1 := hs1.holeClose (encTs_len l) (encTs_cell l)
    refine r_new hs1 ?_
    intro q h hs
    refine r_stW hs rfl rfl rfl rfl ?_
    intro h hs
    refine r_ldN hs (by decide) (l := thE t) rfl rfl ?_
    refine r_okF (by kernel_rfl) (c73 (b73_0 ?_))
    refine r_bx hs ?_
    intro q2 h hs
    have hk1 := key i l t hn ht
    refine r_padd (r_ld hs rfl (r_ld (b := p) (o := 0) hs rfl (r_eqI (r_br (fun hc => ?_) (fun hc => ?_)))))
    · rw [if_pos hc] at hk1
      have := pref _ _ _ hk1
      simp only [ixI, this] at hk
      exact b43_5 (hk _ hs.to)
    · rw [if_neg hc] at hk1
      exact b43_6 (r_addI (by omega) (ih (i + 1) h L (by omega) hk1 hs.to hk))
theorem find_neg {t : Nat} {no : Int} {Q : Value → AH → Prop} (h0 : no < 0) (hs : Hs G h L) (hk : ∀ h', Hs G h' L → Q (.tuple ⟨[.pointer none, I 0, I 10]⟩) h') : Cl Pr K 43 [pt t 0 0, I no] h Q := by
  refine c43 (b43_0 (r_bx hs ?_))
  intro p h hs
  exact r_ptEq (r_brf (b43_1 (r_ld hs rfl (r_ltI (r_brT h0 (hk _ hs.tail))))))
theorem setOf_lt {n : Nat} {no : Int} (hn : 0 < n) : setOf n no < n := by
  unfold setOf
  have := Int.emod_lt_of_pos no (show (0 : Int) < n by omega)
  have := Int.emod_nonneg no (show (n : Int) ≠ 0 by omega)
  omega
theorem find_ok {t ways n b o cap : Nat} {no : Int} {l : List Th} {Q : Value → AH → Prop} (hn : 0 < n) (h0 : 0 ≤ no) (hb : l.length ≤ 4) (hs : Hs G h L) [m : Has (seg t 0) L (tagE ways n b o cap) L'] [m2 : Has (setR b (o + setOf n no * 1)) L' l M]
    (hk : ∀ h', Hs G h' (seg t 0 (tagE ways n b o cap) :: setR b (o + setOf n no * 1) l :: M) → Q (.tuple ⟨[pt b (o + setOf n no * 1) 0, I (ixI no l), I 0]⟩) h') : Cl Pr K 43 [pt t 0 0, I no] h Q := by
  have hs : Hs G h (seg t 0 (tagE ways n b o cap) :: setR b (o + setOf n no * 1) l :: M) := hs.perm (m.perm.trans (m2.perm.cons _))
  obtain ⟨a, c, hs⟩ := set_open hs.at2
  refine c43 (b43_0 (r_bx hs ?_))
  intro p h hs
  refine r_ptEq (r_brf (b43_1 (r_ld hs rfl (r_ltI (r_brF (by omega) (b43_2 ?_))))))
  refine r_resv hs ?_
  intro r h hs
  have ht : Hs G h (seg t 0 (tagE ways n b o cap) :: _) := hs.front (seg t 0 (tagE ways n b o cap))
  have e1 : no % (n : Int) = ((setOf n no : Nat) : Int) := by
    unfold setOf
    have := Int.emod_nonneg no (show (n : Int) ≠ 0 by omega)
    omega
  refine r_nilP (r_padd (r_ld (b := t) (o := 0) ht rfl (r_ld (b := p) (o := 0) ht rfl (r_nilP (r_padd (r_ld (b := t) (o := 0) ht rfl (r_lenS (r_rem h0 (by omega) ?_))))))))
  rw [e1]
  refine r_idxN (setOf_lt hn) (r_nilP ?_)
  have hset : Hs G h (seg b (o + setOf n no * 1) [.slice a l.length c] :: _) := ht.front (seg b (o + setOf n no * 1) [.slice a l.length c])
  refine r_ld hset rfl (r_lenS ?_)
  by_cases hl0 : l.length = 0
  · have hln : l = [] := List.eq_nil_of_length_eq_zero hl0
    subst hln
    refine b43_3 (r_ltI (r_brF (by simp) (hk _ ?_)))
    exact (set_close b (o + setOf n no * 1) [] (a := a) (c := c) hset rfl rfl).to
  · have hslc := hset.front (slc 5 113 a c (l.length, encTs l))
    obtain ⟨b2, o2, ha, _⟩ := hslc.slcOpen (by omega)
    subst ha
    refine find_loop (no := no) (p := p) hb l.length 0 h (seg t 0 (tagE ways n b o cap) :: seg b (o + setOf n no * 1) [.slice (some ⟨b2, o2, none⟩) l.length c] :: M) (by omega) rfl hset.to ?_
    intro h' hs
    refine hk _ ?_
    exact (set_close b (o + setOf n no * 1) l (a := some ⟨b2, o2, none⟩) (c := c) hs rfl rfl).to
end Go.Proofs.YtfkjpjkkjlipiaaDoor
end
section
namespace Go.Proofs.YtfkjpjkkjlipiaaDoor
open Go Go.Ab Go.Hm Go.Ct
def peekV (n : Nat) (S : Nat → List Th) (no : Int) : Cpy × Int := if no < 0 then (Cpy.zero, 10) else match get no (S (setOf n no)) with | some x => (x, 0) | none => (Cpy.zero, 12)
theorem updA_idS {n : Nat} {S : Nat → List Th} {no : Int} : updA S (setOf n no) (S (setOf n no)) = S := updA_id
theorem enc_hd {l : List Th} (h : 0 < l.length) : (encTs l)[0 * 5 + (0 + 0)]? = some (I (l[0]).1) := by
  cases l with
  | nil => simp at h
  | cons y l => rfl
theorem set_app {no : Int} {l : List Th} {i : Nat} {x : Cpy} (h : l[i]? = some (no, x)) : ((encTs l).drop (i * 5 + 1)).take 4 = x.enc := by
  have := encTs_at h
  rw [← List.drop_drop]
  have h2 : (((encTs l).drop (i * 5)).take 5).drop 1 = x.enc := by rw [this]; rfl
  rw [List.drop_take] at h2
  exact h2
attribute [local irreducible] thn Br ld1 ldN stV alc alcAt alcS alcSAt resv padd nilV extV part1 partN lenS lenT biI biT biB biP biS biF biE biA unV idxS idxA pickV appV copyV clearV slS slA slT mkS blkOf at1 atN atS convI convS minV maxV Cl OkF OkR EndX endV beginV defersOf setLoop closeMarks
variable {G : Bg} {h : AH} {L L' M : List HP}
theorem peek_ok {t ways n : Nat} {no : Int} {S : Nat → List Th} {Q : Value → AH → Prop} (hn : 0 < n) (hb : ∀ i, (S i).length ≤ 4) (hs : Hs G h L) [m : Has (tagR G t ways n) L S L']
    (hk : ∀ h', Hs G h' (tagR G t ways n S :: L') → Q (.tuple ⟨[.agg ⟨(peekV n S no).1.enc⟩, I (peekV n S no).2]⟩) h') : Cl Pr K 16 [pt t 0 0, I no] h Q := by
  have hs := m.of hs
  refine c16 (b16_0 (r_new hs ?_))
  intro p h hs
  unfold peekV at hk
  by_cases h0 : no < 0
  · rw [if_pos h0] at hk
    refine find_neg h0 hs fun h hs => r_ext rfl (r_ext rfl (r_ext rfl (r_neI (r_brT (by omega) (r_ldN hs (by decide) (l := Cpy.zero.enc) rfl rfl ?_)))))
    refine r_stW hs rfl rfl rfl rfl ?_
    intro h hs
    exact r_ldN hs (by decide) (l := Cpy.zero.enc) rfl rfl (hk _ hs.tail)
  · rw [if_neg h0] at hk
    obtain ⟨b, o, cap, hs⟩ := tag_set (setOf_lt (no := no) hn) (hs.front (tagR G t ways n S))
    refine find_ok (t := t) (ways := ways) (n := n) (b := b) (o := o) (cap := cap) (l := S (setOf n no)) hn (by omega) (hb _) hs fun h hs => r_ext rfl (r_ext rfl (r_ext rfl (r_neI (r_brF (by omega) ?_))))
    refine b16_1 ?_
    cases hx : ix no (S (setOf n no)) with
    | none =>
      rw [(ix_none hx).1] at hk
      simp only [ixI, hx]
      refine r_ltI (r_brT (by omega) (r_ldN (b := p) (o := 0) hs (by decide) (l := Cpy.zero.enc) rfl rfl ?_))
      refine r_stW (b := p) (o := 0) hs rfl rfl rfl rfl ?_
      intro h hs
      refine r_ldN hs (by decide) (l := Cpy.zero.enc) rfl rfl (hk _ ?_)
      have := tag_shut t ways n S (setOf n no) (S (setOf n no)) b o cap (setOf_lt hn) hs
      rw [updA_idS] at this
      exact this.to
    | some i =>
      obtain ⟨x, h1, h2, h3, h4⟩ := ix_some hx
      rw [h2] at hk
      simp only [ixI, hx]
      obtain ⟨a, c, hs⟩ := set_open (hs.front (setR b (o + setOf n no * 1) (S (setOf n no))))
      obtain ⟨b2, o2, ha, hs1⟩ := (hs.front (slc 5 113 a c ((S (setOf n no)).length, encTs (S (setOf n no))))).holeOpen (by omega)
      subst ha
      refine r_ltI (r_brF (by omega) (r_nilP (r_ld (b := b) (o := o + setOf n no * 1) hs1 rfl (r_idxN h4 (r_padd (r_ldNI (b := b2) (o := o2) hs1 (by decide) (l := x.enc) (by rw [Nat.zero_add]; exact set_app h1) rfl ?_))))))
      have hs1 := hs1.holeClose (encTs_len _) (encTs_cell _)
      refine r_stW (b := p) (o := 0) hs1 rfl rfl rfl rfl ?_
      intro h hs
      refine r_ldN hs (by decide) (l := x.enc) rfl rfl (hk _ ?_)
      have hs := set_close b (o + setOf n no * 1) (S (setOf n no)) (a := some ⟨b2, o2, none⟩) (c := c) hs rfl rfl
      have := tag_shut t ways n S (setOf n no) (S (setOf n no)) b o cap (setOf_lt hn) hs
      rw [updA_idS] at this
      exact this.to
/-- the number that would have to go -/
def victimV (n ways : Nat) (S : Nat → List Th) (no : Int) : Option Th := match get no (S (setOf n no)) with
  | some _ => none
  | none => if (S (setOf n no)).length < ways then none else (S (setOf n no))[0]?
theorem victim_ok {t ways n : Nat} {no : Int} {S : Nat → List Th} {Q : Value → AH → Prop} (hw : 0 < ways) (hn : 0 < n) (h0 : 0 ≤ no) (hb : ∀ i, (S i).length ≤ 4) (hs : Hs G h L) [m : Has (tagR G t ways n) L S L']
    (hk : ∀ h', Hs G h' (tagR G t ways n S :: L') → Q (match victimV n ways S no with | some v => .tuple ⟨[I v.1, .bool true, I 0]⟩ | none => .tuple ⟨[I 0, .bool false, I 0]⟩) h') : Cl Pr K 45 [pt t 0 0, I no] h Q := by
  have hs := m.of hs
  unfold victimV at hk
  refine c45 (b45_0 ?_)
  obtain ⟨b, o, cap, hs⟩ := tag_set (setOf_lt (no := no) hn) (hs.front (tagR G t ways n S))
  refine find_ok (t := t) (ways := ways) (n := n) (b := b) (o := o) (cap := cap) (l := S (setOf n no)) hn (by omega) (hb _) hs fun h hs => r_ext rfl (r_ext rfl (r_ext rfl (r_neI (r_brF (by omega) ?_))))
  refine b45_1 (r_resv hs ?_)
  intro r h hs
  have back : ∀ {h : AH}, Hs G h (frK r (13, []) :: seg t 0 (tagE ways n b o cap) :: setR b (o + setOf n no * 1) (S (setOf n no)) :: hole G 1 114 (some ⟨b, o, none⟩) cap n b o :: tagX b o n S (setOf n no) :: L') → Hs G h (tagR G t ways n S :: L') := fun hs => by
    have := tag_shut t ways n S (setOf n no) (S (setOf n no)) b o cap (setOf_lt hn) hs
    rw [updA_idS] at this
    exact this.to
  cases hx : ix no (S (setOf n no)) with
  | some i =>
    obtain ⟨x, h1, h2, h3, h4⟩ := ix_some hx
    rw [h2] at hk
    simp only [ixI, hx]
    exact r_geI (r_brT (by omega) (hk _ (back hs)))
  | none =>
    rw [(ix_none hx).1] at hk
    simp only [ixI, hx]
    obtain ⟨a, c, hs⟩ := set_open (hs.front (setR b (o + setOf n no * 1) (S (setOf n no))))
    refine r_geI (r_brF (by omega) (r_nilP (r_ld (b := b) (o := o + setOf n no * 1) hs rfl (r_lenS (r_nilP (r_padd (r_ld (b := t) (o := 0) hs rfl (r_ltI (r_br (fun hc => ?_) (fun hc => ?_)))))))))) 
    · simp only [if_pos (show (S (setOf n no)).length < ways by omega)] at hk
      refine hk _ (back ?_)
      exact (set_close b (o + setOf n no * 1) (S (setOf n no)) (a := a) (c := c) hs rfl rfl).to
    · have hl : 0 < (S (setOf n no)).length := by omega
      simp only [if_neg (show ¬ (S (setOf n no)).length < ways by omega), List.getElem?_eq_getElem hl] at hk
      obtain ⟨b2, o2, ha, hs1⟩ := (hs.front (slc 5 113 a c ((S (setOf n no)).length, encTs (S (setOf n no))))).holeOpen hl
      subst ha
      refine r_nilP (r_ld (b := b) (o := o + setOf n no * 1) hs1 rfl (r_idxN (i := 0) hl (r_padd (r_ldI (b := b2) (o := o2) (i := 0 * 5) (j := 0 + 0) hs1 (v := I ((S (setOf n no))[0]).1) ?_ (hk _ ?_)))))
      · exact enc_hd hl
      · have hs1 := hs1.holeClose (encTs_len _) (encTs_cell _)
        refine back ?_
        exact (set_close b (o + setOf n no * 1) (S (setOf n no)) (a := some ⟨b2, o2, none⟩) (c := c) hs1 rfl rfl).to
theorem delete_ok {l : List Th} {i c : Nat} {a : Option Addr} {Q : Value → AH → Prop} (hi : i < l.length) (hb : l.length ≤ 4) (hs : Hs G h L) [m : Has (slc 5 113 a c) L (l.length, encTs l) L']
    (hk : ∀ h', Hs G h' (slc 5 113 a c (l.length - 1, encTs (l.take i ++ l.drop (i + 1))) :: L') → Q (.slice a (l.length - 1) c) h') : Cl Pr K 76 [.slice a l.length c, I i, I ((i : Int) + 1)] h Q := by
  have hs := m.of hs
  have hcap : l.length ≤ c := by
    obtain ⟨r, r2, ⟨_, _, hr⟩, _⟩ := hs.fst
    rcases hr with ⟨hz, _⟩ | ⟨hz, _⟩ | ⟨hcap, _⟩
    · simp only at hz; omega
    · simp only at hz; omega
    · exact hcap
  obtain ⟨b, o, ha, _⟩ := hs.slcOpen (by omega)
  refine c76 (b76_0 (r_lenS ?_))
  refine r_some (v := .slice (some ⟨b, o + i * 5, none⟩) (i + 1 - i) (l.length - i)) ?_ ?_
  · subst ha
    have b1 : bnd (some (I l.length)) c c = some l.length := by simp only [bnd]; rw [if_pos (by omega)]; simp
    have b2 : bnd (some (I ((i : Int) + 1))) l.length l.length = some (i + 1) := by simp only [bnd]; rw [if_pos (by omega)]; congr 1
    have b3 : bnd (some (I i)) 0 (i + 1) = some i := by simp only [bnd]; rw [if_pos (by omega)]; simp
    have hne : ¬ l.length = i := by omega
    simp only [slS, b1, b2, b3, Option.isNone_some, Bool.false_and, Option.isSome_none, Bool.false_eq_true, if_false, hne, add_none]
    rw [if_pos (by omega)]
  refine r_eqI (r_brF (by omega) (b76_1 (r_lenS (r_resv hs ?_))))
  intro r h hs
  refine r_del (i := i) (by decide) rfl rfl hi hs ?_
  intro h hs
  refine hk _ ?_
  rw [encTs_app, ← encTs_take, ← encTs_drop]
  exact hs.to
theorem rem_take {no : Int} {l : List Th} {i : Nat} (h : ix no l = some i) : rem no l = l.take i ++ l.drop (i + 1) := by obtain ⟨_, _, _, h3, _⟩ := ix_some h; exact h3
theorem rem_len1 {no : Int} {l : List Th} {i : Nat} (h : ix no l = some i) : l.length - 1 = (rem no l).length := by
  obtain ⟨x, h1, h2, h3, h4⟩ := ix_some h
  rw [rem_len, h2]; rfl
def dropV (n : Nat) (S : Nat → List Th) (no : Int) : Nat → List Th := if no < 0 then S else updA S (setOf n no) (rem no (S (setOf n no)))
theorem drop_ok {t ways n : Nat} {no : Int} {S : Nat → List Th} {Q : Value → AH → Prop} (hn : 0 < n) (hb : ∀ i, (S i).length ≤ 4) (hs : Hs G h L) [m : Has (tagR G t ways n) L S L']
    (hk : ∀ h', Hs G h' (tagR G t ways n (dropV n S no) :: L') → Q (.tuple ⟨[.agg ⟨(peekV n S no).1.enc⟩, I (peekV n S no).2]⟩) h') : Cl Pr K 46 [pt t 0 0, I no] h Q := by
  have hs := m.of hs
  refine c46 (b46_0 (r_new hs ?_))
  intro p h hs
  unfold peekV dropV at hk
  by_cases h0 : no < 0
  · rw [if_pos h0, if_pos h0] at hk
    refine find_neg h0 hs fun h hs => r_ext rfl (r_ext rfl (r_ext rfl (r_neI (r_brT (by omega) (r_ldN hs (by decide) (l := Cpy.zero.enc) rfl rfl ?_)))))
    refine r_stW hs rfl rfl rfl rfl ?_
    intro h hs
    exact r_ldN hs (by decide) (l := Cpy.zero.enc) rfl rfl (hk _ hs.tail)
  · rw [if_neg h0, if_neg h0] at hk
    obtain ⟨b, o, cap, hs⟩ := tag_set (setOf_lt (no := no) hn) (hs.front (tagR G t ways n S))
    refine find_ok (t := t) (ways := ways) (n := n) (b := b) (o := o) (cap := cap) (l := S (setOf n no)) hn (by omega) (hb _) hs fun h hs => r_ext rfl (r_ext rfl (r_ext rfl (r_neI (r_brF (by omega) ?_))))
    refine b46_1 ?_
    cases hx : ix no (S (setOf n no)) with
    | none =>
      rw [(ix_none hx).1, (ix_none hx).2, updA_idS] at hk
      simp only [ixI, hx]
      refine r_ltI (r_brT (by omega) (r_ldN (b := p) (o := 0) hs (by decide) (l := Cpy.zero.enc) rfl rfl ?_))
      refine r_stW (b := p) (o := 0) hs rfl rfl rfl rfl ?_
      intro h hs
      refine r_ldN hs (by decide) (l := Cpy.zero.enc) rfl rfl (hk _ ?_)
      have := tag_shut t ways n S (setOf n no) (S (setOf n no)) b o cap (setOf_lt hn) hs
      rw [updA_idS] at this
      exact this.to
    | some i =>
      obtain ⟨x, h1, h2, h3, h4⟩ := ix_some hx
      rw [h2] at hk
      simp only [ixI, hx]
      obtain ⟨a, c, hs⟩ := set_open (hs.front (setR b (o + setOf n no * 1) (S (setOf n no))))
      obtain ⟨b2, o2, ha, hs1⟩ := (hs.front (slc 5 113 a c ((S (setOf n no)).length, encTs (S (setOf n no))))).holeOpen (by omega)
      subst ha
      refine r_ltI (r_brF (by omega) (b46_2 (r_nilP (r_ld (b := b) (o := o + setOf n no * 1) hs1 rfl (r_idxN h4 (r_padd (r_ldNI (b := b2) (o := o2) hs1 (by decide) (l := x.enc) (by rw [Nat.zero_add]; exact set_app h1) rfl ?_)))))))
      have hs1 := hs1.holeClose (encTs_len _) (encTs_cell _)
      refine r_stW (b := p) (o := 0) hs1 rfl rfl rfl rfl ?_
      intro h hs
      refine r_nilP (r_ld (b := b) (o := o + setOf n no * 1) hs rfl (r_addI (by have := hb (setOf n no); omega) (delete_ok h4 (hb _) hs fun h hs => ?_)))
      refine r_nilP (r_sto (b := b) (o := o + setOf n no * 1) hs rfl rfl rfl rfl ?_)
      intro h hs
      refine r_ldN (b := p) (o := 0) hs (by decide) (l := x.enc) rfl rfl ?_
      refine r_stW (b := p) (o := 0) hs rfl rfl rfl rfl ?_
      intro h hs
      refine r_ldN hs (by decide) (l := x.enc) rfl rfl (hk _ ?_)
      rw [rem_len1 hx, ← rem_take hx] at hs
      have hs := set_close b (o + setOf n no * 1) (rem no (S (setOf n no))) (a := some ⟨b2, o2, none⟩) (c := c) hs rfl rfl
      exact (tag_shut t ways n S (setOf n no) (rem no (S (setOf n no))) b o cap (setOf_lt hn) hs).to
end Go.Proofs.YtfkjpjkkjlipiaaDoor
end
section
namespace Go.Proofs.YtfkjpjkkjlipiaaDoor
open Go Go.Ab Go.Hm Go.Ct
def putV (n ways : Nat) (S : Nat → List Th) (no : Int) (x : Cpy) : (Nat → List Th) × Int :=
  if (rem no (S (setOf n no))).length ≥ ways then (updA S (setOf n no) (rem no (S (setOf n no))), 11) else (updA S (setOf n no) (rem no (S (setOf n no)) ++ [(no, x)]), 0)
attribute [local irreducible] thn Br ld1 ldN stV alc alcAt alcS alcSAt resv padd nilV extV part1 partN lenS lenT biI biT biB biP biS biF biE biA unV idxS idxA pickV appV copyV clearV slS slA slT mkS blkOf at1 atN atS convI convS minV maxV Cl OkF OkR EndX endV beginV defersOf setLoop closeMarks
variable {G : Bg} {h : AH} {L L' M : List HP}
theorem put_4 {t ways n b o cap p c : Nat} {no : Int} {x : Cpy} {l : List Th} {a : Option Addr} {Q : Value → AH → Prop} (hb : l.length ≤ 4)
    (hs : Hs G h (seg p 0 x.enc :: seg b (o + setOf n no * 1) [.slice a l.length c] :: slc 5 113 a c (l.length, encTs l) :: L))
    (hk : ∀ h', Hs G h' (setR b (o + setOf n no * 1) (l ++ [(no, x)]) :: L) → Q (I 0) h') : A51_4 Q (I no) (pt p 0 0) (pt b (o + setOf n no * 1) 0) h := by
  refine b51_4 (r_resv hs ?_)
  intro r h hs
  refine r_nilP (r_ld (b := b) (o := o + setOf n no * 1) hs rfl (r_ldN (b := p) (o := 0) hs (by decide) (l := x.enc) rfl rfl ?_))
  refine r_fill (c := I no :: x.enc) rfl (r_fill (c := thE (no, x)) rfl ?_)
  refine r_newSAt (i := 7) (N := 11) (D := []) hs rfl rfl rfl rfl rfl ?_
  intro a2 h hs
  refine r_appS (a := a) (c := c) (n := l.length) (cs := encTs l) (a2 := some a2) (c2 := 1) (m := 1) (ns := thE (no, x)) hs (by omega) ?_
  intro a' c' h hs
  refine r_nilP (r_sto (b := b) (o := o + setOf n no * 1) hs rfl rfl rfl rfl ?_)
  intro h hs
  refine r_fl (by simp [veq, pt]) (hk _ ?_)
  have e1 : encTs l ++ thE (no, x) = encTs (l ++ [(no, x)]) := by simp [encTs]
  have hs := set_close b (o + setOf n no * 1) (l ++ [(no, x)]) (a := a') (c := c') (n := l.length + 1) hs (by simp) e1
  exact hs.to
theorem put_ok {t ways n : Nat} {no : Int} {x : Cpy} {S : Nat → List Th} {Q : Value → AH → Prop} (h0 : 0 ≤ no) (hn : 0 < n) (hb : ∀ i, (S i).length ≤ 4) (hs : Hs G h L) [m : Has (tagR G t ways n) L S L']
    (hk : ∀ h', Hs G h' (tagR G t ways n (putV n ways S no x).1 :: L') → Q (I (putV n ways S no x).2) h') : Cl Pr K 51 [pt t 0 0, I no, .agg ⟨x.enc⟩] h Q := by
  have hs := m.of hs
  refine c51 (b51_0 (r_bx hs ?_))
  intro p h hs
  obtain ⟨b, o, cap, hs⟩ := tag_set (setOf_lt (no := no) hn) (hs.front (tagR G t ways n S))
  refine find_ok (t := t) (ways := ways) (n := n) (b := b) (o := o) (cap := cap) (l := S (setOf n no)) hn (by omega) (hb _) hs fun h hs => r_ext rfl (r_ext rfl (r_ext rfl (r_neI (r_brF (by omega) ?_))))
  obtain ⟨a, c, hs⟩ := set_open (hs.front (setR b (o + setOf n no * 1) (S (setOf n no))))
  refine b51_1 ?_
  -- behind the deletion
  have fin : ∀ {h : AH} {M : List HP}, Hs G h (seg t 0 (tagE ways n b o cap) :: seg p 0 x.enc :: seg b (o + setOf n no * 1) [.slice a (rem no (S (setOf n no))).length c] :: slc 5 113 a c ((rem no (S (setOf n no))).length, encTs (rem no (S (setOf n no)))) ::
      hole G 1 114 (some ⟨b, o, none⟩) cap n b o :: tagX b o n S (setOf n no) :: L') →
      (thn (nilV (pt b (o + setOf n no * 1) 0)) fun v8 => thn (ld1 h v8) fun v9 => thn (lenS v9) fun v10 => thn (nilV (pt t 0 0)) fun v11 => thn (padd 0 v11) fun v12 => thn (ld1 h v12) fun v13 => thn (biI .geq v10 v13) fun v14 =>
        Br v14 (Q (I 11) h) (A51_4 Q (I no) (pt p 0 0) (pt b (o + setOf n no * 1) 0) h)) := by
    intro h M hs
    have hlen : (rem no (S (setOf n no))).length ≤ 4 := by rw [rem_len]; have := hb (setOf n no); split <;> omega
    unfold putV at hk
    refine r_nilP (r_ld (b := b) (o := o + setOf n no * 1) hs rfl (r_lenS (r_nilP (r_padd (r_ld (b := t) (o := 0) hs rfl (r_geI (r_br (fun hc => ?_) (fun hc => ?_))))))))
    · rw [if_pos (by omega)] at hk
      refine hk _ ?_
      have hs := set_close b (o + setOf n no * 1) (rem no (S (setOf n no))) (a := a) (c := c) hs rfl rfl
      exact (tag_shut t ways n S (setOf n no) (rem no (S (setOf n no))) b o cap (setOf_lt hn) hs).to
    · rw [if_neg (by omega)] at hk
      refine put_4 (t := t) (ways := ways) (cap := cap) (l := rem no (S (setOf n no))) (a := a) (c := c) hlen (show Hs G h (seg p 0 x.enc :: seg b (o + setOf n no * 1) [.slice a (rem no (S (setOf n no))).length c] :: slc 5 113 a c ((rem no (S (setOf n no))).length, encTs (rem no (S (setOf n no)))) :: seg t 0 (tagE ways n b o cap) ::
        hole G 1 114 (some ⟨b, o, none⟩) cap n b o :: tagX b o n S (setOf n no) :: L') from hs.to) ?_
      intro h hs
      exact hk _ (tag_shut t ways n S (setOf n no) (rem no (S (setOf n no)) ++ [(no, x)]) b o cap (setOf_lt hn) hs).to
  cases hx : ix no (S (setOf n no)) with
  | none =>
    have e := (ix_none hx).2
    simp only [ixI, hx]
    refine r_geI (r_brF (by omega) (b51_3 (r_resv hs ?_)))
    intro r h hs
    refine fin (M := []) ?_
    rw [e]
    exact hs.to
  | some i =>
    obtain ⟨y, h1, h2, h3, h4⟩ := ix_some hx
    simp only [ixI, hx]
    refine r_geI (r_brT (by omega) (b51_2 ?_))
    refine r_nilP (r_ld (b := b) (o := o + setOf n no * 1) hs rfl (r_addI (by have := hb (setOf n no); omega) (delete_ok h4 (hb _) hs fun h hs => ?_)))
    refine r_nilP (r_sto (b := b) (o := o + setOf n no * 1) hs rfl rfl rfl rfl ?_)
    intro h hs
    refine r_resv hs ?_
    intro r h hs
    refine fin (M := []) ?_
    rw [rem_len1 hx, ← rem_take hx] at hs
    have hs := hs.sg (b := b) (o := o + setOf n no * 1) (c := [.slice a (rem no (S (setOf n no))).length c]) rfl
    exact hs.to
end Go.Proofs.YtfkjpjkkjlipiaaDoor
end
section
namespace Go.Proofs.YtfkjpjkkjlipiaaDoor
open Go Go.Ab Go.Hm Go.Ct
theorem remB {no : Int} {l : List Th} (h : l.length ≤ 4) : (rem no l).length ≤ 4 := by rw [rem_len]; split <;> omega
theorem dropV_bd {n : Nat} {S : Nat → List Th} {no : Int} (hb : ∀ i, (S i).length ≤ 4) : ∀ i, (dropV n S no i).length ≤ 4 := by
  intro i
  unfold dropV
  split
  · exact hb i
  · unfold updA
    split
    · exact remB (hb _)
    · exact hb i
def getV (n ways : Nat) (S : Nat → List Th) (no : Int) : Nat → List Th := if (peekV n S no).2 = 0 then (putV n ways (dropV n S no) no (peekV n S no).1).1 else dropV n S no
def getE (n ways : Nat) (S : Nat → List Th) (no : Int) : Int := if (peekV n S no).2 = 0 then (putV n ways (dropV n S no) no (peekV n S no).1).2 else (peekV n S no).2
/-- how many things the first sets have -/
def lenV (S : Nat → List Th) : Nat → Nat
  | 0 => 0
  | n + 1 => lenV S n + (S n).length
theorem lenV_bd {S : Nat → List Th} (hb : ∀ i, (S i).length ≤ 4) (n : Nat) : lenV S n ≤ 4 * n := by
  induction n with
  | zero => simp [lenV]
  | succ n ih => have := hb n; simp only [lenV]; omega
attribute [local irreducible] thn Br ld1 ldN stV alc alcAt alcS alcSAt resv padd nilV extV part1 partN lenS lenT biI biT biB biP biS biF biE biA unV idxS idxA pickV appV copyV clearV slS slA slT mkS blkOf at1 atN atS convI convS minV maxV Cl OkF OkR EndX endV beginV defersOf setLoop closeMarks
variable {G : Bg} {h : AH} {L L' M : List HP}
theorem get_ok {t ways n : Nat} {no : Int} {S : Nat → List Th} {Q : Value → AH → Prop} (h0 : 0 ≤ no) (hn : 0 < n) (hb : ∀ i, (S i).length ≤ 4) (hs : Hs G h L) [m : Has (tagR G t ways n) L S L']
    (hk : ∀ h', Hs G h' (tagR G t ways n (getV n ways S no) :: L') → Q (.tuple ⟨[.agg ⟨(peekV n S no).1.enc⟩, I (getE n ways S no)]⟩) h') : Cl Pr K 49 [pt t 0 0, I no] h Q := by
  have hs := m.of hs
  refine c49 (b49_0 (r_new hs ?_))
  intro p h hs
  refine drop_ok (t := t) (ways := ways) (n := n) (S := S) hn hb hs fun h hs => r_ext rfl (r_ext rfl ?_)
  refine r_stW (b := p) (o := 0) hs rfl rfl rfl rfl ?_
  intro h hs
  unfold getV getE at hk
  refine r_neI (r_br (fun hc => ?_) (fun hc => ?_))
  · rw [if_neg hc, if_neg hc] at hk
    refine r_ldN hs (by decide) (l := (peekV n S no).1.enc) rfl rfl ?_
    refine r_stW hs rfl rfl rfl rfl ?_
    intro h hs
    exact r_ldN hs (by decide) (l := (peekV n S no).1.enc) rfl rfl (hk _ hs.tail)
  · rw [if_pos (by omega), if_pos (by omega)] at hk
    refine r_resv hs ?_
    intro r h hs
    refine r_ldN (b := p) (o := 0) hs (by decide) (l := (peekV n S no).1.enc) rfl rfl (r_ldN (b := p) (o := 0) hs (by decide) (l := (peekV n S no).1.enc) rfl rfl ?_)
    refine put_ok (t := t) (ways := ways) (n := n) (S := dropV n S no) h0 hn (dropV_bd hb) hs fun h hs => ?_
    refine r_stW (b := p) (o := 0) hs rfl rfl rfl rfl ?_
    intro h2 hs2
    refine r_fl ?_ ?_
    · refine r_ldN (b := p) (o := 0) hs (by decide) (l := (peekV n S no).1.enc) rfl rfl ?_
      exact veq_agg (by simp [Cpy.enc, veq])
    · exact r_ldN (b := p) (o := 0) hs2 (by decide) (l := (peekV n S no).1.enc) rfl rfl (hk _ hs2.to)
theorem len_loop {t ways n b o cap : Nat} {S : Nat → List Th} {Q : Value → AH → Prop} (hn : n ≤ 8) (hb : ∀ i, (S i).length ≤ 4) (hk : ∀ h', Hs G h' (big n (fun i => setR b (o + i * 1) (S i)) :: L) → Q (I (lenV S n)) h') : ∀ (r i : Nat) (h : AH), i + r = n → Hs G h (big n (fun i => setR b (o + i * 1) (S i)) :: L) →
    A25_2 Q (I (lenV S i)) (.slice (some ⟨b, o, none⟩) n cap) (I n) (I i) h := by
  intro r
  induction r with
  | zero =>
    intro i h hi hs
    have : i = n := by omega
    subst this
    exact b25_2 (r_ltI (r_brF (by omega) (hk _ hs)))
  | succ r ih =>
    intro i h hi hs
    refine b25_2 (r_ltI (r_brT (by omega) (b25_3 (r_idxN (by omega) ?_))))
    have hs1 := hs.bigOut i (by omega)
    obtain ⟨a, c, hs1⟩ := set_open hs1
    have hl := lenV_bd hb i
    have hli := hb i
    refine r_ld (b := b) (o := o + i * 1) hs1 rfl (r_lenS (r_addI (by omega) (r_addI (by omega) ?_)))
    have e : ((lenV S i : Int) + ((S i).length : Int)) = ((lenV S (i + 1) : Nat) : Int) := by simp [lenV]
    rw [e]
    refine ih (i + 1) h (by omega) ?_
    have hs1 := set_close b (o + i * 1) (S i) (a := a) (c := c) hs1 rfl rfl
    exact hs1.bigPut (n := n) (i := i) (fun i => setR b (o + i * 1) (S i)) (fun i => setR b (o + i * 1) (S i)) (by omega) (fun _ _ _ => rfl)
theorem len_ok {t ways n : Nat} {S : Nat → List Th} {Q : Value → AH → Prop} (hn : n ≤ 8) (hb : ∀ i, (S i).length ≤ 4) (hs : Hs G h L) [m : Has (tagR G t ways n) L S L']
    (hk : ∀ h', Hs G h' (tagR G t ways n S :: L') → Q (I (lenV S n)) h') : Cl Pr K 25 [pt t 0 0] h Q := by
  obtain ⟨b, o, cap, hs⟩ := tag_open (m.of hs)
  refine c25 (b25_0 (r_ptNe (r_brt (b25_1 (r_nilP (r_padd (r_ld (b := t) (o := 0) hs rfl (r_lenS ?_))))))))
  refine len_loop (t := t) (ways := ways) (n := n) (b := b) (o := o) (cap := cap) (S := S) (L := seg t 0 (tagE ways n b o cap) :: hole G 1 114 (some ⟨b, o, none⟩) cap n b o :: L') hn hb ?_ n 0 h (by omega) (hs.front (big n fun i => setR b (o + i * 1) (S i)))
  intro h hs
  exact hk _ (tag_close (b := b) (o := o) (cap := cap) hs.to)
end Go.Proofs.YtfkjpjkkjlipiaaDoor
end
section
namespace Go.Proofs.YtfkjpjkkjlipiaaDoor
open Go Go.Ab Go.Hm Go.Ct
theorem r_eqSn {a : Option Addr} {n c : Nat} {k : Value → Prop} (h1 : a = none → k (.bool true)) (h2 : a ≠ none → k (.bool false)) : thn (biS .eql (.slice a n c) (.slice none 0 0)) k := by
  cases a with
  | none => exact ⟨_, rfl, h1 rfl⟩
  | some a => exact ⟨_, rfl, h2 (by simp)⟩
attribute [local irreducible] thn Br ld1 ldN stV alc alcAt alcS alcSAt resv padd nilV extV part1 partN lenS lenT biI biT biB biP biS biF biE biA unV idxS idxA pickV appV copyV clearV slS slA slT mkS blkOf at1 atN atS convI convS minV maxV Cl OkF OkR EndX endV beginV defersOf setLoop closeMarks
variable {G : Bg} {h : AH} {L L' M : List HP}
theorem newSets {b o n : Nat} (hs : Hs G h (big n (fun i => seg b (o + i * 1) [.slice none 0 0]) :: L)) : Hs G h (big n (fun i => setR b (o + i * 1) []) :: L) :=
  Hs.bigMap (g := fun i => setR b (o + i * 1) []) n _ (fun i _ h L hs => (set_close b (o + i * 1) [] (a := none) (c := 0) (n := 0) (cs := []) (slc_nil (W := 5) (e := 113) hs).at2 rfl rfl)) hs
theorem tagsNew2_ok {s w : Int} (hs1 : 1 ≤ s ∧ s ≤ 8) (hw : 1 ≤ w ∧ w ≤ 4) {Q : Value → AH → Prop} (hs : Hs G h L) (hk : ∀ p h', Hs G h' (tagR G p w.toNat s.toNat (fun _ => []) :: L) → Q (.tuple ⟨[pt p 0 0, I 0]⟩) h') : Cl Pr K 35 [I s, I w] h Q := by
  refine c35 (b35_0 (r_ltI (r_brF (by omega) (r_gtI (r_brF (by omega) (r_ltI (r_brF (by omega) (r_gtI (r_brF (by omega) (r_mkSI (by omega) (by omega) (by omega) ?_))))))))))
  dsimp only
  refine r_newS hs ?_ rfl ?_ ?_
  · rw [zerosA_flat, flat_len (W := 1) (fun _ => rfl)]
  · rw [zerosA_flat]; exact flat_cells (fun _ => rfl) _
  intro a h hs
  obtain ⟨b, o, ha, hs⟩ := Hs.newBig (W := 1) rfl (by omega) hs
  cases ha
  have hw' : w = (w.toNat : Int) := by omega
  refine r_fill (c := tagE w.toNat s.toNat b o s.toNat) (by unfold tagE; rw [← hw']; rfl) (r_bx hs ?_)
  intro p h hs
  refine hk p h ?_
  have hs := newSets (hs.front (big s.toNat fun i => seg b (o + i * 1) [.slice none 0 0]))
  exact tag_close (b := b) (o := o) (cap := s.toNat) hs.to
theorem clone_ok {l : List Th} {a : Option Addr} {c : Nat} {Q : Value → AH → Prop} (hb : l.length ≤ 4) (hs : Hs G h L) [m : Has (slc 5 113 a c) L (l.length, encTs l) L']
    (hk : ∀ a' c' h', Hs G h' (slc 5 113 a' c' (l.length, encTs l) :: slc 5 113 a c (l.length, encTs l) :: L') → Q (.slice a' l.length c') h') : Cl Pr K 67 [.slice a l.length c] h Q := by
  have hs := m.of hs
  refine c67 (b67_0 (r_eqSn (fun ha => r_brt ?_) (fun _ => r_brf (r_fill (c := []) rfl ?_))))
  · subst ha
    have hl : l = [] := by
      cases l with
      | nil => rfl
      | cons y l => obtain ⟨b, o, ha, _⟩ := hs.slcOpen (by simp); cases ha
    subst hl
    exact hk none 0 h (slc_nil hs)
  · refine r_newS (W := 5) (n := 0) (c := 0) hs rfl rfl rfl ?_
    intro a2 h hs
    refine r_appS (a := some a2) (c := 0) (n := 0) (cs := []) (a2 := a) (c2 := c) (m := l.length) (ns := encTs l) hs (by omega) ?_
    intro a' c' h hs
    have := hk a' c' h (by simpa using hs)
    simpa using this
theorem copy_loop {p q b o cap b2 o2 cap2 n ways : Nat} {S : Nat → List Th} {Q : Value → AH → Prop} (hn : n ≤ 8) (hb : ∀ i, (S i).length ≤ 4)
    (hk : ∀ h', Hs G h' (big n (fun i => setR b (o + i * 1) (S i)) :: big n (fun i => setR b2 (o2 + i * 1) (S i)) :: seg q 0 (tagE ways n b2 o2 cap2) :: L) → Q (pt q 0 0) h') : ∀ (r i : Nat) (h : AH) (M : List HP), i + r = n →
    Hs G h (big n (fun i => setR b (o + i * 1) (S i)) :: big n (fun j => setR b2 (o2 + j * 1) (if j < i then S j else [])) :: seg q 0 (tagE ways n b2 o2 cap2) :: L) →
    A40_2 Q (pt q 0 0) (.slice (some ⟨b, o, none⟩) n cap) (I n) (I i) h := by
  intro r
  induction r with
  | zero =>
    intro i h M hi hs
    have : i = n := by omega
    subst this
    refine b40_2 (r_ltI (r_brF (by omega) (hk _ ?_)))
    exact (big_congr (f := fun j => setR b2 (o2 + j * 1) (if j < i then S j else [])) (g := fun j => setR b2 (o2 + j * 1) (S j)) (fun j hj => by rw [if_pos hj]) hs.at2).at2
  | succ r ih =>
    intro i h M hi hs
    have hin : i < n := by omega
    refine b40_2 (r_ltI (r_brT (by omega) (b40_3 (r_idxN hin ?_))))
    have hs1 := hs.bigOut i hin
    obtain ⟨a, c, hs1⟩ := set_open hs1
    refine r_ld (b := b) (o := o + i * 1) hs1 rfl (r_resv hs1 ?_)
    intro rr h hs
    refine r_nilP (r_padd (r_ld (b := q) (o := 0) hs rfl (clone_ok (l := S i) (a := a) (c := c) (hb i) hs fun a' c' h hs => ?_)))
    have hs2 := (hs.front (big n fun j => setR b2 (o2 + j * 1) (if j < i then S j else []))).bigOut i hin
    simp only [Nat.lt_irrefl, if_false] at hs2
    obtain ⟨a3, c3, hs2⟩ := set_open hs2
    refine r_idxN hin (r_sto (b := b2) (o := o2 + i * 1) hs2 rfl rfl rfl rfl ?_)
    intro h2 hs3
    refine r_fl veq_P (r_fl (r_nilP veq_P) (r_fl (r_padd veq_P) (r_fl (r_ld (b := q) (o := 0) hs2 rfl veq_S) (r_fl veq_I (r_addI (by omega) ?_)))))
    refine ih (i + 1) h2 [] (by omega) ?_
    have hs3 := set_close b2 (o2 + i * 1) (S i) (a := a') (c := c') hs3 rfl rfl
    have e0 : setR b2 (o2 + i * 1) (S i) = (fun j => setR b2 (o2 + j * 1) (if j < i + 1 then S j else [])) i := by simp only [Nat.lt_succ_self, if_true]
    rw [e0] at hs3
    have hs3 := hs3.bigPut (n := n) (i := i) (fun j => setR b2 (o2 + j * 1) (if j < i then S j else [])) (fun j => setR b2 (o2 + j * 1) (if j < i + 1 then S j else [])) hin (fun j _ hne => by
      have : (j < i + 1) = (j < i) := propext ⟨fun h => by omega, fun h => by omega⟩
      simp only [this])
    have hs3 := set_close b (o + i * 1) (S i) (a := a) (c := c) hs3 rfl rfl
    have hs3 := hs3.bigPut (n := n) (i := i) (fun j => setR b (o + j * 1) (S j)) (fun j => setR b (o + j * 1) (S j)) hin (fun _ _ _ => rfl)
    exact hs3.to
theorem copy_ok {t ways n : Nat} {S : Nat → List Th} {Q : Value → AH → Prop} (hn0 : 0 < n) (hn : n ≤ 8) (hb : ∀ i, (S i).length ≤ 4) (hs : Hs G h L) [m : Has (tagR G t ways n) L S L']
    (hk : ∀ q h', Hs G h' (tagR G q ways n S :: tagR G t ways n S :: L') → Q (pt q 0 0) h') : Cl Pr K 40 [pt t 0 0] h Q := by
  obtain ⟨b, o, cap, hs⟩ := tag_open (m.of hs)
  refine c40 (b40_0 (r_ptEq (r_brf (b40_1 (r_resv hs ?_)))))
  intro rr h hs
  refine r_nilP (r_padd (r_ld (b := t) (o := 0) hs rfl (r_nilP (r_padd (r_ld (b := t) (o := 0) hs rfl (r_lenS (r_mkS (by omega) (by omega) ?_)))))))
  dsimp only
  refine r_newSAt (i := 9) (N := 13) (D := []) hs rfl rfl ?_ rfl ?_ ?_
  · rw [zerosA_flat, flat_len (W := 1) (fun _ => rfl)]
  · rw [zerosA_flat]; exact flat_cells (fun _ => rfl) _
  intro a h hs
  obtain ⟨b2, o2, ha, hs⟩ := Hs.newBig (W := 1) rfl hn0 hs
  cases ha
  refine r_fill (c := tagE ways n b2 o2 n) rfl ?_
  refine r_bxAt (i := 11) hs rfl rfl ?_
  intro q h hs
  refine r_nilP (r_padd (r_ld (b := t) (o := 0) hs rfl (r_lenS ?_)))
  have hs := newSets (hs.front (big n fun i => seg b2 (o2 + i * 1) [.slice none 0 0]))
  refine copy_loop (G := G) (p := 0) (ways := ways) (n := n) (b := b) (o := o) (cap := cap) (b2 := b2) (o2 := o2) (cap2 := n) (S := S) (L := seg t 0 (tagE ways n b o cap) :: hole G 1 114 (some ⟨b, o, none⟩) cap n b o :: hole G 1 114 (some ⟨b2, o2, none⟩) n n b2 o2 :: L') hn hb ?_ n 0 h [] (by omega) ?_
  · intro h hs
    refine hk q h ?_
    have hs : Hs G h (seg q 0 (tagE ways n b2 o2 n) :: hole G 1 114 (some ⟨b2, o2, none⟩) n n b2 o2 :: big n (fun i => setR b2 (o2 + i * 1) (S i)) :: seg t 0 (tagE ways n b o cap) :: hole G 1 114 (some ⟨b, o, none⟩) cap n b o :: big n (fun i => setR b (o + i * 1) (S i)) :: L') := hs.to
    have hs := tag_close (b := b2) (o := o2) (cap := n) hs
    have hs : Hs G h (seg t 0 (tagE ways n b o cap) :: hole G 1 114 (some ⟨b, o, none⟩) cap n b o :: big n (fun i => setR b (o + i * 1) (S i)) :: tagR G q ways n S :: L') := hs.to
    exact (tag_close (b := b) (o := o) (cap := cap) hs).at2
  · simp only [Nat.not_lt_zero, if_false]
    exact hs.to
end Go.Proofs.YtfkjpjkkjlipiaaDoor
end
section
namespace Go.Proofs.YtfkjpjkkjlipiaaDoor
open Go Go.Ab Go.Hm Go.Ct
def cacE (t : Nat) (C : Cfg) (core : Int) (s : Cac) : List Value := pt t 0 0 :: (C.enc ++ [I core, I s.al, .bool s.aw, .bool s.ais, I s.gl, I s.gc.st, I s.gc.w, I s.gc.d.1, I s.gc.d.2, .bool s.gis])
def hasL (C : Cfg) (l : Int) : Bool := decide (0 ≤ l ∧ l < C.lines)
def mayV (n : Nat) (S : Nat → List Th) (l ow : Int) (w : Bool) : Bool := decide ((peekV n S l).2 = 0) && decide ((peekV n S l).1.w = ow) && allowsS (peekV n S l).1.st w
def reachV (C : Cfg) (S : Nat → List Th) (l at' ow : Int) (w : Bool) : Int :=
  if hasL C l = false then 10 else if at' < 0 then 10 else if at' ≥ 2 then 10 else if mayV C.sets.toNat S l ow w = false then 16 else 0
def readS (C : Cfg) (s : Cac) (l at' ow : Int) : Cac := if reachV C s.S l at' ow false = 0 then { s with S := getV C.sets.toNat C.ways.toNat s.S l } else s
def setD (d : Ln) (at' v : Int) : Ln := if at' = 0 then (v, d.2) else (d.1, v)
def wroteV (n : Nat) (S : Nat → List Th) (l at' v : Int) : Cpy := ⟨4, (peekV n S l).1.w, setD (peekV n S l).1.d at' v⟩
def writeS (C : Cfg) (s : Cac) (l at' ow v : Int) : Cac := if reachV C s.S l at' ow true = 0 then { s with S := (putV C.sets.toNat C.ways.toNat s.S l (wroteV C.sets.toNat s.S l at' v)).1 } else s
def Bd (s : Cac) : Prop := ∀ i, (s.S i).length ≤ 4
attribute [local irreducible] thn Br ld1 ldN stV alc alcAt alcS alcSAt resv padd nilV extV part1 partN lenS lenT biI biT biB biP biS biF biE biA unV idxS idxA pickV appV copyV clearV slS slA slT mkS blkOf at1 atN atS convI convS minV maxV Cl OkF OkR EndX endV beginV defersOf setLoop closeMarks
variable {G : Bg} {h : AH} {L L' M : List HP}
def cacR (G : Bg) (c : Nat) (C : Cfg) (core : Int) (s : Cac) : HP := exH fun t : Nat => sp [seg c 0 (cacE t C core s), tagR G t C.ways.toNat C.sets.toNat s.S]
theorem cac_open {c : Nat} {C : Cfg} {core : Int} {s : Cac} (hs : Hs G h (cacR G c C core s :: L)) : ∃ t, Hs G h (seg c 0 (cacE t C core s) :: tagR G t C.ways.toNat C.sets.toNat s.S :: L) := by
  obtain ⟨t, hs⟩ := hs.exE
  exact ⟨t, hs.unpack⟩
theorem cac_close (c t : Nat) (C : Cfg) (core : Int) (s : Cac) {cs : List Value} {S : Nat → List Th} {L1 L2 : List HP} (hs : Hs G h L) [m : Has (seg c 0) L cs L1] [m2 : Has (tagR G t C.ways.toNat C.sets.toNat) L1 S L2] (h1 : cs = cacE t C core s) (h2 : S = s.S) : Hs G h (cacR G c C core s :: L2) := by
  subst h1; subst h2
  exact Hs.exI (A := fun t : Nat => sp [seg c 0 (cacE t C core s), tagR G t C.ways.toNat C.sets.toNat s.S]) t (Hs.pack (A := [_, _]) (hs.perm (m.perm.trans (m2.perm.cons _))))
theorem lines_ok {C : Cfg} (hC : C.Ok) {Q : Value → AH → Prop} (hl : Ob G 0 limE) (hs : Hs G h L) (hk : ∀ h', Hs G h' L → Q (I C.lines) h') : Cl Pr K 72 [.agg ⟨C.enc⟩] h Q := by
  refine c72 (b72_0 ?_)
  refine r_bx hs ?_
  intro p h hs
  refine r_ldN hs (by decide) (l := C.enc) rfl rfl (check_ok hl hs fun h hs => ?_)
  rw [if_pos hC]
  have hb := Cfg.lines_eq hC
  refine r_neI (r_brF (by omega) ?_)
  refine r_padd (r_ld hs rfl (r_mulI (by unfold Cfg.Ok at hC; omega) ?_))
  rw [show C.granules * 2 = (C.lines : Int) from hb.1.symm]
  exact hk _ hs.tail
variable {C : Cfg} {core : Int} {c : Nat} {s : Cac}
theorem setsP (hC : C.Ok) : 0 < C.sets.toNat ∧ C.sets.toNat ≤ 8 ∧ 0 < C.ways.toNat ∧ C.ways.toNat ≤ 4 := by unfold Cfg.Ok at hC; omega
theorem has_ok (hC : C.Ok) {l : Int} {Q : Value → AH → Prop} (hl : Ob G 0 limE) (hs : Hs G h L) [m : Has (cacR G c C core) L s L'] (hk : ∀ h', Hs G h' (cacR G c C core s :: L') → Q (.bool (hasL C l)) h') : Cl Pr K 42 [pt c 0 0, I l] h Q := by
  obtain ⟨t, hs⟩ := cac_open (m.of hs)
  refine c42 (b42_0 (r_geI (r_br (fun h1 => ?_) (fun h1 => ?_))))
  · refine r_nilP (r_padd (r_ldN (b := c) (o := 0) hs (by decide) (l := C.enc) rfl rfl (lines_ok hC hl hs fun h hs => r_ltI ?_)))
    rw [show decide (l < (C.lines : Int)) = hasL C l from decide_eq_decide.2 (by omega)]
    exact hk _ (cac_close c t C core s hs rfl rfl)
  · rw [show hasL C l = false from decide_eq_false (by omega)] at hk
    exact hk _ (cac_close c t C core s hs rfl rfl)
theorem may_ok (hC : C.Ok) (hb : Bd s) {l ow : Int} {w : Bool} {Q : Value → AH → Prop} (ho : Ob G 1 rowsE) (hs : Hs G h L) [m : Has (cacR G c C core) L s L'] (hk : ∀ h', Hs G h' (cacR G c C core s :: L') → Q (.bool (mayV C.sets.toNat s.S l ow w)) h') : Cl Pr K 17 [pt c 0 0, I l, I ow, .bool w] h Q := by
  obtain ⟨t, hs⟩ := cac_open (m.of hs)
  refine c17 (b17_0 (r_ptEq (r_brf (b17_1 (r_nilP (r_padd (r_ld (b := c) (o := 0) hs rfl ?_)))))))
  refine peek_ok (t := t) (ways := C.ways.toNat) (n := C.sets.toNat) (S := s.S) (setsP hC).1 hb hs fun h hs => r_ext rfl (r_ext rfl (r_new hs ?_))
  intro p h hs
  refine r_stW hs rfl rfl rfl rfl ?_
  intro h hs
  unfold mayV at hk
  refine r_eqI (r_br (fun h1 => r_padd (r_ld hs rfl (r_eqI (r_br (fun h2 => ?_) (fun h2 => ?_))))) (fun h1 => ?_))
  · rw [decide_eq_true h1, decide_eq_true h2, Bool.true_and, Bool.true_and] at hk
    exact r_ldN hs (by decide) (l := (peekV C.sets.toNat s.S l).1.enc) rfl rfl (allows_ok ho hs fun h hs => hk _ (cac_close c t C core s hs rfl rfl).to)
  · rw [decide_eq_false h2, Bool.and_false, Bool.false_and] at hk
    exact hk _ (cac_close c t C core s hs rfl rfl).to
  · rw [decide_eq_false h1, Bool.false_and, Bool.false_and] at hk
    exact hk _ (cac_close c t C core s hs rfl rfl).to
theorem reach_ok (hC : C.Ok) (hb : Bd s) {l at' ow : Int} {w : Bool} {Q : Value → AH → Prop} (hl : Ob G 0 limE) (ho : Ob G 1 rowsE) (hs : Hs G h L) [m : Has (cacR G c C core) L s L'] (hk : ∀ h', Hs G h' (cacR G c C core s :: L') → Q (I (reachV C s.S l at' ow w)) h') : Cl Pr K 48 [pt c 0 0, I l, I at', I ow, .bool w] h Q := by
  have hs := m.of hs
  unfold reachV at hk
  refine c48 (b48_0 (r_ptEq (r_brf (b48_1 (has_ok (c := c) (core := core) (s := s) hC hl hs fun h hs => r_not (r_brn (r_brb (fun h1 => ?_) (fun h1 => ?_))))))))
  · rw [h1] at hk
    simp only [Bool.true_eq_false, if_false] at hk
    refine r_ltI (r_br (fun h2 => ?_) (fun h2 => r_geI (r_br (fun h3 => ?_) (fun h3 => b48_2 (may_ok (c := c) (core := core) (s := s) hC hb ho hs fun h hs => r_not (r_brn (r_brb (fun h4 => ?_) (fun h4 => ?_))))))))
    · rw [if_pos h2] at hk; exact hk _ hs
    · rw [if_neg h2, if_pos h3] at hk; exact hk _ hs
    · rw [if_neg h2, if_neg h3, if_neg (by rw [h4]; simp)] at hk; exact hk _ hs
    · rw [if_neg h2, if_neg h3, if_pos h4] at hk; exact hk _ hs
  · rw [if_pos h1] at hk; exact hk _ hs
theorem reach0 {S : Nat → List Th} {l at' ow : Int} {w : Bool} (h : reachV C S l at' ow w = 0) : (0 ≤ l ∧ l < C.lines) ∧ (at' = 0 ∨ at' = 1) ∧ (peekV C.sets.toNat S l).2 = 0 ∧ allowsS (peekV C.sets.toNat S l).1.st w = true := by
  unfold reachV at h
  split at h
  · omega
  · split at h
    · omega
    · split at h
      · omega
      · split at h
        · omega
        · rename_i h1 h2 h3 h4
          have h1 : hasL C l = true := by simpa using h1
          have h4 : mayV C.sets.toNat S l ow w = true := by simpa using h4
          unfold hasL at h1
          unfold mayV at h4
          simp only [Bool.and_eq_true, decide_eq_true_eq] at h4
          exact ⟨of_decide_eq_true h1, by omega, h4.1.1, h4.2⟩
theorem read_ok (hC : C.Ok) (hb : Bd s) {l at' ow : Int} {Q : Value → AH → Prop} (hl : Ob G 0 limE) (ho : Ob G 1 rowsE) (hs : Hs G h L) [m : Has (cacR G c C core) L s L'] (hk : ∀ v e h', Hs G h' (cacR G c C core (readS C s l at' ow) :: L') → Q (.tuple ⟨[I v, I e]⟩) h') : Cl Pr K 20 [pt c 0 0, I l, I at', I ow] h Q := by
  have hs := m.of hs
  unfold readS at hk
  refine c20 (b20_0 (reach_ok (c := c) (core := core) (s := s) hC hb hl ho hs fun h hs => r_neI (r_br (fun h1 => ?_) (fun h1 => ?_))))
  · rw [if_neg h1] at hk; exact hk _ _ _ hs
  · have h1 : reachV C s.S l at' ow false = 0 := by omega
    rw [if_pos h1] at hk
    obtain ⟨hl1, ha, hp, _⟩ := reach0 h1
    obtain ⟨t, hs⟩ := cac_open hs
    refine b20_1 (r_nilP (r_padd (r_ld (b := c) (o := 0) hs rfl (get_ok (t := t) (ways := C.ways.toNat) (n := C.sets.toNat) (S := s.S) hl1.1 (setsP hC).1 hb hs fun h hs => r_ext rfl (r_ext rfl (r_new hs ?_))))))
    intro p h hs
    refine r_stW hs rfl rfl rfl rfl ?_
    intro h hs
    have hs2 := fun {h : AH} hs => (cac_close c t C core { s with S := getV C.sets.toNat C.ways.toNat s.S l } (G := G) (h := h) (L := seg p 0 (peekV C.sets.toNat s.S l).1.enc :: tagR G t C.ways.toNat C.sets.toNat (getV C.sets.toNat C.ways.toNat s.S l) :: seg c 0 (cacE t C core s) :: L') hs rfl rfl)
    refine r_neI (r_br (fun h2 => hk _ _ _ (hs2 hs).to) (fun h2 => r_padd ?_))
    rcases ha with rfl | rfl
    · exact r_idxA (by decide) (by decide) (r_ld (b := p) (o := 0) hs rfl (hk _ _ _ (hs2 hs).to))
    · exact r_idxA (by decide) (by decide) (r_ld (b := p) (o := 0) hs rfl (hk _ _ _ (hs2 hs).to))
end Go.Proofs.YtfkjpjkkjlipiaaDoor
end
section
namespace Go.Proofs.YtfkjpjkkjlipiaaDoor
open Go Go.Ab Go.Hm Go.Ct
/-- what is wanted: the cache behind it, the notes, the code -/
def wantF (core : Int) (s : Cac) (l w : Int) (wr : Bool) (ns : List Note) : Cac × List Note × Int :=
  ({ s with al := l, aw := wr, ais := true }, ns ++ [⟨if wr then 2 else 1, core, l, w, 0, 0, 0, false, 0⟩], 0)
def wantV (C : Cfg) (core : Int) (s : Cac) (l w : Int) (wr : Bool) : Cac × List Note × Int :=
  match victimV C.sets.toNat C.ways.toNat s.S l with
  | none => wantF core s l w wr []
  | some v =>
    if s.gis then (s, [], 11) else
    if (peekV C.sets.toNat s.S v.1).2 ≠ 0 then ({ s with S := dropV C.sets.toNat s.S v.1 }, [], (peekV C.sets.toNat s.S v.1).2) else
    wantF core { s with S := dropV C.sets.toNat s.S v.1, gl := v.1, gc := (peekV C.sets.toNat s.S v.1).1, gis := true } l w wr
      [⟨3, core, v.1, (peekV C.sets.toNat s.S v.1).1.w, 0, (peekV C.sets.toNat s.S v.1).1.d.1, (peekV C.sets.toNat s.S v.1).1.d.2, dirtyS (peekV C.sets.toNat s.S v.1).1.st, 0⟩]
def want (C : Cfg) (core : Int) (s : Cac) (l w : Int) (wr : Bool) : Cac × List Note × Int :=
  if hasL C l = false then (s, [], 10) else if s.ais then (s, [], 17) else if s.gis = true ∧ s.gl = l then (s, [], 16) else
  if (peekV C.sets.toNat s.S l).2 = 0 ∧ allowsS (peekV C.sets.toNat s.S l).1.st wr = true then (s, [], 13) else wantV C core s l w wr
theorem bd_drop {n : Nat} {s : Cac} {no : Int} (hb : Bd s) : Bd { s with S := dropV n s.S no } := dropV_bd hb
attribute [local irreducible] thn Br ld1 ldN stV alc alcAt alcS alcSAt resv padd nilV extV part1 partN lenS lenT biI biT biB biP biS biF biE biA unV idxS idxA pickV appV copyV clearV slS slA slT mkS blkOf at1 atN atS convI convS minV maxV Cl OkF OkR EndX endV beginV defersOf setLoop closeMarks
variable {G : Bg} {h : AH} {L L' M : List HP} {C : Cfg} {core : Int} {c : Nat} {s : Cac}
theorem cac_tail {s' : Cac} {c t : Nat} {cs : List Value} {S : Nat → List Th} {L1 L2 : List HP} (h1 : cs = cacE t C core s') (h2 : S = s'.S) (hs : Hs G h L) [m : Has (seg c 0) L cs L1] [m2 : Has (tagR G t C.ways.toNat C.sets.toNat) L1 S L2] : Hs G h (cacR G c C core s' :: L2) := cac_close c t C core s' hs h1 h2
theorem write_ok (hC : C.Ok) (hb : Bd s) {l at' ow v : Int} {Q : Value → AH → Prop} (hl : Ob G 0 limE) (ho : Ob G 1 rowsE) (hs : Hs G h L) [m : Has (cacR G c C core) L s L'] (hk : ∀ e h', Hs G h' (cacR G c C core (writeS C s l at' ow v) :: L') → Q (I e) h') : Cl Pr K 22 [pt c 0 0, I l, I at', I ow, I v] h Q := by
  have hs := m.of hs
  unfold writeS at hk
  refine c22 (b22_0 (reach_ok (c := c) (core := core) (s := s) hC hb hl ho hs fun h hs => r_neI (r_br (fun h1 => ?_) (fun h1 => ?_))))
  · rw [if_neg h1] at hk; exact hk _ _ hs
  · have h1 : reachV C s.S l at' ow true = 0 := by omega
    rw [if_pos h1] at hk
    obtain ⟨hl1, ha, hp, hst⟩ := reach0 h1
    have hst : storeS (peekV C.sets.toNat s.S l).1.st = true := hst
    obtain ⟨t, hs⟩ := cac_open hs
    refine b22_1 (r_nilP (r_padd (r_ld (b := c) (o := 0) hs rfl ?_)))
    refine peek_ok (t := t) (ways := C.ways.toNat) (n := C.sets.toNat) (S := s.S) (setsP hC).1 hb hs fun h hs => r_ext rfl (r_ext rfl (r_new hs ?_))
    intro p h hs
    refine r_stW hs rfl rfl rfl rfl ?_
    intro h hs
    refine r_neI (r_brF (by omega) (b22_2 (r_padd (r_ld (b := p) (o := 0) hs rfl (wrote_ok ho hs hst (r_ext rfl (r_ext rfl (r_padd (r_sto (b := p) (o := 0) hs rfl rfl rfl rfl ?_)))))))))
    intro h hs
    refine r_neI (r_brF (by omega) (b22_3 (r_padd ?_)))
    have key : ∀ {h : AH}, Hs G h (seg p 0 (wroteV C.sets.toNat s.S l at' v).enc :: tagR G t C.ways.toNat C.sets.toNat s.S :: seg c 0 (cacE t C core s) :: L') →
        resv h 8 fun _ h3 => thn (nilV (pt c 0 0)) fun v5 => thn (padd 0 v5) fun v6 => thn (ld1 h3 v6) fun v7 => thn (ldN h3 4 (pt p 0 0)) fun v8 => Cl Pr K 51 [v7, I l, v8] h3 fun v9 h9 => Q v9 h9 := by
      intro h hs
      refine r_resv hs ?_
      intro r h hs
      refine r_nilP (r_padd (r_ld (b := c) (o := 0) hs rfl (r_ldN (b := p) (o := 0) hs (by decide) (l := (wroteV C.sets.toNat s.S l at' v).enc) rfl rfl ?_)))
      refine put_ok (t := t) (ways := C.ways.toNat) (n := C.sets.toNat) (S := s.S) hl1.1 (setsP hC).1 hb hs fun h hs => ?_
      exact hk _ _ (cac_close c t C core { s with S := (putV C.sets.toNat C.ways.toNat s.S l (wroteV C.sets.toNat s.S l at' v)).1 } (cs := cacE t C core s) hs rfl rfl).to
    rcases ha with rfl | rfl
    · refine r_idxA (by decide) (by decide) (r_sto (b := p) (o := 0) hs rfl rfl rfl rfl ?_)
      intro h hs
      exact key ((hs.sg (b := p) (o := 0) (c := (wroteV C.sets.toNat s.S l 0 v).enc) rfl).to)
    · refine r_idxA (by decide) (by decide) (r_sto (b := p) (o := 0) hs rfl rfl rfl rfl ?_)
      intro h hs
      exact key ((hs.sg (b := p) (o := 0) (c := (wroteV C.sets.toNat s.S l 1 v).enc) rfl).to)
theorem want_10 {t : Nat} {l w : Int} {wr : Bool} {ns : List Note} {a : Option Addr} {cp : Nat} {Q : Value → AH → Prop} (hn : ns.length ≤ 1) (hs : Hs G h (seg c 0 (cacE t C core (wantF core s l w wr ns).1) :: tagR G t C.ways.toNat C.sets.toNat s.S :: slc 9 26 a cp (ns.length, encNs ns) :: L))
    (hk : ∀ a' c' h', Hs G h' (slc 9 26 a' c' ((wantF core s l w wr ns).2.1.length, encNs (wantF core s l w wr ns).2.1) :: cacR G c C core (wantF core s l w wr ns).1 :: L) → Q (.tuple ⟨[.slice a' (wantF core s l w wr ns).2.1.length c', I 0]⟩) h') :
    Br (.bool wr) (A19_10 Q (pt c 0 0) (I l) (I w) (.slice a ns.length cp) h) (thn (nilV (pt c 0 0)) fun v35 => thn (padd 8 v35) fun v36 => thn (ld1 h v36) fun v37 =>
      thn (fillL [(I 0), (I 0), (I 0), (I 0), (I 0), (I 0), (I 0), (.bool false), (I 0)] [(0, 1, (I 1)), (1, 1, v37), (2, 1, (I l)), (3, 1, (I w))]) fun c38 =>
      thn (fillL [(I 0), (I 0), (I 0), (I 0), (I 0), (I 0), (I 0), (.bool false), (I 0)] [(0, 9, (.agg ⟨c38⟩))]) fun l40 =>
      alcS h 9 26 l40 1 1 fun s41 h39 => thn (appV 9 72 26 h39 (.slice a ns.length cp) s41) fun r42 => (fun v43 h44 => Q (.tuple ⟨[v43, (I 0)]⟩) h44) r42.1 r42.2) := by
  have fin : ∀ {h : AH} {a' : Option Addr} {c' : Nat} (x : Note), x = ⟨if wr then 2 else 1, core, l, w, 0, 0, 0, false, 0⟩ → Hs G h (slc 9 26 a' c' (ns.length + 1, encNs ns ++ x.enc) :: seg c 0 (cacE t C core (wantF core s l w wr ns).1) :: tagR G t C.ways.toNat C.sets.toNat s.S :: L) → Q (.tuple ⟨[.slice a' (ns.length + 1) c', I 0]⟩) h := by
    intro h a' c' x hx hs
    have e1 : (wantF core s l w wr ns).2.1 = ns ++ [x] := by rw [hx]; rfl
    have := hk a' c' h
    rw [e1] at this
    simp only [List.length_append, List.length_cons, List.length_nil, encNs, List.flatMap_append, List.flatMap_cons, List.flatMap_nil, List.append_nil, Nat.zero_add] at this
    refine this ?_
    have hs := cac_tail (s' := (wantF core s l w wr ns).1) (t := t) (c := c) rfl rfl hs
    exact hs.at2
  cases wr
  · refine r_brf (r_nilP (r_padd (r_ld (b := c) (o := 0) hs rfl (r_fill (c := (⟨1, core, l, w, 0, 0, 0, false, 0⟩ : Note).enc) rfl (r_fill (c := (⟨1, core, l, w, 0, 0, 0, false, 0⟩ : Note).enc) rfl (r_newS (W := 9) (n := 1) (c := 1) hs rfl rfl rfl ?_))))))
    intro a2 h hs
    refine r_appS (a := a) (c := cp) (n := ns.length) (cs := encNs ns) (a2 := some a2) (c2 := 1) (m := 1) (ns := (⟨1, core, l, w, 0, 0, 0, false, 0⟩ : Note).enc) hs (by omega) ?_
    intro a' c' h hs
    exact fin ⟨1, core, l, w, 0, 0, 0, false, 0⟩ rfl hs.to
  · refine r_brt (b19_10 (r_nilP (r_padd (r_ld (b := c) (o := 0) hs rfl (r_fill (c := (⟨2, core, l, w, 0, 0, 0, false, 0⟩ : Note).enc) rfl (r_fill (c := (⟨2, core, l, w, 0, 0, 0, false, 0⟩ : Note).enc) rfl (r_newS (W := 9) (n := 1) (c := 1) hs rfl rfl rfl ?_)))))))
    intro a2 h hs
    refine r_appS (a := a) (c := cp) (n := ns.length) (cs := encNs ns) (a2 := some a2) (c2 := 1) (m := 1) (ns := (⟨2, core, l, w, 0, 0, 0, false, 0⟩ : Note).enc) hs (by omega) ?_
    intro a' c' h hs
    exact fin ⟨2, core, l, w, 0, 0, 0, false, 0⟩ rfl hs.to
/-- the last note of what is wanted -/
theorem want_last {t : Nat} {l w : Int} {wr : Bool} {ns : List Note} {a : Option Addr} {cp : Nat} {Q : Value → AH → Prop} (hn : ns.length ≤ 1) (hs : Hs G h (seg c 0 (cacE t C core s) :: tagR G t C.ways.toNat C.sets.toNat s.S :: slc 9 26 a cp (ns.length, encNs ns) :: L))
    (hk : ∀ a' c' h', Hs G h' (slc 9 26 a' c' ((wantF core s l w wr ns).2.1.length, encNs (wantF core s l w wr ns).2.1) :: cacR G c C core (wantF core s l w wr ns).1 :: L) → Q (.tuple ⟨[.slice a' (wantF core s l w wr ns).2.1.length c', I 0]⟩) h') :
    A19_8 Q (pt c 0 0) (I l) (I w) (.bool wr) (.slice a ns.length cp) h := by
  refine b19_8 (r_fill (c := [I l, .bool wr, .bool true]) rfl (r_nilP (r_padd (r_sto (b := c) (o := 0) hs rfl rfl rfl rfl ?_))))
  intro h hs
  have hs := hs.sg (b := c) (o := 0) (c := cacE t C core (wantF core s l w wr ns).1) rfl
  exact want_10 (t := t) hn hs hk
theorem want_11 (hb : Bd s) {t p : Nat} {l w no : Int} {x : Cpy} {wr : Bool} {S : Nat → List Th} {Q : Value → AH → Prop} (ho : Ob G 1 rowsE) (hs : Hs G h (seg p 0 x.enc :: seg c 0 (cacE t C core s) :: tagR G t C.ways.toNat C.sets.toNat S :: L))
    (hk : ∀ a' c' h' r, r = wantF core { s with S := S, gl := no, gc := x, gis := true } l w wr [⟨3, core, no, x.w, 0, x.d.1, x.d.2, dirtyS x.st, 0⟩] → Hs G h' (slc 9 26 a' c' (r.2.1.length, encNs r.2.1) :: cacR G c C core r.1 :: L) → Q (.tuple ⟨[.slice a' r.2.1.length c', I 0]⟩) h') :
    A19_11 Q (pt c 0 0) (I l) (I w) (.bool wr) (.slice none 0 0) (I no) (pt p 0 0) h := by
  refine b19_11 (r_ldN hs (by decide) (l := x.enc) rfl rfl (r_fill (c := [I no, I x.st, I x.w, I x.d.1, I x.d.2, .bool true]) rfl (r_nilP (r_padd (r_sto (b := c) (o := 0) hs rfl rfl rfl rfl ?_)))))
  intro h hs
  have hs := hs.sg (b := c) (o := 0) (c := cacE t C core { s with S := S, gl := no, gc := x, gis := true }) rfl
  refine r_resv hs ?_
  intro rr h hs
  refine r_nilP (r_padd (r_ld (b := c) (o := 0) hs rfl (r_padd (r_ld (b := p) (o := 0) hs rfl (r_padd (r_ldN (b := p) (o := 0) hs (by decide) (l := [I x.d.1, I x.d.2]) rfl rfl (r_padd (r_ld (b := p) (o := 0) hs rfl (dirty_ok ho hs ?_)))))))))
  refine r_fill (c := (⟨3, core, no, x.w, 0, x.d.1, x.d.2, dirtyS x.st, 0⟩ : Note).enc) rfl (r_fill (c := (⟨3, core, no, x.w, 0, x.d.1, x.d.2, dirtyS x.st, 0⟩ : Note).enc) rfl ?_)
  refine r_newSAt (i := 14) (N := 17) (D := []) hs rfl rfl rfl rfl rfl ?_
  intro a2 h hs
  have hs := slc_nil (W := 9) (e := 26) hs
  refine r_appS (a := none) (c := 0) (n := 0) (cs := []) (a2 := some a2) (c2 := 1) (m := 1) (ns := (⟨3, core, no, x.w, 0, x.d.1, x.d.2, dirtyS x.st, 0⟩ : Note).enc) hs (by omega) ?_
  intro a' c' h2 hs2
  have hsp : Hs G h (seg p 0 x.enc :: _) := hs.front (seg p 0 x.enc)
  have hsc : Hs G h (seg c 0 (cacE t C core { s with S := S, gl := no, gc := x, gis := true }) :: _) := hs.front (seg c 0 (cacE t C core { s with S := S, gl := no, gc := x, gis := true }))
  refine r_fl veq_S (r_fl veq_P (r_fl (r_nilP veq_P) (r_fl (r_padd veq_P) (r_fl (r_ld (b := c) (o := 0) hsc rfl veq_I) (r_fl veq_I (r_fl (r_padd veq_P) (r_fl (r_ld (b := p) (o := 0) hsp rfl veq_I) (r_fl (r_padd veq_P) (r_fl (r_ldN (b := p) (o := 0) hsp (by decide) (l := [I x.d.1, I x.d.2]) rfl rfl (veq_agg (by simp [veq]))) ?_)))))))))
  refine r_fill (c := [I l, .bool wr, .bool true]) rfl (r_nilP (r_padd (r_sto (b := c) (o := 0) hs2 rfl rfl rfl rfl ?_)))
  intro h hs
  have hs := hs.sg (b := c) (o := 0) (c := cacE t C core (wantF core { s with S := S, gl := no, gc := x, gis := true } l w wr [⟨3, core, no, x.w, 0, x.d.1, x.d.2, dirtyS x.st, 0⟩]).1) rfl
  refine want_10 (t := t) (s := { s with S := S, gl := no, gc := x, gis := true }) (ns := [⟨3, core, no, x.w, 0, x.d.1, x.d.2, dirtyS x.st, 0⟩]) (a := a') (cp := c') (L := L) (by simp) ?_ (fun a' c' h' => hk a' c' h' _ rfl)
  exact (show Hs G h (seg c 0 (cacE t C core (wantF core { s with S := S, gl := no, gc := x, gis := true } l w wr [⟨3, core, no, x.w, 0, x.d.1, x.d.2, dirtyS x.st, 0⟩]).1) :: tagR G t C.ways.toNat C.sets.toNat S :: slc 9 26 a' c' (0 + 1, [] ++ (⟨3, core, no, x.w, 0, x.d.1, x.d.2, dirtyS x.st, 0⟩ : Note).enc) :: L) from hs.to)
theorem want_v (hC : C.Ok) (hb : Bd s) {t : Nat} {l w : Int} (h0 : 0 ≤ l) {wr : Bool} {Q : Value → AH → Prop} (ho : Ob G 1 rowsE) (hs : Hs G h (seg c 0 (cacE t C core s) :: tagR G t C.ways.toNat C.sets.toNat s.S :: L))
    (hk : ∀ a' c' h', Hs G h' (slc 9 26 a' c' ((wantV C core s l w wr).2.1.length, encNs (wantV C core s l w wr).2.1) :: cacR G c C core (wantV C core s l w wr).1 :: L) → Q (.tuple ⟨[.slice a' (wantV C core s l w wr).2.1.length c', I (wantV C core s l w wr).2.2]⟩) h') :
    thn (nilV (pt c 0 0)) fun v0 => thn (padd 0 v0) fun v1 => thn (ld1 h v1) fun v2 => Cl Pr K 45 [v2, I l] h fun v3 h3 =>
      thn (extV 0 v3) fun v4 => thn (extV 1 v3) fun v5 => thn (extV 2 v3) fun v6 => thn (biI .neq v6 (I 0)) fun v7 =>
      Br v7 (Q (.tuple ⟨[(.slice none 0 0), v6]⟩) h3) (A19_6 Q (pt c 0 0) (I l) (I w) (.bool wr) (.slice none 0 0) v4 v5 h3) := by
  unfold wantV at hk
  refine r_nilP (r_padd (r_ld (b := c) (o := 0) hs rfl ?_))
  refine victim_ok (t := t) (ways := C.ways.toNat) (n := C.sets.toNat) (S := s.S) (setsP hC).2.2.1 (setsP hC).1 h0 hb hs fun h hs => ?_
  cases hv : victimV C.sets.toNat C.ways.toNat s.S l with
  | none =>
    simp only [hv] at hk
    refine r_ext rfl (r_ext rfl (r_ext rfl (r_neI (r_brF (by omega) (b19_6 (r_brf ?_))))))
    exact want_last (t := t) (s := s) (ns := []) (a := none) (cp := 0) (L := L) (by simp) (show Hs G h (seg c 0 (cacE t C core s) :: tagR G t C.ways.toNat C.sets.toNat s.S :: slc 9 26 none 0 (0, []) :: L) from (slc_nil (W := 9) (e := 26) hs).to) hk
  | some v =>
    simp only [hv] at hk
    refine r_ext rfl (r_ext rfl (r_ext rfl (r_neI (r_brF (by omega) (b19_6 (r_brt (b19_7 (r_nilP (r_padd (r_padd (r_ld (b := c) (o := 0) hs rfl (r_brb (fun h1 => ?_) (fun h1 => ?_)))))))))))))
    · simp only [h1, if_true] at hk
      exact hk none 0 h (slc_nil (W := 9) (e := 26) (cac_tail (s' := s) (t := t) (c := c) rfl rfl hs))
    · simp only [if_neg (show ¬ (s.gis = true) from by rw [h1]; simp)] at hk
      refine b19_9 (r_nilP (r_padd (r_ld (b := c) (o := 0) hs rfl ?_)))
      refine drop_ok (t := t) (ways := C.ways.toNat) (n := C.sets.toNat) (S := s.S) (setsP hC).1 hb hs fun h hs => r_ext rfl (r_ext rfl (r_new hs ?_))
      intro p h hs
      refine r_stW hs rfl rfl rfl rfl ?_
      intro h hs
      refine r_neI (r_br (fun h2 => ?_) (fun h2 => ?_))
      · simp only [if_pos h2] at hk
        refine hk none 0 h (slc_nil (W := 9) (e := 26) ?_)
        exact (cac_close c t C core { s with S := dropV C.sets.toNat s.S v.1 } (cs := cacE t C core s) hs rfl rfl).to
      · simp only [if_neg h2] at hk
        refine want_11 (s := s) hb ho (show Hs G h (seg p 0 (peekV C.sets.toNat s.S v.1).1.enc :: seg c 0 (cacE t C core s) :: tagR G t C.ways.toNat C.sets.toNat (dropV C.sets.toNat s.S v.1) :: L) from hs.to) ?_
        intro a' c' h' r hr
        subst hr
        exact hk a' c' h'
theorem want_ok (hC : C.Ok) (hb : Bd s) {l w : Int} {wr : Bool} {Q : Value → AH → Prop} (hl : Ob G 0 limE) (ho : Ob G 1 rowsE) (hs : Hs G h L) [m : Has (cacR G c C core) L s L']
    (hk : ∀ a' c' h', Hs G h' (slc 9 26 a' c' ((want C core s l w wr).2.1.length, encNs (want C core s l w wr).2.1) :: cacR G c C core (want C core s l w wr).1 :: L') → Q (.tuple ⟨[.slice a' (want C core s l w wr).2.1.length c', I (want C core s l w wr).2.2]⟩) h') :
    Cl Pr K 19 [pt c 0 0, I l, I w, .bool wr] h Q := by
  have hs := m.of hs
  unfold want at hk
  refine c19 (b19_0 (r_ptEq (r_brf (b19_1 (has_ok (c := c) (core := core) (s := s) hC hl hs fun h hs => r_not (r_brn (r_brb (fun h1 => ?_) (fun h1 => ?_))))))))
  · simp only [h1, Bool.true_eq_false, if_false] at hk
    have h0 : 0 ≤ l := (of_decide_eq_true h1).1
    obtain ⟨t, hs⟩ := cac_open hs
    refine b19_2 (r_nilP (r_padd (r_padd (r_ld (b := c) (o := 0) hs rfl (r_brb (fun h2 => ?_) (fun h2 => b19_3 ?_))))))
    · simp only [h2, if_true] at hk
      exact hk none 0 h (slc_nil (W := 9) (e := 26) (cac_close c t C core s hs rfl rfl))
    · simp only [h2, Bool.false_eq_true, if_false] at hk
      have key : ¬ (s.gis = true ∧ s.gl = l) → (thn (nilV (pt c 0 0)) fun v0 => thn (padd 0 v0) fun v1 => thn (ld1 h v1) fun v2 => Cl Pr K 16 [v2, I l] h fun v3 h3 =>
          thn (extV 0 v3) fun v4 => thn (extV 1 v3) fun v5 => alc h3 (.cells [(I 0), (I 0), (I 0), (I 0)] 46 (0, 0) true) fun p7 h6 => thn (stV h6 4 (pt p7 0 0) v4) fun h8 => thn (biI .eql v5 (I 0)) fun v9 =>
          Br v9 (thn (ldN h8 4 (pt p7 0 0)) fun v10 => Cl Pr K 44 [v10, .bool wr] h8 fun v11 h11 => Br v11 (Q (.tuple ⟨[(.slice none 0 0), (I 13)]⟩) h11) (A19_5 Q (pt c 0 0) (I l) (I w) (.bool wr) h11))
            (thn (nilV (pt c 0 0)) fun v0 => thn (padd 0 v0) fun v1 => thn (ld1 h8 v1) fun v2 => Cl Pr K 45 [v2, I l] h8 fun v3 h3 =>
              thn (extV 0 v3) fun v4 => thn (extV 1 v3) fun v5 => thn (extV 2 v3) fun v6 => thn (biI .neq v6 (I 0)) fun v7 =>
              Br v7 (Q (.tuple ⟨[(.slice none 0 0), v6]⟩) h3) (A19_6 Q (pt c 0 0) (I l) (I w) (.bool wr) (.slice none 0 0) v4 v5 h3))) := by
        intro h3
        simp only [if_neg h3] at hk
        refine r_nilP (r_padd (r_ld (b := c) (o := 0) hs rfl ?_))
        refine peek_ok (t := t) (ways := C.ways.toNat) (n := C.sets.toNat) (S := s.S) (setsP hC).1 hb hs fun h hs => r_ext rfl (r_ext rfl (r_new hs ?_))
        intro p h hs
        refine r_stW hs rfl rfl rfl rfl ?_
        intro h hs
        have hsT : Hs G h (seg c 0 (cacE t C core s) :: tagR G t C.ways.toNat C.sets.toNat s.S :: seg p 0 (peekV C.sets.toNat s.S l).1.enc :: L') := hs.to
        have drop3 : ∀ {a' c' h'} {X : List Value} {n : Nat} {s' : Cac}, Hs G h' (slc 9 26 a' c' (n, X) :: cacR G c C core s' :: seg p 0 (peekV C.sets.toNat s.S l).1.enc :: L') → Hs G h' (slc 9 26 a' c' (n, X) :: cacR G c C core s' :: L') := fun hs => hs.to
        refine r_eqI (r_br (fun h4 => ?_) (fun h4 => ?_))
        · refine r_ldN (b := p) (o := 0) hs (by decide) (l := (peekV C.sets.toNat s.S l).1.enc) rfl rfl (allows_ok ho hs fun h hs => r_brb (fun h5 => ?_) (fun h5 => ?_))
          · simp only [if_pos (show (peekV C.sets.toNat s.S l).2 = 0 ∧ allowsS (peekV C.sets.toNat s.S l).1.st wr = true from ⟨h4, h5⟩)] at hk
            exact hk none 0 h (slc_nil (W := 9) (e := 26) (cac_close c t C core s hs rfl rfl).to)
          · simp only [if_neg (show ¬ ((peekV C.sets.toNat s.S l).2 = 0 ∧ allowsS (peekV C.sets.toNat s.S l).1.st wr = true) from fun e => by rw [h5] at e; exact absurd e.2 (by simp))] at hk
            refine b19_5 (want_v hC hb h0 ho (show Hs G h (seg c 0 (cacE t C core s) :: tagR G t C.ways.toNat C.sets.toNat s.S :: L') from hs.to) hk)
        · simp only [if_neg (show ¬ ((peekV C.sets.toNat s.S l).2 = 0 ∧ allowsS (peekV C.sets.toNat s.S l).1.st wr = true) from fun e => h4 e.1)] at hk
          exact want_v hC hb h0 ho hsT fun a' c' h' hs => hk a' c' h' (drop3 hs)
      refine r_nilP (r_padd (r_padd (r_ld (b := c) (o := 0) hs rfl (r_brb (fun h3 => ?_) (fun h3 => ?_)))))
      · refine r_nilP (r_padd (r_padd (r_ld (b := c) (o := 0) hs rfl (r_eqI (r_br (fun h4 => ?_) (fun h4 => b19_4 (key (fun e => h4 e.2))))))))
        simp only [if_pos (show s.gis = true ∧ s.gl = l from ⟨h3, h4⟩)] at hk
        exact hk none 0 h (slc_nil (W := 9) (e := 26) (cac_close c t C core s hs rfl rfl))
      · exact key (fun e => by rw [h3] at e; exact absurd e.1 (by simp))
  · simp only [h1, if_true] at hk
    exact hk none 0 h (slc_nil (W := 9) (e := 26) hs)
end Go.Proofs.YtfkjpjkkjlipiaaDoor
end
section
namespace Go.Proofs.YtfkjpjkkjlipiaaDoor
open Go Go.Ab Go.Hm Go.Ct
abbrev Tk := Cac × List Note × Int
def grantX (C : Cfg) (s : Cac) (n : Note) : Cpy := ⟨n.state, n.world, if (peekV C.sets.toNat s.S n.line).2 = 0 then (peekV C.sets.toNat s.S n.line).1.d else (n.d0, n.d1)⟩
def grantV (C : Cfg) (core : Int) (s : Cac) (n : Note) : Tk :=
  if s.ais = false then (s, [], 16) else if s.al ≠ n.line then (s, [], 16) else
  if (putV C.sets.toNat C.ways.toNat s.S n.line (grantX C s n)).2 ≠ 0 then ({ s with S := (putV C.sets.toNat C.ways.toNat s.S n.line (grantX C s n)).1 }, [], (putV C.sets.toNat C.ways.toNat s.S n.line (grantX C s n)).2) else
  ({ s with S := (putV C.sets.toNat C.ways.toNat s.S n.line (grantX C s n)).1, al := 0, aw := false, ais := false }, [⟨4, core, n.line, 0, 0, 0, 0, false, 0⟩], 0)
def nackV (s : Cac) (n : Note) : Tk := if s.ais = false then (s, [], 16) else if s.al ≠ n.line then (s, [], 16) else ({ s with al := 0, aw := false, ais := false }, [], 0)
def putAckV (s : Cac) (n : Note) : Tk := if s.gis = false then (s, [], 12) else if s.gl ≠ n.line then (s, [], 12) else ({ s with gl := 0, gc := Cpy.zero, gis := false }, [], 0)
def replyN (core : Int) (n : Note) (x : Cpy) : Note := if ownerS x.st then ⟨5, core, n.line, 0, nextS x.st n.state, x.d.1, x.d.2, dirtyS x.st, 0⟩ else ⟨5, core, n.line, 0, nextS x.st n.state, 0, 0, false, 0⟩
def probeV (C : Cfg) (core : Int) (s : Cac) (n : Note) : Tk :=
  if n.state ≠ 1 ∧ n.state ≠ 0 then (s, [], 10) else
  if (peekV C.sets.toNat s.S n.line).2 = 0 then
    ({ s with S := if nextS (peekV C.sets.toNat s.S n.line).1.st n.state = 0 then dropV C.sets.toNat s.S n.line else (putV C.sets.toNat C.ways.toNat s.S n.line { (peekV C.sets.toNat s.S n.line).1 with st := nextS (peekV C.sets.toNat s.S n.line).1.st n.state }).1 }, [replyN core n (peekV C.sets.toNat s.S n.line).1], 0)
  else if s.gis = false then (s, [⟨5, core, n.line, 0, 0, 0, 0, false, 0⟩], 0) else if s.gl ≠ n.line then (s, [⟨5, core, n.line, 0, 0, 0, 0, false, 0⟩], 0) else
    ({ s with gc := { s.gc with st := nextS s.gc.st n.state } }, [replyN core n s.gc], 0)
def takeV (C : Cfg) (core : Int) (s : Cac) (n : Note) : Tk :=
  if n.kind = 8 then (if hasL C n.line = false then (s, [], 10) else grantV C core s n)
  else if n.kind = 9 then (if hasL C n.line = false then (s, [], 10) else nackV s n)
  else if n.kind = 10 then (if hasL C n.line = false then (s, [], 10) else putAckV s n)
  else if n.kind = 11 then (if hasL C n.line = false then (s, [], 10) else probeV C core s n)
  else (s, [], 15)
attribute [local irreducible] thn Br ld1 ldN stV alc alcAt alcS alcSAt resv padd nilV extV part1 partN lenS lenT biI biT biB biP biS biF biE biA unV idxS idxA pickV appV copyV clearV slS slA slT mkS blkOf at1 atN atS convI convS minV maxV Cl OkF OkR EndX endV beginV defersOf setLoop closeMarks
variable {G : Bg} {h : AH} {L L' M : List HP} {C : Cfg} {core : Int} {c : Nat} {s : Cac} {n : Note}
theorem tk_nil {a : Cac} {Q : Value → AH → Prop} {e : Int} {r : Tk} (hk : ∀ a' c' h', Hs G h' (slc 9 26 a' c' (r.2.1.length, encNs r.2.1) :: cacR G c C core r.1 :: L) → Q (.tuple ⟨[.slice a' r.2.1.length c', I r.2.2]⟩) h') (hr : r = (a, [], e)) (hs : Hs G h (cacR G c C core a :: L)) : Q (.tuple ⟨[.slice none 0 0, I e]⟩) h := by
  subst hr
  exact hk none 0 h (slc_nil (W := 9) (e := 26) hs)
theorem tk_one {a : Cac} {x : Note} {p : Addr} {Q : Value → AH → Prop} {r : Tk} (hk : ∀ a' c' h', Hs G h' (slc 9 26 a' c' (r.2.1.length, encNs r.2.1) :: cacR G c C core r.1 :: L) → Q (.tuple ⟨[.slice a' r.2.1.length c', I r.2.2]⟩) h') (hr : r = (a, [x], 0)) (hs : Hs G h (slc 9 26 (some p) 1 (1, x.enc) :: cacR G c C core a :: L)) : Q (.tuple ⟨[.slice (some p) 1 1, I 0]⟩) h := by
  subst hr
  refine hk (some p) 1 h ?_
  have e : encNs [x] = x.enc := by simp [encNs]
  simp only [e, List.length_cons, List.length_nil, Nat.zero_add]
  exact hs
abbrev TkK (G : Bg) (c : Nat) (C : Cfg) (core : Int) (L : List HP) (Q : Value → AH → Prop) (r : Tk) : Prop := ∀ a' c' h', Hs G h' (slc 9 26 a' c' (r.2.1.length, encNs r.2.1) :: cacR G c C core r.1 :: L) → Q (.tuple ⟨[.slice a' r.2.1.length c', I r.2.2]⟩) h'
theorem nack_ok {Q : Value → AH → Prop} (hs : Hs G h (cacR G c C core s :: L)) (hk : TkK G c C core L Q (nackV s n)) : Cl Pr K 69 [pt c 0 0, .agg ⟨n.enc⟩] h Q := by
  obtain ⟨t, hs⟩ := cac_open hs
  refine c69 (b69_0 (r_bx hs ?_))
  intro p h hs
  refine r_resv hs ?_
  intro r h hs
  refine r_nilP (r_padd (r_padd (r_ld (b := c) (o := 0) hs rfl (r_not (r_brn (r_brb (fun h1 => ?_) (fun h1 => ?_)))))))
  · refine r_nilP (r_padd (r_padd (r_ld (b := c) (o := 0) hs rfl (r_padd (r_ld (b := p) (o := 0) hs rfl (r_neI (r_br (fun h2 => ?_) (fun h2 => ?_))))))))
    · exact tk_nil hk (a := s) (e := 16) (by simp [nackV, h1, h2]) (cac_close c t C core s hs rfl rfl).to
    · refine b69_1 (r_fill (c := [I 0, .bool false, .bool false]) rfl (r_nilP (r_padd (r_sto (b := c) (o := 0) hs rfl rfl rfl rfl ?_))))
      intro h hs
      have h2 : s.al = n.line := by simpa using h2
      exact tk_nil hk (a := { s with al := 0, aw := false, ais := false }) (e := 0) (by simp [nackV, h1, h2]) (cac_close c t C core { s with al := 0, aw := false, ais := false } hs rfl rfl).to
  · exact tk_nil hk (a := s) (e := 16) (by simp [nackV, h1]) (cac_close c t C core s hs rfl rfl).to
theorem putAck_ok {Q : Value → AH → Prop} (hs : Hs G h (cacR G c C core s :: L)) (hk : TkK G c C core L Q (putAckV s n)) : Cl Pr K 70 [pt c 0 0, .agg ⟨n.enc⟩] h Q := by
  obtain ⟨t, hs⟩ := cac_open hs
  refine c70 (b70_0 (r_bx hs ?_))
  intro p h hs
  refine r_resv hs ?_
  intro r h hs
  refine r_nilP (r_padd (r_padd (r_ld (b := c) (o := 0) hs rfl (r_not (r_brn (r_brb (fun h1 => ?_) (fun h1 => ?_)))))))
  · refine r_nilP (r_padd (r_padd (r_ld (b := c) (o := 0) hs rfl (r_padd (r_ld (b := p) (o := 0) hs rfl (r_neI (r_br (fun h2 => ?_) (fun h2 => ?_))))))))
    · exact tk_nil hk (a := s) (e := 12) (by simp [putAckV, h1, h2]) (cac_close c t C core s hs rfl rfl).to
    · refine b70_1 (r_fill (c := [I 0, I 0, I 0, I 0, I 0, .bool false]) rfl (r_nilP (r_padd (r_sto (b := c) (o := 0) hs rfl rfl rfl rfl ?_))))
      intro h hs
      have h2 : s.gl = n.line := by simpa using h2
      exact tk_nil hk (a := { s with gl := 0, gc := Cpy.zero, gis := false }) (e := 0) (by simp [putAckV, h1, h2]) (cac_close c t C core { s with gl := 0, gc := Cpy.zero, gis := false } hs rfl rfl).to
  · exact tk_nil hk (a := s) (e := 12) (by simp [putAckV, h1]) (cac_close c t C core s hs rfl rfl).to
theorem grant_4 {t p : Nat} {S : Nat → List Th} {Q : Value → AH → Prop} {r : Tk} (hs : Hs G h (seg p 0 n.enc :: seg c 0 (cacE t C core s) :: tagR G t C.ways.toNat C.sets.toNat S :: L)) (hk : TkK G c C core L Q r) (hr : r = ({ s with S := S, al := 0, aw := false, ais := false }, [⟨4, core, n.line, 0, 0, 0, 0, false, 0⟩], 0)) :
    A68_4 Q (pt c 0 0) (pt p 0 0) h := by
  refine b68_4 (r_fill (c := [I 0, .bool false, .bool false]) rfl (r_nilP (r_padd (r_sto (b := c) (o := 0) hs rfl rfl rfl rfl ?_))))
  intro h hs
  refine r_resv hs ?_
  intro rr h hs
  refine r_nilP (r_padd (r_ld (b := c) (o := 0) hs rfl (r_padd (r_ld (b := p) (o := 0) hs rfl ?_))))
  refine r_fill (c := (⟨4, core, n.line, 0, 0, 0, 0, false, 0⟩ : Note).enc) rfl (r_fill (c := (⟨4, core, n.line, 0, 0, 0, 0, false, 0⟩ : Note).enc) rfl ?_)
  refine r_newSAt (i := 7) (N := 10) (D := []) hs rfl rfl rfl rfl rfl ?_
  intro a h hs
  refine tk_one hk (p := a) hr ?_
  have hs := cac_close c t C core { s with S := S, al := 0, aw := false, ais := false } hs rfl rfl
  exact hs.to
theorem grant_ok (hC : C.Ok) (hb : Bd s) {Q : Value → AH → Prop} (h0 : 0 ≤ n.line) (hs : Hs G h (cacR G c C core s :: L)) (hk : TkK G c C core L Q (grantV C core s n)) : Cl Pr K 68 [pt c 0 0, .agg ⟨n.enc⟩] h Q := by
  obtain ⟨t, hs⟩ := cac_open hs
  refine c68 (b68_0 (r_bx hs ?_))
  intro p h hs
  refine r_resv hs ?_
  intro r h hs
  refine r_nilP (r_padd (r_padd (r_ld (b := c) (o := 0) hs rfl (r_not (r_brn (r_brb (fun h1 => ?_) (fun h1 => ?_)))))))
  · refine r_nilP (r_padd (r_padd (r_ld (b := c) (o := 0) hs rfl (r_padd (r_ld (b := p) (o := 0) hs rfl (r_neI (r_br (fun h2 => ?_) (fun h2 => ?_))))))))
    · exact tk_nil hk (a := s) (e := 16) (by simp [grantV, h1, h2]) (cac_close c t C core s hs rfl rfl).to
    · have h2 : s.al = n.line := by simpa using h2
      refine b68_1 (r_padd (r_ld (b := p) (o := 0) hs rfl (r_padd (r_ld (b := p) (o := 0) hs rfl (r_padd (r_ldN (b := p) (o := 0) hs (by decide) (l := [I n.d0, I n.d1]) rfl rfl ?_))))))
      refine r_fill (c := (⟨n.state, n.world, (n.d0, n.d1)⟩ : Cpy).enc) rfl (r_new hs ?_)
      intro p2 h hs
      refine r_stW hs rfl rfl rfl rfl ?_
      intro h hs
      refine r_resv hs ?_
      intro r2 h hs
      refine r_nilP (r_padd (r_ld (b := c) (o := 0) hs rfl (r_padd (r_ld (b := p) (o := 0) hs rfl ?_))))
      refine peek_ok (t := t) (ways := C.ways.toNat) (n := C.sets.toNat) (S := s.S) (setsP hC).1 hb hs fun h hs => r_ext rfl (r_ext rfl ?_)
      refine r_newAt (i := 10) hs rfl rfl ?_
      intro p3 h hs
      refine r_stW hs rfl rfl rfl rfl ?_
      intro h hs
      have fin : ∀ {h : AH}, Hs G h (seg p2 0 (grantX C s n).enc :: seg p 0 n.enc :: seg c 0 (cacE t C core s) :: tagR G t C.ways.toNat C.sets.toNat s.S :: L) →
          (resv h 9 fun r1 h0 => thn (nilV (pt c 0 0)) fun v2 => thn (padd 0 v2) fun v3 => thn (ld1 h0 v3) fun v4 => thn (padd 2 (pt p 0 0)) fun v5 => thn (ld1 h0 v5) fun v6 => thn (ldN h0 4 (pt p2 0 0)) fun v7 =>
            Cl Pr K 51 [v4, v6, v7] h0 fun v8 h8 => thn (biI .neq v8 (I 0)) fun v9 => Br v9 (Q (.tuple ⟨[(.slice none 0 0), v8]⟩) h8) (A68_4 Q (pt c 0 0) (pt p 0 0) h8)) := by
        intro h hs
        refine r_resv hs ?_
        intro r3 h hs
        refine r_nilP (r_padd (r_ld (b := c) (o := 0) hs rfl (r_padd (r_ld (b := p) (o := 0) hs rfl (r_ldN (b := p2) (o := 0) hs (by decide) (l := (grantX C s n).enc) rfl rfl ?_)))))
        refine put_ok (t := t) (ways := C.ways.toNat) (n := C.sets.toNat) (S := s.S) h0 (setsP hC).1 hb hs fun h hs => ?_
        refine r_neI (r_br (fun h3 => ?_) (fun h3 => ?_))
        · refine tk_nil hk (a := { s with S := (putV C.sets.toNat C.ways.toNat s.S n.line (grantX C s n)).1 }) (by simp [grantV, h1, h2, h3]) ?_
          exact (cac_close c t C core { s with S := (putV C.sets.toNat C.ways.toNat s.S n.line (grantX C s n)).1 } (cs := cacE t C core s) hs rfl rfl).to
        · have h3 : (putV C.sets.toNat C.ways.toNat s.S n.line (grantX C s n)).2 = 0 := by simpa using h3
          exact grant_4 (t := t) (S := (putV C.sets.toNat C.ways.toNat s.S n.line (grantX C s n)).1) (s := s) (n := n) hs.to hk (by simp [grantV, h1, h2, h3])
      refine r_fl (r_ext rfl veq_I) (r_eqI (r_br (fun h3 => b68_2 ?_) (fun h3 => b68_3 (fin ?_))))
      · refine r_padd (r_ldN (b := p3) (o := 0) hs (by decide) (l := [I (peekV C.sets.toNat s.S n.line).1.d.1, I (peekV C.sets.toNat s.S n.line).1.d.2]) rfl rfl (r_padd (r_sto (b := p2) (o := 0) hs rfl rfl rfl rfl ?_)))
        intro h hs
        have e : grantX C s n = ⟨n.state, n.world, (peekV C.sets.toNat s.S n.line).1.d⟩ := by simp [grantX, h3]
        have hs := hs.sg (b := p2) (o := 0) (c := (grantX C s n).enc) (by rw [e]; rfl)
        exact fin hs.to
      · have e : grantX C s n = ⟨n.state, n.world, (n.d0, n.d1)⟩ := by simp [grantX, h3]
        rw [e]
        exact hs.to
  · exact tk_nil hk (a := s) (e := 16) (by simp [grantV, h1]) (cac_close c t C core s hs rfl rfl).to
end Go.Proofs.YtfkjpjkkjlipiaaDoor
end
section
namespace Go.Proofs.YtfkjpjkkjlipiaaDoor
open Go Go.Ab Go.Hm Go.Ct
attribute [local irreducible] thn Br ld1 ldN stV alc alcAt alcS alcSAt resv padd nilV extV part1 partN lenS lenT biI biT biB biP biS biF biE biA unV idxS idxA pickV appV copyV clearV slS slA slT mkS blkOf at1 atN atS convI convS minV maxV Cl OkF OkR EndX endV beginV defersOf setLoop closeMarks
variable {G : Bg} {h : AH} {L L' M : List HP} {C : Cfg} {core : Int} {c : Nat} {s : Cac} {n : Note}
def rep0 (core : Int) (n : Note) : Note := ⟨5, core, n.line, 0, 0, 0, 0, false, 0⟩
theorem probe_8 {t p q : Nat} {x : Cpy} {y : Note} {Q : Value → AH → Prop} {r : Tk} (hs : Hs G h (seg p 0 y.enc :: seg q 0 x.enc :: seg c 0 (cacE t C core s) :: tagR G t C.ways.toNat C.sets.toNat s.S :: L)) (hk : TkK G c C core L Q r) (hr : r = ({ s with gc := x }, [y], 0)) :
    A71_8 Q (pt c 0 0) (pt p 0 0) (pt q 0 0) h := by
  refine b71_8 (r_ldN (b := q) (o := 0) hs (by decide) (l := x.enc) rfl rfl (r_nilP (r_padd (r_padd (r_sto (b := c) (o := 0) hs rfl rfl rfl rfl ?_)))))
  intro h hs
  refine r_ldN (b := p) (o := 0) hs (by decide) (l := y.enc) rfl rfl (r_fill (c := y.enc) rfl (r_newS (W := 9) (n := 1) (c := 1) hs rfl rfl rfl ?_))
  intro a h hs
  refine tk_one hk (p := a) hr ?_
  have hs := cac_close c t C core { s with gc := x } hs rfl rfl
  exact hs.to
theorem probe_9 (hC : C.Ok) (hb : Bd s) (h0 : 0 ≤ n.line) {t p0 p q : Nat} {x : Cpy} {y : Note} {Q : Value → AH → Prop} {r : Tk} (hs : Hs G h (seg p 0 y.enc :: seg q 0 x.enc :: seg p0 0 n.enc :: seg c 0 (cacE t C core s) :: tagR G t C.ways.toNat C.sets.toNat s.S :: L)) (hk : TkK G c C core L Q r)
    (hr : r = ({ s with S := if x.st = 0 then dropV C.sets.toNat s.S n.line else (putV C.sets.toNat C.ways.toNat s.S n.line x).1 }, [y], 0)) :
    A71_9 Q (pt c 0 0) (pt p0 0 0) (pt p 0 0) (pt q 0 0) (I x.st) h := by
  refine b71_9 (r_eqI (r_br (fun h1 => b71_10 (r_resv hs ?_)) (fun h1 => b71_11 (r_resv hs ?_))))
  · intro rr h hs
    simp only [if_pos h1] at hr
    refine r_nilP (r_padd (r_ld (b := c) (o := 0) hs rfl (r_padd (r_ld (b := p0) (o := 0) hs rfl ?_))))
    refine drop_ok (t := t) (ways := C.ways.toNat) (n := C.sets.toNat) (S := s.S) (setsP hC).1 hb hs fun h hs => ?_
    refine r_ldN (b := p) (o := 0) hs (by decide) (l := y.enc) rfl rfl (r_fill (c := y.enc) rfl (r_newS (W := 9) (n := 1) (c := 1) hs rfl rfl rfl ?_))
    intro a h hs
    refine tk_one hk (p := a) hr ?_
    have hs := cac_close c t C core { s with S := dropV C.sets.toNat s.S n.line } (cs := cacE t C core s) hs rfl rfl
    exact hs.to
  · intro rr h hs
    simp only [if_neg h1] at hr
    refine r_nilP (r_padd (r_ld (b := c) (o := 0) hs rfl (r_padd (r_ld (b := p0) (o := 0) hs rfl (r_ldN (b := q) (o := 0) hs (by decide) (l := x.enc) rfl rfl ?_)))))
    refine put_ok (t := t) (ways := C.ways.toNat) (n := C.sets.toNat) (S := s.S) h0 (setsP hC).1 hb hs fun h hs => ?_
    refine r_ldN (b := p) (o := 0) hs (by decide) (l := y.enc) rfl rfl (r_fill (c := y.enc) rfl (r_newS (W := 9) (n := 1) (c := 1) hs rfl rfl rfl ?_))
    intro a h hs
    refine tk_one hk (p := a) hr ?_
    have hs := cac_close c t C core { s with S := (putV C.sets.toNat C.ways.toNat s.S n.line x).1 } (cs := cacE t C core s) hs rfl rfl
    exact hs.to
/-- behind what a state becomes -/
theorem probe_5 (hC : C.Ok) (hb : Bd s) (h0 : 0 ≤ n.line) {there : Bool} {t p0 p q : Nat} {x : Cpy} {Q : Value → AH → Prop} {r : Tk} (hs : Hs G h (seg p 0 (rep0 core n).enc :: seg q 0 x.enc :: seg p0 0 n.enc :: seg c 0 (cacE t C core s) :: tagR G t C.ways.toNat C.sets.toNat s.S :: L)) (hk : TkK G c C core L Q r)
    (hr : r = if there then ({ s with S := if nextS x.st n.state = 0 then dropV C.sets.toNat s.S n.line else (putV C.sets.toNat C.ways.toNat s.S n.line { x with st := nextS x.st n.state }).1 }, [replyN core n x], 0) else ({ s with gc := { x with st := nextS x.st n.state } }, [replyN core n x], 0)) :
    A71_5 Q (pt c 0 0) (pt p0 0 0) (pt p 0 0) (pt q 0 0) (.bool there) (I (nextS x.st n.state)) (.bool (ownerS x.st)) (.bool (dirtyS x.st)) h := by
  have fin : ∀ {h : AH}, Hs G h (seg p 0 (replyN core n x).enc :: seg q 0 ({ x with st := nextS x.st n.state } : Cpy).enc :: seg p0 0 n.enc :: seg c 0 (cacE t C core s) :: tagR G t C.ways.toNat C.sets.toNat s.S :: L) →
      (thn (unV .not (.bool there)) fun v8 => Br v8 (A71_8 Q (pt c 0 0) (pt p 0 0) (pt q 0 0) h) (A71_9 Q (pt c 0 0) (pt p0 0 0) (pt p 0 0) (pt q 0 0) (I (nextS x.st n.state)) h)) := by
    intro h hs
    cases there
    · simp only [Bool.false_eq_true, if_false] at hr
      exact r_not (r_brt (probe_8 (t := t) (x := { x with st := nextS x.st n.state }) (y := replyN core n x) (s := s) hs.to hk hr))
    · simp only [if_true] at hr
      exact r_not (r_brf (probe_9 hC hb h0 (t := t) (x := { x with st := nextS x.st n.state }) (y := replyN core n x) (s := s) hs hk hr))
  refine b71_5 (r_padd (r_sto (b := p) (o := 0) hs rfl rfl rfl rfl ?_))
  intro h hs
  refine r_brb (fun h1 => b71_6 ?_) (fun h1 => b71_7 ?_)
  · refine r_padd (r_ldN (b := q) (o := 0) hs (by decide) (l := [I x.d.1, I x.d.2]) rfl rfl (r_padd (r_sto (b := p) (o := 0) hs rfl rfl rfl rfl ?_)))
    intro h hs
    refine r_padd (r_sto (b := p) (o := 0) hs rfl rfl rfl rfl ?_)
    intro h hs
    refine r_padd (r_sto (b := q) (o := 0) hs rfl rfl rfl rfl ?_)
    intro h hs
    have e : replyN core n x = ⟨5, core, n.line, 0, nextS x.st n.state, x.d.1, x.d.2, dirtyS x.st, 0⟩ := by simp [replyN, h1]
    have hs := hs.sg (b := p) (o := 0) (c := (replyN core n x).enc) (by rw [e]; rfl)
    have hs := hs.sg (b := q) (o := 0) (c := ({ x with st := nextS x.st n.state } : Cpy).enc) rfl
    exact fin hs.to
  · refine r_padd (r_sto (b := q) (o := 0) hs rfl rfl rfl rfl ?_)
    intro h hs
    have e : replyN core n x = ⟨5, core, n.line, 0, nextS x.st n.state, 0, 0, false, 0⟩ := by simp [replyN, h1]
    have hs := hs.sg (b := p) (o := 0) (c := (replyN core n x).enc) (by rw [e]; rfl)
    have hs := hs.sg (b := q) (o := 0) (c := ({ x with st := nextS x.st n.state } : Cpy).enc) rfl
    exact fin hs.to
end Go.Proofs.YtfkjpjkkjlipiaaDoor
end
section
namespace Go.Proofs.YtfkjpjkkjlipiaaDoor
open Go Go.Ab Go.Hm Go.Ct
/-- the states that a cache has are states -/
structure Sts (n : Nat) (s : Cac) : Prop where
  peek : ∀ l, (peekV n s.S l).2 = 0 → 0 ≤ (peekV n s.S l).1.st ∧ (peekV n s.S l).1.st < 5
  back : s.gis = true → 0 ≤ s.gc.st ∧ s.gc.st < 5
attribute [local irreducible] thn Br ld1 ldN stV alc alcAt alcS alcSAt resv padd nilV extV part1 partN lenS lenT biI biT biB biP biS biF biE biA unV idxS idxA pickV appV copyV clearV slS slA slT mkS blkOf at1 atN atS convI convS minV maxV Cl OkF OkR EndX endV beginV defersOf setLoop closeMarks
variable {G : Bg} {h : AH} {L L' M : List HP} {C : Cfg} {core : Int} {c : Nat} {s : Cac} {n : Note}
theorem probe_2 (hC : C.Ok) (hb : Bd s) (hst : Sts C.sets.toNat s) (hn : n.state = 0 ∨ n.state = 1) (h0 : 0 ≤ n.line) {t p0 p q : Nat} {x : Cpy} {Q : Value → AH → Prop} (ho : Ob G 1 rowsE)
    (hs : Hs G h (seg p 0 (rep0 core n).enc :: seg q 0 x.enc :: seg p0 0 n.enc :: seg c 0 (cacE t C core s) :: tagR G t C.ways.toNat C.sets.toNat s.S :: L)) (hp : (peekV C.sets.toNat s.S n.line).2 ≠ 0) (hk : TkK G c C core L Q (probeV C core s n)) :
    A71_2 Q (pt c 0 0) (pt p0 0 0) (pt p 0 0) (pt q 0 0) (.bool false) h := by
  have hns : ¬ (n.state ≠ 1 ∧ n.state ≠ 0) := by omega
  refine b71_2 (r_resv hs ?_)
  intro rr h hs
  have none' : s.gis = false ∨ s.gl ≠ n.line → (thn (ldN h 9 (pt p 0 0)) fun v7 => thn (fillL [(I 0), (I 0), (I 0), (I 0), (I 0), (I 0), (I 0), (.bool false), (I 0)] [(0, 9, v7)]) fun l9 => alcS h 9 26 l9 1 1 fun s10 h8 => Q (.tuple ⟨[s10, (I 0)]⟩) h8) := by
    intro hc
    refine r_ldN (b := p) (o := 0) hs (by decide) (l := (rep0 core n).enc) rfl rfl (r_fill (c := (rep0 core n).enc) rfl (r_newS (W := 9) (n := 1) (c := 1) hs rfl rfl rfl ?_))
    intro a h hs
    refine tk_one hk (p := a) (a := s) (x := rep0 core n) ?_ ?_
    · rcases hc with hc | hc
      · simp [probeV, hns, hp, hc, rep0]
      · by_cases hg : s.gis = false
        · simp [probeV, hns, hp, hg, rep0]
        · simp only [probeV, if_neg hns, if_neg hp, if_neg hg, if_pos hc, rep0]
    · have hs := cac_close c t C core s hs rfl rfl
      exact hs.to
  refine r_nilP (r_padd (r_padd (r_ld (b := c) (o := 0) hs rfl (r_not (r_brn (r_brb (fun h1 => ?_) (fun h1 => none' (.inl h1))))))))
  refine r_nilP (r_padd (r_padd (r_ld (b := c) (o := 0) hs rfl (r_padd (r_ld (b := p0) (o := 0) hs rfl (r_neI (r_br (fun h2 => none' (.inr h2)) (fun h2 => b71_4 ?_))))))))
  have h2 : s.gl = n.line := by simpa using h2
  refine r_nilP (r_padd (r_padd (r_ldN (b := c) (o := 0) hs (by decide) (l := s.gc.enc) rfl rfl (r_stW (b := q) (o := 0) hs rfl rfl rfl rfl ?_))))
  intro h hs
  refine r_padd (r_ld (b := q) (o := 0) hs rfl (r_padd (r_ld (b := p0) (o := 0) hs rfl (probeS_ok ho hs (hst.back h1) hn (r_ext rfl (r_ext rfl (r_ext rfl (r_ext rfl (r_neI (r_brF (by omega) ?_))))))))))
  refine probe_5 hC hb h0 (there := false) (t := t) (x := s.gc) (s := s) (n := n) (core := core) (L := L) hs.to hk ?_
  have hg : ¬ s.gis = false := by rw [h1]; simp
  simp only [probeV, if_neg hns, if_neg hp, if_neg hg, if_neg (show ¬ s.gl ≠ n.line from fun e => e h2), Bool.false_eq_true, if_false]
theorem probe_3 (hC : C.Ok) (hb : Bd s) (hst : Sts C.sets.toNat s) (hn : n.state = 0 ∨ n.state = 1) (h0 : 0 ≤ n.line) {t p0 p q : Nat} {Q : Value → AH → Prop} (ho : Ob G 1 rowsE)
    (hs : Hs G h (seg p 0 (rep0 core n).enc :: seg q 0 (peekV C.sets.toNat s.S n.line).1.enc :: seg p0 0 n.enc :: seg c 0 (cacE t C core s) :: tagR G t C.ways.toNat C.sets.toNat s.S :: L)) (hp : (peekV C.sets.toNat s.S n.line).2 = 0) (hk : TkK G c C core L Q (probeV C core s n)) :
    A71_3 Q (pt c 0 0) (pt p0 0 0) (pt p 0 0) (pt q 0 0) (.bool true) h := by
  have hns : ¬ (n.state ≠ 1 ∧ n.state ≠ 0) := by omega
  refine b71_3 (r_padd (r_ld (b := q) (o := 0) hs rfl (r_padd (r_ld (b := p0) (o := 0) hs rfl (probeS_ok ho hs (hst.peek _ hp) hn (r_ext rfl (r_ext rfl (r_ext rfl (r_ext rfl (r_neI (r_brF (by omega) ?_)))))))))))
  refine probe_5 hC hb h0 (there := true) (t := t) (x := (peekV C.sets.toNat s.S n.line).1) (s := s) (n := n) (core := core) (L := L) hs hk ?_
  simp only [probeV, if_neg hns, if_pos hp, if_true]
theorem probe_ok (hC : C.Ok) (hb : Bd s) (hst : Sts C.sets.toNat s) (h0 : 0 ≤ n.line) {Q : Value → AH → Prop} (ho : Ob G 1 rowsE) (hs : Hs G h (cacR G c C core s :: L)) (hk : TkK G c C core L Q (probeV C core s n)) : Cl Pr K 71 [pt c 0 0, .agg ⟨n.enc⟩] h Q := by
  obtain ⟨t, hs⟩ := cac_open hs
  refine c71 (b71_0 (r_bx hs ?_))
  intro p0 h hs
  have key : (n.state = 0 ∨ n.state = 1) → (resv h 9 fun r1 h0 =>
      thn (nilV (pt c 0 0)) fun v2 => thn (padd 8 v2) fun v3 => thn (ld1 h0 v3) fun v4 => thn (padd 2 (pt p0 0 0)) fun v5 => thn (ld1 h0 v5) fun v6 =>
      thn (fillL [(I 0), (I 0), (I 0), (I 0), (I 0), (I 0), (I 0), (.bool false), (I 0)] [(0, 1, (I 5)), (1, 1, v4), (2, 1, v6)]) fun c7 =>
      alcAt h0 (r1 + 7) (.cells [(I 0), (I 0), (I 0), (I 0), (I 0), (I 0), (I 0), (.bool false), (I 0)] 26 (0, 0) true) fun p9 h8 =>
      thn (stV h8 9 (pt p9 0 0) (.agg ⟨c7⟩)) fun h10 =>
      resv h10 13 fun r12 h11 =>
      thn (nilV (pt c 0 0)) fun v13 => thn (padd 0 v13) fun v14 => thn (ld1 h11 v14) fun v15 => thn (padd 2 (pt p0 0 0)) fun v16 => thn (ld1 h11 v16) fun v17 =>
      Cl Pr K 16 [v15, v17] h11 fun v18 h18 =>
      thn (extV 0 v18) fun v19 => thn (extV 1 v18) fun v20 =>
      alcAt h18 (r12 + 10) (.cells [(I 0), (I 0), (I 0), (I 0)] 46 (0, 0) true) fun p22 h21 =>
      thn (stV h21 4 (pt p22 0 0) v19) fun h23 =>
      (thn (extV 1 v18) fun v24 => veq v24 v20 = true) ∧ (
      thn (biI .eql v20 (I 0)) fun v25 => thn (unV .not v25) fun v26 =>
      Br v26 (A71_2 Q (pt c 0 0) (pt p0 0 0) (pt p9 0 0) (pt p22 0 0) v25 h23) (A71_3 Q (pt c 0 0) (pt p0 0 0) (pt p9 0 0) (pt p22 0 0) v25 h23))) := by
    intro hn
    refine r_resv hs ?_
    intro rr h hs
    refine r_nilP (r_padd (r_ld (b := c) (o := 0) hs rfl (r_padd (r_ld (b := p0) (o := 0) hs rfl (r_fill (c := (rep0 core n).enc) rfl ?_)))))
    refine r_newAt (i := 7) hs rfl rfl ?_
    intro p h hs
    refine r_stW hs rfl rfl rfl rfl ?_
    intro h hs
    refine r_resv hs ?_
    intro r2 h hs
    refine r_nilP (r_padd (r_ld (b := c) (o := 0) hs rfl (r_padd (r_ld (b := p0) (o := 0) hs rfl ?_))))
    refine peek_ok (t := t) (ways := C.ways.toNat) (n := C.sets.toNat) (S := s.S) (setsP hC).1 hb hs fun h hs => r_ext rfl (r_ext rfl ?_)
    refine r_newAt (i := 10) hs rfl rfl ?_
    intro q h hs
    refine r_stW hs rfl rfl rfl rfl ?_
    intro h hs
    refine r_fl (r_ext rfl veq_I) (r_eqI (r_not ?_))
    by_cases hp : (peekV C.sets.toNat s.S n.line).2 = 0
    · rw [decide_eq_true hp]
      exact r_brf (probe_3 hC hb hst hn h0 (t := t) ho hs.to hp hk)
    · rw [decide_eq_false hp]
      exact r_brt (probe_2 hC hb hst hn h0 (t := t) (x := (peekV C.sets.toNat s.S n.line).1) ho hs.to hp hk)
  refine r_padd (r_ld (b := p0) (o := 0) hs rfl (r_neI (r_br (fun h1 => r_padd (r_ld (b := p0) (o := 0) hs rfl (r_neI (r_br (fun h2 => ?_) (fun h2 => b71_1 (key (.inl (by omega)))))))) (fun h1 => key (.inr (by omega))))))
  exact tk_nil hk (a := s) (e := 10) (by simp only [probeV]; rw [if_pos ⟨by omega, by omega⟩]) (cac_close c t C core s hs rfl rfl).to
end Go.Proofs.YtfkjpjkkjlipiaaDoor
end
section
namespace Go.Proofs.YtfkjpjkkjlipiaaDoor
open Go Go.Ab Go.Hm Go.Ct
def handE (k : Int) (f : FuncId) : List Value := [I k, .func (.func f) #[] #[]]
def handsL : List Value := handE 8 68 ++ handE 9 69 ++ handE 10 70 ++ handE 11 71
attribute [local irreducible] thn Br ld1 ldN stV alc alcAt alcS alcSAt resv padd nilV extV part1 partN lenS lenT biI biT biB biP biS biF biE biA unV idxS idxA pickV appV copyV clearV slS slA slT mkS blkOf at1 atN atS convI convS minV maxV Cl OkF OkR EndX endV beginV defersOf setLoop closeMarks
variable {G : Bg} {h : AH} {L L' M : List HP} {C : Cfg} {core : Int} {c : Nat} {s : Cac} {n : Note}
theorem take_do (hC : C.Ok) {p q : Nat} {k : Int} {f : FuncId} {Q : Value → AH → Prop} {r : Tk} (hl : Ob G 0 limE) (hs : Hs G h (seg q 0 (handE k f) :: seg p 0 n.enc :: cacR G c C core s :: L))
    (hcl : callable Pr f = true) (hr : hasL C n.line = false → r = (s, [], 10)) (hf : hasL C n.line = true → ∀ h L, Hs G h (cacR G c C core s :: L) → ∀ Q, TkK G c C core L Q r → Cl Pr K f [pt c 0 0, .agg ⟨n.enc⟩] h Q) (hk : TkK G c C core L Q r) :
    A15_5 Q (pt c 0 0) (pt p 0 0) (pt q 0 0) h := by
  refine b15_5 (r_padd (r_ld (b := p) (o := 0) hs rfl (has_ok (c := c) (core := core) (s := s) hC hl hs fun h hs => r_not (r_brn (r_brb (fun h1 => ?_) (fun h1 => ?_))))))
  · refine r_padd (r_ld (b := q) (o := 0) hs rfl (r_ldN (b := p) (o := 0) hs (by decide) (l := n.enc) rfl rfl ?_))
    refine r_okF hcl (hf h1 h (seg q 0 (handE k f) :: seg p 0 n.enc :: L) hs.to _ fun a' c' h' hs => r_ext rfl (r_ext rfl (hk a' c' h' hs.to)))
  · exact tk_nil hk (a := s) (e := 10) (hr h1) hs.to
theorem take_ok (hC : C.Ok) (hb : Bd s) (hst : Sts C.sets.toNat s) {Q : Value → AH → Prop} (hl : Ob G 0 limE) (ho : Ob G 1 rowsE) (hs : Hs G h L) [m : Has (cacR G c C core) L s L'] (hk : TkK G c C core L' Q (takeV C core s n)) :
    Cl Pr K 15 [pt c 0 0, .agg ⟨n.enc⟩] h Q := by
  have hs := m.of hs
  refine c15 (b15_0 (r_bx hs ?_))
  intro p h hs
  refine r_ptEq (r_brf (b15_1 (c41 (b41_0 ?_))))
  refine r_fill (c := handE 8 68) rfl (r_fill (c := handE 9 69) rfl (r_fill (c := handE 10 70) rfl (r_fill (c := handE 11 71) rfl (r_fill (c := handsL) rfl ?_))))
  refine r_newS (W := 2) (n := 4) (c := 4) hs rfl rfl rfl ?_
  intro a h hs
  obtain ⟨b, o, ha, hs⟩ := hs.holeOpen (by decide)
  cases ha
  refine r_lenS ?_
  have h0 : hasL C n.line = true → 0 ≤ n.line := fun e => (of_decide_eq_true e).1
  have step : ∀ (i : Nat) (hi : i < 4) (k : Int) (f : FuncId) (h : AH) (M : List HP), (handsL.drop (i * 2)).take 2 = handE k f → callable Pr f = true → Hs G h (seg b o handsL :: seg p 0 n.enc :: cacR G c C core s :: L') →
      (n.kind = k → ((hasL C n.line = false → takeV C core s n = (s, [], 10)) ∧ (hasL C n.line = true → ∀ h L, Hs G h (cacR G c C core s :: L) → ∀ Q, TkK G c C core L Q (takeV C core s n) → Cl Pr K f [pt c 0 0, .agg ⟨n.enc⟩] h Q))) →
      (n.kind ≠ k → ∀ h, Hs G h (seg b o handsL :: seg p 0 n.enc :: cacR G c C core s :: L') → A15_2 Q (pt c 0 0) (pt p 0 0) (.slice (some ⟨b, o, none⟩) 4 4) (I 4) (I ((i + 1 : Nat) : Int)) h) →
      A15_2 Q (pt c 0 0) (pt p 0 0) (.slice (some ⟨b, o, none⟩) 4 4) (I 4) (I (i : Int)) h := by
    intro i hi k f h M hc hcl hs hyes hno
    refine b15_2 (r_ltI (r_brT (by omega) (b15_3 (r_idxN hi (r_ldNI (b := b) (o := o) hs (by decide) (l := handE k f) (by rw [Nat.add_zero]; exact hc) rfl (r_new hs ?_))))))
    intro q h hs
    refine r_stW hs rfl rfl rfl rfl ?_
    intro h hs
    refine r_padd (r_ld (b := q) (o := 0) hs rfl (r_padd (r_ld (b := p) (o := 0) hs rfl (r_neI (r_br (fun h1 => b15_4 (r_addI (by omega) ?_)) (fun h1 => ?_))))))
    · have := hno (fun e => h1 e.symm) h hs.to
      simpa using this
    · have h1 : n.kind = k := by
        have : k = n.kind := by simpa using h1
        exact this.symm
      exact take_do (k := k) (f := f) (s := s) (n := n) hC hl (show Hs G h (seg q 0 (handE k f) :: seg p 0 n.enc :: cacR G c C core s :: L') from hs.to) hcl (hyes h1).1 (hyes h1).2 hk
  have hs : Hs G h (seg b o handsL :: seg p 0 n.enc :: cacR G c C core s :: L') := hs.to
  refine step 0 (by decide) 8 68 h [] rfl (by kernel_rfl) hs (fun e => ⟨fun e2 => by simp [takeV, e, e2], fun e2 h L hs Q hk => grant_ok hC hb (h0 e2) hs (by simpa [takeV, e, e2] using hk)⟩) fun e1 h hs => ?_
  refine step 1 (by decide) 9 69 h [] rfl (by kernel_rfl) hs (fun e => ⟨fun e2 => by simp [takeV, e, e2], fun e2 h L hs Q hk => nack_ok hs (by simpa [takeV, e, e2] using hk)⟩) fun e3 h hs => ?_
  refine step 2 (by decide) 10 70 h [] rfl (by kernel_rfl) hs (fun e => ⟨fun e2 => by simp [takeV, e, e2], fun e2 h L hs Q hk => putAck_ok hs (by simpa [takeV, e, e2] using hk)⟩) fun e4 h hs => ?_
  refine step 3 (by decide) 11 71 h [] rfl (by kernel_rfl) hs (fun e => ⟨fun e2 => by simp [takeV, e, e2], fun e2 h L hs Q hk => probe_ok hC hb hst (h0 e2) ho hs (by simpa [takeV, e, e2] using hk)⟩) fun e5 h hs => ?_
  refine b15_2 (r_ltI (r_brF (by omega) ?_))
  exact tk_nil hk (a := s) (e := 15) (by simp [takeV, e1, e3, e4, e5]) hs.to
theorem asked_ok {Q : Value → AH → Prop} (hs : Hs G h L) [m : Has (cacR G c C core) L s L'] (hk : ∀ h', Hs G h' (cacR G c C core s :: L') → Q (.tuple ⟨[I s.al, .bool s.aw, .bool s.ais]⟩) h') : Cl Pr K 18 [pt c 0 0] h Q := by
  obtain ⟨t, hs⟩ := cac_open (m.of hs)
  refine c18 (b18_0 (r_ptEq (r_brf (r_resv hs ?_))))
  intro rr h hs
  refine (r_nilP (r_padd (r_padd (r_ld (b := c) (o := 0) hs rfl (r_nilP (r_padd (r_padd (r_ld (b := c) (o := 0) hs rfl (r_nilP (r_padd (r_padd (r_ld (b := c) (o := 0) hs rfl ?_))))))))))))
  exact hk _ (cac_close c t C core s hs rfl rfl).to
theorem twin_ok (hC : C.Ok) (hb : Bd s) {Q : Value → AH → Prop} (hs : Hs G h L) [m : Has (cacR G c C core) L s L'] (hk : ∀ d h', Hs G h' (cacR G d C core s :: cacR G c C core s :: L') → Q (pt d 0 0) h') : Cl Pr K 14 [pt c 0 0] h Q := by
  obtain ⟨t, hs⟩ := cac_open (m.of hs)
  refine c14 (b14_0 (r_ptEq (r_brf (b14_1 (r_nilP (r_ldN (b := c) (o := 0) hs (by decide) (l := cacE t C core s) rfl rfl (r_new hs ?_)))))))
  intro d h hs
  refine r_stW hs rfl rfl rfl rfl ?_
  intro h hs
  refine r_nilP (r_padd (r_ld (b := c) (o := 0) hs rfl (copy_ok (t := t) (ways := C.ways.toNat) (n := C.sets.toNat) (S := s.S) (setsP hC).1 (setsP hC).2.1 hb hs fun t2 h hs => ?_)))
  refine r_padd (r_sto (b := d) (o := 0) hs rfl rfl rfl rfl ?_)
  intro h hs
  have hs := hs.sg (b := d) (o := 0) (c := cacE t2 C core s) rfl
  have hs := cac_close d t2 C core s hs rfl rfl
  have hs := cac_close c t C core s hs rfl rfl
  exact hk d h hs.to
theorem cacheNew2_ok (hC : C.Ok) (hcore : 0 ≤ core ∧ core < C.cores) {Q : Value → AH → Prop} (hl : Ob G 0 limE) (hs : Hs G h L) (hk : ∀ c h', Hs G h' (cacR G c C core Cac.new :: L) → Q (.tuple ⟨[pt c 0 0, I 0]⟩) h') : Cl Pr K 10 [.agg ⟨C.enc⟩, I core] h Q := by
  refine c10 (b10_0 (r_bx hs ?_))
  intro p h hs
  refine r_ldN (b := p) (o := 0) hs (by decide) (l := C.enc) rfl rfl (check_ok hl hs fun h hs => ?_)
  have h1 := hC
  unfold Cfg.Ok at h1
  rw [if_pos hC]
  refine r_neI (r_brF (by omega) (b10_1 (r_ltI (r_brF (by omega) (r_padd (r_ld (b := p) (o := 0) hs rfl (r_geI (r_brF (by omega) (b10_2 ?_)))))))))
  refine r_padd (r_ld (b := p) (o := 0) hs rfl (r_padd (r_ld (b := p) (o := 0) hs rfl (tagsNew2_ok (by omega) (by omega) hs fun t h hs => r_ext rfl (r_ext rfl (r_neI (r_brF (by omega) ?_)))))))
  refine r_ldN (b := p) (o := 0) hs (by decide) (l := C.enc) rfl rfl (r_fill (c := cacE t C core Cac.new) rfl (r_bx hs ?_))
  intro q h hs
  have hs := cac_close q t C core Cac.new hs rfl rfl
  exact hk q h hs.to
end Go.Proofs.YtfkjpjkkjlipiaaDoor
end
section
namespace Go.Proofs.YtfkjpjkkjlipiaaDoor
open Go Go.Ab Go.Hm Go.Ct
def refE (sets ways : Int) : List Value := [I 0, I 4, I sets, I ways, .slice none 0 0, I (-1), .bool false, I (-1), I 0, I 0, I 0, I 0]
theorem r_neN {x y : Note} {k : Value → Prop} (hk : ∀ b, (x = y → b = false) → k (.bool b)) : thn (biA [0, 0, 0, 0, 0, 0, 0, 1, 0] .neq (.agg ⟨x.enc⟩) (.agg ⟨y.enc⟩)) k := by
  refine ⟨_, rfl, ?_⟩
  refine hk _ ?_
  rintro rfl
  simp
theorem encN_at (ns : List Note) (i : Nat) (h : i < ns.length) : ((encNs ns).drop (i * 9 + 0)).take 9 = (ns[i]).enc := by
  induction ns generalizing i with
  | nil => simp at h
  | cons a t ih =>
    cases i with
    | zero => simp [encNs]; rfl
    | succ i =>
      have e9 : (Note.enc a).length = 9 := rfl
      simp only [encNs, List.flatMap_cons] at ih ⊢
      rw [show (i + 1) * 9 + 0 = 9 + (i * 9 + 0) by omega, List.drop_append, List.drop_of_length_le (by rw [e9]; omega), e9, show 9 + (i * 9 + 0) - 9 = i * 9 + 0 by omega, List.nil_append]
      simpa using ih i (by simpa using h)
attribute [local irreducible] thn Br ld1 ldN stV alc alcAt alcS alcSAt resv padd nilV extV part1 partN lenS lenT biI biT biB biP biS biF biE biA unV idxS idxA pickV appV copyV clearV slS slA slT mkS blkOf at1 atN atS convI convS minV maxV Cl OkF OkR EndX endV beginV defersOf setLoop closeMarks
variable {G : Bg} {h : AH} {L L' M : List HP}
theorem notes_ok {a a2 : Option Addr} {c c2 : Nat} {ns ms : List Note} {Q : Value → AH → Prop} (hlen : ns.length < 2 ^ 40) (hs : Hs G h L) [m : Has (slc 9 26 a c) L (ns.length, encNs ns) L'] [m2 : Has (slc 9 26 a2 c2) L' (ms.length, encNs ms) M]
    (hk : ∀ b h', (ns = ms → b = true) → Hs G h' M → Q (.bool b) h') : Cl Pr K 24 [.slice a ns.length c, .slice a2 ms.length c2] h Q := by
  have hs : Hs G h (slc 9 26 a c (ns.length, encNs ns) :: slc 9 26 a2 c2 (ms.length, encNs ms) :: M) := hs.perm (m.perm.trans (m2.perm.cons _))
  refine c24 (b24_0 (r_lenS (r_lenS (r_neI (r_br (fun h1 => ?_) (fun h1 => b24_1 ?_))))))
  · exact hk _ _ (fun e => absurd (by rw [e]) h1) hs.tail.tail
  have hl : ns.length = ms.length := by
    have : (ns.length : Int) = (ms.length : Int) := by simpa using h1
    omega
  have loop : ∀ (f i : Nat) (h : AH) (g : HP), i + f = ns.length → Hs G h (slc 9 26 a c (ns.length, encNs ns) :: slc 9 26 a2 c2 (ms.length, encNs ms) :: g :: M) →
      A24_2 Q (.slice a ns.length c) (.slice a2 ms.length c2) (I i) h := by
    intro f
    induction f with
    | zero =>
      intro i h g hi hs
      exact b24_2 (r_lenS (r_ltI (r_brF (by omega) (hk true h (fun _ => rfl) hs.tail.tail.tail))))
    | succ f ih =>
      intro i h g hi hs
      have hlt : i < ns.length := by omega
      have hlt2 : i < ms.length := by omega
      refine b24_2 (r_lenS (r_ltI (r_brT (by omega) (b24_3 (r_resv hs ?_)))))
      intro rv h hs
      have hs : Hs G h (slc 9 26 a c (ns.length, encNs ns) :: slc 9 26 a2 c2 (ms.length, encNs ms) :: sp [frK rv (9, []), g] :: M) := hs.to
      obtain ⟨b, o, rfl, H, hs1, _⟩ := hs.slcOpen (by omega)
      obtain ⟨b2, o2, rfl, H2, hs2, _⟩ := hs.at2.slcOpen (by omega)
      refine r_idxN hlt (r_ldNI hs1 (by decide) (l := ns[i].enc) (encN_at ns i hlt) rfl (r_idxN hlt2 (r_ldNI hs2 (by decide) (l := ms[i].enc) (encN_at ms i hlt2) rfl (r_neN fun bb hbb => r_brb (fun h2 => ?_) (fun h2 => ?_)))))
      · refine hk false h (fun e => ?_) hs.tail.tail.tail
        have := hbb (by subst e; rfl)
        rw [this] at h2; cases h2
      · exact b24_4 (r_addI (by omega) (ih (i + 1) h _ (by omega) hs))
  exact loop ns.length 0 h (sp []) (by omega) (show Hs G h (slc 9 26 a c (ns.length, encNs ns) :: slc 9 26 a2 c2 (ms.length, encNs ms) :: sp [] :: M) from hs.to)
variable {q : Nat} {sets ways : Int}
theorem refNew_ok {Q : Value → AH → Prop} (hs : Hs G h L) (hk : ∀ q h', Hs G h' (seg q 0 (refE sets ways) :: L) → Q (pt q 0 0) h') : Cl Pr K 13 [I 0, I 4, I sets, I ways] h Q := by
  refine c13 (b13_0 (r_fill (c := [I (-1), I 0, I 0, I 0, I 0]) rfl (r_fill (c := refE sets ways) rfl (r_bx hs ?_))))
  intro q h hs
  exact hk q h hs
theorem refAt_ok {l : Int} {Q : Value → AH → Prop} (hs : Hs G h L) [m : Has (seg q 0) L (refE sets ways) L'] (hk : Q (I (-1)) h) : Cl Pr K 61 [pt q 0 0, I l] h Q := by
  have hs := m.of hs
  exact c61 (b61_0 (b61_1 (r_nilP (r_padd (r_ld (b := q) (o := 0) hs rfl (r_lenS (r_ltI (r_brF (by omega) hk))))))))
theorem refVictim_ok {l : Int} {Q : Value → AH → Prop} (hs : Hs G h L) [m : Has (seg q 0) L (refE sets ways) L'] (hk : Q (I (-1)) h) : Cl Pr K 63 [pt q 0 0, I l] h Q := by
  have hs := m.of hs
  exact c63 (b63_0 (b63_1 (r_nilP (r_padd (r_ld (b := q) (o := 0) hs rfl (r_lenS (r_ltI (r_brF (by omega) (b63_3 (r_nilP (r_padd (r_ld (b := q) (o := 0) hs rfl (r_ltI (r_br (fun _ => hk) (fun _ => hk)))))))))))))))
theorem refMay_ok {l ow : Int} {w : Bool} {Q : Value → AH → Prop} (hs : Hs G h L) [m : Has (seg q 0) L (refE sets ways) L'] (hk : Q (.bool false) h) : Cl Pr K 39 [pt q 0 0, I l, I ow, .bool w] h Q := by
  have hs := m.of hs
  exact c39 (b39_0 (refAt_ok (sets := sets) (ways := ways) hs (r_geI (r_brF (by omega) hk))))
theorem refUse_ok {l at' ow v : Int} {w : Bool} {Q : Value → AH → Prop} (hs : Hs G h L) [m : Has (seg q 0) L (refE sets ways) L'] (hk : ∀ a e h', Hs G h' L' → Q (.tuple ⟨[I a, I e]⟩) h') : Cl Pr K 38 [pt q 0 0, I l, I at', I ow, .bool w, I v] h Q := by
  have hs := m.of hs
  have hk := fun a e => hk a e h hs.tail
  refine c38 (b38_0 (r_ltI (r_br (fun _ => hk _ _) (fun _ => r_nilP (r_padd (r_ld (b := q) (o := 0) hs rfl (r_geI (r_br (fun _ => hk _ _) (fun _ => r_ltI (r_br (fun _ => hk _ _) (fun _ => r_gtI (r_br (fun _ => hk _ _) (fun _ => b38_1 ?_)))))))))))))
  exact refMay_ok (sets := sets) (ways := ways) hs (r_not (r_brt (hk _ _)))
/-- a list of one note, or none -/
abbrev NK (G : Bg) (L : List HP) (Q : Value → AH → Prop) : Prop := ∀ a c (ns : List Note) e h', Hs G h' (slc 9 26 a c (ns.length, encNs ns) :: L) → Q (.tuple ⟨[.slice a ns.length c, I e]⟩) h'
theorem nk_nil {Q : Value → AH → Prop} {e : Int} (hk : NK G L Q) (hs : Hs G h L) : Q (.tuple ⟨[.slice none 0 0, I e]⟩) h := hk none 0 [] e h (slc_nil (W := 9) (e := 26) hs)
theorem nk_one {Q : Value → AH → Prop} {e : Int} {a : Option Addr} {c : Nat} {x : Note} (hk : NK G L Q) (hs : Hs G h (slc 9 26 a c (1, x.enc) :: L)) : Q (.tuple ⟨[.slice a 1 c, I e]⟩) h := by
  refine hk a c [x] e h ?_
  have e : encNs [x] = x.enc := by simp [encNs]
  simp only [e, List.length_cons, List.length_nil, Nat.zero_add]
  exact hs
theorem refWant_ok {l w : Int} {wr : Bool} {Q : Value → AH → Prop} (hs : Hs G h L) [m : Has (seg q 0) L (refE sets ways) L'] (hk : NK G L' Q) : Cl Pr K 36 [pt q 0 0, I l, I w, .bool wr] h Q := by
  have hs := m.of hs
  refine c36 (b36_0 (r_ltI (r_br (fun _ => nk_nil hk hs.tail) (fun h1 => r_nilP (r_padd (r_ld (b := q) (o := 0) hs rfl (r_geI (r_br (fun _ => nk_nil hk hs.tail) (fun _ => b36_1 ?_)))))))))
  refine r_nilP (r_padd (r_ld (b := q) (o := 0) hs rfl (r_geI (r_brF (by omega) (b36_2 (r_nilP (r_padd (r_padd (r_ld (b := q) (o := 0) hs rfl (r_eqI (r_brF (by omega) (b36_3 ?_))))))))))))
  refine refAt_ok (sets := sets) (ways := ways) hs (r_geI (r_brF (by omega) (r_ltI (r_brT (by omega) (refVictim_ok (sets := sets) (ways := ways) hs (r_geI (r_brF (by omega) (b36_6 ?_))))))))
  refine r_nilP (r_padd (r_sto (b := q) (o := 0) hs rfl rfl rfl rfl ?_))
  intro h hs
  refine r_nilP (r_padd (r_sto (b := q) (o := 0) hs rfl rfl rfl rfl ?_))
  intro h hs
  refine r_nilP (r_padd (r_ld (b := q) (o := 0) hs rfl (r_fill (c := (⟨1, 0, l, w, 0, 0, 0, false, 0⟩ : Note).enc) rfl (r_new hs ?_))))
  intro p h hs
  refine r_stW hs rfl rfl rfl rfl ?_
  intro h hs
  cases wr
  · refine r_brf (r_ldN (b := p) (o := 0) hs (by decide) (l := (⟨1, 0, l, w, 0, 0, 0, false, 0⟩ : Note).enc) rfl rfl (r_fill (c := (⟨1, 0, l, w, 0, 0, 0, false, 0⟩ : Note).enc) rfl (r_newS (W := 9) (n := 1) (c := 1) hs rfl rfl rfl ?_)))
    intro a2 h hs
    have hs := slc_nil (W := 9) (e := 26) hs
    refine r_appS (a := none) (c := 0) (n := 0) (cs := []) (a2 := some a2) (c2 := 1) (m := 1) (ns := (⟨1, 0, l, w, 0, 0, 0, false, 0⟩ : Note).enc) hs (by omega) ?_
    intro a' c' h hs
    exact nk_one hk (show Hs G h (slc 9 26 a' c' (0 + 1, [] ++ (⟨1, 0, l, w, 0, 0, 0, false, 0⟩ : Note).enc) :: L') from hs.to)
  · refine r_brt (b36_7 (r_padd (r_sto (b := p) (o := 0) hs rfl rfl rfl rfl ?_)))
    intro h hs
    refine r_ldN (b := p) (o := 0) hs (by decide) (l := (⟨2, 0, l, w, 0, 0, 0, false, 0⟩ : Note).enc) rfl rfl (r_fill (c := (⟨2, 0, l, w, 0, 0, 0, false, 0⟩ : Note).enc) rfl (r_newS (W := 9) (n := 1) (c := 1) hs rfl rfl rfl ?_))
    intro a2 h hs
    have hs := slc_nil (W := 9) (e := 26) hs
    refine r_appS (a := none) (c := 0) (n := 0) (cs := []) (a2 := some a2) (c2 := 1) (m := 1) (ns := (⟨2, 0, l, w, 0, 0, 0, false, 0⟩ : Note).enc) hs (by omega) ?_
    intro a' c' h hs
    exact nk_one hk (show Hs G h (slc 9 26 a' c' (0 + 1, [] ++ (⟨2, 0, l, w, 0, 0, 0, false, 0⟩ : Note).enc) :: L') from hs.to)
theorem refTake_ok {n : Note} {Q : Value → AH → Prop} (hs : Hs G h L) [m : Has (seg q 0) L (refE sets ways) L'] (hk : NK G L' Q) : Cl Pr K 37 [pt q 0 0, .agg ⟨n.enc⟩] h Q := by
  have hs := m.of hs
  refine c37 (b37_0 (r_bx hs ?_))
  intro p h hs
  have rest : ∀ {h : AH}, Hs G h (seg p 0 n.enc :: seg q 0 (refE sets ways) :: L') → (resv h 12 fun r7 h6 => thn (padd 2 (pt p 0 0)) fun v8 => thn (ld1 h6 v8) fun v9 => thn (biI .lss v9 (I 0)) fun v10 =>
      Br v10 (Q (.tuple ⟨[(.slice none 0 0), (I 10)]⟩) h6) (thn (padd 2 (pt p 0 0)) fun v11 => thn (ld1 h6 v11) fun v12 => thn (nilV (pt q 0 0)) fun v13 => thn (padd 1 v13) fun v14 => thn (ld1 h6 v14) fun v15 => thn (biI .geq v12 v15) fun v16 =>
        Br v16 (Q (.tuple ⟨[(.slice none 0 0), (I 10)]⟩) h6) (A37_2 Q (pt q 0 0) (pt p 0 0) h6))) := by
    intro h hs
    refine r_resv hs ?_
    intro rr h hs
    refine r_padd (r_ld (b := p) (o := 0) hs rfl (r_ltI (r_br (fun _ => nk_nil hk hs.tail.tail.tail) (fun h0 => r_padd (r_ld (b := p) (o := 0) hs rfl (r_nilP (r_padd (r_ld (b := q) (o := 0) hs rfl (r_geI (r_br (fun _ => nk_nil hk hs.tail.tail.tail) (fun _ => b37_2 ?_)))))))))))
    refine r_padd (r_ld (b := p) (o := 0) hs rfl (refAt_ok (sets := sets) (ways := ways) hs (r_padd (r_ld (b := p) (o := 0) hs rfl (r_eqI (r_br (fun _ => b37_3 (r_resv hs ?_)) (fun _ => b37_4 ?_)))))))
    · intro r2 h hs
      refine r_nilP (r_padd (r_padd (r_ld (b := q) (o := 0) hs rfl (r_padd (r_ld (b := p) (o := 0) hs rfl (r_neI (r_brT (by omega) (nk_nil hk hs.tail.tail.tail.tail))))))))
    · refine r_padd (r_ld (b := p) (o := 0) hs rfl (r_neI (r_br (fun _ => b37_6 (r_resv hs ?_)) (fun _ => b37_7 ?_))))
      · intro r2 h hs
        exact r_nilP (r_padd (r_ld (b := q) (o := 0) hs rfl (r_padd (r_ld (b := p) (o := 0) hs rfl (r_neI (r_brT (by omega) (nk_nil hk hs.tail.tail.tail.tail)))))))
      · have fin : A37_11 Q (pt q 0 0) (pt p 0 0) h := by
          refine b37_11 (r_resv hs ?_)
          intro r2 h hs
          refine r_nilP (r_padd (r_padd (r_ld (b := q) (o := 0) hs rfl (r_padd (r_ld (b := p) (o := 0) hs rfl (r_eqI (r_brF (by omega) (r_resv hs ?_))))))))
          intro r3 h hs
          refine r_nilP (r_padd (r_ld (b := q) (o := 0) hs rfl (r_padd (r_ld (b := p) (o := 0) hs rfl (r_fill (c := (⟨5, 0, n.line, 0, 0, 0, 0, false, 0⟩ : Note).enc) rfl (r_fill (c := (⟨5, 0, n.line, 0, 0, 0, 0, false, 0⟩ : Note).enc) rfl ?_))))))
          refine r_newSAt (i := 7) (N := 10) (D := []) hs rfl rfl rfl rfl rfl ?_
          intro a h hs
          exact nk_one hk (show Hs G h (slc 9 26 (some a) 1 (1, (⟨5, 0, n.line, 0, 0, 0, 0, false, 0⟩ : Note).enc) :: L') from hs.to)
        refine r_padd (r_ld (b := p) (o := 0) hs rfl (r_neI (r_br (fun _ => r_padd (r_ld (b := p) (o := 0) hs rfl (r_neI (r_br (fun _ => nk_nil hk hs.tail.tail.tail) (fun _ => b37_9 (r_geI (r_brF (by omega) fin))))))) (fun _ => r_geI (r_brF (by omega) fin)))))
  refine r_padd (r_ld (b := p) (o := 0) hs rfl (r_neI (r_br (fun _ => r_padd (r_ld (b := p) (o := 0) hs rfl (r_neI (r_br (fun _ => r_padd (r_ld (b := p) (o := 0) hs rfl (r_neI (r_br (fun _ => r_padd (r_ld (b := p) (o := 0) hs rfl (r_neI (r_br (fun _ => nk_nil hk hs.tail.tail) (fun _ => b37_1 (rest hs)))))) (fun _ => rest hs))))) (fun _ => rest hs))))) (fun _ => rest hs))))
end Go.Proofs.YtfkjpjkkjlipiaaDoor
end
section
namespace Go.Proofs.YtfkjpjkkjlipiaaDoor
open Go Go.Ab Go.Hm Go.Ct
theorem rem_sub {no : Int} {l : List Th} : (rem no l).Sublist l := by
  induction l with
  | nil => exact List.Sublist.refl _
  | cons t l ih =>
    simp only [rem]
    split
    · exact List.sublist_cons_self t l
    · exact ih.cons_cons t
theorem rem_not {no : Int} {l : List Th} (h : (l.map (·.1)).Nodup) : no ∉ (rem no l).map (·.1) := by
  induction l with
  | nil => simp [rem]
  | cons t l ih =>
    simp only [List.map_cons, List.nodup_cons] at h
    simp only [rem]
    split
    · rename_i e; rw [← e]; exact h.1
    · rename_i e
      simp only [List.map_cons, List.mem_cons, not_or]
      exact ⟨fun e2 => e e2.symm, ih h.2⟩
theorem get_mem {no : Int} {l : List Th} {x : Cpy} (h : get no l = some x) : (no, x) ∈ l := by
  unfold Go.Ct.get at h
  cases hf : l.find? (fun t => decide (t.1 = no)) with
  | none => rw [hf] at h; cases h
  | some t =>
    rw [hf] at h
    have h1 := List.mem_of_find?_eq_some hf
    have h2 := List.find?_some hf
    simp only [Option.map_some, Option.some.injEq] at h
    have h2 : t.1 = no := of_decide_eq_true h2
    subst h; subst h2
    exact h1
theorem get_not {no : Int} {l : List Th} (h : no ∉ l.map (·.1)) : get no l = none := by
  unfold Go.Ct.get
  rw [List.find?_eq_none.2]
  · rfl
  · intro t ht
    simp only [decide_eq_true_eq]
    intro e
    exact h (List.mem_map.2 ⟨t, ht, e⟩)
theorem get_last {no : Int} {l : List Th} {x : Cpy} (h : no ∉ l.map (·.1)) : get no (l ++ [(no, x)]) = some x := by
  have h1 := get_not h
  unfold Go.Ct.get at h1 ⊢
  rw [List.find?_append]
  cases hf : l.find? (fun t => decide (t.1 = no)) with
  | none => simp
  | some t => rw [hf] at h1; cases h1
structure GoodL (ways : Nat) (l : List Th) : Prop where
  len : l.length ≤ ways
  st : ∀ t ∈ l, 1 ≤ t.2.st ∧ t.2.st ≤ 4
  nd : (l.map (·.1)).Nodup
theorem GoodL.rem {ways : Nat} {l : List Th} {no : Int} (h : GoodL ways l) : GoodL ways (Go.Ct.rem no l) :=
  ⟨Nat.le_trans rem_sub.length_le h.len, fun t ht => h.st t (rem_sub.mem ht), (rem_sub.map _).nodup h.nd⟩
theorem GoodL.app {ways : Nat} {l : List Th} {no : Int} {x : Cpy} (h : GoodL ways l) (hl : l.length < ways) (hx : 1 ≤ x.st ∧ x.st ≤ 4) (hn : no ∉ l.map (·.1)) : GoodL ways (l ++ [(no, x)]) :=
  ⟨by simp; omega, fun t ht => by
    rcases List.mem_append.1 ht with h1 | h1
    · exact h.st t h1
    · have : t = (no, x) := by simpa using h1
      subst this; exact hx, by
    rw [List.map_append, List.nodup_append]
    refine ⟨h.nd, by simp, ?_⟩
    intro a ha b hb e
    have : b = no := by simpa using hb
    subst e; subst this; exact hn ha⟩
/-- each thing is in its set -/
def Pl (n : Nat) (S : Nat → List Th) : Prop := ∀ i t, t ∈ S i → 0 ≤ t.1 ∧ setOf n t.1 = i
theorem pl_drop {n : Nat} {S : Nat → List Th} {no : Int} (h : Pl n S) : Pl n (dropV n S no) := by
  intro i t ht
  unfold dropV at ht
  split at ht
  · exact h i t ht
  · unfold updA at ht
    split at ht
    · rename_i e; subst e; exact h _ t (rem_sub.mem ht)
    · exact h i t ht
theorem pl_put {n ways : Nat} {S : Nat → List Th} {no : Int} {x : Cpy} (h0 : 0 ≤ no) (h : Pl n S) : Pl n (putV n ways S no x).1 := by
  intro i t ht
  unfold putV at ht
  split at ht
  · unfold updA at ht
    dsimp only at ht
    split at ht
    · rename_i e; subst e; exact h _ t (rem_sub.mem ht)
    · exact h i t ht
  · unfold updA at ht
    dsimp only at ht
    split at ht
    · rename_i e; subst e
      rcases List.mem_append.1 ht with h1 | h1
      · exact h _ t (rem_sub.mem h1)
      · have : t = (no, x) := by simpa using h1
        subst this; exact ⟨h0, rfl⟩
    · exact h i t ht
structure Good (n ways : Nat) (s : Cac) : Prop where
  sets : ∀ i, GoodL ways (s.S i)
  back : s.gis = true → 0 ≤ s.gc.st ∧ s.gc.st ≤ 4
  pl : Pl n s.S
variable {n ways : Nat} {S : Nat → List Th} {s : Cac}
theorem good_drop {no : Int} (h : ∀ i, GoodL ways (S i)) : ∀ i, GoodL ways (dropV n S no i) := by
  intro i
  unfold dropV
  split
  · exact h i
  · unfold updA
    split
    · exact (h _).rem
    · exact h i
theorem good_put {no : Int} {x : Cpy} (hx : 1 ≤ x.st ∧ x.st ≤ 4) (h : ∀ i, GoodL ways (S i)) : ∀ i, GoodL ways ((putV n ways S no x).1 i) := by
  intro i
  unfold putV
  split
  · unfold updA
    dsimp only
    split
    · exact (h _).rem
    · exact h i
  · rename_i hl
    unfold updA
    dsimp only
    split
    · exact ((h (setOf n no)).rem).app (by omega) hx (rem_not (h _).nd)
    · exact h i
theorem peek_st {l : Int} (h : ∀ i, GoodL ways (S i)) (hp : (peekV n S l).2 = 0) : 1 ≤ (peekV n S l).1.st ∧ (peekV n S l).1.st ≤ 4 := by
  unfold peekV at hp ⊢
  split at hp
  · cases hp
  · rename_i h0
    rw [if_neg h0]
    cases hg : get l (S (setOf n l)) with
    | none => rw [hg] at hp; cases hp
    | some x => exact (h _).st _ (get_mem hg)
theorem good_get {no : Int} (h : ∀ i, GoodL ways (S i)) : ∀ i, GoodL ways (getV n ways S no i) := by
  intro i
  unfold getV
  split
  · rename_i hp
    exact good_put (peek_st h hp) (good_drop h) i
  · exact good_drop h i
theorem peek_0 {no : Int} (hp : (peekV n S no).2 = 0) : 0 ≤ no := by
  unfold peekV at hp
  split at hp
  · cases hp
  · omega
theorem pl_get {no : Int} (h : Pl n S) : Pl n (getV n ways S no) := by
  unfold getV
  split
  · rename_i hp
    exact pl_put (peek_0 hp) (pl_drop h)
  · exact pl_drop h
theorem Good.bd (h : Good n ways s) (hw : ways ≤ 4) : Bd s := fun i => Nat.le_trans (h.sets i).len hw
theorem Good.sts (h : Good n ways s) : Sts n s := ⟨fun l hp => by have := peek_st (n := n) h.sets hp; omega, fun hg => by have := h.back hg; omega⟩
theorem good_new : Good n ways Cac.new := ⟨fun _ => ⟨Nat.zero_le _, (fun _ h => by cases h), List.nodup_nil⟩, (fun h => by cases h), fun _ _ h => by cases h⟩
variable {C : Cfg} {core : Int}
abbrev GoodC (C : Cfg) (s : Cac) : Prop := Good C.sets.toNat C.ways.toNat s
theorem good_want {l w : Int} {wr : Bool} (h : GoodC C s) : GoodC C (want C core s l w wr).1 := by
  unfold want
  split
  · exact h
  · split
    · exact h
    · split
      · exact h
      · split
        · exact h
        · unfold wantV
          split
          · exact ⟨h.sets, h.back, h.pl⟩
          · split
            · exact h
            · split
              · exact ⟨good_drop h.sets, h.back, pl_drop h.pl⟩
              · rename_i v _ _ hp
                have hp : (peekV C.sets.toNat s.S v.1).2 = 0 := by simpa using hp
                exact ⟨good_drop h.sets, fun _ => (by have := peek_st (n := C.sets.toNat) h.sets hp; exact ⟨by show 0 ≤ (peekV C.sets.toNat s.S v.1).1.st; omega, this.2⟩), pl_drop h.pl⟩
theorem nextS_bd {x to : Int} (hx : 0 ≤ x ∧ x ≤ 4) : 0 ≤ nextS x to ∧ nextS x to ≤ 4 := by
  unfold nextS sharedS
  repeat' split
  all_goals omega
theorem good_take {nt : Note} (hv : nt.kind = 8 → 1 ≤ nt.state ∧ nt.state ≤ 4) (h : GoodC C s) : GoodC C (takeV C core s nt).1 := by
  unfold takeV
  split
  · rename_i h8
    split
    · exact h
    · rename_i hh
      have h0 : 0 ≤ nt.line := (of_decide_eq_true (by simpa using hh : hasL C nt.line = true)).1
      unfold grantV
      split
      · exact h
      · split
        · exact h
        · split
          · exact ⟨good_put (hv h8) h.sets, h.back, pl_put h0 h.pl⟩
          · exact ⟨good_put (hv h8) h.sets, h.back, pl_put h0 h.pl⟩
  · split
    · split
      · exact h
      · unfold nackV
        split
        · exact h
        · split
          · exact h
          · exact ⟨h.sets, h.back, h.pl⟩
    · split
      · split
        · exact h
        · unfold putAckV
          split
          · exact h
          · split
            · exact h
            · exact ⟨h.sets, (fun e => by cases e), h.pl⟩
      · split
        · split
          · exact h
          · unfold probeV
            split
            · exact h
            · split
              · rename_i hp
                have h0 := peek_0 hp
                have hst := peek_st (n := C.sets.toNat) h.sets hp
                refine ⟨?_, h.back, ?_⟩
                rotate_left
                · dsimp only
                  split
                  · exact pl_drop h.pl
                  · exact pl_put h0 h.pl
                dsimp only
                split
                · exact good_drop h.sets
                · rename_i hne
                  exact good_put (by have := nextS_bd (x := (peekV C.sets.toNat s.S nt.line).1.st) (to := nt.state) (by omega); dsimp only; omega) h.sets
              · split
                · exact h
                · split
                  · exact h
                  · rename_i hg _
                    exact ⟨h.sets, (fun _ => nextS_bd (h.back (by simpa using hg))), h.pl⟩
        · exact h
theorem good_read {l a ow : Int} (h : GoodC C s) : GoodC C (readS C s l a ow) := by
  unfold readS
  split
  · exact ⟨good_get h.sets, h.back, pl_get h.pl⟩
  · exact h
theorem good_write {l a ow v : Int} (h : GoodC C s) : GoodC C (writeS C s l a ow v) := by
  unfold writeS
  split
  · rename_i hr
    exact ⟨good_put (by simp [wroteV]) h.sets, h.back, pl_put (reach0 hr).1.1 h.pl⟩
  · exact h
/-- a call -/
def doesV (C : Cfg) (s : Cac) (o : COp) : Cac :=
  if o.ask = 0 then (want C 0 s o.line o.world o.write).1 else if o.ask = 1 then (takeV C 0 s o.n).1 else if o.ask = 2 then readS C s o.line o.at' o.world else if o.ask = 3 then writeS C s o.line o.at' o.world o.v else s
def rightO (o : COp) : Prop := o.ask = 1 → o.n.kind = 8 → loadS o.n.state = true
theorem good_does {o : COp} (ho : rightO o) (h : GoodC C s) : GoodC C (doesV C s o) := by
  unfold doesV
  split
  · exact good_want h
  · split
    · rename_i h1
      exact good_take (fun h8 => of_decide_eq_true (ho h1 h8)) h
    · split
      · exact good_read h
      · split
        · exact good_write h
        · exact h
theorem want_len {l w : Int} {wr : Bool} : (want C core s l w wr).2.1.length ≤ 2 := by
  unfold want
  split
  · simp
  · split
    · simp
    · split
      · simp
      · split
        · simp
        · unfold wantV
          split
          · simp [wantF]
          · split
            · simp
            · split
              · simp
              · simp [wantF]
theorem take_len {nt : Note} : (takeV C core s nt).2.1.length ≤ 1 := by
  unfold takeV grantV nackV putAckV probeV
  repeat' split
  all_goals simp
end Go.Proofs.YtfkjpjkkjlipiaaDoor
end
section
namespace Go.Proofs.YtfkjpjkkjlipiaaDoor
open Go Go.Ab Go.Hm Go.Ct
attribute [local irreducible] thn Br ld1 ldN stV alc alcAt alcS alcSAt resv padd nilV extV part1 partN lenS lenT biI biT biB biP biS biF biE biA unV idxS idxA pickV appV copyV clearV slS slA slT mkS blkOf at1 atN atS convI convS minV maxV Cl OkF OkR EndX endV beginV defersOf setLoop closeMarks
variable {G : Bg} {h : AH} {L L' M : List HP} {C : Cfg} {c : Nat} {s : Cac} {q : Nat} {sets ways : Int}
theorem does_ok (hC : C.Ok) (hg : GoodC C s) {o : COp} {Q : Value → AH → Prop} (hl : Ob G 0 limE) (ho : Ob G 1 rowsE) (hs : Hs G h L) [m : Has (cacR G c C 0) L s L'] [m2 : Has (seg q 0) L' (refE sets ways) M]
    (hk : ∀ b h', Hs G h' (cacR G c C 0 (doesV C s o) :: M) → Q (.bool b) h') : Cl Pr K 12 [pt c 0 0, pt q 0 0, .agg ⟨o.enc⟩] h Q := by
  have hb : Bd s := hg.bd (setsP hC).2.2.2
  have hst : Sts C.sets.toNat s := hg.sts
  have hs : Hs G h (cacR G c C 0 s :: seg q 0 (refE sets ways) :: M) := hs.perm (m.perm.trans (m2.perm.cons _))
  refine c12 (b12_0 (r_bx hs ?_))
  intro p h hs
  unfold doesV at hk
  refine r_padd (r_ld (b := p) (o := 0) hs rfl (r_eqI (r_br (fun h1 => b12_1 ?_) (fun h1 => b12_2 (r_eqI (r_br (fun h2 => b12_3 ?_) (fun h2 => b12_4 (r_eqI (r_br (fun h3 => b12_5 ?_) (fun h3 => b12_6 (r_eqI (r_br (fun h4 => b12_7 ?_) (fun h4 => ?_)))))))))))))
  · rw [if_pos h1] at hk
    refine r_padd (r_ld (b := p) (o := 0) hs rfl (r_padd (r_ld (b := p) (o := 0) hs rfl (r_padd (r_ld (b := p) (o := 0) hs rfl (want_ok (core := 0) (s := s) hC hb hl ho hs fun a c2 h hs => ?_))))))
    refine r_ext rfl (r_ext rfl (r_padd (r_ld (b := p) (o := 0) hs rfl (r_padd (r_ld (b := p) (o := 0) hs rfl (r_padd (r_ld (b := p) (o := 0) hs rfl (refWant_ok (sets := sets) (ways := ways) hs fun a3 c3 ms e h hs => ?_))))))))
    refine r_ext rfl (r_ext rfl (notes_ok (a := a) (c := c2) (ns := (want C 0 s o.line o.world o.write).2.1) (a2 := a3) (c2 := c3) (ms := ms) (by have := want_len (C := C) (core := 0) (s := s) (l := o.line) (w := o.world) (wr := o.write); omega) hs fun b h _ hs => r_brb (fun _ => r_eqI (hk _ _ hs.to)) (fun _ => hk _ _ hs.to)))
  · rw [if_neg h1, if_pos h2] at hk
    refine r_padd (r_ldN (b := p) (o := 0) hs (by decide) (l := o.n.enc) rfl rfl (take_ok (core := 0) (s := s) (n := o.n) hC hb hst hl ho hs fun a c2 h hs => ?_))
    refine r_ext rfl (r_ext rfl (r_padd (r_ldN (b := p) (o := 0) hs (by decide) (l := o.n.enc) rfl rfl (refTake_ok (sets := sets) (ways := ways) (n := o.n) hs fun a3 c3 ms e h hs => ?_))))
    refine r_ext rfl (r_ext rfl (notes_ok (a := a) (c := c2) (ns := (takeV C 0 s o.n).2.1) (a2 := a3) (c2 := c3) (ms := ms) (by have := take_len (C := C) (core := 0) (s := s) (nt := o.n); omega) hs fun b h _ hs => r_brb (fun _ => r_eqI (hk _ _ hs.to)) (fun _ => hk _ _ hs.to)))
  · rw [if_neg h1, if_neg h2, if_pos h3] at hk
    refine r_padd (r_ld (b := p) (o := 0) hs rfl (r_padd (r_ld (b := p) (o := 0) hs rfl (r_padd (r_ld (b := p) (o := 0) hs rfl (read_ok (core := 0) (s := s) hC hb hl ho hs fun v e h hs => ?_))))))
    refine r_ext rfl (r_ext rfl (r_padd (r_ld (b := p) (o := 0) hs rfl (r_padd (r_ld (b := p) (o := 0) hs rfl (r_padd (r_ld (b := p) (o := 0) hs rfl (refUse_ok (sets := sets) (ways := ways) hs fun v2 e2 h hs => ?_))))))))
    exact r_ext rfl (r_ext rfl (r_eqI (r_br (fun _ => r_eqI (hk _ _ hs.to)) (fun _ => hk _ _ hs.to))))
  · rw [if_neg h1, if_neg h2, if_neg h3, if_pos h4] at hk
    refine r_padd (r_ld (b := p) (o := 0) hs rfl (r_padd (r_ld (b := p) (o := 0) hs rfl (r_padd (r_ld (b := p) (o := 0) hs rfl (r_padd (r_ld (b := p) (o := 0) hs rfl (refUse_ok (sets := sets) (ways := ways) hs fun v2 e2 h hs => ?_))))))))
    refine r_ext rfl (r_ext rfl (r_padd (r_ld (b := p) (o := 0) hs rfl (r_padd (r_ld (b := p) (o := 0) hs rfl (r_padd (r_ld (b := p) (o := 0) hs rfl (r_padd (r_ld (b := p) (o := 0) hs rfl (write_ok (core := 0) (s := s) hC hb hl ho hs fun e h hs => r_eqI (hk _ _ hs.to)))))))))))
  · rw [if_neg h1, if_neg h2, if_neg h3, if_neg h4] at hk
    refine r_resv hs ?_
    intro rr h hs
    refine r_padd (r_ld (b := p) (o := 0) hs rfl (r_padd (r_ld (b := p) (o := 0) hs rfl (r_padd (r_ld (b := p) (o := 0) hs rfl (may_ok (core := 0) (s := s) hC hb ho hs fun h2 hs2 => ?_))))))
    refine r_padd (r_ld (b := p) (o := 0) hs2 rfl (r_padd (r_ld (b := p) (o := 0) hs2 rfl (r_padd (r_ld (b := p) (o := 0) hs2 rfl (refMay_ok (sets := sets) (ways := ways) hs2 (r_eqBB ?_)))))))
    exact r_fl veq_P (r_fl (r_padd veq_P) (r_fl (r_ld (b := p) (o := 0) hs rfl veq_I) (r_fl (r_padd veq_P) (r_fl (r_ld (b := p) (o := 0) hs rfl veq_I) (r_fl (r_padd veq_P) (r_fl (r_ld (b := p) (o := 0) hs rfl veq_B) (hk _ _ hs2.to)))))))
theorem small_ok {Q : Value → AH → Prop} (hs : Hs G h L) (hk : ∀ h', Hs G h' L → Q (.agg ⟨(⟨3, 2, sets, ways, 4, 2, 1⟩ : Cfg).enc⟩) h') : Cl Pr K 11 [I sets, I ways] h Q := by
  refine c11 (b11_0 (r_new hs ?_))
  intro p h hs
  refine r_fill (c := (⟨3, 2, sets, ways, 4, 2, 1⟩ : Cfg).enc) rfl (r_stW hs rfl rfl rfl rfl ?_)
  intro h hs
  exact r_ldN hs (by decide) (l := (⟨3, 2, sets, ways, 4, 2, 1⟩ : Cfg).enc) rfl rfl (hk _ hs.tail)
end Go.Proofs.YtfkjpjkkjlipiaaDoor
end
section
namespace Go.Proofs.YtfkjpjkkjlipiaaDoor
open Go Go.Ab Go.Hm Go.Ct
theorem get_some {l : List Th} {t : Th} (h : t ∈ l) : (get t.1 l).isSome = true := by
  unfold Go.Ct.get
  rw [Option.isSome_map, List.find?_isSome]
  exact ⟨t, h, by simp⟩
theorem hasL_of {C : Cfg} {l : Int} (h : hasL C l = true) : 0 ≤ l ∧ l < C.lines := of_decide_eq_true h
variable {C : Cfg} {s : Cac} {core : Int}
theorem want_no {l w : Int} {wr : Bool} (h : (want C core s l w wr).2.2 ≠ 0) : (want C core s l w wr).2.1 = [] := by
  unfold want at h ⊢
  split
  · rfl
  · rename_i h1
    rw [if_neg h1] at h
    split
    · rfl
    · rename_i h2
      rw [if_neg h2] at h
      split
      · rfl
      · rename_i h3
        rw [if_neg h3] at h
        split
        · rfl
        · rename_i h4
          rw [if_neg h4] at h
          unfold wantV at h ⊢
          split
          · rename_i hv; simp only [hv] at h; exact absurd rfl h
          · rename_i v hv
            simp only [hv] at h
            split
            · rfl
            · rename_i h5
              rw [if_neg h5] at h
              split
              · rfl
              · rename_i h6
                rw [if_neg h6] at h
                exact absurd rfl h
structure Wanted (C : Cfg) (r : Tk) (l : Int) : Prop where
  len : 1 ≤ r.2.1.length ∧ r.2.1.length ≤ 2
  ais : r.1.ais = true
  al : r.1.al = l
  has : hasL C l = true
  room : (rem l (r.1.S (setOf C.sets.toNat l))).length < C.ways.toNat
theorem want_yes (hC : C.Ok) (hg : GoodC C s) {l w : Int} {wr : Bool} (h : (want C core s l w wr).2.2 = 0) : Wanted C (want C core s l w wr) l := by
  have hw := (setsP hC).2.2.1
  unfold want at h ⊢
  split
  · rename_i h1; rw [if_pos h1] at h; cases h
  · rename_i h1
    rw [if_neg h1] at h
    have hhas : hasL C l = true := by simpa using h1
    split
    · rename_i h2; rw [if_pos h2] at h; cases h
    · rename_i h2
      rw [if_neg h2] at h
      split
      · rename_i h3; rw [if_pos h3] at h; cases h
      · rename_i h3
        rw [if_neg h3] at h
        split
        · rename_i h4; rw [if_pos h4] at h; cases h
        · rename_i h4
          rw [if_neg h4] at h
          have hlen := (hg.sets (setOf C.sets.toNat l)).len
          unfold wantV at h ⊢
          cases hv : victimV C.sets.toNat C.ways.toNat s.S l with
          | none =>
            simp only [hv] at h ⊢
            refine ⟨by simp [wantF], rfl, rfl, hhas, ?_⟩
            show (rem l (s.S (setOf C.sets.toNat l))).length < C.ways.toNat
            unfold victimV at hv
            rw [rem_len]
            cases hgt : get l (s.S (setOf C.sets.toNat l)) with
            | some x => simp only [Option.isSome_some, if_true]; omega
            | none =>
              simp only [hgt] at hv
              split at hv
              · simpa using (by assumption : (s.S (setOf C.sets.toNat l)).length < C.ways.toNat)
              · rename_i hlt
                rw [List.getElem?_eq_none_iff] at hv
                omega
          | some v =>
            simp only [hv] at h ⊢
            split
            · rename_i h5; rw [if_pos h5] at h; cases h
            · rename_i h5
              rw [if_neg h5] at h
              split
              · rename_i h6; rw [if_pos h6] at h; exact absurd h h6
              · refine ⟨by simp [wantF], rfl, rfl, hhas, ?_⟩
                show (rem l (dropV C.sets.toNat s.S v.1 (setOf C.sets.toNat l))).length < C.ways.toNat
                unfold victimV at hv
                have hm : v ∈ s.S (setOf C.sets.toNat l) := by
                  split at hv
                  · cases hv
                  · split at hv
                    · cases hv
                    · exact List.mem_of_getElem? hv
                obtain ⟨p1, p2⟩ := hg.pl _ v hm
                have hle : (rem l (dropV C.sets.toNat s.S v.1 (setOf C.sets.toNat l))).length ≤ (dropV C.sets.toNat s.S v.1 (setOf C.sets.toNat l)).length := rem_sub.length_le
                have : (dropV C.sets.toNat s.S v.1 (setOf C.sets.toNat l)).length = (s.S (setOf C.sets.toNat l)).length - 1 := by
                  unfold dropV
                  rw [if_neg (by omega), p2, updA_same, rem_len, get_some hm]
                  rfl
                have hpos : 0 < (s.S (setOf C.sets.toNat l)).length := List.length_pos_of_mem hm
                omega
/-- a grant is taken -/
theorem grant_yes {r : Tk} {l w v : Int} {st : Int} (hw : Wanted C r l) (hg : GoodC C r.1) (hst : st = 1 ∨ st = 4) :
    ∃ s', takeV C 0 r.1 ⟨8, 0, l, w, st, v, 0, false, 0⟩ = (s', [⟨4, 0, l, 0, 0, 0, 0, false, 0⟩], 0) ∧ GoodC C s' ∧ ∀ wr, (wr = true → st = 4) → mayV C.sets.toNat s'.S l w wr = true := by
  have h0 := (hasL_of hw.has).1
  obtain ⟨x, hx⟩ : ∃ x, x = grantX C r.1 ⟨8, 0, l, w, st, v, 0, false, 0⟩ := ⟨_, rfl⟩
  have hxs : x.st = st := by rw [hx]; rfl
  have hxw : x.w = w := by rw [hx]; rfl
  have hnot : ¬ (rem l (r.1.S (setOf C.sets.toNat l))).length ≥ C.ways.toNat := by have := hw.room; omega
  have hput : putV C.sets.toNat C.ways.toNat r.1.S l x = (updA r.1.S (setOf C.sets.toNat l) (rem l (r.1.S (setOf C.sets.toNat l)) ++ [(l, x)]), 0) := by unfold putV; rw [if_neg hnot]
  have heq : takeV C 0 r.1 ⟨8, 0, l, w, st, v, 0, false, 0⟩ = ({ r.1 with S := updA r.1.S (setOf C.sets.toNat l) (rem l (r.1.S (setOf C.sets.toNat l)) ++ [(l, x)]), al := 0, aw := false, ais := false }, [⟨4, 0, l, 0, 0, 0, 0, false, 0⟩], 0) := by
    unfold takeV grantV
    rw [← hx]
    simp [hw.has, hw.ais, hw.al, hput]
  refine ⟨_, heq, ?_, ?_⟩
  · have := good_take (C := C) (core := 0) (nt := ⟨8, 0, l, w, st, v, 0, false, 0⟩) (fun _ => by dsimp only; omega) hg
    rw [heq] at this
    exact this
  · intro wr hwr
    have hp : peekV C.sets.toNat (updA r.1.S (setOf C.sets.toNat l) (rem l (r.1.S (setOf C.sets.toNat l)) ++ [(l, x)])) l = (x, 0) := by
      unfold peekV
      rw [if_neg (by omega), updA_same, get_last (rem_not (hg.sets _).nd)]
    unfold mayV
    dsimp only
    rw [hp]
    dsimp only
    rw [decide_eq_true rfl, decide_eq_true hxw, hxs]
    cases wr
    · rcases hst with rfl | rfl <;> rfl
    · rw [hwr rfl]; rfl
theorem nack_yes {r : Tk} {l : Int} (hw : Wanted C r l) : takeV C 0 r.1 ⟨9, 0, l, 0, 0, 0, 0, false, 0⟩ = ({ r.1 with al := 0, aw := false, ais := false }, [], 0) := by
  unfold takeV nackV
  simp [hw.has, hw.ais, hw.al]
def Old (G : Bg) (W : Nat) (v : Value) (n : Nat) (at' : Nat → List Value) : Prop := ∃ a c, v = .slice a n c ∧ ∀ i, i < n → ∃ b o cells, a = some ⟨b, o, none⟩ ∧ Ob G b cells ∧ (cells.drop (o + i * W)).take W = at' i ∧ o + i * W ≤ cells.length
theorem cell_of {cells l : List Value} {o W j : Nat} (h : (cells.drop o).take W = l) (hm : j < W) : cells[o + j]? = l[j]? := by
  rw [← h, List.getElem?_take, if_pos hm, List.getElem?_drop]
attribute [local irreducible] thn Br ld1 ldN stV alc alcAt alcS alcSAt resv padd nilV extV part1 partN lenS lenT biI biT biB biP biS biF biE biA unV idxS idxA pickV appV copyV clearV slS slA slT mkS blkOf at1 atN atS convI convS minV maxV Cl OkF OkR EndX endV beginV defersOf setLoop closeMarks
variable {G : Bg} {h : AH} {L L' M : List HP} {c : Nat}
theorem right_ok {t : Value} {N : Nat} {ops : Nat → COp} {Q : Value → AH → Prop} (hN : N ≤ 9223372036854775807) (hold : Old G 15 t N fun i => (ops i).enc) (hs : Hs G h L) (hk : ∀ b, (b = true → N ≤ 80 ∧ ∀ i, i < N → rightO (ops i)) → Q (.bool b) h) : Cl Pr K 8 [t] h Q := by
  obtain ⟨a, cp, rfl, hall⟩ := hold
  refine c8 (b8_0 ?_)
  have loop : ∀ (f i : Nat), i + f = N → (∀ j, j < i → rightO (ops j)) → A8_1 Q (.slice a N cp) (I i) h := by
    intro f
    induction f with
    | zero =>
      intro i hi hr
      have : i = N := by omega
      subst this
      refine b8_1 (r_lenS (r_ltI (r_brF (by omega) (r_lenS (r_leI (hk _ fun e => ⟨by have := of_decide_eq_true e; omega, hr⟩))))))
    | succ f ih =>
      intro i hi hr
      have hiN : i < N := by omega
      obtain ⟨b, o, cells, rfl, hob, hc, hle⟩ := hall i hiN
      have next : rightO (ops i) → A8_1 Q (.slice (some ⟨b, o, none⟩) N cp) (I ((i + 1 : Nat) : Int)) h := fun hro => ih (i + 1) (by omega) fun j hj => by
        rcases Nat.lt_succ_iff_lt_or_eq.1 hj with h1 | h1
        · exact hr j h1
        · subst h1; exact hro
      refine b8_1 (r_lenS (r_ltI (r_brT (by omega) (b8_2 (r_idxN hiN (r_padd (r_ldo hs hob (o := o + i * 15) (j := 0 + 0) ((cell_of hc (j := 0) (by omega)).trans rfl) (r_eqI (r_br (fun h1 => ?_) (fun h1 => r_addI (by omega) (next (fun e => absurd e h1))))))))))))
      refine r_idxN hiN (r_padd (r_padd (r_ldo hs hob (o := o + i * 15) (j := 0 + 6 + 0) ((cell_of hc (j := 6) (by omega)).trans rfl) (r_eqI (r_br (fun h2 => ?_) (fun h2 => r_addI (by omega) (next (fun _ e => absurd e h2))))))))
      refine r_idxN hiN (r_padd (r_padd (r_ldo hs hob (o := o + i * 15) (j := 0 + 6 + 4) ((cell_of hc (j := 10) (by omega)).trans rfl) (validS_ok (r_not (r_brn (r_brb (fun h3 => ?_) (fun h3 => ?_))))))))
      · exact b8_3 (r_addI (by omega) (next (fun _ _ => h3)))
      · exact hk false (fun e => by cases e)
  exact loop N 0 (by omega) (fun j hj => absurd hj (Nat.not_lt_zero _))
end Go.Proofs.YtfkjpjkkjlipiaaDoor
end
section
namespace Go.Proofs.YtfkjpjkkjlipiaaDoor
open Go Go.Ab Go.Hm Go.Ct
attribute [local irreducible] thn Br ld1 ldN stV alc alcAt alcS alcSAt resv padd nilV extV part1 partN lenS lenT biI biT biB biP biS biF biE biA unV idxS idxA pickV appV copyV clearV slS slA slT mkS blkOf at1 atN atS convI convS minV maxV Cl OkF OkR EndX endV beginV defersOf setLoop closeMarks
variable {G : Bg} {h : AH} {L L' M : List HP} {c : Nat}
def Cs (a b : Int) : Cfg := ⟨3, 2, a, b, 4, 2, 1⟩
theorem Cs_ok {a b : Int} (ha : 1 ≤ a ∧ a ≤ 2) (hb : 1 ≤ b ∧ b ≤ 2) : (Cs a b).Ok := by unfold Cfg.Ok Cs; dsimp only; omega
theorem r_idx0 {b o : Nat} {k : Value → Prop} (hk : k (pt b o 0)) : thn (idxA 2 1 (pt b o 0) (I 0)) k := r_idxA (by decide) (by decide) hk
theorem r_idx1 {b o : Nat} {k : Value → Prop} (hk : k (pt b o (0 + 1))) : thn (idxA 2 1 (pt b o 0) (I 1)) k := r_idxA (by decide) (by decide) hk
variable {a b : Int} {o : COp} {p2 p5 d : Nat}
theorem grants_10 (hC : (Cs a b).Ok) {s : Cac} (hg : GoodC (Cs a b) s) {Q : Value → AH → Prop} {r : Tk} (hr : s = r.1) (hw : Wanted (Cs a b) r o.line) (hl : Ob G 0 limE) (ho : Ob G 1 rowsE)
    (hs : Hs G h (seg p5 0 o.enc :: cacR G d (Cs a b) 0 s :: L)) (hk : ∀ h, Q (.bool true) h) : A5_10 Q (pt p5 0 0) (pt d 0 0) h := by
  subst hr
  have hb : Bd r.1 := hg.bd (setsP hC).2.2.2
  obtain ⟨t, hs⟩ := cac_open hs.at2
  refine b5_10 (r_nilP (r_padd (r_ld (b := d) (o := 0) hs rfl ?_)))
  refine len_ok (t := t) (ways := (Cs a b).ways.toNat) (n := (Cs a b).sets.toNat) (S := r.1.S) (setsP hC).2.1 hb hs fun h hs => ?_
  have hs := cac_close d t (Cs a b) 0 r.1 hs rfl rfl
  refine r_padd (r_ld (b := p5) (o := 0) hs rfl (r_fill (c := (⟨9, 0, o.line, 0, 0, 0, 0, false, 0⟩ : Note).enc) rfl ?_))
  refine take_ok (C := Cs a b) (core := 0) (c := d) (s := r.1) (n := ⟨9, 0, o.line, 0, 0, 0, 0, false, 0⟩) hC hb hg.sts hl ho hs fun a1 c1 h hs => ?_
  rw [nack_yes hw] at hs ⊢
  dsimp only at hs ⊢
  refine r_ext rfl (r_ext rfl (asked_ok (C := Cs a b) (core := 0) (c := d) (s := { r.1 with al := 0, aw := false, ais := false }) hs fun h hs => ?_))
  refine r_ext rfl (r_ext rfl (r_ext rfl (r_eqI (r_brT rfl (r_lenS (r_eqI (r_brT rfl (r_not (r_brt ?_)))))))))
  obtain ⟨t2, hs⟩ := cac_open hs
  refine r_nilP (r_padd (r_ld (b := d) (o := 0) hs rfl ?_))
  refine len_ok (t := t2) (ways := (Cs a b).ways.toNat) (n := (Cs a b).sets.toNat) (S := r.1.S) (setsP hC).2.1 hb hs fun h hs => ?_
  exact r_eqI (r_brT rfl (awake_ok (hk _)))
theorem grants_9 (hC : (Cs a b).Ok) {st : Int} (hst : st = 1 ∨ st = 4) (hsw : o.write = true → st = 4) {Q : Value → AH → Prop} {r : Tk} (hg : GoodC (Cs a b) r.1) (hw : Wanted (Cs a b) r o.line) (hl : Ob G 0 limE) (ho : Ob G 1 rowsE)
    (hs : Hs G h (seg p5 0 o.enc :: cacR G d (Cs a b) 0 r.1 :: cacR G c (Cs a b) 0 r.1 :: L)) (hk : ∀ h, Q (.bool true) h) : A5_9 Q (pt p5 0 0) (pt c 0 0) (pt d 0 0) (I st) h := by
  have hb : Bd r.1 := hg.bd (setsP hC).2.2.2
  obtain ⟨s', htake, hg', hmay⟩ := grant_yes (w := o.world) (v := o.v) hw hg hst
  have hb' : Bd s' := hg'.bd (setsP hC).2.2.2
  refine b5_9 (r_padd (r_ld (b := p5) (o := 0) hs rfl (r_padd (r_ld (b := p5) (o := 0) hs rfl (r_padd (r_ld (b := p5) (o := 0) hs rfl (r_fill (c := [I o.v, I 0]) rfl (r_fill (c := (⟨8, 0, o.line, o.world, st, o.v, 0, false, 0⟩ : Note).enc) rfl ?_))))))))
  have hs : Hs G h (cacR G c (Cs a b) 0 r.1 :: seg p5 0 o.enc :: cacR G d (Cs a b) 0 r.1 :: L) := hs.to
  refine take_ok (C := Cs a b) (core := 0) (c := c) (s := r.1) (n := ⟨8, 0, o.line, o.world, st, o.v, 0, false, 0⟩) hC hb hg.sts hl ho hs fun a1 c1 h hs => ?_
  rw [htake] at hs ⊢
  dsimp only at hs ⊢
  refine r_ext rfl (r_ext rfl (r_neI (r_brF (by omega) (r_padd (r_ld (b := p5) (o := 0) hs rfl (r_fill (c := (⟨4, 0, o.line, 0, 0, 0, 0, false, 0⟩ : Note).enc) rfl (r_fill (c := (⟨4, 0, o.line, 0, 0, 0, 0, false, 0⟩ : Note).enc) rfl (r_newS (W := 9) (n := 1) (c := 1) hs rfl rfl rfl ?_))))))))
  intro a2 h hs
  have hs : Hs G h (slc 9 26 (some a2) 1 (([⟨4, 0, o.line, 0, 0, 0, 0, false, 0⟩] : List Note).length, encNs [⟨4, 0, o.line, 0, 0, 0, 0, false, 0⟩]) :: slc 9 26 a1 c1 (([⟨4, 0, o.line, 0, 0, 0, 0, false, 0⟩] : List Note).length, encNs [⟨4, 0, o.line, 0, 0, 0, 0, false, 0⟩]) :: cacR G c (Cs a b) 0 s' :: seg p5 0 o.enc :: cacR G d (Cs a b) 0 r.1 :: L) := hs
  refine notes_ok (a := a1) (c := c1) (ns := [⟨4, 0, o.line, 0, 0, 0, 0, false, 0⟩]) (a2 := some a2) (c2 := 1) (ms := [⟨4, 0, o.line, 0, 0, 0, 0, false, 0⟩]) (by simp) hs fun bb h hbb hs => ?_
  rw [hbb rfl]
  refine r_not (r_brf (r_padd (r_ld (b := p5) (o := 0) hs rfl (r_padd (r_ld (b := p5) (o := 0) hs rfl (r_padd (r_ld (b := p5) (o := 0) hs rfl ?_)))))))
  refine may_ok (C := Cs a b) (core := 0) (c := c) (s := s') (l := o.line) (ow := o.world) (w := o.write) hC hb' ho hs fun h hs => ?_
  rw [hmay o.write hsw]
  refine r_not (r_brf (r_padd (r_ld (b := p5) (o := 0) hs rfl (r_padd (r_ld (b := p5) (o := 0) hs rfl ?_)))))
  refine may_ok (C := Cs a b) (core := 0) (c := c) (s := s') (l := o.line) (ow := o.world) (w := false) hC hb' ho hs fun h hs => ?_
  rw [hmay false (fun e => by cases e)]
  refine r_not (r_brf ?_)
  exact grants_10 (r := r) (L := cacR G c (Cs a b) 0 s' :: L) hC hg rfl hw hl ho hs.to hk
theorem grants_8 (hC : (Cs a b).Ok) {Q : Value → AH → Prop} {r : Tk} (hg : GoodC (Cs a b) r.1) (hw : Wanted (Cs a b) r o.line) (hl : Ob G 0 limE) (ho : Ob G 1 rowsE)
    (hs : Hs G h (seg p5 0 o.enc :: cacR G d (Cs a b) 0 r.1 :: cacR G c (Cs a b) 0 r.1 :: L)) (hk : ∀ h, Q (.bool true) h) : A5_8 Q (pt p5 0 0) (pt c 0 0) (pt d 0 0) h := by
  have hb : Bd r.1 := hg.bd (setsP hC).2.2.2
  obtain ⟨s', htake, hg', hmay⟩ := grant_yes (w := o.world) (v := o.v) hw hg (.inr rfl : (4 : Int) = 1 ∨ (4 : Int) = 4)
  have hb' : Bd s' := hg'.bd (setsP hC).2.2.2
  refine b5_8 (r_padd (r_ld (b := p5) (o := 0) hs rfl (r_padd (r_ld (b := p5) (o := 0) hs rfl (r_padd (r_ld (b := p5) (o := 0) hs rfl (r_fill (c := [I o.v, I 0]) rfl (r_fill (c := (⟨8, 0, o.line, o.world, 4, o.v, 0, false, 0⟩ : Note).enc) rfl ?_))))))))
  have hs : Hs G h (cacR G c (Cs a b) 0 r.1 :: seg p5 0 o.enc :: cacR G d (Cs a b) 0 r.1 :: L) := hs.to
  refine take_ok (C := Cs a b) (core := 0) (c := c) (s := r.1) (n := ⟨8, 0, o.line, o.world, 4, o.v, 0, false, 0⟩) hC hb hg.sts hl ho hs fun a1 c1 h hs => ?_
  rw [htake] at hs ⊢
  dsimp only at hs ⊢
  refine r_ext rfl (r_ext rfl (r_neI (r_brF (by omega) (r_padd (r_ld (b := p5) (o := 0) hs rfl (r_fill (c := (⟨4, 0, o.line, 0, 0, 0, 0, false, 0⟩ : Note).enc) rfl (r_fill (c := (⟨4, 0, o.line, 0, 0, 0, 0, false, 0⟩ : Note).enc) rfl (r_newS (W := 9) (n := 1) (c := 1) hs rfl rfl rfl ?_))))))))
  intro a2 h hs
  have hs : Hs G h (slc 9 26 (some a2) 1 (([⟨4, 0, o.line, 0, 0, 0, 0, false, 0⟩] : List Note).length, encNs [⟨4, 0, o.line, 0, 0, 0, 0, false, 0⟩]) :: slc 9 26 a1 c1 (([⟨4, 0, o.line, 0, 0, 0, 0, false, 0⟩] : List Note).length, encNs [⟨4, 0, o.line, 0, 0, 0, 0, false, 0⟩]) :: cacR G c (Cs a b) 0 s' :: seg p5 0 o.enc :: cacR G d (Cs a b) 0 r.1 :: L) := hs
  refine notes_ok (a := a1) (c := c1) (ns := [⟨4, 0, o.line, 0, 0, 0, 0, false, 0⟩]) (a2 := some a2) (c2 := 1) (ms := [⟨4, 0, o.line, 0, 0, 0, 0, false, 0⟩]) (by simp) hs fun bb h hbb hs => ?_
  rw [hbb rfl]
  refine r_not (r_brf (r_padd (r_ld (b := p5) (o := 0) hs rfl (r_padd (r_ld (b := p5) (o := 0) hs rfl (r_padd (r_ld (b := p5) (o := 0) hs rfl ?_)))))))
  refine may_ok (C := Cs a b) (core := 0) (c := c) (s := s') (l := o.line) (ow := o.world) (w := o.write) hC hb' ho hs fun h hs => ?_
  rw [hmay o.write (fun _ => rfl)]
  refine r_not (r_brf (r_padd (r_ld (b := p5) (o := 0) hs rfl (r_padd (r_ld (b := p5) (o := 0) hs rfl ?_)))))
  refine may_ok (C := Cs a b) (core := 0) (c := c) (s := s') (l := o.line) (ow := o.world) (w := false) hC hb' ho hs fun h hs => ?_
  rw [hmay false (fun e => by cases e)]
  refine r_not (r_brf ?_)
  exact grants_10 (r := r) (L := cacR G c (Cs a b) 0 s' :: L) hC hg rfl hw hl ho hs.to hk
theorem grants_5 (hC : (Cs a b).Ok) {s : Cac} (hg : GoodC (Cs a b) s) {Q : Value → AH → Prop} (hl : Ob G 0 limE) (ho : Ob G 1 rowsE)
    (hs : Hs G h (seg p5 0 o.enc :: cacR G c (Cs a b) 0 s :: L)) (hk : ∀ h, Q (.bool true) h) : A5_5 Q (pt p5 0 0) (pt c 0 0) h := by
  have hb : Bd s := hg.bd (setsP hC).2.2.2
  refine b5_5 (r_padd (r_ld (b := p5) (o := 0) hs rfl (r_padd (r_ld (b := p5) (o := 0) hs rfl (r_padd (r_ld (b := p5) (o := 0) hs rfl ?_))))))
  refine want_ok (C := Cs a b) (core := 0) (c := c) (s := s) (l := o.line) (w := o.world) (wr := o.write) hC hb hl ho hs fun a1 c1 h hs => r_ext rfl (r_ext rfl (r_neI (r_br (fun h1 => ?_) (fun h1 => ?_))))
  · rw [want_no h1]
    exact r_lenS (r_eqI (r_brT rfl (awake_ok (hk _))))
  · have h1 : (want (Cs a b) 0 s o.line o.world o.write).2.2 = 0 := by simpa using h1
    have hw := want_yes hC hg h1
    have hg' := good_want (C := Cs a b) (core := 0) (l := o.line) (w := o.world) (wr := o.write) hg
    generalize want (Cs a b) 0 s o.line o.world o.write = r at hs hw hg' h1
    have hlen := hw.len
    have hs : Hs G h (cacR G c (Cs a b) 0 r.1 :: seg p5 0 o.enc :: L) := hs.to
    refine b5_6 (twin_ok (C := Cs a b) (core := 0) (c := c) (s := r.1) hC (hg'.bd (setsP hC).2.2.2) hs fun d h hs => ?_)
    refine r_ptEq (r_brf (r_lenS (r_ltI (r_brF (by omega) (r_lenS (r_gtI (r_brF (by omega) (b5_7 (r_padd (r_ld (b := p5) (o := 0) hs rfl (r_brb (fun hwr => ?_) (fun hwr => ?_))))))))))))
    · exact grants_8 (r := r) (L := L) hC hg' hw hl ho hs.to hk
    · exact grants_9 (r := r) (L := L) hC (.inl rfl) (fun e => by rw [hwr] at e; cases e) hg' hw hl ho hs.to hk
end Go.Proofs.YtfkjpjkkjlipiaaDoor
end
section
namespace Go.Proofs.YtfkjpjkkjlipiaaDoor
open Go Go.Ab Go.Hm Go.Ct
theorem veq_op {o : COp} : veq (.agg ⟨o.enc⟩) (.agg ⟨o.enc⟩) = true := veq_agg (by simp [COp.enc, Note.enc, veq])
attribute [local irreducible] thn Br ld1 ldN stV alc alcAt alcS alcSAt resv padd nilV extV part1 partN lenS lenT biI biT biB biP biS biF biE biA unV idxS idxA pickV appV copyV clearV slS slA slT mkS blkOf at1 atN atS convI convS minV maxV Cl OkF OkR EndX endV beginV defersOf setLoop closeMarks
variable {G : Bg} {h : AH} {L L' M : List HP} {c : Nat} {a b : Int} {o : COp} {p2 p5 : Nat}
theorem grants_3 (hC : (Cs a b).Ok) {t : Value} {N : Nat} {ops : Nat → COp} {Q : Value → AH → Prop} (hN : N ≤ 80) (hr : ∀ i, i < N → rightO (ops i)) (hold : Old G 15 t N fun i => (ops i).enc) (hl : Ob G 0 limE) (ho : Ob G 1 rowsE) (hk : ∀ h, Q (.bool true) h) :
    ∀ (f i : Nat) (h : AH) (s : Cac), i + f = N → GoodC (Cs a b) s → Hs G h (seg p2 0 [I a, I b] :: seg p5 0 o.enc :: cacR G c (Cs a b) 0 s :: L) → A5_3 Q t (pt p2 0 0) (pt p5 0 0) (pt c 0 0) (I i) h := by
  obtain ⟨ad, cp, rfl, hall⟩ := hold
  intro f
  induction f with
  | zero =>
    intro i h s hi hg hs
    exact b5_3 (r_lenS (r_ltI (r_brF (by omega) (grants_5 (s := s) (L := L) hC hg hl ho hs.tail hk))))
  | succ f ih =>
    intro i h s hi hg hs
    have hiN : i < N := by omega
    obtain ⟨bb, oo, cells, rfl, hob, hc, hle⟩ := hall i hiN
    refine b5_3 (r_lenS (r_ltI (r_brT (by omega) (b5_4 (r_resv hs ?_)))))
    intro rr h0 hs0
    refine r_idx0 (r_ld (b := p2) (o := 0) hs0 rfl (r_idx1 (r_ld (b := p2) (o := 0) hs0 rfl (refNew_ok hs0 fun q h hs => ?_))))
    refine r_idxN hiN (r_ldNo hs hob (o := oo + i * 15) (j := 0) (l := (ops i).enc) hc rfl (by omega) ?_)
    refine does_ok (C := Cs a b) (c := c) (s := s) (q := q) (sets := a) (ways := b) (o := ops i) hC hg hl ho hs fun bl h hs => ?_
    refine r_fl veq_P (r_fl veq_S (r_fl veq_I (r_fl (r_idxN hiN veq_P) (r_fl (r_ldNo hs0 hob (o := oo + i * 15) (j := 0) (l := (ops i).enc) hc rfl (by omega) veq_op) (r_addI (by omega) ?_)))))
    exact ih (i + 1) h (doesV (Cs a b) s (ops i)) (by omega) (good_does (hr i hiN) hg) hs.to
theorem grants_ok {t : Value} {N : Nat} {ops : Nat → COp} {Q : Value → AH → Prop} (hN : N ≤ 9223372036854775807) (hold : Old G 15 t N fun i => (ops i).enc) (hl : Ob G 0 limE) (ho : Ob G 1 rowsE) (hs : Hs G h L) (hk : ∀ h, Q (.bool true) h) :
    Cl Pr K 5 [.agg ⟨[I a, I b]⟩, t, .agg ⟨o.enc⟩] h Q := by
  refine c5 (b5_0 (r_bx hs ?_))
  intro p2 h hs
  refine r_bx hs ?_
  intro p5 h hs
  refine right_ok hN hold hs fun bl hbl => r_not (r_brn (r_brb (fun h1 => ?_) (fun _ => awake_ok (hk _))))
  obtain ⟨hN80, hr⟩ := hbl h1
  have hs : Hs G h (seg p2 0 [I a, I b] :: seg p5 0 o.enc :: L) := hs.to
  refine r_idx0 (r_ld (b := p2) (o := 0) hs rfl (r_ltI (r_br (fun _ => awake_ok (hk _)) (fun ha1 => ?_))))
  refine r_idx0 (r_ld (b := p2) (o := 0) hs rfl (r_gtI (r_br (fun _ => awake_ok (hk _)) (fun ha2 => ?_))))
  refine r_idx1 (r_ld (b := p2) (o := 0) hs rfl (r_ltI (r_br (fun _ => awake_ok (hk _)) (fun hb1 => ?_))))
  refine r_idx1 (r_ld (b := p2) (o := 0) hs rfl (r_gtI (r_br (fun _ => awake_ok (hk _)) (fun hb2 => ?_))))
  have hC : (Cs a b).Ok := Cs_ok (by omega) (by omega)
  refine b5_1 (r_idx0 (r_ld (b := p2) (o := 0) hs rfl (r_idx1 (r_ld (b := p2) (o := 0) hs rfl (small_ok hs fun h hs => ?_)))))
  refine cacheNew2_ok (C := Cs a b) (core := 0) hC ⟨by omega, by show (0 : Int) < 3; omega⟩ hl hs fun c h hs => ?_
  refine r_ext rfl (r_ext rfl (r_ptEq (r_brf (r_neI (r_brF (by omega) (b5_2 ?_))))))
  exact grants_3 (L := L) (o := o) hC hN80 hr hold hl ho hk N 0 h Cac.new (by omega) good_new hs.to
end Go.Proofs.YtfkjpjkkjlipiaaDoor
end
